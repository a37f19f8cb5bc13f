/-
  The reference's side: types of configurations, which models are right: walked.
-/
import Derived.Test.YtdfdemnbaiieaaaGreatEd
namespace Go.Proofs.YtdfdemnbaiieaaaGreat
open Go.Dv Go.Nv
set_option maxRecDepth 20000
noncomputable abbrev fTyO : Func := Tryz.f48
noncomputable def cTyO : Code := fTyO.body.getD .skip
abbrev ownU (l : List Typ) (n : Nat) : St := ⟨[some [di 0, di 0, .v .nils, .v .nils], some [di 3, di 0, .v (.list []), .acc 1 (l.map eT)], some [di 2, di n, .v (.list []), .v (.list [])]], [(1, 4, l.map eT)]⟩
theorem typo_loop1 (m : Mod) (hm : m.ok) (hk : m.kind = 1) (n : Nat) : ∀ (k : Nat) (xs : List Typ), m.places.length - k = n → k ≤ m.places.length → xs.length ≤ k + 1 →
    Rn PP fTyO 0 (dT (.prod (xs ++ List.replicate n (.nat)))) σ0 ([.lp (sub cTyO [1, 1, 1, 0, 1, 0, 1, 1, 1, 1, 1, 0, 0]), .blk 1, .blk 0, .code (sub cTyO [1, 1, 1, 1])] ++ []) (mkE 96 [(1, .v (.ref (vMod m))), (2, .ptr 0 0), (3, .ptr 1 0), (4, .ptr 2 0), (8, di k)]) (ownU xs m.letters.length) := by
  have hsz := hm.sz
  induction n with
  | zero =>
    intro k xs hn hk0 hxs
    refine loop_vc mixed 96 [1] (.f .r) ?_
    refine via (by kernel_rfl : (decide ((↑k : Int) < (↑(List.length (List.map V.str m.places)) : Int)) = false ∧ D.v (V.agg [vi 3, vi 0, V.list [], V.list (List.map eT xs)]) = dT (Typ.prod (xs ++ List.replicate 0 Typ.nat))) = _) ?_
    refine ⟨by rw [List.length_map]; exact decide_eq_false (by omega), ?_⟩
    rw [List.replicate_zero, List.append_nil]; rfl
  | succ n ih =>
    intro k xs hn hk0 hxs
    refine loop_vc mixed 96 [1] (.t <| .f <| .f <| .ls [ke 1, ke 2, ke 3, ke 4, ch 8 (di (k + 1 : Nat))] (ownU (xs ++ [.nat]) m.letters.length)) ?_
    refine via (by kernel_rfl : (decide ((↑k : Int) < (↑(List.length (List.map V.str m.places)) : Int)) = true ∧ (m.kind == 2) = false ∧ (m.kind == 3) = false ∧ List.map eT xs = List.map eT xs ∧ LenOK (List.length (List.map eT xs) + List.length (V.agg (V.int IntKind.i64 1 :: V.int IntKind.i64 0 :: V.list nV :: V.list nV :: nV) :: nV)) 64 ∧ di (IntKind.wrap IntKind.i64 ((↑k : Int) + 1)) = di (↑(k + 1) : Int) ∧ [some [di 0, di 0, D.v V.nils, D.v V.nils], some [di 3, di 0, D.v (V.list nV), D.acc 1 (List.map eT xs ++ V.agg (vi 1 :: vi 0 :: V.list nV :: V.list nV :: nV) :: nV)], some [di 2, di (↑(List.length m.letters) : Int), D.v (V.list nV), D.v (V.list nV)]] = [some [di 0, di 0, D.v V.nils, D.v V.nils], some [di 3, di 0, D.v (V.list nV), D.acc 1 (List.map eT (xs ++ [Typ.nat]))], some [di 2, di (↑(List.length m.letters) : Int), D.v (V.list nV), D.v (V.list nV)]] ∧ [(1, 4, List.map eT xs ++ V.agg (vi 1 :: vi 0 :: V.list nV :: V.list nV :: nV) :: nV)] = [(1, 4, List.map eT (xs ++ [Typ.nat]))] ∧ Nv.It (RunC (CN 0) PP (fun env σ1 => ResOK PP fTyO env σ1 (dT (Typ.prod (xs ++ List.replicate (n + 1) Typ.nat))) σ0) [KI.lp (sub cTyO [1, 1, 1, 0, 1, 0, 1, 1, 1, 1, 1, 0, 0]), KI.blk 1, KI.blk 0, KI.code (sub cTyO [1, 1, 1, 1])] (mkE 96 [(1, D.v (V.ref (vMod m))), (2, D.ptr 0 0), (3, D.ptr 1 0), (4, D.ptr 2 0), (8, di (↑(k + 1) : Int))]) (ownU (xs ++ [Typ.nat]) (List.length m.letters)))) = _) ?_
    have h := ih (k + 1) (xs ++ [.nat]) (by omega) (by omega) (by simp only [List.length_append, List.length_cons, List.length_nil]; omega)
    rw [List.append_assoc] at h
    refine ⟨by rw [List.length_map]; exact decide_eq_true (by omega), by rw [hk]; rfl, by rw [hk]; rfl, rfl, ⟨?_, ?_⟩, wrap_succ (by omega), ?_, ?_, ⟨h⟩⟩
    · simp only [List.length_map, List.length_cons, List.length_nil]; omega
    · simp only [List.length_map, List.length_cons, List.length_nil]; omega
    · rw [← accT_snoc]; rfl
    · rw [← accT_snoc]; rfl
theorem typo_loop2 (m : Mod) (hm : m.ok) (hk : m.kind = 2) (n : Nat) : ∀ (k : Nat) (xs : List Typ), m.places.length - k = n → k ≤ m.places.length → xs.length ≤ k + 1 →
    Rn PP fTyO 0 (dT (.prod (xs ++ List.replicate n (.word (.lab m.letters.length))))) σ0 ([.lp (sub cTyO [1, 1, 1, 0, 1, 0, 1, 1, 1, 1, 1, 0, 0]), .blk 1, .blk 0, .code (sub cTyO [1, 1, 1, 1])] ++ []) (mkE 96 [(1, .v (.ref (vMod m))), (2, .ptr 0 0), (3, .ptr 1 0), (4, .ptr 2 0), (8, di k)]) (ownU xs m.letters.length) := by
  have hsz := hm.sz
  induction n with
  | zero =>
    intro k xs hn hk0 hxs
    refine loop_vc mixed 96 [1] (.f .r) ?_
    refine via (by kernel_rfl : (decide ((↑k : Int) < (↑(List.length (List.map V.str m.places)) : Int)) = false ∧ D.v (V.agg [vi 3, vi 0, V.list [], V.list (List.map eT xs)]) = dT (Typ.prod (xs ++ List.replicate 0 (Typ.word (Typ.lab (↑(List.length m.letters) : Int)))))) = _) ?_
    refine ⟨by rw [List.length_map]; exact decide_eq_false (by omega), ?_⟩
    rw [List.replicate_zero, List.append_nil]; rfl
  | succ n ih =>
    intro k xs hn hk0 hxs
    refine loop_vc mixed 96 [1] (.t <| .t <| .f <| .ls [ke 1, ke 2, ke 3, ke 4, ch 8 (di (k + 1 : Nat))] (ownU (xs ++ [.word (.lab m.letters.length)]) m.letters.length)) ?_
    refine via (by kernel_rfl : (decide ((↑k : Int) < (↑(List.length (List.map V.str m.places)) : Int)) = true ∧ (m.kind == 2) = true ∧ (m.kind == 3) = false ∧ List.map eT xs = List.map eT xs ∧ LenOK (List.length (List.map eT xs) + List.length (V.agg (V.int IntKind.i64 4 :: V.int IntKind.i64 0 :: V.list nV :: V.list (V.agg (V.int IntKind.i64 2 :: V.int IntKind.i64 (↑(List.length m.letters) : Int) :: V.list nV :: V.list nV :: nV) :: nV) :: nV) :: nV)) 64 ∧ di (IntKind.wrap IntKind.i64 ((↑k : Int) + 1)) = di (↑(k + 1) : Int) ∧ [some [di 0, di 0, D.v V.nils, D.v V.nils], some [di 3, di 0, D.v (V.list nV), D.acc 1 (List.map eT xs ++ V.agg (vi 4 :: vi 0 :: V.list nV :: V.list (V.agg (vi 2 :: vi (↑(List.length m.letters) : Int) :: V.list nV :: V.list nV :: nV) :: nV) :: nV) :: nV)], some [di 2, di (↑(List.length m.letters) : Int), D.v (V.list nV), D.v (V.list nV)]] = [some [di 0, di 0, D.v V.nils, D.v V.nils], some [di 3, di 0, D.v (V.list nV), D.acc 1 (List.map eT (xs ++ [Typ.word (Typ.lab (↑(List.length m.letters) : Int))]))], some [di 2, di (↑(List.length m.letters) : Int), D.v (V.list nV), D.v (V.list nV)]] ∧ [(1, 4, List.map eT xs ++ V.agg (vi 4 :: vi 0 :: V.list nV :: V.list (V.agg (vi 2 :: vi (↑(List.length m.letters) : Int) :: V.list nV :: V.list nV :: nV) :: nV) :: nV) :: nV)] = [(1, 4, List.map eT (xs ++ [Typ.word (Typ.lab (↑(List.length m.letters) : Int))]))] ∧ Nv.It (RunC (CN 0) PP (fun env σ1 => ResOK PP fTyO env σ1 (dT (Typ.prod (xs ++ List.replicate (n + 1) (Typ.word (Typ.lab (↑(List.length m.letters) : Int)))))) σ0) [KI.lp (sub cTyO [1, 1, 1, 0, 1, 0, 1, 1, 1, 1, 1, 0, 0]), KI.blk 1, KI.blk 0, KI.code (sub cTyO [1, 1, 1, 1])] (mkE 96 [(1, D.v (V.ref (vMod m))), (2, D.ptr 0 0), (3, D.ptr 1 0), (4, D.ptr 2 0), (8, di (↑(k + 1) : Int))]) (ownU (xs ++ [Typ.word (Typ.lab (↑(List.length m.letters) : Int))]) (List.length m.letters)))) = _) ?_
    have h := ih (k + 1) (xs ++ [.word (.lab m.letters.length)]) (by omega) (by omega) (by simp only [List.length_append, List.length_cons, List.length_nil]; omega)
    rw [List.append_assoc] at h
    refine ⟨by rw [List.length_map]; exact decide_eq_true (by omega), by rw [hk]; rfl, by rw [hk]; rfl, rfl, ⟨?_, ?_⟩, wrap_succ (by omega), ?_, ?_, ⟨h⟩⟩
    · simp only [List.length_map, List.length_cons, List.length_nil]; omega
    · simp only [List.length_map, List.length_cons, List.length_nil]; omega
    · rw [← accT_snoc]; rfl
    · rw [← accT_snoc]; rfl
theorem typo_loop3 (m : Mod) (hm : m.ok) (hk : m.kind = 3) (n : Nat) : ∀ (k : Nat) (xs : List Typ), m.places.length - k = n → k ≤ m.places.length → xs.length ≤ k + 1 →
    Rn PP fTyO 0 (dT (.prod (xs ++ List.replicate n (.prio m.letters.length m.ranks)))) σ0 ([.lp (sub cTyO [1, 1, 1, 0, 1, 0, 1, 1, 1, 1, 1, 0, 0]), .blk 1, .blk 0, .code (sub cTyO [1, 1, 1, 1])] ++ []) (mkE 96 [(1, .v (.ref (vMod m))), (2, .ptr 0 0), (3, .ptr 1 0), (4, .ptr 2 0), (8, di k)]) (ownU xs m.letters.length) := by
  have hsz := hm.sz
  induction n with
  | zero =>
    intro k xs hn hk0 hxs
    refine loop_vc mixed 96 [1] (.f .r) ?_
    refine via (by kernel_rfl : (decide ((↑k : Int) < (↑(List.length (List.map V.str m.places)) : Int)) = false ∧ D.v (V.agg [vi 3, vi 0, V.list [], V.list (List.map eT xs)]) = dT (Typ.prod (xs ++ List.replicate 0 (Typ.prio (↑(List.length m.letters) : Int) m.ranks)))) = _) ?_
    refine ⟨by rw [List.length_map]; exact decide_eq_false (by omega), ?_⟩
    rw [List.replicate_zero, List.append_nil]; rfl
  | succ n ih =>
    intro k xs hn hk0 hxs
    refine loop_vc mixed 96 [1] (.t <| .f <| .t <| .c (dIs m.ranks) <| .ls [ke 1, ke 2, ke 3, ke 4, ch 8 (di (k + 1 : Nat))] (ownU (xs ++ [.prio m.letters.length m.ranks]) m.letters.length)) ?_
    refine via (by kernel_rfl : (decide ((↑k : Int) < (↑(List.length (List.map V.str m.places)) : Int)) = true ∧ (m.kind == 2) = false ∧ (m.kind == 3) = true ∧ FSpec PP 85 [D.v (vIs m.ranks)] (St.mk [] []) (dIs m.ranks) (St.mk [] []) ∧ List.map eT xs = List.map eT xs ∧ LenOK (List.length (List.map eT xs) + List.length (V.agg (V.int IntKind.i64 7 :: V.int IntKind.i64 (↑(List.length (List.map V.str m.letters)) : Int) :: vIs m.ranks :: V.list nV :: nV) :: nV)) 64 ∧ di (IntKind.wrap IntKind.i64 ((↑k : Int) + 1)) = di (↑(k + 1) : Int) ∧ [some [di 0, di 0, D.v V.nils, D.v V.nils], some [di 3, di 0, D.v (V.list nV), D.acc 1 (List.map eT xs ++ V.agg (vi 7 :: vi (↑(List.length (List.map V.str m.letters)) : Int) :: vIs m.ranks :: V.list nV :: nV) :: nV)], some [di 2, di (↑(List.length m.letters) : Int), D.v (V.list nV), D.v (V.list nV)]] = [some [di 0, di 0, D.v V.nils, D.v V.nils], some [di 3, di 0, D.v (V.list nV), D.acc 1 (List.map eT (xs ++ [Typ.prio (↑(List.length m.letters) : Int) m.ranks]))], some [di 2, di (↑(List.length m.letters) : Int), D.v (V.list nV), D.v (V.list nV)]] ∧ [(1, 4, List.map eT xs ++ V.agg (vi 7 :: vi (↑(List.length (List.map V.str m.letters)) : Int) :: vIs m.ranks :: V.list nV :: nV) :: nV)] = [(1, 4, List.map eT (xs ++ [Typ.prio (↑(List.length m.letters) : Int) m.ranks]))] ∧ Nv.It (RunC (CN 0) PP (fun env σ1 => ResOK PP fTyO env σ1 (dT (Typ.prod (xs ++ List.replicate (n + 1) (Typ.prio (↑(List.length m.letters) : Int) m.ranks)))) σ0) [KI.lp (sub cTyO [1, 1, 1, 0, 1, 0, 1, 1, 1, 1, 1, 0, 0]), KI.blk 1, KI.blk 0, KI.code (sub cTyO [1, 1, 1, 1])] (mkE 96 [(1, D.v (V.ref (vMod m))), (2, D.ptr 0 0), (3, D.ptr 1 0), (4, D.ptr 2 0), (8, di (↑(k + 1) : Int))]) (ownU (xs ++ [Typ.prio (↑(List.length m.letters) : Int) m.ranks]) (List.length m.letters)))) = _) ?_
    have h := ih (k + 1) (xs ++ [.prio m.letters.length m.ranks]) (by omega) (by omega) (by simp only [List.length_append, List.length_cons, List.length_nil]; omega)
    rw [List.append_assoc] at h
    refine ⟨by rw [List.length_map]; exact decide_eq_true (by omega), by rw [hk]; rfl, by rw [hk]; rfl, cpy01_spec m.ranks (by omega), rfl, ⟨?_, ?_⟩, wrap_succ (by omega), ?_, ?_, ⟨h⟩⟩
    · simp only [List.length_map, List.length_cons, List.length_nil]; omega
    · simp only [List.length_map, List.length_cons, List.length_nil]; omega
    · rw [← accT_snoc]; rw [List.length_map]; rfl
    · rw [← accT_snoc]; rw [List.length_map]; rfl
theorem typo_spec (m : Mod) (hm : m.ok) : FSpec PP 48 [dMod m] σ0 (dT (typM m)) σ0 := by
  have hk := hm.kind
  refine spec_vc mixed fTyO cTyO (by kernel_rfl) (by kernel_rfl) (by kernel_rfl) (by kernel_rfl) 96 (by kernel_rfl) [1] (.a 1 <| .h .g <| .f <| .f <| .ls [ke 1, ke 2, ke 3, ke 4, ch 8 (di (0 : Nat))] (ownU [.lab m.states.length] m.letters.length)) ?_
  refine via (by kernel_rfl : ((m.kind == 4) = false ∧ (m.kind == 5) = false ∧ di 0 = di (↑0 : Int) ∧ [some [di 0, di 0, D.v V.nils, D.v V.nils], some [di 3, di 0, D.v (V.list nV), D.acc 1 (V.agg (vi 2 :: vi (↑(List.length (List.map V.str m.states)) : Int) :: V.list nV :: V.list nV :: nV) :: nV)], some [di 2, di (↑(List.length (List.map V.str m.letters)) : Int), D.v (V.list nV), D.v (V.list nV)]] = [some [di 0, di 0, D.v V.nils, D.v V.nils], some [di 3, di 0, D.v (V.list nV), D.acc 1 (eT (Typ.lab (↑(List.length m.states) : Int)) :: nV)], some [di 2, di (↑(List.length m.letters) : Int), D.v (V.list nV), D.v (V.list nV)]] ∧ [(1, 4, V.agg (vi 2 :: vi (↑(List.length (List.map V.str m.states)) : Int) :: V.list nV :: V.list nV :: nV) :: nV)] = [(1, 4, eT (Typ.lab (↑(List.length m.states) : Int)) :: nV)] ∧ Nv.It (RunC (CN (List.length σ0.H)) PP (fun env σ1 => ResOK PP fTyO env σ1 (dT (typM m)) σ0) [KI.lp (sub cTyO [1, 1, 1, 0, 1, 0, 1, 1, 1, 1, 1, 0, 0]), KI.blk 1, KI.blk 0, KI.code (sub cTyO [1, 1, 1, 1])] (mkE 96 [(1, D.v (V.ref (vMod m))), (2, D.ptr 0 0), (3, D.ptr 1 0), (4, D.ptr 2 0), (8, di (↑0 : Int))]) (ownU [Typ.lab (↑(List.length m.states) : Int)] (List.length m.letters)))) = _) ?_
  refine ⟨by rcases hk with h | h | h <;> rw [h] <;> rfl, by rcases hk with h | h | h <;> rw [h] <;> rfl, rfl, by rw [List.length_map, List.length_map]; rfl, by rw [List.length_map]; rfl, ⟨?_⟩⟩
  rcases hk with h | h | h
  · have := typo_loop1 m hm h _ 0 [.lab m.states.length] rfl (by omega) (by simp)
    rw [Nat.sub_zero] at this
    rw [typM, show eltM m = .nat by simp [eltM, h]]
    exact this
  · have := typo_loop2 m hm h _ 0 [.lab m.states.length] rfl (by omega) (by simp)
    rw [Nat.sub_zero] at this
    rw [typM, show eltM m = .word (.lab m.letters.length) by simp [eltM, h]]
    exact this
  · have := typo_loop3 m hm h _ 0 [.lab m.states.length] rfl (by omega) (by simp)
    rw [Nat.sub_zero] at this
    rw [typM, show eltM m = .prio m.letters.length m.ranks by simp [eltM, h]]
    exact this
/- VALID TYPES -/
noncomputable abbrev fVl06 : Func := Tryz.f136
noncomputable def cVl06 : Code := fVl06.body.getD .skip
theorem vl06_nat (d : Nat) : FSpec PP 136 [dT .nat, di ((d + 1 : Nat) : Int)] σ0 (db true) σ0 := by
  refine spec_vc mixed fVl06 cVl06 (by kernel_rfl) (by kernel_rfl) (by kernel_rfl) (by kernel_rfl) 132 (by kernel_rfl) [2] (.f .r) ?_
  refine via (by kernel_rfl : (((↑(d + 1) : Int) == 0) = false ∧ db ((↑(List.length (List.map eT (Typ.ps Typ.nat))) : Int) == 0) = db true) = _) ?_
  have hz : (((d + 1 : Nat) : Int) == 0) = false := beq_eq_false_iff_ne.2 (by omega)
  exact ⟨hz, rfl⟩
theorem vl06_lab (d : Nat) (n : Int) (h1 : 1 ≤ n) (h2 : n ≤ 16) : FSpec PP 136 [dT (.lab n), di ((d + 1 : Nat) : Int)] σ0 (db true) σ0 := by
  refine spec_vc mixed fVl06 cVl06 (by kernel_rfl) (by kernel_rfl) (by kernel_rfl) (by kernel_rfl) 132 (by kernel_rfl) [2] (.f <| .k <| .k <| .k <| .k <| .k <| .t <| .t .r) ?_
  refine via (by kernel_rfl : (((↑(d + 1) : Int) == 0) = false ∧ decide (Typ.sz (Typ.lab n) ≥ 1) = true ∧ decide (Typ.sz (Typ.lab n) ≤ 16) = true ∧ db ((↑(List.length (List.map eT (Typ.ps (Typ.lab n)))) : Int) == 0) = db true) = _) ?_
  have hz : (((d + 1 : Nat) : Int) == 0) = false := beq_eq_false_iff_ne.2 (by omega)
  exact ⟨hz, decide_eq_true h1, decide_eq_true h2, rfl⟩
theorem vl06_prio (d : Nat) (n : Int) (r : List Int) (h1 : n = r.length) (h2 : rankB r = true) : FSpec PP 136 [dT (.prio n r), di ((d + 1 : Nat) : Int)] σ0 (db true) σ0 := by
  refine spec_vc mixed fVl06 cVl06 (by kernel_rfl) (by kernel_rfl) (by kernel_rfl) (by kernel_rfl) 132 (by kernel_rfl) [2] (.f <| .t <| .k <| .k <| .k <| .k <| .k <| .t <| .t <| .k <| .t <| .c (db true) .r) ?_
  refine via (by kernel_rfl : (((↑(d + 1) : Int) == 0) = false ∧ decide ((↑(List.length (List.map vi (Typ.rk (Typ.prio n r)))) : Int) > 0) = true ∧ decide (Typ.sz (Typ.prio n r) ≥ 1) = true ∧ decide (Typ.sz (Typ.prio n r) ≤ 6) = true ∧ ((↑(List.length (List.map vi (Typ.rk (Typ.prio n r)))) : Int) == Typ.sz (Typ.prio n r)) = true ∧ FSpec PP 187 [D.v (vIs (Typ.rk (Typ.prio n r)))] (St.mk [] []) (db true) (St.mk [] []) ∧ db true = db true) = _) ?_
  have hz : (((d + 1 : Nat) : Int) == 0) = false := beq_eq_false_iff_ne.2 (by omega)
  have h3 := h2
  simp only [rankB, Bool.and_eq_true, decide_eq_true_eq] at h3
  refine ⟨hz, decide_eq_true ?_, decide_eq_true ?_, decide_eq_true ?_, ?_, rks05_spec r h2, rfl⟩
  · simp only [Typ.rk, List.length_map]; omega
  · simp only [Typ.sz]; omega
  · simp only [Typ.sz]; omega
  · simp only [Typ.sz, Typ.rk, List.length_map, h1, beq_self_eq_true]
theorem vl06_word (d : Nat) (t : Typ) (hd : d ≤ 100) (h : FSpec PP 136 [dT t, di d] σ0 (db true) σ0) : FSpec PP 136 [dT (.word t), di ((d + 1 : Nat) : Int)] σ0 (db true) σ0 := by
  rw [dT, vT_word]
  refine spec_vc mixed fVl06 cVl06 (by kernel_rfl) (by kernel_rfl) (by kernel_rfl) (by kernel_rfl) 132 (by kernel_rfl) [2] (.f <| .x (vT t) <| .c (db true) .r) ?_
  refine via (by kernel_rfl : (((↑(d + 1) : Int) == 0) = false ∧ iz 0 ≤ 0 ∧ some (vT t) = some (vT t) ∧ FSpec PP 136 [D.v (vT t), di (IntKind.wrap IntKind.i64 ((↑(d + 1) : Int) - 1))] (St.mk [] []) (db true) (St.mk [] []) ∧ db true = db true) = _) ?_
  have hz : (((d + 1 : Nat) : Int) == 0) = false := beq_eq_false_iff_ne.2 (by omega)
  rw [show IntKind.i64.wrap (((d + 1 : Nat) : Int) - 1) = d by rw [wrap_id (by omega) (by omega)]; omega]
  exact ⟨hz, by decide, rfl, h, rfl⟩
theorem vl06_loop (d : Nat) (l : List Typ) (hd : d ≤ 100) (hl : l.length ≤ 8) (h : ∀ t ∈ l, FSpec PP 136 [dT t, di d] σ0 (db true) σ0) (n : Nat) : ∀ k : Nat, l.length - k = n →
    Rn PP fVl06 0 (db true) σ0 ([.lp (sub cVl06 [1, 1, 0, 1, 0, 1, 1, 1, 1, 1, 1, 1, 1, 1, 0, 1, 0, 1, 0, 0]), .blk 1, .code (sub cVl06 [1, 1, 0, 1, 0, 1, 1, 1, 1, 1, 1, 1, 1, 1, 0, 1, 1]), .blk 0, .code (sub cVl06 [1, 1, 1])] ++ []) (mkE 132 [(1, di ((d + 1 : Nat) : Int)), (2, .v (.ref (vT (.prod l)))), (5, di k)]) σ0 := by
  induction n using Nat.strongRecOn with
  | _ n ih =>
  intro k hn
  refine loop_vc mixed 132 [2] (.b (.e fun t : Typ => .x (vT t) <| .c (db true) <| .l [ke 1, ke 2, ch 5 (di (k + 1 : Nat))]) .r) ?_
  refine via (by kernel_rfl : ((decide ((↑k : Int) < (↑(List.length (List.map eT (Typ.ps (Typ.prod l)))) : Int)) = true → ∃ a, 0 ≤ (↑k : Int) ∧ (List.map eT (Typ.ps (Typ.prod l)))[Int.toNat (↑k : Int)]? = some (vT a) ∧ FSpec PP 136 [D.v (vT a), di (IntKind.wrap IntKind.i64 ((↑(d + 1) : Int) - 1))] (St.mk [] []) (db true) (St.mk [] []) ∧ di (IntKind.wrap IntKind.i64 ((↑k : Int) + 1)) = di (↑(k + 1) : Int) ∧ Nv.It (RunC (CN 0) PP (fun env σ1 => ResOK PP fVl06 env σ1 (db true) σ0) [KI.lp (sub cVl06 [1, 1, 0, 1, 0, 1, 1, 1, 1, 1, 1, 1, 1, 1, 0, 1, 0, 1, 0, 0]), KI.blk 1, KI.code (sub cVl06 [1, 1, 0, 1, 0, 1, 1, 1, 1, 1, 1, 1, 1, 1, 0, 1, 1]), KI.blk 0, KI.code (sub cVl06 [1, 1, 1])] (mkE 132 [(1, di (↑(d + 1) : Int)), (2, D.v (V.ref (vT (Typ.prod l)))), (5, di (↑(k + 1) : Int))]) σ0)) ∧ (decide ((↑k : Int) < (↑(List.length (List.map eT (Typ.ps (Typ.prod l)))) : Int)) = false → db true = db true)) = _) ?_
  rw [show IntKind.i64.wrap (((d + 1 : Nat) : Int) - 1) = d by rw [wrap_id (by omega) (by omega)]; omega]
  refine ⟨fun h1 => ?_, fun h1 => rfl⟩
  have hk : k < l.length := by simpa [Typ.ps] using h1
  have hx : l[k]? = some l[k] := List.getElem?_eq_getElem hk
  generalize l[k] = t at hx
  exact ⟨t, by omega, idx_typ hx, h t (List.mem_of_getElem? hx), wrap_succ (by omega), ⟨ih (l.length - (k + 1)) (by omega) (k + 1) rfl⟩⟩
theorem vl06_prod (d : Nat) (l : List Typ) (hd : d ≤ 100) (h1 : ((l.length : Int) == 0) = false) (h2 : decide ((l.length : Int) > 8) = false) (h : ∀ t ∈ l, FSpec PP 136 [dT t, di d] σ0 (db true) σ0) : FSpec PP 136 [dT (.prod l), di ((d + 1 : Nat) : Int)] σ0 (db true) σ0 := by
  refine spec_vc mixed fVl06 cVl06 (by kernel_rfl) (by kernel_rfl) (by kernel_rfl) (by kernel_rfl) 132 (by kernel_rfl) [2] (.f <| .k <| .k <| .k <| .k <| .k <| .k <| .k <| .k <| .k <| .k <| .f <| .f <| .l [ke 1, ke 2, ch 5 (di (0 : Nat))]) ?_
  refine via (by kernel_rfl : (((↑(d + 1) : Int) == 0) = false ∧ decide ((↑(List.length (List.map eT (Typ.ps (Typ.prod l)))) : Int) < 1) = false ∧ decide ((↑(List.length (List.map eT (Typ.ps (Typ.prod l)))) : Int) > 8) = false ∧ di 0 = di (↑0 : Int) ∧ Nv.It (RunC (CN (List.length σ0.H)) PP (fun env σ1 => ResOK PP fVl06 env σ1 (db true) σ0) [KI.lp (sub cVl06 [1, 1, 0, 1, 0, 1, 1, 1, 1, 1, 1, 1, 1, 1, 0, 1, 0, 1, 0, 0]), KI.blk 1, KI.code (sub cVl06 [1, 1, 0, 1, 0, 1, 1, 1, 1, 1, 1, 1, 1, 1, 0, 1, 1]), KI.blk 0, KI.code (sub cVl06 [1, 1, 1])] (mkE 132 [(1, di (↑(d + 1) : Int)), (2, D.v (V.ref (vT (Typ.prod l)))), (5, di (↑0 : Int))]) σ0)) = _) ?_
  have hz : (((d + 1 : Nat) : Int) == 0) = false := beq_eq_false_iff_ne.2 (by omega)
  have h3 : ¬ ((l.length : Int) > 8) := of_decide_eq_false h2
  have h4 : (l.length : Int) ≠ 0 := by simpa using h1
  refine ⟨hz, decide_eq_false ?_, by simpa [Typ.ps] using h2, rfl, ⟨vl06_loop d l hd (by omega) h _ 0 rfl⟩⟩
  simp only [Typ.ps, List.length_map]; omega
theorem vl06_typM (m : Mod) (hm : m.ok) : FSpec PP 136 [dT (typM m), di 8] σ0 (db true) σ0 := by
  have hg := hm.good
  simp only [typM, goodB, Bool.and_eq_true, Bool.not_eq_true', List.all_eq_true] at hg
  obtain ⟨h1, h2, h3⟩ := hg
  refine vl06_prod 7 _ (by omega) h1 h2 fun t ht => ?_
  have hgt := h3 t ht
  rcases List.mem_cons.1 ht with rfl | ht
  · simp only [goodB, Bool.and_eq_true, decide_eq_true_eq] at hgt
    exact vl06_lab 6 _ hgt.1 hgt.2
  · have e := (List.mem_replicate.1 ht).2
    subst e
    unfold eltM at hgt ⊢
    split
    · exact vl06_nat 6
    · rename_i hk
      rw [if_neg hk] at hgt
      split
      · rename_i hk2
        rw [if_pos hk2] at hgt
        simp only [goodB, Bool.and_eq_true, decide_eq_true_eq] at hgt
        exact vl06_word 6 _ (by omega) (vl06_lab 5 _ hgt.1 hgt.2)
      · rename_i hk2
        rw [if_neg hk2] at hgt
        simp only [goodB, Bool.and_eq_true, beq_iff_eq] at hgt
        exact vl06_prio 6 _ _ hgt.1 hgt.2
noncomputable abbrev fChk06 : Func := Tryz.f82
noncomputable def cChk06 : Code := fChk06.body.getD .skip
theorem chk06_spec (m : Mod) (hm : m.ok) : FSpec PP 82 [dT (typM m)] σ0 (di 0) σ0 := by
  refine spec_vc mixed fChk06 cChk06 (by kernel_rfl) (by kernel_rfl) (by kernel_rfl) (by kernel_rfl) 6 (by kernel_rfl) [1] (.c (db true) .r) ?_
  refine via (by kernel_rfl : (FSpec PP 136 [D.v (vT (typM m)), di 8] (St.mk [] []) (db true) (St.mk [] []) ∧ di 0 = di 0) = _) ?_
  exact ⟨vl06_typM m hm, rfl⟩
/- WHICH VALUES ARE OF A TYPE -/
noncomputable abbrev fOf06 : Func := Tryz.f84
noncomputable def cOf06 : Code := fOf06.body.getD .skip
theorem of06_nat (v : Val) : FSpec PP 84 [dT .nat, dV v] σ0 (db (oneB .nat v)) σ0 := by
  refine spec_vc mixed fOf06 cOf06 (by kernel_rfl) (by kernel_rfl) (by kernel_rfl) (by kernel_rfl) 169 (by kernel_rfl) [2, 3] (.k <| .b (.b .r .r) .r) ?_
  refine via (by kernel_rfl : ((decide (Val.n v ≥ 0) = true → (decide (Val.n v ≤ 1048576) = true → db ((↑(List.length (List.map eV (Val.kids v))) : Int) == 0) = db (oneB Typ.nat v)) ∧ (decide (Val.n v ≤ 1048576) = false → db false = db (oneB Typ.nat v))) ∧ (decide (Val.n v ≥ 0) = false → db false = db (oneB Typ.nat v))) = _) ?_
  refine ⟨fun h1 => ⟨fun h2 => ?_, fun h2 => ?_⟩, fun h1 => ?_⟩ <;> simp_all [oneB] <;> (intros; omega)
theorem of06_lab (n : Int) (v : Val) : FSpec PP 84 [dT (.lab n), dV v] σ0 (db (oneB (.lab n) v)) σ0 := by
  refine spec_vc mixed fOf06 cOf06 (by kernel_rfl) (by kernel_rfl) (by kernel_rfl) (by kernel_rfl) 169 (by kernel_rfl) [2, 3] (.k <| .k <| .b (.b .r .r) .r) ?_
  refine via (by kernel_rfl : ((decide (Val.n v ≥ 0) = true → (decide (Val.n v < Typ.sz (Typ.lab n)) = true → db ((↑(List.length (List.map eV (Val.kids v))) : Int) == 0) = db (oneB (Typ.lab n) v)) ∧ (decide (Val.n v < Typ.sz (Typ.lab n)) = false → db false = db (oneB (Typ.lab n) v))) ∧ (decide (Val.n v ≥ 0) = false → db false = db (oneB (Typ.lab n) v))) = _) ?_
  refine ⟨fun h1 => ⟨fun h2 => ?_, fun h2 => ?_⟩, fun h1 => ?_⟩ <;> (try simp only [Typ.sz, List.length_map] at *) <;> simp only [oneB, labB, h1, Bool.true_and, Bool.false_and] <;> (by_cases hh : v.n < n <;> simp_all) <;> (intros; omega)
theorem of06_wloop (t : Typ) (v : Val) (hv : v.kids.length ≤ 12) (h : ∀ k ∈ v.kids, FSpec PP 84 [dT t, dV k] σ0 (db (oneB t k)) σ0) (n : Nat) : ∀ k : Nat, v.kids.length - k = n →
    Rn PP fOf06 0 (db ((v.kids.drop k).all fun x => oneB t x)) σ0 ([.lp (sub cOf06 [1, 1, 1, 0, 1, 0, 0]), .blk 3, .code (sub cOf06 [1, 1, 1, 1])] ++ []) (mkE 169 [(2, .v (.ref (vTy 4 0 [] [vT t]))), (3, .v (.ref (vVal v))), (6, di k)]) σ0 := by
  induction n using Nat.strongRecOn with
  | _ n ih =>
  intro k hn
  refine loop_vc mixed 169 [2, 3] (.b (.e fun x : Val => .x (vT t) <| .x (vVal x) <| .c (db (oneB t x)) <| .b .r (.l [ke 2, ke 3, ch 6 (di (k + 1 : Nat))])) .r) ?_
  refine via (by kernel_rfl : ((decide ((↑k : Int) < (↑(List.length (List.map eV (Val.kids v))) : Int)) = true → ∃ a, iz 0 ≤ 0 ∧ some (vT t) = some (vT t) ∧ 0 ≤ (↑k : Int) ∧ (List.map eV (Val.kids v))[Int.toNat (↑k : Int)]? = some (vVal a) ∧ FSpec PP 84 [D.v (vT t), D.v (vVal a)] (St.mk [] []) (db (oneB t a)) (St.mk [] []) ∧ ((!oneB t a) = true → db false = db (List.all (List.drop k (Val.kids v)) fun x => oneB t x)) ∧ ((!oneB t a) = false → di (IntKind.wrap IntKind.i64 ((↑k : Int) + 1)) = di (↑(k + 1) : Int) ∧ Nv.It (RunC (CN 0) PP (fun env σ1 => ResOK PP fOf06 env σ1 (db (List.all (List.drop k (Val.kids v)) fun x => oneB t x)) σ0) [KI.lp (sub cOf06 [1, 1, 1, 0, 1, 0, 0]), KI.blk 3, KI.code (sub cOf06 [1, 1, 1, 1])] (mkE 169 [(2, D.v (V.ref (vTy 4 0 [] [vT t]))), (3, D.v (V.ref (vVal v))), (6, di (↑(k + 1) : Int))]) (St.mk [] [])))) ∧ (decide ((↑k : Int) < (↑(List.length (List.map eV (Val.kids v))) : Int)) = false → db true = db (List.all (List.drop k (Val.kids v)) fun x => oneB t x))) = _) ?_
  refine ⟨fun h1 => ?_, fun h1 => ?_⟩
  · have hk : k < v.kids.length := by simpa using h1
    have hx : v.kids[k]? = some v.kids[k] := List.getElem?_eq_getElem hk
    rw [List.drop_eq_getElem_cons hk]
    generalize v.kids[k] = x at hx ⊢
    refine ⟨x, by decide, rfl, by omega, idx_val hx, h x (List.mem_of_getElem? hx), fun h2 => ?_, fun h2 => ⟨wrap_succ (by omega), ⟨?_⟩⟩⟩
    · have h2 : oneB t x = false := by simpa using h2
      rw [List.all_cons, h2, Bool.false_and]
    · have h2 : oneB t x = true := by simpa using h2
      rw [List.all_cons, h2, Bool.true_and]
      exact ih (v.kids.length - (k + 1)) (by omega) (k + 1) rfl
  · have hk : v.kids.length ≤ k := by simpa using h1
    rw [List.drop_of_length_le hk]; rfl
theorem of06_word (t : Typ) (v : Val) (h : ∀ k ∈ v.kids, FSpec PP 84 [dT t, dV k] σ0 (db (oneB t k)) σ0) : FSpec PP 84 [dT (.word t), dV v] σ0 (db (oneB (.word t) v)) σ0 := by
  rw [dT, vT_word]
  refine spec_vc mixed fOf06 cOf06 (by kernel_rfl) (by kernel_rfl) (by kernel_rfl) (by kernel_rfl) 169 (by kernel_rfl) [2, 3] (.k <| .k <| .k <| .k <| .b .r (.b .r (.l [ke 2, ke 3, ch 6 (di (0 : Nat))]))) ?_
  refine via (by kernel_rfl : (((Val.n v != 0) = true → db false = db (oneB (Typ.word t) v)) ∧ ((Val.n v != 0) = false → (decide ((↑(List.length (List.map eV (Val.kids v))) : Int) > 12) = true → db false = db (oneB (Typ.word t) v)) ∧ (decide ((↑(List.length (List.map eV (Val.kids v))) : Int) > 12) = false → di 0 = di (↑0 : Int) ∧ Nv.It (RunC (CN (List.length σ0.H)) PP (fun env σ1 => ResOK PP fOf06 env σ1 (db (oneB (Typ.word t) v)) σ0) [KI.lp (sub cOf06 [1, 1, 1, 0, 1, 0, 0]), KI.blk 3, KI.code (sub cOf06 [1, 1, 1, 1])] (mkE 169 [(2, D.v (V.ref (vTy 4 0 [] [vT t]))), (3, D.v (V.ref (vVal v))), (6, di (↑0 : Int))]) σ0)))) = _) ?_
  refine ⟨fun h1 => ?_, fun h1 => ⟨fun h2 => ?_, fun h2 => ⟨rfl, ⟨?_⟩⟩⟩⟩
  · have h1 : (v.n == 0) = false := by simpa using h1
    simp only [oneB, h1, Bool.false_and]
  · have h2 : ¬ ((v.kids.length : Int) ≤ 12) := by simpa using h2
    simp only [oneB, decide_eq_false h2, Bool.false_and, Bool.and_false]
  · have h1 : (v.n == 0) = true := by simpa using h1
    have h2 : (v.kids.length : Int) ≤ 12 := by simpa using h2
    simp only [oneB, h1, decide_eq_true h2, Bool.true_and]
    exact of06_wloop t v (by omega) h _ 0 rfl
theorem of06_rloop (sz : Int) (r : List Int) (v : Val) (hv : v.kids.length ≤ 12) (n : Nat) : ∀ k : Nat, v.kids.length - k = n →
    Rn PP fOf06 0 (db ((v.kids.drop k).all fun x => labB sz x)) σ0 ([.lp (sub cOf06 [1, 1, 1, 0, 1, 0, 0]), .blk 3, .code (sub cOf06 [1, 1, 1, 1])] ++ []) (mkE 169 [(2, .v (.ref (vT (.prio sz r)))), (3, .v (.ref (vVal v))), (6, di k)]) σ0 := by
  induction n using Nat.strongRecOn with
  | _ n ih =>
  intro k hn
  refine loop_vc mixed 169 [2, 3] (.b (.e fun x : Val => .k <| .h (.xs (vVal x)) <| .b .r (.h (.xs (vVal x)) <| .b .r (.h (.xs (vVal x)) <| .b .r (.l [ke 2, ke 3, ch 6 (di (k + 1 : Nat))])))) .r) ?_
  refine via (by kernel_rfl : ((decide ((↑k : Int) < (↑(List.length (List.map eV (Val.kids v))) : Int)) = true → ∃ a, 2 = 2 ∧ 0 ≤ (↑k : Int) ∧ (List.map eV (Val.kids v))[Int.toNat (↑k : Int)]? = some (vVal a) ∧ (decide (Val.n a < 0) = true → db false = db (List.all (List.drop k (Val.kids v)) fun x => labB sz x)) ∧ (decide (Val.n a < 0) = false → 2 = 2 ∧ 0 ≤ (↑k : Int) ∧ (List.map eV (Val.kids v))[Int.toNat (↑k : Int)]? = some (vVal a) ∧ (decide (Val.n a ≥ Typ.sz (Typ.prio sz r)) = true → db false = db (List.all (List.drop k (Val.kids v)) fun x => labB sz x)) ∧ (decide (Val.n a ≥ Typ.sz (Typ.prio sz r)) = false → 2 = 2 ∧ 0 ≤ (↑k : Int) ∧ (List.map eV (Val.kids v))[Int.toNat (↑k : Int)]? = some (vVal a) ∧ (decide ((↑(List.length (List.map eV (Val.kids a))) : Int) > 0) = true → db false = db (List.all (List.drop k (Val.kids v)) fun x => labB sz x)) ∧ (decide ((↑(List.length (List.map eV (Val.kids a))) : Int) > 0) = false → di (IntKind.wrap IntKind.i64 ((↑k : Int) + 1)) = di (↑(k + 1) : Int) ∧ Nv.It (RunC (CN 0) PP (fun env σ1 => ResOK PP fOf06 env σ1 (db (List.all (List.drop k (Val.kids v)) fun x => labB sz x)) σ0) [KI.lp (sub cOf06 [1, 1, 1, 0, 1, 0, 0]), KI.blk 3, KI.code (sub cOf06 [1, 1, 1, 1])] (mkE 169 [(2, D.v (V.ref (vT (Typ.prio sz r)))), (3, D.v (V.ref (vVal v))), (6, di (↑(k + 1) : Int))]) (St.mk [] [])))))) ∧ (decide ((↑k : Int) < (↑(List.length (List.map eV (Val.kids v))) : Int)) = false → db true = db (List.all (List.drop k (Val.kids v)) fun x => labB sz x))) = _) ?_
  refine ⟨fun h1 => ?_, fun h1 => ?_⟩
  · have hk : k < v.kids.length := by simpa using h1
    have hx : v.kids[k]? = some v.kids[k] := List.getElem?_eq_getElem hk
    rw [List.drop_eq_getElem_cons hk]
    generalize v.kids[k] = x at hx ⊢
    refine ⟨x, rfl, by omega, idx_val hx, fun h2 => ?_, fun h2 => ⟨rfl, by omega, idx_val hx, fun h3 => ?_, fun h3 => ⟨rfl, by omega, idx_val hx, fun h4 => ?_, fun h4 => ⟨wrap_succ (by omega), ⟨?_⟩⟩⟩⟩⟩
    · have h2 : ¬ (x.n ≥ 0) := by have := of_decide_eq_true h2; omega
      rw [List.all_cons, labB, decide_eq_false h2, Bool.false_and, Bool.false_and]
    · have h3 : ¬ (x.n < sz) := by have := of_decide_eq_true h3; simp only [Typ.sz] at this; omega
      rw [List.all_cons, labB, decide_eq_false h3, Bool.false_and, Bool.and_false, Bool.false_and]
    · have h4 : ((x.kids.length : Int) == 0) = false := by have := of_decide_eq_true h4; rw [List.length_map] at this; exact beq_eq_false_iff_ne.2 (by omega)
      rw [List.all_cons, labB, h4, Bool.and_false, Bool.and_false, Bool.false_and]
    · have h2 : x.n ≥ 0 := by have := of_decide_eq_false h2; omega
      have h3 : x.n < sz := by have := of_decide_eq_false h3; simp only [Typ.sz] at this; omega
      have h4 : ((x.kids.length : Int) == 0) = true := by have := of_decide_eq_false h4; rw [List.length_map] at this; exact beq_iff_eq.2 (by omega)
      rw [List.all_cons, labB, decide_eq_true h2, decide_eq_true h3, h4, Bool.true_and, Bool.true_and, Bool.true_and]
      exact ih (v.kids.length - (k + 1)) (by omega) (k + 1) rfl
  · have hk : v.kids.length ≤ k := by simpa using h1
    rw [List.drop_of_length_le hk]; rfl
theorem of06_prio (sz : Int) (r : List Int) (v : Val) : FSpec PP 84 [dT (.prio sz r), dV v] σ0 (db (oneB (.prio sz r) v)) σ0 := by
  refine spec_vc mixed fOf06 cOf06 (by kernel_rfl) (by kernel_rfl) (by kernel_rfl) (by kernel_rfl) 169 (by kernel_rfl) [2, 3] (.k <| .k <| .k <| .k <| .b .r (.b .r (.l [ke 2, ke 3, ch 6 (di (0 : Nat))]))) ?_
  refine via (by kernel_rfl : (((Val.n v != 0) = true → db false = db (oneB (Typ.prio sz r) v)) ∧ ((Val.n v != 0) = false → (decide ((↑(List.length (List.map eV (Val.kids v))) : Int) > 12) = true → db false = db (oneB (Typ.prio sz r) v)) ∧ (decide ((↑(List.length (List.map eV (Val.kids v))) : Int) > 12) = false → di 0 = di (↑0 : Int) ∧ Nv.It (RunC (CN (List.length σ0.H)) PP (fun env σ1 => ResOK PP fOf06 env σ1 (db (oneB (Typ.prio sz r) v)) σ0) [KI.lp (sub cOf06 [1, 1, 1, 0, 1, 0, 0]), KI.blk 3, KI.code (sub cOf06 [1, 1, 1, 1])] (mkE 169 [(2, D.v (V.ref (vT (Typ.prio sz r)))), (3, D.v (V.ref (vVal v))), (6, di (↑0 : Int))]) σ0)))) = _) ?_
  refine ⟨fun h1 => ?_, fun h1 => ⟨fun h2 => ?_, fun h2 => ⟨rfl, ⟨?_⟩⟩⟩⟩
  · have h1 : (v.n == 0) = false := by simpa using h1
    simp only [oneB, h1, Bool.false_and]
  · have h2 : ¬ ((v.kids.length : Int) ≤ 12) := by simpa using h2
    simp only [oneB, decide_eq_false h2, Bool.false_and, Bool.and_false]
  · have h1 : (v.n == 0) = true := by simpa using h1
    have h2 : (v.kids.length : Int) ≤ 12 := by simpa using h2
    simp only [oneB, h1, decide_eq_true h2, Bool.true_and]
    exact of06_rloop sz r v (by omega) _ 0 rfl
theorem of06_ploop (l : List Typ) (v : Val) (hl : v.kids.length = l.length) (hv : v.kids.length ≤ 1000000) (h : ∀ t ∈ l, ∀ k ∈ v.kids, FSpec PP 84 [dT t, dV k] σ0 (db (oneB t k)) σ0) (n : Nat) : ∀ k : Nat, l.length - k = n →
    Rn PP fOf06 0 (db (onesB (l.drop k) (v.kids.drop k))) σ0 ([.lp (sub cOf06 [1, 0, 1, 0, 1, 1, 1, 1, 1, 1, 1, 0, 1, 0, 1, 0, 0]), .blk 1, .code (sub cOf06 [1, 0, 1, 0, 1, 1, 1, 1, 1, 1, 1, 0, 1, 1]), .blk 0, .code (sub cOf06 [1, 1])] ++ []) (mkE 169 [(2, .v (.ref (vT (.prod l)))), (3, .v (.ref (vVal v))), (5, di k)]) σ0 := by
  induction n using Nat.strongRecOn with
  | _ n ih =>
  intro k hn
  refine loop_vc mixed 169 [2, 3] (.b (.e fun t : Typ => .x (vT t) <| .e fun x : Val => .x (vVal x) <| .c (db (oneB t x)) <| .b .r (.l [ke 2, ke 3, ch 5 (di (k + 1 : Nat))])) .r) ?_
  refine via (by kernel_rfl : ((decide ((↑k : Int) < (↑(List.length (List.map eV (Val.kids v))) : Int)) = true → ∃ a, 0 ≤ (↑k : Int) ∧ (List.map eT (Typ.ps (Typ.prod l)))[Int.toNat (↑k : Int)]? = some (vT a) ∧ ∃ a_1, 0 ≤ (↑k : Int) ∧ (List.map eV (Val.kids v))[Int.toNat (↑k : Int)]? = some (vVal a_1) ∧ FSpec PP 84 [D.v (vT a), D.v (vVal a_1)] (St.mk [] []) (db (oneB a a_1)) (St.mk [] []) ∧ ((!oneB a a_1) = true → db false = db (onesB (List.drop k l) (List.drop k (Val.kids v)))) ∧ ((!oneB a a_1) = false → di (IntKind.wrap IntKind.i64 ((↑k : Int) + 1)) = di (↑(k + 1) : Int) ∧ Nv.It (RunC (CN 0) PP (fun env σ1 => ResOK PP fOf06 env σ1 (db (onesB (List.drop k l) (List.drop k (Val.kids v)))) σ0) [KI.lp (sub cOf06 [1, 0, 1, 0, 1, 1, 1, 1, 1, 1, 1, 0, 1, 0, 1, 0, 0]), KI.blk 1, KI.code (sub cOf06 [1, 0, 1, 0, 1, 1, 1, 1, 1, 1, 1, 0, 1, 1]), KI.blk 0, KI.code (sub cOf06 [1, 1])] (mkE 169 [(2, D.v (V.ref (vT (Typ.prod l)))), (3, D.v (V.ref (vVal v))), (5, di (↑(k + 1) : Int))]) (St.mk [] [])))) ∧ (decide ((↑k : Int) < (↑(List.length (List.map eV (Val.kids v))) : Int)) = false → db true = db (onesB (List.drop k l) (List.drop k (Val.kids v))))) = _) ?_
  refine ⟨fun h1 => ?_, fun h1 => ?_⟩
  · have hk : k < v.kids.length := by simpa using h1
    have hk2 : k < l.length := by omega
    have hx : v.kids[k]? = some v.kids[k] := List.getElem?_eq_getElem hk
    have hy : l[k]? = some l[k] := List.getElem?_eq_getElem hk2
    rw [List.drop_eq_getElem_cons hk, List.drop_eq_getElem_cons hk2]
    generalize v.kids[k] = x at hx ⊢
    generalize l[k] = t at hy ⊢
    refine ⟨t, by omega, idx_typ hy, x, by omega, idx_val hx, h t (List.mem_of_getElem? hy) x (List.mem_of_getElem? hx), fun h2 => ?_, fun h2 => ⟨wrap_succ (by omega), ⟨?_⟩⟩⟩
    · have h2 : oneB t x = false := by simpa using h2
      simp only [onesB, h2, Bool.false_and]
    · have h2 : oneB t x = true := by simpa using h2
      simp only [onesB, h2, Bool.true_and]
      exact ih (l.length - (k + 1)) (by omega) (k + 1) rfl
  · have hk : v.kids.length ≤ k := by simpa using h1
    rw [List.drop_of_length_le hk, List.drop_of_length_le (by omega)]; simp only [onesB]
theorem of06_prod (l : List Typ) (v : Val) (hv : v.size ≤ 1000000) (h : ∀ t ∈ l, ∀ k ∈ v.kids, FSpec PP 84 [dT t, dV k] σ0 (db (oneB t k)) σ0) : FSpec PP 84 [dT (.prod l), dV v] σ0 (db (oneB (.prod l) v)) σ0 := by
  refine spec_vc mixed fOf06 cOf06 (by kernel_rfl) (by kernel_rfl) (by kernel_rfl) (by kernel_rfl) 169 (by kernel_rfl) [2, 3] (.k <| .k <| .k <| .k <| .b .r (.b .r (.l [ke 2, ke 3, ch 5 (di (0 : Nat))]))) ?_
  refine via (by kernel_rfl : (((Val.n v != 0) = true → db false = db (oneB (Typ.prod l) v)) ∧ ((Val.n v != 0) = false → (((↑(List.length (List.map eV (Val.kids v))) : Int) != (↑(List.length (List.map eT (Typ.ps (Typ.prod l)))) : Int)) = true → db false = db (oneB (Typ.prod l) v)) ∧ (((↑(List.length (List.map eV (Val.kids v))) : Int) != (↑(List.length (List.map eT (Typ.ps (Typ.prod l)))) : Int)) = false → di 0 = di (↑0 : Int) ∧ Nv.It (RunC (CN (List.length σ0.H)) PP (fun env σ1 => ResOK PP fOf06 env σ1 (db (oneB (Typ.prod l) v)) σ0) [KI.lp (sub cOf06 [1, 0, 1, 0, 1, 1, 1, 1, 1, 1, 1, 0, 1, 0, 1, 0, 0]), KI.blk 1, KI.code (sub cOf06 [1, 0, 1, 0, 1, 1, 1, 1, 1, 1, 1, 0, 1, 1]), KI.blk 0, KI.code (sub cOf06 [1, 1])] (mkE 169 [(2, D.v (V.ref (vT (Typ.prod l)))), (3, D.v (V.ref (vVal v))), (5, di (↑0 : Int))]) σ0)))) = _) ?_
  have hlen := Val.length_le v.kids
  have hsz := Val.size_eq v
  refine ⟨fun h1 => ?_, fun h1 => ⟨fun h2 => ?_, fun h2 => ⟨rfl, ⟨?_⟩⟩⟩⟩
  · have h1 : (v.n == 0) = false := by simpa using h1
    simp only [oneB, h1, Bool.false_and]
  · have h2 : ((v.kids.length : Int) == l.length) = false := by simpa [Typ.ps] using h2
    simp only [oneB, h2, Bool.false_and, Bool.and_false]
  · have h1 : (v.n == 0) = true := by simpa using h1
    have h2 : (v.kids.length : Int) = l.length := by simpa [Typ.ps] using h2
    have h3 : ((v.kids.length : Int) == l.length) = true := by simpa using h2
    simp only [oneB, h1, h3, Bool.true_and]
    exact of06_ploop l v (by omega) (by omega) h _ 0 rfl
theorem of06_elt (m : Mod) (v : Val) : FSpec PP 84 [dT (eltM m), dV v] σ0 (db (oneB (eltM m) v)) σ0 := by
  unfold eltM
  split
  · exact of06_nat v
  · split
    · exact of06_word _ v fun k _ => of06_lab _ k
    · exact of06_prio _ _ v
theorem of06_typM (m : Mod) (v : Val) (hv : v.size ≤ 1000000) : FSpec PP 84 [dT (typM m), dV v] σ0 (db (oneB (typM m) v)) σ0 :=
  of06_prod _ v hv fun t ht k _ => by
    rcases List.mem_cons.1 ht with rfl | ht
    · exact of06_lab _ k
    · rw [(List.mem_replicate.1 ht).2]; exact of06_elt m k
noncomputable abbrev fVld06 : Func := Tryz.f47
noncomputable def cVld06 : Code := fVld06.body.getD .skip
theorem vld06_spec (m : Mod) (hm : m.ok) (v : Val) (hv : v.size ≤ 1000000) : FSpec PP 47 [dT (typM m), dV v] σ0 (db (validB (typM m) v)) σ0 := by
  refine spec_vc mixed fVld06 cVld06 (by kernel_rfl) (by kernel_rfl) (by kernel_rfl) (by kernel_rfl) 18 (by kernel_rfl) [2, 3] (.c (di 0) <| .c (di (min (v.size : Int) 129)) <| .b (.c (db (oneB (typM m) v)) .r) .r) ?_
  refine via (by kernel_rfl : (FSpec PP 82 [D.v (vT (typM m))] (St.mk [] []) (di 0) (St.mk [] []) ∧ FSpec PP 83 [D.v (vVal v), di 128] (St.mk [] []) (di (min (↑(Val.size v) : Int) 129)) (St.mk [] []) ∧ (decide (min (↑(Val.size v) : Int) 129 ≤ 128) = true → FSpec PP 84 [D.v (vT (typM m)), D.v (vVal v)] (St.mk [] []) (db (oneB (typM m) v)) (St.mk [] []) ∧ db (oneB (typM m) v) = db (validB (typM m) v)) ∧ (decide (min (↑(Val.size v) : Int) 129 ≤ 128) = false → db false = db (validB (typM m) v))) = _) ?_
  refine ⟨chk06_spec m hm, siz06_spec _ v (Nat.le_refl _) hv 128 (by decide) (by decide), fun h1 => ⟨of06_typM m v hv, ?_⟩, fun h1 => ?_⟩
  · have h1 := of_decide_eq_true h1
    rw [validB, decide_eq_true (show (v.size : Int) ≤ 128 by rw [Int.min_def] at h1; split at h1 <;> omega), Bool.true_and]
  · have h1 := of_decide_eq_false h1
    rw [validB, decide_eq_false (show ¬ (v.size : Int) ≤ 128 by rw [Int.min_def] at h1; split at h1 <;> omega), Bool.false_and]
noncomputable abbrev fChk15 : Func := Tryz.f46
noncomputable def cChk15 : Code := fChk15.body.getD .skip
theorem chk15_loop (m : Mod) (hm : m.ok) (n : Nat) : ∀ k : Nat, m.rules.length - k = n →
    Rn PP fChk15 0 (di 0) σ0 ([.lp (sub cChk15 [1, 1, 1, 1, 1, 0, 1, 0, 0]), .blk 0, .code (sub cChk15 [1, 1, 1, 1, 1, 1])] ++ []) (mkE 52 [(1, .v (.ref (vMod m))), (3, di k)]) σ0 := by
  induction n using Nat.strongRecOn with
  | _ n ih =>
  intro k hn
  refine loop_vc mixed 52 [1] (.b (.e fun r : Rul => .x (vRul r) <| .c (db true) <| .l [ke 1, ch 3 (di (k + 1 : Nat))]) (.f <| .c (dT (typM m)) <| .c (db true) .r)) ?_
  refine via (by kernel_rfl : ((decide ((↑k : Int) < (↑(List.length (List.map vRul m.rules)) : Int)) = true → ∃ a, 0 ≤ (↑k : Int) ∧ (List.map vRul m.rules)[Int.toNat (↑k : Int)]? = some (vRul a) ∧ FSpec PP 81 [D.v (vMod m), D.v (vRul a)] (St.mk [] []) (db true) (St.mk [] []) ∧ di (IntKind.wrap IntKind.i64 ((↑k : Int) + 1)) = di (↑(k + 1) : Int) ∧ Nv.It (RunC (CN 0) PP (fun env σ1 => ResOK PP fChk15 env σ1 (di 0) σ0) [KI.lp (sub cChk15 [1, 1, 1, 1, 1, 0, 1, 0, 0]), KI.blk 0, KI.code (sub cChk15 [1, 1, 1, 1, 1, 1])] (mkE 52 [(1, D.v (V.ref (vMod m))), (3, di (↑(k + 1) : Int))]) (St.mk [] []))) ∧ (decide ((↑k : Int) < (↑(List.length (List.map vRul m.rules)) : Int)) = false → (m.kind == 6) = false ∧ FSpec PP 48 [D.v (vMod m)] (St.mk [] []) (dT (typM m)) (St.mk [] []) ∧ FSpec PP 47 [D.v (vT (typM m)), D.v (V.agg [vi (Val.n m.start), vVs (Val.kids m.start)])] (St.mk [] []) (db true) (St.mk [] []) ∧ di 0 = di 0)) = _) ?_
  have hsz := hm.sz
  refine ⟨fun h => ?_, fun h => ⟨by rcases hm.kind with h | h | h <;> rw [h] <;> rfl, typo_spec m hm, ?_, rfl⟩⟩
  · have hk : k < m.rules.length := by simpa using h
    have hx : m.rules[k]? = some m.rules[k] := List.getElem?_eq_getElem hk
    generalize m.rules[k] = r at hx
    exact ⟨r, by omega, idx_some hx, rt15_spec m hm r (List.mem_of_getElem? hx), wrap_succ (by omega), ⟨ih (m.rules.length - (k + 1)) (by omega) (k + 1) rfl⟩⟩
  · have := vld06_spec m hm m.start hm.ssize
    rw [hm.start] at this
    exact this
theorem chk15_spec (m : Mod) (hm : m.ok) : FSpec PP 46 [dMod m] σ0 (di 0) σ0 := by
  refine spec_vc mixed fChk15 cChk15 (by kernel_rfl) (by kernel_rfl) (by kernel_rfl) (by kernel_rfl) 52 (by kernel_rfl) [1] (.c (db true) <| .c (db true) <| .c (db true) <| .c (db true) <| .l [ke 1, ch 3 (di (0 : Nat))]) ?_
  refine via (by kernel_rfl : (FSpec PP 77 [di m.kind, di 1, di 6] (St.mk [] []) (db true) (St.mk [] []) ∧ FSpec PP 78 [D.v (vMod m)] (St.mk [] []) (db true) (St.mk [] []) ∧ FSpec PP 79 [D.v (vMod m)] (St.mk [] []) (db true) (St.mk [] []) ∧ FSpec PP 80 [D.v (vMod m)] (St.mk [] []) (db true) (St.mk [] []) ∧ di 0 = di (↑0 : Int) ∧ Nv.It (RunC (CN (List.length σ0.H)) PP (fun env σ1 => ResOK PP fChk15 env σ1 (di 0) σ0) [KI.lp (sub cChk15 [1, 1, 1, 1, 1, 0, 1, 0, 0]), KI.blk 0, KI.code (sub cChk15 [1, 1, 1, 1, 1, 1])] (mkE 52 [(1, D.v (V.ref (vMod m))), (3, di (↑0 : Int))]) σ0)) = _) ?_
  refine ⟨?_, num15_spec m hm, rnk15_spec m hm, nam15_spec m hm, rfl, ⟨chk15_loop m hm _ 0 rfl⟩⟩
  have := betw15_spec m.kind 1 6
  rwa [show betB m.kind 1 6 = true by rcases hm.kind with h | h | h <;> rw [h] <;> rfl] at this
noncomputable abbrev fVal15 : Func := Tryz.f28
noncomputable def cVal15 : Code := fVal15.body.getD .skip
theorem val15_spec (m : Mod) (hm : m.ok) (v : Val) (hv : v.size ≤ 1000000) : FSpec PP 28 [dMod m, dV v] σ0 (db (validB (typM m) v)) σ0 := by
  refine spec_vc mixed fVal15 cVal15 (by kernel_rfl) (by kernel_rfl) (by kernel_rfl) (by kernel_rfl) 14 (by kernel_rfl) [2, 3] (.c (di 0) <| .c (dT (typM m)) <| .c (db (validB (typM m) v)) .r) ?_
  refine via (by kernel_rfl : (FSpec PP 46 [D.v (vMod m)] (St.mk [] []) (di 0) (St.mk [] []) ∧ FSpec PP 48 [D.v (vMod m)] (St.mk [] []) (dT (typM m)) (St.mk [] []) ∧ FSpec PP 47 [D.v (vT (typM m)), D.v (vVal v)] (St.mk [] []) (db (validB (typM m) v)) (St.mk [] []) ∧ db (validB (typM m) v) = db (validB (typM m) v)) = _) ?_
  exact ⟨chk15_spec m hm, typo_spec m hm, vld06_spec m hm v hv, rfl⟩
end Go.Proofs.YtdfdemnbaiieaaaGreat

namespace Go.Proofs.YtdfdemnbaiieaaaGreat
open Go.Dv Go.Nv
set_option maxRecDepth 20000
abbrev vBs (l : List UInt8) : V := .list (l.map vb)
abbrev cDz (l : List UInt8) (a : Nat) : List D := [.v (vBs l), di a]
abbrev dz (l : List UInt8) (a : Nat) : St := ⟨[some (cDz l a)], []⟩
noncomputable abbrev fPick : Func := Tryz.f21
noncomputable def cPick : Code := fPick.body.getD .skip
theorem pick_ex (l : List UInt8) (hl : l.length ≤ 200) (a : Nat) (ha : a ≤ l.length) (n : Int) (hn : 1 ≤ n) (hn2 : n ≤ 1000) :
    ∃ (r : Int) (a' : Nat), 0 ≤ r ∧ r < n ∧ a' ≤ l.length ∧ FSpec PP 21 [.ptr 0 0, di n] (dz l a) (di r) (dz l a') := by
  by_cases h : a < l.length
  · refine ⟨(l[a].toNat : Int) % n, a + 1, Int.emod_nonneg _ (by omega), Int.emod_lt_of_pos _ (by omega), h, ?_⟩
    refine spec_vc mixed fPick cPick (by kernel_rfl) (by kernel_rfl) (by kernel_rfl) (by kernel_rfl) 36 (by kernel_rfl) [] (.f <| .x (vb l[a]) .r) ?_
    refine via (by kernel_rfl : ((True ∧ True ∧ True) ∧ decide ((↑a : Int) ≥ (↑(List.length (List.map vb l)) : Int)) = false ∧ 0 ≤ IntKind.wrap IntKind.i64 (IntKind.wrap IntKind.i64 ((↑a : Int) + 1) - 1) ∧ (List.map vb l)[Int.toNat (IntKind.wrap IntKind.i64 (IntKind.wrap IntKind.i64 ((↑a : Int) + 1) - 1))]? = some (V.int IntKind.u8 (↑(UInt8.toNat l[a]) : Int)) ∧ n ≠ 0 ∧ (True ∧ True ∧ True) ∧ [some [D.v (vBs l), di (IntKind.wrap IntKind.i64 ((↑a : Int) + 1))]] = [some (cDz l (a + 1))] ∧ di (Int.tmod (IntKind.wrap IntKind.i64 (↑(UInt8.toNat l[a]) : Int)) n) = di ((↑(UInt8.toNat l[a]) : Int) % n)) = _) ?_
    have hx : l[a]? = some l[a] := List.getElem?_eq_getElem h
    have hb : l[a].toNat < 256 := UInt8.toNat_lt _
    generalize l[a] = c at hx hb
    rw [show IntKind.i64.wrap (IntKind.i64.wrap ((a : Int) + 1) - 1) = a by rw [wrap_id (n := (a : Int) + 1) (by omega) (by omega), wrap_id (by omega) (by omega)]; omega]
    refine ⟨⟨trivial, trivial, trivial⟩, by rw [List.length_map]; exact decide_eq_false (by omega), by omega, idx_some hx, by omega, ⟨trivial, trivial, trivial⟩, ?_, ?_⟩
    · rw [wrap_id (by omega) (by omega)]; rfl
    · rw [wrap_id (by omega) (by omega), Int.tmod_eq_emod_of_nonneg (by omega)]
  · refine ⟨0, a, by omega, by omega, ha, ?_⟩
    refine spec_vc mixed fPick cPick (by kernel_rfl) (by kernel_rfl) (by kernel_rfl) (by kernel_rfl) 36 (by kernel_rfl) [] (.t .r) ?_
    refine via (by kernel_rfl : ((True ∧ True ∧ True) ∧ decide ((↑a : Int) ≥ (↑(List.length (List.map vb l)) : Int)) = true ∧ [some (cDz l a)] = [some (cDz l a)] ∧ di 0 = di 0) = _) ?_
    exact ⟨⟨trivial, trivial, trivial⟩, by rw [List.length_map]; exact decide_eq_true (by omega), rfl, rfl⟩
noncomputable abbrev fInts : Func := Tryz.f22
noncomputable def cInts : Code := fInts.body.getD .skip
abbrev ownI (l : List UInt8) (a : Nat) (xs : List Int) : St := ⟨[some (cDz l a)], [(1, 1, xs.map vi)]⟩
theorem ints_loop (l : List UInt8) (hl : l.length ≤ 200) (n : Nat) (hn : n ≤ 100) (most : Int) (hm : 0 ≤ most) (hm2 : most ≤ 100) (N : Nat) : ∀ (k : Nat) (a : Nat) (xs : List Int), n - k = N → k ≤ n → a ≤ l.length → xs.length = k → (∀ x ∈ xs, 0 ≤ x ∧ x ≤ most) →
    ∃ (ys : List Int) (a' : Nat), a' ≤ l.length ∧ ys.length = n ∧ (∀ x ∈ ys, 0 ≤ x ∧ x ≤ most) ∧
    Rn PP fInts 1 (dIs ys) (dz l a') ([.lp (sub cInts [1, 1, 0, 1, 0, 0]), .blk 0, .code (sub cInts [1, 1, 1])] ++ []) (mkE 22 [(0, .ptr 0 0), (1, di n), (2, di most), (7, .acc 1 (xs.map vi)), (8, di k)]) (ownI l a xs) := by
  induction N with
  | zero =>
    intro k a xs hk hk0 ha hx hxs
    by_cases hkn : k = n
    · refine ⟨xs, a, ha, by omega, hxs, ?_⟩
      refine loop_vc mixed 22 [] (.f .r) ?_
      refine via (by kernel_rfl : (decide ((↑k : Int) < (↑n : Int)) = false ∧ [some (cDz l a)] = [some (cDz l a)] ∧ D.v (V.list (List.map vi xs)) = dIs xs) = _) ?_
      exact ⟨decide_eq_false (by omega), rfl, rfl⟩
    · exact absurd hk0 (by omega)
  | succ N ih =>
    intro k a xs hk hk0 ha hx hxs
    obtain ⟨r, a1, h1, h2, h3, h4⟩ := pick_ex l hl a ha (most + 1) (by omega) (by omega)
    obtain ⟨ys, a', h5, h6, h7, h8⟩ := ih (k + 1) a1 (xs ++ [r]) (by omega) (by omega) h3 (by simp [hx]) (fun x hx => by
      rcases List.mem_append.1 hx with hx | hx
      · exact hxs x hx
      · rw [List.mem_singleton.1 hx]; omega)
    refine ⟨ys, a', h5, h6, h7, ?_⟩
    refine loop_vc mixed 22 [] (.t <| .c1 (cDz l a1) (di r) <| .ls [ke 0, ke 1, ke 2, ch 7 (.acc 1 ((xs ++ [r]).map vi)), ch 8 (di (k + 1 : Nat))] (ownI l a1 (xs ++ [r]))) ?_
    refine via (by kernel_rfl : (decide ((↑k : Int) < (↑n : Int)) = true ∧ FSpec PP 21 [D.ptr 0 0, di (IntKind.wrap IntKind.i64 (most + 1))] (St.mk [some (cDz l a)] []) (di r) (St.mk [some (cDz l a1)] []) ∧ List.map vi xs = List.map vi xs ∧ LenOK (List.length (List.map vi xs) + List.length (V.int IntKind.i64 r :: nV)) 8 ∧ D.acc 1 (List.map vi xs ++ [vi r]) = D.acc 1 (List.map vi (xs ++ [r])) ∧ di (IntKind.wrap IntKind.i64 ((↑k : Int) + 1)) = di (↑(k + 1) : Int) ∧ [some (cDz l a1)] = [some (cDz l a1)] ∧ [(1, 1, List.map vi xs ++ vi r :: nV)] = [(1, 1, List.map vi (xs ++ [r]))] ∧ Nv.It (RunC (CN 1) PP (fun env σ1 => ResOK PP fInts env σ1 (dIs ys) (dz l a')) [KI.lp (sub cInts [1, 1, 0, 1, 0, 0]), KI.blk 0, KI.code (sub cInts [1, 1, 1])] (mkE 22 [(0, D.ptr 0 0), (1, di (↑n : Int)), (2, di most), (7, D.acc 1 (List.map vi (xs ++ [r]))), (8, di (↑(k + 1) : Int))]) (ownI l a1 (xs ++ [r])))) = _) ?_
    refine ⟨decide_eq_true (by omega), ?_, rfl, ⟨?_, ?_⟩, by simp, wrap_succ (by omega), rfl, by simp, ⟨h8⟩⟩
    · rw [wrap_id (by omega) (by omega)]; exact h4
    · simp only [List.length_map, List.length_cons, List.length_nil]; omega
    · simp only [List.length_map, List.length_cons, List.length_nil]; omega
theorem ints_ex (l : List UInt8) (hl : l.length ≤ 200) (a : Nat) (ha : a ≤ l.length) (n : Nat) (hn : n ≤ 100) (most : Int) (hm : 0 ≤ most) (hm2 : most ≤ 100) :
    ∃ (ys : List Int) (a' : Nat), a' ≤ l.length ∧ ys.length = n ∧ (∀ x ∈ ys, 0 ≤ x ∧ x ≤ most) ∧ FSpec PP 22 [.ptr 0 0, di n, di most] (dz l a) (dIs ys) (dz l a') := by
  obtain ⟨ys, a', h1, h2, h3, h4⟩ := ints_loop l hl n hn most hm hm2 _ 0 a [] rfl (by omega) ha rfl (by simp)
  refine ⟨ys, a', h1, h2, h3, ?_⟩
  refine spec_vc mixed fInts cInts (by kernel_rfl) (by kernel_rfl) (by kernel_rfl) (by kernel_rfl) 22 (by kernel_rfl) [] (.h (.q 2 0) <| .h (.nw 7 1 1) <| .ls [ke 0, ke 1, ke 2, ke 7, ch 8 (di (0 : Nat))] (ownI l a [])) ?_
  refine via (by kernel_rfl : (di 0 = di (↑0 : Int) ∧ [some (cDz l a)] = [some (cDz l a)] ∧ [(1, 1, nV)] = [(1, 1, nV)] ∧ Nv.It (RunC (CN (List.length (dz l a).H)) PP (fun env σ1 => ResOK PP fInts env σ1 (dIs ys) (dz l a')) [KI.lp (sub cInts [1, 1, 0, 1, 0, 0]), KI.blk 0, KI.code (sub cInts [1, 1, 1])] (mkE 22 [(0, D.ptr 0 0), (1, di (↑n : Int)), (2, di most), (7, D.acc 1 []), (8, di (↑0 : Int))]) (ownI l a []))) = _) ?_
  exact ⟨rfl, rfl, rfl, ⟨h4⟩⟩
noncomputable abbrev fCfg28 : Func := Tryz.f20
noncomputable def cCfg28 : Code := fCfg28.body.getD .skip
abbrev ownC (s : Int) (xs : List Val) : St := ⟨[some [di 0, .v .nils], some [di 0, .acc 1 (xs.map eV)]], [(1, 2, xs.map eV)]⟩
def cfgV (s : Int) (l : List Int) : Val := .mk 0 (.mk s [] :: l.map fun x => .mk x [])
theorem cfg28_loop (l : List Int) (hl : l.length ≤ 1000) (s : Int) (n : Nat) : ∀ (k : Nat) (xs : List Val), l.length - k = n → xs.length = k + 1 →
    Rn PP fCfg28 0 (dV (.mk 0 (xs ++ (l.drop k).map fun x => .mk x []))) σ0 ([.lp (sub cCfg28 [1, 1, 0, 1, 0, 0]), .blk 0, .code (sub cCfg28 [1, 1, 1])] ++ []) (mkE 28 [(1, dIs l), (4, .ptr 0 0), (5, .ptr 1 0), (6, di k)]) (ownC s xs) := by
  induction n with
  | zero =>
    intro k xs hk hx
    refine loop_vc mixed 28 [] (.f .r) ?_
    refine via (by kernel_rfl : (decide ((↑k : Int) < (↑(List.length (List.map vi l)) : Int)) = false ∧ D.v (V.agg [vi 0, V.list (List.map eV xs)]) = dV (Val.mk 0 (xs ++ List.map (fun x => Val.mk x []) (List.drop k l)))) = _) ?_
    refine ⟨by rw [List.length_map]; exact decide_eq_false (by omega), ?_⟩
    rw [List.drop_of_length_le (by omega), List.map_nil, List.append_nil]; rfl
  | succ n ih =>
    intro k xs hk hxl
    refine loop_vc mixed 28 [] (.t <| .e fun x : Int => .x (vi x) <| .ls [ke 1, ke 4, ke 5, ch 6 (di (k + 1 : Nat))] (ownC s (xs ++ [.mk x []]))) ?_
    refine via (by kernel_rfl : (decide ((↑k : Int) < (↑(List.length (List.map vi l)) : Int)) = true ∧ ∃ a, 0 ≤ (↑k : Int) ∧ (List.map vi l)[Int.toNat (↑k : Int)]? = some (vi a) ∧ List.map eV xs = List.map eV xs ∧ LenOK (List.length (List.map eV xs) + List.length (V.agg (vi a :: V.list nV :: nV) :: nV)) 32 ∧ (True ∧ True) ∧ di (IntKind.wrap IntKind.i64 ((↑k : Int) + 1)) = di (↑(k + 1) : Int) ∧ [some [di 0, D.v V.nils], some [di 0, D.acc 1 (List.map eV xs ++ V.agg (vi a :: V.list nV :: nV) :: nV)]] = [some [di 0, D.v V.nils], some [di 0, D.acc 1 (List.map eV (xs ++ [Val.mk a []]))]] ∧ [(1, 2, List.map eV xs ++ V.agg (vi a :: V.list nV :: nV) :: nV)] = [(1, 2, List.map eV (xs ++ [Val.mk a []]))] ∧ Nv.It (RunC (CN 0) PP (fun env σ1 => ResOK PP fCfg28 env σ1 (dV (Val.mk 0 (xs ++ List.map (fun x => Val.mk x []) (List.drop k l)))) σ0) [KI.lp (sub cCfg28 [1, 1, 0, 1, 0, 0]), KI.blk 0, KI.code (sub cCfg28 [1, 1, 1])] (mkE 28 [(1, D.v (vIs l)), (4, D.ptr 0 0), (5, D.ptr 1 0), (6, di (↑(k + 1) : Int))]) (ownC s (xs ++ [Val.mk a []])))) = _) ?_
    have hk1 : k < l.length := by omega
    have hx : l[k]? = some l[k] := List.getElem?_eq_getElem hk1
    rw [List.drop_eq_getElem_cons hk1]
    generalize l[k] = x at hx ⊢
    have h := ih (k + 1) (xs ++ [.mk x []]) (by omega) (by simp [hxl])
    rw [List.append_assoc] at h
    refine ⟨by rw [List.length_map]; exact decide_eq_true (by omega), x, by omega, idx_some hx, rfl, ⟨?_, ?_⟩, ⟨trivial, trivial⟩, wrap_succ (by omega), ?_, ?_, ⟨h⟩⟩
    · simp only [List.length_map, List.length_cons, List.length_nil]; omega
    · simp only [List.length_map, List.length_cons, List.length_nil]; omega
    · rw [← append_val]; rfl
    · rw [← append_val]; rfl
theorem cfg28_spec (l : List Int) (hl : l.length ≤ 1000) (s : Int) : FSpec PP 20 [di s, dIs l] σ0 (dV (cfgV s l)) σ0 := by
  refine spec_vc mixed fCfg28 cCfg28 (by kernel_rfl) (by kernel_rfl) (by kernel_rfl) (by kernel_rfl) 28 (by kernel_rfl) [] (.a 1 <| .h .g <| .ls [ke 1, ke 4, ke 5, ch 6 (di (0 : Nat))] (ownC s [.mk s []])) ?_
  refine via (by kernel_rfl : (di 0 = di (↑0 : Int) ∧ [some [di 0, D.v V.nils], some [di 0, D.acc 1 (V.agg (vi s :: V.list nV :: nV) :: nV)]] = [some [di 0, D.v V.nils], some [di 0, D.acc 1 (eV (Val.mk s []) :: nV)]] ∧ [(1, 2, V.agg (vi s :: V.list nV :: nV) :: nV)] = [(1, 2, eV (Val.mk s []) :: nV)] ∧ Nv.It (RunC (CN (List.length σ0.H)) PP (fun env σ1 => ResOK PP fCfg28 env σ1 (dV (cfgV s l)) σ0) [KI.lp (sub cCfg28 [1, 1, 0, 1, 0, 0]), KI.blk 0, KI.code (sub cCfg28 [1, 1, 1])] (mkE 28 [(1, dIs l), (4, D.ptr 0 0), (5, D.ptr 1 0), (6, di (↑0 : Int))]) (ownC s [Val.mk s []]))) = _) ?_
  exact ⟨rfl, rfl, rfl, ⟨cfg28_loop l hl s _ 0 [.mk s []] rfl rfl⟩⟩
end Go.Proofs.YtdfdemnbaiieaaaGreat

namespace Go.Proofs.YtdfdemnbaiieaaaGreat
open Go.Dv Go.Nv
set_option maxRecDepth 20000
abbrev dl3 : List (List UInt8) := [[114], [115], [116]]
def mkR (nm : List UInt8) (f t : Int) (nd gv : List Int) : Rul := ⟨nm, f, t, nd, gv, [], 0, 0, 0, [], [], [], [], 0⟩
abbrev zM : List D := [di 0, .v .nils, .v .nils, .v .nils, .v .nils, di 0, di 0, .v .nils, di 0, .v .nils]
/-- the dealt counter models without moves -/
structure MadeR (ns np : Nat) (k : Nat) (r : Rul) : Prop where
  name : dl3[k]? = some r.name
  frm : 0 ≤ r.frm ∧ r.frm < ns
  to : 0 ≤ r.to ∧ r.to < ns
  need : r.need.length = np ∧ ∀ x ∈ r.need, 0 ≤ x ∧ x ≤ 2
  give : r.give.length = np ∧ ∀ x ∈ r.give, 0 ≤ x ∧ x ≤ 2
  rest : r = mkR r.name r.frm r.to r.need r.give
structure MadeC (m : Mod) : Prop where
  kind : m.kind = 1
  states : m.states = [[97]] ∨ m.states = [[97], [98]]
  places : m.places = [[120]] ∨ m.places = [[120], [121]]
  letters : m.letters = []
  ranks : m.ranks = []
  levels : m.levels = 0
  age : m.age = 0
  count : m.rules.length ≤ 3
  rules : ∀ k r, m.rules[k]? = some r → MadeR m.states.length m.places.length k r
  start : ∃ ys : List Int, ys.length = m.places.length ∧ (∀ x ∈ ys, 0 ≤ x ∧ x ≤ 3) ∧ m.start = cfgV 0 ys
noncomputable abbrev fCtr : Func := Tryz.f13
noncomputable def cCtr : Code := fCtr.body.getD .skip
end Go.Proofs.YtdfdemnbaiieaaaGreat

namespace Go.Proofs.YtdfdemnbaiieaaaGreat
open Go.Dv Go.Nv
set_option maxRecDepth 20000
theorem mapName {rs : List Rul} (h3 : rs.length ≤ 3) {ns np : Nat} (h : ∀ k r, rs[k]? = some r → MadeR ns np k r) : rs.map Rul.name = dl3.take rs.length := by
  apply List.ext_getElem?
  intro i
  by_cases hi : i < rs.length
  · have hx : rs[i]? = some rs[i] := List.getElem?_eq_getElem hi
    rw [List.getElem?_map, hx, List.getElem?_take_of_lt hi, (h i _ hx).name]; rfl
  · rw [List.getElem?_eq_none (by simp; omega), List.getElem?_eq_none (by simp; omega)]
theorem vals_nat (ys : List Int) (n : Nat) (h : ys.length = n) (h0 : ∀ x ∈ ys, 0 ≤ x ∧ x ≤ 1048576) : onesB (List.replicate n .nat) (ys.map fun x => Val.mk x []) = true := by
  induction n generalizing ys with
  | zero => cases ys with
    | nil => rfl
    | cons y ys => simp at h
  | succ n ih => cases ys with
    | nil => simp at h
    | cons y ys =>
      have := h0 y (by simp)
      simp only [List.replicate_succ, List.map_cons, onesB, oneB, Bool.and_eq_true, decide_eq_true_eq, beq_iff_eq]
      exact ⟨⟨this.1, this.2, rfl⟩, ih ys (by simpa using h) fun x hx => h0 x (by simp [hx])⟩
theorem size_vals (ys : List Int) : Val.sizes (ys.map fun x => Val.mk x []) = ys.length := by
  induction ys with
  | nil => rfl
  | cons y ys ih => simp only [List.map_cons, Val.sizes, ih, List.length_cons, Val.size]; omega
theorem cfgV_size (s : Int) (ys : List Int) : (cfgV s ys).size = 2 + ys.length := by
  simp only [cfgV, Val.size, Val.sizes, size_vals]; omega
/-- a configuration of a dealt counter model -/
theorem cfg_valid (m : Mod) (hk : m.kind = 1) (hpl : m.places.length ≤ 100) (s : Int) (hs : 0 ≤ s ∧ s < m.states.length) (ys : List Int) (hy : ys.length = m.places.length) (h : ∀ x ∈ ys, 0 ≤ x ∧ x ≤ 1048576) : validB (typM m) (cfgV s ys) = true := by
  rw [validB, decide_eq_true (by rw [cfgV_size]; omega), Bool.true_and, typM, show eltM m = .nat by simp [eltM, hk]]
  simp only [oneB, cfgV, Val.n, Val.kids, onesB, labB, Bool.and_eq_true, decide_eq_true_eq, beq_iff_eq]
  refine ⟨?_, by simp [hy], ⟨decide_eq_true hs.1, decide_eq_true hs.2, by rfl⟩, vals_nat ys _ hy h⟩
  first | trivial | rfl
theorem MadeC.ok {m : Mod} (h : MadeC m) : m.ok := by
  have hst : 1 ≤ m.states.length ∧ m.states.length ≤ 2 := by rcases h.states with e | e <;> rw [e] <;> decide
  have hpl : 1 ≤ m.places.length ∧ m.places.length ≤ 2 := by rcases h.places with e | e <;> rw [e] <;> decide
  have hb : ∀ {x a b : Int}, a ≤ x → x ≤ b → betB x a b = true := fun h1 h2 => by simp [betB, h1, h2]
  have hget : ∀ r ∈ m.rules, MadeR m.states.length m.places.length (m.rules.idxOf r) r := fun r hr => by
    have hi := List.idxOf_lt_length_of_mem hr
    exact h.rules _ r (by rw [List.getElem?_eq_getElem hi, List.getElem_idxOf])
  have hc := h.count
  refine ⟨.inl h.kind, ?_, ?_, ?_, ?_, ?_, ?_, ?_⟩
  · simp only [sizedB, limM, if_pos h.kind, Bool.and_eq_true, decide_eq_true_eq, h.letters, h.levels, h.age]
    exact ⟨hb (by omega) (by omega), by omega, hb (by omega) (by omega), by decide, by decide, by decide⟩
  · rw [rankedB, if_pos (by rw [h.kind]; rfl), h.ranks]; rfl
  · have hn := mapName h.count h.rules
    rw [namedB, namesM, hn, baseM, h.letters]
    have : m.rules.length = 0 ∨ m.rules.length = 1 ∨ m.rules.length = 2 ∨ m.rules.length = 3 := by omega
    rcases h.states with e | e <;> rcases h.places with e' | e' <;> rcases this with e2 | e2 | e2 | e2 <;> rw [e, e', e2] <;> decide
  · intro r hr
    have hm := hget r hr
    have h1 := hm.need.1
    have h2 := hm.give.1
    rw [hm.rest]
    exact ⟨by show r.need.length ≤ _; omega, by show r.give.length ≤ _; omega, Nat.zero_le _, Nat.zero_le _, Nat.zero_le _, Nat.zero_le _, Nat.zero_le _⟩
  · intro r hr
    have hm := hget r hr
    obtain ⟨f1, f2⟩ := hm.frm
    obtain ⟨t1, t2⟩ := hm.to
    obtain ⟨n1, n2⟩ := hm.need
    obtain ⟨g1, g2⟩ := hm.give
    have hr := hm.rest
    generalize r.name = nm at hr
    generalize r.frm = f at *
    generalize r.to = t at *
    generalize r.need = nd at *
    generalize r.give = gv at *
    subst hr
    rw [rightM, if_pos h.kind]
    simp only [rightC, changesB, movesB, sameB, onlyC, mkR, Bool.and_eq_true, List.all_eq_true, beq_iff_eq, decide_eq_true_eq, and_true, true_and, List.length_nil]
    refine ⟨hb (by omega) (by omega), hb (by omega) (by omega), ⟨by omega, by omega, fun x hx => hb (n2 x hx).1 (by have := (n2 x hx).2; omega), fun x hx => hb (g2 x hx).1 (by have := (g2 x hx).2; omega)⟩, ?_⟩
    simp
  · obtain ⟨ys, y1, y2, y3⟩ := h.start
    rw [y3]
    exact cfg_valid m h.kind (by omega) 0 ⟨by omega, by omega⟩ ys y1 fun x hx => by have := y2 x hx; omega
  · obtain ⟨ys, y1, y2, y3⟩ := h.start
    rw [y3, cfgV_size]; omega
end Go.Proofs.YtdfdemnbaiieaaaGreat

namespace Go.Proofs.YtdfdemnbaiieaaaGreat
open Go.Dv Go.Nv
set_option maxRecDepth 20000
abbrev lf (y : Int) : Val := .mk y []
/-- a configuration of counters, seen from without -/
structure IsC (c : Val) (s : Int) (ys : List Int) : Prop where
  eq : c = cfgV s ys
  len : c.kids.length = ys.length + 1
  head : c.kids[0]? = some (lf s)
  at' : ∀ (i : Nat) (y : Int), ys[i]? = some y → c.kids[i + 1]? = some (lf y)
theorem isC (s : Int) (ys : List Int) : IsC (cfgV s ys) s ys :=
  ⟨rfl, by simp [cfgV, Val.kids], rfl, fun i y h => by simp [cfgV, Val.kids, h]⟩
noncomputable abbrev fFlt17 : Func := Tryz.f150
noncomputable def cFlt17 : Code := fFlt17.body.getD .skip
theorem flt17_spec (m : Mod) (hm : m.ok) (hk : m.kind = 1) (i : Nat) (hi : i < m.rules.length) : FSpec PP 150 [dMod m, di i] σ0 (di 0) σ0 := by
  refine spec_vc mixed fFlt17 cFlt17 (by kernel_rfl) (by kernel_rfl) (by kernel_rfl) (by kernel_rfl) 23 (by kernel_rfl) [2] (.c (di 0) <| .k <| .f <| .f <| .f .r) ?_
  refine via (by kernel_rfl : (FSpec PP 46 [D.v (vMod m)] (St.mk [] []) (di 0) (St.mk [] []) ∧ (m.kind != 1) = false ∧ decide ((↑i : Int) < 0) = false ∧ decide ((↑i : Int) ≥ (↑(List.length (List.map vRul m.rules)) : Int)) = false ∧ di 0 = di 0) = _) ?_
  exact ⟨chk15_spec m hm, by rw [hk]; rfl, decide_eq_false (by omega), by rw [List.length_map]; exact decide_eq_false (by omega), rfl⟩
noncomputable abbrev fEn17 : Func := Tryz.f151
noncomputable def cEn17 : Code := fEn17.body.getD .skip
def needB : List Int → List Int → Bool
  | n :: ns, y :: ys => !decide (y < n) && needB ns ys
  | _, _ => true
def enB (r : Rul) (s : Int) (ys : List Int) : Bool := (s == r.frm) && needB r.need ys
theorem en17_loop (r : Rul) (c : Val) (s : Int) (ys : List Int) (hc : IsC c s ys) (hl : r.need.length = ys.length) (hl2 : ys.length ≤ 1000) (n : Nat) : ∀ k : Nat, r.need.length - k = n →
    Rn PP fEn17 0 (db (needB (r.need.drop k) (ys.drop k))) σ0 ([.lp (sub cEn17 [1, 1, 0, 1, 0, 0]), .blk 0, .code (sub cEn17 [1, 1, 1])] ++ []) (mkE 34 [(2, .v (.ref (vRul r))), (3, .v (.ref (vVal c))), (5, di k)]) σ0 := by
  induction n using Nat.strongRecOn with
  | _ n ih =>
  intro k hn
  refine loop_vc mixed 34 [2, 3] (.b (.e fun y : Int => .h (.xs (vVal (lf y))) <| .e fun x : Int => .x (vi x) <| .b .r (.l [ke 2, ke 3, ch 5 (di (k + 1 : Nat))])) .r) ?_
  refine via (by kernel_rfl : ((decide ((↑k : Int) < (↑(List.length (List.map vi r.need)) : Int)) = true → ∃ a, 2 = 2 ∧ 0 ≤ IntKind.wrap IntKind.i64 (1 + (↑k : Int)) ∧ (List.map eV (Val.kids c))[Int.toNat (IntKind.wrap IntKind.i64 (1 + (↑k : Int)))]? = some (vVal (lf a)) ∧ ∃ a_1, 0 ≤ (↑k : Int) ∧ (List.map vi r.need)[Int.toNat (↑k : Int)]? = some (vi a_1) ∧ (decide (Val.n (lf a) < a_1) = true → db false = db (needB (List.drop k r.need) (List.drop k ys))) ∧ (decide (Val.n (lf a) < a_1) = false → di (IntKind.wrap IntKind.i64 ((↑k : Int) + 1)) = di (↑(k + 1) : Int) ∧ Nv.It (RunC (CN 0) PP (fun env σ1 => ResOK PP fEn17 env σ1 (db (needB (List.drop k r.need) (List.drop k ys))) σ0) [KI.lp (sub cEn17 [1, 1, 0, 1, 0, 0]), KI.blk 0, KI.code (sub cEn17 [1, 1, 1])] (mkE 34 [(2, D.v (V.ref (vRul r))), (3, D.v (V.ref (vVal c))), (5, di (↑(k + 1) : Int))]) (St.mk [] [])))) ∧ (decide ((↑k : Int) < (↑(List.length (List.map vi r.need)) : Int)) = false → db true = db (needB (List.drop k r.need) (List.drop k ys)))) = _) ?_
  refine ⟨fun h => ?_, fun h => ?_⟩
  · have hk : k < r.need.length := by simpa using h
    have hk2 : k < ys.length := by omega
    have hx : r.need[k]? = some r.need[k] := List.getElem?_eq_getElem hk
    have hy : ys[k]? = some ys[k] := List.getElem?_eq_getElem hk2
    have hcy := hc.at' k _ hy
    rw [List.drop_eq_getElem_cons hk, List.drop_eq_getElem_cons hk2]
    generalize r.need[k] = x at hx ⊢
    generalize ys[k] = y at hcy ⊢
    have e1 : IntKind.i64.wrap (1 + (k : Int)) = ((k + 1 : Nat) : Int) := by rw [wrap_id (by omega) (by omega)]; omega
    rw [e1]
    refine ⟨y, rfl, by omega, idx_val hcy, x, by omega, idx_some hx, fun h1 => ?_, fun h1 => ⟨wrap_succ (by omega), ⟨?_⟩⟩⟩
    · have h1 : decide (y < x) = true := h1
      simp only [needB, h1, Bool.not_true, Bool.false_and]
    · have h1 : decide (y < x) = false := h1
      simp only [needB, h1, Bool.not_false, Bool.true_and]
      exact ih (r.need.length - (k + 1)) (by omega) (k + 1) rfl
  · have hk : r.need.length ≤ k := by simpa using h
    rw [List.drop_of_length_le hk]; simp only [needB]
theorem en17_spec (r : Rul) (c : Val) (s : Int) (ys : List Int) (hc : IsC c s ys) (hl : r.need.length = ys.length) (hl2 : ys.length ≤ 1000) : FSpec PP 151 [dRul r, dV c] σ0 (db (enB r s ys)) σ0 := by
  refine spec_vc mixed fEn17 cEn17 (by kernel_rfl) (by kernel_rfl) (by kernel_rfl) (by kernel_rfl) 34 (by kernel_rfl) [2, 3] (.h (.xs (vVal (lf s))) <| .b .r (.l [ke 2, ke 3, ch 5 (di (0 : Nat))])) ?_
  refine via (by kernel_rfl : (2 = 2 ∧ iz 0 ≤ 0 ∧ (List.map eV (Val.kids c))[Int.toNat 0]? = some (vVal (lf s)) ∧ ((Val.n (lf s) != r.frm) = true → db false = db (enB r s ys)) ∧ ((Val.n (lf s) != r.frm) = false → di 0 = di (↑0 : Int) ∧ Nv.It (RunC (CN (List.length σ0.H)) PP (fun env σ1 => ResOK PP fEn17 env σ1 (db (enB r s ys)) σ0) [KI.lp (sub cEn17 [1, 1, 0, 1, 0, 0]), KI.blk 0, KI.code (sub cEn17 [1, 1, 1])] (mkE 34 [(2, D.v (V.ref (vRul r))), (3, D.v (V.ref (vVal c))), (5, di (↑0 : Int))]) (St.mk [] [])))) = _) ?_
  refine ⟨rfl, by decide, idx_val (i := 0) hc.head, fun h => ?_, fun h => ⟨rfl, ⟨?_⟩⟩⟩
  · have h : (s != r.frm) = true := h
    have h : (s == r.frm) = false := by simpa using h
    simp only [enB, h, Bool.false_and]
  · have h : (s != r.frm) = false := h
    have h : (s == r.frm) = true := by simpa using h
    simp only [enB, h, Bool.true_and]
    exact en17_loop r c s ys hc hl hl2 _ 0 rfl
noncomputable abbrev fEnd17 : Func := Tryz.f95
noncomputable def cEnd17 : Code := fEnd17.body.getD .skip
theorem end17_spec (m : Mod) (hm : m.ok) (hk : m.kind = 1) (i : Nat) (r : Rul) (hi : m.rules[i]? = some r) (c : Val) (hcs : c.size ≤ 1000000) (hv : validB (typM m) c = true) (s : Int) (ys : List Int) (hc : IsC c s ys) (hl : r.need.length = ys.length) (hl2 : ys.length ≤ 1000) : FSpec PP 95 [dMod m, di i, dV c] σ0 (.tup [db (enB r s ys), di 0]) σ0 := by
  refine spec_vc mixed fEnd17 cEnd17 (by kernel_rfl) (by kernel_rfl) (by kernel_rfl) (by kernel_rfl) 26 (by kernel_rfl) [3, 5] (.c (di 0) <| .c (db true) <| .x (vRul r) <| .c (db (enB r s ys)) .r) ?_
  refine via (by kernel_rfl : (FSpec PP 150 [D.v (vMod m), di (↑i : Int)] (St.mk [] []) (di 0) (St.mk [] []) ∧ FSpec PP 28 [D.v (vMod m), D.v (vVal c)] (St.mk [] []) (db true) (St.mk [] []) ∧ 0 ≤ (↑i : Int) ∧ (List.map vRul m.rules)[Int.toNat (↑i : Int)]? = some (vRul r) ∧ FSpec PP 151 [D.v (vRul r), D.v (vVal c)] (St.mk [] []) (db (enB r s ys)) (St.mk [] []) ∧ D.tup [db (enB r s ys), di 0] = D.tup [db (enB r s ys), di 0]) = _) ?_
  have h1 := val15_spec m hm c hcs
  rw [hv] at h1
  exact ⟨flt17_spec m hm hk i (List.getElem?_eq_some_iff.1 hi).1, h1, by omega, idx_some hi, en17_spec r c s ys hc hl hl2, rfl⟩
end Go.Proofs.YtdfdemnbaiieaaaGreat

namespace Go.Proofs.YtdfdemnbaiieaaaGreat
open Go.Dv Go.Nv
set_option maxRecDepth 20000
noncomputable abbrev fAp17 : Func := Tryz.f52
noncomputable def cAp17 : Code := fAp17.body.getD .skip
abbrev cR (r : Rul) : List D := [.v (.str r.name), di r.frm, di r.to, dIs r.need, dIs r.give, dIs r.move, di r.chan, di r.act, di r.letter, dIs r.path, dIs r.next, .v (vTks r.takes), dIs r.makes, di r.second]
def outP : List Val → List Int → List Int → Val × Int
  | xs, w :: ws, g :: gs => if decide (w + g > 1048576) = true then (.mk 0 [], 1) else outP (xs ++ [lf (w + g)]) ws gs
  | xs, _, _ => (.mk 0 xs, 0)
abbrev dP (p : Val × Int) : D := .tup [dV p.1, di p.2]
abbrev outM (xs : List Val) (ws gs : List Int) : D := dP (outP xs ws gs)
def subM (r : Rul) (ys : List Int) : List Int := List.zipWith (fun y n => y - n) ys r.need
abbrev stA (r : Rul) (ws : List Int) : St := ⟨[some [di 0, .v .nils], some (cR r), some (cIs ws)], []⟩
abbrev stB (r : Rul) (ws : List Int) (xs : List Val) : St := ⟨[some [di 0, .v .nils], some (cR r), some (cIs ws), some [di 0, .acc 1 (xs.map eV)]], [(1, 2, xs.map eV)]⟩
theorem ap17_l2 (r : Rul) (ws : List Int) (hw : ws.length ≤ 1000) (hg : r.give.length = ws.length) (hb : ∀ w ∈ ws, -10000000 ≤ w ∧ w ≤ 10000000) (hb2 : ∀ w ∈ r.give, -10000000 ≤ w ∧ w ≤ 10000000) (n : Nat) : ∀ (k : Nat) (xs : List Val), ws.length - k = n → xs.length ≤ k + 1 →
    Rn PP fAp17 0 (outM xs (ws.drop k) (r.give.drop k)) σ0 ([.lp (sub cAp17 [1, 1, 1, 1, 1, 1, 1, 1, 0, 1, 0, 0]), .blk 2, .code (sub cAp17 [1, 1, 1, 1, 1, 1, 1, 1, 1])] ++ []) (mkE 116 [(6, .ptr 0 0), (10, .ptr 1 0), (11, .arr 2 0 ws.length), (14, .ptr 3 0), (15, di k)]) (stB r ws xs) := by
  induction n with
  | zero =>
    intro k xs hn hx
    refine loop_vc mixed 116 [3, 5] (.f .r) ?_
    refine via (by kernel_rfl : (decide ((↑k : Int) < (↑(List.length ws) : Int)) = false ∧ D.tup [D.v (V.agg [vi 0, V.list (List.map eV xs)]), di 0] = outM xs (List.drop k ws) (List.drop k r.give)) = _) ?_
    refine ⟨decide_eq_false (by omega), ?_⟩
    rw [List.drop_of_length_le (show ws.length ≤ k by omega)]
    simp only [outM, outP]; rfl
  | succ n ih =>
    intro k xs hn hx
    obtain ⟨w, hw1⟩ : ∃ w, ws[k]? = some w := ⟨_, List.getElem?_eq_getElem (show k < ws.length by omega)⟩
    obtain ⟨g, hg1⟩ : ∃ g, r.give[k]? = some g := ⟨_, List.getElem?_eq_getElem (show k < r.give.length by omega)⟩
    refine loop_vc mixed 116 [3, 5] (.t <| .m (di w) <| .x (vi g) <| .b .r (.m (.acc 1 (xs.map eV)) <| .m (di w) <| .x (vi g) <| .lo [ke 6, ke 10, ke 11, ke 14, ch 15 (di (k + 1 : Nat))] (stB r ws (xs ++ [lf (w + g)])))) ?_
    refine via (by kernel_rfl : (decide ((↑k : Int) < (↑(List.length ws) : Int)) = true ∧ 0 ≤ (↑k : Int) ∧ (↑k : Int) < (↑(List.length ws) : Int) ∧ (cIs ws)[0 + Int.toNat (↑k : Int) * 1]? = some (di w) ∧ 0 ≤ (↑k : Int) ∧ (List.map vi r.give)[Int.toNat (↑k : Int)]? = some (vi g) ∧ (True ∧ True ∧ True) ∧ (decide (IntKind.wrap IntKind.i64 (w + g) > 1048576) = true → D.tup [D.v (V.agg [vi 0, V.list []]), di 1] = outM xs (List.drop k ws) (List.drop k r.give)) ∧ (decide (IntKind.wrap IntKind.i64 (w + g) > 1048576) = false → some (D.acc 1 (List.map eV xs)) = some (D.acc 1 (List.map eV xs)) ∧ 0 ≤ (↑k : Int) ∧ (↑k : Int) < (↑(List.length ws) : Int) ∧ (cIs ws)[0 + Int.toNat (↑k : Int) * 1]? = some (di w) ∧ 0 ≤ (↑k : Int) ∧ (List.map vi r.give)[Int.toNat (↑k : Int)]? = some (vi g) ∧ List.map eV xs = List.map eV xs ∧ LenOK (List.length (List.map eV xs) + List.length (V.agg (V.int IntKind.i64 (IntKind.wrap IntKind.i64 (w + g)) :: V.list nV :: nV) :: nV)) 32 ∧ (True ∧ True ∧ True ∧ True) ∧ di (IntKind.wrap IntKind.i64 ((↑k : Int) + 1)) = di (↑(k + 1) : Int) ∧ okH 4 [1] [some [di 0, D.v V.nils], some (cR r), some (cIs ws), some [di 0, D.acc 1 (List.map eV xs ++ [V.agg [vi (IntKind.wrap IntKind.i64 (w + g)), V.list []]])]] = true ∧ [some [di 0, D.v V.nils], some (cR r), some (cIs ws), some [di 0, D.acc 1 (List.map eV xs ++ V.agg (vi (IntKind.wrap IntKind.i64 (w + g)) :: V.list nV :: nV) :: nV)]] = [some [di 0, D.v V.nils], some (cR r), some (cIs ws), some [di 0, D.acc 1 (List.map eV (xs ++ [lf (w + g)]))]] ∧ [(1, 2, List.map eV xs ++ V.agg (vi (IntKind.wrap IntKind.i64 (w + g)) :: V.list nV :: nV) :: nV)] = [(1, 2, List.map eV (xs ++ [lf (w + g)]))] ∧ Nv.It (RunC (CN 0) PP (fun env σ1 => ResOK PP fAp17 env σ1 (outM xs (List.drop k ws) (List.drop k r.give)) σ0) [KI.lp (sub cAp17 [1, 1, 1, 1, 1, 1, 1, 1, 0, 1, 0, 0]), KI.blk 2, KI.code (sub cAp17 [1, 1, 1, 1, 1, 1, 1, 1, 1])] (mkE 116 [(6, D.ptr 0 0), (10, D.ptr 1 0), (11, D.arr 2 0 (List.length ws)), (14, D.ptr 3 0), (15, di (↑(k + 1) : Int))]) (stB r ws (xs ++ [lf (w + g)]))))) = _) ?_
    have b1 := hb w (List.mem_of_getElem? hw1)
    have b2 := hb2 g (List.mem_of_getElem? hg1)
    have e1 : IntKind.i64.wrap (w + g) = w + g := wrap_id (by omega) (by omega)
    have e2 : (cIs ws)[0 + Int.toNat (k : Int) * 1]? = some (di w) := by simp [cIs, hw1]
    have e3 : ws.drop k = w :: ws.drop (k + 1) := by rw [List.drop_eq_getElem_cons (by omega)]; congr 1; rw [List.getElem?_eq_getElem (by omega)] at hw1; simpa using hw1
    have e4 : r.give.drop k = g :: r.give.drop (k + 1) := by rw [List.drop_eq_getElem_cons (by omega)]; congr 1; rw [List.getElem?_eq_getElem (by omega)] at hg1; simpa using hg1
    rw [e1, e3, e4]
    refine ⟨decide_eq_true (by omega), by omega, by omega, e2, by omega, idx_some hg1, ⟨trivial, trivial, trivial⟩, fun h => ?_, fun h => ⟨rfl, by omega, by omega, e2, by omega, idx_some hg1, rfl, ⟨?_, ?_⟩, ⟨trivial, trivial, trivial, trivial⟩, wrap_succ (by omega), ?_, ?_, ?_, ⟨?_⟩⟩⟩
    · simp only [outM, outP, h, if_true]; rfl
    · simp only [List.length_map, List.length_cons, List.length_nil]; omega
    · simp only [List.length_map, List.length_cons, List.length_nil]; omega
    · simp [okH, D.okNs, D.okN, okNs_cIs]
    · rw [← append_val]; rfl
    · rw [← append_val]; rfl
    · have := ih (k + 1) (xs ++ [lf (w + g)]) (by omega) (by simp; omega)
      simp only [outM, outP, h, Bool.false_eq_true, if_false]
      exact this
theorem subM_bd {r : Rul} {ys : List Int} (by1 : ∀ y ∈ ys, 0 ≤ y ∧ y ≤ 1048576) (bn : ∀ y ∈ r.need, 0 ≤ y ∧ y ≤ 16) : ∀ w ∈ subM r ys, -10000000 ≤ w ∧ w ≤ 10000000 := by
  intro w hw
  obtain ⟨i, hi⟩ := List.getElem?_of_mem hw
  simp only [subM, List.getElem?_zipWith] at hi
  split at hi
  · rename_i y n h1 h2
    simp at hi
    have := by1 y (List.mem_of_getElem? h1)
    have := bn n (List.mem_of_getElem? h2)
    omega
  · simp at hi
theorem ap17_l1 (r : Rul) (hr : r.move = []) (c : Val) (s : Int) (ys : List Int) (hc : IsC c s ys) (hl : r.need.length = ys.length) (hg : r.give.length = ys.length) (hy : ys.length ≤ 1000) (by1 : ∀ y ∈ ys, 0 ≤ y ∧ y ≤ 1048576) (bn : ∀ y ∈ r.need, 0 ≤ y ∧ y ≤ 16) (bg : ∀ y ∈ r.give, 0 ≤ y ∧ y ≤ 16) (N : Nat) (hN : N = ys.length) (n : Nat) : ∀ (k : Nat) (ws : List Int), N - k = n → ws = (subM r ys).take k ++ List.replicate (N - k) 0 →
    Rn PP fAp17 0 (outM [lf r.to] (subM r ys) r.give) σ0 ([.lp (sub cAp17 [1, 1, 1, 1, 1, 1, 0, 1, 0, 0]), .blk 0, .code (sub cAp17 [1, 1, 1, 1, 1, 1, 1])] ++ []) (mkE 116 [(5, .v (.ref (vVal c))), (6, .ptr 0 0), (10, .ptr 1 0), (11, .arr 2 0 N), (12, di k)]) (stA r ws) := by
  induction n with
  | zero =>
    intro k ws hn hx
    refine loop_vc mixed 116 [3, 5] (.f <| .a 1 <| .h .g <| .lo [ke 6, ke 10, ke 11, ke 14, ch 15 (di (0 : Nat))] (stB r ws [lf r.to])) ?_
    refine via (by kernel_rfl : (decide ((↑k : Int) < (↑N : Int)) = false ∧ di 0 = di (↑0 : Int) ∧ okH 4 [1] [some [di 0, D.v V.nils], some (cR r), some (cIs ws), some [di 0, D.acc 1 [V.agg [vi r.to, V.list []]]]] = true ∧ [some [di 0, D.v V.nils], some (cR r), some (cIs ws), some [di 0, D.acc 1 (V.agg (vi r.to :: V.list nV :: nV) :: nV)]] = [some [di 0, D.v V.nils], some (cR r), some (cIs ws), some [di 0, D.acc 1 (eV (lf r.to) :: nV)]] ∧ [(1, 2, V.agg (vi r.to :: V.list nV :: nV) :: nV)] = [(1, 2, eV (lf r.to) :: nV)] ∧ Nv.It (RunC (CN 0) PP (fun env σ1 => ResOK PP fAp17 env σ1 (outM [lf r.to] (subM r ys) r.give) σ0) [KI.lp (sub cAp17 [1, 1, 1, 1, 1, 1, 1, 1, 0, 1, 0, 0]), KI.blk 2, KI.code (sub cAp17 [1, 1, 1, 1, 1, 1, 1, 1, 1])] (mkE 116 [(6, D.ptr 0 0), (10, D.ptr 1 0), (11, D.arr 2 0 N), (14, D.ptr 3 0), (15, di (↑0 : Int))]) (stB r ws [lf r.to]))) = _) ?_
    have hsl : (subM r ys).length = N := by simp only [subM, List.length_zipWith]; omega
    rw [List.take_of_length_le (by omega), show N - k = 0 from hn, List.replicate_zero, List.append_nil] at hx
    subst hx
    refine ⟨decide_eq_false (by omega), rfl, by simp [okH, D.okNs, D.okN, okNs_cIs], rfl, rfl, ⟨?_⟩⟩
    have := ap17_l2 r (subM r ys) (by omega) (by omega) (subM_bd by1 bn) (fun w hw => by have := bg w hw; omega) _ 0 [lf r.to] rfl (by simp)
    rw [hsl] at this
    exact this
  | succ n ih =>
    intro k ws hn hx
    obtain ⟨ws', hws⟩ : ∃ ws', ws' = (subM r ys).take (k + 1) ++ List.replicate (N - (k + 1)) 0 := ⟨_, rfl⟩
    refine loop_vc mixed 116 [3, 5] (.t <| .f <| .t <| .m (di 0) <| .e fun y : Int => .h (.xs (vVal (lf y))) <| .e fun x : Int => .x (vi x) <| .w <| .lo [ke 5, ke 6, ke 10, ke 11, ch 12 (di (k + 1 : Nat))] (stA r ws')) ?_
    refine via (by kernel_rfl : (decide ((↑k : Int) < (↑N : Int)) = true ∧ decide ((↑(List.length (List.map vi r.move)) : Int) > 0) = false ∧ decide ((↑k : Int) ≥ 0) = true ∧ 0 ≤ (↑k : Int) ∧ (↑k : Int) < (↑N : Int) ∧ (cIs ws)[0 + Int.toNat (↑k : Int) * 1]? = some (di 0) ∧ ∃ a, 2 = 2 ∧ 0 ≤ IntKind.wrap IntKind.i64 (1 + (↑k : Int)) ∧ (List.map eV (Val.kids c))[Int.toNat (IntKind.wrap IntKind.i64 (1 + (↑k : Int)))]? = some (vVal (lf a)) ∧ ∃ a_1, 0 ≤ (↑k : Int) ∧ (List.map vi r.need)[Int.toNat (↑k : Int)]? = some (vi a_1) ∧ 0 ≤ (↑k : Int) ∧ (↑k : Int) < (↑N : Int) ∧ 0 + Int.toNat (↑k : Int) * 1 < List.length (cIs ws) ∧ (True ∧ True ∧ True) ∧ di (IntKind.wrap IntKind.i64 ((↑k : Int) + 1)) = di (↑(k + 1) : Int) ∧ okH 3 [] [some [di 0, D.v V.nils], some (cR r), some (List.set (cIs ws) (0 + Int.toNat (↑k : Int) * 1) (di (IntKind.wrap IntKind.i64 (0 + IntKind.wrap IntKind.i64 (Val.n (lf a) - a_1)))))] = true ∧ [some [di 0, D.v V.nils], some (cR r), some (List.set (cIs ws) (0 + Int.toNat (↑k : Int) * 1) (di (IntKind.wrap IntKind.i64 (0 + IntKind.wrap IntKind.i64 (Val.n (lf a) - a_1)))))] = [some [di 0, D.v V.nils], some (cR r), some (cIs ws')] ∧ Nv.It (RunC (CN 0) PP (fun env σ1 => ResOK PP fAp17 env σ1 (outM [lf r.to] (subM r ys) r.give) σ0) [KI.lp (sub cAp17 [1, 1, 1, 1, 1, 1, 0, 1, 0, 0]), KI.blk 0, KI.code (sub cAp17 [1, 1, 1, 1, 1, 1, 1])] (mkE 116 [(5, D.v (V.ref (vVal c))), (6, D.ptr 0 0), (10, D.ptr 1 0), (11, D.arr 2 0 N), (12, di (↑(k + 1) : Int))]) (stA r ws'))) = _) ?_
    have hsl : (subM r ys).length = N := by simp only [subM, List.length_zipWith]; omega
    have hk : k < N := by omega
    have hy1 : ys[k]? = some ys[k] := List.getElem?_eq_getElem (by omega)
    have hn1 : r.need[k]? = some r.need[k] := List.getElem?_eq_getElem (by omega)
    have hs1 : (subM r ys)[k]? = some (ys[k] - r.need[k]) := by simp only [subM, List.getElem?_zipWith, hy1, hn1]
    have hcy := hc.at' k _ hy1
    have b1 := by1 _ (List.mem_of_getElem? hy1)
    have b2 := bn _ (List.mem_of_getElem? hn1)
    generalize ys[k] = y at *
    generalize r.need[k] = x at *
    have htl : ((subM r ys).take k).length = k := by rw [List.length_take]; omega
    have hw0 : ws[k]? = some 0 := by
      rw [hx, List.getElem?_append_right (by omega), htl, Nat.sub_self, List.getElem?_replicate, if_pos (by omega)]
    have hset : ws.set k (y - x) = ws' := by
      rw [hx, hws, List.set_append_right _ _ (by omega), htl, Nat.sub_self, show N - k = (N - (k + 1)) + 1 by omega, List.replicate_succ, List.set_cons_zero]
      obtain ⟨hlt, he⟩ := List.getElem?_eq_some_iff.1 hs1
      rw [List.take_succ_eq_append_getElem hlt, he, List.append_assoc]; rfl
    have hwl : ws.length = N := by rw [hx, List.length_append, htl, List.length_replicate]; omega
    have e1 : IntKind.i64.wrap (1 + (k : Int)) = ((k + 1 : Nat) : Int) := by rw [wrap_id (by omega) (by omega)]; omega
    have e2 : IntKind.i64.wrap (0 + IntKind.i64.wrap (Val.n (lf y) - x)) = y - x := by
      rw [show Val.n (lf y) = y from rfl, wrap_id (n := y - x) (by omega) (by omega), wrap_id (by omega) (by omega)]; omega
    have e3 : List.set (cIs ws) (0 + Int.toNat (k : Int) * 1) (di (y - x)) = cIs ws' := by
      rw [← hset, show 0 + Int.toNat (k : Int) * 1 = k by simp]; simp [cIs, List.map_set]
    refine ⟨decide_eq_true (by omega), gt0 _ hr, decide_eq_true (by omega), by omega, by omega, by simp [cIs, hw0], y, rfl, by rw [e1]; omega, by rw [e1]; exact idx_val hcy, x, by omega, idx_some hn1, by omega, by omega, by simp [cIs]; omega, ⟨trivial, trivial, trivial⟩, wrap_succ (by omega), ?_, ?_, ⟨ih (k + 1) ws' (by omega) hws⟩⟩
    · rw [e2, e3]; simp [okH, D.okNs, D.okN, okNs_cIs]
    · rw [e2, e3]
def apM (r : Rul) (s : Int) (ys : List Int) : Val × Int := if enB r s ys = true then outP [lf r.to] (subM r ys) r.give else (.mk 0 [], 18)
theorem ap17_spec (m : Mod) (hm : m.ok) (hk : m.kind = 1) (i : Nat) (r : Rul) (hi : m.rules[i]? = some r) (hr : r.move = []) (c : Val) (hcs : c.size ≤ 1000000) (hv : validB (typM m) c = true) (s : Int) (ys : List Int) (hc : IsC c s ys) (hl : r.need.length = ys.length) (hg : r.give.length = ys.length) (hy : ys.length ≤ 1000) (by1 : ∀ y ∈ ys, 0 ≤ y ∧ y ≤ 1048576) (bn : ∀ y ∈ r.need, 0 ≤ y ∧ y ≤ 16) (bg : ∀ y ∈ r.give, 0 ≤ y ∧ y ≤ 16) :
    FSpec PP 52 [dMod m, di i, dV c] σ0 (dP (apM r s ys)) σ0 := by
  have he := end17_spec m hm hk i r hi c hcs hv s ys hc hl hy
  cases hb : enB r s ys with
  | false =>
    rw [hb] at he
    refine spec_vc mixed fAp17 cAp17 (by kernel_rfl) (by kernel_rfl) (by kernel_rfl) (by kernel_rfl) 116 (by kernel_rfl) [3, 5] (.c (.tup [db false, di 0]) .r) ?_
    refine via (by kernel_rfl : (FSpec PP 95 [D.v (vMod m), di (↑i : Int), D.v (vVal c)] (St.mk [] []) (D.tup [db false, di 0]) (St.mk [] []) ∧ D.tup [D.v (V.agg [vi 0, V.list []]), di 18] = dP (apM r s ys)) = _) ?_
    exact ⟨he, by rw [apM, hb]; rfl⟩
  | true =>
    rw [hb] at he
    obtain ⟨N, hN⟩ : ∃ N, N = ys.length := ⟨_, rfl⟩
    obtain ⟨ws, hws⟩ : ∃ ws : List Int, ws = List.replicate N 0 := ⟨_, rfl⟩
    refine spec_vc mixed fAp17 cAp17 (by kernel_rfl) (by kernel_rfl) (by kernel_rfl) (by kernel_rfl) 116 (by kernel_rfl) [3, 5] (.c (.tup [db true, di 0]) <| .x (vRul r) <| .lo [ke 5, ke 6, ke 10, ch 11 (.arr 2 0 N), ch 12 (di (0 : Nat))] (stA r ws)) ?_
    refine via (by kernel_rfl : (FSpec PP 95 [D.v (vMod m), di (↑i : Int), D.v (vVal c)] (St.mk [] []) (D.tup [db true, di 0]) (St.mk [] []) ∧ 0 ≤ (↑i : Int) ∧ (List.map vRul m.rules)[Int.toNat (↑i : Int)]? = some (vRul r) ∧ (↑(List.length (List.map vi r.need)) : Int) = (↑(List.length (List.map vi r.need)) : Int) ∧ 0 ≤ (↑(List.length (List.map vi r.need)) : Int) ∧ (8 : Int) * (↑(List.length (List.map vi r.need)) : Int) ≤ 281474976710656 ∧ (↑(List.length (List.map vi r.need)) : Int) ≤ 9223372036854775807 ∧ D.arr 2 0 (Int.toNat (↑(List.length (List.map vi r.need)) : Int)) = D.arr 2 0 N ∧ di 0 = di (↑0 : Int) ∧ okH 3 [] [some [di 0, D.v V.nils], some [D.v (V.str r.name), di r.frm, di r.to, D.v (vIs r.need), D.v (vIs r.give), D.v (vIs r.move), di r.chan, di r.act, di r.letter, D.v (vIs r.path), D.v (vIs r.next), D.v (vTks r.takes), D.v (vIs r.makes), di r.second], some (List.replicate (Int.toNat (↑(List.length (List.map vi r.need)) : Int)) (di 0))] = true ∧ [some [di 0, D.v V.nils], some [D.v (V.str r.name), di r.frm, di r.to, D.v (vIs r.need), D.v (vIs r.give), D.v (vIs r.move), di r.chan, di r.act, di r.letter, D.v (vIs r.path), D.v (vIs r.next), D.v (vTks r.takes), D.v (vIs r.makes), di r.second], some (List.replicate (Int.toNat (↑(List.length (List.map vi r.need)) : Int)) (di 0))] = [some [di 0, D.v V.nils], some (cR r), some (cIs ws)] ∧ Nv.It (RunC (CN (List.length σ0.H)) PP (fun env σ1 => ResOK PP fAp17 env σ1 (dP (apM r s ys)) σ0) [KI.lp (sub cAp17 [1, 1, 1, 1, 1, 1, 0, 1, 0, 0]), KI.blk 0, KI.code (sub cAp17 [1, 1, 1, 1, 1, 1, 1])] (mkE 116 [(5, D.v (V.ref (vVal c))), (6, D.ptr 0 0), (10, D.ptr 1 0), (11, D.arr 2 0 N), (12, di (↑0 : Int))]) (stA r ws))) = _) ?_
    have hlen : Int.toNat ((r.need.map vi).length : Int) = N := by rw [List.length_map, Int.toNat_natCast]; omega
    have hrep : List.replicate N (di 0) = cIs ws := by rw [hws, cIs, List.map_replicate]
    rw [hlen, hrep]
    refine ⟨he, by omega, idx_some hi, rfl, by omega, by rw [List.length_map]; omega, by rw [List.length_map]; omega, rfl, rfl, by simp [okH, D.okNs, D.okN, okNs_cIs], rfl, ⟨?_⟩⟩
    have := ap17_l1 r hr c s ys hc hl hg hy by1 bn bg N hN _ 0 ws rfl (by rw [hws]; simp)
    rw [apM, if_pos hb]
    exact this
end Go.Proofs.YtdfdemnbaiieaaaGreat

namespace Go.Proofs.YtdfdemnbaiieaaaGreat
open Go.Dv Go.Nv
set_option maxRecDepth 20000
noncomputable abbrev fKd22 : Func := Tryz.f27
noncomputable def cKd22 : Code := fKd22.body.getD .skip
theorem kd22_spec (m : Mod) (hm : m.ok) : FSpec PP 27 [dMod m] σ0 (di 0) σ0 := by
  refine spec_vc mixed fKd22 cKd22 (by kernel_rfl) (by kernel_rfl) (by kernel_rfl) (by kernel_rfl) 12 (by kernel_rfl) [1] (.c (di 0) <| .k <| .f .r) ?_
  refine via (by kernel_rfl : (FSpec PP 46 [D.v (vMod m)] (St.mk [] []) (di 0) (St.mk [] []) ∧ (m.kind == 6) = false ∧ di 0 = di 0) = _) ?_
  exact ⟨chk15_spec m hm, by rcases hm.kind with h | h | h <;> rw [h] <;> rfl, rfl⟩
noncomputable abbrev fQt22 : Func := Tryz.f49
noncomputable def cQt22 : Code := fQt22.body.getD .skip
theorem qt22_c (m : Mod) (hm : m.ok) (hk : m.kind = 1) (c : Val) (hcs : c.size ≤ 1000000) (hv : validB (typM m) c = true) : FSpec PP 49 [dMod m, dV c] σ0 (.tup [dl [], di 0]) σ0 := by
  refine spec_vc mixed fQt22 cQt22 (by kernel_rfl) (by kernel_rfl) (by kernel_rfl) (by kernel_rfl) 38 (by kernel_rfl) [2, 3] (.c (di 0) <| .c (db true) <| .k <| .f <| .f <| .f .r) ?_
  refine via (by kernel_rfl : (FSpec PP 27 [D.v (vMod m)] (St.mk [] []) (di 0) (St.mk [] []) ∧ FSpec PP 28 [D.v (vMod m), D.v (vVal c)] (St.mk [] []) (db true) (St.mk [] []) ∧ (m.kind == 2) = false ∧ (m.kind == 3) = false ∧ (m.kind == 5) = false ∧ D.tup [D.v (V.list []), di 0] = D.tup [dl [], di 0]) = _) ?_
  have h1 := val15_spec m hm c hcs
  rw [hv] at h1
  exact ⟨kd22_spec m hm, h1, by rw [hk]; rfl, by rw [hk]; rfl, by rw [hk]; rfl, rfl⟩
noncomputable abbrev fAp22 : Func := Tryz.f29
noncomputable def cAp22 : Code := fAp22.body.getD .skip
def oneP (p : Val × Int) : List Val × Int := if (p.2 == 18) = true then ([], 0) else if (p.2 != 0) = true then ([], p.2) else ([p.1], 0)
abbrev dLP (p : List Val × Int) : D := .tup [dVs p.1, di p.2]
theorem ap22_q (m : Mod) (hm : m.ok) (hk : m.kind = 1) (c : Val) (hcs : c.size ≤ 1000000) (hv : validB (typM m) c = true) : FSpec PP 29 [dMod m, di (-1), dV c] σ0 (dLP ([], 0)) σ0 := by
  refine spec_vc mixed fAp22 cAp22 (by kernel_rfl) (by kernel_rfl) (by kernel_rfl) (by kernel_rfl) 78 (by kernel_rfl) [3, 5] (.c (di 0) <| .k <| .k <| .f <| .c (db true) <| .c (.tup [dl [], di 0]) .r) ?_
  refine via (by kernel_rfl : (FSpec PP 27 [D.v (vMod m)] (St.mk [] []) (di 0) (St.mk [] []) ∧ decide (-1 ≥ (↑(List.length (List.map vRul m.rules)) : Int)) = false ∧ FSpec PP 28 [D.v (vMod m), D.v (vVal c)] (St.mk [] []) (db true) (St.mk [] []) ∧ FSpec PP 49 [D.v (vMod m), D.v (vVal c)] (St.mk [] []) (D.tup [dl [], di 0]) (St.mk [] []) ∧ D.tup [D.v (V.list []), di 0] = dLP ([], 0)) = _) ?_
  have h1 := val15_spec m hm c hcs
  rw [hv] at h1
  exact ⟨kd22_spec m hm, decide_eq_false (by omega), h1, qt22_c m hm hk c hcs hv, rfl⟩
theorem ap22_c (m : Mod) (hm : m.ok) (hk : m.kind = 1) (i : Nat) (hi : i < m.rules.length) (c : Val) (hcs : c.size ≤ 1000000) (hv : validB (typM m) c = true) (p : Val × Int) (hp : FSpec PP 52 [dMod m, di i, dV c] σ0 (dP p) σ0) :
    FSpec PP 29 [dMod m, di i, dV c] σ0 (dLP (oneP p)) σ0 := by
  refine spec_vc mixed fAp22 cAp22 (by kernel_rfl) (by kernel_rfl) (by kernel_rfl) (by kernel_rfl) 78 (by kernel_rfl) [3, 5] (.c (di 0) <| .k <| .f <| .f <| .c (db true) <| .k <| .f <| .f <| .f <| .c (dP p) <| .f <| .b .r (.b .r .r)) ?_
  refine via (by kernel_rfl : (FSpec PP 27 [D.v (vMod m)] (St.mk [] []) (di 0) (St.mk [] []) ∧ decide ((↑i : Int) < -1) = false ∧ decide ((↑i : Int) ≥ (↑(List.length (List.map vRul m.rules)) : Int)) = false ∧ FSpec PP 28 [D.v (vMod m), D.v (vVal c)] (St.mk [] []) (db true) (St.mk [] []) ∧ ((↑i : Int) == -1) = false ∧ (m.kind == 4) = false ∧ (m.kind == 5) = false ∧ FSpec PP 52 [D.v (vMod m), di (↑i : Int), D.v (vVal c)] (St.mk [] []) (dP p) (St.mk [] []) ∧ (m.kind != 1) = false ∧ ((p.snd == 18) = true → D.tup [D.v (V.list []), di 0] = dLP (oneP p)) ∧ ((p.snd == 18) = false → ((p.snd != 0) = true → D.tup [D.v (V.list []), di p.snd] = dLP (oneP p)) ∧ ((p.snd != 0) = false → D.tup [D.v (V.list [V.agg [vi (Val.n p.fst), vVs (Val.kids p.fst)]]), di 0] = dLP (oneP p)))) = _) ?_
  have h1 := val15_spec m hm c hcs
  rw [hv] at h1
  refine ⟨kd22_spec m hm, decide_eq_false (by omega), by rw [List.length_map]; exact decide_eq_false (by omega), h1, beq_eq_false_iff_ne.2 (by omega), by rw [hk]; rfl, by rw [hk]; rfl, hp, by rw [hk]; rfl, fun h => ?_, fun h => ⟨fun h2 => ?_, fun h2 => ?_⟩⟩
  · rw [oneP, if_pos h]; rfl
  · rw [oneP, if_neg (by rw [h]; decide), if_pos h2]; rfl
  · rw [oneP, if_neg (by rw [h]; decide), if_neg (by rw [h2]; decide)]
    show _ = D.tup [.v (.list [eV p.1]), di 0]
    rw [enc_eq]
end Go.Proofs.YtdfdemnbaiieaaaGreat

namespace Go.Proofs.YtdfdemnbaiieaaaGreat
open Go.Dv Go.Nv
set_option maxRecDepth 20000
abbrev Stp := Int × Val
abbrev vSt (s : Stp) : V := .agg [vi s.1, vi s.2.n, vVs s.2.kids]
abbrev vSts (l : List Stp) : V := .list (l.map vSt)
noncomputable abbrev fAll22 : Func := Tryz.f12
noncomputable def cAll22 : Code := fAll22.body.getD .skip
abbrev accP (l : List Stp) : D := .acc 1 (l.map vSt)
abbrev ownP (l : List Stp) : St := ⟨[], [(1, 3, l.map vSt)]⟩
theorem vSt_snoc (l : List Stp) (s : Stp) : l.map vSt ++ [vSt s] = (l ++ [s]).map vSt := by simp
def allP (ap : Int → List Val × Int) : Nat → Int → List Stp → List Stp × Int
  | 0, _, acc => if decide ((acc.length : Int) > 256) = true then ([], 1) else (acc, 0)
  | n + 1, i, acc => if ((ap i).2 != 0) = true then ([], (ap i).2) else allP ap n (i + 1) (acc ++ (ap i).1.map fun v => (i, v))
abbrev dSP (p : List Stp × Int) : D := .tup [.v (vSts p.1), di p.2]
theorem all22_in (m : Mod) (c : Val) (rl : Int) (hr1 : -1 ≤ rl) (hr2 : rl ≤ 1000) (l : List Val) (hl0 : l.length ≤ 1000) (p : List Stp × Int) (fin : List Stp) (hf : fin.length ≤ 100000)
    (hout : Rn PP fAll22 0 (dSP p) σ0 ([.lp (sub cAll22 [1, 1, 1, 1, 0, 1, 0, 0]), .blk 0, .code (sub cAll22 [1, 1, 1, 1, 1])] ++ []) (mkE 57 [(2, .v (.ref (vMod m))), (3, .v (.ref (vVal c))), (7, accP fin), (8, di (rl + 1))]) (ownP fin)) (n : Nat) : ∀ (k : Nat) (xs : List Stp), l.length - k = n → xs ++ (l.drop k).map (fun v => (rl, v)) = fin →
    Rn PP fAll22 0 (dSP p) σ0 ([.lp (sub cAll22 [1, 1, 1, 1, 0, 1, 0, 0, 1, 0, 0, 1, 1, 1, 0, 0]), .blk 2, .blk 1, .code (sub cAll22 [1, 1, 1, 1, 0, 1, 0, 0, 1, 1]), .lp (sub cAll22 [1, 1, 1, 1, 0, 1, 0, 0]), .blk 0, .code (sub cAll22 [1, 1, 1, 1, 1])] ++ []) (mkE 57 [(2, .v (.ref (vMod m))), (3, .v (.ref (vVal c))), (7, accP xs), (8, di rl), (9, dVs l), (11, di k)]) (ownP xs) := by
  induction n with
  | zero =>
    intro k xs hn hx
    rw [List.drop_of_length_le (by omega), List.map_nil, List.append_nil] at hx
    subst hx
    refine loop_vc mixed 57 [2, 3] (.f <| .l [ke 2, ke 3, ke 7, ch 8 (di (rl + 1))]) ?_
    refine via (by kernel_rfl : (decide ((↑k : Int) < (↑(List.length (List.map eV l)) : Int)) = false ∧ di (IntKind.wrap IntKind.i64 (rl + 1)) = di (rl + 1) ∧ Nv.It (RunC (CN 0) PP (fun env σ1 => ResOK PP fAll22 env σ1 (dSP p) σ0) [KI.lp (sub cAll22 [1, 1, 1, 1, 0, 1, 0, 0]), KI.blk 0, KI.code (sub cAll22 [1, 1, 1, 1, 1])] (mkE 57 [(2, D.v (V.ref (vMod m))), (3, D.v (V.ref (vVal c))), (7, D.acc 1 (List.map vSt xs)), (8, di (rl + 1))]) (ownP xs))) = _) ?_
    exact ⟨by rw [List.length_map]; exact decide_eq_false (by omega), by rw [wrap_id (by omega) (by omega)], ⟨hout⟩⟩
  | succ n ih =>
    intro k xs hn hx
    have hk : k < l.length := by omega
    have hv : l[k]? = some l[k] := List.getElem?_eq_getElem hk
    rw [List.drop_eq_getElem_cons hk] at hx
    generalize l[k] = v at hv hx
    have hlen := congrArg List.length hx
    simp only [List.length_append, List.length_map, List.length_cons, List.length_drop] at hlen
    refine loop_vc mixed 57 [2, 3] (.t <| .x (vVal v) <| .w <| .ls [ke 2, ke 3, ch 7 (accP (xs ++ [(rl, v)])), ke 8, ke 9, ch 11 (di (k + 1 : Nat))] (ownP (xs ++ [(rl, v)]))) ?_
    refine via (by kernel_rfl : (decide ((↑k : Int) < (↑(List.length (List.map eV l)) : Int)) = true ∧ 0 ≤ (↑k : Int) ∧ (List.map eV l)[Int.toNat (↑k : Int)]? = some (vVal v) ∧ List.map vSt xs = List.map vSt xs ∧ LenOK (List.length (List.map vSt xs) + List.length (V.agg (V.int IntKind.i64 rl :: vi (Val.n v) :: vVs (Val.kids v) :: nV) :: nV)) 40 ∧ (∀ (y : V), y ∈ [V.agg [vi rl, vi (Val.n v), vVs (Val.kids v)]] → V.size y = 3) ∧ D.acc 1 (List.map vSt xs ++ [V.agg [vi rl, vi (Val.n v), vVs (Val.kids v)]]) = accP (xs ++ [(rl, v)]) ∧ di (IntKind.wrap IntKind.i64 ((↑k : Int) + 1)) = di (↑(k + 1) : Int) ∧ [(1, 3, List.map vSt xs ++ V.agg (vi rl :: vi (Val.n v) :: vVs (Val.kids v) :: nV) :: nV)] = [(1, 3, List.map vSt (xs ++ [(rl, v)]))] ∧ Nv.It (RunC (CN 0) PP (fun env σ1 => ResOK PP fAll22 env σ1 (dSP p) σ0) [KI.lp (sub cAll22 [1, 1, 1, 1, 0, 1, 0, 0, 1, 0, 0, 1, 1, 1, 0, 0]), KI.blk 2, KI.blk 1, KI.code (sub cAll22 [1, 1, 1, 1, 0, 1, 0, 0, 1, 1]), KI.lp (sub cAll22 [1, 1, 1, 1, 0, 1, 0, 0]), KI.blk 0, KI.code (sub cAll22 [1, 1, 1, 1, 1])] (mkE 57 [(2, D.v (V.ref (vMod m))), (3, D.v (V.ref (vVal c))), (7, accP (xs ++ [(rl, v)])), (8, di rl), (9, D.v (vVs l)), (11, di (↑(k + 1) : Int))]) (ownP (xs ++ [(rl, v)])))) = _) ?_
    refine ⟨by rw [List.length_map]; exact decide_eq_true (by omega), by omega, idx_val hv, rfl, ⟨?_, ?_⟩, by simp [V.size], ?_, wrap_succ (by omega), ?_, ⟨ih (k + 1) (xs ++ [(rl, v)]) (by omega) (by rw [← hx]; simp)⟩⟩
    · simp only [List.length_map, List.length_cons, List.length_nil]; omega
    · simp only [List.length_map, List.length_cons, List.length_nil]; omega
    · rw [accP, ← vSt_snoc]
    · rw [← vSt_snoc]
theorem all22_loop (m : Mod) (hm : m.rules.length ≤ 12) (c : Val) (ap : Int → List Val × Int) (hl : ∀ i, (ap i).1.length ≤ 1000) (hap : ∀ i : Int, -1 ≤ i → i < m.rules.length → FSpec PP 29 [dMod m, di i, dV c] σ0 (dLP (ap i)) σ0) (n : Nat) : ∀ (rl : Int) (xs : List Stp), -1 ≤ rl → rl ≤ m.rules.length → (m.rules.length - rl).toNat = n → xs.length ≤ (rl + 1).toNat * 1000 →
    Rn PP fAll22 0 (dSP (allP ap n rl xs)) σ0 ([.lp (sub cAll22 [1, 1, 1, 1, 0, 1, 0, 0]), .blk 0, .code (sub cAll22 [1, 1, 1, 1, 1])] ++ []) (mkE 57 [(2, .v (.ref (vMod m))), (3, .v (.ref (vVal c))), (7, accP xs), (8, di rl)]) (ownP xs) := by
  induction n with
  | zero =>
    intro rl xs h1 h2 hn hx
    refine loop_vc mixed 57 [2, 3] (.f <| .b .r .r) ?_
    refine via (by kernel_rfl : (decide (rl < (↑(List.length (List.map vRul m.rules)) : Int)) = false ∧ (decide ((↑(List.length (List.map vSt xs)) : Int) > 256) = true → D.tup [D.v (V.list []), di 1] = dSP (allP ap 0 rl xs)) ∧ (decide ((↑(List.length (List.map vSt xs)) : Int) > 256) = false → D.tup [D.v (V.list (List.map vSt xs)), di 0] = dSP (allP ap 0 rl xs))) = _) ?_
    refine ⟨by rw [List.length_map]; exact decide_eq_false (by omega), fun h => ?_, fun h => ?_⟩
    · rw [List.length_map] at h; rw [allP, if_pos h]; rfl
    · rw [List.length_map] at h; rw [allP, if_neg (by rw [h]; decide)]
  | succ n ih =>
    intro rl xs h1 h2 hn hx
    have hp := hap rl h1 (by omega)
    have hi := ih (rl + 1) (xs ++ (ap rl).1.map fun v => (rl, v)) (by omega) (by omega) (by omega) (by have := hl rl; simp only [List.length_append, List.length_map]; omega)
    have hll := hl rl
    rw [allP]
    generalize ap rl = q at *
    refine loop_vc mixed 57 [2, 3] (.t <| .c (dLP q) <| .b .r (.l [ke 2, ke 3, ke 7, ke 8, ke 9, ch 11 (di (0 : Nat))])) ?_
    refine via (by kernel_rfl : (decide (rl < (↑(List.length (List.map vRul m.rules)) : Int)) = true ∧ FSpec PP 29 [D.v (vMod m), di rl, D.v (vVal c)] (St.mk [] []) (dLP q) (St.mk [] []) ∧ ((q.snd != 0) = true → D.tup [D.v (V.list []), di q.snd] = dSP (if (q.snd != 0) = true then ([], q.snd) else allP ap n (rl + 1) (xs ++ List.map (fun v => (rl, v)) q.fst))) ∧ ((q.snd != 0) = false → di 0 = di (↑0 : Int) ∧ Nv.It (RunC (CN 0) PP (fun env σ1 => ResOK PP fAll22 env σ1 (dSP (if (q.snd != 0) = true then ([], q.snd) else allP ap n (rl + 1) (xs ++ List.map (fun v => (rl, v)) q.fst))) σ0) [KI.lp (sub cAll22 [1, 1, 1, 1, 0, 1, 0, 0, 1, 0, 0, 1, 1, 1, 0, 0]), KI.blk 2, KI.blk 1, KI.code (sub cAll22 [1, 1, 1, 1, 0, 1, 0, 0, 1, 1]), KI.lp (sub cAll22 [1, 1, 1, 1, 0, 1, 0, 0]), KI.blk 0, KI.code (sub cAll22 [1, 1, 1, 1, 1])] (mkE 57 [(2, D.v (V.ref (vMod m))), (3, D.v (V.ref (vVal c))), (7, D.acc 1 (List.map vSt xs)), (8, di rl), (9, dVs q.fst), (11, di (↑0 : Int))]) (ownP xs)))) = _) ?_
    refine ⟨by rw [List.length_map]; exact decide_eq_true (by omega), hp, fun h => ?_, fun h => ⟨rfl, ⟨?_⟩⟩⟩
    · rw [if_pos h]; rfl
    · rw [if_neg (by rw [h]; decide)]
      exact all22_in m c rl h1 (by omega) q.1 hll _ _ (by simp only [List.length_append, List.length_map]; omega) hi _ 0 xs rfl (by simp)
theorem all22_spec (m : Mod) (hm : m.ok) (c : Val) (hcs : c.size ≤ 1000000) (hv : validB (typM m) c = true) (ap : Int → List Val × Int) (hl : ∀ i, (ap i).1.length ≤ 1000) (hap : ∀ i : Int, -1 ≤ i → i < m.rules.length → FSpec PP 29 [dMod m, di i, dV c] σ0 (dLP (ap i)) σ0) :
    FSpec PP 12 [dMod m, dV c] σ0 (dSP (allP ap (m.rules.length + 1) (-1) [])) σ0 := by
  have hsz := hm.sz
  have h1 := val15_spec m hm c hcs
  rw [hv] at h1
  refine spec_vc mixed fAll22 cAll22 (by kernel_rfl) (by kernel_rfl) (by kernel_rfl) (by kernel_rfl) 57 (by kernel_rfl) [2, 3] (.c (di 0) <| .c (db true) <| .h (.q 7 0) <| .h (.nw 7 1 3) <| .ls [ke 2, ke 3, ke 7, ch 8 (di (-1))] (ownP [])) ?_
  refine via (by kernel_rfl : (FSpec PP 27 [D.v (vMod m)] (St.mk [] []) (di 0) (St.mk [] []) ∧ FSpec PP 28 [D.v (vMod m), D.v (vVal c)] (St.mk [] []) (db true) (St.mk [] []) ∧ di (-1) = di (-1) ∧ [(1, 3, nV)] = [(1, 3, nV)] ∧ Nv.It (RunC (CN (List.length σ0.H)) PP (fun env σ1 => ResOK PP fAll22 env σ1 (dSP (allP ap (List.length m.rules + 1) (-1) [])) σ0) [KI.lp (sub cAll22 [1, 1, 1, 1, 0, 1, 0, 0]), KI.blk 0, KI.code (sub cAll22 [1, 1, 1, 1, 1])] (mkE 57 [(2, D.v (V.ref (vMod m))), (3, D.v (V.ref (vVal c))), (7, D.acc 1 []), (8, di (-1))]) (ownP []))) = _) ?_
  refine ⟨kd22_spec m hm, h1, rfl, rfl, ⟨?_⟩⟩
  exact all22_loop m (by omega) c ap hl hap (m.rules.length + 1) (-1) [] (by omega) (by omega) (by omega) (by simp)
end Go.Proofs.YtdfdemnbaiieaaaGreat

namespace Go.Proofs.YtdfdemnbaiieaaaGreat
open Go.Dv Go.Nv
set_option maxRecDepth 20000
noncomputable abbrev fNew : Func := Tryz.f6
noncomputable def cNew : Code := fNew.body.getD .skip
theorem new_spec (s : List UInt8) : FSpec PP 6 [.v (vBs s)] σ0 (.ptr 0 0) (dz (s.take 200) 0) := by
  by_cases h : s.length > 200
  · refine spec_vc mixed fNew cNew (by kernel_rfl) (by kernel_rfl) (by kernel_rfl) (by kernel_rfl) 11 (by kernel_rfl) [] (.t .ro) ?_
    refine via (by kernel_rfl : (decide ((↑(List.length (List.map vb s)) : Int) > 200) = true ∧ (∀ (x : V), x ∈ List.map vb s → V.size x = 1) ∧ 0 ≤ (200 : Int) ∧ (200 : Int) ≤ (↑(List.length (List.map vb s)) : Int) ∧ okH 1 [] [some [D.v (V.list (List.drop 0 (List.take (Int.toNat ((200 : Int))) (List.map vb s)))), di 0]] = true ∧ [some [D.v (V.list (List.drop 0 (List.take (Int.toNat ((200 : Int))) (List.map vb s)))), di 0]] = [some (cDz (List.take 200 s) 0)] ∧ D.ptr 0 0 = D.ptr 0 0) = _) ?_
    have e : (s.take 200).map vb = List.drop 0 (List.take (Int.toNat 200) (s.map vb)) := by rw [List.map_take]; rfl
    refine ⟨by rw [List.length_map]; exact decide_eq_true (by omega), by simp [V.size], by decide, by show (200 : Int) ≤ _; rw [List.length_map]; omega, rfl, ?_, rfl⟩
    rw [cDz, vBs, e]; rfl
  · refine spec_vc mixed fNew cNew (by kernel_rfl) (by kernel_rfl) (by kernel_rfl) (by kernel_rfl) 11 (by kernel_rfl) [] (.f .ro) ?_
    refine via (by kernel_rfl : (decide ((↑(List.length (List.map vb s)) : Int) > 200) = false ∧ okH 1 [] [some [D.v (vBs s), di 0]] = true ∧ [some [D.v (vBs s), di 0]] = [some (cDz (List.take 200 s) 0)] ∧ D.ptr 0 0 = D.ptr 0 0) = _) ?_
    refine ⟨by rw [List.length_map]; exact decide_eq_false (by omega), rfl, ?_, rfl⟩
    rw [List.take_of_length_le (by omega)]; rfl
end Go.Proofs.YtdfdemnbaiieaaaGreat
