/-
  The reference's side: types of configurations, which models are right: walked.
-/
import Derived.Test.YtopbcpgmffppjaaGreatDoorEd
namespace Go.Proofs.YtopbcpgmffppjaaGreatDoor
open Go.Dv Go.Nv
set_option maxRecDepth 20000
/- VALID TYPES -/
/- WHICH VALUES ARE OF A TYPE -/
end Go.Proofs.YtopbcpgmffppjaaGreatDoor


namespace Go.Proofs.YtopbcpgmffppjaaGreatDoor
open Go.Dv Go.Nv
set_option maxRecDepth 20000
abbrev vBs (l : List UInt8) : V := .list (l.map vb)
abbrev cDz (l : List UInt8) (a : Nat) : List D := [.v (vBs l), di a]
abbrev dz (l : List UInt8) (a : Nat) : St := ⟨[some (cDz l a)], []⟩
noncomputable abbrev fPick : Func := Tryz.f18
noncomputable def cPick : Code := fPick.body.getD .skip
theorem pick_ex (l : List UInt8) (hl : l.length ≤ 200) (a : Nat) (ha : a ≤ l.length) (n : Int) (hn : 1 ≤ n) (hn2 : n ≤ 1000) :
    ∃ (r : Int) (a' : Nat), 0 ≤ r ∧ r < n ∧ a' ≤ l.length ∧ FSpec PP 18 [.ptr 0 0, di n] (dz l a) (di r) (dz l a') := by
  by_cases h : a < l.length
  · refine ⟨(l[a].toNat : Int) % n, a + 1, Int.emod_nonneg _ (by omega), Int.emod_lt_of_pos _ (by omega), h, ?_⟩
    refine spec_vc mixed fPick cPick (by kernel_rfl) (by kernel_rfl) (by kernel_rfl) (by kernel_rfl) 36 (by kernel_rfl) [] (.f <| .x (vb l[a]) .r) ?_
    refine via (by kernel_rfl : ((True ∧ True ∧ True) ∧ decide ((↑a : Int) ≥ (↑(List.length (List.map vb l)) : Int)) = false ∧ 0 ≤ IntKind.wrap IntKind.i64 (IntKind.wrap IntKind.i64 ((↑a : Int) + 1) - 1) ∧ (List.map vb l)[Int.toNat (IntKind.wrap IntKind.i64 (IntKind.wrap IntKind.i64 ((↑a : Int) + 1) - 1))]? = some (V.int IntKind.u8 (↑(UInt8.toNat l[a]) : Int)) ∧ n ≠ 0 ∧ (True ∧ True ∧ True) ∧ [some [D.v (vBs l), di (IntKind.wrap IntKind.i64 ((↑a : Int) + 1))]] = [some (cDz l (a + 1))] ∧ di (Int.tmod (IntKind.wrap IntKind.i64 (↑(UInt8.toNat l[a]) : Int)) n) = di ((↑(UInt8.toNat l[a]) : Int) % n)) = _) ?_
    have hx : l[a]? = some l[a] := List.getElem?_eq_getElem h
    have hb : l[a].toNat < 256 := UInt8.toNat_lt _
    generalize l[a] = c at hx hb
    rw [show IntKind.i64.wrap (IntKind.i64.wrap ((a : Int) + 1) - 1) = a by rw [wrap_id (n := (a : Int) + 1) (by omega) (by omega), wrap_id (by omega) (by omega)]; omega]
    refine ⟨⟨trivial, trivial, trivial⟩, by rw [List.length_map]; exact decide_eq_false (by omega), by omega, idx_some hx, by omega, ⟨trivial, trivial, trivial⟩, ?_, ?_⟩
    · rw [wrap_id (by omega) (by omega)]; rfl
    · rw [wrap_id (by omega) (by omega), Int.tmod_eq_emod_of_nonneg (by omega)]
  · refine ⟨0, a, by omega, by omega, ha, ?_⟩
    refine spec_vc mixed fPick cPick (by kernel_rfl) (by kernel_rfl) (by kernel_rfl) (by kernel_rfl) 36 (by kernel_rfl) [] (.t .r) ?_
    refine via (by kernel_rfl : ((True ∧ True ∧ True) ∧ decide ((↑a : Int) ≥ (↑(List.length (List.map vb l)) : Int)) = true ∧ [some (cDz l a)] = [some (cDz l a)] ∧ di 0 = di 0) = _) ?_
    exact ⟨⟨trivial, trivial, trivial⟩, by rw [List.length_map]; exact decide_eq_true (by omega), rfl, rfl⟩
noncomputable abbrev fInts : Func := Tryz.f23
noncomputable def cInts : Code := fInts.body.getD .skip
abbrev ownI (l : List UInt8) (a : Nat) (xs : List Int) : St := ⟨[some (cDz l a)], [(1, 1, xs.map vi)]⟩
theorem ints_loop (l : List UInt8) (hl : l.length ≤ 200) (n : Nat) (hn : n ≤ 100) (most : Int) (hm : 0 ≤ most) (hm2 : most ≤ 100) (N : Nat) : ∀ (k : Nat) (a : Nat) (xs : List Int), n - k = N → k ≤ n → a ≤ l.length → xs.length = k → (∀ x ∈ xs, 0 ≤ x ∧ x ≤ most) →
    ∃ (ys : List Int) (a' : Nat), a' ≤ l.length ∧ ys.length = n ∧ (∀ x ∈ ys, 0 ≤ x ∧ x ≤ most) ∧
    Rn PP fInts 1 (dIs ys) (dz l a') ([.lp (sub cInts [1, 1, 0, 1, 0, 0]), .blk 0, .code (sub cInts [1, 1, 1])] ++ []) (mkE 22 [(0, .ptr 0 0), (1, di n), (2, di most), (7, .acc 1 (xs.map vi)), (8, di k)]) (ownI l a xs) := by
  induction N with
  | zero =>
    intro k a xs hk hk0 ha hx hxs
    by_cases hkn : k = n
    · refine ⟨xs, a, ha, by omega, hxs, ?_⟩
      refine loop_vc mixed 22 [] (.f .r) ?_
      refine via (by kernel_rfl : (decide ((↑k : Int) < (↑n : Int)) = false ∧ [some (cDz l a)] = [some (cDz l a)] ∧ D.v (V.list (List.map vi xs)) = dIs xs) = _) ?_
      exact ⟨decide_eq_false (by omega), rfl, rfl⟩
    · exact absurd hk0 (by omega)
  | succ N ih =>
    intro k a xs hk hk0 ha hx hxs
    obtain ⟨r, a1, h1, h2, h3, h4⟩ := pick_ex l hl a ha (most + 1) (by omega) (by omega)
    obtain ⟨ys, a', h5, h6, h7, h8⟩ := ih (k + 1) a1 (xs ++ [r]) (by omega) (by omega) h3 (by simp [hx]) (fun x hx => by
      rcases List.mem_append.1 hx with hx | hx
      · exact hxs x hx
      · rw [List.mem_singleton.1 hx]; omega)
    refine ⟨ys, a', h5, h6, h7, ?_⟩
    refine loop_vc mixed 22 [] (.t <| .c1 (cDz l a1) (di r) <| .ls [ke 0, ke 1, ke 2, ch 7 (.acc 1 ((xs ++ [r]).map vi)), ch 8 (di (k + 1 : Nat))] (ownI l a1 (xs ++ [r]))) ?_
    refine via (by kernel_rfl : (decide ((↑k : Int) < (↑n : Int)) = true ∧ FSpec PP 18 [D.ptr 0 0, di (IntKind.wrap IntKind.i64 (most + 1))] (St.mk [some (cDz l a)] []) (di r) (St.mk [some (cDz l a1)] []) ∧ List.map vi xs = List.map vi xs ∧ LenOK (List.length (List.map vi xs) + List.length (V.int IntKind.i64 r :: nV)) 8 ∧ D.acc 1 (List.map vi xs ++ [vi r]) = D.acc 1 (List.map vi (xs ++ [r])) ∧ di (IntKind.wrap IntKind.i64 ((↑k : Int) + 1)) = di (↑(k + 1) : Int) ∧ [some (cDz l a1)] = [some (cDz l a1)] ∧ [(1, 1, List.map vi xs ++ vi r :: nV)] = [(1, 1, List.map vi (xs ++ [r]))] ∧ Nv.It (RunC (CN 1) PP (fun env σ1 => ResOK PP fInts env σ1 (dIs ys) (dz l a')) [KI.lp (sub cInts [1, 1, 0, 1, 0, 0]), KI.blk 0, KI.code (sub cInts [1, 1, 1])] (mkE 22 [(0, D.ptr 0 0), (1, di (↑n : Int)), (2, di most), (7, D.acc 1 (List.map vi (xs ++ [r]))), (8, di (↑(k + 1) : Int))]) (ownI l a1 (xs ++ [r])))) = _) ?_
    refine ⟨decide_eq_true (by omega), ?_, rfl, ⟨?_, ?_⟩, by simp, wrap_succ (by omega), rfl, by simp, ⟨h8⟩⟩
    · rw [wrap_id (by omega) (by omega)]; exact h4
    · simp only [List.length_map, List.length_cons, List.length_nil]; omega
    · simp only [List.length_map, List.length_cons, List.length_nil]; omega
theorem ints_ex (l : List UInt8) (hl : l.length ≤ 200) (a : Nat) (ha : a ≤ l.length) (n : Nat) (hn : n ≤ 100) (most : Int) (hm : 0 ≤ most) (hm2 : most ≤ 100) :
    ∃ (ys : List Int) (a' : Nat), a' ≤ l.length ∧ ys.length = n ∧ (∀ x ∈ ys, 0 ≤ x ∧ x ≤ most) ∧ FSpec PP 23 [.ptr 0 0, di n, di most] (dz l a) (dIs ys) (dz l a') := by
  obtain ⟨ys, a', h1, h2, h3, h4⟩ := ints_loop l hl n hn most hm hm2 _ 0 a [] rfl (by omega) ha rfl (by simp)
  refine ⟨ys, a', h1, h2, h3, ?_⟩
  refine spec_vc mixed fInts cInts (by kernel_rfl) (by kernel_rfl) (by kernel_rfl) (by kernel_rfl) 22 (by kernel_rfl) [] (.h (.q 2 0) <| .h (.nw 7 1 1) <| .ls [ke 0, ke 1, ke 2, ke 7, ch 8 (di (0 : Nat))] (ownI l a [])) ?_
  refine via (by kernel_rfl : (di 0 = di (↑0 : Int) ∧ [some (cDz l a)] = [some (cDz l a)] ∧ [(1, 1, nV)] = [(1, 1, nV)] ∧ Nv.It (RunC (CN (List.length (dz l a).H)) PP (fun env σ1 => ResOK PP fInts env σ1 (dIs ys) (dz l a')) [KI.lp (sub cInts [1, 1, 0, 1, 0, 0]), KI.blk 0, KI.code (sub cInts [1, 1, 1])] (mkE 22 [(0, D.ptr 0 0), (1, di (↑n : Int)), (2, di most), (7, D.acc 1 []), (8, di (↑0 : Int))]) (ownI l a []))) = _) ?_
  exact ⟨rfl, rfl, rfl, ⟨h4⟩⟩
noncomputable abbrev fCfg28 : Func := Tryz.f24
noncomputable def cCfg28 : Code := fCfg28.body.getD .skip
abbrev ownC (s : Int) (xs : List Val) : St := ⟨[some [di 0, .v .nils], some [di 0, .acc 1 (xs.map eV)]], [(1, 2, xs.map eV)]⟩
def cfgV (s : Int) (l : List Int) : Val := .mk 0 (.mk s [] :: l.map fun x => .mk x [])
theorem cfg28_loop (l : List Int) (hl : l.length ≤ 1000) (s : Int) (n : Nat) : ∀ (k : Nat) (xs : List Val), l.length - k = n → xs.length = k + 1 →
    Rn PP fCfg28 0 (dV (.mk 0 (xs ++ (l.drop k).map fun x => .mk x []))) σ0 ([.lp (sub cCfg28 [1, 1, 0, 1, 0, 0]), .blk 0, .code (sub cCfg28 [1, 1, 1])] ++ []) (mkE 28 [(1, dIs l), (4, .ptr 0 0), (5, .ptr 1 0), (6, di k)]) (ownC s xs) := by
  induction n with
  | zero =>
    intro k xs hk hx
    refine loop_vc mixed 28 [] (.f .r) ?_
    refine via (by kernel_rfl : (decide ((↑k : Int) < (↑(List.length (List.map vi l)) : Int)) = false ∧ D.v (V.agg [vi 0, V.list (List.map eV xs)]) = dV (Val.mk 0 (xs ++ List.map (fun x => Val.mk x []) (List.drop k l)))) = _) ?_
    refine ⟨by rw [List.length_map]; exact decide_eq_false (by omega), ?_⟩
    rw [List.drop_of_length_le (by omega), List.map_nil, List.append_nil]; rfl
  | succ n ih =>
    intro k xs hk hxl
    refine loop_vc mixed 28 [] (.t <| .e fun x : Int => .x (vi x) <| .ls [ke 1, ke 4, ke 5, ch 6 (di (k + 1 : Nat))] (ownC s (xs ++ [.mk x []]))) ?_
    refine via (by kernel_rfl : (decide ((↑k : Int) < (↑(List.length (List.map vi l)) : Int)) = true ∧ ∃ a, 0 ≤ (↑k : Int) ∧ (List.map vi l)[Int.toNat (↑k : Int)]? = some (vi a) ∧ List.map eV xs = List.map eV xs ∧ LenOK (List.length (List.map eV xs) + List.length (V.agg (vi a :: V.list nV :: nV) :: nV)) 32 ∧ (True ∧ True) ∧ di (IntKind.wrap IntKind.i64 ((↑k : Int) + 1)) = di (↑(k + 1) : Int) ∧ [some [di 0, D.v V.nils], some [di 0, D.acc 1 (List.map eV xs ++ V.agg (vi a :: V.list nV :: nV) :: nV)]] = [some [di 0, D.v V.nils], some [di 0, D.acc 1 (List.map eV (xs ++ [Val.mk a []]))]] ∧ [(1, 2, List.map eV xs ++ V.agg (vi a :: V.list nV :: nV) :: nV)] = [(1, 2, List.map eV (xs ++ [Val.mk a []]))] ∧ Nv.It (RunC (CN 0) PP (fun env σ1 => ResOK PP fCfg28 env σ1 (dV (Val.mk 0 (xs ++ List.map (fun x => Val.mk x []) (List.drop k l)))) σ0) [KI.lp (sub cCfg28 [1, 1, 0, 1, 0, 0]), KI.blk 0, KI.code (sub cCfg28 [1, 1, 1])] (mkE 28 [(1, D.v (vIs l)), (4, D.ptr 0 0), (5, D.ptr 1 0), (6, di (↑(k + 1) : Int))]) (ownC s (xs ++ [Val.mk a []])))) = _) ?_
    have hk1 : k < l.length := by omega
    have hx : l[k]? = some l[k] := List.getElem?_eq_getElem hk1
    rw [List.drop_eq_getElem_cons hk1]
    generalize l[k] = x at hx ⊢
    have h := ih (k + 1) (xs ++ [.mk x []]) (by omega) (by simp [hxl])
    rw [List.append_assoc] at h
    refine ⟨by rw [List.length_map]; exact decide_eq_true (by omega), x, by omega, idx_some hx, rfl, ⟨?_, ?_⟩, ⟨trivial, trivial⟩, wrap_succ (by omega), ?_, ?_, ⟨h⟩⟩
    · simp only [List.length_map, List.length_cons, List.length_nil]; omega
    · simp only [List.length_map, List.length_cons, List.length_nil]; omega
    · rw [← append_val]; rfl
    · rw [← append_val]; rfl
theorem cfg28_spec (l : List Int) (hl : l.length ≤ 1000) (s : Int) : FSpec PP 24 [di s, dIs l] σ0 (dV (cfgV s l)) σ0 := by
  refine spec_vc mixed fCfg28 cCfg28 (by kernel_rfl) (by kernel_rfl) (by kernel_rfl) (by kernel_rfl) 28 (by kernel_rfl) [] (.a 1 <| .h .g <| .ls [ke 1, ke 4, ke 5, ch 6 (di (0 : Nat))] (ownC s [.mk s []])) ?_
  refine via (by kernel_rfl : (di 0 = di (↑0 : Int) ∧ [some [di 0, D.v V.nils], some [di 0, D.acc 1 (V.agg (vi s :: V.list nV :: nV) :: nV)]] = [some [di 0, D.v V.nils], some [di 0, D.acc 1 (eV (Val.mk s []) :: nV)]] ∧ [(1, 2, V.agg (vi s :: V.list nV :: nV) :: nV)] = [(1, 2, eV (Val.mk s []) :: nV)] ∧ Nv.It (RunC (CN (List.length σ0.H)) PP (fun env σ1 => ResOK PP fCfg28 env σ1 (dV (cfgV s l)) σ0) [KI.lp (sub cCfg28 [1, 1, 0, 1, 0, 0]), KI.blk 0, KI.code (sub cCfg28 [1, 1, 1])] (mkE 28 [(1, dIs l), (4, D.ptr 0 0), (5, D.ptr 1 0), (6, di (↑0 : Int))]) (ownC s [Val.mk s []]))) = _) ?_
  exact ⟨rfl, rfl, rfl, ⟨cfg28_loop l hl s _ 0 [.mk s []] rfl rfl⟩⟩
end Go.Proofs.YtopbcpgmffppjaaGreatDoor

namespace Go.Proofs.YtopbcpgmffppjaaGreatDoor
open Go.Dv Go.Nv
set_option maxRecDepth 20000
abbrev dl3 : List (List UInt8) := [[114], [115], [116]]
def mkR (nm : List UInt8) (f t : Int) (nd gv : List Int) : Rul := ⟨nm, f, t, nd, gv, [], 0, 0, 0, [], [], [], [], 0⟩
abbrev cM (S Pl : List (List UInt8)) (rs : List Rul) : List D := [di 1, .v (vSs S), .v (vSs Pl), .v .nils, .v .nils, di 0, di 0, .acc 2 (rs.map vRul), di 0, .v .nils]
abbrev zM : List D := [di 0, .v .nils, .v .nils, .v .nils, .v .nils, di 0, di 0, .v .nils, di 0, .v .nils]
abbrev stC (l : List UInt8) (a : Nat) (S Pl : List (List UInt8)) (rs : List Rul) : St := ⟨[some (cDz l a), some zM, some (cM S Pl rs)], [(2, 14, rs.map vRul)]⟩
/-- the dealt counter models without moves -/
structure MadeR (ns np : Nat) (k : Nat) (r : Rul) : Prop where
  name : dl3[k]? = some r.name
  frm : 0 ≤ r.frm ∧ r.frm < ns
  to : 0 ≤ r.to ∧ r.to < ns
  need : r.need.length = np ∧ ∀ x ∈ r.need, 0 ≤ x ∧ x ≤ 2
  give : r.give.length = np ∧ ∀ x ∈ r.give, 0 ≤ x ∧ x ≤ 2
  rest : r = mkR r.name r.frm r.to r.need r.give
structure MadeC (m : Mod) : Prop where
  kind : m.kind = 1
  states : m.states = [[97]] ∨ m.states = [[97], [98]]
  places : m.places = [[120]] ∨ m.places = [[120], [121]]
  letters : m.letters = []
  ranks : m.ranks = []
  levels : m.levels = 0
  age : m.age = 0
  count : m.rules.length ≤ 3
  rules : ∀ k r, m.rules[k]? = some r → MadeR m.states.length m.places.length k r
  start : ∃ ys : List Int, ys.length = m.places.length ∧ (∀ x ∈ ys, 0 ≤ x ∧ x ≤ 3) ∧ m.start = cfgV 0 ys
theorem vRul_snoc (rs : List Rul) (r : Rul) : rs.map vRul ++ [vRul r] = (rs ++ [r]).map vRul := by simp
noncomputable abbrev fCtr : Func := Tryz.f12
noncomputable def cCtr : Code := fCtr.body.getD .skip
theorem ctr_loop (l : List UInt8) (hl : l.length ≤ 200) (S Pl : List (List UInt8)) (hS : S = [[97]] ∨ S = [[97], [98]]) (hP : Pl = [[120]] ∨ Pl = [[120], [121]]) (n : Nat) : ∀ (k a : Nat) (rs : List Rul), 3 - k = n → a ≤ l.length → k ≤ 3 → rs.length = k → (∀ i r, rs[i]? = some r → MadeR S.length Pl.length i r) →
    ∃ (m : Mod) (a' : Nat), MadeC m ∧ a' ≤ l.length ∧ Rn PP fCtr 1 (dMod m) (dz l a') ([.lp (sub cCtr [1, 1, 1, 0, 1, 0, 0]), .blk 0, .code (sub cCtr [1, 1, 1, 1])] ++ []) (mkE 85 [(0, .ptr 0 0), (1, db false), (4, .ptr 1 0), (5, .ptr 2 0), (6, di Pl.length), (7, di k)]) (stC l a S Pl rs) := by
  induction n using Nat.strongRecOn with
  | _ n ih =>
  intro k a rs hn ha hk3 hrs hR
  have hSl : 1 ≤ S.length ∧ S.length ≤ 2 := by rcases hS with rfl | rfl <;> decide
  have hPl : 1 ≤ Pl.length ∧ Pl.length ≤ 2 := by rcases hP with rfl | rfl <;> decide
  obtain ⟨r, a1, h1, h2, h3, h4⟩ := pick_ex l hl a ha 3 (by decide) (by decide)
  by_cases hk : (k : Int) < 1 + r
  · obtain ⟨f, a2, f1, f2, f3, f4⟩ := pick_ex l hl a1 h3 S.length (by omega) (by omega)
    obtain ⟨t, a3, t1, t2, t3, t4⟩ := pick_ex l hl a2 f3 S.length (by omega) (by omega)
    obtain ⟨nd, a4, n1, n2, n3, n4⟩ := ints_ex l hl a3 t3 Pl.length (by omega) 2 (by decide) (by decide)
    obtain ⟨gv, a5, g1, g2, g3, g4⟩ := ints_ex l hl a4 n1 Pl.length (by omega) 2 (by decide) (by decide)
    obtain ⟨nm, hnm⟩ : ∃ nm, dl3[k]? = some nm := ⟨_, List.getElem?_eq_getElem (show k < dl3.length by show k < 3; omega)⟩
    obtain ⟨m, a', m1, m2, m3⟩ := ih (3 - (k + 1)) (by omega) (k + 1) a5 (rs ++ [mkR nm f t nd gv]) rfl g1 (by omega) (by simp [hrs]) (fun i r hi => by
      by_cases hik : i < rs.length
      · rw [List.getElem?_append_left hik] at hi; exact hR i r hi
      · rw [List.getElem?_append_right (by omega)] at hi
        have : i - rs.length = 0 := by
          have := (List.getElem?_eq_some_iff.1 hi).1
          simp at this; omega
        rw [this] at hi
        simp at hi; subst hi
        have hik2 : i = k := by omega
        subst hik2
        exact ⟨hnm, ⟨f1, f2⟩, ⟨t1, t2⟩, ⟨n2, n3⟩, ⟨g2, g3⟩, rfl⟩)
    refine ⟨m, a', m1, m2, ?_⟩
    refine loop_vc mixed 85 [] (.c1 (cDz l a1) (di r) <| .t <| .h (.dr 21) <| .x (.str nm) <| .c1 (cDz l a2) (di f) <| .c1 (cDz l a3) (di t) <| .c1 (cDz l a4) (dIs nd) <| .c1 (cDz l a5) (dIs gv) <| .ls [ke 0, ke 1, ke 4, ke 5, ke 6, ch 7 (di (k + 1 : Nat))] (stC l a5 S Pl (rs ++ [mkR nm f t nd gv]))) ?_
    refine via (by kernel_rfl : (FSpec PP 18 [D.ptr 0 0, di 3] (St.mk [some (cDz l a)] []) (di r) (St.mk [some (cDz l a1)] []) ∧ decide ((↑k : Int) < IntKind.wrap IntKind.i64 (1 + r)) = true ∧ 0 ≤ (↑k : Int) ∧ [V.str (ByteArray.mk #[114]).data.toList, V.str (ByteArray.mk #[115]).data.toList, V.str (ByteArray.mk #[116]).data.toList][Int.toNat (↑k : Int)]? = some (V.str nm) ∧ FSpec PP 18 [D.ptr 0 0, di (↑(List.length (List.map V.str S)) : Int)] (St.mk [some (cDz l a1)] []) (di f) (St.mk [some (cDz l a2)] []) ∧ FSpec PP 18 [D.ptr 0 0, di (↑(List.length (List.map V.str S)) : Int)] (St.mk [some (cDz l a1)] []) (di f) (St.mk [some (cDz l a2)] []) ∧ di f = di f ∧ FSpec PP 18 [D.ptr 0 0, di (↑(List.length (List.map V.str S)) : Int)] (St.mk [some (cDz l a2)] []) (di t) (St.mk [some (cDz l a3)] []) ∧ FSpec PP 18 [D.ptr 0 0, di (↑(List.length (List.map V.str S)) : Int)] (St.mk [some (cDz l a2)] []) (di t) (St.mk [some (cDz l a3)] []) ∧ di t = di t ∧ FSpec PP 23 [D.ptr 0 0, di (↑(List.length Pl) : Int), di 2] (St.mk [some (cDz l a3)] []) (dIs nd) (St.mk [some (cDz l a4)] []) ∧ FSpec PP 23 [D.ptr 0 0, di (↑(List.length Pl) : Int), di 2] (St.mk [some (cDz l a3)] []) (dIs nd) (St.mk [some (cDz l a4)] []) ∧ dIs nd = dIs nd ∧ FSpec PP 23 [D.ptr 0 0, di (↑(List.length Pl) : Int), di 2] (St.mk [some (cDz l a4)] []) (dIs gv) (St.mk [some (cDz l a5)] []) ∧ FSpec PP 23 [D.ptr 0 0, di (↑(List.length Pl) : Int), di 2] (St.mk [some (cDz l a4)] []) (dIs gv) (St.mk [some (cDz l a5)] []) ∧ dIs gv = dIs gv ∧ [St.mk [some (cDz l a1), some zM, some (cM S Pl rs), some [D.v (V.str (ByteArray.mk #[]).data.toList), di 0, di 0, D.v V.nils, D.v V.nils, D.v V.nils, di 0, di 0, di 0, D.v V.nils, D.v V.nils, D.v V.nils, D.v V.nils, di 0]] [(2, 14, List.map vRul rs)], St.mk [some (cDz l a2), some zM, some (cM S Pl rs), some [D.v (V.str (ByteArray.mk #[]).data.toList), di 0, di 0, D.v V.nils, D.v V.nils, D.v V.nils, di 0, di 0, di 0, D.v V.nils, D.v V.nils, D.v V.nils, D.v V.nils, di 0]] [(2, 14, List.map vRul rs)], St.mk [some (cDz l a3), some zM, some (cM S Pl rs), some [D.v (V.str (ByteArray.mk #[]).data.toList), di 0, di 0, D.v V.nils, D.v V.nils, D.v V.nils, di 0, di 0, di 0, D.v V.nils, D.v V.nils, D.v V.nils, D.v V.nils, di 0]] [(2, 14, List.map vRul rs)], St.mk [some (cDz l a4), some zM, some (cM S Pl rs), some [D.v (V.str (ByteArray.mk #[]).data.toList), di 0, di 0, D.v V.nils, D.v V.nils, D.v V.nils, di 0, di 0, di 0, D.v V.nils, D.v V.nils, D.v V.nils, D.v V.nils, di 0]] [(2, 14, List.map vRul rs)], St.mk [some (cDz l a5), some zM, some (cM S Pl rs), some [D.v (V.str (ByteArray.mk #[]).data.toList), di 0, di 0, D.v V.nils, D.v V.nils, D.v V.nils, di 0, di 0, di 0, D.v V.nils, D.v V.nils, D.v V.nils, D.v V.nils, di 0]] [(2, 14, List.map vRul rs)]] = [St.mk [some (cDz l a1), some zM, some (cM S Pl rs), some [D.v (V.str (ByteArray.mk #[]).data.toList), di 0, di 0, D.v V.nils, D.v V.nils, D.v V.nils, di 0, di 0, di 0, D.v V.nils, D.v V.nils, D.v V.nils, D.v V.nils, di 0]] [(2, 14, List.map vRul rs)], St.mk [some (cDz l a2), some zM, some (cM S Pl rs), some [D.v (V.str (ByteArray.mk #[]).data.toList), di 0, di 0, D.v V.nils, D.v V.nils, D.v V.nils, di 0, di 0, di 0, D.v V.nils, D.v V.nils, D.v V.nils, D.v V.nils, di 0]] [(2, 14, List.map vRul rs)], St.mk [some (cDz l a3), some zM, some (cM S Pl rs), some [D.v (V.str (ByteArray.mk #[]).data.toList), di 0, di 0, D.v V.nils, D.v V.nils, D.v V.nils, di 0, di 0, di 0, D.v V.nils, D.v V.nils, D.v V.nils, D.v V.nils, di 0]] [(2, 14, List.map vRul rs)], St.mk [some (cDz l a4), some zM, some (cM S Pl rs), some [D.v (V.str (ByteArray.mk #[]).data.toList), di 0, di 0, D.v V.nils, D.v V.nils, D.v V.nils, di 0, di 0, di 0, D.v V.nils, D.v V.nils, D.v V.nils, D.v V.nils, di 0]] [(2, 14, List.map vRul rs)], St.mk [some (cDz l a5), some zM, some (cM S Pl rs), some [D.v (V.str (ByteArray.mk #[]).data.toList), di 0, di 0, D.v V.nils, D.v V.nils, D.v V.nils, di 0, di 0, di 0, D.v V.nils, D.v V.nils, D.v V.nils, D.v V.nils, di 0]] [(2, 14, List.map vRul rs)]] ∧ ((some [D.v (vSs S)] = some [D.v (vSs S)] ∧ some [D.v (vSs S)] = some [D.v (vSs S)] ∧ some [D.v (vSs S)] = some [D.v (vSs S)] ∧ some [D.v (vSs S)] = some [D.v (vSs S)] ∧ some [D.v (vSs S)] = some [D.v (vSs S)] ∧ some [D.v (vSs S)] = some [D.v (vSs S)] ∧ some [D.v (vSs S)] = some [D.v (vSs S)] ∧ some [D.v (vSs S)] = some [D.v (vSs S)] ∧ some [D.v (vSs S)] = some [D.v (vSs S)] ∧ some [D.v (vSs S)] = some [D.v (vSs S)] ∧ some [D.v (vSs S)] = some [D.v (vSs S)] ∧ True) ∧ (some [D.v (vSs S)] = some [D.v (vSs S)] ∧ some [D.v (vSs S)] = some [D.v (vSs S)] ∧ some [D.v (vSs S)] = some [D.v (vSs S)] ∧ some [D.v (vSs S)] = some [D.v (vSs S)] ∧ some [D.v (vSs S)] = some [D.v (vSs S)] ∧ some [D.v (vSs S)] = some [D.v (vSs S)] ∧ some [D.v (vSs S)] = some [D.v (vSs S)] ∧ some [D.v (vSs S)] = some [D.v (vSs S)] ∧ some [D.v (vSs S)] = some [D.v (vSs S)] ∧ some [D.v (vSs S)] = some [D.v (vSs S)] ∧ some [D.v (vSs S)] = some [D.v (vSs S)] ∧ True) ∧ True) ∧ List.map vRul rs = List.map vRul rs ∧ LenOK (List.length (List.map vRul rs) + List.length (V.agg (V.str nm :: V.int IntKind.i64 f :: V.int IntKind.i64 t :: vIs nd :: vIs gv :: V.list nV :: V.int IntKind.i64 0 :: V.int IntKind.i64 0 :: V.int IntKind.i64 0 :: V.list nV :: V.list nV :: V.list nV :: V.list nV :: V.int IntKind.i64 0 :: nV) :: nV)) 232 ∧ di (IntKind.wrap IntKind.i64 ((↑k : Int) + 1)) = di (↑(k + 1) : Int) ∧ [some (cDz l a5), some zM, some [di 1, D.v (vSs S), D.v (vSs Pl), D.v V.nils, D.v V.nils, di 0, di 0, D.acc 2 (List.map vRul rs ++ V.agg (V.str nm :: vi f :: vi t :: vIs nd :: vIs gv :: V.list nV :: vi 0 :: vi 0 :: vi 0 :: V.list nV :: V.list nV :: V.list nV :: V.list nV :: vi 0 :: nV) :: nV), di 0, D.v V.nils]] = [some (cDz l a5), some zM, some (cM S Pl (rs ++ [mkR nm f t nd gv]))] ∧ [(2, 14, List.map vRul rs ++ V.agg (V.str nm :: vi f :: vi t :: vIs nd :: vIs gv :: V.list nV :: vi 0 :: vi 0 :: vi 0 :: V.list nV :: V.list nV :: V.list nV :: V.list nV :: vi 0 :: nV) :: nV)] = [(2, 14, List.map vRul (rs ++ [mkR nm f t nd gv]))] ∧ Nv.It (RunC (CN 1) PP (fun env σ1 => ResOK PP fCtr env σ1 (dMod m) (dz l a')) [KI.lp (sub cCtr [1, 1, 1, 0, 1, 0, 0]), KI.blk 0, KI.code (sub cCtr [1, 1, 1, 1])] (mkE 85 [(0, D.ptr 0 0), (1, db false), (4, D.ptr 1 0), (5, D.ptr 2 0), (6, di (↑(List.length Pl) : Int)), (7, di (↑(k + 1) : Int))]) (stC l a5 S Pl (rs ++ [mkR nm f t nd gv])))) = _) ?_
    rw [show ((S.map V.str).length : Int) = (S.length : Int) by rw [List.length_map]]
    refine ⟨h4, ?_, by omega, idx_str hnm, f4, f4, rfl, t4, t4, rfl, n4, n4, rfl, g4, g4, rfl, rfl, by simp, rfl, ⟨?_, ?_⟩, wrap_succ (by omega), ?_, ?_, ⟨m3⟩⟩
    · rw [wrap_id (by omega) (by omega)]; exact decide_eq_true hk
    · simp only [List.length_map, List.length_cons, List.length_nil]; omega
    · simp only [List.length_map, List.length_cons, List.length_nil]; omega
    · show _ = [some (cDz l a5), some zM, some [di 1, .v (vSs S), .v (vSs Pl), .v .nils, .v .nils, di 0, di 0, .acc 2 ((rs ++ [mkR nm f t nd gv]).map vRul), di 0, .v .nils]]
      rw [← vRul_snoc]; rfl
    · rw [← vRul_snoc]; rfl
  · obtain ⟨ys, a2, y1, y2, y3, y4⟩ := ints_ex l hl a1 h3 Pl.length (by omega) 3 (by decide) (by decide)
    obtain ⟨c, hc⟩ : ∃ c, c = cfgV 0 ys := ⟨_, rfl⟩
    refine ⟨⟨1, S, Pl, [], [], 0, 0, rs, c⟩, a2, ⟨rfl, hS, hP, rfl, rfl, rfl, rfl, by show rs.length ≤ 3; omega, hR, ys, y2, y3, hc⟩, y1, ?_⟩
    refine loop_vc mixed 85 [] (.c1 (cDz l a1) (di r) <| .f <| .c1 (cDz l a2) (dIs ys) <| .c (dV c) .r) ?_
    refine via (by kernel_rfl : (FSpec PP 18 [D.ptr 0 0, di 3] (St.mk [some (cDz l a)] []) (di r) (St.mk [some (cDz l a1)] []) ∧ decide ((↑k : Int) < IntKind.wrap IntKind.i64 (1 + r)) = false ∧ FSpec PP 23 [D.ptr 0 0, di (↑(List.length Pl) : Int), di 3] (St.mk [some (cDz l a1)] []) (dIs ys) (St.mk [some (cDz l a2)] []) ∧ FSpec PP 24 [di 0, D.v (vIs ys)] (St.mk [] []) (dV c) (St.mk [] []) ∧ [some (cDz l a2)] = [some (cDz l a2)] ∧ D.v (V.agg [vi 1, V.list (List.map V.str S), V.list (List.map V.str Pl), V.list [], V.list [], vi 0, vi 0, V.list (List.map vRul rs), vi (Val.n c), V.list (List.map eV (Val.kids c))]) = dMod (Mod.mk 1 S Pl [] [] 0 0 rs c)) = _) ?_
    refine ⟨h4, ?_, y4, hc ▸ cfg28_spec ys (by omega) 0, rfl, rfl⟩
    rw [wrap_id (by omega) (by omega)]; exact decide_eq_false hk
theorem ctr_ex (l : List UInt8) (hl : l.length ≤ 200) (a : Nat) (ha : a ≤ l.length) :
    ∃ (m : Mod) (a' : Nat), MadeC m ∧ a' ≤ l.length ∧ FSpec PP 12 [.ptr 0 0, db false] (dz l a) (dMod m) (dz l a') := by
  obtain ⟨r1, a1, h1, h2, h3, h4⟩ := pick_ex l hl a ha 2 (by decide) (by decide)
  obtain ⟨r2, a2, h5, h6, h7, h8⟩ := pick_ex l hl a1 h3 2 (by decide) (by decide)
  obtain ⟨S, hS, hS2⟩ : ∃ S : List (List UInt8), (S = [[97]] ∨ S = [[97], [98]]) ∧ (r1 = 0 ∧ S = [[97]] ∨ r1 = 1 ∧ S = [[97], [98]]) := by
    rcases (show r1 = 0 ∨ r1 = 1 by omega) with h | h
    · exact ⟨_, .inl rfl, .inl ⟨h, rfl⟩⟩
    · exact ⟨_, .inr rfl, .inr ⟨h, rfl⟩⟩
  obtain ⟨Pl, hP, hP2⟩ : ∃ S : List (List UInt8), (S = [[120]] ∨ S = [[120], [121]]) ∧ (r2 = 0 ∧ S = [[120]] ∨ r2 = 1 ∧ S = [[120], [121]]) := by
    rcases (show r2 = 0 ∨ r2 = 1 by omega) with h | h
    · exact ⟨_, .inl rfl, .inl ⟨h, rfl⟩⟩
    · exact ⟨_, .inr rfl, .inr ⟨h, rfl⟩⟩
  obtain ⟨m, a', m1, m2, m3⟩ := ctr_loop l hl S Pl hS hP _ 0 a2 [] rfl h7 (by omega) rfl (fun i r h => by simp at h)
  refine ⟨m, a', m1, m2, ?_⟩
  refine spec_vc mixed fCtr cCtr (by kernel_rfl) (by kernel_rfl) (by kernel_rfl) (by kernel_rfl) 85 (by kernel_rfl) [] (.h (.dr 11) <| .c1 (cDz l a1) (di r1) <| .c1 (cDz l a2) (di r2) <| .h .rn <| .h (.q 3 0) <| .h (.cl 2 7 2 14) <| .ls [ke 0, ke 1, ke 4, ke 5, ch 6 (di Pl.length), ch 7 (di (0 : Nat))] (stC l a2 S Pl [])) ?_
  refine via (by kernel_rfl : (FSpec PP 18 [D.ptr 0 0, di 2] (St.mk [some (cDz l a)] []) (di r1) (St.mk [some (cDz l a1)] []) ∧ FSpec PP 18 [D.ptr 0 0, di 2] (St.mk [some (cDz l a)] []) (di r1) (St.mk [some (cDz l a1)] []) ∧ di r1 = di r1 ∧ (∀ (x : V), x ∈ [V.str (ByteArray.mk #[97]).data.toList, V.str (ByteArray.mk #[98]).data.toList] → V.size x = 1) ∧ 0 ≤ (fun x => x.snd) (IntKind.i64, IntKind.wrap IntKind.i64 (1 + r1)) ∧ (fun x => x.snd) (IntKind.i64, IntKind.wrap IntKind.i64 (1 + r1)) ≤ (↑(List.length [V.str (ByteArray.mk #[97]).data.toList, V.str (ByteArray.mk #[98]).data.toList]) : Int) ∧ FSpec PP 18 [D.ptr 0 0, di 2] (St.mk [some (cDz l a1)] []) (di r2) (St.mk [some (cDz l a2)] []) ∧ FSpec PP 18 [D.ptr 0 0, di 2] (St.mk [some (cDz l a1)] []) (di r2) (St.mk [some (cDz l a2)] []) ∧ di r2 = di r2 ∧ (∀ (x : V), x ∈ [V.str (ByteArray.mk #[120]).data.toList, V.str (ByteArray.mk #[121]).data.toList] → V.size x = 1) ∧ 0 ≤ (fun x => x.snd) (IntKind.i64, IntKind.wrap IntKind.i64 (1 + r2)) ∧ (fun x => x.snd) (IntKind.i64, IntKind.wrap IntKind.i64 (1 + r2)) ≤ (↑(List.length [V.str (ByteArray.mk #[120]).data.toList, V.str (ByteArray.mk #[121]).data.toList]) : Int) ∧ [St.mk [some (cDz l a), some [di 0, D.v V.nils, D.v V.nils, D.v V.nils, D.v V.nils, di 0, di 0, D.v V.nils, di 0, D.v V.nils], some [di 0, D.v V.nils, D.v V.nils, D.v V.nils, D.v V.nils, di 0, di 0, D.v V.nils, di 0, D.v V.nils]] [], St.mk [some (cDz l a1), some [di 0, D.v V.nils, D.v V.nils, D.v V.nils, D.v V.nils, di 0, di 0, D.v V.nils, di 0, D.v V.nils], some [di 0, D.v V.nils, D.v V.nils, D.v V.nils, D.v V.nils, di 0, di 0, D.v V.nils, di 0, D.v V.nils]] [], St.mk [some (cDz l a2), some [di 0, D.v V.nils, D.v V.nils, D.v V.nils, D.v V.nils, di 0, di 0, D.v V.nils, di 0, D.v V.nils], some [di 0, D.v V.nils, D.v V.nils, D.v V.nils, D.v V.nils, di 0, di 0, D.v V.nils, di 0, D.v V.nils]] []] = [St.mk [some (cDz l a), some [di 0, D.v V.nils, D.v V.nils, D.v V.nils, D.v V.nils, di 0, di 0, D.v V.nils, di 0, D.v V.nils], some [di 0, D.v V.nils, D.v V.nils, D.v V.nils, D.v V.nils, di 0, di 0, D.v V.nils, di 0, D.v V.nils]] [], St.mk [some (cDz l a1), some [di 0, D.v V.nils, D.v V.nils, D.v V.nils, D.v V.nils, di 0, di 0, D.v V.nils, di 0, D.v V.nils], some [di 0, D.v V.nils, D.v V.nils, D.v V.nils, D.v V.nils, di 0, di 0, D.v V.nils, di 0, D.v V.nils]] [], St.mk [some (cDz l a2), some [di 0, D.v V.nils, D.v V.nils, D.v V.nils, D.v V.nils, di 0, di 0, D.v V.nils, di 0, D.v V.nils], some [di 0, D.v V.nils, D.v V.nils, D.v V.nils, D.v V.nils, di 0, di 0, D.v V.nils, di 0, D.v V.nils]] []] ∧ True ∧ di (↑(List.length (List.drop 0 (List.take (Int.toNat ((fun x => x.snd) (IntKind.i64, IntKind.wrap IntKind.i64 (1 + r2)))) (V.str (ByteArray.mk #[120]).data.toList :: V.str (ByteArray.mk #[121]).data.toList :: nV)))) : Int) = di (↑(List.length Pl) : Int) ∧ di 0 = di (↑0 : Int) ∧ [some (cDz l a2), some [di 0, D.v V.nils, D.v V.nils, D.v V.nils, D.v V.nils, di 0, di 0, D.v V.nils, di 0, D.v V.nils], some [di 1, D.v (V.list (List.drop 0 (List.take (Int.toNat ((fun x => x.snd) (IntKind.i64, IntKind.wrap IntKind.i64 (1 + r1)))) (V.str (ByteArray.mk #[97]).data.toList :: V.str (ByteArray.mk #[98]).data.toList :: nV)))), D.v (V.list (List.drop 0 (List.take (Int.toNat ((fun x => x.snd) (IntKind.i64, IntKind.wrap IntKind.i64 (1 + r2)))) (V.str (ByteArray.mk #[120]).data.toList :: V.str (ByteArray.mk #[121]).data.toList :: nV)))), D.v V.nils, D.v V.nils, di 0, di 0, D.acc 2 nV, di 0, D.v V.nils]] = [some (cDz l a2), some zM, some (cM S Pl [])] ∧ [(2, 14, nV)] = [(2, 14, nV)] ∧ Nv.It (RunC (CN (List.length (dz l a).H)) PP (fun env σ1 => ResOK PP fCtr env σ1 (dMod m) (dz l a')) [KI.lp (sub cCtr [1, 1, 1, 0, 1, 0, 0]), KI.blk 0, KI.code (sub cCtr [1, 1, 1, 1])] (mkE 85 [(0, D.ptr 0 0), (1, db false), (4, D.ptr 1 0), (5, D.ptr 2 0), (6, di (↑(List.length Pl) : Int)), (7, di (↑0 : Int))]) (stC l a2 S Pl []))) = _) ?_
  refine ⟨h4, h4, rfl, by simp [V.size], ?_, ?_, h8, h8, rfl, by simp [V.size], ?_, ?_, rfl, trivial, ?_, rfl, ?_, rfl, ⟨m3⟩⟩
  · show 0 ≤ IntKind.i64.wrap (1 + r1); rw [wrap_id (by omega) (by omega)]; omega
  · show IntKind.i64.wrap (1 + r1) ≤ 2; rw [wrap_id (by omega) (by omega)]; omega
  · show 0 ≤ IntKind.i64.wrap (1 + r2); rw [wrap_id (by omega) (by omega)]; omega
  · show IntKind.i64.wrap (1 + r2) ≤ 2; rw [wrap_id (by omega) (by omega)]; omega
  · rcases hP2 with ⟨rfl, rfl⟩ | ⟨rfl, rfl⟩ <;> rfl
  · rcases hS2 with ⟨rfl, rfl⟩ | ⟨rfl, rfl⟩ <;> rcases hP2 with ⟨rfl, rfl⟩ | ⟨rfl, rfl⟩ <;> rfl
end Go.Proofs.YtopbcpgmffppjaaGreatDoor

namespace Go.Proofs.YtopbcpgmffppjaaGreatDoor
open Go.Dv Go.Nv
set_option maxRecDepth 20000
theorem mapName {rs : List Rul} (h3 : rs.length ≤ 3) {ns np : Nat} (h : ∀ k r, rs[k]? = some r → MadeR ns np k r) : rs.map Rul.name = dl3.take rs.length := by
  apply List.ext_getElem?
  intro i
  by_cases hi : i < rs.length
  · have hx : rs[i]? = some rs[i] := List.getElem?_eq_getElem hi
    rw [List.getElem?_map, hx, List.getElem?_take_of_lt hi, (h i _ hx).name]; rfl
  · rw [List.getElem?_eq_none (by simp; omega), List.getElem?_eq_none (by simp; omega)]
theorem vals_nat (ys : List Int) (n : Nat) (h : ys.length = n) (h0 : ∀ x ∈ ys, 0 ≤ x ∧ x ≤ 1048576) : onesB (List.replicate n .nat) (ys.map fun x => Val.mk x []) = true := by
  induction n generalizing ys with
  | zero => cases ys with
    | nil => rfl
    | cons y ys => simp at h
  | succ n ih => cases ys with
    | nil => simp at h
    | cons y ys =>
      have := h0 y (by simp)
      simp only [List.replicate_succ, List.map_cons, onesB, oneB, Bool.and_eq_true, decide_eq_true_eq, beq_iff_eq]
      exact ⟨⟨this.1, this.2, rfl⟩, ih ys (by simpa using h) fun x hx => h0 x (by simp [hx])⟩
theorem size_vals (ys : List Int) : Val.sizes (ys.map fun x => Val.mk x []) = ys.length := by
  induction ys with
  | nil => rfl
  | cons y ys ih => simp only [List.map_cons, Val.sizes, ih, List.length_cons, Val.size]; omega
theorem cfgV_size (s : Int) (ys : List Int) : (cfgV s ys).size = 2 + ys.length := by
  simp only [cfgV, Val.size, Val.sizes, size_vals]; omega
/-- a configuration of a dealt counter model -/
theorem cfg_valid (m : Mod) (hk : m.kind = 1) (hpl : m.places.length ≤ 100) (s : Int) (hs : 0 ≤ s ∧ s < m.states.length) (ys : List Int) (hy : ys.length = m.places.length) (h : ∀ x ∈ ys, 0 ≤ x ∧ x ≤ 1048576) : validB (typM m) (cfgV s ys) = true := by
  rw [validB, decide_eq_true (by rw [cfgV_size]; omega), Bool.true_and, typM, show eltM m = .nat by simp [eltM, hk]]
  simp only [oneB, cfgV, Val.n, Val.kids, onesB, labB, Bool.and_eq_true, decide_eq_true_eq, beq_iff_eq]
  refine ⟨?_, by simp [hy], ⟨decide_eq_true hs.1, decide_eq_true hs.2, by rfl⟩, vals_nat ys _ hy h⟩
  first | trivial | rfl
theorem MadeC.ok {m : Mod} (h : MadeC m) : m.ok := by
  have hst : 1 ≤ m.states.length ∧ m.states.length ≤ 2 := by rcases h.states with e | e <;> rw [e] <;> decide
  have hpl : 1 ≤ m.places.length ∧ m.places.length ≤ 2 := by rcases h.places with e | e <;> rw [e] <;> decide
  have hb : ∀ {x a b : Int}, a ≤ x → x ≤ b → betB x a b = true := fun h1 h2 => by simp [betB, h1, h2]
  have hget : ∀ r ∈ m.rules, MadeR m.states.length m.places.length (m.rules.idxOf r) r := fun r hr => by
    have hi := List.idxOf_lt_length_of_mem hr
    exact h.rules _ r (by rw [List.getElem?_eq_getElem hi, List.getElem_idxOf])
  have hc := h.count
  refine ⟨.inl h.kind, ?_, ?_, ?_, ?_, ?_, ?_, ?_⟩
  · simp only [sizedB, limM, if_pos h.kind, Bool.and_eq_true, decide_eq_true_eq, h.letters, h.levels, h.age]
    exact ⟨hb (by omega) (by omega), by omega, hb (by omega) (by omega), by decide, by decide, by decide⟩
  · rw [rankedB, if_pos (by rw [h.kind]; rfl), h.ranks]; rfl
  · have hn := mapName h.count h.rules
    rw [namedB, namesM, hn, baseM, h.letters]
    have : m.rules.length = 0 ∨ m.rules.length = 1 ∨ m.rules.length = 2 ∨ m.rules.length = 3 := by omega
    rcases h.states with e | e <;> rcases h.places with e' | e' <;> rcases this with e2 | e2 | e2 | e2 <;> rw [e, e', e2] <;> decide
  · intro r hr
    have hm := hget r hr
    have h1 := hm.need.1
    have h2 := hm.give.1
    rw [hm.rest]
    exact ⟨by show r.need.length ≤ _; omega, by show r.give.length ≤ _; omega, Nat.zero_le _, Nat.zero_le _, Nat.zero_le _, Nat.zero_le _, Nat.zero_le _⟩
  · intro r hr
    have hm := hget r hr
    obtain ⟨f1, f2⟩ := hm.frm
    obtain ⟨t1, t2⟩ := hm.to
    obtain ⟨n1, n2⟩ := hm.need
    obtain ⟨g1, g2⟩ := hm.give
    have hr := hm.rest
    generalize r.name = nm at hr
    generalize r.frm = f at *
    generalize r.to = t at *
    generalize r.need = nd at *
    generalize r.give = gv at *
    subst hr
    rw [rightM, if_pos h.kind]
    simp only [rightC, changesB, movesB, sameB, onlyC, mkR, Bool.and_eq_true, List.all_eq_true, beq_iff_eq, decide_eq_true_eq, and_true, true_and, List.length_nil]
    refine ⟨hb (by omega) (by omega), hb (by omega) (by omega), ⟨by omega, by omega, fun x hx => hb (n2 x hx).1 (by have := (n2 x hx).2; omega), fun x hx => hb (g2 x hx).1 (by have := (g2 x hx).2; omega)⟩, ?_⟩
    simp
  · obtain ⟨ys, y1, y2, y3⟩ := h.start
    rw [y3]
    exact cfg_valid m h.kind (by omega) 0 ⟨by omega, by omega⟩ ys y1 fun x hx => by have := y2 x hx; omega
  · obtain ⟨ys, y1, y2, y3⟩ := h.start
    rw [y3, cfgV_size]; omega
end Go.Proofs.YtopbcpgmffppjaaGreatDoor

namespace Go.Proofs.YtopbcpgmffppjaaGreatDoor
open Go.Dv Go.Nv
set_option maxRecDepth 20000
abbrev lf (y : Int) : Val := .mk y []
def needB : List Int → List Int → Bool
  | n :: ns, y :: ys => !decide (y < n) && needB ns ys
  | _, _ => true
def enB (r : Rul) (s : Int) (ys : List Int) : Bool := (s == r.frm) && needB r.need ys
end Go.Proofs.YtopbcpgmffppjaaGreatDoor


namespace Go.Proofs.YtopbcpgmffppjaaGreatDoor
open Go.Dv Go.Nv
set_option maxRecDepth 20000
abbrev cR (r : Rul) : List D := [.v (.str r.name), di r.frm, di r.to, dIs r.need, dIs r.give, dIs r.move, di r.chan, di r.act, di r.letter, dIs r.path, dIs r.next, .v (vTks r.takes), dIs r.makes, di r.second]
def outP : List Val → List Int → List Int → Val × Int
  | xs, w :: ws, g :: gs => if decide (w + g > 1048576) = true then (.mk 0 [], 1) else outP (xs ++ [lf (w + g)]) ws gs
  | xs, _, _ => (.mk 0 xs, 0)
def subM (r : Rul) (ys : List Int) : List Int := List.zipWith (fun y n => y - n) ys r.need
def apM (r : Rul) (s : Int) (ys : List Int) : Val × Int := if enB r s ys = true then outP [lf r.to] (subM r ys) r.give else (.mk 0 [], 18)
end Go.Proofs.YtopbcpgmffppjaaGreatDoor


namespace Go.Proofs.YtopbcpgmffppjaaGreatDoor
open Go.Dv Go.Nv
set_option maxRecDepth 20000
def oneP (p : Val × Int) : List Val × Int := if (p.2 == 18) = true then ([], 0) else if (p.2 != 0) = true then ([], p.2) else ([p.1], 0)
end Go.Proofs.YtopbcpgmffppjaaGreatDoor


namespace Go.Proofs.YtopbcpgmffppjaaGreatDoor
open Go.Dv Go.Nv
set_option maxRecDepth 20000
abbrev Stp := Int × Val
def allP (ap : Int → List Val × Int) : Nat → Int → List Stp → List Stp × Int
  | 0, _, acc => if decide ((acc.length : Int) > 256) = true then ([], 1) else (acc, 0)
  | n + 1, i, acc => if ((ap i).2 != 0) = true then ([], (ap i).2) else allP ap n (i + 1) (acc ++ (ap i).1.map fun v => (i, v))
end Go.Proofs.YtopbcpgmffppjaaGreatDoor


namespace Go.Proofs.YtopbcpgmffppjaaGreatDoor
open Go.Dv Go.Nv
set_option maxRecDepth 20000
noncomputable abbrev fNew : Func := Tryz.f8
noncomputable def cNew : Code := fNew.body.getD .skip
theorem new_spec (s : List UInt8) : FSpec PP 8 [.v (vBs s)] σ0 (.ptr 0 0) (dz (s.take 200) 0) := by
  by_cases h : s.length > 200
  · refine spec_vc mixed fNew cNew (by kernel_rfl) (by kernel_rfl) (by kernel_rfl) (by kernel_rfl) 11 (by kernel_rfl) [] (.t .ro) ?_
    refine via (by kernel_rfl : (decide ((↑(List.length (List.map vb s)) : Int) > 200) = true ∧ (∀ (x : V), x ∈ List.map vb s → V.size x = 1) ∧ 0 ≤ (200 : Int) ∧ (200 : Int) ≤ (↑(List.length (List.map vb s)) : Int) ∧ okH 1 [] [some [D.v (V.list (List.drop 0 (List.take (Int.toNat ((200 : Int))) (List.map vb s)))), di 0]] = true ∧ [some [D.v (V.list (List.drop 0 (List.take (Int.toNat ((200 : Int))) (List.map vb s)))), di 0]] = [some (cDz (List.take 200 s) 0)] ∧ D.ptr 0 0 = D.ptr 0 0) = _) ?_
    have e : (s.take 200).map vb = List.drop 0 (List.take (Int.toNat 200) (s.map vb)) := by rw [List.map_take]; rfl
    refine ⟨by rw [List.length_map]; exact decide_eq_true (by omega), by simp [V.size], by decide, by show (200 : Int) ≤ _; rw [List.length_map]; omega, rfl, ?_, rfl⟩
    rw [cDz, vBs, e]; rfl
  · refine spec_vc mixed fNew cNew (by kernel_rfl) (by kernel_rfl) (by kernel_rfl) (by kernel_rfl) 11 (by kernel_rfl) [] (.f .ro) ?_
    refine via (by kernel_rfl : (decide ((↑(List.length (List.map vb s)) : Int) > 200) = false ∧ okH 1 [] [some [D.v (vBs s), di 0]] = true ∧ [some [D.v (vBs s), di 0]] = [some (cDz (List.take 200 s) 0)] ∧ D.ptr 0 0 = D.ptr 0 0) = _) ?_
    refine ⟨by rw [List.length_map]; exact decide_eq_false (by omega), rfl, ?_, rfl⟩
    rw [List.take_of_length_le (by omega)]; rfl
end Go.Proofs.YtopbcpgmffppjaaGreatDoor
