/-
  Which types are right, how large values are, and which are configurations: walked.
-/
import Derived.Test.YtopbcpgmffppjaaGreatDoorEc
namespace Go.Proofs.YtopbcpgmffppjaaGreatDoor
open Go.Dv Go.Nv
set_option maxRecDepth 20000

noncomputable abbrev fIxT : Func := Tryz.f147
noncomputable def cIxT : Code := fIxT.body.getD .skip
theorem ixT_loop (F : FuncId) (fs cs : List V) (p : Typ → Bool) (l : List (Typ)) (hl : l.length ≤ 1000000) (hp : ∀ x ∈ l, FSpec PP F ((fs ++ [vT x] ++ cs).map .v) σ0 (db (p x)) σ0) (n : Nat) : ∀ k : Nat, l.length - k = n →
    Rn PP fIxT 0 (di (ixM p (l.drop k) k)) σ0 ([.lp (sub cIxT [1, 0, 1, 0, 0]), .blk 0, .code (sub cIxT [1, 1])] ++ []) (mkE 19 [(0, dl (l.map eT)), (1, .v (.fn F fs cs)), (7, di l.length), (8, di k)]) σ0 := by
  induction n using Nat.strongRecOn with
  | _ n ih =>
  intro k hn
  refine loop_vc mixed 19 [] (.b (.e fun x : Typ => .x (vT x) <| .c (db (p x)) <| .b .r (.l [ke 0, ke 1, ke 7, ch 8 (di (k + 1 : Nat))])) .r) ?_
  refine via (by kernel_rfl : ((decide ((↑k : Int) < (↑(List.length l) : Int)) = true → ∃ a, 0 ≤ (↑k : Int) ∧ (List.map eT l)[Int.toNat (↑k : Int)]? = some (vT a) ∧ FSpec PP F (List.map D.v (fs ++ [vT a] ++ cs)) (St.mk [] []) (db (p a)) (St.mk [] []) ∧ (p a = true → di (↑k : Int) = di (ixM p (List.drop k l) k)) ∧ (p a = false → di (IntKind.wrap IntKind.i64 ((↑k : Int) + 1)) = di (↑(k + 1) : Int) ∧ Nv.It (RunC (CN 0) PP (fun env σ1 => ResOK PP fIxT env σ1 (di (ixM p (List.drop k l) k)) σ0) [KI.lp (sub cIxT [1, 0, 1, 0, 0]), KI.blk 0, KI.code (sub cIxT [1, 1])] (mkE 19 [(0, D.v (V.list (List.map eT l))), (1, D.v (V.fn F fs cs)), (7, di (↑(List.length l) : Int)), (8, di (↑(k + 1) : Int))]) σ0))) ∧ (decide ((↑k : Int) < (↑(List.length l) : Int)) = false → di (-1) = di (ixM p (List.drop k l) k))) = _) ?_
  refine ⟨fun h => ?_, fun h => ?_⟩
  · have hk : k < l.length := by simpa using h
    have hx : l[k]? = some l[k] := List.getElem?_eq_getElem hk
    rw [List.drop_eq_getElem_cons hk]
    generalize l[k] = x at hx ⊢
    refine ⟨x, by omega, idx_typ hx, hp x (List.mem_of_getElem? hx), fun hf => by simp [ixM, hf], fun hf => ⟨wrap_succ (by omega), ⟨?_⟩⟩⟩
    simp only [ixM, hf]
    exact ih (l.length - (k + 1)) (by omega) (k + 1) rfl
  · have hk : l.length ≤ k := by simpa using h
    rw [List.drop_of_length_le hk]; rfl
theorem ixT_spec (F : FuncId) (fs cs : List V) (p : Typ → Bool) (l : List (Typ)) (hl : l.length ≤ 1000000) (hp : ∀ x ∈ l, FSpec PP F ((fs ++ [vT x] ++ cs).map .v) σ0 (db (p x)) σ0) :
    FSpec PP 147 [dl (l.map eT), .v (.fn F fs cs)] σ0 (di (ixM p l 0)) σ0 := by
  refine spec_vc mixed fIxT cIxT (by kernel_rfl) (by kernel_rfl) (by kernel_rfl) (by kernel_rfl) 19 (by kernel_rfl) [] (.l [ke 0, ke 1, ch 7 (di l.length), ch 8 (di (0 : Nat))]) ?_
  refine via (by kernel_rfl : (di (↑(List.length (List.map eT l)) : Int) = di (↑(List.length l) : Int) ∧ di 0 = di (↑0 : Int) ∧ Nv.It (RunC (CN (List.length σ0.H)) PP (fun env σ1 => ResOK PP fIxT env σ1 (di (ixM p l 0)) σ0) [KI.lp (sub cIxT [1, 0, 1, 0, 0]), KI.blk 0, KI.code (sub cIxT [1, 1])] (mkE 19 [(0, dl (List.map eT l)), (1, D.v (V.fn F fs cs)), (7, di (↑(List.length l) : Int)), (8, di (↑0 : Int))]) σ0)) = _) ?_
  refine ⟨by simp, rfl, ⟨?_⟩⟩
  exact ixT_loop F fs cs p l hl hp _ 0 rfl

noncomputable abbrev fHasT : Func := Tryz.f129
noncomputable def cHasT : Code := fHasT.body.getD .skip
theorem hasT_spec (F : FuncId) (fs cs : List V) (p : Typ → Bool) (l : List (Typ)) (hl : l.length ≤ 1000000) (hp : ∀ x ∈ l, FSpec PP F ((fs ++ [vT x] ++ cs).map .v) σ0 (db (p x)) σ0) :
    FSpec PP 129 [dl (l.map eT), .v (.fn F fs cs)] σ0 (db (l.any p)) σ0 := by
  refine spec_vc mixed fHasT cHasT (by kernel_rfl) (by kernel_rfl) (by kernel_rfl) (by kernel_rfl) 9 (by kernel_rfl) [] (.c (di (ixM p l 0)) .r) ?_
  refine via (by kernel_rfl : (FSpec PP 147 [D.v (V.list (List.map eT l)), D.v (V.fn F fs cs)] (St.mk [] []) (di (ixM p l 0)) (St.mk [] []) ∧ db (decide (ixM p l 0 ≥ 0)) = db (List.any l p)) = _) ?_
  exact ⟨ixT_spec F fs cs p l hl hp, by rw [← ixM_any]⟩

/- RANKS -/
noncomputable abbrev fRkd : Func := Tryz.f145
noncomputable def cRkd : Code := fRkd.body.getD .skip
noncomputable abbrev fRkd1 : Func := Tryz.f156
noncomputable def cRkd1 : Code := fRkd1.body.getD .skip
noncomputable abbrev fPVal : Func := Tryz.f128
noncomputable def cPVal : Code := fPVal.body.getD .skip
def rk1B (x : Int) : Bool := decide (x < 0) || decide (x ≥ 6)
theorem rk1_spec (x : Int) : FSpec PP 156 [di x] σ0 (db (rk1B x)) σ0 := by
  refine spec_vc mixed fRkd1 cRkd1 (by kernel_rfl) (by kernel_rfl) (by kernel_rfl) (by kernel_rfl) 9 (by kernel_rfl) [] (.b .r .r) ?_
  refine via (by kernel_rfl : ((decide (x < 0) = true → db true = db (rk1B x)) ∧ (decide (x < 0) = false → db (decide (x ≥ 6)) = db (rk1B x))) = _) ?_
  refine ⟨fun h => ?_, fun h => ?_⟩ <;> simp [rk1B, *]
def rankB (r : List Int) : Bool := decide ((r.length : Int) ≥ 1) && (decide ((r.length : Int) ≤ 6) && !(r.any rk1B))
theorem rkd_spec (r : List Int) : FSpec PP 145 [dIs r] σ0 (db (rankB r)) σ0 := by
  refine spec_vc mixed fRkd cRkd (by kernel_rfl) (by kernel_rfl) (by kernel_rfl) (by kernel_rfl) 16 (by kernel_rfl) [] (.b (.b (.c (db (r.any rk1B)) .r) .r) .r) ?_
  refine via (by kernel_rfl : ((decide ((↑(List.length (List.map vi r)) : Int) ≥ 1) = true → (decide ((↑(List.length (List.map vi r)) : Int) ≤ 6) = true → FSpec PP 65 [D.v (vIs r), D.v (V.fn 156 [] [])] (St.mk [] []) (db (List.any r rk1B)) (St.mk [] []) ∧ (db !List.any r rk1B) = db (rankB r)) ∧ (decide ((↑(List.length (List.map vi r)) : Int) ≤ 6) = false → db false = db (rankB r))) ∧ (decide ((↑(List.length (List.map vi r)) : Int) ≥ 1) = false → db false = db (rankB r))) = _) ?_
  refine ⟨fun h1 => ⟨fun h2 => ⟨hasI_spec _ [] [] rk1B r (by have h2 := of_decide_eq_true h2; rw [List.length_map] at h2; omega) fun x _ => rk1_spec x, ?_⟩, fun h2 => ?_⟩, fun h1 => ?_⟩ <;> (try simp only [List.length_map] at *) <;> simp only [rankB, h1, Bool.true_and, Bool.false_and] <;> simp only [h2, Bool.true_and, Bool.false_and]
theorem pval_nil (r : List Int) (h : rankB r = true) : FSpec PP 128 [dIs r, dl []] σ0 (db true) σ0 := by
  refine spec_vc mixed fPVal cPVal (by kernel_rfl) (by kernel_rfl) (by kernel_rfl) (by kernel_rfl) 18 (by kernel_rfl) [2] (.c (db (rankB r)) <| .t <| .k <| .c (db false) .r) ?_
  refine via (by kernel_rfl : (FSpec PP 145 [D.v (vIs r)] (St.mk [] []) (db (rankB r)) (St.mk [] []) ∧ rankB r = true ∧ FSpec PP 65 [D.v (V.list []), D.v (V.fn 146 [] [V.ref (vIs r)])] (St.mk [] []) (db false) (St.mk [] []) ∧ (db !false) = db true) = _) ?_
  exact ⟨rkd_spec r, h, hasI_spec _ [] [_] (fun _ => false) [] (by simp) (fun x hx => by simp at hx), rfl⟩
/- RIGHT TYPES -/
noncomputable abbrev fRt : Func := Tryz.f109
noncomputable def cRt : Code := fRt.body.getD .skip
noncomputable abbrev fRt1 : Func := Tryz.f130
noncomputable def cRt1 : Code := fRt1.body.getD .skip
def goodB : Nat → Typ → Bool
  | 0, _ => false
  | d + 1, .nat => true
  | d + 1, .lab n => decide (n ≥ 1) && decide (n ≤ 16)
  | d + 1, .prio n r => (n == r.length) && rankB r
  | d + 1, .word t => goodB d t
  | d + 1, .bag t => goodB d t
  | d + 1, .prod l => !((l.length : Int) == 0) && (!decide ((l.length : Int) > 8) && l.all (goodB d))
theorem right1_spec (t : Typ) (d : Nat) (hd : d ≤ 100) (h : FSpec PP 109 [dT t, di d] σ0 (db true) σ0) : FSpec PP 130 [dT t, .v (.ref (vi ((d + 1 : Nat) : Int)))] σ0 (db false) σ0 := by
  refine spec_vc mixed fRt1 cRt1 (by kernel_rfl) (by kernel_rfl) (by kernel_rfl) (by kernel_rfl) 9 (by kernel_rfl) [2] (.c (db true) .r) ?_
  refine via (by kernel_rfl : (FSpec PP 109 [D.v (vT t), di (IntKind.wrap IntKind.i64 ((↑(d + 1) : Int) - 1))] (St.mk [] []) (db true) (St.mk [] []) ∧ (db !true) = db false) = _) ?_
  refine ⟨?_, rfl⟩
  rw [show IntKind.i64.wrap (((d + 1 : Nat) : Int) - 1) = d by rw [wrap_id (by omega) (by omega)]; omega]
  exact h
theorem right_nat (d : Nat) : FSpec PP 109 [dT .nat, di ((d + 1 : Nat) : Int)] σ0 (db true) σ0 := by
  refine spec_vc mixed fRt cRt (by kernel_rfl) (by kernel_rfl) (by kernel_rfl) (by kernel_rfl) 94 (by kernel_rfl) [2, 3] (.f .r) ?_
  refine via (by kernel_rfl : (((↑(d + 1) : Int) == 0) = false ∧ db (Typ.sz Typ.nat == 0) = db true) = _) ?_
  have hz : (((d + 1 : Nat) : Int) == 0) = false := beq_eq_false_iff_ne.2 (by omega)
  exact ⟨hz, rfl⟩
theorem right_lab (d : Nat) (n : Int) (h1 : 1 ≤ n) (h2 : n ≤ 16) : FSpec PP 109 [dT (.lab n), di ((d + 1 : Nat) : Int)] σ0 (db true) σ0 := by
  refine spec_vc mixed fRt cRt (by kernel_rfl) (by kernel_rfl) (by kernel_rfl) (by kernel_rfl) 94 (by kernel_rfl) [2, 3] (.f <| .k <| .k <| .k <| .k <| .k <| .k <| .t .r) ?_
  refine via (by kernel_rfl : (((↑(d + 1) : Int) == 0) = false ∧ decide (Typ.sz (Typ.lab n) ≥ 1) = true ∧ db (decide (Typ.sz (Typ.lab n) ≤ 16)) = db true) = _) ?_
  have hz : (((d + 1 : Nat) : Int) == 0) = false := beq_eq_false_iff_ne.2 (by omega)
  exact ⟨hz, decide_eq_true h1, congrArg db (decide_eq_true h2)⟩
theorem right_prio (d : Nat) (n : Int) (r : List Int) (h1 : n = r.length) (h2 : rankB r = true) : FSpec PP 109 [dT (.prio n r), di ((d + 1 : Nat) : Int)] σ0 (db true) σ0 := by
  refine spec_vc mixed fRt cRt (by kernel_rfl) (by kernel_rfl) (by kernel_rfl) (by kernel_rfl) 94 (by kernel_rfl) [2, 3] (.f <| .t <| .k <| .k <| .k <| .k <| .k <| .k <| .t <| .c (db true) .r) ?_
  refine via (by kernel_rfl : (((↑(d + 1) : Int) == 0) = false ∧ decide ((↑(List.length (List.map vi (Typ.rk (Typ.prio n r)))) : Int) > 0) = true ∧ (Typ.sz (Typ.prio n r) == (↑(List.length (List.map vi (Typ.rk (Typ.prio n r)))) : Int)) = true ∧ FSpec PP 128 [D.v (vIs (Typ.rk (Typ.prio n r))), D.v (V.list [])] (St.mk [] []) (db true) (St.mk [] []) ∧ db true = db true) = _) ?_
  have hz : (((d + 1 : Nat) : Int) == 0) = false := beq_eq_false_iff_ne.2 (by omega)
  have h3 := h2
  simp only [rankB, Bool.and_eq_true, decide_eq_true_eq] at h3
  refine ⟨hz, decide_eq_true ?_, ?_, pval_nil r h2, rfl⟩
  · simp only [Typ.rk, List.length_map]; omega
  · simp only [Typ.sz, Typ.rk, List.length_map, h1, beq_self_eq_true]
theorem right_word (d : Nat) (t : Typ) (hd : d ≤ 100) (h : FSpec PP 109 [dT t, di d] σ0 (db true) σ0) : FSpec PP 109 [dT (.word t), di ((d + 1 : Nat) : Int)] σ0 (db true) σ0 := by
  refine spec_vc mixed fRt cRt (by kernel_rfl) (by kernel_rfl) (by kernel_rfl) (by kernel_rfl) 94 (by kernel_rfl) [2, 3] (.f <| .c (db false) .r) ?_
  refine via (by kernel_rfl : (((↑(d + 1) : Int) == 0) = false ∧ FSpec PP 129 [D.v (V.list [eT t]), D.v (V.fn 130 [] [V.ref (vi (↑(d + 1) : Int))])] (St.mk [] []) (db false) (St.mk [] []) ∧ (db !false) = db true) = _) ?_
  have hz : (((d + 1 : Nat) : Int) == 0) = false := beq_eq_false_iff_ne.2 (by omega)
  exact ⟨hz, hasT_spec _ [] [_] (fun _ => false) [t] (by simp) (fun x hx => by rw [List.mem_singleton.1 hx]; exact right1_spec t d hd h), rfl⟩
theorem right_bag (d : Nat) (t : Typ) (hd : d ≤ 100) (h : FSpec PP 109 [dT t, di d] σ0 (db true) σ0) : FSpec PP 109 [dT (.bag t), di ((d + 1 : Nat) : Int)] σ0 (db true) σ0 := by
  refine spec_vc mixed fRt cRt (by kernel_rfl) (by kernel_rfl) (by kernel_rfl) (by kernel_rfl) 94 (by kernel_rfl) [2, 3] (.f <| .c (db false) .r) ?_
  refine via (by kernel_rfl : (((↑(d + 1) : Int) == 0) = false ∧ FSpec PP 129 [D.v (V.list [eT t]), D.v (V.fn 130 [] [V.ref (vi (↑(d + 1) : Int))])] (St.mk [] []) (db false) (St.mk [] []) ∧ (db !false) = db true) = _) ?_
  have hz : (((d + 1 : Nat) : Int) == 0) = false := beq_eq_false_iff_ne.2 (by omega)
  exact ⟨hz, hasT_spec _ [] [_] (fun _ => false) [t] (by simp) (fun x hx => by rw [List.mem_singleton.1 hx]; exact right1_spec t d hd h), rfl⟩
theorem right_prod (d : Nat) (l : List Typ) (hd : d ≤ 100) (h1 : ((l.length : Int) == 0) = false) (h2 : decide ((l.length : Int) > 8) = false) (h : ∀ t ∈ l, FSpec PP 109 [dT t, di d] σ0 (db true) σ0) : FSpec PP 109 [dT (.prod l), di ((d + 1 : Nat) : Int)] σ0 (db true) σ0 := by
  refine spec_vc mixed fRt cRt (by kernel_rfl) (by kernel_rfl) (by kernel_rfl) (by kernel_rfl) 94 (by kernel_rfl) [2, 3] (.f <| .k <| .k <| .k <| .k <| .k <| .k <| .k <| .k <| .f <| .f <| .c (db false) .r) ?_
  refine via (by kernel_rfl : (((↑(d + 1) : Int) == 0) = false ∧ ((↑(List.length (List.map eT (Typ.ps (Typ.prod l)))) : Int) == 0) = false ∧ decide ((↑(List.length (List.map eT (Typ.ps (Typ.prod l)))) : Int) > 8) = false ∧ FSpec PP 129 [D.v (V.list (List.map eT (Typ.ps (Typ.prod l)))), D.v (V.fn 130 [] [V.ref (vi (↑(d + 1) : Int))])] (St.mk [] []) (db false) (St.mk [] []) ∧ (db !false) = db true) = _) ?_
  have hz : (((d + 1 : Nat) : Int) == 0) = false := beq_eq_false_iff_ne.2 (by omega)
  refine ⟨hz, by simpa [Typ.ps] using h1, by simpa [Typ.ps] using h2, ?_, rfl⟩
  have h3 : ¬ ((l.length : Int) > 8) := of_decide_eq_false h2
  have := hasT_spec 130 [] [.ref (vi ((d + 1 : Nat) : Int))] (fun _ => false) l (by omega) (fun x hx => right1_spec x d hd (h x hx))
  rw [show l.any (fun _ => false) = false by induction l <;> simp_all] at this
  exact this
theorem right_spec : ∀ (d : Nat) (t : Typ), d ≤ 100 → goodB d t = true → FSpec PP 109 [dT t, di d] σ0 (db true) σ0
  | 0, t, _, h => by simp [goodB] at h
  | d + 1, .nat, _, h => right_nat d
  | d + 1, .lab n, _, h => by
    simp only [goodB, Bool.and_eq_true, decide_eq_true_eq] at h
    exact right_lab d n h.1 h.2
  | d + 1, .prio n r, _, h => by
    simp only [goodB, Bool.and_eq_true, beq_iff_eq] at h
    exact right_prio d n r h.1 h.2
  | d + 1, .word t, hd, h => right_word d t (by omega) (right_spec d t (by omega) (by simpa only [goodB] using h))
  | d + 1, .bag t, hd, h => right_bag d t (by omega) (right_spec d t (by omega) (by simpa only [goodB] using h))
  | d + 1, .prod l, hd, h => by
    simp only [goodB, Bool.and_eq_true, Bool.not_eq_true', List.all_eq_true] at h
    exact right_prod d l (by omega) h.1 h.2.1 fun t ht => right_spec d t (by omega) (h.2.2 t ht)
noncomputable abbrev fOChk : Func := Tryz.f80
noncomputable def cOChk : Code := fOChk.body.getD .skip
theorem ochk_spec (t : Typ) (h : goodB 8 t = true) : FSpec PP 80 [dT t] σ0 (di 0) σ0 := by
  refine spec_vc mixed fOChk cOChk (by kernel_rfl) (by kernel_rfl) (by kernel_rfl) (by kernel_rfl) 6 (by kernel_rfl) [1] (.c (db true) .r) ?_
  refine via (by kernel_rfl : (FSpec PP 109 [D.v (vT t), di 8] (St.mk [] []) (db true) (St.mk [] []) ∧ di 0 = di 0) = _) ?_
  exact ⟨right_spec 8 t (by omega) h, rfl⟩
/- HOW LARGE VALUES ARE -/
noncomputable abbrev fCnt : Func := Tryz.f52
noncomputable def cCnt : Code := fCnt.body.getD .skip
theorem cnt_spec (N : Nat) : ∀ v : Val, v.size ≤ N → v.size ≤ 1000000 → ∀ m : Int, 0 ≤ m → m ≤ 1000 → FSpec PP 52 [dV v, di m] σ0 (di (min (v.size : Int) (m + 1))) σ0 := by
  induction N with
  | zero => intro v hv; have := v.size_pos; omega
  | succ N ihN =>
    intro v hv hv1 m hm0 hm1
    have hsz := v.size_eq
    have hlen := Val.length_le v.kids
    have loop (n : Nat) : ∀ (k : Nat) (a : Int), v.kids.length - k = n → 1 ≤ a → a ≤ m + 1 →
        Rn PP fCnt 0 (di (min (a + (Val.sizes (v.kids.drop k) : Int)) (m + 1))) σ0 ([.lp (sub cCnt [1, 1, 0, 1, 0, 0]), .blk 0, .code (sub cCnt [1, 1, 1])] ++ []) (mkE 27 [(1, di m), (5, di a), (9, dVs v.kids), (10, di v.kids.length), (11, di k)]) σ0 := by
      induction n using Nat.strongRecOn with
      | _ n ih =>
      intro k a hn ha0 ha1
      refine loop_vc mixed 27 [2] (.b (.e fun x : Val => .x (vVal x) <| .b .r <| .c (di (min (x.size : Int) (m - a + 1))) <| .ls [ke 1, ch 5 (di (min (a + (x.size : Int)) (m + 1))), ke 9, ke 10, ch 11 (di (k + 1 : Nat))] σ0) .r) ?_
      refine via (by kernel_rfl : ((decide ((↑k : Int) < (↑(List.length (Val.kids v)) : Int)) = true → ∃ a_2, 0 ≤ (↑k : Int) ∧ (List.map eV (Val.kids v))[Int.toNat (↑k : Int)]? = some (vVal a_2) ∧ (decide (a > m) = true → di a = di (min (a + (↑(Val.sizes (List.drop k (Val.kids v))) : Int)) (m + 1))) ∧ (decide (a > m) = false → FSpec PP 52 [D.v (V.agg [vi (Val.n a_2), vVs (Val.kids a_2)]), di (IntKind.wrap IntKind.i64 (m - a))] (St.mk [] []) (di (min (↑(Val.size a_2) : Int) (m - a + 1))) (St.mk [] []) ∧ di (IntKind.wrap IntKind.i64 (a + min (↑(Val.size a_2) : Int) (m - a + 1))) = di (min (a + (↑(Val.size a_2) : Int)) (m + 1)) ∧ di (IntKind.wrap IntKind.i64 ((↑k : Int) + 1)) = di (↑(k + 1) : Int) ∧ Nv.It (RunC (CN 0) PP (fun env σ1 => ResOK PP fCnt env σ1 (di (min (a + (↑(Val.sizes (List.drop k (Val.kids v))) : Int)) (m + 1))) σ0) [KI.lp (sub cCnt [1, 1, 0, 1, 0, 0]), KI.blk 0, KI.code (sub cCnt [1, 1, 1])] (mkE 27 [(1, di m), (5, di (min (a + (↑(Val.size a_2) : Int)) (m + 1))), (9, D.v (vVs (Val.kids v))), (10, di (↑(List.length (Val.kids v)) : Int)), (11, di (↑(k + 1) : Int))]) σ0))) ∧ (decide ((↑k : Int) < (↑(List.length (Val.kids v)) : Int)) = false → di a = di (min (a + (↑(Val.sizes (List.drop k (Val.kids v))) : Int)) (m + 1)))) = _) ?_
      refine ⟨fun h => ?_, fun h => ?_⟩
      · have hk : k < v.kids.length := by simpa using h
        have hx : v.kids[k]? = some v.kids[k] := List.getElem?_eq_getElem hk
        rw [List.drop_eq_getElem_cons hk]
        generalize v.kids[k] = x at hx ⊢
        have hxs := Val.size_mem (List.mem_of_getElem? hx)
        have hx1 := x.size_pos
        simp only [Val.sizes]
        refine ⟨x, by omega, idx_val hx, fun h1 => ?_, fun h1 => ⟨?_, ?_, wrap_succ (by omega), ⟨?_⟩⟩⟩
        · have h1 := of_decide_eq_true h1
          rw [Int.min_def]; split <;> congr 1 <;> omega
        · rw [wrap_id (by omega) (by omega)]
          have h1 := of_decide_eq_false h1
          exact ihN x (by omega) (by omega) (m - a) (by omega) (by omega)
        · have h1 := of_decide_eq_false h1
          rw [wrap_id (by rw [Int.min_def]; split <;> omega) (by rw [Int.min_def]; split <;> omega)]
          simp only [Int.min_def]; congr 1; split <;> split <;> omega
        · have h1 := of_decide_eq_false h1
          have := ih (v.kids.length - (k + 1)) (by omega) (k + 1) (min (a + (x.size : Int)) (m + 1)) rfl (by rw [Int.min_def]; split <;> omega) (by rw [Int.min_def]; split <;> omega)
          rw [show min (min (a + (x.size : Int)) (m + 1) + (Val.sizes (v.kids.drop (k + 1)) : Int)) (m + 1) = min (a + ((x.size + Val.sizes (v.kids.drop (k + 1)) : Nat) : Int)) (m + 1) by simp only [Int.min_def]; (repeat' split) <;> omega] at this
          exact this
      · have hk : v.kids.length ≤ k := by simpa using h
        rw [List.drop_of_length_le hk]
        simp only [Val.sizes]; rw [Int.min_def]; split <;> congr 1 <;> omega
    refine spec_vc mixed fCnt cCnt (by kernel_rfl) (by kernel_rfl) (by kernel_rfl) (by kernel_rfl) 27 (by kernel_rfl) [2] (.l [ke 1, ch 5 (di 1), ke 9, ch 10 (di v.kids.length), ch 11 (di (0 : Nat))]) ?_
    refine via (by kernel_rfl : (di 1 = di 1 ∧ di (↑(List.length (List.map eV (Val.kids v))) : Int) = di (↑(List.length (Val.kids v)) : Int) ∧ di 0 = di (↑0 : Int) ∧ Nv.It (RunC (CN (List.length σ0.H)) PP (fun env σ1 => ResOK PP fCnt env σ1 (di (min (↑(Val.size v) : Int) (m + 1))) σ0) [KI.lp (sub cCnt [1, 1, 0, 1, 0, 0]), KI.blk 0, KI.code (sub cCnt [1, 1, 1])] (mkE 27 [(1, di m), (5, di 1), (9, D.v (vVs (Val.kids v))), (10, di (↑(List.length (Val.kids v)) : Int)), (11, di (↑0 : Int))]) σ0)) = _) ?_
    refine ⟨rfl, by rw [List.length_map], rfl, ⟨?_⟩⟩
    have := loop _ 0 1 rfl (by omega) (by omega)
    rw [List.drop_zero, show (1 : Int) + (Val.sizes v.kids : Int) = v.size by omega] at this
    exact this
noncomputable abbrev fOSize : Func := Tryz.f34
noncomputable def cOSize : Code := fOSize.body.getD .skip
theorem osize_spec (v : Val) (hv : v.size ≤ 1000000) : FSpec PP 34 [dV v] σ0 (di (min (v.size : Int) 129)) σ0 := by
  refine spec_vc mixed fOSize cOSize (by kernel_rfl) (by kernel_rfl) (by kernel_rfl) (by kernel_rfl) 6 (by kernel_rfl) [1] (.c (di (min (v.size : Int) 129)) .r) ?_
  refine via (by kernel_rfl : (FSpec PP 52 [D.v (vVal v), di 128] (St.mk [] []) (di (min (↑(Val.size v) : Int) 129)) (St.mk [] []) ∧ di (if 129 < min (↑(Val.size v) : Int) 129 then 129 else min (↑(Val.size v) : Int) 129) = di (min (↑(Val.size v) : Int) 129)) = _) ?_
  exact ⟨cnt_spec _ v (Nat.le_refl _) hv 128 (by decide) (by decide), by rw [if_neg (by rw [Int.min_def]; split <;> omega)]⟩
noncomputable abbrev fOVal : Func := Tryz.f50
noncomputable def cOVal : Code := fOVal.body.getD .skip
def validB (t : Typ) (v : Val) : Bool := decide ((v.size : Int) ≤ 128) && oneB t v
theorem oval_spec (t : Typ) (h : goodB 8 t = true) (v : Val) (hv : v.size ≤ 1000000) : FSpec PP 50 [dT t, dV v] σ0 (db (validB t v)) σ0 := by
  refine spec_vc mixed fOVal cOVal (by kernel_rfl) (by kernel_rfl) (by kernel_rfl) (by kernel_rfl) 18 (by kernel_rfl) [2, 3] (.c (di 0) <| .c (di (min (v.size : Int) 129)) <| .b (.c (db (oneB t v)) .r) .r) ?_
  refine via (by kernel_rfl : (FSpec PP 80 [D.v (vT t)] (St.mk [] []) (di 0) (St.mk [] []) ∧ FSpec PP 34 [D.v (vVal v)] (St.mk [] []) (di (min (↑(Val.size v) : Int) 129)) (St.mk [] []) ∧ (decide (min (↑(Val.size v) : Int) 129 ≤ 128) = true → FSpec PP 81 [D.v (vT t), D.v (vVal v)] (St.mk [] []) (db (oneB t v)) (St.mk [] []) ∧ db (oneB t v) = db (validB t v)) ∧ (decide (min (↑(Val.size v) : Int) 129 ≤ 128) = false → db false = db (validB t v))) = _) ?_
  refine ⟨ochk_spec t h, osize_spec v hv, fun h1 => ⟨one_spec _ t (Nat.le_refl _) v hv, ?_⟩, fun h1 => ?_⟩
  · have h1 := of_decide_eq_true h1
    rw [validB, decide_eq_true (show (v.size : Int) ≤ 128 by rw [Int.min_def] at h1; split at h1 <;> omega), Bool.true_and]
  · have h1 := of_decide_eq_false h1
    rw [validB, decide_eq_false (show ¬ (v.size : Int) ≤ 128 by rw [Int.min_def] at h1; split at h1 <;> omega), Bool.false_and]
end Go.Proofs.YtopbcpgmffppjaaGreatDoor

namespace Go.Proofs.YtopbcpgmffppjaaGreatDoor
open Go.Dv Go.Nv
set_option maxRecDepth 20000
/- LIMITS -/
noncomputable abbrev fOf : Func := Tryz.f64
noncomputable def cOf : Code := fOf.body.getD .skip
structure Lims where
  pl : Int
  ph : Int
  ll : Int
  lh : Int
  vl : Int
  vh : Int
  al : Int
  ah : Int
abbrev dLim (l : Lims) : D := .v (.agg [vi l.pl, vi l.ph, vi l.ll, vi l.lh, vi l.vl, vi l.vh, vi l.al, vi l.ah])
abbrev lim1 : Lims := ⟨1, 6, 0, 0, 0, 0, 0, 0⟩
abbrev lim2 : Lims := ⟨1, 2, 1, 6, 0, 0, 0, 0⟩
abbrev lim5 : Lims := ⟨1, 6, 0, 0, 0, 0, 0, 3⟩
theorem of_1 : FSpec PP 64 [di 1] σ0 (dLim lim1) σ0 := by
  refine spec_vc mixed fOf cOf (by kernel_rfl) (by kernel_rfl) (by kernel_rfl) (by kernel_rfl) 29 (by kernel_rfl) [] .r ?_
  refine via (by kernel_rfl : (D.v (V.agg [vi 1, vi 6, vi 0, vi 0, vi 0, vi 0, vi 0, vi 0]) = dLim lim1) = _) ?_
  rfl
theorem of_2 : FSpec PP 64 [di 2] σ0 (dLim lim2) σ0 := by
  refine spec_vc mixed fOf cOf (by kernel_rfl) (by kernel_rfl) (by kernel_rfl) (by kernel_rfl) 29 (by kernel_rfl) [] .r ?_
  refine via (by kernel_rfl : (D.v (V.agg [vi 1, vi 2, vi 1, vi 6, vi 0, vi 0, vi 0, vi 0]) = dLim lim2) = _) ?_
  rfl
theorem of_3 : FSpec PP 64 [di 3] σ0 (dLim lim2) σ0 := by
  refine spec_vc mixed fOf cOf (by kernel_rfl) (by kernel_rfl) (by kernel_rfl) (by kernel_rfl) 29 (by kernel_rfl) [] .r ?_
  refine via (by kernel_rfl : (D.v (V.agg [vi 1, vi 2, vi 1, vi 6, vi 0, vi 0, vi 0, vi 0]) = dLim lim2) = _) ?_
  rfl
theorem of_5 : FSpec PP 64 [di 5] σ0 (dLim lim5) σ0 := by
  refine spec_vc mixed fOf cOf (by kernel_rfl) (by kernel_rfl) (by kernel_rfl) (by kernel_rfl) 29 (by kernel_rfl) [] .r ?_
  refine via (by kernel_rfl : (D.v (V.agg [vi 1, vi 6, vi 0, vi 0, vi 0, vi 0, vi 0, vi 3]) = dLim lim5) = _) ?_
  rfl
noncomputable abbrev fSized : Func := Tryz.f42
noncomputable def cSized : Code := fSized.body.getD .skip
def sizedB (l : Lims) (m : Mod) : Bool := betB m.states.length 1 8 && (decide ((m.rules.length : Int) ≤ 12) && (betB m.places.length l.pl l.ph && (betB m.letters.length l.ll l.lh && (betB m.levels l.vl l.vh && betB m.age l.al l.ah))))
theorem sized_spec (l : Lims) (m : Mod) (h : FSpec PP 64 [di m.kind] σ0 (dLim l) σ0) : FSpec PP 42 [dMod m] σ0 (db (sizedB l m)) σ0 := by
  refine spec_vc mixed fSized cSized (by kernel_rfl) (by kernel_rfl) (by kernel_rfl) (by kernel_rfl) 63 (by kernel_rfl) [1] (.c (dLim l) <| .c (db (betB m.states.length 1 8)) <| .b (.b (.c (db (betB m.places.length l.pl l.ph)) <| .b (.c (db (betB m.letters.length l.ll l.lh)) <| .b (.c (db (betB m.levels l.vl l.vh)) <| .b (.c (db (betB m.age l.al l.ah)) .r) .r) .r) .r) .r) .r) ?_
  refine via (by kernel_rfl : (FSpec PP 64 [di m.kind] (St.mk [] []) (dLim l) (St.mk [] []) ∧ FSpec PP 41 [di (↑(List.length (List.map V.str m.states)) : Int), di 1, di 8] (St.mk [] []) (db (betB (↑(List.length m.states) : Int) 1 8)) (St.mk [] []) ∧ (betB (↑(List.length m.states) : Int) 1 8 = true → (decide ((↑(List.length (List.map vRul m.rules)) : Int) ≤ 12) = true → iz 0 ≤ 0 ∧ 0 < (↑2 : Int) ∧ iz 0 ≤ 1 ∧ 1 < (↑2 : Int) ∧ FSpec PP 41 [di (↑(List.length (List.map V.str m.places)) : Int), di l.pl, di l.ph] (St.mk [] []) (db (betB (↑(List.length m.places) : Int) l.pl l.ph)) (St.mk [] []) ∧ (betB (↑(List.length m.places) : Int) l.pl l.ph = true → iz 0 ≤ 0 ∧ 0 < (↑2 : Int) ∧ iz 0 ≤ 1 ∧ 1 < (↑2 : Int) ∧ FSpec PP 41 [di (↑(List.length (List.map V.str m.letters)) : Int), di l.ll, di l.lh] (St.mk [] []) (db (betB (↑(List.length m.letters) : Int) l.ll l.lh)) (St.mk [] []) ∧ (betB (↑(List.length m.letters) : Int) l.ll l.lh = true → iz 0 ≤ 0 ∧ 0 < (↑2 : Int) ∧ iz 0 ≤ 1 ∧ 1 < (↑2 : Int) ∧ FSpec PP 41 [di m.levels, di l.vl, di l.vh] (St.mk [] []) (db (betB m.levels l.vl l.vh)) (St.mk [] []) ∧ (betB m.levels l.vl l.vh = true → iz 0 ≤ 0 ∧ 0 < (↑2 : Int) ∧ iz 0 ≤ 1 ∧ 1 < (↑2 : Int) ∧ FSpec PP 41 [di m.age, di l.al, di l.ah] (St.mk [] []) (db (betB m.age l.al l.ah)) (St.mk [] []) ∧ db (betB m.age l.al l.ah) = db (sizedB l m)) ∧ (betB m.levels l.vl l.vh = false → db false = db (sizedB l m))) ∧ (betB (↑(List.length m.letters) : Int) l.ll l.lh = false → db false = db (sizedB l m))) ∧ (betB (↑(List.length m.places) : Int) l.pl l.ph = false → db false = db (sizedB l m))) ∧ (decide ((↑(List.length (List.map vRul m.rules)) : Int) ≤ 12) = false → db false = db (sizedB l m))) ∧ (betB (↑(List.length m.states) : Int) 1 8 = false → db false = db (sizedB l m))) = _) ?_
  repeat' first | with_reducible refine And.intro ?_ ?_ | intro _
  all_goals first | exact h | exact betw_spec _ _ _ | (simp only [List.length_map]; exact betw_spec _ _ _) | decide | (simp_all [sizedB]; done) | (simp_all [sizedB] <;> (intro h1 <;> exfalso; omega))
noncomputable abbrev fRanked : Func := Tryz.f43
noncomputable def cRanked : Code := fRanked.body.getD .skip
noncomputable abbrev fRanked1 : Func := Tryz.f66
noncomputable def cRanked1 : Code := fRanked1.body.getD .skip
theorem ranked1_spec (x : Int) : FSpec PP 66 [di x] σ0 (db (!betB x 0 5)) σ0 := by
  refine spec_vc mixed fRanked1 cRanked1 (by kernel_rfl) (by kernel_rfl) (by kernel_rfl) (by kernel_rfl) 6 (by kernel_rfl) [] (.c (db (betB x 0 5)) .r) ?_
  refine via (by kernel_rfl : (FSpec PP 41 [di x, di 0, di 5] (St.mk [] []) (db (betB x 0 5)) (St.mk [] []) ∧ (db !betB x 0 5) = db !betB x 0 5) = _) ?_
  exact ⟨betw_spec x 0 5, rfl⟩
def rankedB (m : Mod) : Bool := if (m.kind != 3) = true then (m.ranks.length : Int) == 0 else ((m.ranks.length : Int) == m.letters.length) && m.ranks.all fun x => betB x 0 5
theorem ranked_spec (m : Mod) (hm : m.ranks.length ≤ 1000000) : FSpec PP 43 [dMod m] σ0 (db (rankedB m)) σ0 := by
  refine spec_vc mixed fRanked cRanked (by kernel_rfl) (by kernel_rfl) (by kernel_rfl) (by kernel_rfl) 23 (by kernel_rfl) [1] (.b .r (.b (.c (db (m.ranks.any fun x => !betB x 0 5)) .r) .r)) ?_
  refine via (by kernel_rfl : (((m.kind != 3) = true → db ((↑(List.length (List.map vi m.ranks)) : Int) == 0) = db (rankedB m)) ∧ ((m.kind != 3) = false → (((↑(List.length (List.map vi m.ranks)) : Int) == (↑(List.length (List.map V.str m.letters)) : Int)) = true → FSpec PP 65 [D.v (vIs m.ranks), D.v (V.fn 66 [] [])] (St.mk [] []) (db (List.any m.ranks fun x => !betB x 0 5)) (St.mk [] []) ∧ (db !List.any m.ranks fun x => !betB x 0 5) = db (rankedB m)) ∧ (((↑(List.length (List.map vi m.ranks)) : Int) == (↑(List.length (List.map V.str m.letters)) : Int)) = false → db false = db (rankedB m)))) = _) ?_
  refine ⟨fun h1 => ?_, fun h1 => ⟨fun h2 => ⟨hasI_spec _ [] [] _ m.ranks hm fun x _ => ranked1_spec x, ?_⟩, fun h2 => ?_⟩⟩
  · simp only [rankedB, h1, if_true, List.length_map]
  · rw [any_not]; simp only [List.length_map] at h2; simp [rankedB, h1, h2]
  · simp only [List.length_map] at h2; simp [rankedB, h1, h2]
noncomputable abbrev fMLabel : Func := Tryz.f82
noncomputable def cMLabel : Code := fMLabel.body.getD .skip
theorem mlabel_spec (n : Int) : FSpec PP 82 [di n] σ0 (dT (.lab n)) σ0 := by
  refine spec_vc mixed fMLabel cMLabel (by kernel_rfl) (by kernel_rfl) (by kernel_rfl) (by kernel_rfl) 5 (by kernel_rfl) [] .r ?_
  refine via (by kernel_rfl : (D.v (V.agg [vi 2, vi n, V.list [], V.list []]) = dT (Typ.lab n)) = _) ?_
  rfl
noncomputable abbrev fMList : Func := Tryz.f84
noncomputable def cMList : Code := fMList.body.getD .skip
theorem mlist_word (t : Typ) : FSpec PP 84 [di 4, dT t] σ0 (dT (.word t)) σ0 := by
  refine spec_vc mixed fMList cMList (by kernel_rfl) (by kernel_rfl) (by kernel_rfl) (by kernel_rfl) 9 (by kernel_rfl) [3] .r ?_
  refine via (by kernel_rfl : (D.v (V.agg [vi 4, vi 0, V.list [], V.list [vT t]]) = dT (Typ.word t)) = _) ?_
  rw [dT, vT_word]; rfl
theorem mlist_bag (t : Typ) : FSpec PP 84 [di 5, dT t] σ0 (dT (.bag t)) σ0 := by
  refine spec_vc mixed fMList cMList (by kernel_rfl) (by kernel_rfl) (by kernel_rfl) (by kernel_rfl) 9 (by kernel_rfl) [3] .r ?_
  refine via (by kernel_rfl : (D.v (V.agg [vi 5, vi 0, V.list [], V.list [vT t]]) = dT (Typ.bag t)) = _) ?_
  rw [dT, vT_bag]; rfl
noncomputable abbrev fTyped : Func := Tryz.f51
noncomputable def cTyped : Code := fTyped.body.getD .skip
abbrev accT (l : List Typ) : D := .acc 1 (l.map eT)
abbrev ownT (l : List Typ) : St := ⟨[some [di 0, di 0, .v .nils, .v .nils]], [(1, 4, l.map eT)]⟩
theorem accT_snoc (l : List Typ) (t : Typ) : l.map eT ++ [vT t] = (l ++ [t]).map eT := by rw [← eT_eq]; simp
def eltM (m : Mod) : Typ := if m.kind = 1 then .nat else if m.kind = 2 then .word (.lab m.letters.length) else .prio m.letters.length m.ranks
def typM (m : Mod) : Typ := .prod (.lab m.states.length :: List.replicate m.places.length (eltM m))
theorem typed_loop1 (m : Mod) (hm : m.places.length ≤ 1000) (hk : m.kind = 1) (n : Nat) : ∀ (k : Nat) (xs : List Typ), m.places.length - k = n → k ≤ m.places.length → xs.length ≤ k + 1 →
    Rn PP fTyped 0 (dT (.prod (xs ++ List.replicate n (.nat)))) σ0 ([.lp (sub cTyped [1, 1, 0, 1, 0, 1, 1, 1, 1, 1, 0, 0]), .blk 1, .blk 0, .code (sub cTyped [1, 1, 1])] ++ []) (mkE 70 [(1, .v (.ref (vMod m))), (2, .ptr 0 0), (3, accT xs), (14, di m.places.length), (15, di k)]) (ownT xs) := by
  induction n with
  | zero =>
    intro k xs hn hk0 hxs
    refine loop_vc mixed 70 [1] (.f .r) ?_
    refine via (by kernel_rfl : (decide ((↑k : Int) < (↑(List.length m.places) : Int)) = false ∧ D.v (V.agg [vi 3, vi 0, V.list [], V.list (List.map eT xs)]) = dT (Typ.prod (xs ++ List.replicate 0 Typ.nat))) = _) ?_
    refine ⟨decide_eq_false (by omega), ?_⟩
    rw [List.replicate_zero, List.append_nil]; rfl
  | succ n ih =>
    intro k xs hn hk0 hxs
    refine loop_vc mixed 70 [1] (.t <| .f <| .f <| .ls [ke 1, ke 2, ch 3 (accT (xs ++ [.nat])), ke 14, ch 15 (di (k + 1 : Nat))] (ownT (xs ++ [.nat]))) ?_
    refine via (by kernel_rfl : (decide ((↑k : Int) < (↑(List.length m.places) : Int)) = true ∧ (m.kind == 2) = false ∧ (m.kind == 3) = false ∧ List.map eT xs = List.map eT xs ∧ LenOK (List.length (List.map eT xs) + List.length (V.agg (V.int IntKind.i64 1 :: V.int IntKind.i64 0 :: V.list nV :: V.list nV :: nV) :: nV)) 64 ∧ D.acc 1 (List.map eT xs ++ [V.agg [vi 1, vi 0, V.list [], V.list []]]) = accT (xs ++ [Typ.nat]) ∧ di (IntKind.wrap IntKind.i64 ((↑k : Int) + 1)) = di (↑(k + 1) : Int) ∧ [some [di 0, di 0, D.v V.nils, D.v V.nils]] = [some [di 0, di 0, D.v V.nils, D.v V.nils]] ∧ [(1, 4, List.map eT xs ++ V.agg (vi 1 :: vi 0 :: V.list nV :: V.list nV :: nV) :: nV)] = [(1, 4, List.map eT (xs ++ [Typ.nat]))] ∧ Nv.It (RunC (CN 0) PP (fun env σ1 => ResOK PP fTyped env σ1 (dT (Typ.prod (xs ++ List.replicate (n + 1) Typ.nat))) σ0) [KI.lp (sub cTyped [1, 1, 0, 1, 0, 1, 1, 1, 1, 1, 0, 0]), KI.blk 1, KI.blk 0, KI.code (sub cTyped [1, 1, 1])] (mkE 70 [(1, D.v (V.ref (vMod m))), (2, D.ptr 0 0), (3, accT (xs ++ [Typ.nat])), (14, di (↑(List.length m.places) : Int)), (15, di (↑(k + 1) : Int))]) (ownT (xs ++ [Typ.nat])))) = _) ?_
    have h := ih (k + 1) (xs ++ [.nat]) (by omega) (by omega) (by simp only [List.length_append, List.length_cons, List.length_nil]; omega)
    rw [List.append_assoc] at h
    refine ⟨decide_eq_true (by omega), by rw [hk]; rfl, by rw [hk]; rfl, rfl, ⟨?_, ?_⟩, ?_, wrap_succ (by omega), rfl, ?_, ⟨h⟩⟩
    · simp only [List.length_map, List.length_cons, List.length_nil]; omega
    · simp only [List.length_map, List.length_cons, List.length_nil]; omega
    · rw [accT, ← accT_snoc]; rfl
    · rw [← accT_snoc]; rfl
theorem typed_loop2 (m : Mod) (hm : m.places.length ≤ 1000) (hk : m.kind = 2) (n : Nat) : ∀ (k : Nat) (xs : List Typ), m.places.length - k = n → k ≤ m.places.length → xs.length ≤ k + 1 →
    Rn PP fTyped 0 (dT (.prod (xs ++ List.replicate n (.word (.lab m.letters.length))))) σ0 ([.lp (sub cTyped [1, 1, 0, 1, 0, 1, 1, 1, 1, 1, 0, 0]), .blk 1, .blk 0, .code (sub cTyped [1, 1, 1])] ++ []) (mkE 70 [(1, .v (.ref (vMod m))), (2, .ptr 0 0), (3, accT xs), (14, di m.places.length), (15, di k)]) (ownT xs) := by
  induction n with
  | zero =>
    intro k xs hn hk0 hxs
    refine loop_vc mixed 70 [1] (.f .r) ?_
    refine via (by kernel_rfl : (decide ((↑k : Int) < (↑(List.length m.places) : Int)) = false ∧ D.v (V.agg [vi 3, vi 0, V.list [], V.list (List.map eT xs)]) = dT (Typ.prod (xs ++ List.replicate 0 (Typ.word (Typ.lab (↑(List.length m.letters) : Int)))))) = _) ?_
    refine ⟨decide_eq_false (by omega), ?_⟩
    rw [List.replicate_zero, List.append_nil]; rfl
  | succ n ih =>
    intro k xs hn hk0 hxs
    refine loop_vc mixed 70 [1] (.t <| .t <| .c (dT (.lab m.letters.length)) <| .c (dT (.word (.lab m.letters.length))) <| .ls [ke 1, ke 2, ch 3 (accT (xs ++ [.word (.lab m.letters.length)])), ke 14, ch 15 (di (k + 1 : Nat))] (ownT (xs ++ [.word (.lab m.letters.length)]))) ?_
    refine via (by kernel_rfl : (decide ((↑k : Int) < (↑(List.length m.places) : Int)) = true ∧ (m.kind == 2) = true ∧ FSpec PP 82 [di (↑(List.length (List.map V.str m.letters)) : Int)] (St.mk [] []) (dT (Typ.lab (↑(List.length m.letters) : Int))) (St.mk [] []) ∧ FSpec PP 84 [di 4, D.v (vT (Typ.lab (↑(List.length m.letters) : Int)))] (St.mk [] []) (dT (Typ.word (Typ.lab (↑(List.length m.letters) : Int)))) (St.mk [] []) ∧ List.map eT xs = List.map eT xs ∧ LenOK (List.length (List.map eT xs) + List.length (V.agg (vi (Typ.kd (Typ.word (Typ.lab (↑(List.length m.letters) : Int)))) :: vi (Typ.sz (Typ.word (Typ.lab (↑(List.length m.letters) : Int)))) :: vIs (Typ.rk (Typ.word (Typ.lab (↑(List.length m.letters) : Int)))) :: V.list (List.map eT (Typ.ps (Typ.word (Typ.lab (↑(List.length m.letters) : Int))))) :: nV) :: nV)) 64 ∧ D.acc 1 (List.map eT xs ++ [V.agg [vi (Typ.kd (Typ.word (Typ.lab (↑(List.length m.letters) : Int)))), vi (Typ.sz (Typ.word (Typ.lab (↑(List.length m.letters) : Int)))), vIs (Typ.rk (Typ.word (Typ.lab (↑(List.length m.letters) : Int)))), V.list [eT (Typ.lab (↑(List.length m.letters) : Int))]]]) = accT (xs ++ [Typ.word (Typ.lab (↑(List.length m.letters) : Int))]) ∧ di (IntKind.wrap IntKind.i64 ((↑k : Int) + 1)) = di (↑(k + 1) : Int) ∧ [some [di 0, di 0, D.v V.nils, D.v V.nils]] = [some [di 0, di 0, D.v V.nils, D.v V.nils]] ∧ [(1, 4, List.map eT xs ++ V.agg (vi (Typ.kd (Typ.word (Typ.lab (↑(List.length m.letters) : Int)))) :: vi (Typ.sz (Typ.word (Typ.lab (↑(List.length m.letters) : Int)))) :: vIs (Typ.rk (Typ.word (Typ.lab (↑(List.length m.letters) : Int)))) :: V.list (eT (Typ.lab (↑(List.length m.letters) : Int)) :: nV) :: nV) :: nV)] = [(1, 4, List.map eT (xs ++ [Typ.word (Typ.lab (↑(List.length m.letters) : Int))]))] ∧ Nv.It (RunC (CN 0) PP (fun env σ1 => ResOK PP fTyped env σ1 (dT (Typ.prod (xs ++ List.replicate (n + 1) (Typ.word (Typ.lab (↑(List.length m.letters) : Int)))))) σ0) [KI.lp (sub cTyped [1, 1, 0, 1, 0, 1, 1, 1, 1, 1, 0, 0]), KI.blk 1, KI.blk 0, KI.code (sub cTyped [1, 1, 1])] (mkE 70 [(1, D.v (V.ref (vMod m))), (2, D.ptr 0 0), (3, accT (xs ++ [Typ.word (Typ.lab (↑(List.length m.letters) : Int))])), (14, di (↑(List.length m.places) : Int)), (15, di (↑(k + 1) : Int))]) (ownT (xs ++ [Typ.word (Typ.lab (↑(List.length m.letters) : Int))])))) = _) ?_
    have h := ih (k + 1) (xs ++ [.word (.lab m.letters.length)]) (by omega) (by omega) (by simp only [List.length_append, List.length_cons, List.length_nil]; omega)
    rw [List.append_assoc] at h
    refine ⟨decide_eq_true (by omega), by rw [hk]; rfl, by rw [List.length_map]; exact mlabel_spec _, mlist_word _, rfl, ⟨?_, ?_⟩, ?_, wrap_succ (by omega), rfl, ?_, ⟨h⟩⟩
    · simp only [List.length_map, List.length_cons, List.length_nil]; omega
    · simp only [List.length_map, List.length_cons, List.length_nil]; omega
    · rw [accT, ← accT_snoc]; rfl
    · rw [← accT_snoc]; rfl
theorem typed_loop3 (m : Mod) (hm : m.places.length ≤ 1000) (hr : m.ranks.length ≤ 1000000) (hk : m.kind = 3) (n : Nat) : ∀ (k : Nat) (xs : List Typ), m.places.length - k = n → k ≤ m.places.length → xs.length ≤ k + 1 →
    Rn PP fTyped 0 (dT (.prod (xs ++ List.replicate n (.prio m.letters.length m.ranks)))) σ0 ([.lp (sub cTyped [1, 1, 0, 1, 0, 1, 1, 1, 1, 1, 0, 0]), .blk 1, .blk 0, .code (sub cTyped [1, 1, 1])] ++ []) (mkE 70 [(1, .v (.ref (vMod m))), (2, .ptr 0 0), (3, accT xs), (14, di m.places.length), (15, di k)]) (ownT xs) := by
  induction n with
  | zero =>
    intro k xs hn hk0 hxs
    refine loop_vc mixed 70 [1] (.f .r) ?_
    refine via (by kernel_rfl : (decide ((↑k : Int) < (↑(List.length m.places) : Int)) = false ∧ D.v (V.agg [vi 3, vi 0, V.list [], V.list (List.map eT xs)]) = dT (Typ.prod (xs ++ List.replicate 0 (Typ.prio (↑(List.length m.letters) : Int) m.ranks)))) = _) ?_
    refine ⟨decide_eq_false (by omega), ?_⟩
    rw [List.replicate_zero, List.append_nil]; rfl
  | succ n ih =>
    intro k xs hn hk0 hxs
    refine loop_vc mixed 70 [1] (.t <| .f <| .t <| .c (dIs m.ranks) <| .ls [ke 1, ke 2, ch 3 (accT (xs ++ [.prio m.letters.length m.ranks])), ke 14, ch 15 (di (k + 1 : Nat))] (ownT (xs ++ [.prio m.letters.length m.ranks]))) ?_
    refine via (by kernel_rfl : (decide ((↑k : Int) < (↑(List.length m.places) : Int)) = true ∧ (m.kind == 2) = false ∧ (m.kind == 3) = true ∧ FSpec PP 85 [D.v (vIs m.ranks)] (St.mk [] []) (dIs m.ranks) (St.mk [] []) ∧ List.map eT xs = List.map eT xs ∧ LenOK (List.length (List.map eT xs) + List.length (V.agg (V.int IntKind.i64 7 :: V.int IntKind.i64 (↑(List.length (List.map V.str m.letters)) : Int) :: vIs m.ranks :: V.list nV :: nV) :: nV)) 64 ∧ D.acc 1 (List.map eT xs ++ [V.agg [vi 7, vi (↑(List.length (List.map V.str m.letters)) : Int), vIs m.ranks, V.list []]]) = accT (xs ++ [Typ.prio (↑(List.length m.letters) : Int) m.ranks]) ∧ di (IntKind.wrap IntKind.i64 ((↑k : Int) + 1)) = di (↑(k + 1) : Int) ∧ [some [di 0, di 0, D.v V.nils, D.v V.nils]] = [some [di 0, di 0, D.v V.nils, D.v V.nils]] ∧ [(1, 4, List.map eT xs ++ V.agg (vi 7 :: vi (↑(List.length (List.map V.str m.letters)) : Int) :: vIs m.ranks :: V.list nV :: nV) :: nV)] = [(1, 4, List.map eT (xs ++ [Typ.prio (↑(List.length m.letters) : Int) m.ranks]))] ∧ Nv.It (RunC (CN 0) PP (fun env σ1 => ResOK PP fTyped env σ1 (dT (Typ.prod (xs ++ List.replicate (n + 1) (Typ.prio (↑(List.length m.letters) : Int) m.ranks)))) σ0) [KI.lp (sub cTyped [1, 1, 0, 1, 0, 1, 1, 1, 1, 1, 0, 0]), KI.blk 1, KI.blk 0, KI.code (sub cTyped [1, 1, 1])] (mkE 70 [(1, D.v (V.ref (vMod m))), (2, D.ptr 0 0), (3, accT (xs ++ [Typ.prio (↑(List.length m.letters) : Int) m.ranks])), (14, di (↑(List.length m.places) : Int)), (15, di (↑(k + 1) : Int))]) (ownT (xs ++ [Typ.prio (↑(List.length m.letters) : Int) m.ranks])))) = _) ?_
    have h := ih (k + 1) (xs ++ [.prio m.letters.length m.ranks]) (by omega) (by omega) (by simp only [List.length_append, List.length_cons, List.length_nil]; omega)
    rw [List.append_assoc] at h
    refine ⟨decide_eq_true (by omega), by rw [hk]; rfl, by rw [hk]; rfl, cloI_spec m.ranks hr, rfl, ⟨?_, ?_⟩, ?_, wrap_succ (by omega), rfl, ?_, ⟨h⟩⟩
    · simp only [List.length_map, List.length_cons, List.length_nil]; omega
    · simp only [List.length_map, List.length_cons, List.length_nil]; omega
    · rw [accT, ← accT_snoc]; rw [List.length_map]; rfl
    · rw [← accT_snoc]; rw [List.length_map]; rfl
theorem typed_spec (m : Mod) (hm : m.places.length ≤ 1000) (hr : m.ranks.length ≤ 1000000) (hk : m.kind = 1 ∨ m.kind = 2 ∨ m.kind = 3) : FSpec PP 51 [dMod m] σ0 (dT (typM m)) σ0 := by
  refine spec_vc mixed fTyped cTyped (by kernel_rfl) (by kernel_rfl) (by kernel_rfl) (by kernel_rfl) 70 (by kernel_rfl) [1] (.c (dT (.lab m.states.length)) <| .a 1 <| .f <| .f <| .ls [ke 1, ke 2, ch 3 (accT [.lab m.states.length]), ch 14 (di m.places.length), ch 15 (di (0 : Nat))] (ownT [.lab m.states.length])) ?_
  refine via (by kernel_rfl : (FSpec PP 82 [di (↑(List.length (List.map V.str m.states)) : Int)] (St.mk [] []) (dT (Typ.lab (↑(List.length m.states) : Int))) (St.mk [] []) ∧ (m.kind == 4) = false ∧ (m.kind == 5) = false ∧ D.acc 1 [vT (Typ.lab (↑(List.length m.states) : Int))] = accT [Typ.lab (↑(List.length m.states) : Int)] ∧ di (↑(List.length (List.map V.str m.places)) : Int) = di (↑(List.length m.places) : Int) ∧ di 0 = di (↑0 : Int) ∧ [some [di 0, di 0, D.v V.nils, D.v V.nils]] = [some [di 0, di 0, D.v V.nils, D.v V.nils]] ∧ [(1, 4, vT (Typ.lab (↑(List.length m.states) : Int)) :: nV)] = [(1, 4, eT (Typ.lab (↑(List.length m.states) : Int)) :: nV)] ∧ Nv.It (RunC (CN (List.length σ0.H)) PP (fun env σ1 => ResOK PP fTyped env σ1 (dT (typM m)) σ0) [KI.lp (sub cTyped [1, 1, 0, 1, 0, 1, 1, 1, 1, 1, 0, 0]), KI.blk 1, KI.blk 0, KI.code (sub cTyped [1, 1, 1])] (mkE 70 [(1, D.v (V.ref (vMod m))), (2, D.ptr 0 0), (3, accT [Typ.lab (↑(List.length m.states) : Int)]), (14, di (↑(List.length m.places) : Int)), (15, di (↑0 : Int))]) (ownT [Typ.lab (↑(List.length m.states) : Int)]))) = _) ?_
  refine ⟨by rw [List.length_map]; exact mlabel_spec _, by rcases hk with h | h | h <;> rw [h] <;> rfl, by rcases hk with h | h | h <;> rw [h] <;> rfl, rfl, by rw [List.length_map], rfl, rfl, rfl, ⟨?_⟩⟩
  rcases hk with h | h | h
  · have := typed_loop1 m hm h _ 0 [.lab m.states.length] rfl (by omega) (by simp)
    rw [Nat.sub_zero] at this
    rw [typM, show eltM m = .nat by simp [eltM, h]]
    exact this
  · have := typed_loop2 m hm h _ 0 [.lab m.states.length] rfl (by omega) (by simp)
    rw [Nat.sub_zero] at this
    rw [typM, show eltM m = .word (.lab m.letters.length) by simp [eltM, h]]
    exact this
  · have := typed_loop3 m hm hr h _ 0 [.lab m.states.length] rfl (by omega) (by simp)
    rw [Nat.sub_zero] at this
    rw [typM, show eltM m = .prio m.letters.length m.ranks by simp [eltM, h]]
    exact this
end Go.Proofs.YtopbcpgmffppjaaGreatDoor

namespace Go.Proofs.YtopbcpgmffppjaaGreatDoor
open Go.Dv Go.Nv
set_option maxRecDepth 20000

noncomputable abbrev fIxR : Func := Tryz.f70
noncomputable def cIxR : Code := fIxR.body.getD .skip
theorem ixR_loop (F : FuncId) (fs cs : List V) (p : Rul → Bool) (l : List (Rul)) (hl : l.length ≤ 1000000) (hp : ∀ x ∈ l, FSpec PP F ((fs ++ [vRul x] ++ cs).map .v) σ0 (db (p x)) σ0) (n : Nat) : ∀ k : Nat, l.length - k = n →
    Rn PP fIxR 0 (di (ixM p (l.drop k) k)) σ0 ([.lp (sub cIxR [1, 0, 1, 0, 0]), .blk 0, .code (sub cIxR [1, 1])] ++ []) (mkE 19 [(0, dl (l.map vRul)), (1, .v (.fn F fs cs)), (7, di l.length), (8, di k)]) σ0 := by
  induction n using Nat.strongRecOn with
  | _ n ih =>
  intro k hn
  refine loop_vc mixed 19 [] (.b (.e fun x : Rul => .x (vRul x) <| .c (db (p x)) <| .b .r (.l [ke 0, ke 1, ke 7, ch 8 (di (k + 1 : Nat))])) .r) ?_
  refine via (by kernel_rfl : ((decide ((↑k : Int) < (↑(List.length l) : Int)) = true → ∃ a, 0 ≤ (↑k : Int) ∧ (List.map vRul l)[Int.toNat (↑k : Int)]? = some (vRul a) ∧ FSpec PP F (List.map D.v (fs ++ [vRul a] ++ cs)) (St.mk [] []) (db (p a)) (St.mk [] []) ∧ (p a = true → di (↑k : Int) = di (ixM p (List.drop k l) k)) ∧ (p a = false → di (IntKind.wrap IntKind.i64 ((↑k : Int) + 1)) = di (↑(k + 1) : Int) ∧ Nv.It (RunC (CN 0) PP (fun env σ1 => ResOK PP fIxR env σ1 (di (ixM p (List.drop k l) k)) σ0) [KI.lp (sub cIxR [1, 0, 1, 0, 0]), KI.blk 0, KI.code (sub cIxR [1, 1])] (mkE 19 [(0, D.v (V.list (List.map vRul l))), (1, D.v (V.fn F fs cs)), (7, di (↑(List.length l) : Int)), (8, di (↑(k + 1) : Int))]) σ0))) ∧ (decide ((↑k : Int) < (↑(List.length l) : Int)) = false → di (-1) = di (ixM p (List.drop k l) k))) = _) ?_
  refine ⟨fun h => ?_, fun h => ?_⟩
  · have hk : k < l.length := by simpa using h
    have hx : l[k]? = some l[k] := List.getElem?_eq_getElem hk
    rw [List.drop_eq_getElem_cons hk]
    generalize l[k] = x at hx ⊢
    refine ⟨x, by omega, idx_some hx, hp x (List.mem_of_getElem? hx), fun hf => by simp [ixM, hf], fun hf => ⟨wrap_succ (by omega), ⟨?_⟩⟩⟩
    simp only [ixM, hf]
    exact ih (l.length - (k + 1)) (by omega) (k + 1) rfl
  · have hk : l.length ≤ k := by simpa using h
    rw [List.drop_of_length_le hk]; rfl
theorem ixR_spec (F : FuncId) (fs cs : List V) (p : Rul → Bool) (l : List (Rul)) (hl : l.length ≤ 1000000) (hp : ∀ x ∈ l, FSpec PP F ((fs ++ [vRul x] ++ cs).map .v) σ0 (db (p x)) σ0) :
    FSpec PP 70 [dl (l.map vRul), .v (.fn F fs cs)] σ0 (di (ixM p l 0)) σ0 := by
  refine spec_vc mixed fIxR cIxR (by kernel_rfl) (by kernel_rfl) (by kernel_rfl) (by kernel_rfl) 19 (by kernel_rfl) [] (.l [ke 0, ke 1, ch 7 (di l.length), ch 8 (di (0 : Nat))]) ?_
  refine via (by kernel_rfl : (di (↑(List.length (List.map vRul l)) : Int) = di (↑(List.length l) : Int) ∧ di 0 = di (↑0 : Int) ∧ Nv.It (RunC (CN (List.length σ0.H)) PP (fun env σ1 => ResOK PP fIxR env σ1 (di (ixM p l 0)) σ0) [KI.lp (sub cIxR [1, 0, 1, 0, 0]), KI.blk 0, KI.code (sub cIxR [1, 1])] (mkE 19 [(0, dl (List.map vRul l)), (1, D.v (V.fn F fs cs)), (7, di (↑(List.length l) : Int)), (8, di (↑0 : Int))]) σ0)) = _) ?_
  refine ⟨by simp, rfl, ⟨?_⟩⟩
  exact ixR_loop F fs cs p l hl hp _ 0 rfl

noncomputable abbrev fHasR : Func := Tryz.f45
noncomputable def cHasR : Code := fHasR.body.getD .skip
theorem hasR_spec (F : FuncId) (fs cs : List V) (p : Rul → Bool) (l : List (Rul)) (hl : l.length ≤ 1000000) (hp : ∀ x ∈ l, FSpec PP F ((fs ++ [vRul x] ++ cs).map .v) σ0 (db (p x)) σ0) :
    FSpec PP 45 [dl (l.map vRul), .v (.fn F fs cs)] σ0 (db (l.any p)) σ0 := by
  refine spec_vc mixed fHasR cHasR (by kernel_rfl) (by kernel_rfl) (by kernel_rfl) (by kernel_rfl) 9 (by kernel_rfl) [] (.c (di (ixM p l 0)) .r) ?_
  refine via (by kernel_rfl : (FSpec PP 70 [D.v (V.list (List.map vRul l)), D.v (V.fn F fs cs)] (St.mk [] []) (di (ixM p l 0)) (St.mk [] []) ∧ db (decide (ixM p l 0 ≥ 0)) = db (List.any l p)) = _) ?_
  exact ⟨ixR_spec F fs cs p l hl hp, by rw [← ixM_any]⟩

def limM (m : Mod) : Lims := if m.kind = 1 then lim1 else lim2
def rightM (m : Mod) (r : Rul) : Bool := if m.kind = 1 then rightC m r else rightL m r
/-- a right model of counters or of channels -/
structure Mod.ok (m : Mod) : Prop where
  kind : m.kind = 1 ∨ m.kind = 2 ∨ m.kind = 3
  sized : sizedB (limM m) m = true
  ranked : rankedB m = true
  named : namedB m = true
  rshort : ∀ r ∈ m.rules, r.short
  right : ∀ r ∈ m.rules, rightM m r = true
  start : validB (typM m) m.start = true
  ssize : m.start.size ≤ 1000000
theorem betB_ok {x a b : Int} (h : betB x a b = true) : a ≤ x ∧ x ≤ b := by simpa [betB] using h
theorem Mod.ok.sz {m : Mod} (h : m.ok) : 1 ≤ m.states.length ∧ m.states.length ≤ 8 ∧ m.rules.length ≤ 12 ∧ 1 ≤ m.places.length ∧ m.places.length ≤ 6 ∧ m.letters.length ≤ 6 ∧ m.ranks.length ≤ 6 ∧ (m.kind ≠ 1 → 1 ≤ m.letters.length) := by
  have hs := h.sized
  simp only [sizedB, Bool.and_eq_true, decide_eq_true_eq] at hs
  obtain ⟨h1, h2, h3, h4, h5, h6⟩ := hs
  have h1 := betB_ok h1
  have h3 := betB_ok h3
  have h4 := betB_ok h4
  have hr := h.ranked
  have hl : (limM m).pl = 1 ∧ (limM m).ph ≤ 6 ∧ (limM m).lh ≤ 6 ∧ (m.kind ≠ 1 → (limM m).ll = 1) := by
    unfold limM
    split
    · rename_i hk
      exact ⟨rfl, by decide, by decide, fun hk2 => absurd hk hk2⟩
    · exact ⟨rfl, by decide, by decide, fun _ => rfl⟩
  have hrk : m.ranks.length = 0 ∨ m.ranks.length = m.letters.length := by
    unfold rankedB at hr
    split at hr
    · exact .inl (by simpa using hr)
    · right
      simp only [Bool.and_eq_true, beq_iff_eq] at hr
      exact Int.ofNat_inj.1 hr.1
  obtain ⟨a1, a2, a3, a4⟩ := hl
  refine ⟨by omega, by omega, by omega, by omega, by omega, by omega, by omega, fun hk => ?_⟩
  have := a4 hk
  omega
theorem Mod.ok.short {m : Mod} (h : m.ok) : m.short := by
  obtain ⟨h1, h2, h3, h4, h5, h6, h7, h8⟩ := h.sz
  exact ⟨by omega, by omega, by omega, by omega, by omega, h.rshort⟩
theorem Mod.ok.good {m : Mod} (h : m.ok) : goodB 8 (typM m) = true := by
  obtain ⟨h1, h2, h3, h4, h5, h6, h7, h8⟩ := h.sz
  have he : goodB 7 (eltM m) = true := by
    unfold eltM
    split
    · rfl
    · rename_i hk
      split
      · have := h8 hk
        simp only [goodB, Bool.and_eq_true, decide_eq_true_eq]; omega
      · rename_i hk2
        have hk3 : m.kind = 3 := by rcases h.kind with h | h | h <;> omega
        have hr := h.ranked
        simp only [rankedB, hk3, bne_self_eq_false, Bool.false_eq_true, if_false, Bool.and_eq_true, beq_iff_eq, List.all_eq_true] at hr
        have := h8 hk
        simp only [goodB, rankB, Bool.and_eq_true, beq_iff_eq, decide_eq_true_eq, Bool.not_eq_true', List.any_eq_false, Bool.not_eq_true]
        refine ⟨by omega, by omega, by omega, fun x hx => ?_⟩
        have := betB_ok (hr.2 x hx)
        simp only [rk1B, Bool.or_eq_false_iff, decide_eq_false_iff_not]; omega
  simp only [typM, goodB, List.length_cons, List.length_replicate, List.all_cons, Bool.and_eq_true, Bool.not_eq_true', beq_eq_false_iff_ne, decide_eq_false_iff_not, decide_eq_true_eq, List.all_eq_true]
  refine ⟨by omega, by omega, ⟨by omega, by omega⟩, fun t ht => ?_⟩
  rw [(List.mem_replicate.1 ht).2]; exact he
theorem right_m (m : Mod) (hm : m.ok) (r : Rul) (hr : r ∈ m.rules) : FSpec PP 47 [dMod m, dRul r] σ0 (db true) σ0 := by
  have h := hm.right r hr
  rcases hm.kind with hk | hk
  · rw [rightM, if_pos hk] at h
    rw [← h]; exact rightC_spec m hm.short hk r (hm.rshort r hr)
  · rw [rightM, if_neg (by omega)] at h
    rw [← h]; exact rightL_spec m hm.short hk r (hm.rshort r hr)
noncomputable abbrev fChk1 : Func := Tryz.f46
noncomputable def cChk1 : Code := fChk1.body.getD .skip
theorem chk1_spec (m : Mod) (hm : m.ok) (r : Rul) (hr : r ∈ m.rules) : FSpec PP 46 [dRul r, .v (.ref (vMod m))] σ0 (db false) σ0 := by
  refine spec_vc mixed fChk1 cChk1 (by kernel_rfl) (by kernel_rfl) (by kernel_rfl) (by kernel_rfl) 8 (by kernel_rfl) [2] (.c (db true) .r) ?_
  refine via (by kernel_rfl : (FSpec PP 47 [D.v (vMod m), D.v (vRul r)] (St.mk [] []) (db true) (St.mk [] []) ∧ (db !true) = db false) = _) ?_
  exact ⟨right_m m hm r hr, rfl⟩
noncomputable abbrev fBeg : Func := Tryz.f48
noncomputable def cBeg : Code := fBeg.body.getD .skip
theorem beg_spec (m : Mod) (hm : m.ok) : FSpec PP 48 [dMod m] σ0 (db true) σ0 := by
  refine spec_vc mixed fBeg cBeg (by kernel_rfl) (by kernel_rfl) (by kernel_rfl) (by kernel_rfl) 22 (by kernel_rfl) [1] (.f <| .c (dT (typM m)) <| .c (db true) .r) ?_
  refine via (by kernel_rfl : ((m.kind == 6) = false ∧ FSpec PP 51 [D.v (vMod m)] (St.mk [] []) (dT (typM m)) (St.mk [] []) ∧ FSpec PP 50 [D.v (vT (typM m)), D.v (V.agg [vi (Val.n m.start), vVs (Val.kids m.start)])] (St.mk [] []) (db true) (St.mk [] []) ∧ db true = db true) = _) ?_
  obtain ⟨h1, h2, h3, h4, h5, h6, h7, h8⟩ := hm.sz
  refine ⟨by rcases hm.kind with h | h | h <;> rw [h] <;> rfl, typed_spec m (by omega) (by omega) hm.kind, ?_, rfl⟩
  have := oval_spec (typM m) hm.good m.start hm.ssize
  rw [hm.start] at this
  exact this
noncomputable abbrev fChk : Func := Tryz.f31
noncomputable def cChk : Code := fChk.body.getD .skip
theorem chk_spec (m : Mod) (hm : m.ok) : FSpec PP 31 [dMod m] σ0 (di 0) σ0 := by
  refine spec_vc mixed fChk cChk (by kernel_rfl) (by kernel_rfl) (by kernel_rfl) (by kernel_rfl) 29 (by kernel_rfl) [1] (.c (db true) <| .c (db true) <| .c (db true) <| .c (db true) <| .c (db false) <| .c (db true) .r) ?_
  refine via (by kernel_rfl : (FSpec PP 41 [di m.kind, di 1, di 6] (St.mk [] []) (db true) (St.mk [] []) ∧ FSpec PP 42 [D.v (vMod m)] (St.mk [] []) (db true) (St.mk [] []) ∧ FSpec PP 43 [D.v (vMod m)] (St.mk [] []) (db true) (St.mk [] []) ∧ FSpec PP 44 [D.v (vMod m)] (St.mk [] []) (db true) (St.mk [] []) ∧ FSpec PP 45 [D.v (vRuls m.rules), D.v (V.fn 46 [] [V.ref (vMod m)])] (St.mk [] []) (db false) (St.mk [] []) ∧ FSpec PP 48 [D.v (vMod m)] (St.mk [] []) (db true) (St.mk [] []) ∧ di 0 = di 0) = _) ?_
  obtain ⟨h1, h2, h3, h4, h5, h6, h7, h8⟩ := hm.sz
  refine ⟨?_, ?_, ?_, ?_, ?_, beg_spec m hm, rfl⟩
  · have := betw_spec m.kind 1 6
    rwa [show betB m.kind 1 6 = true by rcases hm.kind with h | h | h <;> rw [h] <;> rfl] at this
  · have := sized_spec (limM m) m (by
      unfold limM
      rcases hm.kind with h | h | h <;> rw [h]
      · exact of_1
      · exact of_2
      · exact of_3)
    rwa [hm.sized] at this
  · have := ranked_spec m (by omega)
    rwa [hm.ranked] at this
  · have := nam_spec m (by simp only [baseM, List.flatten_cons, List.flatten_nil, List.length_append, List.length_nil]; omega)
    rwa [hm.named] at this
  · have := hasR_spec 46 [] [.ref (vMod m)] (fun _ => false) m.rules (by omega) (fun r hr => chk1_spec m hm r hr)
    rw [show m.rules.any (fun _ => false) = false by simp] at this
    exact this
noncomputable abbrev fMVal : Func := Tryz.f33
noncomputable def cMVal : Code := fMVal.body.getD .skip
theorem mval_spec (m : Mod) (hm : m.ok) (v : Val) (hv : v.size ≤ 1000000) : FSpec PP 33 [dMod m, dV v] σ0 (db (validB (typM m) v)) σ0 := by
  refine spec_vc mixed fMVal cMVal (by kernel_rfl) (by kernel_rfl) (by kernel_rfl) (by kernel_rfl) 14 (by kernel_rfl) [2, 3] (.c (di 0) <| .c (dT (typM m)) <| .c (db (validB (typM m) v)) .r) ?_
  refine via (by kernel_rfl : (FSpec PP 31 [D.v (vMod m)] (St.mk [] []) (di 0) (St.mk [] []) ∧ FSpec PP 51 [D.v (vMod m)] (St.mk [] []) (dT (typM m)) (St.mk [] []) ∧ FSpec PP 50 [D.v (vT (typM m)), D.v (vVal v)] (St.mk [] []) (db (validB (typM m) v)) (St.mk [] []) ∧ db (validB (typM m) v) = db (validB (typM m) v)) = _) ?_
  obtain ⟨h1, h2, h3, h4, h5, h6, h7, h8⟩ := hm.sz
  exact ⟨chk_spec m hm, typed_spec m (by omega) (by omega) hm.kind, oval_spec _ hm.good v hv, rfl⟩
noncomputable abbrev fWlk : Func := Tryz.f21
noncomputable def cWlk : Code := fWlk.body.getD .skip
theorem wlk_spec (m : Mod) (hm : m.ok) : FSpec PP 21 [dMod m] σ0 (di 0) σ0 := by
  refine spec_vc mixed fWlk cWlk (by kernel_rfl) (by kernel_rfl) (by kernel_rfl) (by kernel_rfl) 12 (by kernel_rfl) [1] (.c (di 0) <| .k <| .f .r) ?_
  refine via (by kernel_rfl : (FSpec PP 31 [D.v (vMod m)] (St.mk [] []) (di 0) (St.mk [] []) ∧ (m.kind == 6) = false ∧ di 0 = di 0) = _) ?_
  exact ⟨chk_spec m hm, by rcases hm.kind with h | h | h <;> rw [h] <;> rfl, rfl⟩
noncomputable abbrev fSPl : Func := Tryz.f32
noncomputable def cSPl : Code := fSPl.body.getD .skip
noncomputable abbrev fSPl1 : Func := Tryz.f49
noncomputable def cSPl1 : Code := fSPl1.body.getD .skip
def plainB (m : Mod) : Bool := (m.kind == 1) && m.rules.all fun r => !decide ((r.move.length : Int) > 0)
theorem spl1_spec (r : Rul) : FSpec PP 49 [dRul r] σ0 (db (decide ((r.move.length : Int) > 0))) σ0 := by
  refine spec_vc mixed fSPl1 cSPl1 (by kernel_rfl) (by kernel_rfl) (by kernel_rfl) (by kernel_rfl) 7 (by kernel_rfl) [1] .r ?_
  refine via (by kernel_rfl : (db (decide ((↑(List.length (List.map vi r.move)) : Int) > 0)) = db (decide ((↑(List.length r.move) : Int) > 0))) = _) ?_
  rw [List.length_map]
theorem spl_spec (m : Mod) (hm : m.rules.length ≤ 1000000) : FSpec PP 32 [dMod m] σ0 (db (plainB m)) σ0 := by
  refine spec_vc mixed fSPl cSPl (by kernel_rfl) (by kernel_rfl) (by kernel_rfl) (by kernel_rfl) 12 (by kernel_rfl) [1] (.b (.c (db (m.rules.any fun r => decide ((r.move.length : Int) > 0))) .r) .r) ?_
  refine via (by kernel_rfl : (((m.kind == 1) = true → FSpec PP 45 [D.v (vRuls m.rules), D.v (V.fn 49 [] [])] (St.mk [] []) (db (List.any m.rules fun r => decide ((↑(List.length r.move) : Int) > 0))) (St.mk [] []) ∧ (db !List.any m.rules fun r => decide ((↑(List.length r.move) : Int) > 0)) = db (plainB m)) ∧ ((m.kind == 1) = false → db false = db (plainB m))) = _) ?_
  refine ⟨fun h => ⟨hasR_spec _ [] [] _ m.rules hm fun r _ => spl1_spec r, ?_⟩, fun h => ?_⟩
  · simp only [plainB, h, Bool.true_and]
    rw [← any_not]; simp only [Bool.not_not]
  · simp only [plainB, h, Bool.false_and]
noncomputable abbrev fSSame : Func := Tryz.f28
noncomputable def cSSame : Code := fSSame.body.getD .skip
theorem ssame_spec (a b : Val) (ha : a.size ≤ 1000000) : FSpec PP 28 [dV a, dV b] σ0 (db (cmpV a b == 0)) σ0 := by
  refine spec_vc mixed fSSame cSSame (by kernel_rfl) (by kernel_rfl) (by kernel_rfl) (by kernel_rfl) 9 (by kernel_rfl) [2, 3] (.c (di (cmpV a b)) .r) ?_
  refine via (by kernel_rfl : (FSpec PP 39 [D.v (vVal a), D.v (vVal b)] (St.mk [] []) (di (cmpV a b)) (St.mk [] []) ∧ db (cmpV a b == 0) = db (cmpV a b == 0)) = _) ?_
  exact ⟨cmpV_spec _ a b (Nat.le_refl _) ha, rfl⟩
end Go.Proofs.YtopbcpgmffppjaaGreatDoor

namespace Go.Proofs.YtopbcpgmffppjaaGreatDoor
open Go.Dv Go.Nv
set_option maxRecDepth 20000
/- WORDS -/
/- NUMBERS -/
/- NAMES -/
end Go.Proofs.YtopbcpgmffppjaaGreatDoor


namespace Go.Proofs.YtopbcpgmffppjaaGreatDoor
open Go.Dv Go.Nv
set_option maxRecDepth 20000
/- RULES -/
end Go.Proofs.YtopbcpgmffppjaaGreatDoor


namespace Go.Proofs.YtopbcpgmffppjaaGreatDoor
open Go.Dv Go.Nv
set_option maxRecDepth 20000
noncomputable abbrev fOrd01 : Func := Tryz.f92
noncomputable def cOrd01 : Code := fOrd01.body.getD .skip
theorem ord01_spec (a b : Int) : FSpec PP 92 [di a, di b] σ0 (di (cmpI a b)) σ0 := by
  refine spec_vc mixed fOrd01 cOrd01 (by kernel_rfl) (by kernel_rfl) (by kernel_rfl) (by kernel_rfl) 11 (by kernel_rfl) [] (.b .r <| .b .r .r) ?_
  refine via (by kernel_rfl : ((decide (a < b) = true → di (-1) = di (cmpI a b)) ∧ (decide (a < b) = false → (decide (a > b) = true → di 1 = di (cmpI a b)) ∧ (decide (a > b) = false → di 0 = di (cmpI a b)))) = _) ?_
  refine ⟨fun h => ?_, fun h => ⟨fun h1 => ?_, fun h1 => ?_⟩⟩ <;> simp_all [cmpI] <;> omega
theorem cmpI_eq {a b : Int} : cmpI a b = 0 ↔ a = b := by unfold cmpI; (repeat' split) <;> omega
theorem cmpV_one (a b : Val) : cmpV a b = if cmpI a.n b.n = 0 then (if cmpI a.kids.length b.kids.length = 0 then cmpL cmpV a.kids b.kids else cmpI a.kids.length b.kids.length) else cmpI a.n b.n := by
  cases a; cases b; simp only [cmpV, cmpVl_eq]; rfl
noncomputable abbrev fCmp06 : Func := Tryz.f61
noncomputable def cCmp06 : Code := fCmp06.body.getD .skip
theorem cmp06_spec (N : Nat) : ∀ a b : Val, a.size ≤ N → a.size ≤ 1000000 → FSpec PP 61 [dV a, dV b] σ0 (di (cmpV a b)) σ0 := by
  induction N with
  | zero => intro v _ hv; have := v.size_pos; omega
  | succ N ihN =>
    intro a b ha ha1
    have hsz := a.size_eq
    have hlen := Val.length_le a.kids
    have loop (hab : a.kids.length = b.kids.length) (n : Nat) : ∀ k : Nat, a.kids.length - k = n →
        Rn PP fCmp06 0 (di (cmpL cmpV (a.kids.drop k) (b.kids.drop k))) σ0 ([.lp (sub cCmp06 [1, 1, 1, 0, 1, 0, 0]), .blk 0, .code (sub cCmp06 [1, 1, 1, 1])] ++ []) (mkE 52 [(2, .v (.ref (vVal a))), (3, .v (.ref (vVal b))), (5, di k)]) σ0 := by
      induction n using Nat.strongRecOn with
      | _ n ih =>
      intro k hn
      refine loop_vc mixed 52 [2, 3] (.b (.e fun x : Val => .x (vVal x) <| .e fun y : Val => .x (vVal y) <| .c (di (cmpV x y)) <| .b .r (.l [ke 2, ke 3, ch 5 (di (k + 1 : Nat))])) .r) ?_
      refine via (by kernel_rfl : ((decide ((↑k : Int) < (↑(List.length (List.map eV (Val.kids a))) : Int)) = true → ∃ a_2, 0 ≤ (↑k : Int) ∧ (List.map eV (Val.kids a))[Int.toNat (↑k : Int)]? = some (vVal a_2) ∧ ∃ a_3, 0 ≤ (↑k : Int) ∧ (List.map eV (Val.kids b))[Int.toNat (↑k : Int)]? = some (vVal a_3) ∧ FSpec PP 61 [D.v (vVal a_2), D.v (vVal a_3)] (St.mk [] []) (di (cmpV a_2 a_3)) (St.mk [] []) ∧ ((cmpV a_2 a_3 != 0) = true → di (cmpV a_2 a_3) = di (cmpL cmpV (List.drop k (Val.kids a)) (List.drop k (Val.kids b)))) ∧ ((cmpV a_2 a_3 != 0) = false → di (IntKind.wrap IntKind.i64 ((↑k : Int) + 1)) = di (↑(k + 1) : Int) ∧ Nv.It (RunC (CN 0) PP (fun env σ1 => ResOK PP fCmp06 env σ1 (di (cmpL cmpV (List.drop k (Val.kids a)) (List.drop k (Val.kids b)))) σ0) [KI.lp (sub cCmp06 [1, 1, 1, 0, 1, 0, 0]), KI.blk 0, KI.code (sub cCmp06 [1, 1, 1, 1])] (mkE 52 [(2, D.v (V.ref (vVal a))), (3, D.v (V.ref (vVal b))), (5, di (↑(k + 1) : Int))]) (St.mk [] [])))) ∧ (decide ((↑k : Int) < (↑(List.length (List.map eV (Val.kids a))) : Int)) = false → di 0 = di (cmpL cmpV (List.drop k (Val.kids a)) (List.drop k (Val.kids b))))) = _) ?_
      refine ⟨fun h => ?_, fun h => ?_⟩
      · have hk : k < a.kids.length := by simpa using h
        have hk2 : k < b.kids.length := by omega
        have hx : a.kids[k]? = some a.kids[k] := List.getElem?_eq_getElem hk
        have hy : b.kids[k]? = some b.kids[k] := List.getElem?_eq_getElem hk2
        rw [List.drop_eq_getElem_cons hk, List.drop_eq_getElem_cons hk2]
        generalize a.kids[k] = x at hx ⊢
        generalize b.kids[k] = y at hy ⊢
        have hxs := Val.size_mem (List.mem_of_getElem? hx)
        refine ⟨x, by omega, idx_val hx, y, by omega, idx_val hy, ihN x y (by omega) (by omega), fun h1 => ?_, fun h1 => ⟨wrap_succ (by omega), ⟨?_⟩⟩⟩
        · have h1 : cmpV x y ≠ 0 := by simpa using h1
          simp only [cmpL, if_neg h1]
        · have h1 : cmpV x y = 0 := by simpa using h1
          simp only [cmpL, if_pos h1]
          exact ih (a.kids.length - (k + 1)) (by omega) (k + 1) rfl
      · have hk : a.kids.length ≤ k := by simpa using h
        rw [List.drop_of_length_le hk, List.drop_of_length_le (by omega)]; rfl
    refine spec_vc mixed fCmp06 cCmp06 (by kernel_rfl) (by kernel_rfl) (by kernel_rfl) (by kernel_rfl) 52 (by kernel_rfl) [2, 3] (.b (.c (di (cmpI a.n b.n)) .r) (.b (.c (di (cmpI a.kids.length b.kids.length)) .r) (.l [ke 2, ke 3, ch 5 (di (0 : Nat))]))) ?_
    refine via (by kernel_rfl : (((Val.n a != Val.n b) = true → FSpec PP 92 [di (Val.n a), di (Val.n b)] (St.mk [] []) (di (cmpI (Val.n a) (Val.n b))) (St.mk [] []) ∧ di (cmpI (Val.n a) (Val.n b)) = di (cmpV a b)) ∧ ((Val.n a != Val.n b) = false → (((↑(List.length (List.map eV (Val.kids a))) : Int) != (↑(List.length (List.map eV (Val.kids b))) : Int)) = true → FSpec PP 92 [di (↑(List.length (List.map eV (Val.kids a))) : Int), di (↑(List.length (List.map eV (Val.kids b))) : Int)] (St.mk [] []) (di (cmpI (↑(List.length (Val.kids a)) : Int) (↑(List.length (Val.kids b)) : Int))) (St.mk [] []) ∧ di (cmpI (↑(List.length (Val.kids a)) : Int) (↑(List.length (Val.kids b)) : Int)) = di (cmpV a b)) ∧ (((↑(List.length (List.map eV (Val.kids a))) : Int) != (↑(List.length (List.map eV (Val.kids b))) : Int)) = false → di 0 = di (↑0 : Int) ∧ Nv.It (RunC (CN (List.length σ0.H)) PP (fun env σ1 => ResOK PP fCmp06 env σ1 (di (cmpV a b)) σ0) [KI.lp (sub cCmp06 [1, 1, 1, 0, 1, 0, 0]), KI.blk 0, KI.code (sub cCmp06 [1, 1, 1, 1])] (mkE 52 [(2, D.v (V.ref (vVal a))), (3, D.v (V.ref (vVal b))), (5, di (↑0 : Int))]) σ0)))) = _) ?_
    rw [cmpV_one]
    refine ⟨fun h => ⟨ord01_spec _ _, ?_⟩, fun h => ⟨fun h1 => ⟨?_, ?_⟩, fun h1 => ⟨rfl, ⟨?_⟩⟩⟩⟩
    · rw [if_neg (fun e => (bne_iff_ne.1 h) (cmpI_eq.1 e))]
    · rw [List.length_map, List.length_map]; exact ord01_spec _ _
    · have h : a.n = b.n := by simpa using h
      have h1 : (a.kids.length : Int) ≠ b.kids.length := by simpa using h1
      rw [if_pos (cmpI_eq.2 h), if_neg (fun e => h1 (cmpI_eq.1 e))]
    · have h : a.n = b.n := by simpa using h
      have h1 : (a.kids.length : Int) = b.kids.length := by simpa using h1
      rw [if_pos (cmpI_eq.2 h), if_pos (cmpI_eq.2 h1)]
      exact loop (Int.ofNat_inj.1 h1) _ 0 rfl
noncomputable abbrev fSam06 : Func := Tryz.f62
noncomputable def cSam06 : Code := fSam06.body.getD .skip
theorem sam06_spec (a b : Val) (ha : a.size ≤ 1000000) : FSpec PP 62 [dV a, dV b] σ0 (db (cmpV a b == 0)) σ0 := by
  refine spec_vc mixed fSam06 cSam06 (by kernel_rfl) (by kernel_rfl) (by kernel_rfl) (by kernel_rfl) 9 (by kernel_rfl) [2, 3] (.c (di (cmpV a b)) .r) ?_
  refine via (by kernel_rfl : (FSpec PP 61 [D.v (vVal a), D.v (vVal b)] (St.mk [] []) (di (cmpV a b)) (St.mk [] []) ∧ db (cmpV a b == 0) = db (cmpV a b == 0)) = _) ?_
  exact ⟨cmp06_spec _ a b (Nat.le_refl _) ha, rfl⟩
end Go.Proofs.YtopbcpgmffppjaaGreatDoor

