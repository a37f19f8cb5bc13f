/-
  Which types are right, how large values are, and which are configurations: walked.
-/
import Derived.Test.YtdfdemnbaiieaaaGreatEc
namespace Go.Proofs.YtdfdemnbaiieaaaGreat
open Go.Dv Go.Nv
set_option maxRecDepth 20000

noncomputable abbrev fIxT : Func := Tryz.f283
noncomputable def cIxT : Code := fIxT.body.getD .skip
theorem ixT_loop (F : FuncId) (fs cs : List V) (p : Typ → Bool) (l : List (Typ)) (hl : l.length ≤ 1000000) (hp : ∀ x ∈ l, FSpec PP F ((fs ++ [vT x] ++ cs).map .v) σ0 (db (p x)) σ0) (n : Nat) : ∀ k : Nat, l.length - k = n →
    Rn PP fIxT 0 (di (ixM p (l.drop k) k)) σ0 ([.lp (sub cIxT [1, 0, 1, 0, 0]), .blk 0, .code (sub cIxT [1, 1])] ++ []) (mkE 19 [(0, dl (l.map eT)), (1, .v (.fn F fs cs)), (7, di l.length), (8, di k)]) σ0 := by
  induction n using Nat.strongRecOn with
  | _ n ih =>
  intro k hn
  refine loop_vc mixed 19 [] (.b (.e fun x : Typ => .x (vT x) <| .c (db (p x)) <| .b .r (.l [ke 0, ke 1, ke 7, ch 8 (di (k + 1 : Nat))])) .r) ?_
  refine via (by kernel_rfl : ((decide ((↑k : Int) < (↑(List.length l) : Int)) = true → ∃ a, 0 ≤ (↑k : Int) ∧ (List.map eT l)[Int.toNat (↑k : Int)]? = some (vT a) ∧ FSpec PP F (List.map D.v (fs ++ [vT a] ++ cs)) (St.mk [] []) (db (p a)) (St.mk [] []) ∧ (p a = true → di (↑k : Int) = di (ixM p (List.drop k l) k)) ∧ (p a = false → di (IntKind.wrap IntKind.i64 ((↑k : Int) + 1)) = di (↑(k + 1) : Int) ∧ Nv.It (RunC (CN 0) PP (fun env σ1 => ResOK PP fIxT env σ1 (di (ixM p (List.drop k l) k)) σ0) [KI.lp (sub cIxT [1, 0, 1, 0, 0]), KI.blk 0, KI.code (sub cIxT [1, 1])] (mkE 19 [(0, D.v (V.list (List.map eT l))), (1, D.v (V.fn F fs cs)), (7, di (↑(List.length l) : Int)), (8, di (↑(k + 1) : Int))]) σ0))) ∧ (decide ((↑k : Int) < (↑(List.length l) : Int)) = false → di (-1) = di (ixM p (List.drop k l) k))) = _) ?_
  refine ⟨fun h => ?_, fun h => ?_⟩
  · have hk : k < l.length := by simpa using h
    have hx : l[k]? = some l[k] := List.getElem?_eq_getElem hk
    rw [List.drop_eq_getElem_cons hk]
    generalize l[k] = x at hx ⊢
    refine ⟨x, by omega, idx_typ hx, hp x (List.mem_of_getElem? hx), fun hf => by simp [ixM, hf], fun hf => ⟨wrap_succ (by omega), ⟨?_⟩⟩⟩
    simp only [ixM, hf]
    exact ih (l.length - (k + 1)) (by omega) (k + 1) rfl
  · have hk : l.length ≤ k := by simpa using h
    rw [List.drop_of_length_le hk]; rfl
theorem ixT_spec (F : FuncId) (fs cs : List V) (p : Typ → Bool) (l : List (Typ)) (hl : l.length ≤ 1000000) (hp : ∀ x ∈ l, FSpec PP F ((fs ++ [vT x] ++ cs).map .v) σ0 (db (p x)) σ0) :
    FSpec PP 283 [dl (l.map eT), .v (.fn F fs cs)] σ0 (di (ixM p l 0)) σ0 := by
  refine spec_vc mixed fIxT cIxT (by kernel_rfl) (by kernel_rfl) (by kernel_rfl) (by kernel_rfl) 19 (by kernel_rfl) [] (.l [ke 0, ke 1, ch 7 (di l.length), ch 8 (di (0 : Nat))]) ?_
  refine via (by kernel_rfl : (di (↑(List.length (List.map eT l)) : Int) = di (↑(List.length l) : Int) ∧ di 0 = di (↑0 : Int) ∧ Nv.It (RunC (CN (List.length σ0.H)) PP (fun env σ1 => ResOK PP fIxT env σ1 (di (ixM p l 0)) σ0) [KI.lp (sub cIxT [1, 0, 1, 0, 0]), KI.blk 0, KI.code (sub cIxT [1, 1])] (mkE 19 [(0, dl (List.map eT l)), (1, D.v (V.fn F fs cs)), (7, di (↑(List.length l) : Int)), (8, di (↑0 : Int))]) σ0)) = _) ?_
  refine ⟨by simp, rfl, ⟨?_⟩⟩
  exact ixT_loop F fs cs p l hl hp _ 0 rfl

noncomputable abbrev fHasT : Func := Tryz.f260
noncomputable def cHasT : Code := fHasT.body.getD .skip
theorem hasT_spec (F : FuncId) (fs cs : List V) (p : Typ → Bool) (l : List (Typ)) (hl : l.length ≤ 1000000) (hp : ∀ x ∈ l, FSpec PP F ((fs ++ [vT x] ++ cs).map .v) σ0 (db (p x)) σ0) :
    FSpec PP 260 [dl (l.map eT), .v (.fn F fs cs)] σ0 (db (l.any p)) σ0 := by
  refine spec_vc mixed fHasT cHasT (by kernel_rfl) (by kernel_rfl) (by kernel_rfl) (by kernel_rfl) 9 (by kernel_rfl) [] (.c (di (ixM p l 0)) .r) ?_
  refine via (by kernel_rfl : (FSpec PP 283 [D.v (V.list (List.map eT l)), D.v (V.fn F fs cs)] (St.mk [] []) (di (ixM p l 0)) (St.mk [] []) ∧ db (decide (ixM p l 0 ≥ 0)) = db (List.any l p)) = _) ?_
  exact ⟨ixT_spec F fs cs p l hl hp, by rw [← ixM_any]⟩

/- RANKS -/
noncomputable abbrev fRkd : Func := Tryz.f281
noncomputable def cRkd : Code := fRkd.body.getD .skip
noncomputable abbrev fRkd1 : Func := Tryz.f290
noncomputable def cRkd1 : Code := fRkd1.body.getD .skip
noncomputable abbrev fPVal : Func := Tryz.f259
noncomputable def cPVal : Code := fPVal.body.getD .skip
def rk1B (x : Int) : Bool := decide (x < 0) || decide (x ≥ 6)
theorem rk1_spec (x : Int) : FSpec PP 290 [di x] σ0 (db (rk1B x)) σ0 := by
  refine spec_vc mixed fRkd1 cRkd1 (by kernel_rfl) (by kernel_rfl) (by kernel_rfl) (by kernel_rfl) 9 (by kernel_rfl) [] (.b .r .r) ?_
  refine via (by kernel_rfl : ((decide (x < 0) = true → db true = db (rk1B x)) ∧ (decide (x < 0) = false → db (decide (x ≥ 6)) = db (rk1B x))) = _) ?_
  refine ⟨fun h => ?_, fun h => ?_⟩ <;> simp [rk1B, *]
def rankB (r : List Int) : Bool := decide ((r.length : Int) ≥ 1) && (decide ((r.length : Int) ≤ 6) && !(r.any rk1B))
theorem rkd_spec (r : List Int) : FSpec PP 281 [dIs r] σ0 (db (rankB r)) σ0 := by
  refine spec_vc mixed fRkd cRkd (by kernel_rfl) (by kernel_rfl) (by kernel_rfl) (by kernel_rfl) 16 (by kernel_rfl) [] (.b (.b (.c (db (r.any rk1B)) .r) .r) .r) ?_
  refine via (by kernel_rfl : ((decide ((↑(List.length (List.map vi r)) : Int) ≥ 1) = true → (decide ((↑(List.length (List.map vi r)) : Int) ≤ 6) = true → FSpec PP 178 [D.v (vIs r), D.v (V.fn 290 [] [])] (St.mk [] []) (db (List.any r rk1B)) (St.mk [] []) ∧ (db !List.any r rk1B) = db (rankB r)) ∧ (decide ((↑(List.length (List.map vi r)) : Int) ≤ 6) = false → db false = db (rankB r))) ∧ (decide ((↑(List.length (List.map vi r)) : Int) ≥ 1) = false → db false = db (rankB r))) = _) ?_
  refine ⟨fun h1 => ⟨fun h2 => ⟨hasI_spec _ [] [] rk1B r (by have h2 := of_decide_eq_true h2; rw [List.length_map] at h2; omega) fun x _ => rk1_spec x, ?_⟩, fun h2 => ?_⟩, fun h1 => ?_⟩ <;> (try simp only [List.length_map] at *) <;> simp only [rankB, h1, Bool.true_and, Bool.false_and] <;> simp only [h2, Bool.true_and, Bool.false_and]
theorem pval_nil (r : List Int) (h : rankB r = true) : FSpec PP 259 [dIs r, dl []] σ0 (db true) σ0 := by
  refine spec_vc mixed fPVal cPVal (by kernel_rfl) (by kernel_rfl) (by kernel_rfl) (by kernel_rfl) 18 (by kernel_rfl) [2] (.c (db (rankB r)) <| .t <| .k <| .c (db false) .r) ?_
  refine via (by kernel_rfl : (FSpec PP 281 [D.v (vIs r)] (St.mk [] []) (db (rankB r)) (St.mk [] []) ∧ rankB r = true ∧ FSpec PP 178 [D.v (V.list []), D.v (V.fn 282 [] [V.ref (vIs r)])] (St.mk [] []) (db false) (St.mk [] []) ∧ (db !false) = db true) = _) ?_
  exact ⟨rkd_spec r, h, hasI_spec _ [] [_] (fun _ => false) [] (by simp) (fun x hx => by simp at hx), rfl⟩
/- RIGHT TYPES -/
noncomputable abbrev fRt : Func := Tryz.f207
noncomputable def cRt : Code := fRt.body.getD .skip
noncomputable abbrev fRt1 : Func := Tryz.f261
noncomputable def cRt1 : Code := fRt1.body.getD .skip
def goodB : Nat → Typ → Bool
  | 0, _ => false
  | d + 1, .nat => true
  | d + 1, .lab n => decide (n ≥ 1) && decide (n ≤ 16)
  | d + 1, .prio n r => (n == r.length) && rankB r
  | d + 1, .word t => goodB d t
  | d + 1, .bag t => goodB d t
  | d + 1, .prod l => !((l.length : Int) == 0) && (!decide ((l.length : Int) > 8) && l.all (goodB d))
theorem right1_spec (t : Typ) (d : Nat) (hd : d ≤ 100) (h : FSpec PP 207 [dT t, di d] σ0 (db true) σ0) : FSpec PP 261 [dT t, .v (.ref (vi ((d + 1 : Nat) : Int)))] σ0 (db false) σ0 := by
  refine spec_vc mixed fRt1 cRt1 (by kernel_rfl) (by kernel_rfl) (by kernel_rfl) (by kernel_rfl) 9 (by kernel_rfl) [2] (.c (db true) .r) ?_
  refine via (by kernel_rfl : (FSpec PP 207 [D.v (vT t), di (IntKind.wrap IntKind.i64 ((↑(d + 1) : Int) - 1))] (St.mk [] []) (db true) (St.mk [] []) ∧ (db !true) = db false) = _) ?_
  refine ⟨?_, rfl⟩
  rw [show IntKind.i64.wrap (((d + 1 : Nat) : Int) - 1) = d by rw [wrap_id (by omega) (by omega)]; omega]
  exact h
theorem right_nat (d : Nat) : FSpec PP 207 [dT .nat, di ((d + 1 : Nat) : Int)] σ0 (db true) σ0 := by
  refine spec_vc mixed fRt cRt (by kernel_rfl) (by kernel_rfl) (by kernel_rfl) (by kernel_rfl) 94 (by kernel_rfl) [2, 3] (.f .r) ?_
  refine via (by kernel_rfl : (((↑(d + 1) : Int) == 0) = false ∧ db (Typ.sz Typ.nat == 0) = db true) = _) ?_
  have hz : (((d + 1 : Nat) : Int) == 0) = false := beq_eq_false_iff_ne.2 (by omega)
  exact ⟨hz, rfl⟩
theorem right_lab (d : Nat) (n : Int) (h1 : 1 ≤ n) (h2 : n ≤ 16) : FSpec PP 207 [dT (.lab n), di ((d + 1 : Nat) : Int)] σ0 (db true) σ0 := by
  refine spec_vc mixed fRt cRt (by kernel_rfl) (by kernel_rfl) (by kernel_rfl) (by kernel_rfl) 94 (by kernel_rfl) [2, 3] (.f <| .k <| .k <| .k <| .k <| .k <| .k <| .t .r) ?_
  refine via (by kernel_rfl : (((↑(d + 1) : Int) == 0) = false ∧ decide (Typ.sz (Typ.lab n) ≥ 1) = true ∧ db (decide (Typ.sz (Typ.lab n) ≤ 16)) = db true) = _) ?_
  have hz : (((d + 1 : Nat) : Int) == 0) = false := beq_eq_false_iff_ne.2 (by omega)
  exact ⟨hz, decide_eq_true h1, congrArg db (decide_eq_true h2)⟩
theorem right_prio (d : Nat) (n : Int) (r : List Int) (h1 : n = r.length) (h2 : rankB r = true) : FSpec PP 207 [dT (.prio n r), di ((d + 1 : Nat) : Int)] σ0 (db true) σ0 := by
  refine spec_vc mixed fRt cRt (by kernel_rfl) (by kernel_rfl) (by kernel_rfl) (by kernel_rfl) 94 (by kernel_rfl) [2, 3] (.f <| .t <| .k <| .k <| .k <| .k <| .k <| .k <| .t <| .c (db true) .r) ?_
  refine via (by kernel_rfl : (((↑(d + 1) : Int) == 0) = false ∧ decide ((↑(List.length (List.map vi (Typ.rk (Typ.prio n r)))) : Int) > 0) = true ∧ (Typ.sz (Typ.prio n r) == (↑(List.length (List.map vi (Typ.rk (Typ.prio n r)))) : Int)) = true ∧ FSpec PP 259 [D.v (vIs (Typ.rk (Typ.prio n r))), D.v (V.list [])] (St.mk [] []) (db true) (St.mk [] []) ∧ db true = db true) = _) ?_
  have hz : (((d + 1 : Nat) : Int) == 0) = false := beq_eq_false_iff_ne.2 (by omega)
  have h3 := h2
  simp only [rankB, Bool.and_eq_true, decide_eq_true_eq] at h3
  refine ⟨hz, decide_eq_true ?_, ?_, pval_nil r h2, rfl⟩
  · simp only [Typ.rk, List.length_map]; omega
  · simp only [Typ.sz, Typ.rk, List.length_map, h1, beq_self_eq_true]
theorem right_word (d : Nat) (t : Typ) (hd : d ≤ 100) (h : FSpec PP 207 [dT t, di d] σ0 (db true) σ0) : FSpec PP 207 [dT (.word t), di ((d + 1 : Nat) : Int)] σ0 (db true) σ0 := by
  refine spec_vc mixed fRt cRt (by kernel_rfl) (by kernel_rfl) (by kernel_rfl) (by kernel_rfl) 94 (by kernel_rfl) [2, 3] (.f <| .c (db false) .r) ?_
  refine via (by kernel_rfl : (((↑(d + 1) : Int) == 0) = false ∧ FSpec PP 260 [D.v (V.list [eT t]), D.v (V.fn 261 [] [V.ref (vi (↑(d + 1) : Int))])] (St.mk [] []) (db false) (St.mk [] []) ∧ (db !false) = db true) = _) ?_
  have hz : (((d + 1 : Nat) : Int) == 0) = false := beq_eq_false_iff_ne.2 (by omega)
  exact ⟨hz, hasT_spec _ [] [_] (fun _ => false) [t] (by simp) (fun x hx => by rw [List.mem_singleton.1 hx]; exact right1_spec t d hd h), rfl⟩
theorem right_bag (d : Nat) (t : Typ) (hd : d ≤ 100) (h : FSpec PP 207 [dT t, di d] σ0 (db true) σ0) : FSpec PP 207 [dT (.bag t), di ((d + 1 : Nat) : Int)] σ0 (db true) σ0 := by
  refine spec_vc mixed fRt cRt (by kernel_rfl) (by kernel_rfl) (by kernel_rfl) (by kernel_rfl) 94 (by kernel_rfl) [2, 3] (.f <| .c (db false) .r) ?_
  refine via (by kernel_rfl : (((↑(d + 1) : Int) == 0) = false ∧ FSpec PP 260 [D.v (V.list [eT t]), D.v (V.fn 261 [] [V.ref (vi (↑(d + 1) : Int))])] (St.mk [] []) (db false) (St.mk [] []) ∧ (db !false) = db true) = _) ?_
  have hz : (((d + 1 : Nat) : Int) == 0) = false := beq_eq_false_iff_ne.2 (by omega)
  exact ⟨hz, hasT_spec _ [] [_] (fun _ => false) [t] (by simp) (fun x hx => by rw [List.mem_singleton.1 hx]; exact right1_spec t d hd h), rfl⟩
theorem right_prod (d : Nat) (l : List Typ) (hd : d ≤ 100) (h1 : ((l.length : Int) == 0) = false) (h2 : decide ((l.length : Int) > 8) = false) (h : ∀ t ∈ l, FSpec PP 207 [dT t, di d] σ0 (db true) σ0) : FSpec PP 207 [dT (.prod l), di ((d + 1 : Nat) : Int)] σ0 (db true) σ0 := by
  refine spec_vc mixed fRt cRt (by kernel_rfl) (by kernel_rfl) (by kernel_rfl) (by kernel_rfl) 94 (by kernel_rfl) [2, 3] (.f <| .k <| .k <| .k <| .k <| .k <| .k <| .k <| .k <| .f <| .f <| .c (db false) .r) ?_
  refine via (by kernel_rfl : (((↑(d + 1) : Int) == 0) = false ∧ ((↑(List.length (List.map eT (Typ.ps (Typ.prod l)))) : Int) == 0) = false ∧ decide ((↑(List.length (List.map eT (Typ.ps (Typ.prod l)))) : Int) > 8) = false ∧ FSpec PP 260 [D.v (V.list (List.map eT (Typ.ps (Typ.prod l)))), D.v (V.fn 261 [] [V.ref (vi (↑(d + 1) : Int))])] (St.mk [] []) (db false) (St.mk [] []) ∧ (db !false) = db true) = _) ?_
  have hz : (((d + 1 : Nat) : Int) == 0) = false := beq_eq_false_iff_ne.2 (by omega)
  refine ⟨hz, by simpa [Typ.ps] using h1, by simpa [Typ.ps] using h2, ?_, rfl⟩
  have h3 : ¬ ((l.length : Int) > 8) := of_decide_eq_false h2
  have := hasT_spec 261 [] [.ref (vi ((d + 1 : Nat) : Int))] (fun _ => false) l (by omega) (fun x hx => right1_spec x d hd (h x hx))
  rw [show l.any (fun _ => false) = false by induction l <;> simp_all] at this
  exact this
theorem right_spec : ∀ (d : Nat) (t : Typ), d ≤ 100 → goodB d t = true → FSpec PP 207 [dT t, di d] σ0 (db true) σ0
  | 0, t, _, h => by simp [goodB] at h
  | d + 1, .nat, _, h => right_nat d
  | d + 1, .lab n, _, h => by
    simp only [goodB, Bool.and_eq_true, decide_eq_true_eq] at h
    exact right_lab d n h.1 h.2
  | d + 1, .prio n r, _, h => by
    simp only [goodB, Bool.and_eq_true, beq_iff_eq] at h
    exact right_prio d n r h.1 h.2
  | d + 1, .word t, hd, h => right_word d t (by omega) (right_spec d t (by omega) (by simpa only [goodB] using h))
  | d + 1, .bag t, hd, h => right_bag d t (by omega) (right_spec d t (by omega) (by simpa only [goodB] using h))
  | d + 1, .prod l, hd, h => by
    simp only [goodB, Bool.and_eq_true, Bool.not_eq_true', List.all_eq_true] at h
    exact right_prod d l (by omega) h.1 h.2.1 fun t ht => right_spec d t (by omega) (h.2.2 t ht)
noncomputable abbrev fOChk : Func := Tryz.f159
noncomputable def cOChk : Code := fOChk.body.getD .skip
theorem ochk_spec (t : Typ) (h : goodB 8 t = true) : FSpec PP 159 [dT t] σ0 (di 0) σ0 := by
  refine spec_vc mixed fOChk cOChk (by kernel_rfl) (by kernel_rfl) (by kernel_rfl) (by kernel_rfl) 6 (by kernel_rfl) [1] (.c (db true) .r) ?_
  refine via (by kernel_rfl : (FSpec PP 207 [D.v (vT t), di 8] (St.mk [] []) (db true) (St.mk [] []) ∧ di 0 = di 0) = _) ?_
  exact ⟨right_spec 8 t (by omega) h, rfl⟩
/- HOW LARGE VALUES ARE -/
noncomputable abbrev fCnt : Func := Tryz.f208
noncomputable def cCnt : Code := fCnt.body.getD .skip
theorem cnt_spec (N : Nat) : ∀ v : Val, v.size ≤ N → v.size ≤ 1000000 → ∀ m : Int, 0 ≤ m → m ≤ 1000 → FSpec PP 208 [dV v, di m] σ0 (di (min (v.size : Int) (m + 1))) σ0 := by
  induction N with
  | zero => intro v hv; have := v.size_pos; omega
  | succ N ihN =>
    intro v hv hv1 m hm0 hm1
    have hsz := v.size_eq
    have hlen := Val.length_le v.kids
    have loop (n : Nat) : ∀ (k : Nat) (a : Int), v.kids.length - k = n → 1 ≤ a → a ≤ m + 1 →
        Rn PP fCnt 0 (di (min (a + (Val.sizes (v.kids.drop k) : Int)) (m + 1))) σ0 ([.lp (sub cCnt [1, 1, 0, 1, 0, 0]), .blk 0, .code (sub cCnt [1, 1, 1])] ++ []) (mkE 27 [(1, di m), (5, di a), (9, dVs v.kids), (10, di v.kids.length), (11, di k)]) σ0 := by
      induction n using Nat.strongRecOn with
      | _ n ih =>
      intro k a hn ha0 ha1
      refine loop_vc mixed 27 [2] (.b (.e fun x : Val => .x (vVal x) <| .b .r <| .c (di (min (x.size : Int) (m - a + 1))) <| .ls [ke 1, ch 5 (di (min (a + (x.size : Int)) (m + 1))), ke 9, ke 10, ch 11 (di (k + 1 : Nat))] σ0) .r) ?_
      refine via (by kernel_rfl : ((decide ((↑k : Int) < (↑(List.length (Val.kids v)) : Int)) = true → ∃ a_2, 0 ≤ (↑k : Int) ∧ (List.map eV (Val.kids v))[Int.toNat (↑k : Int)]? = some (vVal a_2) ∧ (decide (a > m) = true → di a = di (min (a + (↑(Val.sizes (List.drop k (Val.kids v))) : Int)) (m + 1))) ∧ (decide (a > m) = false → FSpec PP 208 [D.v (V.agg [vi (Val.n a_2), vVs (Val.kids a_2)]), di (IntKind.wrap IntKind.i64 (m - a))] (St.mk [] []) (di (min (↑(Val.size a_2) : Int) (m - a + 1))) (St.mk [] []) ∧ di (IntKind.wrap IntKind.i64 (a + min (↑(Val.size a_2) : Int) (m - a + 1))) = di (min (a + (↑(Val.size a_2) : Int)) (m + 1)) ∧ di (IntKind.wrap IntKind.i64 ((↑k : Int) + 1)) = di (↑(k + 1) : Int) ∧ Nv.It (RunC (CN 0) PP (fun env σ1 => ResOK PP fCnt env σ1 (di (min (a + (↑(Val.sizes (List.drop k (Val.kids v))) : Int)) (m + 1))) σ0) [KI.lp (sub cCnt [1, 1, 0, 1, 0, 0]), KI.blk 0, KI.code (sub cCnt [1, 1, 1])] (mkE 27 [(1, di m), (5, di (min (a + (↑(Val.size a_2) : Int)) (m + 1))), (9, D.v (vVs (Val.kids v))), (10, di (↑(List.length (Val.kids v)) : Int)), (11, di (↑(k + 1) : Int))]) σ0))) ∧ (decide ((↑k : Int) < (↑(List.length (Val.kids v)) : Int)) = false → di a = di (min (a + (↑(Val.sizes (List.drop k (Val.kids v))) : Int)) (m + 1)))) = _) ?_
      refine ⟨fun h => ?_, fun h => ?_⟩
      · have hk : k < v.kids.length := by simpa using h
        have hx : v.kids[k]? = some v.kids[k] := List.getElem?_eq_getElem hk
        rw [List.drop_eq_getElem_cons hk]
        generalize v.kids[k] = x at hx ⊢
        have hxs := Val.size_mem (List.mem_of_getElem? hx)
        have hx1 := x.size_pos
        simp only [Val.sizes]
        refine ⟨x, by omega, idx_val hx, fun h1 => ?_, fun h1 => ⟨?_, ?_, wrap_succ (by omega), ⟨?_⟩⟩⟩
        · have h1 := of_decide_eq_true h1
          rw [Int.min_def]; split <;> congr 1 <;> omega
        · rw [wrap_id (by omega) (by omega)]
          have h1 := of_decide_eq_false h1
          exact ihN x (by omega) (by omega) (m - a) (by omega) (by omega)
        · have h1 := of_decide_eq_false h1
          rw [wrap_id (by rw [Int.min_def]; split <;> omega) (by rw [Int.min_def]; split <;> omega)]
          simp only [Int.min_def]; congr 1; split <;> split <;> omega
        · have h1 := of_decide_eq_false h1
          have := ih (v.kids.length - (k + 1)) (by omega) (k + 1) (min (a + (x.size : Int)) (m + 1)) rfl (by rw [Int.min_def]; split <;> omega) (by rw [Int.min_def]; split <;> omega)
          rw [show min (min (a + (x.size : Int)) (m + 1) + (Val.sizes (v.kids.drop (k + 1)) : Int)) (m + 1) = min (a + ((x.size + Val.sizes (v.kids.drop (k + 1)) : Nat) : Int)) (m + 1) by simp only [Int.min_def]; (repeat' split) <;> omega] at this
          exact this
      · have hk : v.kids.length ≤ k := by simpa using h
        rw [List.drop_of_length_le hk]
        simp only [Val.sizes]; rw [Int.min_def]; split <;> congr 1 <;> omega
    refine spec_vc mixed fCnt cCnt (by kernel_rfl) (by kernel_rfl) (by kernel_rfl) (by kernel_rfl) 27 (by kernel_rfl) [2] (.l [ke 1, ch 5 (di 1), ke 9, ch 10 (di v.kids.length), ch 11 (di (0 : Nat))]) ?_
    refine via (by kernel_rfl : (di 1 = di 1 ∧ di (↑(List.length (List.map eV (Val.kids v))) : Int) = di (↑(List.length (Val.kids v)) : Int) ∧ di 0 = di (↑0 : Int) ∧ Nv.It (RunC (CN (List.length σ0.H)) PP (fun env σ1 => ResOK PP fCnt env σ1 (di (min (↑(Val.size v) : Int) (m + 1))) σ0) [KI.lp (sub cCnt [1, 1, 0, 1, 0, 0]), KI.blk 0, KI.code (sub cCnt [1, 1, 1])] (mkE 27 [(1, di m), (5, di 1), (9, D.v (vVs (Val.kids v))), (10, di (↑(List.length (Val.kids v)) : Int)), (11, di (↑0 : Int))]) σ0)) = _) ?_
    refine ⟨rfl, by rw [List.length_map], rfl, ⟨?_⟩⟩
    have := loop _ 0 1 rfl (by omega) (by omega)
    rw [List.drop_zero, show (1 : Int) + (Val.sizes v.kids : Int) = v.size by omega] at this
    exact this
noncomputable abbrev fOSize : Func := Tryz.f160
noncomputable def cOSize : Code := fOSize.body.getD .skip
theorem osize_spec (v : Val) (hv : v.size ≤ 1000000) : FSpec PP 160 [dV v] σ0 (di (min (v.size : Int) 129)) σ0 := by
  refine spec_vc mixed fOSize cOSize (by kernel_rfl) (by kernel_rfl) (by kernel_rfl) (by kernel_rfl) 6 (by kernel_rfl) [1] (.c (di (min (v.size : Int) 129)) .r) ?_
  refine via (by kernel_rfl : (FSpec PP 208 [D.v (vVal v), di 128] (St.mk [] []) (di (min (↑(Val.size v) : Int) 129)) (St.mk [] []) ∧ di (if 129 < min (↑(Val.size v) : Int) 129 then 129 else min (↑(Val.size v) : Int) 129) = di (min (↑(Val.size v) : Int) 129)) = _) ?_
  exact ⟨cnt_spec _ v (Nat.le_refl _) hv 128 (by decide) (by decide), by rw [if_neg (by rw [Int.min_def]; split <;> omega)]⟩
noncomputable abbrev fOVal : Func := Tryz.f98
noncomputable def cOVal : Code := fOVal.body.getD .skip
def validB (t : Typ) (v : Val) : Bool := decide ((v.size : Int) ≤ 128) && oneB t v
theorem oval_spec (t : Typ) (h : goodB 8 t = true) (v : Val) (hv : v.size ≤ 1000000) : FSpec PP 98 [dT t, dV v] σ0 (db (validB t v)) σ0 := by
  refine spec_vc mixed fOVal cOVal (by kernel_rfl) (by kernel_rfl) (by kernel_rfl) (by kernel_rfl) 18 (by kernel_rfl) [2, 3] (.c (di 0) <| .c (di (min (v.size : Int) 129)) <| .b (.c (db (oneB t v)) .r) .r) ?_
  refine via (by kernel_rfl : (FSpec PP 159 [D.v (vT t)] (St.mk [] []) (di 0) (St.mk [] []) ∧ FSpec PP 160 [D.v (vVal v)] (St.mk [] []) (di (min (↑(Val.size v) : Int) 129)) (St.mk [] []) ∧ (decide (min (↑(Val.size v) : Int) 129 ≤ 128) = true → FSpec PP 161 [D.v (vT t), D.v (vVal v)] (St.mk [] []) (db (oneB t v)) (St.mk [] []) ∧ db (oneB t v) = db (validB t v)) ∧ (decide (min (↑(Val.size v) : Int) 129 ≤ 128) = false → db false = db (validB t v))) = _) ?_
  refine ⟨ochk_spec t h, osize_spec v hv, fun h1 => ⟨one_spec _ t (Nat.le_refl _) v hv, ?_⟩, fun h1 => ?_⟩
  · have h1 := of_decide_eq_true h1
    rw [validB, decide_eq_true (show (v.size : Int) ≤ 128 by rw [Int.min_def] at h1; split at h1 <;> omega), Bool.true_and]
  · have h1 := of_decide_eq_false h1
    rw [validB, decide_eq_false (show ¬ (v.size : Int) ≤ 128 by rw [Int.min_def] at h1; split at h1 <;> omega), Bool.false_and]
end Go.Proofs.YtdfdemnbaiieaaaGreat

namespace Go.Proofs.YtdfdemnbaiieaaaGreat
open Go.Dv Go.Nv
set_option maxRecDepth 20000
/- LIMITS -/
noncomputable abbrev fOf : Func := Tryz.f193
noncomputable def cOf : Code := fOf.body.getD .skip
structure Lims where
  pl : Int
  ph : Int
  ll : Int
  lh : Int
  vl : Int
  vh : Int
  al : Int
  ah : Int
abbrev dLim (l : Lims) : D := .v (.agg [vi l.pl, vi l.ph, vi l.ll, vi l.lh, vi l.vl, vi l.vh, vi l.al, vi l.ah])
abbrev lim1 : Lims := ⟨1, 6, 0, 0, 0, 0, 0, 0⟩
abbrev lim2 : Lims := ⟨1, 2, 1, 6, 0, 0, 0, 0⟩
theorem of_1 : FSpec PP 193 [di 1] σ0 (dLim lim1) σ0 := by
  refine spec_vc mixed fOf cOf (by kernel_rfl) (by kernel_rfl) (by kernel_rfl) (by kernel_rfl) 29 (by kernel_rfl) [] .r ?_
  refine via (by kernel_rfl : (D.v (V.agg [vi 1, vi 6, vi 0, vi 0, vi 0, vi 0, vi 0, vi 0]) = dLim lim1) = _) ?_
  rfl
theorem of_2 : FSpec PP 193 [di 2] σ0 (dLim lim2) σ0 := by
  refine spec_vc mixed fOf cOf (by kernel_rfl) (by kernel_rfl) (by kernel_rfl) (by kernel_rfl) 29 (by kernel_rfl) [] .r ?_
  refine via (by kernel_rfl : (D.v (V.agg [vi 1, vi 2, vi 1, vi 6, vi 0, vi 0, vi 0, vi 0]) = dLim lim2) = _) ?_
  rfl
theorem of_3 : FSpec PP 193 [di 3] σ0 (dLim lim2) σ0 := by
  refine spec_vc mixed fOf cOf (by kernel_rfl) (by kernel_rfl) (by kernel_rfl) (by kernel_rfl) 29 (by kernel_rfl) [] .r ?_
  refine via (by kernel_rfl : (D.v (V.agg [vi 1, vi 2, vi 1, vi 6, vi 0, vi 0, vi 0, vi 0]) = dLim lim2) = _) ?_
  rfl
noncomputable abbrev fSized : Func := Tryz.f153
noncomputable def cSized : Code := fSized.body.getD .skip
def sizedB (l : Lims) (m : Mod) : Bool := betB m.states.length 1 8 && (decide ((m.rules.length : Int) ≤ 12) && (betB m.places.length l.pl l.ph && (betB m.letters.length l.ll l.lh && (betB m.levels l.vl l.vh && betB m.age l.al l.ah))))
theorem sized_spec (l : Lims) (m : Mod) (h : FSpec PP 193 [di m.kind] σ0 (dLim l) σ0) : FSpec PP 153 [dMod m] σ0 (db (sizedB l m)) σ0 := by
  refine spec_vc mixed fSized cSized (by kernel_rfl) (by kernel_rfl) (by kernel_rfl) (by kernel_rfl) 63 (by kernel_rfl) [1] (.c (dLim l) <| .c (db (betB m.states.length 1 8)) <| .b (.b (.c (db (betB m.places.length l.pl l.ph)) <| .b (.c (db (betB m.letters.length l.ll l.lh)) <| .b (.c (db (betB m.levels l.vl l.vh)) <| .b (.c (db (betB m.age l.al l.ah)) .r) .r) .r) .r) .r) .r) ?_
  refine via (by kernel_rfl : (FSpec PP 193 [di m.kind] (St.mk [] []) (dLim l) (St.mk [] []) ∧ FSpec PP 152 [di (↑(List.length (List.map V.str m.states)) : Int), di 1, di 8] (St.mk [] []) (db (betB (↑(List.length m.states) : Int) 1 8)) (St.mk [] []) ∧ (betB (↑(List.length m.states) : Int) 1 8 = true → (decide ((↑(List.length (List.map vRul m.rules)) : Int) ≤ 12) = true → iz 0 ≤ 0 ∧ 0 < (↑2 : Int) ∧ iz 0 ≤ 1 ∧ 1 < (↑2 : Int) ∧ FSpec PP 152 [di (↑(List.length (List.map V.str m.places)) : Int), di l.pl, di l.ph] (St.mk [] []) (db (betB (↑(List.length m.places) : Int) l.pl l.ph)) (St.mk [] []) ∧ (betB (↑(List.length m.places) : Int) l.pl l.ph = true → iz 0 ≤ 0 ∧ 0 < (↑2 : Int) ∧ iz 0 ≤ 1 ∧ 1 < (↑2 : Int) ∧ FSpec PP 152 [di (↑(List.length (List.map V.str m.letters)) : Int), di l.ll, di l.lh] (St.mk [] []) (db (betB (↑(List.length m.letters) : Int) l.ll l.lh)) (St.mk [] []) ∧ (betB (↑(List.length m.letters) : Int) l.ll l.lh = true → iz 0 ≤ 0 ∧ 0 < (↑2 : Int) ∧ iz 0 ≤ 1 ∧ 1 < (↑2 : Int) ∧ FSpec PP 152 [di m.levels, di l.vl, di l.vh] (St.mk [] []) (db (betB m.levels l.vl l.vh)) (St.mk [] []) ∧ (betB m.levels l.vl l.vh = true → iz 0 ≤ 0 ∧ 0 < (↑2 : Int) ∧ iz 0 ≤ 1 ∧ 1 < (↑2 : Int) ∧ FSpec PP 152 [di m.age, di l.al, di l.ah] (St.mk [] []) (db (betB m.age l.al l.ah)) (St.mk [] []) ∧ db (betB m.age l.al l.ah) = db (sizedB l m)) ∧ (betB m.levels l.vl l.vh = false → db false = db (sizedB l m))) ∧ (betB (↑(List.length m.letters) : Int) l.ll l.lh = false → db false = db (sizedB l m))) ∧ (betB (↑(List.length m.places) : Int) l.pl l.ph = false → db false = db (sizedB l m))) ∧ (decide ((↑(List.length (List.map vRul m.rules)) : Int) ≤ 12) = false → db false = db (sizedB l m))) ∧ (betB (↑(List.length m.states) : Int) 1 8 = false → db false = db (sizedB l m))) = _) ?_
  repeat' first | with_reducible refine And.intro ?_ ?_ | intro _
  all_goals first | exact h | exact betw_spec _ _ _ | (simp only [List.length_map]; exact betw_spec _ _ _) | decide | (simp_all [sizedB]; done) | (simp_all [sizedB] <;> (intro h1 <;> exfalso; omega))
noncomputable abbrev fRanked : Func := Tryz.f154
noncomputable def cRanked : Code := fRanked.body.getD .skip
noncomputable abbrev fRanked1 : Func := Tryz.f194
noncomputable def cRanked1 : Code := fRanked1.body.getD .skip
theorem ranked1_spec (x : Int) : FSpec PP 194 [di x] σ0 (db (!betB x 0 5)) σ0 := by
  refine spec_vc mixed fRanked1 cRanked1 (by kernel_rfl) (by kernel_rfl) (by kernel_rfl) (by kernel_rfl) 6 (by kernel_rfl) [] (.c (db (betB x 0 5)) .r) ?_
  refine via (by kernel_rfl : (FSpec PP 152 [di x, di 0, di 5] (St.mk [] []) (db (betB x 0 5)) (St.mk [] []) ∧ (db !betB x 0 5) = db !betB x 0 5) = _) ?_
  exact ⟨betw_spec x 0 5, rfl⟩
def rankedB (m : Mod) : Bool := if (m.kind != 3) = true then (m.ranks.length : Int) == 0 else ((m.ranks.length : Int) == m.letters.length) && m.ranks.all fun x => betB x 0 5
theorem ranked_spec (m : Mod) (hm : m.ranks.length ≤ 1000000) : FSpec PP 154 [dMod m] σ0 (db (rankedB m)) σ0 := by
  refine spec_vc mixed fRanked cRanked (by kernel_rfl) (by kernel_rfl) (by kernel_rfl) (by kernel_rfl) 23 (by kernel_rfl) [1] (.b .r (.b (.c (db (m.ranks.any fun x => !betB x 0 5)) .r) .r)) ?_
  refine via (by kernel_rfl : (((m.kind != 3) = true → db ((↑(List.length (List.map vi m.ranks)) : Int) == 0) = db (rankedB m)) ∧ ((m.kind != 3) = false → (((↑(List.length (List.map vi m.ranks)) : Int) == (↑(List.length (List.map V.str m.letters)) : Int)) = true → FSpec PP 178 [D.v (vIs m.ranks), D.v (V.fn 194 [] [])] (St.mk [] []) (db (List.any m.ranks fun x => !betB x 0 5)) (St.mk [] []) ∧ (db !List.any m.ranks fun x => !betB x 0 5) = db (rankedB m)) ∧ (((↑(List.length (List.map vi m.ranks)) : Int) == (↑(List.length (List.map V.str m.letters)) : Int)) = false → db false = db (rankedB m)))) = _) ?_
  refine ⟨fun h1 => ?_, fun h1 => ⟨fun h2 => ⟨hasI_spec _ [] [] _ m.ranks hm fun x _ => ranked1_spec x, ?_⟩, fun h2 => ?_⟩⟩
  · simp only [rankedB, h1, if_true, List.length_map]
  · rw [any_not]; simp only [List.length_map] at h2; simp [rankedB, h1, h2]
  · simp only [List.length_map] at h2; simp [rankedB, h1, h2]
noncomputable abbrev fMLabel : Func := Tryz.f162
noncomputable def cMLabel : Code := fMLabel.body.getD .skip
theorem mlabel_spec (n : Int) : FSpec PP 162 [di n] σ0 (dT (.lab n)) σ0 := by
  refine spec_vc mixed fMLabel cMLabel (by kernel_rfl) (by kernel_rfl) (by kernel_rfl) (by kernel_rfl) 5 (by kernel_rfl) [] .r ?_
  refine via (by kernel_rfl : (D.v (V.agg [vi 2, vi n, V.list [], V.list []]) = dT (Typ.lab n)) = _) ?_
  rfl
noncomputable abbrev fMList : Func := Tryz.f164
noncomputable def cMList : Code := fMList.body.getD .skip
theorem mlist_word (t : Typ) : FSpec PP 164 [di 4, dT t] σ0 (dT (.word t)) σ0 := by
  refine spec_vc mixed fMList cMList (by kernel_rfl) (by kernel_rfl) (by kernel_rfl) (by kernel_rfl) 9 (by kernel_rfl) [3] .r ?_
  refine via (by kernel_rfl : (D.v (V.agg [vi 4, vi 0, V.list [], V.list [vT t]]) = dT (Typ.word t)) = _) ?_
  rw [dT, vT_word]; rfl
noncomputable abbrev fTyped : Func := Tryz.f99
noncomputable def cTyped : Code := fTyped.body.getD .skip
abbrev accT (l : List Typ) : D := .acc 1 (l.map eT)
abbrev ownT (l : List Typ) : St := ⟨[some [di 0, di 0, .v .nils, .v .nils]], [(1, 4, l.map eT)]⟩
theorem accT_snoc (l : List Typ) (t : Typ) : l.map eT ++ [vT t] = (l ++ [t]).map eT := by rw [← eT_eq]; simp
def eltM (m : Mod) : Typ := if m.kind = 1 then .nat else if m.kind = 2 then .word (.lab m.letters.length) else .prio m.letters.length m.ranks
def typM (m : Mod) : Typ := .prod (.lab m.states.length :: List.replicate m.places.length (eltM m))
theorem typed_loop1 (m : Mod) (hm : m.places.length ≤ 1000) (hk : m.kind = 1) (n : Nat) : ∀ (k : Nat) (xs : List Typ), m.places.length - k = n → k ≤ m.places.length → xs.length ≤ k + 1 →
    Rn PP fTyped 0 (dT (.prod (xs ++ List.replicate n (.nat)))) σ0 ([.lp (sub cTyped [1, 1, 0, 1, 0, 1, 1, 1, 1, 1, 0, 0]), .blk 1, .blk 0, .code (sub cTyped [1, 1, 1])] ++ []) (mkE 70 [(1, .v (.ref (vMod m))), (2, .ptr 0 0), (3, accT xs), (14, di m.places.length), (15, di k)]) (ownT xs) := by
  induction n with
  | zero =>
    intro k xs hn hk0 hxs
    refine loop_vc mixed 70 [1] (.f .r) ?_
    refine via (by kernel_rfl : (decide ((↑k : Int) < (↑(List.length m.places) : Int)) = false ∧ D.v (V.agg [vi 3, vi 0, V.list [], V.list (List.map eT xs)]) = dT (Typ.prod (xs ++ List.replicate 0 Typ.nat))) = _) ?_
    refine ⟨decide_eq_false (by omega), ?_⟩
    rw [List.replicate_zero, List.append_nil]; rfl
  | succ n ih =>
    intro k xs hn hk0 hxs
    refine loop_vc mixed 70 [1] (.t <| .f <| .f <| .ls [ke 1, ke 2, ch 3 (accT (xs ++ [.nat])), ke 14, ch 15 (di (k + 1 : Nat))] (ownT (xs ++ [.nat]))) ?_
    refine via (by kernel_rfl : (decide ((↑k : Int) < (↑(List.length m.places) : Int)) = true ∧ (m.kind == 2) = false ∧ (m.kind == 3) = false ∧ List.map eT xs = List.map eT xs ∧ LenOK (List.length (List.map eT xs) + List.length (V.agg (V.int IntKind.i64 1 :: V.int IntKind.i64 0 :: V.list nV :: V.list nV :: nV) :: nV)) 64 ∧ D.acc 1 (List.map eT xs ++ [V.agg [vi 1, vi 0, V.list [], V.list []]]) = accT (xs ++ [Typ.nat]) ∧ di (IntKind.wrap IntKind.i64 ((↑k : Int) + 1)) = di (↑(k + 1) : Int) ∧ [some [di 0, di 0, D.v V.nils, D.v V.nils]] = [some [di 0, di 0, D.v V.nils, D.v V.nils]] ∧ [(1, 4, List.map eT xs ++ V.agg (vi 1 :: vi 0 :: V.list nV :: V.list nV :: nV) :: nV)] = [(1, 4, List.map eT (xs ++ [Typ.nat]))] ∧ Nv.It (RunC (CN 0) PP (fun env σ1 => ResOK PP fTyped env σ1 (dT (Typ.prod (xs ++ List.replicate (n + 1) Typ.nat))) σ0) [KI.lp (sub cTyped [1, 1, 0, 1, 0, 1, 1, 1, 1, 1, 0, 0]), KI.blk 1, KI.blk 0, KI.code (sub cTyped [1, 1, 1])] (mkE 70 [(1, D.v (V.ref (vMod m))), (2, D.ptr 0 0), (3, accT (xs ++ [Typ.nat])), (14, di (↑(List.length m.places) : Int)), (15, di (↑(k + 1) : Int))]) (ownT (xs ++ [Typ.nat])))) = _) ?_
    have h := ih (k + 1) (xs ++ [.nat]) (by omega) (by omega) (by simp only [List.length_append, List.length_cons, List.length_nil]; omega)
    rw [List.append_assoc] at h
    refine ⟨decide_eq_true (by omega), by rw [hk]; rfl, by rw [hk]; rfl, rfl, ⟨?_, ?_⟩, ?_, wrap_succ (by omega), rfl, ?_, ⟨h⟩⟩
    · simp only [List.length_map, List.length_cons, List.length_nil]; omega
    · simp only [List.length_map, List.length_cons, List.length_nil]; omega
    · rw [accT, ← accT_snoc]; rfl
    · rw [← accT_snoc]; rfl
theorem typed_loop2 (m : Mod) (hm : m.places.length ≤ 1000) (hk : m.kind = 2) (n : Nat) : ∀ (k : Nat) (xs : List Typ), m.places.length - k = n → k ≤ m.places.length → xs.length ≤ k + 1 →
    Rn PP fTyped 0 (dT (.prod (xs ++ List.replicate n (.word (.lab m.letters.length))))) σ0 ([.lp (sub cTyped [1, 1, 0, 1, 0, 1, 1, 1, 1, 1, 0, 0]), .blk 1, .blk 0, .code (sub cTyped [1, 1, 1])] ++ []) (mkE 70 [(1, .v (.ref (vMod m))), (2, .ptr 0 0), (3, accT xs), (14, di m.places.length), (15, di k)]) (ownT xs) := by
  induction n with
  | zero =>
    intro k xs hn hk0 hxs
    refine loop_vc mixed 70 [1] (.f .r) ?_
    refine via (by kernel_rfl : (decide ((↑k : Int) < (↑(List.length m.places) : Int)) = false ∧ D.v (V.agg [vi 3, vi 0, V.list [], V.list (List.map eT xs)]) = dT (Typ.prod (xs ++ List.replicate 0 (Typ.word (Typ.lab (↑(List.length m.letters) : Int)))))) = _) ?_
    refine ⟨decide_eq_false (by omega), ?_⟩
    rw [List.replicate_zero, List.append_nil]; rfl
  | succ n ih =>
    intro k xs hn hk0 hxs
    refine loop_vc mixed 70 [1] (.t <| .t <| .c (dT (.lab m.letters.length)) <| .c (dT (.word (.lab m.letters.length))) <| .ls [ke 1, ke 2, ch 3 (accT (xs ++ [.word (.lab m.letters.length)])), ke 14, ch 15 (di (k + 1 : Nat))] (ownT (xs ++ [.word (.lab m.letters.length)]))) ?_
    refine via (by kernel_rfl : (decide ((↑k : Int) < (↑(List.length m.places) : Int)) = true ∧ (m.kind == 2) = true ∧ FSpec PP 162 [di (↑(List.length (List.map V.str m.letters)) : Int)] (St.mk [] []) (dT (Typ.lab (↑(List.length m.letters) : Int))) (St.mk [] []) ∧ FSpec PP 164 [di 4, D.v (vT (Typ.lab (↑(List.length m.letters) : Int)))] (St.mk [] []) (dT (Typ.word (Typ.lab (↑(List.length m.letters) : Int)))) (St.mk [] []) ∧ List.map eT xs = List.map eT xs ∧ LenOK (List.length (List.map eT xs) + List.length (V.agg (vi (Typ.kd (Typ.word (Typ.lab (↑(List.length m.letters) : Int)))) :: vi (Typ.sz (Typ.word (Typ.lab (↑(List.length m.letters) : Int)))) :: vIs (Typ.rk (Typ.word (Typ.lab (↑(List.length m.letters) : Int)))) :: V.list (List.map eT (Typ.ps (Typ.word (Typ.lab (↑(List.length m.letters) : Int))))) :: nV) :: nV)) 64 ∧ D.acc 1 (List.map eT xs ++ [V.agg [vi (Typ.kd (Typ.word (Typ.lab (↑(List.length m.letters) : Int)))), vi (Typ.sz (Typ.word (Typ.lab (↑(List.length m.letters) : Int)))), vIs (Typ.rk (Typ.word (Typ.lab (↑(List.length m.letters) : Int)))), V.list [eT (Typ.lab (↑(List.length m.letters) : Int))]]]) = accT (xs ++ [Typ.word (Typ.lab (↑(List.length m.letters) : Int))]) ∧ di (IntKind.wrap IntKind.i64 ((↑k : Int) + 1)) = di (↑(k + 1) : Int) ∧ [some [di 0, di 0, D.v V.nils, D.v V.nils]] = [some [di 0, di 0, D.v V.nils, D.v V.nils]] ∧ [(1, 4, List.map eT xs ++ V.agg (vi (Typ.kd (Typ.word (Typ.lab (↑(List.length m.letters) : Int)))) :: vi (Typ.sz (Typ.word (Typ.lab (↑(List.length m.letters) : Int)))) :: vIs (Typ.rk (Typ.word (Typ.lab (↑(List.length m.letters) : Int)))) :: V.list (eT (Typ.lab (↑(List.length m.letters) : Int)) :: nV) :: nV) :: nV)] = [(1, 4, List.map eT (xs ++ [Typ.word (Typ.lab (↑(List.length m.letters) : Int))]))] ∧ Nv.It (RunC (CN 0) PP (fun env σ1 => ResOK PP fTyped env σ1 (dT (Typ.prod (xs ++ List.replicate (n + 1) (Typ.word (Typ.lab (↑(List.length m.letters) : Int)))))) σ0) [KI.lp (sub cTyped [1, 1, 0, 1, 0, 1, 1, 1, 1, 1, 0, 0]), KI.blk 1, KI.blk 0, KI.code (sub cTyped [1, 1, 1])] (mkE 70 [(1, D.v (V.ref (vMod m))), (2, D.ptr 0 0), (3, accT (xs ++ [Typ.word (Typ.lab (↑(List.length m.letters) : Int))])), (14, di (↑(List.length m.places) : Int)), (15, di (↑(k + 1) : Int))]) (ownT (xs ++ [Typ.word (Typ.lab (↑(List.length m.letters) : Int))])))) = _) ?_
    have h := ih (k + 1) (xs ++ [.word (.lab m.letters.length)]) (by omega) (by omega) (by simp only [List.length_append, List.length_cons, List.length_nil]; omega)
    rw [List.append_assoc] at h
    refine ⟨decide_eq_true (by omega), by rw [hk]; rfl, by rw [List.length_map]; exact mlabel_spec _, mlist_word _, rfl, ⟨?_, ?_⟩, ?_, wrap_succ (by omega), rfl, ?_, ⟨h⟩⟩
    · simp only [List.length_map, List.length_cons, List.length_nil]; omega
    · simp only [List.length_map, List.length_cons, List.length_nil]; omega
    · rw [accT, ← accT_snoc]; rfl
    · rw [← accT_snoc]; rfl
theorem typed_loop3 (m : Mod) (hm : m.places.length ≤ 1000) (hr : m.ranks.length ≤ 1000000) (hk : m.kind = 3) (n : Nat) : ∀ (k : Nat) (xs : List Typ), m.places.length - k = n → k ≤ m.places.length → xs.length ≤ k + 1 →
    Rn PP fTyped 0 (dT (.prod (xs ++ List.replicate n (.prio m.letters.length m.ranks)))) σ0 ([.lp (sub cTyped [1, 1, 0, 1, 0, 1, 1, 1, 1, 1, 0, 0]), .blk 1, .blk 0, .code (sub cTyped [1, 1, 1])] ++ []) (mkE 70 [(1, .v (.ref (vMod m))), (2, .ptr 0 0), (3, accT xs), (14, di m.places.length), (15, di k)]) (ownT xs) := by
  induction n with
  | zero =>
    intro k xs hn hk0 hxs
    refine loop_vc mixed 70 [1] (.f .r) ?_
    refine via (by kernel_rfl : (decide ((↑k : Int) < (↑(List.length m.places) : Int)) = false ∧ D.v (V.agg [vi 3, vi 0, V.list [], V.list (List.map eT xs)]) = dT (Typ.prod (xs ++ List.replicate 0 (Typ.prio (↑(List.length m.letters) : Int) m.ranks)))) = _) ?_
    refine ⟨decide_eq_false (by omega), ?_⟩
    rw [List.replicate_zero, List.append_nil]; rfl
  | succ n ih =>
    intro k xs hn hk0 hxs
    refine loop_vc mixed 70 [1] (.t <| .f <| .t <| .c (dIs m.ranks) <| .ls [ke 1, ke 2, ch 3 (accT (xs ++ [.prio m.letters.length m.ranks])), ke 14, ch 15 (di (k + 1 : Nat))] (ownT (xs ++ [.prio m.letters.length m.ranks]))) ?_
    refine via (by kernel_rfl : (decide ((↑k : Int) < (↑(List.length m.places) : Int)) = true ∧ (m.kind == 2) = false ∧ (m.kind == 3) = true ∧ FSpec PP 63 [D.v (vIs m.ranks)] (St.mk [] []) (dIs m.ranks) (St.mk [] []) ∧ List.map eT xs = List.map eT xs ∧ LenOK (List.length (List.map eT xs) + List.length (V.agg (V.int IntKind.i64 7 :: V.int IntKind.i64 (↑(List.length (List.map V.str m.letters)) : Int) :: vIs m.ranks :: V.list nV :: nV) :: nV)) 64 ∧ D.acc 1 (List.map eT xs ++ [V.agg [vi 7, vi (↑(List.length (List.map V.str m.letters)) : Int), vIs m.ranks, V.list []]]) = accT (xs ++ [Typ.prio (↑(List.length m.letters) : Int) m.ranks]) ∧ di (IntKind.wrap IntKind.i64 ((↑k : Int) + 1)) = di (↑(k + 1) : Int) ∧ [some [di 0, di 0, D.v V.nils, D.v V.nils]] = [some [di 0, di 0, D.v V.nils, D.v V.nils]] ∧ [(1, 4, List.map eT xs ++ V.agg (vi 7 :: vi (↑(List.length (List.map V.str m.letters)) : Int) :: vIs m.ranks :: V.list nV :: nV) :: nV)] = [(1, 4, List.map eT (xs ++ [Typ.prio (↑(List.length m.letters) : Int) m.ranks]))] ∧ Nv.It (RunC (CN 0) PP (fun env σ1 => ResOK PP fTyped env σ1 (dT (Typ.prod (xs ++ List.replicate (n + 1) (Typ.prio (↑(List.length m.letters) : Int) m.ranks)))) σ0) [KI.lp (sub cTyped [1, 1, 0, 1, 0, 1, 1, 1, 1, 1, 0, 0]), KI.blk 1, KI.blk 0, KI.code (sub cTyped [1, 1, 1])] (mkE 70 [(1, D.v (V.ref (vMod m))), (2, D.ptr 0 0), (3, accT (xs ++ [Typ.prio (↑(List.length m.letters) : Int) m.ranks])), (14, di (↑(List.length m.places) : Int)), (15, di (↑(k + 1) : Int))]) (ownT (xs ++ [Typ.prio (↑(List.length m.letters) : Int) m.ranks])))) = _) ?_
    have h := ih (k + 1) (xs ++ [.prio m.letters.length m.ranks]) (by omega) (by omega) (by simp only [List.length_append, List.length_cons, List.length_nil]; omega)
    rw [List.append_assoc] at h
    refine ⟨decide_eq_true (by omega), by rw [hk]; rfl, by rw [hk]; rfl, cloI_spec m.ranks hr, rfl, ⟨?_, ?_⟩, ?_, wrap_succ (by omega), rfl, ?_, ⟨h⟩⟩
    · simp only [List.length_map, List.length_cons, List.length_nil]; omega
    · simp only [List.length_map, List.length_cons, List.length_nil]; omega
    · rw [accT, ← accT_snoc]; rw [List.length_map]; rfl
    · rw [← accT_snoc]; rw [List.length_map]; rfl
theorem typed_spec (m : Mod) (hm : m.places.length ≤ 1000) (hr : m.ranks.length ≤ 1000000) (hk : m.kind = 1 ∨ m.kind = 2 ∨ m.kind = 3) : FSpec PP 99 [dMod m] σ0 (dT (typM m)) σ0 := by
  refine spec_vc mixed fTyped cTyped (by kernel_rfl) (by kernel_rfl) (by kernel_rfl) (by kernel_rfl) 70 (by kernel_rfl) [1] (.c (dT (.lab m.states.length)) <| .a 1 <| .f <| .f <| .ls [ke 1, ke 2, ch 3 (accT [.lab m.states.length]), ch 14 (di m.places.length), ch 15 (di (0 : Nat))] (ownT [.lab m.states.length])) ?_
  refine via (by kernel_rfl : (FSpec PP 162 [di (↑(List.length (List.map V.str m.states)) : Int)] (St.mk [] []) (dT (Typ.lab (↑(List.length m.states) : Int))) (St.mk [] []) ∧ (m.kind == 4) = false ∧ (m.kind == 5) = false ∧ D.acc 1 [vT (Typ.lab (↑(List.length m.states) : Int))] = accT [Typ.lab (↑(List.length m.states) : Int)] ∧ di (↑(List.length (List.map V.str m.places)) : Int) = di (↑(List.length m.places) : Int) ∧ di 0 = di (↑0 : Int) ∧ [some [di 0, di 0, D.v V.nils, D.v V.nils]] = [some [di 0, di 0, D.v V.nils, D.v V.nils]] ∧ [(1, 4, vT (Typ.lab (↑(List.length m.states) : Int)) :: nV)] = [(1, 4, eT (Typ.lab (↑(List.length m.states) : Int)) :: nV)] ∧ Nv.It (RunC (CN (List.length σ0.H)) PP (fun env σ1 => ResOK PP fTyped env σ1 (dT (typM m)) σ0) [KI.lp (sub cTyped [1, 1, 0, 1, 0, 1, 1, 1, 1, 1, 0, 0]), KI.blk 1, KI.blk 0, KI.code (sub cTyped [1, 1, 1])] (mkE 70 [(1, D.v (V.ref (vMod m))), (2, D.ptr 0 0), (3, accT [Typ.lab (↑(List.length m.states) : Int)]), (14, di (↑(List.length m.places) : Int)), (15, di (↑0 : Int))]) (ownT [Typ.lab (↑(List.length m.states) : Int)]))) = _) ?_
  refine ⟨by rw [List.length_map]; exact mlabel_spec _, by rcases hk with h | h | h <;> rw [h] <;> rfl, by rcases hk with h | h | h <;> rw [h] <;> rfl, rfl, by rw [List.length_map], rfl, rfl, rfl, ⟨?_⟩⟩
  rcases hk with h | h | h
  · have := typed_loop1 m hm h _ 0 [.lab m.states.length] rfl (by omega) (by simp)
    rw [Nat.sub_zero] at this
    rw [typM, show eltM m = .nat by simp [eltM, h]]
    exact this
  · have := typed_loop2 m hm h _ 0 [.lab m.states.length] rfl (by omega) (by simp)
    rw [Nat.sub_zero] at this
    rw [typM, show eltM m = .word (.lab m.letters.length) by simp [eltM, h]]
    exact this
  · have := typed_loop3 m hm hr h _ 0 [.lab m.states.length] rfl (by omega) (by simp)
    rw [Nat.sub_zero] at this
    rw [typM, show eltM m = .prio m.letters.length m.ranks by simp [eltM, h]]
    exact this
end Go.Proofs.YtdfdemnbaiieaaaGreat

namespace Go.Proofs.YtdfdemnbaiieaaaGreat
open Go.Dv Go.Nv
set_option maxRecDepth 20000

noncomputable abbrev fIxR : Func := Tryz.f177
noncomputable def cIxR : Code := fIxR.body.getD .skip
theorem ixR_loop (F : FuncId) (fs cs : List V) (p : Rul → Bool) (l : List (Rul)) (hl : l.length ≤ 1000000) (hp : ∀ x ∈ l, FSpec PP F ((fs ++ [vRul x] ++ cs).map .v) σ0 (db (p x)) σ0) (n : Nat) : ∀ k : Nat, l.length - k = n →
    Rn PP fIxR 0 (di (ixM p (l.drop k) k)) σ0 ([.lp (sub cIxR [1, 0, 1, 0, 0]), .blk 0, .code (sub cIxR [1, 1])] ++ []) (mkE 19 [(0, dl (l.map vRul)), (1, .v (.fn F fs cs)), (7, di l.length), (8, di k)]) σ0 := by
  induction n using Nat.strongRecOn with
  | _ n ih =>
  intro k hn
  refine loop_vc mixed 19 [] (.b (.e fun x : Rul => .x (vRul x) <| .c (db (p x)) <| .b .r (.l [ke 0, ke 1, ke 7, ch 8 (di (k + 1 : Nat))])) .r) ?_
  refine via (by kernel_rfl : ((decide ((↑k : Int) < (↑(List.length l) : Int)) = true → ∃ a, 0 ≤ (↑k : Int) ∧ (List.map vRul l)[Int.toNat (↑k : Int)]? = some (vRul a) ∧ FSpec PP F (List.map D.v (fs ++ [vRul a] ++ cs)) (St.mk [] []) (db (p a)) (St.mk [] []) ∧ (p a = true → di (↑k : Int) = di (ixM p (List.drop k l) k)) ∧ (p a = false → di (IntKind.wrap IntKind.i64 ((↑k : Int) + 1)) = di (↑(k + 1) : Int) ∧ Nv.It (RunC (CN 0) PP (fun env σ1 => ResOK PP fIxR env σ1 (di (ixM p (List.drop k l) k)) σ0) [KI.lp (sub cIxR [1, 0, 1, 0, 0]), KI.blk 0, KI.code (sub cIxR [1, 1])] (mkE 19 [(0, D.v (V.list (List.map vRul l))), (1, D.v (V.fn F fs cs)), (7, di (↑(List.length l) : Int)), (8, di (↑(k + 1) : Int))]) σ0))) ∧ (decide ((↑k : Int) < (↑(List.length l) : Int)) = false → di (-1) = di (ixM p (List.drop k l) k))) = _) ?_
  refine ⟨fun h => ?_, fun h => ?_⟩
  · have hk : k < l.length := by simpa using h
    have hx : l[k]? = some l[k] := List.getElem?_eq_getElem hk
    rw [List.drop_eq_getElem_cons hk]
    generalize l[k] = x at hx ⊢
    refine ⟨x, by omega, idx_some hx, hp x (List.mem_of_getElem? hx), fun hf => by simp [ixM, hf], fun hf => ⟨wrap_succ (by omega), ⟨?_⟩⟩⟩
    simp only [ixM, hf]
    exact ih (l.length - (k + 1)) (by omega) (k + 1) rfl
  · have hk : l.length ≤ k := by simpa using h
    rw [List.drop_of_length_le hk]; rfl
theorem ixR_spec (F : FuncId) (fs cs : List V) (p : Rul → Bool) (l : List (Rul)) (hl : l.length ≤ 1000000) (hp : ∀ x ∈ l, FSpec PP F ((fs ++ [vRul x] ++ cs).map .v) σ0 (db (p x)) σ0) :
    FSpec PP 177 [dl (l.map vRul), .v (.fn F fs cs)] σ0 (di (ixM p l 0)) σ0 := by
  refine spec_vc mixed fIxR cIxR (by kernel_rfl) (by kernel_rfl) (by kernel_rfl) (by kernel_rfl) 19 (by kernel_rfl) [] (.l [ke 0, ke 1, ch 7 (di l.length), ch 8 (di (0 : Nat))]) ?_
  refine via (by kernel_rfl : (di (↑(List.length (List.map vRul l)) : Int) = di (↑(List.length l) : Int) ∧ di 0 = di (↑0 : Int) ∧ Nv.It (RunC (CN (List.length σ0.H)) PP (fun env σ1 => ResOK PP fIxR env σ1 (di (ixM p l 0)) σ0) [KI.lp (sub cIxR [1, 0, 1, 0, 0]), KI.blk 0, KI.code (sub cIxR [1, 1])] (mkE 19 [(0, dl (List.map vRul l)), (1, D.v (V.fn F fs cs)), (7, di (↑(List.length l) : Int)), (8, di (↑0 : Int))]) σ0)) = _) ?_
  refine ⟨by simp, rfl, ⟨?_⟩⟩
  exact ixR_loop F fs cs p l hl hp _ 0 rfl

noncomputable abbrev fHasR : Func := Tryz.f118
noncomputable def cHasR : Code := fHasR.body.getD .skip
theorem hasR_spec (F : FuncId) (fs cs : List V) (p : Rul → Bool) (l : List (Rul)) (hl : l.length ≤ 1000000) (hp : ∀ x ∈ l, FSpec PP F ((fs ++ [vRul x] ++ cs).map .v) σ0 (db (p x)) σ0) :
    FSpec PP 118 [dl (l.map vRul), .v (.fn F fs cs)] σ0 (db (l.any p)) σ0 := by
  refine spec_vc mixed fHasR cHasR (by kernel_rfl) (by kernel_rfl) (by kernel_rfl) (by kernel_rfl) 9 (by kernel_rfl) [] (.c (di (ixM p l 0)) .r) ?_
  refine via (by kernel_rfl : (FSpec PP 177 [D.v (V.list (List.map vRul l)), D.v (V.fn F fs cs)] (St.mk [] []) (di (ixM p l 0)) (St.mk [] []) ∧ db (decide (ixM p l 0 ≥ 0)) = db (List.any l p)) = _) ?_
  exact ⟨ixR_spec F fs cs p l hl hp, by rw [← ixM_any]⟩

def limM (m : Mod) : Lims := if m.kind = 1 then lim1 else lim2
def rightM (m : Mod) (r : Rul) : Bool := if m.kind = 1 then rightC m r else rightL m r
/-- a right model of counters or of channels -/
structure Mod.ok (m : Mod) : Prop where
  kind : m.kind = 1 ∨ m.kind = 2 ∨ m.kind = 3
  sized : sizedB (limM m) m = true
  ranked : rankedB m = true
  named : namedB m = true
  rshort : ∀ r ∈ m.rules, r.short
  right : ∀ r ∈ m.rules, rightM m r = true
  start : validB (typM m) m.start = true
  ssize : m.start.size ≤ 1000000
theorem betB_ok {x a b : Int} (h : betB x a b = true) : a ≤ x ∧ x ≤ b := by simpa [betB] using h
theorem Mod.ok.sz {m : Mod} (h : m.ok) : 1 ≤ m.states.length ∧ m.states.length ≤ 8 ∧ m.rules.length ≤ 12 ∧ 1 ≤ m.places.length ∧ m.places.length ≤ 6 ∧ m.letters.length ≤ 6 ∧ m.ranks.length ≤ 6 ∧ (m.kind ≠ 1 → 1 ≤ m.letters.length) := by
  have hs := h.sized
  simp only [sizedB, Bool.and_eq_true, decide_eq_true_eq] at hs
  obtain ⟨h1, h2, h3, h4, h5, h6⟩ := hs
  have h1 := betB_ok h1
  have h3 := betB_ok h3
  have h4 := betB_ok h4
  have hr := h.ranked
  have hl : (limM m).pl = 1 ∧ (limM m).ph ≤ 6 ∧ (limM m).lh ≤ 6 ∧ (m.kind ≠ 1 → (limM m).ll = 1) := by
    unfold limM
    split
    · rename_i hk
      exact ⟨rfl, by decide, by decide, fun hk2 => absurd hk hk2⟩
    · exact ⟨rfl, by decide, by decide, fun _ => rfl⟩
  have hrk : m.ranks.length = 0 ∨ m.ranks.length = m.letters.length := by
    unfold rankedB at hr
    split at hr
    · exact .inl (by simpa using hr)
    · right
      simp only [Bool.and_eq_true, beq_iff_eq] at hr
      exact Int.ofNat_inj.1 hr.1
  obtain ⟨a1, a2, a3, a4⟩ := hl
  refine ⟨by omega, by omega, by omega, by omega, by omega, by omega, by omega, fun hk => ?_⟩
  have := a4 hk
  omega
theorem Mod.ok.short {m : Mod} (h : m.ok) : m.short := by
  obtain ⟨h1, h2, h3, h4, h5, h6, h7, h8⟩ := h.sz
  exact ⟨by omega, by omega, by omega, by omega, by omega, h.rshort⟩
theorem Mod.ok.good {m : Mod} (h : m.ok) : goodB 8 (typM m) = true := by
  obtain ⟨h1, h2, h3, h4, h5, h6, h7, h8⟩ := h.sz
  have he : goodB 7 (eltM m) = true := by
    unfold eltM
    split
    · rfl
    · rename_i hk
      split
      · have := h8 hk
        simp only [goodB, Bool.and_eq_true, decide_eq_true_eq]; omega
      · rename_i hk2
        have hk3 : m.kind = 3 := by rcases h.kind with h | h | h <;> omega
        have hr := h.ranked
        simp only [rankedB, hk3, bne_self_eq_false, Bool.false_eq_true, if_false, Bool.and_eq_true, beq_iff_eq, List.all_eq_true] at hr
        have := h8 hk
        simp only [goodB, rankB, Bool.and_eq_true, beq_iff_eq, decide_eq_true_eq, Bool.not_eq_true', List.any_eq_false, Bool.not_eq_true]
        refine ⟨by omega, by omega, by omega, fun x hx => ?_⟩
        have := betB_ok (hr.2 x hx)
        simp only [rk1B, Bool.or_eq_false_iff, decide_eq_false_iff_not]; omega
  simp only [typM, goodB, List.length_cons, List.length_replicate, List.all_cons, Bool.and_eq_true, Bool.not_eq_true', beq_eq_false_iff_ne, decide_eq_false_iff_not, decide_eq_true_eq, List.all_eq_true]
  refine ⟨by omega, by omega, ⟨by omega, by omega⟩, fun t ht => ?_⟩
  rw [(List.mem_replicate.1 ht).2]; exact he
theorem right_m (m : Mod) (hm : m.ok) (r : Rul) (hr : r ∈ m.rules) : FSpec PP 157 [dMod m, dRul r] σ0 (db true) σ0 := by
  have h := hm.right r hr
  rcases hm.kind with hk | hk
  · rw [rightM, if_pos hk] at h
    rw [← h]; exact rightC_spec m hm.short hk r (hm.rshort r hr)
  · rw [rightM, if_neg (by omega)] at h
    rw [← h]; exact rightL_spec m hm.short hk r (hm.rshort r hr)
noncomputable abbrev fChk1 : Func := Tryz.f156
noncomputable def cChk1 : Code := fChk1.body.getD .skip
theorem chk1_spec (m : Mod) (hm : m.ok) (r : Rul) (hr : r ∈ m.rules) : FSpec PP 156 [dRul r, .v (.ref (vMod m))] σ0 (db false) σ0 := by
  refine spec_vc mixed fChk1 cChk1 (by kernel_rfl) (by kernel_rfl) (by kernel_rfl) (by kernel_rfl) 8 (by kernel_rfl) [2] (.c (db true) .r) ?_
  refine via (by kernel_rfl : (FSpec PP 157 [D.v (vMod m), D.v (vRul r)] (St.mk [] []) (db true) (St.mk [] []) ∧ (db !true) = db false) = _) ?_
  exact ⟨right_m m hm r hr, rfl⟩
noncomputable abbrev fBeg : Func := Tryz.f158
noncomputable def cBeg : Code := fBeg.body.getD .skip
theorem beg_spec (m : Mod) (hm : m.ok) : FSpec PP 158 [dMod m] σ0 (db true) σ0 := by
  refine spec_vc mixed fBeg cBeg (by kernel_rfl) (by kernel_rfl) (by kernel_rfl) (by kernel_rfl) 22 (by kernel_rfl) [1] (.f <| .c (dT (typM m)) <| .c (db true) .r) ?_
  refine via (by kernel_rfl : ((m.kind == 6) = false ∧ FSpec PP 99 [D.v (vMod m)] (St.mk [] []) (dT (typM m)) (St.mk [] []) ∧ FSpec PP 98 [D.v (vT (typM m)), D.v (V.agg [vi (Val.n m.start), vVs (Val.kids m.start)])] (St.mk [] []) (db true) (St.mk [] []) ∧ db true = db true) = _) ?_
  obtain ⟨h1, h2, h3, h4, h5, h6, h7, h8⟩ := hm.sz
  refine ⟨by rcases hm.kind with h | h | h <;> rw [h] <;> rfl, typed_spec m (by omega) (by omega) hm.kind, ?_, rfl⟩
  have := oval_spec (typM m) hm.good m.start hm.ssize
  rw [hm.start] at this
  exact this
noncomputable abbrev fChk : Func := Tryz.f97
noncomputable def cChk : Code := fChk.body.getD .skip
theorem chk_spec (m : Mod) (hm : m.ok) : FSpec PP 97 [dMod m] σ0 (di 0) σ0 := by
  refine spec_vc mixed fChk cChk (by kernel_rfl) (by kernel_rfl) (by kernel_rfl) (by kernel_rfl) 29 (by kernel_rfl) [1] (.c (db true) <| .c (db true) <| .c (db true) <| .c (db true) <| .c (db false) <| .c (db true) .r) ?_
  refine via (by kernel_rfl : (FSpec PP 152 [di m.kind, di 1, di 6] (St.mk [] []) (db true) (St.mk [] []) ∧ FSpec PP 153 [D.v (vMod m)] (St.mk [] []) (db true) (St.mk [] []) ∧ FSpec PP 154 [D.v (vMod m)] (St.mk [] []) (db true) (St.mk [] []) ∧ FSpec PP 155 [D.v (vMod m)] (St.mk [] []) (db true) (St.mk [] []) ∧ FSpec PP 118 [D.v (vRuls m.rules), D.v (V.fn 156 [] [V.ref (vMod m)])] (St.mk [] []) (db false) (St.mk [] []) ∧ FSpec PP 158 [D.v (vMod m)] (St.mk [] []) (db true) (St.mk [] []) ∧ di 0 = di 0) = _) ?_
  obtain ⟨h1, h2, h3, h4, h5, h6, h7, h8⟩ := hm.sz
  refine ⟨?_, ?_, ?_, ?_, ?_, beg_spec m hm, rfl⟩
  · have := betw_spec m.kind 1 6
    rwa [show betB m.kind 1 6 = true by rcases hm.kind with h | h | h <;> rw [h] <;> rfl] at this
  · have := sized_spec (limM m) m (by
      unfold limM
      rcases hm.kind with h | h | h <;> rw [h]
      · exact of_1
      · exact of_2
      · exact of_3)
    rwa [hm.sized] at this
  · have := ranked_spec m (by omega)
    rwa [hm.ranked] at this
  · have := nam_spec m (by simp only [baseM, List.flatten_cons, List.flatten_nil, List.length_append, List.length_nil]; omega)
    rwa [hm.named] at this
  · have := hasR_spec 156 [] [.ref (vMod m)] (fun _ => false) m.rules (by omega) (fun r hr => chk1_spec m hm r hr)
    rw [show m.rules.any (fun _ => false) = false by simp] at this
    exact this
noncomputable abbrev fMVal : Func := Tryz.f61
noncomputable def cMVal : Code := fMVal.body.getD .skip
theorem mval_spec (m : Mod) (hm : m.ok) (v : Val) (hv : v.size ≤ 1000000) : FSpec PP 61 [dMod m, dV v] σ0 (db (validB (typM m) v)) σ0 := by
  refine spec_vc mixed fMVal cMVal (by kernel_rfl) (by kernel_rfl) (by kernel_rfl) (by kernel_rfl) 14 (by kernel_rfl) [2, 3] (.c (di 0) <| .c (dT (typM m)) <| .c (db (validB (typM m) v)) .r) ?_
  refine via (by kernel_rfl : (FSpec PP 97 [D.v (vMod m)] (St.mk [] []) (di 0) (St.mk [] []) ∧ FSpec PP 99 [D.v (vMod m)] (St.mk [] []) (dT (typM m)) (St.mk [] []) ∧ FSpec PP 98 [D.v (vT (typM m)), D.v (vVal v)] (St.mk [] []) (db (validB (typM m) v)) (St.mk [] []) ∧ db (validB (typM m) v) = db (validB (typM m) v)) = _) ?_
  obtain ⟨h1, h2, h3, h4, h5, h6, h7, h8⟩ := hm.sz
  exact ⟨chk_spec m hm, typed_spec m (by omega) (by omega) hm.kind, oval_spec _ hm.good v hv, rfl⟩
noncomputable abbrev fWlk : Func := Tryz.f60
noncomputable def cWlk : Code := fWlk.body.getD .skip
theorem wlk_spec (m : Mod) (hm : m.ok) : FSpec PP 60 [dMod m] σ0 (di 0) σ0 := by
  refine spec_vc mixed fWlk cWlk (by kernel_rfl) (by kernel_rfl) (by kernel_rfl) (by kernel_rfl) 12 (by kernel_rfl) [1] (.c (di 0) <| .k <| .f .r) ?_
  refine via (by kernel_rfl : (FSpec PP 97 [D.v (vMod m)] (St.mk [] []) (di 0) (St.mk [] []) ∧ (m.kind == 6) = false ∧ di 0 = di 0) = _) ?_
  exact ⟨chk_spec m hm, by rcases hm.kind with h | h | h <;> rw [h] <;> rfl, rfl⟩
noncomputable abbrev fSPl : Func := Tryz.f74
noncomputable def cSPl : Code := fSPl.body.getD .skip
noncomputable abbrev fSPl1 : Func := Tryz.f119
noncomputable def cSPl1 : Code := fSPl1.body.getD .skip
def plainB (m : Mod) : Bool := (m.kind == 1) && m.rules.all fun r => !decide ((r.move.length : Int) > 0)
theorem spl1_spec (r : Rul) : FSpec PP 119 [dRul r] σ0 (db (decide ((r.move.length : Int) > 0))) σ0 := by
  refine spec_vc mixed fSPl1 cSPl1 (by kernel_rfl) (by kernel_rfl) (by kernel_rfl) (by kernel_rfl) 7 (by kernel_rfl) [1] .r ?_
  refine via (by kernel_rfl : (db (decide ((↑(List.length (List.map vi r.move)) : Int) > 0)) = db (decide ((↑(List.length r.move) : Int) > 0))) = _) ?_
  rw [List.length_map]
theorem spl_spec (m : Mod) (hm : m.rules.length ≤ 1000000) : FSpec PP 74 [dMod m] σ0 (db (plainB m)) σ0 := by
  refine spec_vc mixed fSPl cSPl (by kernel_rfl) (by kernel_rfl) (by kernel_rfl) (by kernel_rfl) 12 (by kernel_rfl) [1] (.b (.c (db (m.rules.any fun r => decide ((r.move.length : Int) > 0))) .r) .r) ?_
  refine via (by kernel_rfl : (((m.kind == 1) = true → FSpec PP 118 [D.v (vRuls m.rules), D.v (V.fn 119 [] [])] (St.mk [] []) (db (List.any m.rules fun r => decide ((↑(List.length r.move) : Int) > 0))) (St.mk [] []) ∧ (db !List.any m.rules fun r => decide ((↑(List.length r.move) : Int) > 0)) = db (plainB m)) ∧ ((m.kind == 1) = false → db false = db (plainB m))) = _) ?_
  refine ⟨fun h => ⟨hasR_spec _ [] [] _ m.rules hm fun r _ => spl1_spec r, ?_⟩, fun h => ?_⟩
  · simp only [plainB, h, Bool.true_and]
    rw [← any_not]; simp only [Bool.not_not]
  · simp only [plainB, h, Bool.false_and]
noncomputable abbrev fSSame : Func := Tryz.f38
noncomputable def cSSame : Code := fSSame.body.getD .skip
theorem ssame_spec (a b : Val) (ha : a.size ≤ 1000000) : FSpec PP 38 [dV a, dV b] σ0 (db (cmpV a b == 0)) σ0 := by
  refine spec_vc mixed fSSame cSSame (by kernel_rfl) (by kernel_rfl) (by kernel_rfl) (by kernel_rfl) 9 (by kernel_rfl) [2, 3] (.c (di (cmpV a b)) .r) ?_
  refine via (by kernel_rfl : (FSpec PP 43 [D.v (vVal a), D.v (vVal b)] (St.mk [] []) (di (cmpV a b)) (St.mk [] []) ∧ db (cmpV a b == 0) = db (cmpV a b == 0)) = _) ?_
  exact ⟨cmpV_spec _ a b (Nat.le_refl _) ha, rfl⟩
end Go.Proofs.YtdfdemnbaiieaaaGreat

namespace Go.Proofs.YtdfdemnbaiieaaaGreat
open Go.Dv Go.Nv
set_option maxRecDepth 20000
/- WORDS -/
noncomputable abbrev fLet14 : Func := Tryz.f186
noncomputable def cLet14 : Code := fLet14.body.getD .skip
theorem let14_spec (c : UInt8) : FSpec PP 186 [.v (vb c)] σ0 (db (partB c)) σ0 := by
  refine spec_vc mixed fLet14 cLet14 (by kernel_rfl) (by kernel_rfl) (by kernel_rfl) (by kernel_rfl) 21 (by kernel_rfl) [] (.b (.b .r (.b (.b .r .r) .r)) (.k <| .b (.b .r .r) .r)) ?_
  refine via (by kernel_rfl : ((decide ((↑(UInt8.toNat c) : Int) ≥ 97) = true → (decide ((↑(UInt8.toNat c) : Int) ≤ 122) = true → db true = db (partB c)) ∧ (decide ((↑(UInt8.toNat c) : Int) ≤ 122) = false → (decide ((↑(UInt8.toNat c) : Int) ≥ 48) = true → (decide ((↑(UInt8.toNat c) : Int) ≤ 57) = true → db true = db (partB c)) ∧ (decide ((↑(UInt8.toNat c) : Int) ≤ 57) = false → db ((↑(UInt8.toNat c) : Int) == 95) = db (partB c))) ∧ (decide ((↑(UInt8.toNat c) : Int) ≥ 48) = false → db ((↑(UInt8.toNat c) : Int) == 95) = db (partB c)))) ∧ (decide ((↑(UInt8.toNat c) : Int) ≥ 97) = false → (decide ((↑(UInt8.toNat c) : Int) ≥ 48) = true → (decide ((↑(UInt8.toNat c) : Int) ≤ 57) = true → db true = db (partB c)) ∧ (decide ((↑(UInt8.toNat c) : Int) ≤ 57) = false → db ((↑(UInt8.toNat c) : Int) == 95) = db (partB c))) ∧ (decide ((↑(UInt8.toNat c) : Int) ≥ 48) = false → db ((↑(UInt8.toNat c) : Int) == 95) = db (partB c)))) = _) ?_
  repeat' first | with_reducible refine And.intro ?_ ?_ | intro _
  all_goals simp only [partB, letB, digB, *] <;> simp
noncomputable abbrev fWord14 : Func := Tryz.f130
noncomputable def cWord14 : Code := fWord14.body.getD .skip
theorem run_all (p : UInt8 → Bool) : ∀ s : List UInt8, runM p s = s.length → ∀ c ∈ s, p c = true
  | [], _, _, h => absurd h (by simp)
  | x :: s, h, c, hc => by
    unfold runM at h
    split at h
    · rename_i hx
      rcases List.mem_cons.1 hc with rfl | hc
      · exact hx
      · exact run_all p s (by simpa using h) c hc
    · simp at h
theorem word14_loop (s : List UInt8) (hs : s.length ≤ 12) (hw : wordB s = true) (n : Nat) : ∀ k : Nat, s.length - k = n →
    Rn PP fWord14 0 (db true) σ0 ([.lp (sub cWord14 [1, 0, 1, 0, 0]), .blk 0, .code (sub cWord14 [1, 1])] ++ []) (mkE 33 [(0, ds s), (3, di k)]) σ0 := by
  induction n using Nat.strongRecOn with
  | _ n ih =>
  intro k hn
  refine loop_vc mixed 33 [] (.b (.e fun c : UInt8 => .y c <| .c (db true) <| .l [ke 0, ch 3 (di (k + 1 : Nat))]) (.t <| .t <| .y (s.headD 0) <| .t <| .y (s.headD 0) .r)) ?_
  refine via (by kernel_rfl : ((decide ((↑k : Int) < (↑(List.length s) : Int)) = true → ∃ a, 0 ≤ (↑k : Int) ∧ s[Int.toNat (↑k : Int)]? = some a ∧ FSpec PP 186 [D.v (V.int IntKind.u8 (↑(UInt8.toNat a) : Int))] (St.mk [] []) (db true) (St.mk [] []) ∧ di (IntKind.wrap IntKind.i64 ((↑k : Int) + 1)) = di (↑(k + 1) : Int) ∧ Nv.It (RunC (CN 0) PP (fun env σ1 => ResOK PP fWord14 env σ1 (db true) σ0) [KI.lp (sub cWord14 [1, 0, 1, 0, 0]), KI.blk 0, KI.code (sub cWord14 [1, 1])] (mkE 33 [(0, D.v (V.str s)), (3, di (↑(k + 1) : Int))]) σ0)) ∧ (decide ((↑k : Int) < (↑(List.length s) : Int)) = false → decide ((↑(List.length s) : Int) ≥ 1) = true ∧ decide ((↑(List.length s) : Int) ≤ 12) = true ∧ iz 0 ≤ 0 ∧ s[Int.toNat 0]? = some (List.headD s 0) ∧ decide ((↑(UInt8.toNat (List.headD s 0)) : Int) ≥ 97) = true ∧ iz 0 ≤ 0 ∧ s[Int.toNat 0]? = some (List.headD s 0) ∧ db (decide ((↑(UInt8.toNat (List.headD s 0)) : Int) ≤ 122)) = db true)) = _) ?_
  simp only [wordB, Bool.and_eq_true, bne_iff_ne, ne_eq, beq_iff_eq] at hw
  obtain ⟨w1, w2, w3, w4⟩ := hw
  have hall := run_all partB s (Int.ofNat_inj.1 w4)
  have h0 : s[0]? = some (s.headD 0) := by cases s with
    | nil => simp at w1
    | cons a s => rfl
  simp only [letB, Bool.and_eq_true] at w3
  refine ⟨fun h => ?_, fun h => ?_⟩
  · have hk : k < s.length := by simpa using h
    have hx : s[k]? = some s[k] := List.getElem?_eq_getElem hk
    generalize s[k] = c at hx
    refine ⟨c, by omega, by simpa using hx, hall c (List.mem_of_getElem? hx) ▸ let14_spec c, wrap_succ (by omega), ⟨?_⟩⟩
    exact ih (s.length - (k + 1)) (by omega) (k + 1) rfl
  · refine ⟨decide_eq_true ?_, w2, by decide, h0, w3.1, by decide, h0, congrArg db w3.2⟩
    cases s with
    | nil => simp at w1
    | cons a s => simp only [List.length_cons]; omega
theorem word14_spec (s : List UInt8) (hw : wordB s = true) : FSpec PP 130 [ds s] σ0 (db true) σ0 := by
  have hs : s.length ≤ 12 := by
    simp only [wordB, Bool.and_eq_true, decide_eq_true_eq] at hw
    omega
  refine spec_vc mixed fWord14 cWord14 (by kernel_rfl) (by kernel_rfl) (by kernel_rfl) (by kernel_rfl) 33 (by kernel_rfl) [] (.l [ke 0, ch 3 (di (0 : Nat))]) ?_
  refine via (by kernel_rfl : (di 0 = di (↑0 : Int) ∧ Nv.It (RunC (CN (List.length σ0.H)) PP (fun env σ1 => ResOK PP fWord14 env σ1 (db true) σ0) [KI.lp (sub cWord14 [1, 0, 1, 0, 0]), KI.blk 0, KI.code (sub cWord14 [1, 1])] (mkE 33 [(0, D.v (V.str s)), (3, di (↑0 : Int))]) σ0)) = _) ?_
  exact ⟨rfl, ⟨word14_loop s hs hw _ 0 rfl⟩⟩
/- NUMBERS -/
noncomputable abbrev fBetw15 : Func := Tryz.f77
noncomputable def cBetw15 : Code := fBetw15.body.getD .skip
theorem betw15_spec (x a b : Int) : FSpec PP 77 [di x, di a, di b] σ0 (db (betB x a b)) σ0 := by
  refine spec_vc mixed fBetw15 cBetw15 (by kernel_rfl) (by kernel_rfl) (by kernel_rfl) (by kernel_rfl) 15 (by kernel_rfl) [] (.b .r .r) ?_
  refine via (by kernel_rfl : ((decide (x ≥ a) = true → db (decide (x ≤ b)) = db (betB x a b)) ∧ (decide (x ≥ a) = false → db false = db (betB x a b))) = _) ?_
  refine ⟨fun h => ?_, fun h => ?_⟩
  · have h : a ≤ x := by simpa using h
    simp [betB, h]
  · have h : ¬ a ≤ x := by simpa using h
    simp [betB, h]
noncomputable abbrev fNum15 : Func := Tryz.f78
noncomputable def cNum15 : Code := fNum15.body.getD .skip
theorem num15_spec (m : Mod) (hm : m.ok) : FSpec PP 78 [dMod m] σ0 (db true) σ0 := by
  have h1 : ∀ a b x, betB x a b = true → FSpec PP 77 [di x, di a, di b] σ0 (db true) σ0 := fun a b x h => h ▸ betw15_spec x a b
  have hs := hm.sized
  simp only [sizedB, Bool.and_eq_true, decide_eq_true_eq] at hs
  obtain ⟨s1, s2, s3, s4, s5, s6⟩ := hs
  have hk := hm.kind
  clear hm
  obtain ⟨kind, states, places, letters, ranks, levels, age, rules, start⟩ := m
  dsimp only at *
  rcases hk with hk | hk | hk <;> subst hk
  · refine spec_vc mixed fNum15 cNum15 (by kernel_rfl) (by kernel_rfl) (by kernel_rfl) (by kernel_rfl) 81 (by kernel_rfl) [1] (.c (db true) <| .c (db true) <| .k <| .f <| .c (db true) <| .c (db true) .r) ?_
    refine via (by kernel_rfl : (FSpec PP 77 [di (↑(List.length (List.map V.str (Mod.mk 1 states places letters ranks levels age rules start).states)) : Int), di 1, di 8] (St.mk [] []) (db true) (St.mk [] []) ∧ FSpec PP 77 [di (↑(List.length (List.map V.str (Mod.mk 1 states places letters ranks levels age rules start).places)) : Int), di 1, di 6] (St.mk [] []) (db true) (St.mk [] []) ∧ decide ((↑(List.length (List.map vRul (Mod.mk 1 states places letters ranks levels age rules start).rules)) : Int) > 12) = false ∧ FSpec PP 77 [di (↑(List.length (List.map V.str (Mod.mk 1 states places letters ranks levels age rules start).letters)) : Int), di 0, di 0] (St.mk [] []) (db true) (St.mk [] []) ∧ FSpec PP 77 [di (Mod.mk 1 states places letters ranks levels age rules start).levels, di 0, di 0] (St.mk [] []) (db true) (St.mk [] []) ∧ db ((Mod.mk 1 states places letters ranks levels age rules start).age == 0) = db true) = _) ?_
    refine ⟨by rw [List.length_map]; exact h1 _ _ _ s1, by rw [List.length_map]; exact h1 _ _ _ s3, by rw [List.length_map]; show decide ((rules.length : Int) > 12) = false; exact decide_eq_false (by omega), by rw [List.length_map]; exact h1 _ _ _ s4, h1 _ _ _ s5, ?_⟩
    have := betB_ok s6
    rw [show age = 0 by simp only [limM] at this; simp at this; omega]; rfl
  · refine spec_vc mixed fNum15 cNum15 (by kernel_rfl) (by kernel_rfl) (by kernel_rfl) (by kernel_rfl) 81 (by kernel_rfl) [1] (.c (db true) <| .c (db true) <| .k <| .f <| .c (db true) <| .c (db true) .r) ?_
    refine via (by kernel_rfl : (FSpec PP 77 [di (↑(List.length (List.map V.str (Mod.mk 2 states places letters ranks levels age rules start).states)) : Int), di 1, di 8] (St.mk [] []) (db true) (St.mk [] []) ∧ FSpec PP 77 [di (↑(List.length (List.map V.str (Mod.mk 2 states places letters ranks levels age rules start).places)) : Int), di 1, di 2] (St.mk [] []) (db true) (St.mk [] []) ∧ decide ((↑(List.length (List.map vRul (Mod.mk 2 states places letters ranks levels age rules start).rules)) : Int) > 12) = false ∧ FSpec PP 77 [di (↑(List.length (List.map V.str (Mod.mk 2 states places letters ranks levels age rules start).letters)) : Int), di 1, di 6] (St.mk [] []) (db true) (St.mk [] []) ∧ FSpec PP 77 [di (Mod.mk 2 states places letters ranks levels age rules start).levels, di 0, di 0] (St.mk [] []) (db true) (St.mk [] []) ∧ db ((Mod.mk 2 states places letters ranks levels age rules start).age == 0) = db true) = _) ?_
    refine ⟨by rw [List.length_map]; exact h1 _ _ _ s1, by rw [List.length_map]; exact h1 _ _ _ s3, by rw [List.length_map]; show decide ((rules.length : Int) > 12) = false; exact decide_eq_false (by omega), by rw [List.length_map]; exact h1 _ _ _ s4, h1 _ _ _ s5, ?_⟩
    have := betB_ok s6
    rw [show age = 0 by simp only [limM] at this; simp at this; omega]; rfl
  · refine spec_vc mixed fNum15 cNum15 (by kernel_rfl) (by kernel_rfl) (by kernel_rfl) (by kernel_rfl) 81 (by kernel_rfl) [1] (.c (db true) <| .c (db true) <| .k <| .f <| .c (db true) <| .c (db true) .r) ?_
    refine via (by kernel_rfl : (FSpec PP 77 [di (↑(List.length (List.map V.str (Mod.mk 3 states places letters ranks levels age rules start).states)) : Int), di 1, di 8] (St.mk [] []) (db true) (St.mk [] []) ∧ FSpec PP 77 [di (↑(List.length (List.map V.str (Mod.mk 3 states places letters ranks levels age rules start).places)) : Int), di 1, di 2] (St.mk [] []) (db true) (St.mk [] []) ∧ decide ((↑(List.length (List.map vRul (Mod.mk 3 states places letters ranks levels age rules start).rules)) : Int) > 12) = false ∧ FSpec PP 77 [di (↑(List.length (List.map V.str (Mod.mk 3 states places letters ranks levels age rules start).letters)) : Int), di 1, di 6] (St.mk [] []) (db true) (St.mk [] []) ∧ FSpec PP 77 [di (Mod.mk 3 states places letters ranks levels age rules start).levels, di 0, di 0] (St.mk [] []) (db true) (St.mk [] []) ∧ db ((Mod.mk 3 states places letters ranks levels age rules start).age == 0) = db true) = _) ?_
    refine ⟨by rw [List.length_map]; exact h1 _ _ _ s1, by rw [List.length_map]; exact h1 _ _ _ s3, by rw [List.length_map]; show decide ((rules.length : Int) > 12) = false; exact decide_eq_false (by omega), by rw [List.length_map]; exact h1 _ _ _ s4, h1 _ _ _ s5, ?_⟩
    have := betB_ok s6
    rw [show age = 0 by simp only [limM] at this; simp at this; omega]; rfl
noncomputable abbrev fRnk15 : Func := Tryz.f79
noncomputable def cRnk15 : Code := fRnk15.body.getD .skip
theorem rnk15_12 (m : Mod) (hm : m.ok) (hk : m.kind ≠ 3) : FSpec PP 79 [dMod m] σ0 (db true) σ0 := by
  refine spec_vc mixed fRnk15 cRnk15 (by kernel_rfl) (by kernel_rfl) (by kernel_rfl) (by kernel_rfl) 32 (by kernel_rfl) [1] (.t .r) ?_
  refine via (by kernel_rfl : ((m.kind != 3) = true ∧ db ((↑(List.length (List.map vi m.ranks)) : Int) == 0) = db true) = _) ?_
  have h := hm.ranked
  rw [rankedB, if_pos (bne_iff_ne.2 hk)] at h
  exact ⟨bne_iff_ne.2 hk, by rw [List.length_map]; exact congrArg db h⟩
theorem rnk15_loop (m : Mod) (hm : m.ok) (hk : m.kind = 3) (n : Nat) : ∀ k : Nat, m.ranks.length - k = n →
    Rn PP fRnk15 0 (db true) σ0 ([.lp (sub cRnk15 [1, 1, 1, 0, 1, 0, 0]), .blk 0, .code (sub cRnk15 [1, 1, 1, 1])] ++ []) (mkE 32 [(1, .v (.ref (vMod m))), (3, di k)]) σ0 := by
  induction n using Nat.strongRecOn with
  | _ n ih =>
  intro k hn
  refine loop_vc mixed 32 [1] (.b (.e fun x : Int => .x (vi x) <| .c (db true) <| .l [ke 1, ch 3 (di (k + 1 : Nat))]) .r) ?_
  refine via (by kernel_rfl : ((decide ((↑k : Int) < (↑(List.length (List.map vi m.ranks)) : Int)) = true → ∃ a, 0 ≤ (↑k : Int) ∧ (List.map vi m.ranks)[Int.toNat (↑k : Int)]? = some (vi a) ∧ FSpec PP 77 [di a, di 0, di 5] (St.mk [] []) (db true) (St.mk [] []) ∧ di (IntKind.wrap IntKind.i64 ((↑k : Int) + 1)) = di (↑(k + 1) : Int) ∧ Nv.It (RunC (CN 0) PP (fun env σ1 => ResOK PP fRnk15 env σ1 (db true) σ0) [KI.lp (sub cRnk15 [1, 1, 1, 0, 1, 0, 0]), KI.blk 0, KI.code (sub cRnk15 [1, 1, 1, 1])] (mkE 32 [(1, D.v (V.ref (vMod m))), (3, di (↑(k + 1) : Int))]) σ0)) ∧ (decide ((↑k : Int) < (↑(List.length (List.map vi m.ranks)) : Int)) = false → db true = db true)) = _) ?_
  have h := hm.ranked
  simp only [rankedB, hk, bne_self_eq_false, Bool.false_eq_true, if_false, Bool.and_eq_true, List.all_eq_true] at h
  have hz := hm.sz
  refine ⟨fun h1 => ?_, fun h1 => rfl⟩
  have hk1 : k < m.ranks.length := by simpa using h1
  have hx : m.ranks[k]? = some m.ranks[k] := List.getElem?_eq_getElem hk1
  generalize m.ranks[k] = x at hx
  refine ⟨x, by omega, idx_some hx, h.2 x (List.mem_of_getElem? hx) ▸ betw15_spec x 0 5, wrap_succ (by omega), ⟨?_⟩⟩
  exact ih (m.ranks.length - (k + 1)) (by omega) (k + 1) rfl
theorem rnk15_3 (m : Mod) (hm : m.ok) (hk : m.kind = 3) : FSpec PP 79 [dMod m] σ0 (db true) σ0 := by
  refine spec_vc mixed fRnk15 cRnk15 (by kernel_rfl) (by kernel_rfl) (by kernel_rfl) (by kernel_rfl) 32 (by kernel_rfl) [1] (.f <| .f <| .l [ke 1, ch 3 (di (0 : Nat))]) ?_
  refine via (by kernel_rfl : ((m.kind != 3) = false ∧ ((↑(List.length (List.map vi m.ranks)) : Int) != (↑(List.length (List.map V.str m.letters)) : Int)) = false ∧ di 0 = di (↑0 : Int) ∧ Nv.It (RunC (CN (List.length σ0.H)) PP (fun env σ1 => ResOK PP fRnk15 env σ1 (db true) σ0) [KI.lp (sub cRnk15 [1, 1, 1, 0, 1, 0, 0]), KI.blk 0, KI.code (sub cRnk15 [1, 1, 1, 1])] (mkE 32 [(1, D.v (V.ref (vMod m))), (3, di (↑0 : Int))]) σ0)) = _) ?_
  have h := hm.ranked
  simp only [rankedB, hk, bne_self_eq_false, Bool.false_eq_true, if_false, Bool.and_eq_true] at h
  refine ⟨by rw [hk]; rfl, by rw [List.length_map, List.length_map]; simpa using h.1, rfl, ⟨rnk15_loop m hm hk _ 0 rfl⟩⟩
theorem rnk15_spec (m : Mod) (hm : m.ok) : FSpec PP 79 [dMod m] σ0 (db true) σ0 := by
  by_cases hk : m.kind = 3
  · exact rnk15_3 m hm hk
  · exact rnk15_12 m hm hk
/- NAMES -/
noncomputable abbrev fKw15 : Func := Tryz.f131
noncomputable def cKw15 : Code := fKw15.body.getD .skip
theorem kw15_loop (l : List (List UInt8)) (hl : l.length ≤ 1000) (s : List UInt8) (n : Nat) : ∀ k : Nat, l.length - k = n →
    Rn PP fKw15 0 (db ((l.drop k).any (· == s))) σ0 ([.lp (sub cKw15 [1, 1, 0, 1, 0, 0]), .blk 0, .code (sub cKw15 [1, 1, 1])] ++ []) (mkE 18 [(0, ds s), (3, dl (l.map V.str)), (4, di k)]) σ0 := by
  induction n using Nat.strongRecOn with
  | _ n ih =>
  intro k hn
  refine loop_vc mixed 18 [] (.b (.e fun x : List UInt8 => .x (.str x) <| .b .r (.l [ke 0, ke 3, ch 4 (di (k + 1 : Nat))])) .r) ?_
  refine via (by kernel_rfl : ((decide ((↑k : Int) < (↑(List.length (List.map V.str l)) : Int)) = true → ∃ a, 0 ≤ (↑k : Int) ∧ (List.map V.str l)[Int.toNat (↑k : Int)]? = some (V.str a) ∧ ((a == s) = true → db true = db (List.any (List.drop k l) fun x => x == s)) ∧ ((a == s) = false → di (IntKind.wrap IntKind.i64 ((↑k : Int) + 1)) = di (↑(k + 1) : Int) ∧ Nv.It (RunC (CN 0) PP (fun env σ1 => ResOK PP fKw15 env σ1 (db (List.any (List.drop k l) fun x => x == s)) σ0) [KI.lp (sub cKw15 [1, 1, 0, 1, 0, 0]), KI.blk 0, KI.code (sub cKw15 [1, 1, 1])] (mkE 18 [(0, D.v (V.str s)), (3, D.v (V.list (List.map V.str l))), (4, di (↑(k + 1) : Int))]) σ0))) ∧ (decide ((↑k : Int) < (↑(List.length (List.map V.str l)) : Int)) = false → db false = db (List.any (List.drop k l) fun x => x == s))) = _) ?_
  refine ⟨fun h => ?_, fun h => ?_⟩
  · have hk : k < l.length := by simpa using h
    have hx : l[k]? = some l[k] := List.getElem?_eq_getElem hk
    rw [List.drop_eq_getElem_cons hk]
    generalize l[k] = x at hx ⊢
    refine ⟨x, by omega, idx_str hx, fun h1 => ?_, fun h1 => ⟨wrap_succ (by omega), ⟨?_⟩⟩⟩
    · rw [List.any_cons, h1, Bool.true_or]
    · rw [List.any_cons, h1, Bool.false_or]
      exact ih (l.length - (k + 1)) (by omega) (k + 1) rfl
  · have hk : l.length ≤ k := by simpa using h
    rw [List.drop_of_length_le hk]; rfl
theorem kw15_spec (s : List UInt8) : FSpec PP 131 [ds s] σ0 (db (keyB s)) σ0 := by
  refine spec_vc mixed fKw15 cKw15 (by kernel_rfl) (by kernel_rfl) (by kernel_rfl) (by kernel_rfl) 18 (by kernel_rfl) [] (.l [ke 0, ch 3 (dl (keys.map V.str)), ch 4 (di (0 : Nat))]) ?_
  refine via (by kernel_rfl : (D.v (V.list [V.str (ByteArray.mk #[109, 111, 100, 101, 108]).data.toList, V.str (ByteArray.mk #[115, 116, 97, 116, 101, 115]).data.toList, V.str (ByteArray.mk #[112, 108, 97, 99, 101, 115]).data.toList, V.str (ByteArray.mk #[108, 101, 116, 116, 101, 114, 115]).data.toList, V.str (ByteArray.mk #[108, 101, 118, 101, 108, 115]).data.toList, V.str (ByteArray.mk #[97, 103, 101]).data.toList, V.str (ByteArray.mk #[114, 117, 108, 101]).data.toList, V.str (ByteArray.mk #[110, 101, 101, 100]).data.toList, V.str (ByteArray.mk #[103, 105, 118, 101]).data.toList, V.str (ByteArray.mk #[109, 111, 118, 101]).data.toList, V.str (ByteArray.mk #[101, 109, 112, 116, 121]).data.toList, V.str (ByteArray.mk #[115, 101, 110, 100]).data.toList, V.str (ByteArray.mk #[114, 101, 99, 101, 105, 118, 101]).data.toList, V.str (ByteArray.mk #[112, 97, 116, 104]).data.toList, V.str (ByteArray.mk #[110, 101, 120, 116]).data.toList, V.str (ByteArray.mk #[116, 97, 107, 101]).data.toList, V.str (ByteArray.mk #[109, 97, 107, 101]).data.toList, V.str (ByteArray.mk #[115, 116, 97, 114, 116]).data.toList]) = dl (List.map V.str keys) ∧ di 0 = di (↑0 : Int) ∧ Nv.It (RunC (CN (List.length σ0.H)) PP (fun env σ1 => ResOK PP fKw15 env σ1 (db (keyB s)) σ0) [KI.lp (sub cKw15 [1, 1, 0, 1, 0, 0]), KI.blk 0, KI.code (sub cKw15 [1, 1, 1])] (mkE 18 [(0, D.v (V.str s)), (3, dl (List.map V.str keys)), (4, di (↑0 : Int))]) σ0)) = _) ?_
  refine ⟨rfl, rfl, ⟨?_⟩⟩
  exact kw15_loop keys (by decide) s _ 0 rfl
end Go.Proofs.YtdfdemnbaiieaaaGreat

namespace Go.Proofs.YtdfdemnbaiieaaaGreat
open Go.Dv Go.Nv
set_option maxRecDepth 20000
theorem nmB_ok : ∀ (l u : List (List UInt8)), nmB u l = true → (∀ s ∈ l, wordB s = true ∧ keyB s = false ∧ u.contains s = false) ∧ l.Nodup
  | [], _, _ => ⟨fun s hs => absurd hs (by simp), List.nodup_nil⟩
  | x :: l, u, h => by
    simp only [nmB, Bool.and_eq_true, Bool.not_eq_true'] at h
    obtain ⟨h1, h2, h3, h4⟩ := h
    obtain ⟨h5, h6⟩ := nmB_ok l (u ++ [x]) h4
    refine ⟨fun s hs => ?_, ?_⟩
    · rcases List.mem_cons.1 hs with rfl | hs
      · exact ⟨h1, h2, h3⟩
      · obtain ⟨a, b, c⟩ := h5 s hs
        refine ⟨a, b, ?_⟩
        simp at c ⊢
        exact c.1
    · refine List.nodup_cons.2 ⟨fun hx => ?_, h6⟩
      have := (h5 x hx).2.2
      simp at this
noncomputable abbrev fNam15 : Func := Tryz.f80
noncomputable def cNam15 : Code := fNam15.body.getD .skip
theorem nam15_loop3 (l : List (List UInt8)) (hl : l.length ≤ 1000000) (hd : l.Nodup) (i : Nat) (hi : i < l.length)
    (hout : Rn PP fNam15 0 (db true) σ0 ([.lp (sub cNam15 [1, 1, 1, 0, 1, 0, 0]), .blk 2, .code (sub cNam15 [1, 1, 1, 1])] ++ []) (mkE 65 [(3, dl (l.map V.str)), (5, di (i + 1 : Nat))]) σ0) (n : Nat) : ∀ k : Nat, i - k = n →
    Rn PP fNam15 0 (db true) σ0 ([.lp (sub cNam15 [1, 1, 1, 0, 1, 0, 0, 1, 0, 0, 1, 1, 0, 0]), .blk 4, .blk 3, .code (sub cNam15 [1, 1, 1, 0, 1, 0, 0, 1, 1]), .lp (sub cNam15 [1, 1, 1, 0, 1, 0, 0]), .blk 2, .code (sub cNam15 [1, 1, 1, 1])] ++ []) (mkE 65 [(3, dl (l.map V.str)), (5, di i), (6, di k)]) σ0 := by
  induction n using Nat.strongRecOn with
  | _ n ih =>
  intro k hn
  refine loop_vc mixed 65 [1] (.b (.e fun a : List UInt8 => .x (.str a) <| .e fun b : List UInt8 => .x (.str b) <| .f <| .l [ke 3, ke 5, ch 6 (di (k + 1 : Nat))]) (.l [ke 3, ch 5 (di (i + 1 : Nat))])) ?_
  refine via (by kernel_rfl : ((decide ((↑k : Int) < (↑i : Int)) = true → ∃ a, 0 ≤ (↑k : Int) ∧ (List.map V.str l)[Int.toNat (↑k : Int)]? = some (V.str a) ∧ ∃ a_1, 0 ≤ (↑i : Int) ∧ (List.map V.str l)[Int.toNat (↑i : Int)]? = some (V.str a_1) ∧ (a == a_1) = false ∧ di (IntKind.wrap IntKind.i64 ((↑k : Int) + 1)) = di (↑(k + 1) : Int) ∧ Nv.It (RunC (CN 0) PP (fun env σ1 => ResOK PP fNam15 env σ1 (db true) σ0) [KI.lp (sub cNam15 [1, 1, 1, 0, 1, 0, 0, 1, 0, 0, 1, 1, 0, 0]), KI.blk 4, KI.blk 3, KI.code (sub cNam15 [1, 1, 1, 0, 1, 0, 0, 1, 1]), KI.lp (sub cNam15 [1, 1, 1, 0, 1, 0, 0]), KI.blk 2, KI.code (sub cNam15 [1, 1, 1, 1])] (mkE 65 [(3, D.v (V.list (List.map V.str l))), (5, di (↑i : Int)), (6, di (↑(k + 1) : Int))]) (St.mk [] []))) ∧ (decide ((↑k : Int) < (↑i : Int)) = false → di (IntKind.wrap IntKind.i64 ((↑i : Int) + 1)) = di (↑(i + 1) : Int) ∧ Nv.It (RunC (CN 0) PP (fun env σ1 => ResOK PP fNam15 env σ1 (db true) σ0) [KI.lp (sub cNam15 [1, 1, 1, 0, 1, 0, 0]), KI.blk 2, KI.code (sub cNam15 [1, 1, 1, 1])] (mkE 65 [(3, D.v (V.list (List.map V.str l))), (5, di (↑(i + 1) : Int))]) σ0))) = _) ?_
  refine ⟨fun h => ?_, fun h => ⟨wrap_succ (by omega), ⟨hout⟩⟩⟩
  have hk : k < i := by simpa using h
  have hx : l[k]? = some l[k] := List.getElem?_eq_getElem (by omega)
  have hy : l[i]? = some l[i] := List.getElem?_eq_getElem hi
  have hxy : l[k] ≠ l[i] := List.pairwise_iff_getElem.1 hd k i (by omega) hi hk
  exact ⟨l[k], by omega, idx_str hx, l[i], by omega, idx_str hy, beq_eq_false_iff_ne.2 hxy, wrap_succ (by omega), ⟨ih (i - (k + 1)) (by omega) (k + 1) rfl⟩⟩
theorem nam15_loop2 (l : List (List UInt8)) (hl : l.length ≤ 1000000) (hd : l.Nodup) (hw : ∀ s ∈ l, wordB s = true ∧ keyB s = false) (n : Nat) : ∀ i : Nat, l.length - i = n →
    Rn PP fNam15 0 (db true) σ0 ([.lp (sub cNam15 [1, 1, 1, 0, 1, 0, 0]), .blk 2, .code (sub cNam15 [1, 1, 1, 1])] ++ []) (mkE 65 [(3, dl (l.map V.str)), (5, di i)]) σ0 := by
  induction n using Nat.strongRecOn with
  | _ n ih =>
  intro i hn
  refine loop_vc mixed 65 [1] (.b (.e fun s : List UInt8 => .x (.str s) <| .c (db true) <| .x (.str s) <| .c (db false) <| .l [ke 3, ke 5, ch 6 (di (0 : Nat))]) .r) ?_
  refine via (by kernel_rfl : ((decide ((↑i : Int) < (↑(List.length (List.map V.str l)) : Int)) = true → ∃ a, 0 ≤ (↑i : Int) ∧ (List.map V.str l)[Int.toNat (↑i : Int)]? = some (V.str a) ∧ FSpec PP 130 [D.v (V.str a)] (St.mk [] []) (db true) (St.mk [] []) ∧ 0 ≤ (↑i : Int) ∧ (List.map V.str l)[Int.toNat (↑i : Int)]? = some (V.str a) ∧ FSpec PP 131 [D.v (V.str a)] (St.mk [] []) (db false) (St.mk [] []) ∧ di 0 = di (↑0 : Int) ∧ Nv.It (RunC (CN 0) PP (fun env σ1 => ResOK PP fNam15 env σ1 (db true) σ0) [KI.lp (sub cNam15 [1, 1, 1, 0, 1, 0, 0, 1, 0, 0, 1, 1, 0, 0]), KI.blk 4, KI.blk 3, KI.code (sub cNam15 [1, 1, 1, 0, 1, 0, 0, 1, 1]), KI.lp (sub cNam15 [1, 1, 1, 0, 1, 0, 0]), KI.blk 2, KI.code (sub cNam15 [1, 1, 1, 1])] (mkE 65 [(3, D.v (V.list (List.map V.str l))), (5, di (↑i : Int)), (6, di (↑0 : Int))]) σ0)) ∧ (decide ((↑i : Int) < (↑(List.length (List.map V.str l)) : Int)) = false → db true = db true)) = _) ?_
  refine ⟨fun h => ?_, fun h => rfl⟩
  have hk : i < l.length := by simpa using h
  have hx : l[i]? = some l[i] := List.getElem?_eq_getElem hk
  have h3 := nam15_loop3 l hl hd i hk (ih (l.length - (i + 1)) (by omega) (i + 1) rfl) _ 0 rfl
  generalize l[i] = s at hx
  obtain ⟨w1, w2⟩ := hw s (List.mem_of_getElem? hx)
  exact ⟨s, by omega, idx_str hx, word14_spec s w1, by omega, idx_str hx, w2 ▸ kw15_spec s, rfl, ⟨h3⟩⟩
theorem nam15_loop1 (m : Mod) (hm : m.ok) (n : Nat) : ∀ (k : Nat) (xs : List (List UInt8)), m.rules.length - k = n → xs ++ (m.rules.drop k).map Rul.name = namesM m →
    Rn PP fNam15 0 (db true) σ0 ([.lp (sub cNam15 [1, 1, 0, 1, 0, 0]), .blk 0, .code (sub cNam15 [1, 1, 1])] ++ []) (mkE 65 [(1, .v (.ref (vMod m))), (3, accS xs), (4, di k)]) (ownS xs) := by
  have hsz := hm.sz
  have hlen : (namesM m).length ≤ 100 := by
    simp only [namesM, baseM, List.flatten_cons, List.flatten_nil, List.length_append, List.length_map, List.length_nil]; omega
  induction n with
  | zero =>
    intro k xs hn hx
    refine loop_vc mixed 65 [1] (.f <| .h (.q 6 0) <| .h (.un 3) <| .ls [ch 3 (dl (xs.map V.str)), ch 5 (di (0 : Nat))] σ0) ?_
    refine via (by kernel_rfl : (decide ((↑k : Int) < (↑(List.length (List.map vRul m.rules)) : Int)) = false ∧ D.v (V.list (List.map V.str xs)) = dl (List.map V.str xs) ∧ di 0 = di (↑0 : Int) ∧ Nv.It (RunC (CN 0) PP (fun env σ1 => ResOK PP fNam15 env σ1 (db true) σ0) [KI.lp (sub cNam15 [1, 1, 1, 0, 1, 0, 0]), KI.blk 2, KI.code (sub cNam15 [1, 1, 1, 1])] (mkE 65 [(3, dl (List.map V.str xs)), (5, di (↑0 : Int))]) σ0)) = _) ?_
    refine ⟨by rw [List.length_map]; exact decide_eq_false (by omega), rfl, rfl, ⟨?_⟩⟩
    rw [List.drop_of_length_le (by omega)] at hx
    rw [List.map_nil, List.append_nil] at hx
    subst hx
    obtain ⟨h1, h2⟩ := nmB_ok _ _ hm.named
    exact nam15_loop2 _ (by omega) h2 (fun s hs => ⟨(h1 s hs).1, (h1 s hs).2.1⟩) _ 0 rfl
  | succ n ih =>
    intro k xs hn hx
    refine loop_vc mixed 65 [1] (.t <| .e fun r : Rul => .h (.xs (vRul r)) <| .w <| .ls [ke 1, ch 3 (accS (xs ++ [r.name])), ch 4 (di (k + 1 : Nat))] (ownS (xs ++ [r.name]))) ?_
    refine via (by kernel_rfl : (decide ((↑k : Int) < (↑(List.length (List.map vRul m.rules)) : Int)) = true ∧ ∃ a, 14 = 14 ∧ 0 ≤ (↑k : Int) ∧ (List.map vRul m.rules)[Int.toNat (↑k : Int)]? = some (vRul a) ∧ List.map V.str xs = List.map V.str xs ∧ LenOK (List.length (List.map V.str xs) + List.length (V.str a.name :: nV)) 16 ∧ (∀ (y : V), y ∈ [V.str a.name] → V.size y = 1) ∧ D.acc 1 (List.map V.str xs ++ [V.str a.name]) = accS (xs ++ [a.name]) ∧ di (IntKind.wrap IntKind.i64 ((↑k : Int) + 1)) = di (↑(k + 1) : Int) ∧ [(1, 1, List.map V.str xs ++ V.str a.name :: nV)] = [(1, 1, List.map V.str (xs ++ [a.name]))] ∧ Nv.It (RunC (CN 0) PP (fun env σ1 => ResOK PP fNam15 env σ1 (db true) σ0) [KI.lp (sub cNam15 [1, 1, 0, 1, 0, 0]), KI.blk 0, KI.code (sub cNam15 [1, 1, 1])] (mkE 65 [(1, D.v (V.ref (vMod m))), (3, accS (xs ++ [a.name])), (4, di (↑(k + 1) : Int))]) (ownS (xs ++ [a.name])))) = _) ?_
    have hk : k < m.rules.length := by omega
    have hr : m.rules[k]? = some m.rules[k] := List.getElem?_eq_getElem hk
    rw [List.drop_eq_getElem_cons hk] at hx
    generalize m.rules[k] = r at hr hx
    have hxl : xs.length ≤ 100 := by
      have := congrArg List.length hx
      simp only [List.length_append] at this; omega
    refine ⟨by rw [List.length_map]; exact decide_eq_true (by omega), r, rfl, by omega, idx_some hr, rfl, ⟨?_, ?_⟩, by simp [V.size], by simp, wrap_succ (by omega), by simp, ⟨?_⟩⟩
    · simp only [List.length_map, List.length_cons, List.length_nil]; omega
    · simp only [List.length_map, List.length_cons, List.length_nil]; omega
    · exact ih (k + 1) (xs ++ [r.name]) (by omega) (by rw [← hx]; simp)
theorem nam15_spec (m : Mod) (hm : m.ok) : FSpec PP 80 [dMod m] σ0 (db true) σ0 := by
  have hsz := hm.sz
  refine spec_vc mixed fNam15 cNam15 (by kernel_rfl) (by kernel_rfl) (by kernel_rfl) (by kernel_rfl) 65 (by kernel_rfl) [1] (.a 1 <| .w <| .w <| .w <| .ls [ke 1, ch 3 (accS (baseM m)), ch 4 (di (0 : Nat))] (ownS (baseM m))) ?_
  refine via (by kernel_rfl : (LenOK (List.length (List.map V.str m.states)) 16 ∧ (∀ (y : V), y ∈ List.map V.str m.states → V.size y = 1) ∧ List.map V.str m.states = List.map V.str m.states ∧ LenOK (List.length (List.map V.str m.states) + List.length (List.map V.str m.places)) 16 ∧ (∀ (y : V), y ∈ List.map V.str m.places → V.size y = 1) ∧ List.map V.str m.states ++ List.map V.str m.places = List.map V.str m.states ++ List.map V.str m.places ∧ LenOK (List.length (List.map V.str m.states ++ List.map V.str m.places) + List.length (List.map V.str m.letters)) 16 ∧ (∀ (y : V), y ∈ List.map V.str m.letters → V.size y = 1) ∧ D.acc 1 (List.map V.str m.states ++ List.map V.str m.places ++ List.map V.str m.letters) = accS (baseM m) ∧ di 0 = di (↑0 : Int) ∧ [(1, 1, List.map V.str m.states ++ List.map V.str m.places ++ List.map V.str m.letters)] = [(1, 1, List.map V.str (baseM m))] ∧ Nv.It (RunC (CN (List.length σ0.H)) PP (fun env σ1 => ResOK PP fNam15 env σ1 (db true) σ0) [KI.lp (sub cNam15 [1, 1, 0, 1, 0, 0]), KI.blk 0, KI.code (sub cNam15 [1, 1, 1])] (mkE 65 [(1, D.v (V.ref (vMod m))), (3, accS (baseM m)), (4, di (↑0 : Int))]) (ownS (baseM m)))) = _) ?_
  have hb : baseM m = m.states ++ m.places ++ m.letters := by simp [baseM]
  refine ⟨⟨?_, ?_⟩, by simp [V.size], rfl, ⟨?_, ?_⟩, by simp [V.size], rfl, ⟨?_, ?_⟩, by simp [V.size], by simp [hb], rfl, by simp [hb], ⟨?_⟩⟩
  all_goals try (simp only [List.length_map, List.length_append]; omega)
  exact nam15_loop1 m hm _ 0 (baseM m) rfl rfl
/- RULES -/
noncomputable abbrev fLst15 : Func := Tryz.f132
noncomputable def cLst15 : Code := fLst15.body.getD .skip
theorem lst15_loop (l : List Int) (hl : l.length ≤ 1000000) (n a b : Int) (hn : l.length = n) (hx : ∀ x ∈ l, betB x a b = true) (N : Nat) : ∀ k : Nat, l.length - k = N →
    Rn PP fLst15 0 (db true) σ0 ([.lp (sub cLst15 [1, 0, 1, 0, 0]), .blk 0, .code (sub cLst15 [1, 1])] ++ []) (mkE 28 [(0, dIs l), (1, di n), (2, di a), (3, di b), (9, di k)]) σ0 := by
  induction N using Nat.strongRecOn with
  | _ N ih =>
  intro k hk
  refine loop_vc mixed 28 [] (.b (.e fun x : Int => .x (vi x) <| .c (db true) <| .l [ke 0, ke 1, ke 2, ke 3, ch 9 (di (k + 1 : Nat))]) .r) ?_
  refine via (by kernel_rfl : ((decide ((↑k : Int) < (↑(List.length (List.map vi l)) : Int)) = true → ∃ a_2, 0 ≤ (↑k : Int) ∧ (List.map vi l)[Int.toNat (↑k : Int)]? = some (vi a_2) ∧ FSpec PP 77 [di a_2, di a, di b] (St.mk [] []) (db true) (St.mk [] []) ∧ di (IntKind.wrap IntKind.i64 ((↑k : Int) + 1)) = di (↑(k + 1) : Int) ∧ Nv.It (RunC (CN 0) PP (fun env σ1 => ResOK PP fLst15 env σ1 (db true) σ0) [KI.lp (sub cLst15 [1, 0, 1, 0, 0]), KI.blk 0, KI.code (sub cLst15 [1, 1])] (mkE 28 [(0, D.v (vIs l)), (1, di n), (2, di a), (3, di b), (9, di (↑(k + 1) : Int))]) σ0)) ∧ (decide ((↑k : Int) < (↑(List.length (List.map vi l)) : Int)) = false → db ((↑(List.length (List.map vi l)) : Int) == n) = db true)) = _) ?_
  refine ⟨fun h => ?_, fun h => ?_⟩
  · have hk1 : k < l.length := by simpa using h
    have hy : l[k]? = some l[k] := List.getElem?_eq_getElem hk1
    generalize l[k] = x at hy
    exact ⟨x, by omega, idx_some hy, hx x (List.mem_of_getElem? hy) ▸ betw15_spec x a b, wrap_succ (by omega), ⟨ih (l.length - (k + 1)) (by omega) (k + 1) rfl⟩⟩
  · rw [List.length_map, hn, beq_self_eq_true]
theorem lst15_spec (l : List Int) (hl : l.length ≤ 1000000) (n a b : Int) (hn : l.length = n) (hx : ∀ x ∈ l, betB x a b = true) : FSpec PP 132 [dIs l, di n, di a, di b] σ0 (db true) σ0 := by
  refine spec_vc mixed fLst15 cLst15 (by kernel_rfl) (by kernel_rfl) (by kernel_rfl) (by kernel_rfl) 28 (by kernel_rfl) [] (.l [ke 0, ke 1, ke 2, ke 3, ch 9 (di (0 : Nat))]) ?_
  refine via (by kernel_rfl : (di 0 = di (↑0 : Int) ∧ Nv.It (RunC (CN (List.length σ0.H)) PP (fun env σ1 => ResOK PP fLst15 env σ1 (db true) σ0) [KI.lp (sub cLst15 [1, 0, 1, 0, 0]), KI.blk 0, KI.code (sub cLst15 [1, 1])] (mkE 28 [(0, dIs l), (1, di n), (2, di a), (3, di b), (9, di (↑0 : Int))]) σ0)) = _) ?_
  exact ⟨rfl, ⟨lst15_loop l hl n a b hn hx _ 0 rfl⟩⟩
noncomputable abbrev fRt15 : Func := Tryz.f81
noncomputable def cRt15 : Code := fRt15.body.getD .skip
theorem wrap_len {α β : Type} (f : α → β) (l : List α) (h : l.length ≤ 1000000) : IntKind.i64.wrap (((l.map f).length : Int) - 1) = (l.length : Int) - 1 := by
  rw [List.length_map, wrap_id (by omega) (by omega)]
theorem gt0 {α β : Type} (f : α → β) {l : List α} (h : l = []) : decide (((l.map f).length : Int) > 0) = false := by subst h; rfl
theorem rt15_spec (m : Mod) (hm : m.ok) (r : Rul) (hr : r ∈ m.rules) : FSpec PP 81 [dMod m, dRul r] σ0 (db true) σ0 := by
  have h1 : ∀ a b x, betB x a b = true → FSpec PP 77 [di x, di a, di b] σ0 (db true) σ0 := fun a b x h => h ▸ betw15_spec x a b
  have hs := hm.short
  have hsz := hm.sz
  have hrs := hm.rshort r hr
  have hR := hm.right r hr
  have hk := hm.kind
  clear hm hr
  obtain ⟨kind, states, places, letters, ranks, levels, age, rules, start⟩ := m
  have hst := hs.states
  have hpl := hs.places
  have hlt := hs.letters
  clear hs
  dsimp only at *
  rcases hk with hk | hk | hk <;> subst hk
  · simp only [rightM, if_true, rightC, changesB, movesB, sameB, onlyC, Bool.and_eq_true, beq_iff_eq, decide_eq_true_eq, List.all_eq_true] at hR
    obtain ⟨a1, a2, ⟨a3, a4, a5, a6⟩, a7, -, -, -, -, -, -, b1, b2, b3, b4, b5, b6, b7, b8⟩ := hR
    refine spec_vc mixed fRt15 cRt15 (by kernel_rfl) (by kernel_rfl) (by kernel_rfl) (by kernel_rfl) 234 (by kernel_rfl) [2, 3] (.c (db true) <| .c (db true) <| .c (db true) <| .c (db true) <| .k <| .b (.c (db true) <| .k <| .k <| .f <| .f <| .f <| .k <| .f <| .f <| .k <| .f <| .f .r) (.k <| .k <| .f <| .f <| .f <| .k <| .f <| .f <| .k <| .f <| .f .r)) ?_
    refine via (by kernel_rfl : (FSpec PP 77 [di r.frm, di 0, di (IntKind.wrap IntKind.i64 ((↑(List.length (List.map V.str (Mod.mk 1 states places letters ranks levels age rules start).states)) : Int) - 1))] (St.mk [] []) (db true) (St.mk [] []) ∧ FSpec PP 77 [di r.to, di 0, di (IntKind.wrap IntKind.i64 ((↑(List.length (List.map V.str (Mod.mk 1 states places letters ranks levels age rules start).states)) : Int) - 1))] (St.mk [] []) (db true) (St.mk [] []) ∧ FSpec PP 132 [D.v (vIs r.need), di (↑(List.length (List.map V.str (Mod.mk 1 states places letters ranks levels age rules start).places)) : Int), di 0, di 16] (St.mk [] []) (db true) (St.mk [] []) ∧ FSpec PP 132 [D.v (vIs r.give), di (↑(List.length (List.map V.str (Mod.mk 1 states places letters ranks levels age rules start).places)) : Int), di 0, di 16] (St.mk [] []) (db true) (St.mk [] []) ∧ (decide ((↑(List.length (List.map vi r.move)) : Int) > 0) = true → FSpec PP 132 [D.v (vIs r.move), di (↑(List.length (List.map V.str (Mod.mk 1 states places letters ranks levels age rules start).places)) : Int), di (-1), di (IntKind.wrap IntKind.i64 ((↑(List.length (List.map V.str (Mod.mk 1 states places letters ranks levels age rules start).places)) : Int) - 1))] (St.mk [] []) (db true) (St.mk [] []) ∧ (r.chan != 0) = false ∧ (r.act != 0) = false ∧ (r.letter != 0) = false ∧ decide ((↑(List.length (List.map vi r.path)) : Int) > 0) = false ∧ decide ((↑(List.length (List.map vi r.next)) : Int) > 0) = false ∧ decide ((↑(List.length (List.map vTk r.takes)) : Int) > 0) = false ∧ decide ((↑(List.length (List.map vi r.makes)) : Int) > 0) = false ∧ db (r.second == 0) = db true) ∧ (decide ((↑(List.length (List.map vi r.move)) : Int) > 0) = false → (r.chan != 0) = false ∧ (r.act != 0) = false ∧ (r.letter != 0) = false ∧ decide ((↑(List.length (List.map vi r.path)) : Int) > 0) = false ∧ decide ((↑(List.length (List.map vi r.next)) : Int) > 0) = false ∧ decide ((↑(List.length (List.map vTk r.takes)) : Int) > 0) = false ∧ decide ((↑(List.length (List.map vi r.makes)) : Int) > 0) = false ∧ db (r.second == 0) = db true)) = _) ?_
    rw [wrap_len _ _ hst, wrap_len _ _ hpl]
    have hmv : (r.move.map vi).length > 0 → FSpec PP 132 [dIs r.move, di ((places.map V.str).length : Int), di (-1), di ((places.length : Int) - 1)] σ0 (db true) σ0 := fun h => by
      rw [List.length_map] at h
      simp only [Bool.or_eq_true, beq_iff_eq, Bool.and_eq_true, List.all_eq_true] at a7
      rcases a7 with a7 | ⟨a7, a8⟩
      · omega
      · rw [List.length_map]; exact lst15_spec _ hrs.move _ _ _ a7 a8
    refine ⟨h1 _ _ _ a2, h1 _ _ _ a1, ?_, ?_, fun h => ⟨hmv (by simpa using h), ?_⟩, fun h => ?_⟩
    · rw [List.length_map]; exact lst15_spec _ hrs.need _ _ _ a3 a5
    · rw [List.length_map]; exact lst15_spec _ hrs.give _ _ _ a4 a6
    · refine ⟨by rw [b1]; rfl, by rw [b2]; rfl, by rw [b3]; rfl, gt0 _ (of_decide_eq_true b4), gt0 _ (of_decide_eq_true b5), gt0 _ b6, gt0 _ (of_decide_eq_true b7), by rw [b8]; rfl⟩
    · refine ⟨by rw [b1]; rfl, by rw [b2]; rfl, by rw [b3]; rfl, gt0 _ (of_decide_eq_true b4), gt0 _ (of_decide_eq_true b5), gt0 _ b6, gt0 _ (of_decide_eq_true b7), by rw [b8]; rfl⟩
  · rw [rightM, if_neg (fun h => absurd h (by show ¬ (_ : Int) = 1; simp only; decide))] at hR
    simp only [rightL, sameB, onlyL, Bool.and_eq_true, beq_iff_eq, decide_eq_true_eq] at hR
    simp only [actsB] at hR
    obtain ⟨a1, a2, a3, -, -, -, c1, c2, c3, -, -, -, b4, b5, b6, b7, b8⟩ := hR
    have hl := hsz.2.2.2.2.2.2.2 (by decide)
    have hA : betB r.act 0 2 = true ∧ betB r.chan 0 ((places.length : Int) - 1) = true ∧ betB r.letter 0 ((letters.length : Int) - 1) = true ∧ (r.act = 0 → r.chan = 0 ∧ r.letter = 0) := by
      split at a3
      · rename_i h0
        have h0 : r.act = 0 := by simpa using h0
        simp only [Bool.and_eq_true, beq_iff_eq] at a3
        rw [h0, a3.1, a3.2]
        refine ⟨by decide, ?_, ?_, fun _ => ⟨rfl, rfl⟩⟩ <;> simp only [betB, Bool.and_eq_true, decide_eq_true_eq] <;> omega
      · rename_i h0
        have h0 : r.act ≠ 0 := by simpa using h0
        simp only [Bool.and_eq_true] at a3
        have := betB_ok a3.1
        refine ⟨?_, a3.2.1, a3.2.2, fun h => absurd h h0⟩
        simp only [betB, Bool.and_eq_true, decide_eq_true_eq]; omega
    obtain ⟨d1, d2, d3, d4⟩ := hA
    refine spec_vc mixed fRt15 cRt15 (by kernel_rfl) (by kernel_rfl) (by kernel_rfl) (by kernel_rfl) 234 (by kernel_rfl) [2, 3] (.c (db true) <| .c (db true) <| .k <| .k <| .k <| .k <| .f <| .f <| .f <| .k <| .c (db true) <| .c (db true) <| .c (db true) <| .k <| .b (.f <| .f <| .k <| .f <| .f <| .k <| .f <| .f .r) (.k <| .k <| .f <| .f <| .k <| .f <| .f .r)) ?_
    refine via (by kernel_rfl : (FSpec PP 77 [di r.frm, di 0, di (IntKind.wrap IntKind.i64 ((↑(List.length (List.map V.str (Mod.mk 2 states places letters ranks levels age rules start).states)) : Int) - 1))] (St.mk [] []) (db true) (St.mk [] []) ∧ FSpec PP 77 [di r.to, di 0, di (IntKind.wrap IntKind.i64 ((↑(List.length (List.map V.str (Mod.mk 2 states places letters ranks levels age rules start).states)) : Int) - 1))] (St.mk [] []) (db true) (St.mk [] []) ∧ decide ((↑(List.length (List.map vi r.need)) : Int) > 0) = false ∧ decide ((↑(List.length (List.map vi r.give)) : Int) > 0) = false ∧ decide ((↑(List.length (List.map vi r.move)) : Int) > 0) = false ∧ FSpec PP 77 [di r.act, di 0, di 2] (St.mk [] []) (db true) (St.mk [] []) ∧ FSpec PP 77 [di r.chan, di 0, di (IntKind.wrap IntKind.i64 ((↑(List.length (List.map V.str (Mod.mk 2 states places letters ranks levels age rules start).places)) : Int) - 1))] (St.mk [] []) (db true) (St.mk [] []) ∧ FSpec PP 77 [di r.letter, di 0, di (IntKind.wrap IntKind.i64 ((↑(List.length (List.map V.str (Mod.mk 2 states places letters ranks levels age rules start).letters)) : Int) - 1))] (St.mk [] []) (db true) (St.mk [] []) ∧ ((r.act == 0) = true → (r.chan != 0) = false ∧ (r.letter != 0) = false ∧ decide ((↑(List.length (List.map vi r.path)) : Int) > 0) = false ∧ decide ((↑(List.length (List.map vi r.next)) : Int) > 0) = false ∧ decide ((↑(List.length (List.map vTk r.takes)) : Int) > 0) = false ∧ decide ((↑(List.length (List.map vi r.makes)) : Int) > 0) = false ∧ db (r.second == 0) = db true) ∧ ((r.act == 0) = false → decide ((↑(List.length (List.map vi r.path)) : Int) > 0) = false ∧ decide ((↑(List.length (List.map vi r.next)) : Int) > 0) = false ∧ decide ((↑(List.length (List.map vTk r.takes)) : Int) > 0) = false ∧ decide ((↑(List.length (List.map vi r.makes)) : Int) > 0) = false ∧ db (r.second == 0) = db true)) = _) ?_
    rw [wrap_len _ _ hst, wrap_len _ _ hpl, wrap_len _ _ hlt]
    refine ⟨h1 _ _ _ a2, h1 _ _ _ a1, gt0 _ (of_decide_eq_true c1), gt0 _ (of_decide_eq_true c2), gt0 _ (of_decide_eq_true c3), h1 _ _ _ d1, h1 _ _ _ d2, h1 _ _ _ d3, fun h => ?_, fun h => ?_⟩
    · have := d4 (by simpa using h)
      exact ⟨by rw [this.1]; rfl, by rw [this.2]; rfl, gt0 _ (of_decide_eq_true b4), gt0 _ (of_decide_eq_true b5), gt0 _ b6, gt0 _ (of_decide_eq_true b7), by rw [b8]; rfl⟩
    · exact ⟨gt0 _ (of_decide_eq_true b4), gt0 _ (of_decide_eq_true b5), gt0 _ b6, gt0 _ (of_decide_eq_true b7), by rw [b8]; rfl⟩
  · rw [rightM, if_neg (fun h => absurd h (by show ¬ (_ : Int) = 1; simp only; decide))] at hR
    simp only [rightL, sameB, onlyL, Bool.and_eq_true, beq_iff_eq, decide_eq_true_eq] at hR
    simp only [actsB] at hR
    obtain ⟨a1, a2, a3, -, -, -, c1, c2, c3, -, -, -, b4, b5, b6, b7, b8⟩ := hR
    have hl := hsz.2.2.2.2.2.2.2 (by decide)
    have hA : betB r.act 0 2 = true ∧ betB r.chan 0 ((places.length : Int) - 1) = true ∧ betB r.letter 0 ((letters.length : Int) - 1) = true ∧ (r.act = 0 → r.chan = 0 ∧ r.letter = 0) := by
      split at a3
      · rename_i h0
        have h0 : r.act = 0 := by simpa using h0
        simp only [Bool.and_eq_true, beq_iff_eq] at a3
        rw [h0, a3.1, a3.2]
        refine ⟨by decide, ?_, ?_, fun _ => ⟨rfl, rfl⟩⟩ <;> simp only [betB, Bool.and_eq_true, decide_eq_true_eq] <;> omega
      · rename_i h0
        have h0 : r.act ≠ 0 := by simpa using h0
        simp only [Bool.and_eq_true] at a3
        have := betB_ok a3.1
        refine ⟨?_, a3.2.1, a3.2.2, fun h => absurd h h0⟩
        simp only [betB, Bool.and_eq_true, decide_eq_true_eq]; omega
    obtain ⟨d1, d2, d3, d4⟩ := hA
    refine spec_vc mixed fRt15 cRt15 (by kernel_rfl) (by kernel_rfl) (by kernel_rfl) (by kernel_rfl) 234 (by kernel_rfl) [2, 3] (.c (db true) <| .c (db true) <| .k <| .k <| .k <| .k <| .f <| .f <| .f <| .k <| .c (db true) <| .c (db true) <| .c (db true) <| .k <| .b (.f <| .f <| .k <| .f <| .f <| .k <| .f <| .f .r) (.k <| .k <| .f <| .f <| .k <| .f <| .f .r)) ?_
    refine via (by kernel_rfl : (FSpec PP 77 [di r.frm, di 0, di (IntKind.wrap IntKind.i64 ((↑(List.length (List.map V.str (Mod.mk 3 states places letters ranks levels age rules start).states)) : Int) - 1))] (St.mk [] []) (db true) (St.mk [] []) ∧ FSpec PP 77 [di r.to, di 0, di (IntKind.wrap IntKind.i64 ((↑(List.length (List.map V.str (Mod.mk 3 states places letters ranks levels age rules start).states)) : Int) - 1))] (St.mk [] []) (db true) (St.mk [] []) ∧ decide ((↑(List.length (List.map vi r.need)) : Int) > 0) = false ∧ decide ((↑(List.length (List.map vi r.give)) : Int) > 0) = false ∧ decide ((↑(List.length (List.map vi r.move)) : Int) > 0) = false ∧ FSpec PP 77 [di r.act, di 0, di 2] (St.mk [] []) (db true) (St.mk [] []) ∧ FSpec PP 77 [di r.chan, di 0, di (IntKind.wrap IntKind.i64 ((↑(List.length (List.map V.str (Mod.mk 3 states places letters ranks levels age rules start).places)) : Int) - 1))] (St.mk [] []) (db true) (St.mk [] []) ∧ FSpec PP 77 [di r.letter, di 0, di (IntKind.wrap IntKind.i64 ((↑(List.length (List.map V.str (Mod.mk 3 states places letters ranks levels age rules start).letters)) : Int) - 1))] (St.mk [] []) (db true) (St.mk [] []) ∧ ((r.act == 0) = true → (r.chan != 0) = false ∧ (r.letter != 0) = false ∧ decide ((↑(List.length (List.map vi r.path)) : Int) > 0) = false ∧ decide ((↑(List.length (List.map vi r.next)) : Int) > 0) = false ∧ decide ((↑(List.length (List.map vTk r.takes)) : Int) > 0) = false ∧ decide ((↑(List.length (List.map vi r.makes)) : Int) > 0) = false ∧ db (r.second == 0) = db true) ∧ ((r.act == 0) = false → decide ((↑(List.length (List.map vi r.path)) : Int) > 0) = false ∧ decide ((↑(List.length (List.map vi r.next)) : Int) > 0) = false ∧ decide ((↑(List.length (List.map vTk r.takes)) : Int) > 0) = false ∧ decide ((↑(List.length (List.map vi r.makes)) : Int) > 0) = false ∧ db (r.second == 0) = db true)) = _) ?_
    rw [wrap_len _ _ hst, wrap_len _ _ hpl, wrap_len _ _ hlt]
    refine ⟨h1 _ _ _ a2, h1 _ _ _ a1, gt0 _ (of_decide_eq_true c1), gt0 _ (of_decide_eq_true c2), gt0 _ (of_decide_eq_true c3), h1 _ _ _ d1, h1 _ _ _ d2, h1 _ _ _ d3, fun h => ?_, fun h => ?_⟩
    · have := d4 (by simpa using h)
      exact ⟨by rw [this.1]; rfl, by rw [this.2]; rfl, gt0 _ (of_decide_eq_true b4), gt0 _ (of_decide_eq_true b5), gt0 _ b6, gt0 _ (of_decide_eq_true b7), by rw [b8]; rfl⟩
    · exact ⟨gt0 _ (of_decide_eq_true b4), gt0 _ (of_decide_eq_true b5), gt0 _ b6, gt0 _ (of_decide_eq_true b7), by rw [b8]; rfl⟩
end Go.Proofs.YtdfdemnbaiieaaaGreat

namespace Go.Proofs.YtdfdemnbaiieaaaGreat
open Go.Dv Go.Nv
set_option maxRecDepth 20000
noncomputable abbrev fCpy01 : Func := Tryz.f85
noncomputable def cCpy01 : Code := fCpy01.body.getD .skip
theorem cpy01_spec (l : List Int) (hl : l.length ≤ 1000000) : FSpec PP 85 [dIs l] σ0 (dIs l) σ0 := by
  refine spec_vc mixed fCpy01 cCpy01 (by kernel_rfl) (by kernel_rfl) (by kernel_rfl) (by kernel_rfl) 5 (by kernel_rfl) [] (.a 1 <| .w .r) ?_
  refine via (by kernel_rfl : (LenOK (List.length (List.map vi l)) 8 ∧ (∀ (y : V), y ∈ List.map vi l → V.size y = 1) ∧ D.v (V.list (List.map vi l)) = dIs l) = _) ?_
  exact ⟨⟨by simp; omega, by simp; omega⟩, sizes_vi l, rfl⟩
noncomputable abbrev fOrd01 : Func := Tryz.f26
noncomputable def cOrd01 : Code := fOrd01.body.getD .skip
theorem ord01_spec (a b : Int) : FSpec PP 26 [di a, di b] σ0 (di (cmpI a b)) σ0 := by
  refine spec_vc mixed fOrd01 cOrd01 (by kernel_rfl) (by kernel_rfl) (by kernel_rfl) (by kernel_rfl) 11 (by kernel_rfl) [] (.b .r <| .b .r .r) ?_
  refine via (by kernel_rfl : ((decide (a < b) = true → di (-1) = di (cmpI a b)) ∧ (decide (a < b) = false → (decide (a > b) = true → di 1 = di (cmpI a b)) ∧ (decide (a > b) = false → di 0 = di (cmpI a b)))) = _) ?_
  refine ⟨fun h => ?_, fun h => ⟨fun h1 => ?_, fun h1 => ?_⟩⟩ <;> simp_all [cmpI] <;> omega
noncomputable abbrev fSiz06 : Func := Tryz.f83
noncomputable def cSiz06 : Code := fSiz06.body.getD .skip
theorem siz06_spec (N : Nat) : ∀ v : Val, v.size ≤ N → v.size ≤ 1000000 → ∀ m : Int, 0 ≤ m → m ≤ 1000 → FSpec PP 83 [dV v, di m] σ0 (di (min (v.size : Int) (m + 1))) σ0 := by
  induction N with
  | zero => intro v hv; have := v.size_pos; omega
  | succ N ihN =>
    intro v hv hv1 m hm0 hm1
    have hsz := v.size_eq
    have hlen := Val.length_le v.kids
    have loop (n : Nat) : ∀ (k : Nat) (a : Int), v.kids.length - k = n → 1 ≤ a → a ≤ m + 1 →
        Rn PP fSiz06 0 (di (min (a + (Val.sizes (v.kids.drop k) : Int)) (m + 1))) σ0 ([.lp (sub cSiz06 [1, 1, 0, 1, 0, 0]), .blk 0, .code (sub cSiz06 [1, 1, 1])] ++ []) (mkE 31 [(1, di m), (2, .v (.ref (vVal v))), (5, di a), (6, di k)]) σ0 := by
      induction n using Nat.strongRecOn with
      | _ n ih =>
      intro k a hn ha0 ha1
      refine loop_vc mixed 31 [2] (.b (.b (.e fun x : Val => .x (vVal x) <| .c (di (min (x.size : Int) (m - a + 1))) <| .l [ke 1, ke 2, ch 5 (di (min (a + (x.size : Int)) (m + 1))), ch 6 (di (k + 1 : Nat))]) .r) .r) ?_
      refine via (by kernel_rfl : ((decide ((↑k : Int) < (↑(List.length (List.map eV (Val.kids v))) : Int)) = true → (decide (a ≤ m) = true → ∃ a_3, 0 ≤ (↑k : Int) ∧ (List.map eV (Val.kids v))[Int.toNat (↑k : Int)]? = some (vVal a_3) ∧ FSpec PP 83 [D.v (vVal a_3), di (IntKind.wrap IntKind.i64 (m - a))] (St.mk [] []) (di (min (↑(Val.size a_3) : Int) (m - a + 1))) (St.mk [] []) ∧ di (IntKind.wrap IntKind.i64 (a + min (↑(Val.size a_3) : Int) (m - a + 1))) = di (min (a + (↑(Val.size a_3) : Int)) (m + 1)) ∧ di (IntKind.wrap IntKind.i64 ((↑k : Int) + 1)) = di (↑(k + 1) : Int) ∧ Nv.It (RunC (CN 0) PP (fun env σ1 => ResOK PP fSiz06 env σ1 (di (min (a + (↑(Val.sizes (List.drop k (Val.kids v))) : Int)) (m + 1))) σ0) [KI.lp (sub cSiz06 [1, 1, 0, 1, 0, 0]), KI.blk 0, KI.code (sub cSiz06 [1, 1, 1])] (mkE 31 [(1, di m), (2, D.v (V.ref (vVal v))), (5, di (min (a + (↑(Val.size a_3) : Int)) (m + 1))), (6, di (↑(k + 1) : Int))]) σ0)) ∧ (decide (a ≤ m) = false → di a = di (min (a + (↑(Val.sizes (List.drop k (Val.kids v))) : Int)) (m + 1)))) ∧ (decide ((↑k : Int) < (↑(List.length (List.map eV (Val.kids v))) : Int)) = false → di a = di (min (a + (↑(Val.sizes (List.drop k (Val.kids v))) : Int)) (m + 1)))) = _) ?_
      refine ⟨fun h => ⟨fun h1 => ?_, fun h1 => ?_⟩, fun h => ?_⟩
      · have hk : k < v.kids.length := by simpa using h
        have hx : v.kids[k]? = some v.kids[k] := List.getElem?_eq_getElem hk
        rw [List.drop_eq_getElem_cons hk]
        generalize v.kids[k] = x at hx ⊢
        have hxs := Val.size_mem (List.mem_of_getElem? hx)
        have hx1 := x.size_pos
        simp only [Val.sizes]
        have h1 := of_decide_eq_true h1
        refine ⟨x, by omega, idx_val hx, ?_, ?_, wrap_succ (by omega), ⟨?_⟩⟩
        · rw [wrap_id (by omega) (by omega)]
          exact ihN x (by omega) (by omega) (m - a) (by omega) (by omega)
        · rw [wrap_id (by rw [Int.min_def]; split <;> omega) (by rw [Int.min_def]; split <;> omega)]
          simp only [Int.min_def]; congr 1; split <;> split <;> omega
        · have := ih (v.kids.length - (k + 1)) (by omega) (k + 1) (min (a + (x.size : Int)) (m + 1)) rfl (by rw [Int.min_def]; split <;> omega) (by rw [Int.min_def]; split <;> omega)
          rw [show min (min (a + (x.size : Int)) (m + 1) + (Val.sizes (v.kids.drop (k + 1)) : Int)) (m + 1) = min (a + ((x.size + Val.sizes (v.kids.drop (k + 1)) : Nat) : Int)) (m + 1) by simp only [Int.min_def]; (repeat' split) <;> omega] at this
          exact this
      · have h1 := of_decide_eq_false h1
        rw [Int.min_def]; split <;> congr 1 <;> omega
      · have hk : v.kids.length ≤ k := by simpa using h
        rw [List.drop_of_length_le hk]
        simp only [Val.sizes]; rw [Int.min_def]; split <;> congr 1 <;> omega
    refine spec_vc mixed fSiz06 cSiz06 (by kernel_rfl) (by kernel_rfl) (by kernel_rfl) (by kernel_rfl) 31 (by kernel_rfl) [2] (.l [ke 1, ke 2, ch 5 (di 1), ch 6 (di (0 : Nat))]) ?_
    refine via (by kernel_rfl : (di 1 = di 1 ∧ di 0 = di (↑0 : Int) ∧ Nv.It (RunC (CN (List.length σ0.H)) PP (fun env σ1 => ResOK PP fSiz06 env σ1 (di (min (↑(Val.size v) : Int) (m + 1))) σ0) [KI.lp (sub cSiz06 [1, 1, 0, 1, 0, 0]), KI.blk 0, KI.code (sub cSiz06 [1, 1, 1])] (mkE 31 [(1, di m), (2, D.v (V.ref (vVal v))), (5, di 1), (6, di (↑0 : Int))]) σ0)) = _) ?_
    refine ⟨rfl, rfl, ⟨?_⟩⟩
    have := loop _ 0 1 rfl (by omega) (by omega)
    rw [List.drop_zero, show (1 : Int) + (Val.sizes v.kids : Int) = v.size by omega] at this
    exact this
theorem cmpI_eq {a b : Int} : cmpI a b = 0 ↔ a = b := by unfold cmpI; (repeat' split) <;> omega
theorem cmpV_one (a b : Val) : cmpV a b = if cmpI a.n b.n = 0 then (if cmpI a.kids.length b.kids.length = 0 then cmpL cmpV a.kids b.kids else cmpI a.kids.length b.kids.length) else cmpI a.n b.n := by
  cases a; cases b; simp only [cmpV, cmpVl_eq]; rfl
noncomputable abbrev fCmp06 : Func := Tryz.f11
noncomputable def cCmp06 : Code := fCmp06.body.getD .skip
theorem cmp06_spec (N : Nat) : ∀ a b : Val, a.size ≤ N → a.size ≤ 1000000 → FSpec PP 11 [dV a, dV b] σ0 (di (cmpV a b)) σ0 := by
  induction N with
  | zero => intro v _ hv; have := v.size_pos; omega
  | succ N ihN =>
    intro a b ha ha1
    have hsz := a.size_eq
    have hlen := Val.length_le a.kids
    have loop (hab : a.kids.length = b.kids.length) (n : Nat) : ∀ k : Nat, a.kids.length - k = n →
        Rn PP fCmp06 0 (di (cmpL cmpV (a.kids.drop k) (b.kids.drop k))) σ0 ([.lp (sub cCmp06 [1, 1, 1, 0, 1, 0, 0]), .blk 0, .code (sub cCmp06 [1, 1, 1, 1])] ++ []) (mkE 52 [(2, .v (.ref (vVal a))), (3, .v (.ref (vVal b))), (5, di k)]) σ0 := by
      induction n using Nat.strongRecOn with
      | _ n ih =>
      intro k hn
      refine loop_vc mixed 52 [2, 3] (.b (.e fun x : Val => .x (vVal x) <| .e fun y : Val => .x (vVal y) <| .c (di (cmpV x y)) <| .b .r (.l [ke 2, ke 3, ch 5 (di (k + 1 : Nat))])) .r) ?_
      refine via (by kernel_rfl : ((decide ((↑k : Int) < (↑(List.length (List.map eV (Val.kids a))) : Int)) = true → ∃ a_2, 0 ≤ (↑k : Int) ∧ (List.map eV (Val.kids a))[Int.toNat (↑k : Int)]? = some (vVal a_2) ∧ ∃ a_3, 0 ≤ (↑k : Int) ∧ (List.map eV (Val.kids b))[Int.toNat (↑k : Int)]? = some (vVal a_3) ∧ FSpec PP 11 [D.v (vVal a_2), D.v (vVal a_3)] (St.mk [] []) (di (cmpV a_2 a_3)) (St.mk [] []) ∧ ((cmpV a_2 a_3 != 0) = true → di (cmpV a_2 a_3) = di (cmpL cmpV (List.drop k (Val.kids a)) (List.drop k (Val.kids b)))) ∧ ((cmpV a_2 a_3 != 0) = false → di (IntKind.wrap IntKind.i64 ((↑k : Int) + 1)) = di (↑(k + 1) : Int) ∧ Nv.It (RunC (CN 0) PP (fun env σ1 => ResOK PP fCmp06 env σ1 (di (cmpL cmpV (List.drop k (Val.kids a)) (List.drop k (Val.kids b)))) σ0) [KI.lp (sub cCmp06 [1, 1, 1, 0, 1, 0, 0]), KI.blk 0, KI.code (sub cCmp06 [1, 1, 1, 1])] (mkE 52 [(2, D.v (V.ref (vVal a))), (3, D.v (V.ref (vVal b))), (5, di (↑(k + 1) : Int))]) (St.mk [] [])))) ∧ (decide ((↑k : Int) < (↑(List.length (List.map eV (Val.kids a))) : Int)) = false → di 0 = di (cmpL cmpV (List.drop k (Val.kids a)) (List.drop k (Val.kids b))))) = _) ?_
      refine ⟨fun h => ?_, fun h => ?_⟩
      · have hk : k < a.kids.length := by simpa using h
        have hk2 : k < b.kids.length := by omega
        have hx : a.kids[k]? = some a.kids[k] := List.getElem?_eq_getElem hk
        have hy : b.kids[k]? = some b.kids[k] := List.getElem?_eq_getElem hk2
        rw [List.drop_eq_getElem_cons hk, List.drop_eq_getElem_cons hk2]
        generalize a.kids[k] = x at hx ⊢
        generalize b.kids[k] = y at hy ⊢
        have hxs := Val.size_mem (List.mem_of_getElem? hx)
        refine ⟨x, by omega, idx_val hx, y, by omega, idx_val hy, ihN x y (by omega) (by omega), fun h1 => ?_, fun h1 => ⟨wrap_succ (by omega), ⟨?_⟩⟩⟩
        · have h1 : cmpV x y ≠ 0 := by simpa using h1
          simp only [cmpL, if_neg h1]
        · have h1 : cmpV x y = 0 := by simpa using h1
          simp only [cmpL, if_pos h1]
          exact ih (a.kids.length - (k + 1)) (by omega) (k + 1) rfl
      · have hk : a.kids.length ≤ k := by simpa using h
        rw [List.drop_of_length_le hk, List.drop_of_length_le (by omega)]; rfl
    refine spec_vc mixed fCmp06 cCmp06 (by kernel_rfl) (by kernel_rfl) (by kernel_rfl) (by kernel_rfl) 52 (by kernel_rfl) [2, 3] (.b (.c (di (cmpI a.n b.n)) .r) (.b (.c (di (cmpI a.kids.length b.kids.length)) .r) (.l [ke 2, ke 3, ch 5 (di (0 : Nat))]))) ?_
    refine via (by kernel_rfl : (((Val.n a != Val.n b) = true → FSpec PP 26 [di (Val.n a), di (Val.n b)] (St.mk [] []) (di (cmpI (Val.n a) (Val.n b))) (St.mk [] []) ∧ di (cmpI (Val.n a) (Val.n b)) = di (cmpV a b)) ∧ ((Val.n a != Val.n b) = false → (((↑(List.length (List.map eV (Val.kids a))) : Int) != (↑(List.length (List.map eV (Val.kids b))) : Int)) = true → FSpec PP 26 [di (↑(List.length (List.map eV (Val.kids a))) : Int), di (↑(List.length (List.map eV (Val.kids b))) : Int)] (St.mk [] []) (di (cmpI (↑(List.length (Val.kids a)) : Int) (↑(List.length (Val.kids b)) : Int))) (St.mk [] []) ∧ di (cmpI (↑(List.length (Val.kids a)) : Int) (↑(List.length (Val.kids b)) : Int)) = di (cmpV a b)) ∧ (((↑(List.length (List.map eV (Val.kids a))) : Int) != (↑(List.length (List.map eV (Val.kids b))) : Int)) = false → di 0 = di (↑0 : Int) ∧ Nv.It (RunC (CN (List.length σ0.H)) PP (fun env σ1 => ResOK PP fCmp06 env σ1 (di (cmpV a b)) σ0) [KI.lp (sub cCmp06 [1, 1, 1, 0, 1, 0, 0]), KI.blk 0, KI.code (sub cCmp06 [1, 1, 1, 1])] (mkE 52 [(2, D.v (V.ref (vVal a))), (3, D.v (V.ref (vVal b))), (5, di (↑0 : Int))]) σ0)))) = _) ?_
    rw [cmpV_one]
    refine ⟨fun h => ⟨ord01_spec _ _, ?_⟩, fun h => ⟨fun h1 => ⟨?_, ?_⟩, fun h1 => ⟨rfl, ⟨?_⟩⟩⟩⟩
    · rw [if_neg (fun e => (bne_iff_ne.1 h) (cmpI_eq.1 e))]
    · rw [List.length_map, List.length_map]; exact ord01_spec _ _
    · have h : a.n = b.n := by simpa using h
      have h1 : (a.kids.length : Int) ≠ b.kids.length := by simpa using h1
      rw [if_pos (cmpI_eq.2 h), if_neg (fun e => h1 (cmpI_eq.1 e))]
    · have h : a.n = b.n := by simpa using h
      have h1 : (a.kids.length : Int) = b.kids.length := by simpa using h1
      rw [if_pos (cmpI_eq.2 h), if_pos (cmpI_eq.2 h1)]
      exact loop (Int.ofNat_inj.1 h1) _ 0 rfl
noncomputable abbrev fSam06 : Func := Tryz.f25
noncomputable def cSam06 : Code := fSam06.body.getD .skip
theorem sam06_spec (a b : Val) (ha : a.size ≤ 1000000) : FSpec PP 25 [dV a, dV b] σ0 (db (cmpV a b == 0)) σ0 := by
  refine spec_vc mixed fSam06 cSam06 (by kernel_rfl) (by kernel_rfl) (by kernel_rfl) (by kernel_rfl) 9 (by kernel_rfl) [2, 3] (.c (di (cmpV a b)) .r) ?_
  refine via (by kernel_rfl : (FSpec PP 11 [D.v (vVal a), D.v (vVal b)] (St.mk [] []) (di (cmpV a b)) (St.mk [] []) ∧ db (cmpV a b == 0) = db (cmpV a b == 0)) = _) ?_
  exact ⟨cmp06_spec _ a b (Nat.le_refl _) ha, rfl⟩
noncomputable abbrev fRks05 : Func := Tryz.f187
noncomputable def cRks05 : Code := fRks05.body.getD .skip
theorem rks05_loop (r : List Int) (hr : rankB r = true) (n : Nat) : ∀ k : Nat, r.length - k = n →
    Rn PP fRks05 0 (db true) σ0 ([.lp (sub cRks05 [1, 0, 1, 0, 0]), .blk 0, .code (sub cRks05 [1, 1])] ++ []) (mkE 30 [(0, dIs r), (3, di k)]) σ0 := by
  induction n using Nat.strongRecOn with
  | _ n ih =>
  intro k hn
  refine loop_vc mixed 30 [] (.b (.e fun x : Int => .x (vi x) <| .f <| .x (vi x) <| .f <| .l [ke 0, ch 3 (di (k + 1 : Nat))]) (.t .r)) ?_
  refine via (by kernel_rfl : ((decide ((↑k : Int) < (↑(List.length (List.map vi r)) : Int)) = true → ∃ a, 0 ≤ (↑k : Int) ∧ (List.map vi r)[Int.toNat (↑k : Int)]? = some (vi a) ∧ decide (a < 0) = false ∧ 0 ≤ (↑k : Int) ∧ (List.map vi r)[Int.toNat (↑k : Int)]? = some (vi a) ∧ decide (a ≥ 6) = false ∧ di (IntKind.wrap IntKind.i64 ((↑k : Int) + 1)) = di (↑(k + 1) : Int) ∧ Nv.It (RunC (CN 0) PP (fun env σ1 => ResOK PP fRks05 env σ1 (db true) σ0) [KI.lp (sub cRks05 [1, 0, 1, 0, 0]), KI.blk 0, KI.code (sub cRks05 [1, 1])] (mkE 30 [(0, D.v (vIs r)), (3, di (↑(k + 1) : Int))]) σ0)) ∧ (decide ((↑k : Int) < (↑(List.length (List.map vi r)) : Int)) = false → decide ((↑(List.length (List.map vi r)) : Int) ≥ 1) = true ∧ db (decide ((↑(List.length (List.map vi r)) : Int) ≤ 6)) = db true)) = _) ?_
  simp only [rankB, Bool.and_eq_true, Bool.not_eq_true', List.any_eq_false] at hr
  obtain ⟨h1, h2, h3⟩ := hr
  have hlen := of_decide_eq_true h2
  refine ⟨fun h => ?_, fun h => ⟨by rw [List.length_map]; exact h1, by rw [List.length_map]; exact congrArg db h2⟩⟩
  have hk : k < r.length := by simpa using h
  have hx : r[k]? = some r[k] := List.getElem?_eq_getElem hk
  generalize r[k] = x at hx
  have h4 := h3 x (List.mem_of_getElem? hx)
  simp only [rk1B, Bool.not_eq_true, Bool.or_eq_false_iff] at h4
  exact ⟨x, by omega, idx_some hx, h4.1, by omega, idx_some hx, h4.2, wrap_succ (by omega), ⟨ih (r.length - (k + 1)) (by omega) (k + 1) rfl⟩⟩
theorem rks05_spec (r : List Int) (hr : rankB r = true) : FSpec PP 187 [dIs r] σ0 (db true) σ0 := by
  refine spec_vc mixed fRks05 cRks05 (by kernel_rfl) (by kernel_rfl) (by kernel_rfl) (by kernel_rfl) 30 (by kernel_rfl) [] (.l [ke 0, ch 3 (di (0 : Nat))]) ?_
  refine via (by kernel_rfl : (di 0 = di (↑0 : Int) ∧ Nv.It (RunC (CN (List.length σ0.H)) PP (fun env σ1 => ResOK PP fRks05 env σ1 (db true) σ0) [KI.lp (sub cRks05 [1, 0, 1, 0, 0]), KI.blk 0, KI.code (sub cRks05 [1, 1])] (mkE 30 [(0, dIs r), (3, di (↑0 : Int))]) σ0)) = _) ?_
  exact ⟨rfl, ⟨rks05_loop r hr _ 0 rfl⟩⟩
end Go.Proofs.YtdfdemnbaiieaaaGreat
