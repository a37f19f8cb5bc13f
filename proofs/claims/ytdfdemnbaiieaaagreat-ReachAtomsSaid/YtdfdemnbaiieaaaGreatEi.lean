/-
  Invariants: potentials: walked.
-/
import Derived.Test.YtdfdemnbaiieaaaGreatEh
namespace Go.Proofs.YtdfdemnbaiieaaaGreat
open Go.Dv Go.Nv
set_option maxRecDepth 20000
noncomputable abbrev fIPot : Func := Tryz.f75
noncomputable def cIPot : Code := fIPot.body.getD .skip
def potL (cs : List Int) (md : Int) (rs : List Rul) : Nat → List Int → Option (List Int)
  | 0, vals => if (rndM cs md rs vals false).2.1 = true ∨ (rndM cs md rs vals false).2.2 = false then none else some (rndM cs md rs vals false).1
  | n + 1, vals => if (rndM cs md rs vals false).2.2 = false then none else if (rndM cs md rs vals false).2.1 = false then some (rndM cs md rs vals false).1 else potL cs md rs n (rndM cs md rs vals false).1
def fstM (m : Mod) (cs : List Int) (md : Int) : Int := if decide (md > 0) = true then sumM cs (nmV m.start) % md else sumM cs (nmV m.start)
def potM (m : Mod) (cs : List Int) (md : Int) : Option (List Int) := potL cs md m.rules m.states.length ((List.replicate m.states.length OMG).set (stV m.start).toNat (fstM m cs md))
abbrev dPot (cs : List Int) (md : Int) (o : Option (List Int)) : D := match o with
  | some vals => .tup [dAtm ⟨cs, md, vals⟩, db true, di 0]
  | none => .tup [dAtm ⟨[], 0, []⟩, db false, di 0]
abbrev zAt : List D := [.v .nils, di 0, .v .nils]
abbrev stP (m : Mod) (cs : List Int) (md : Int) (N : Nat) (vals : List Int) : St := ⟨[some zAt, some (cIs vals), some (cSp m cs md N)], []⟩
abbrev cSpP (m : Mod) (cs : List Int) (md : Int) (vals : List Int) : List D := [di m.kind, .v (vSs m.states), .v (vSs m.places), .v (vSs m.letters), .v (vIs m.ranks), di m.levels, di m.age, .v (vRuls m.rules), di m.start.n, dVs m.start.kids, dIs cs, di md, dIs vals]
theorem cv_sp (m : Mod) (cs : List Int) (md : Int) (vals : List Int) (N : Nat) (hN : vals.length = N) (e : List D) : Cv e (stP m cs md N vals) e ⟨[some zAt, none, some (cSpP m cs md vals)], []⟩ := by
  have h := cv_cellArr (σ := stP m cs md N vals) (p := 2) (q := 1) (i := 12) (cs := cSp m cs md N) (xs := vals.map vi) rfl (by rw [← cIs_v]; rfl) (by decide) (by rw [List.length_map, hN]; rfl) (fun x hx => by obtain ⟨z, _, rfl⟩ := List.mem_map.1 hx; rfl) e
  exact h
theorem okP (m : Mod) (cs : List Int) (md : Int) (N : Nat) (vals : List Int) : okH 3 [] [some zAt, some (cIs vals), some (cSp m cs md N)] = true := by simp [okH, D.okNs, D.okN, okNs_cIs]
theorem ipot_loop (m : Mod) (hm : PlC m) (cs : List Int) (md : Int) (hc : CoM m cs md) (N : Nat) (hN : N = m.states.length) (n : Nat) : ∀ (k : Nat) (vals : List Int) (B : Int), N - k = n → 0 ≤ B → B + 201326592 * n ≤ 700000000 → ValB md B vals → vals.length = N →
    Rn PP fIPot 0 (dPot cs md (potL cs md m.rules n vals)) σ0 ([.lp (sub cIPot [1, 1, 1, 1, 1, 1, 1, 0, 1, 0, 0]), .blk 1, .code (sub cIPot [1, 1, 1, 1, 1, 1, 1, 1])] ++ []) (mkE 110 [(6, .ptr 0 0), (10, .ptr 2 0), (77, di N), (78, di k)]) (stP m cs md N vals) := by
  induction n with
  | zero =>
    intro k vals B hn hB hB2 h hl
    have hr := irnd_spec m hm cs md hc N hN vals B hB (by omega) h hl
    obtain ⟨_, hl2⟩ := rndM_ok hm hc m.rules vals false B (fun r hr => hm.rule hr) hB h (by omega)
    rw [potL]
    generalize rndM cs md m.rules vals false = f at *
    obtain ⟨v2, c, ok⟩ := f
    cases c with
    | true =>
      rw [if_pos (.inl rfl)]
      refine loop_vc mixed 110 [3] (.f <| .h (.q 21 1) <| .h (.oc (.tup [db true, db ok]) (stP m cs md N v2)) .r) ?_
      refine via (by kernel_rfl : (decide ((↑k : Int) < (↑N : Int)) = false ∧ (∀ (o : Oper) (c : Call) (fo : Operand), o.op = Op.call c → c.callee = Callee.value fo → OpOK PP o [D.v (V.fn 127 [] []), D.ptr 2 0] (stP m cs md N vals) (D.tup [db true, db ok]) (stP m cs md N v2)) ∧ D.tup [D.v (V.agg [V.list [], vi 0, V.list []]), db false, di 0] = dPot cs md none) = _) ?_
      exact ⟨decide_eq_false (by omega), fun o c fo ho hc2 => op_callS (H := [some zAt, some (cIs vals), some (cSp m cs md N)]) ho hc2 2 (by decide) rfl rfl (x := []) hr, rfl⟩
    | false =>
      cases ok with
      | false =>
        rw [if_pos (.inr rfl)]
        refine loop_vc mixed 110 [3] (.f <| .h (.q 21 1) <| .h (.oc (.tup [db false, db false]) (stP m cs md N v2)) .r) ?_
        refine via (by kernel_rfl : (decide ((↑k : Int) < (↑N : Int)) = false ∧ (∀ (o : Oper) (c : Call) (fo : Operand), o.op = Op.call c → c.callee = Callee.value fo → OpOK PP o [D.v (V.fn 127 [] []), D.ptr 2 0] (stP m cs md N vals) (D.tup [db false, db false]) (stP m cs md N v2)) ∧ D.tup [D.v (V.agg [V.list [], vi 0, V.list []]), db false, di 0] = dPot cs md none) = _) ?_
        exact ⟨decide_eq_false (by omega), fun o c fo ho hc2 => op_callS (H := [some zAt, some (cIs vals), some (cSp m cs md N)]) ho hc2 2 (by decide) rfl rfl (x := []) hr, rfl⟩
      | true =>
        rw [if_neg (by simp)]
        refine loop_vc mixed 110 [3] (.f <| .h (.q 21 1) <| .h (.oc (.tup [db false, db true]) (stP m cs md N v2)) <| .h (.q 24 0) <| .h (.cs ⟨[some zAt, none, some (cSpP m cs md v2)], []⟩) .r) ?_
        refine via (by kernel_rfl : (decide ((↑k : Int) < (↑N : Int)) = false ∧ (∀ (o : Oper) (c : Call) (fo : Operand), o.op = Op.call c → c.callee = Callee.value fo → OpOK PP o [D.v (V.fn 127 [] []), D.ptr 2 0] (stP m cs md N vals) (D.tup [db false, db true]) (stP m cs md N v2)) ∧ (∀ (e : List D) (E : Ent) (g : Gh) (a : Act) (w : World), FI E g (St.mk [some zAt, some (cIs v2), some (cSp m cs md N)] []) e a w → ∃ g', FI E g' (St.mk [some zAt, none, some (cSpP m cs md v2)] []) e a w) ∧ D.tup [D.v (V.agg [V.list (List.map vi cs), vi md, V.list (List.map vi v2)]), db true, di 0] = dPot cs md (some (v2, false, true).fst)) = _) ?_
        exact ⟨decide_eq_false (by omega), fun o c fo ho hc2 => op_callS (H := [some zAt, some (cIs vals), some (cSp m cs md N)]) ho hc2 2 (by decide) rfl rfl (x := []) hr, fun e => cv_sp m cs md v2 N (by simpa using hl2.trans hN.symm) e, rfl⟩
  | succ n ih =>
    intro k vals B hn hB hB2 h hl
    have hr := irnd_spec m hm cs md hc N hN vals B hB (by omega) h hl
    obtain ⟨hb2, hl2⟩ := rndM_ok hm hc m.rules vals false B (fun r hr => hm.rule hr) hB h (by omega)
    have hp := hm.places
    rw [potL]
    generalize rndM cs md m.rules vals false = f at *
    obtain ⟨v2, c, ok⟩ := f
    cases ok with
    | false =>
      rw [if_pos rfl]
      refine loop_vc mixed 110 [3] (.t <| .h (.q 15 1) <| .h (.oc (.tup [db c, db false]) (stP m cs md N v2)) .r) ?_
      refine via (by kernel_rfl : (decide ((↑k : Int) < (↑N : Int)) = true ∧ (∀ (o : Oper) (c_1 : Call) (fo : Operand), o.op = Op.call c_1 → c_1.callee = Callee.value fo → OpOK PP o [D.v (V.fn 127 [] []), D.ptr 2 0] (stP m cs md N vals) (D.tup [db c, db false]) (stP m cs md N v2)) ∧ D.tup [D.v (V.agg [V.list [], vi 0, V.list []]), db false, di 0] = dPot cs md none) = _) ?_
      exact ⟨decide_eq_true (by omega), fun o c fo ho hc2 => op_callS (H := [some zAt, some (cIs vals), some (cSp m cs md N)]) ho hc2 2 (by decide) rfl rfl (x := []) hr, rfl⟩
    | true =>
      rw [if_neg (by simp)]
      cases c with
      | false =>
        rw [if_pos rfl]
        refine loop_vc mixed 110 [3] (.t <| .h (.q 15 1) <| .h (.oc (.tup [db false, db true]) (stP m cs md N v2)) <| .h (.q 19 0) <| .h (.cs ⟨[some zAt, none, some (cSpP m cs md v2)], []⟩) .r) ?_
        refine via (by kernel_rfl : (decide ((↑k : Int) < (↑N : Int)) = true ∧ (∀ (o : Oper) (c : Call) (fo : Operand), o.op = Op.call c → c.callee = Callee.value fo → OpOK PP o [D.v (V.fn 127 [] []), D.ptr 2 0] (stP m cs md N vals) (D.tup [db false, db true]) (stP m cs md N v2)) ∧ (∀ (e : List D) (E : Ent) (g : Gh) (a : Act) (w : World), FI E g (St.mk [some zAt, some (cIs v2), some (cSp m cs md N)] []) e a w → ∃ g', FI E g' (St.mk [some zAt, none, some (cSpP m cs md v2)] []) e a w) ∧ D.tup [D.v (V.agg [V.list (List.map vi cs), vi md, V.list (List.map vi v2)]), db true, di 0] = dPot cs md (some (v2, false, true).fst)) = _) ?_
        exact ⟨decide_eq_true (by omega), fun o c fo ho hc2 => op_callS (H := [some zAt, some (cIs vals), some (cSp m cs md N)]) ho hc2 2 (by decide) rfl rfl (x := []) hr, fun e => cv_sp m cs md v2 N (by simpa using hl2.trans hN.symm) e, rfl⟩
      | true =>
        rw [if_neg (by simp)]
        refine loop_vc mixed 110 [3] (.t <| .h (.q 15 1) <| .h (.oc (.tup [db true, db true]) (stP m cs md N v2)) <| .lo [ke 6, ke 10, ke 77, ch 78 (di (k + 1 : Nat))] (stP m cs md N v2)) ?_
        refine via (by kernel_rfl : (decide ((↑k : Int) < (↑N : Int)) = true ∧ (∀ (o : Oper) (c : Call) (fo : Operand), o.op = Op.call c → c.callee = Callee.value fo → OpOK PP o [D.v (V.fn 127 [] []), D.ptr 2 0] (stP m cs md N vals) (D.tup [db true, db true]) (stP m cs md N v2)) ∧ di (IntKind.wrap IntKind.i64 ((↑k : Int) + 1)) = di (↑(k + 1) : Int) ∧ okH 3 [] [some zAt, some (cIs v2), some (cSp m cs md N)] = true ∧ [some zAt, some (cIs v2), some (cSp m cs md N)] = [some zAt, some (cIs v2), some (cSp m cs md N)] ∧ Nv.It (RunC (CN 0) PP (fun env σ1 => ResOK PP fIPot env σ1 (dPot cs md (potL cs md m.rules n (v2, true, true).fst)) σ0) [KI.lp (sub cIPot [1, 1, 1, 1, 1, 1, 1, 0, 1, 0, 0]), KI.blk 1, KI.code (sub cIPot [1, 1, 1, 1, 1, 1, 1, 1])] (mkE 110 [(6, D.ptr 0 0), (10, D.ptr 2 0), (77, di (↑N : Int)), (78, di (↑(k + 1) : Int))]) (stP m cs md N v2))) = _) ?_
        exact ⟨decide_eq_true (by omega), fun o c fo ho hc2 => op_callS (H := [some zAt, some (cIs vals), some (cSp m cs md N)]) ho hc2 2 (by decide) rfl rfl (x := []) hr, by rw [wrap_succ (by omega)], okP .., rfl, ⟨ih (k + 1) v2 (B + 16777216 * m.rules.length) (by omega) (by omega) (by omega) hb2 (hl2.trans hN.symm)⟩⟩
theorem v0_ok {m : Mod} (hm : PlC m) {cs : List Int} {md : Int} (hc : CoM m cs md) : ValB md 8388608 ((List.replicate m.states.length OMG).set (stV m.start).toNat (fstM m cs md)) := by
  have hfw := hm.few
  have hcl := hc.len
  have hmd := hc.mod
  have hs := sumM_bd cs (nmV m.start) hc.coef hm.start.nm
  have hd : 0 < md → 0 ≤ fstM m cs md ∧ fstM m cs md ≤ md - 1 := fun hp => by
    rw [fstM, if_pos (decide_eq_true hp)]
    have h1 := Int.emod_nonneg (sumM cs (nmV m.start)) (show md ≠ 0 by omega)
    have h2 := Int.emod_lt_of_pos (sumM cs (nmV m.start)) hp
    omega
  have hb : -8388608 ≤ fstM m cs md ∧ fstM m cs md ≤ 8388608 := by
    by_cases hp : 0 < md
    · have := hd hp; omega
    · rw [fstM, if_neg (by rw [decide_eq_false hp]; decide)]; omega
  refine ⟨fun v hv => ?_, fun hp v hv => ?_⟩
  · rcases List.mem_or_eq_of_mem_set hv with h | h
    · exact .inl (List.mem_replicate.1 h).2
    · rw [h]; exact .inr hb
  · rcases List.mem_or_eq_of_mem_set hv with h | h
    · exact .inl (List.mem_replicate.1 h).2
    · rw [h]; exact .inr (hd hp)
theorem ipot_spec (m : Mod) (hm : PlC m) (cs : List Int) (md : Int) (hc : CoM m cs md) : FSpec PP 75 [dMod m, dIs cs, di md] σ0 (dPot cs md (potM m cs md)) σ0 := by
  have hp := hm.places
  have hfw := hm.few
  have hcl := hc.len
  have hmd := hc.mod
  obtain ⟨N, hN⟩ : ∃ N, N = m.states.length := ⟨_, rfl⟩
  obtain ⟨v0, hv0⟩ : ∃ v0, v0 = (List.replicate m.states.length OMG).set (stV m.start).toNat (fstM m cs md) := ⟨_, rfl⟩
  obtain ⟨p, hpp⟩ : ∃ p, p = potM m cs md := ⟨_, rfl⟩
  have hfm : fstM m cs md = if decide (md > 0) = true then sumM cs (nmV m.start) % md else sumM cs (nmV m.start) := rfl
  have eL : (m.states.map V.str).length = N := by rw [List.length_map, hN]
  have hrep : FSpec PP 123 [dl [vi 1099511627776], di N] σ0 (.arr 0 0 N) ⟨[some (cIs (List.replicate N OMG))], []⟩ := by
    have h := rep_spec N (by omega) (by omega)
    rwa [show List.replicate N (di 1099511627776) = cIs (List.replicate N OMG) by simp [cIs]] at h
  have hpl : D.pls (cIs (List.replicate N OMG)) = true := by rw [cIs_v]; exact pls_map _
  have hst := hm.start.st
  have hkd := isC_kids hm.start.isC
  have hidx : (List.map eV (Val.kids m.start))[Int.toNat 0]? = some (vVal (lf (stV m.start))) := by rw [hkd]; rfl
  have hset : ∀ x : Int, List.set (cIs (List.replicate N OMG)) (0 + Int.toNat (Val.n (lf (stV m.start))) * 1) (di x) = cIs ((List.replicate N OMG).set (stV m.start).toNat x) := fun x => by simp [cIs, List.map_set]; rfl
  have hli : 0 + Int.toNat (Val.n (lf (stV m.start))) * 1 < (cIs (List.replicate N OMG)).length := by show 0 + (stV m.start).toNat * 1 < _; simp [cIs]; omega
  have hfit := ifit_spec cs (by omega)
  rw [show cs.any fitB = false from List.any_eq_false.2 fun c h => by have := hc.coef c h; simp [fitB]; omega] at hfit
  have hmod := imod_spec md
  rw [show modB md = true by simp only [modB, Bool.or_eq_true, Bool.and_eq_true, decide_eq_true_eq, beq_iff_eq]; omega] at hmod
  have hnum := snum_spec m.start _ _ hm.start.isC (by have := hm.start.len; omega)
  have hsum := isum_spec cs (nmV m.start) (by rw [hm.start.len, hcl]; exact Nat.le_refl _) (by omega) hc.coef hm.start.nm
  have hsb := sumM_bd cs (nmV m.start) hc.coef hm.start.nm
  have hv := v0_ok hm hc
  have hlp := ipot_loop m hm cs md hc N hN N 0 v0 8388608 (by omega) (by omega) (by omega) (by rw [hv0]; exact hv) (by rw [hv0, List.length_set, List.length_replicate, hN])
  have hpe : potL cs md m.rules N v0 = potM m cs md := by rw [potM, hv0, hN]
  rw [hpe] at hlp
  by_cases h : decide (md > 0) = true
  · refine spec_vc mixed fIPot cIPot (by kernel_rfl) (by kernel_rfl) (by kernel_rfl) (by kernel_rfl) 110 (by kernel_rfl) [3] (.c (di 0) <| .k <| .f <| .c (db true) <| .c (db true) <| .c (dIs cs) <| .h (.oc (.arr 1 0 N) ⟨[some zAt, some (cIs (List.replicate N OMG))], []⟩) <| .h .g <| .h .g <| .c (dIs (nmV m.start)) <| .c (di (sumM cs (nmV m.start))) <| .t <| .c (di (fstM m cs md)) <| .h (.xs (vVal (lf (stV m.start)))) <| .w <| .lo [ke 6, ke 10, ch 77 (di N), ch 78 (di (0 : Nat))] (stP m cs md N v0)) ?_
    refine via (by kernel_rfl : (FSpec PP 120 [D.v (vMod m)] (St.mk [] []) (di 0) (St.mk [] []) ∧ ((↑(List.length (List.map vi cs)) : Int) != (↑(List.length (List.map V.str m.places)) : Int)) = false ∧ FSpec PP 121 [D.v (vIs cs)] (St.mk [] []) (db true) (St.mk [] []) ∧ FSpec PP 122 [di md] (St.mk [] []) (db true) (St.mk [] []) ∧ FSpec PP 63 [D.v (vIs cs)] (St.mk [] []) (dIs cs) (St.mk [] []) ∧ (∀ (o : Oper) (c : Call) (fo : Operand), o.op = Op.call c → c.callee = Callee.value fo → OpOK PP o [D.v (V.fn 123 [] []), D.v (V.list [vi 1099511627776]), di (↑(List.length (List.map V.str m.states)) : Int)] (St.mk [some [D.v V.nils, di 0, D.v V.nils]] []) (D.arr 1 0 N) (St.mk [some zAt, some (cIs (List.replicate N OMG))] [])) ∧ FSpec PP 125 [D.v (V.agg [vi (Val.n m.start), vVs (Val.kids m.start)])] (St.mk [] []) (dIs (nmV m.start)) (St.mk [] []) ∧ FSpec PP 124 [D.v (vIs cs), D.v (vIs (nmV m.start))] (St.mk [] []) (di (sumM cs (nmV m.start))) (St.mk [] []) ∧ decide (md > 0) = true ∧ FSpec PP 126 [di (sumM cs (nmV m.start)), di md] (St.mk [] []) (di (fstM m cs md)) (St.mk [] []) ∧ 2 = 2 ∧ iz 0 ≤ 0 ∧ (List.map eV (Val.kids m.start))[Int.toNat 0]? = some (vVal (lf (stV m.start))) ∧ 0 ≤ Val.n (lf (stV m.start)) ∧ Val.n (lf (stV m.start)) < (↑N : Int) ∧ 0 + Int.toNat (Val.n (lf (stV m.start))) * 1 < List.length (cIs (List.replicate N OMG)) ∧ (True ∧ True) ∧ di (↑(List.length (List.map V.str m.states)) : Int) = di (↑N : Int) ∧ di 0 = di (↑0 : Int) ∧ okH 3 [] [some zAt, some (List.set (cIs (List.replicate N OMG)) (0 + Int.toNat (Val.n (lf (stV m.start))) * 1) (di (fstM m cs md))), some [di m.kind, D.v (vSs m.states), D.v (vSs m.places), D.v (vSs m.letters), D.v (vIs m.ranks), di m.levels, di m.age, D.v (vRuls m.rules), di (Val.n m.start), D.v (vVs (Val.kids m.start)), D.v (vIs cs), di md, D.arr 1 0 N]] = true ∧ [some zAt, some (List.set (cIs (List.replicate N OMG)) (0 + Int.toNat (Val.n (lf (stV m.start))) * 1) (di (fstM m cs md))), some [di m.kind, D.v (vSs m.states), D.v (vSs m.places), D.v (vSs m.letters), D.v (vIs m.ranks), di m.levels, di m.age, D.v (vRuls m.rules), di (Val.n m.start), D.v (vVs (Val.kids m.start)), D.v (vIs cs), di md, D.arr 1 0 N]] = [some zAt, some (cIs v0), some (cSp m cs md N)] ∧ Nv.It (RunC (CN (List.length σ0.H)) PP (fun env σ1 => ResOK PP fIPot env σ1 (dPot cs md (potM m cs md)) σ0) [KI.lp (sub cIPot [1, 1, 1, 1, 1, 1, 1, 0, 1, 0, 0]), KI.blk 1, KI.code (sub cIPot [1, 1, 1, 1, 1, 1, 1, 1])] (mkE 110 [(6, D.ptr 0 0), (10, D.ptr 2 0), (77, di (↑N : Int)), (78, di (↑0 : Int))]) (stP m cs md N v0))) = _) ?_
    have hrst : FSpec PP 126 [di (sumM cs (nmV m.start)), di md] σ0 (di (fstM m cs md)) σ0 := by
      rw [fstM, if_pos h]; exact irest_spec _ md (by have := of_decide_eq_true h; omega) (by omega)
    rw [eL, hset, show cIs ((List.replicate N OMG).set (stV m.start).toNat (fstM m cs md)) = cIs v0 by rw [hv0, hN]]
    exact ⟨scnt_spec m hm, by rw [List.length_map, List.length_map, hcl]; simp, hfit, hmod, cloI_spec cs (by omega), fun o c fo ho hc2 => op_call0_arr (f := 123) (fs := []) (cs := []) (ds := [dl [vi 1099511627776], di N]) ho hc2 rfl hpl hrep, hnum, hsum, h, hrst, rfl, by decide, hidx, hst.1, (by show stV m.start < _; omega), hli, ⟨trivial, trivial⟩, rfl, rfl, okP m cs md N v0, rfl, ⟨hlp⟩⟩
  · refine spec_vc mixed fIPot cIPot (by kernel_rfl) (by kernel_rfl) (by kernel_rfl) (by kernel_rfl) 110 (by kernel_rfl) [3] (.c (di 0) <| .k <| .f <| .c (db true) <| .c (db true) <| .c (dIs cs) <| .h (.oc (.arr 1 0 N) ⟨[some zAt, some (cIs (List.replicate N OMG))], []⟩) <| .h .g <| .h .g <| .c (dIs (nmV m.start)) <| .c (di (sumM cs (nmV m.start))) <| .f <| .h (.xs (vVal (lf (stV m.start)))) <| .w <| .lo [ke 6, ke 10, ch 77 (di N), ch 78 (di (0 : Nat))] (stP m cs md N v0)) ?_
    refine via (by kernel_rfl : (FSpec PP 120 [D.v (vMod m)] (St.mk [] []) (di 0) (St.mk [] []) ∧ ((↑(List.length (List.map vi cs)) : Int) != (↑(List.length (List.map V.str m.places)) : Int)) = false ∧ FSpec PP 121 [D.v (vIs cs)] (St.mk [] []) (db true) (St.mk [] []) ∧ FSpec PP 122 [di md] (St.mk [] []) (db true) (St.mk [] []) ∧ FSpec PP 63 [D.v (vIs cs)] (St.mk [] []) (dIs cs) (St.mk [] []) ∧ (∀ (o : Oper) (c : Call) (fo : Operand), o.op = Op.call c → c.callee = Callee.value fo → OpOK PP o [D.v (V.fn 123 [] []), D.v (V.list [vi 1099511627776]), di (↑(List.length (List.map V.str m.states)) : Int)] (St.mk [some [D.v V.nils, di 0, D.v V.nils]] []) (D.arr 1 0 N) (St.mk [some zAt, some (cIs (List.replicate N OMG))] [])) ∧ FSpec PP 125 [D.v (V.agg [vi (Val.n m.start), vVs (Val.kids m.start)])] (St.mk [] []) (dIs (nmV m.start)) (St.mk [] []) ∧ FSpec PP 124 [D.v (vIs cs), D.v (vIs (nmV m.start))] (St.mk [] []) (di (sumM cs (nmV m.start))) (St.mk [] []) ∧ decide (md > 0) = false ∧ 2 = 2 ∧ iz 0 ≤ 0 ∧ (List.map eV (Val.kids m.start))[Int.toNat 0]? = some (vVal (lf (stV m.start))) ∧ 0 ≤ Val.n (lf (stV m.start)) ∧ Val.n (lf (stV m.start)) < (↑N : Int) ∧ 0 + Int.toNat (Val.n (lf (stV m.start))) * 1 < List.length (cIs (List.replicate N OMG)) ∧ (True ∧ True) ∧ di (↑(List.length (List.map V.str m.states)) : Int) = di (↑N : Int) ∧ di 0 = di (↑0 : Int) ∧ okH 3 [] [some zAt, some (List.set (cIs (List.replicate N OMG)) (0 + Int.toNat (Val.n (lf (stV m.start))) * 1) (di (sumM cs (nmV m.start)))), some [di m.kind, D.v (vSs m.states), D.v (vSs m.places), D.v (vSs m.letters), D.v (vIs m.ranks), di m.levels, di m.age, D.v (vRuls m.rules), di (Val.n m.start), D.v (vVs (Val.kids m.start)), D.v (vIs cs), di md, D.arr 1 0 N]] = true ∧ [some zAt, some (List.set (cIs (List.replicate N OMG)) (0 + Int.toNat (Val.n (lf (stV m.start))) * 1) (di (sumM cs (nmV m.start)))), some [di m.kind, D.v (vSs m.states), D.v (vSs m.places), D.v (vSs m.letters), D.v (vIs m.ranks), di m.levels, di m.age, D.v (vRuls m.rules), di (Val.n m.start), D.v (vVs (Val.kids m.start)), D.v (vIs cs), di md, D.arr 1 0 N]] = [some zAt, some (cIs v0), some (cSp m cs md N)] ∧ Nv.It (RunC (CN (List.length σ0.H)) PP (fun env σ1 => ResOK PP fIPot env σ1 (dPot cs md (potM m cs md)) σ0) [KI.lp (sub cIPot [1, 1, 1, 1, 1, 1, 1, 0, 1, 0, 0]), KI.blk 1, KI.code (sub cIPot [1, 1, 1, 1, 1, 1, 1, 1])] (mkE 110 [(6, D.ptr 0 0), (10, D.ptr 2 0), (77, di (↑N : Int)), (78, di (↑0 : Int))]) (stP m cs md N v0))) = _) ?_
    have hF : decide (md > 0) = false := by simpa using h
    have hfs : sumM cs (nmV m.start) = fstM m cs md := by rw [fstM, if_neg h]
    rw [eL, hset, show cIs ((List.replicate N OMG).set (stV m.start).toNat (sumM cs (nmV m.start))) = cIs v0 by rw [hv0, hN, hfs]]
    exact ⟨scnt_spec m hm, by rw [List.length_map, List.length_map, hcl]; simp, hfit, hmod, cloI_spec cs (by omega), fun o c fo ho hc2 => op_call0_arr (f := 123) (fs := []) (cs := []) (ds := [dl [vi 1099511627776], di N]) ho hc2 rfl hpl hrep, hnum, hsum, hF, rfl, by decide, hidx, hst.1, (by show stV m.start < _; omega), hli, ⟨trivial, trivial⟩, rfl, rfl, okP m cs md N v0, rfl, ⟨hlp⟩⟩
end Go.Proofs.YtdfdemnbaiieaaaGreat

namespace Go.Proofs.YtdfdemnbaiieaaaGreat
open Go.Dv Go.Nv
set_option maxRecDepth 20000
theorem potL_ok {m : Mod} (hm : PlC m) {cs : List Int} {md : Int} (hc : CoM m cs md) : ∀ (n : Nat) (vals : List Int) (B : Int), 0 ≤ B → ValB md B vals → vals.length = m.states.length → ∀ r, potL cs md m.rules n vals = some r → ValB md (B + 201326592 * (n + 1)) r ∧ r.length = m.states.length := by
  intro n
  have hp := hm.places
  induction n with
  | zero =>
    intro vals B hB h hl r hr
    obtain ⟨h1, h2⟩ := rndM_ok hm hc m.rules vals false B (fun r hr => hm.rule hr) hB h hl
    rw [potL] at hr
    split at hr
    · cases hr
    · cases hr
      exact ⟨⟨fun v hv => by have := h1.bd v hv; omega, h1.md⟩, h2⟩
  | succ n ih =>
    intro vals B hB h hl r hr
    obtain ⟨h1, h2⟩ := rndM_ok hm hc m.rules vals false B (fun r hr => hm.rule hr) hB h hl
    rw [potL] at hr
    split at hr
    · cases hr
    · split at hr
      · cases hr
        exact ⟨⟨fun v hv => by have := h1.bd v hv; omega, h1.md⟩, h2⟩
      · obtain ⟨h3, h4⟩ := ih _ (B + 16777216 * m.rules.length) (by omega) h1 h2 r hr
        exact ⟨⟨fun v hv => by have := h3.bd v hv; omega, h3.md⟩, h4⟩
theorem potM_ok {m : Mod} (hm : PlC m) {cs : List Int} {md : Int} (hc : CoM m cs md) {vals : List Int} (h : potM m cs md = some vals) : AtmOK m ⟨cs, md, vals⟩ := by
  have hfw := hm.few
  obtain ⟨h1, h2⟩ := potL_ok hm hc m.states.length _ 8388608 (by omega) (v0_ok hm hc) (by rw [List.length_set, List.length_replicate]) vals h
  refine ⟨hc.len, hc.coef, hc.mod, h2, fun v hv => ?_⟩
  rcases hc.mod with hm0 | hm0
  · rcases h1.bd v hv with h | h
    · exact .inl h
    · exact .inr (.inl ⟨hm0, by omega⟩)
  · rcases h1.md (by omega) v hv with h | h
    · exact .inl h
    · exact .inr (.inr ⟨by show 0 < md; omega, h⟩)
theorem cndM_ok {m : Mod} (hm : PlC m) {n : Int} (hn : 0 ≤ n) (h : (cndM m.places.length n).2.2 = true) : CoM m (cndM m.places.length n).1 (cndM m.places.length n).2.1 := by
  have hfw := hm.few
  have hp := hm.places
  revert h
  unfold cndM
  split
  · rename_i hp1
    split
    · intro _
      refine ⟨by simp [hp1], fun c hc => ?_, ?_⟩
      · simp only [List.mem_singleton] at hc; omega
      · dsimp only; split <;> omega
    · intro h; cases h
  · split
    · intro _
      refine ⟨by simp; omega, fun c hc => ?_, ?_⟩
      · simp only [List.mem_cons, List.not_mem_nil, or_false] at hc; omega
      · dsimp only; split <;> omega
    · intro h; cases h
theorem icnd_spec (m : Mod) (hm : PlC m) (n : Int) (hn : 0 ≤ n ∧ n ≤ 1000) : FSpec PP 73 [di m.places.length, di n] σ0 (dCnd (cndM m.places.length n)) σ0 := by
  have hfw := hm.few
  have hp := hm.places
  rcases show m.places.length = 1 ∨ m.places.length = 2 by omega with h | h
  · rw [h]; exact icnd_1 n hn
  · rw [h]; exact icnd_2 n hn
def nxtH (h : Hnt) : Hnt := ⟨h.found, h.before, h.rules, h.next, h.cand + 1, h.used⟩
/-- an atom that tells the target from what is reached -/
def atmV (cs : List Int) (md : Int) (vals : List Int) (u : Int) : Vrd := ⟨true, false, [], cs, md, vals, [], u⟩
def exclM (m : Mod) (c : Val) (h : Hnt) : Hnt × Vrd :=
  match cndM m.places.length h.cand with
  | (cs, md, true) => match potM m cs md with
    | some vals => if excB m ⟨cs, md, vals⟩ c = true then (nxtH h, atmV cs md vals h.used) else (nxtH h, openV h.used)
    | none => (nxtH h, openV h.used)
  | (_, _, false) => (h, openV h.used)
noncomputable abbrev fExcl : Func := Tryz.f44
noncomputable def cExcl : Code := fExcl.body.getD .skip
theorem excl_spec (m : Mod) (hm : PlC m) (c : Val) (hc : CfgOK m c) (h : Hnt) (hn : 0 ≤ h.cand ∧ h.cand ≤ 1000) : FSpec PP 44 [.ptr 0 0] (stH h m c) (dVrd (exclM m c h).2) (stH (exclM m c h).1 m c) := by
  have hcd := icnd_spec m hm h.cand hn
  have hco := cndM_ok hm hn.1
  have hpl := spl_spec m (by have := hm.places; omega)
  rw [plainB_plc hm] at hpl
  rw [exclM]
  generalize cndM m.places.length h.cand = k at *
  obtain ⟨cs, md, ok⟩ := k
  have hw : IntKind.i64.wrap (h.cand + 1) = h.cand + 1 := wrap_id (by omega) (by omega)
  cases ok with
  | false =>
    dsimp only
    refine spec_vc mixed fExcl cExcl (by kernel_rfl) (by kernel_rfl) (by kernel_rfl) (by kernel_rfl) 86 (by kernel_rfl) [] (.c (.tup [dIs cs, di md, db false]) <| .c1 (cPl h m c) (dVrd (openV h.used)) .r) ?_
    refine via (by kernel_rfl : (FSpec PP 73 [di (↑(List.length (List.map V.str m.places)) : Int), di h.cand] (St.mk [] []) (D.tup [dIs cs, di md, db false]) (St.mk [] []) ∧ (True ∧ True ∧ True) ∧ FSpec PP 64 [D.ptr 0 0] (St.mk [some (cPl h m c)] []) (dVrd (openV h.used)) (St.mk [some (cPl h m c)] []) ∧ [some (cPl h m c)] = [some (cPl h m c)] ∧ D.v (V.agg [V.bool (openV h.used).decided, V.bool (openV h.used).yes, V.list [], V.list [], vi (openV h.used).mod, V.list [], V.list [], vi (openV h.used).used]) = dVrd (openV h.used)) = _) ?_
    exact ⟨by rw [List.length_map]; exact hcd, ⟨trivial, trivial, trivial⟩, opn_spec h m c, rfl, rfl⟩
  | true =>
    have hco := hco rfl
    have hpo := ipot_spec m hm cs md hco
    have hpk : ∀ vals, potM m cs md = some vals → AtmOK m ⟨cs, md, vals⟩ := fun vals h => potM_ok hm hco h
    dsimp only
    generalize potM m cs md = o at *
    cases o with
    | none =>
      refine spec_vc mixed fExcl cExcl (by kernel_rfl) (by kernel_rfl) (by kernel_rfl) (by kernel_rfl) 86 (by kernel_rfl) [] (.c (.tup [dIs cs, di md, db true]) <| .c (db true) <| .c (dPot cs md none) <| .c1 (cPl (nxtH h) m c) (dVrd (openV h.used)) .r) ?_
      refine via (by kernel_rfl : (FSpec PP 73 [di (↑(List.length (List.map V.str m.places)) : Int), di h.cand] (St.mk [] []) (D.tup [dIs cs, di md, db true]) (St.mk [] []) ∧ (True ∧ True ∧ True) ∧ FSpec PP 74 [D.v (V.agg [vi m.kind, vSs m.states, vSs m.places, vSs m.letters, vIs m.ranks, vi m.levels, vi m.age, vRuls m.rules, vi (Val.n m.start), vVs (Val.kids m.start)])] (St.mk [] []) (db true) (St.mk [] []) ∧ FSpec PP 75 [D.v (V.agg [vi m.kind, vSs m.states, vSs m.places, vSs m.letters, vIs m.ranks, vi m.levels, vi m.age, vRuls m.rules, vi (Val.n m.start), vVs (Val.kids m.start)]), D.v (vIs cs), di md] (St.mk [] []) (dPot cs md none) (St.mk [] []) ∧ FSpec PP 64 [D.ptr 0 0] (St.mk [some [dVs h.found, dIs h.before, dIs h.rules, di h.next, di (IntKind.wrap IntKind.i64 (h.cand + 1)), di h.used, di m.kind, D.v (vSs m.states), D.v (vSs m.places), D.v (vSs m.letters), D.v (vIs m.ranks), di m.levels, di m.age, D.v (vRuls m.rules), di (Val.n m.start), dVs (Val.kids m.start), di (Val.n c), dVs (Val.kids c)]] []) (dVrd (openV h.used)) (St.mk [some (cPl (nxtH h) m c)] []) ∧ [some (cPl (nxtH h) m c)] = [some (cPl (match none with | some vals => if excB m (Atm.mk cs md vals) c = true then (nxtH h, atmV cs md vals h.used) else (nxtH h, openV h.used) | none => (nxtH h, openV h.used)).fst m c)] ∧ D.v (V.agg [V.bool (openV h.used).decided, V.bool (openV h.used).yes, V.list [], V.list [], vi (openV h.used).mod, V.list [], V.list [], vi (openV h.used).used]) = dVrd (match none with | some vals => if excB m (Atm.mk cs md vals) c = true then (nxtH h, atmV cs md vals h.used) else (nxtH h, openV h.used) | none => (nxtH h, openV h.used)).snd) = _) ?_
      rw [hw]
      exact ⟨by rw [List.length_map]; exact hcd, ⟨trivial, trivial, trivial⟩, hpl, hpo, opn_spec (nxtH h) m c, rfl, rfl⟩
    | some vals =>
      have hex := iexc_spec m hm _ (hpk vals rfl) c hc
      dsimp only
      cases hb : excB m ⟨cs, md, vals⟩ c with
      | true =>
        rw [if_pos rfl]
        refine spec_vc mixed fExcl cExcl (by kernel_rfl) (by kernel_rfl) (by kernel_rfl) (by kernel_rfl) 86 (by kernel_rfl) [] (.c (.tup [dIs cs, di md, db true]) <| .c (db true) <| .c (dPot cs md (some vals)) <| .c (.tup [db true, di 0]) .r) ?_
        refine via (by kernel_rfl : (FSpec PP 73 [di (↑(List.length (List.map V.str m.places)) : Int), di h.cand] (St.mk [] []) (D.tup [dIs cs, di md, db true]) (St.mk [] []) ∧ (True ∧ True ∧ True) ∧ FSpec PP 74 [D.v (V.agg [vi m.kind, vSs m.states, vSs m.places, vSs m.letters, vIs m.ranks, vi m.levels, vi m.age, vRuls m.rules, vi (Val.n m.start), vVs (Val.kids m.start)])] (St.mk [] []) (db true) (St.mk [] []) ∧ FSpec PP 75 [D.v (V.agg [vi m.kind, vSs m.states, vSs m.places, vSs m.letters, vIs m.ranks, vi m.levels, vi m.age, vRuls m.rules, vi (Val.n m.start), vVs (Val.kids m.start)]), D.v (vIs cs), di md] (St.mk [] []) (dPot cs md (some vals)) (St.mk [] []) ∧ FSpec PP 76 [D.v (V.agg [vi m.kind, vSs m.states, vSs m.places, vSs m.letters, vIs m.ranks, vi m.levels, vi m.age, vRuls m.rules, vi (Val.n m.start), vVs (Val.kids m.start)]), D.v (V.agg [vIs (Atm.mk cs md vals).coefs, vi (Atm.mk cs md vals).mod, vIs (Atm.mk cs md vals).vals]), D.v (V.agg [vi (Val.n c), vVs (Val.kids c)])] (St.mk [] []) (D.tup [db true, di 0]) (St.mk [] []) ∧ (True ∧ True ∧ True ∧ True) ∧ (True ∧ True ∧ True) ∧ [some [dVs h.found, dIs h.before, dIs h.rules, di h.next, di (IntKind.wrap IntKind.i64 (h.cand + 1)), di h.used, di m.kind, D.v (vSs m.states), D.v (vSs m.places), D.v (vSs m.letters), D.v (vIs m.ranks), di m.levels, di m.age, D.v (vRuls m.rules), di (Val.n m.start), dVs (Val.kids m.start), di (Val.n c), dVs (Val.kids c)]] = [some (cPl (nxtH h, atmV cs md vals h.used).fst m c)] ∧ D.v (V.agg [V.bool true, V.bool false, V.list [], V.list (List.map vi (Atm.mk cs md vals).coefs), vi (Atm.mk cs md vals).mod, V.list (List.map vi (Atm.mk cs md vals).vals), V.list [], vi h.used]) = dVrd (nxtH h, atmV cs md vals h.used).snd) = _) ?_
        rw [hw]
        exact ⟨by rw [List.length_map]; exact hcd, ⟨trivial, trivial, trivial⟩, hpl, hpo, hb ▸ hex, ⟨trivial, trivial, trivial, trivial⟩, ⟨trivial, trivial, trivial⟩, rfl, rfl⟩
      | false =>
        rw [if_neg (by decide)]
        refine spec_vc mixed fExcl cExcl (by kernel_rfl) (by kernel_rfl) (by kernel_rfl) (by kernel_rfl) 86 (by kernel_rfl) [] (.c (.tup [dIs cs, di md, db true]) <| .c (db true) <| .c (dPot cs md (some vals)) <| .c (.tup [db false, di 0]) <| .c1 (cPl (nxtH h) m c) (dVrd (openV h.used)) .r) ?_
        refine via (by kernel_rfl : (FSpec PP 73 [di (↑(List.length (List.map V.str m.places)) : Int), di h.cand] (St.mk [] []) (D.tup [dIs cs, di md, db true]) (St.mk [] []) ∧ (True ∧ True ∧ True) ∧ FSpec PP 74 [D.v (V.agg [vi m.kind, vSs m.states, vSs m.places, vSs m.letters, vIs m.ranks, vi m.levels, vi m.age, vRuls m.rules, vi (Val.n m.start), vVs (Val.kids m.start)])] (St.mk [] []) (db true) (St.mk [] []) ∧ FSpec PP 75 [D.v (V.agg [vi m.kind, vSs m.states, vSs m.places, vSs m.letters, vIs m.ranks, vi m.levels, vi m.age, vRuls m.rules, vi (Val.n m.start), vVs (Val.kids m.start)]), D.v (vIs cs), di md] (St.mk [] []) (dPot cs md (some vals)) (St.mk [] []) ∧ FSpec PP 76 [D.v (V.agg [vi m.kind, vSs m.states, vSs m.places, vSs m.letters, vIs m.ranks, vi m.levels, vi m.age, vRuls m.rules, vi (Val.n m.start), vVs (Val.kids m.start)]), D.v (V.agg [vIs (Atm.mk cs md vals).coefs, vi (Atm.mk cs md vals).mod, vIs (Atm.mk cs md vals).vals]), D.v (V.agg [vi (Val.n c), vVs (Val.kids c)])] (St.mk [] []) (D.tup [db false, di 0]) (St.mk [] []) ∧ (True ∧ True ∧ True ∧ True) ∧ FSpec PP 64 [D.ptr 0 0] (St.mk [some [dVs h.found, dIs h.before, dIs h.rules, di h.next, di (IntKind.wrap IntKind.i64 (h.cand + 1)), di h.used, di m.kind, D.v (vSs m.states), D.v (vSs m.places), D.v (vSs m.letters), D.v (vIs m.ranks), di m.levels, di m.age, D.v (vRuls m.rules), di (Val.n m.start), dVs (Val.kids m.start), di (Val.n c), dVs (Val.kids c)]] []) (dVrd (openV h.used)) (St.mk [some (cPl (nxtH h) m c)] []) ∧ [some (cPl (nxtH h) m c)] = [some (cPl (nxtH h, openV h.used).fst m c)] ∧ D.v (V.agg [V.bool (openV h.used).decided, V.bool (openV h.used).yes, V.list [], V.list [], vi (openV h.used).mod, V.list [], V.list [], vi (openV h.used).used]) = dVrd (nxtH h, openV h.used).snd) = _) ?_
        rw [hw]
        exact ⟨by rw [List.length_map]; exact hcd, ⟨trivial, trivial, trivial⟩, hpl, hpo, hb ▸ hex, ⟨trivial, trivial, trivial, trivial⟩, opn_spec (nxtH h) m c, rfl, rfl⟩
end Go.Proofs.YtdfdemnbaiieaaaGreat

namespace Go.Proofs.YtdfdemnbaiieaaaGreat
open Go.Dv Go.Nv
set_option maxRecDepth 20000
/-- what is right with a hunt on the way -/
structure HnI (m : Mod) (h : Hnt) : Prop where
  ok : HntOK h
  cfg : ∀ v ∈ h.found, CfgOK m v
theorem findL_ok {m : Mod} (hm : PlC m) (c : Val) (at' : Int) : ∀ (l : List Stp) (h : Hnt), HnI m h → 0 ≤ at' ∧ at' < h.found.length → (∀ s ∈ l, CfgOK m s.2) → HnI m (findL c at' h l).1 ∧ (findL c at' h l).1.cand = h.cand ∧ (findL c at' h l).1.used = h.used ∧ (findL c at' h l).1.next = h.next
  | [], h, hh, _, _ => ⟨hh, rfl, rfl, rfl⟩
  | s :: l, h, hh, ha, hl => by
    have hs := hl s (by simp)
    have hl' : ∀ s ∈ l, CfgOK m s.2 := fun s h => hl s (by simp [h])
    rw [findL]
    split
    · exact findL_ok hm c at' l h hh ha hl'
    · split
      · exact ⟨hh, rfl, rfl, rfl⟩
      · rename_i h2
        have h2 : ¬ (h.found.length : Int) ≥ 128 := by simpa using h2
        have ho := addH_ok hh.ok (by omega) ha (s := s) (by have := hs.size hm; omega)
        have hi : HnI m (addH h at' s) := ⟨ho, fun v hv => by
          rcases List.mem_append.1 hv with hv | hv
          · exact hh.cfg v hv
          · rw [List.mem_singleton.1 hv]; exact hs⟩
        split
        · exact findL_ok hm c at' l _ hi (by simp only [addH, List.length_append, List.length_cons, List.length_nil]; omega) hl'
        · split
          · exact ⟨hi, rfl, rfl, rfl⟩
          · exact ⟨hi, rfl, rfl, rfl⟩
theorem findM_ok {m : Mod} (hm : PlC m) (c : Val) (h : Hnt) (hh : HnI m h) (hn : 0 ≤ h.next) : HnI m (findM m c h).1 ∧ (findM m c h).1.cand = h.cand ∧ (findM m c h).1.used = h.used ∧ h.next ≤ (findM m c h).1.next ∧ (findM m c h).1.next ≤ h.next + 1 := by
  rw [findM]
  split
  · exact ⟨hh, rfl, rfl, by show h.next ≤ h.next; omega, by show h.next ≤ h.next + 1; omega⟩
  · rename_i h1
    have h1 : ¬ h.next ≥ (h.found.length : Int) := by simpa using h1
    split
    · exact ⟨hh, rfl, rfl, by show h.next ≤ h.next; omega, by show h.next ≤ h.next + 1; omega⟩
    · obtain ⟨v, hv⟩ : ∃ v, h.found[h.next.toNat]? = some v := ⟨_, List.getElem?_eq_getElem (show h.next.toNat < h.found.length by omega)⟩
      have hst := stepsM_or hm (hh.cfg v (List.mem_of_getElem? hv))
      rw [show h.found.getD h.next.toNat default = v by rw [List.getD_eq_getElem?_getD, hv]; rfl]
      obtain ⟨g1, g2, g3, g4⟩ := findL_ok hm c h.next (stepsM m v).1 ⟨h.found, h.before, h.rules, h.next + 1, h.cand, h.used⟩ ⟨⟨hh.ok.ne, hh.ok.len, hh.ok.size, hh.ok.bl, hh.ok.rl, hh.ok.back⟩, hh.cfg⟩ (by show 0 ≤ h.next ∧ h.next < h.found.length; omega) (fun s hs => (hst.2.2 s hs).ok)
      exact ⟨g1, g2, g3, by rw [g4]; show h.next ≤ h.next + 1; omega, by rw [g4]; show h.next + 1 ≤ h.next + 1; omega⟩
theorem rown_pl (h : Hnt) (h1 : h.found.length ≤ 100000) (hs : ∀ v ∈ h.found, v.size ≤ 1000000) (h2 : h.before.length ≤ 100000) (h3 : h.rules.length ≤ 100000) (hb : h.before ≠ []) (hr : h.rules ≠ []) :
    FSpec PP 37 [dHnt h] σ0 (dHnt h) σ0 := by
  have hsp := rown_spec h h1 hs h2 h3 hb hr
  refine ⟨hsp.1, fun g w args hw ha => Calls.mono (hsp.2 g w args hw ha) ?_⟩
  rintro e w' ⟨u, g', rfl, hw', hr⟩
  have hw2 := wi_sh (σ' := σ0) hw' (m := 0) rfl (Nat.zero_le _) (by rw [hw.n]; exact Nat.le_refl _) rfl (by simp)
  refine ⟨u, _, rfl, hw2, ?_⟩
  refine repD_sh _ _ rfl ?_
  simp only [repD, repV_agg] at hr ⊢
  obtain ⟨us, rfl, hr⟩ := hr
  have hr2 := repDs_un hr
  refine ⟨us, toVs_rep (g := g') (ds := (cAc h).map D.un) rfl hr2 (fun c hc => ?_), rfl⟩
  simp only [cAc, List.map_cons, List.map_nil, D.un, List.mem_cons, List.not_mem_nil, or_false] at hc
  rcases hc with rfl | rfl | rfl | rfl | rfl | rfl <;> rfl
def usedH (h : Hnt) : Hnt := ⟨h.found, h.before, h.rules, h.next, h.cand, h.used + 1⟩
def closedV (l : List Val) (u : Int) : Vrd := ⟨true, false, [], [], 0, [], l, u⟩
/-- one step of a hunt -/
def stepH (m : Mod) (c : Val) (h : Hnt) : Hnt × Vrd × Int :=
  if (cmpV m.start c == 0) = true then (usedH h, yesV [] (usedH h).used, 0)
  else if ((findM m c (usedH h)).2.2 != 0) = true then (h, openV 0, (findM m c (usedH h)).2.2)
  else if (findM m c (usedH h)).2.1.decided = true then ((findM m c (usedH h)).1, (findM m c (usedH h)).2.1, 0)
  else if decide ((findM m c (usedH h)).1.next ≥ ((findM m c (usedH h)).1.found.length : Int)) = true then ((findM m c (usedH h)).1, closedV (sortV (findM m c (usedH h)).1.found) (findM m c (usedH h)).1.used, 0)
  else ((exclM m c (findM m c (usedH h)).1).1, (exclM m c (findM m c (usedH h)).1).2, 0)
abbrev zHn : List D := [.v .nils, .v .nils, .v .nils, di 0, di 0, di 0]
abbrev dStp (r : Hnt × Vrd × Int) : D := .tup [dHnt r.1, dVrd r.2.1, di r.2.2]
noncomputable abbrev fStep : Func := Tryz.f19
noncomputable def cStep : Code := fStep.body.getD .skip
theorem op_own (h : Hnt) (hh : HntOK h) {o : Oper} {c : Call} {fo : Operand} (ho : o.op = .call c) (hc : c.callee = .value fo) (H : List (Option (List D))) : OpOK PP o [.v (.fn 37 [] []), dHnt h] ⟨H, []⟩ (.dagg (cAc h)) ⟨H, owA h⟩ := by
  have hl := hh.len
  have hbl := hh.bl
  have hrl := hh.rl
  have hne : 0 < h.found.length := List.length_pos_iff.2 hh.ne
  have hsp := rown_spec h (by omega) (fun v hv => by have := hh.size v hv; omega) (by omega) (by omega) (List.length_pos_iff.1 (by omega)) (List.length_pos_iff.1 (by omega))
  have := op_callG (σ := ⟨H, []⟩) ho hc (fD := .v (.fn 37 [] [])) rfl (ds := [dHnt h]) [] id hsp (.cons (.ren (dc := dHnt h) rfl) .nil) .nil (by simp) rfl (by simp) (by simp) (by simp [D.okN, D.okNs]) rfl
  simpa [renH, backH, renOwn, D.ren, D.rens, rho] using this
theorem cv_plainQ (h : Hnt) (m : Mod) (c : Val) {H : List (Option (List D))} {own : List (Nat × Nat × List V)} {q : Nat} (hq : H[q]? = some (some (cAcc h m c))) (e : List D) : Cv e ⟨H, own⟩ e ⟨H.set q (some (cPl h m c)), own⟩ :=
  cv_cells (σ := ⟨H, own⟩) (q := q) (cs := cAcc h m c) (cs' := cPl h m c) hq (fun g us hr => by
    have := repDs_un hr
    simpa [D.un] using this) (fun _ x hx => by
    simp only [cPl, List.mem_cons, List.not_mem_nil, or_false] at hx
    rcases hx with rfl | rfl | rfl | rfl | rfl | rfl | rfl | rfl | rfl | rfl | rfl | rfl | rfl | rfl | rfl | rfl | rfl | rfl <;> rfl) e
abbrev cV (v : Vrd) : List D := [db v.decided, db v.yes, .v (vSts v.run), dIs v.coefs, di v.mod, dIs v.vals, dVs v.closed, di v.used]
theorem yes_0 (h : Hnt) (m : Mod) (c : Val) : FSpec PP 39 [.ptr 0 0, .v .nils] (stH h m c) (dVrd (yesV [] h.used)) (stH h m c) := by
  refine spec_vc mixed fYes cYes (by kernel_rfl) (by kernel_rfl) (by kernel_rfl) (by kernel_rfl) 12 (by kernel_rfl) [] .r ?_
  refine via (by kernel_rfl : ([some (cPl h m c)] = [some (cPl h m c)] ∧ D.v (V.agg [V.bool true, V.bool true, V.list [], V.list [], vi 0, V.list [], V.list [], vi h.used]) = dVrd (yesV [] h.used)) = _) ?_
  exact ⟨rfl, rfl⟩
theorem step_spec (m : Mod) (hm : PlC m) (c : Val) (hc : CfgOK m c) (h : Hnt) (hh : HnI m h) (hn : 0 ≤ h.next ∧ h.next ≤ 500) (hcd : 0 ≤ h.cand ∧ h.cand ≤ 500) (hu : 0 ≤ h.used ∧ h.used ≤ 100000) : FSpec PP 19 [dMod m, dV c, dHnt h] σ0 (dStp (stepH m c h)) σ0 := by
  have hask := askd_spec m hm c hc
  have hsz := hm.start.size hm
  have hsame := ssame_spec m.start c (by omega)
  rw [stepH]
  by_cases h1 : (cmpV m.start c == 0) = true
  · rw [if_pos h1]
    rw [h1] at hsame
    refine spec_vc mixed fStep cStep (by kernel_rfl) (by kernel_rfl) (by kernel_rfl) (by kernel_rfl) 107 (by kernel_rfl) [3, 4, 5] (.c (di 0) <| .h (.oc (.dagg (cAc h)) ⟨[some zHn, some zVr], owA h⟩) <| .h .g <| .c (db true) <| .h (.cs ⟨[some zHn, some zVr, some (cPl (usedH h) m c)], owA h⟩) <| .c1 (cPl (usedH h) m c) (dVrd (yesV [] (usedH h).used)) .r) ?_
    refine via (by kernel_rfl : (FSpec PP 35 [D.v (vMod m), D.v (vVal c)] (St.mk [] []) (di 0) (St.mk [] []) ∧ (∀ (o : Oper) (c : Call) (fo : Operand), o.op = Op.call c → c.callee = Callee.value fo → OpOK PP o [D.v (V.fn 37 [] []), D.v (vHnt h)] (St.mk [some [D.v V.nils, D.v V.nils, D.v V.nils, di 0, di 0, di 0], some [db false, db false, D.v V.nils, D.v V.nils, di 0, D.v V.nils, D.v V.nils, di 0]] []) (D.dagg (cAc h)) (St.mk [some zHn, some zVr] (owA h))) ∧ FSpec PP 38 [D.v (V.agg [vi (Val.n m.start), vVs (Val.kids m.start)]), D.v (vVal c)] (St.mk [] []) (db true) (St.mk [] []) ∧ (∀ (e : List D) (E : Ent) (g : Gh) (a : Act) (w : World), FI E g (St.mk [some zHn, some zVr, some [D.acc 1 (List.map eV h.found), D.acc 2 (List.map vi h.before), D.acc 3 (List.map vi h.rules), di h.next, di h.cand, D.v (V.int IntKind.i64 (IntKind.wrap IntKind.i64 (h.used + 1))), D.v (vi m.kind), D.v (vSs m.states), D.v (vSs m.places), D.v (vSs m.letters), D.v (vIs m.ranks), D.v (vi m.levels), D.v (vi m.age), D.v (vRuls m.rules), D.v (vi (Val.n m.start)), D.v (vVs (Val.kids m.start)), D.v (vi (Val.n c)), D.v (vVs (Val.kids c))]] [(3, 1, List.map vi h.rules), (2, 1, List.map vi h.before), (1, 2, List.map eV h.found)]) e a w → ∃ g', FI E g' (St.mk [some zHn, some zVr, some (cPl (usedH h) m c)] (owA h)) e a w) ∧ FSpec PP 39 [D.ptr 0 0, D.v V.nils] (St.mk [some (cPl (usedH h) m c)] []) (dVrd (yesV [] (usedH h).used)) (St.mk [some (cPl (usedH h) m c)] []) ∧ ((some [dVs (usedH h).found, dIs (usedH h).before, dIs (usedH h).rules, di (usedH h).next, di (usedH h).cand, di (usedH h).used] = some [dVs (usedH h).found, dIs (usedH h).before, dIs (usedH h).rules, di (usedH h).next, di (usedH h).cand, di (usedH h).used] ∧ some [dVs (usedH h).found, dIs (usedH h).before, dIs (usedH h).rules, di (usedH h).next, di (usedH h).cand, di (usedH h).used] = some [dVs (usedH h).found, dIs (usedH h).before, dIs (usedH h).rules, di (usedH h).next, di (usedH h).cand, di (usedH h).used] ∧ some [dVs (usedH h).found, dIs (usedH h).before, dIs (usedH h).rules, di (usedH h).next, di (usedH h).cand, di (usedH h).used] = some [dVs (usedH h).found, dIs (usedH h).before, dIs (usedH h).rules, di (usedH h).next, di (usedH h).cand, di (usedH h).used] ∧ True) ∧ True) ∧ D.tup [D.v (V.agg [V.list (List.map eV (usedH h).found), V.list (List.map vi (usedH h).before), V.list (List.map vi (usedH h).rules), vi (usedH h).next, vi (usedH h).cand, vi (usedH h).used]), D.v (V.agg [V.bool (yesV [] (usedH h).used).decided, V.bool (yesV [] (usedH h).used).yes, V.list [], V.list [], vi (yesV [] (usedH h).used).mod, V.list [], V.list [], vi (yesV [] (usedH h).used).used]), di 0] = dStp (usedH h, yesV [] (usedH h).used, 0)) = _) ?_
    rw [wrap_id (n := h.used + 1) (by omega) (by omega)]
    exact ⟨hask, fun o c fo ho hc2 => op_own h hh.ok ho hc2 _, hsame, fun e => cv_plainQ (usedH h) m c (H := [some zHn, some zVr, some (cAcc (usedH h) m c)]) (own := owA h) (q := 2) rfl e, yes_0 (usedH h) m c, ⟨⟨rfl, rfl, rfl, trivial⟩, trivial⟩, rfl⟩
  · rw [if_neg h1]
    rw [eq_false_of_ne_true h1] at hsame
    have hiU : HnI m (usedH h) := ⟨⟨hh.ok.ne, hh.ok.len, hh.ok.size, hh.ok.bl, hh.ok.rl, hh.ok.back⟩, hh.cfg⟩
    have hfs := find_spec m hm c (usedH h) hiU.ok hn.1 (by show h.next ≤ 1000; omega) hh.cfg
    obtain ⟨hi2, hc2, hu2, hn2, hn3⟩ := findM_ok hm c (usedH h) hiU hn.1
    have hrp : FSpec PP 37 [dHnt h] σ0 (dHnt h) σ0 := by
      have hl := hh.ok.len
      have hbl := hh.ok.bl
      have hrl := hh.ok.rl
      have hne : 0 < h.found.length := List.length_pos_iff.2 hh.ok.ne
      exact rown_pl h (by omega) (fun v hv => by have := hh.ok.size v hv; omega) (by omega) (by omega) (List.length_pos_iff.1 (by omega)) (List.length_pos_iff.1 (by omega))
    have hcd2 : 0 ≤ (usedH h).cand ∧ (usedH h).cand ≤ 500 := hcd
    refine spec_vc mixed fStep cStep (by kernel_rfl) (by kernel_rfl) (by kernel_rfl) (by kernel_rfl) 107 (by kernel_rfl) [3, 4, 5] (.c (di 0) <| .h (.oc (.dagg (cAc h)) ⟨[some zHn, some zVr], owA h⟩) <| .h .g <| .c (db false) <| .h (.q 8 1) <| .h (.s [ke 3, ke 4, ke 5, ke 6, ke 7, ke 8, ke 9, ke 10, ke 49]) .z) ?_
    refine via (by kernel_rfl : (FSpec PP 35 [D.v (vMod m), D.v (vVal c)] (St.mk [] []) (di 0) (St.mk [] []) ∧ (∀ (o : Oper) (c : Call) (fo : Operand), o.op = Op.call c → c.callee = Callee.value fo → OpOK PP o [D.v (V.fn 37 [] []), D.v (vHnt h)] (St.mk [some [D.v V.nils, D.v V.nils, D.v V.nils, di 0, di 0, di 0], some [db false, db false, D.v V.nils, D.v V.nils, di 0, D.v V.nils, D.v V.nils, di 0]] []) (D.dagg (cAc h)) (St.mk [some zHn, some zVr] (owA h))) ∧ FSpec PP 38 [D.v (V.agg [vi (Val.n m.start), vVs (Val.kids m.start)]), D.v (vVal c)] (St.mk [] []) (db false) (St.mk [] []) ∧ Nv.It (RunO (CN (List.length σ0.H)) PP (fun env σ1 => ResOK PP fStep env σ1 (dStp (if ((findM m c (usedH h)).snd.snd != 0) = true then (h, openV 0, (findM m c (usedH h)).snd.snd) else if (findM m c (usedH h)).snd.fst.decided = true then ((findM m c (usedH h)).fst, (findM m c (usedH h)).snd.fst, 0) else if decide ((findM m c (usedH h)).fst.next ≥ (↑(List.length (findM m c (usedH h)).fst.found) : Int)) = true then ((findM m c (usedH h)).fst, closedV (sortV (findM m c (usedH h)).fst.found) (findM m c (usedH h)).fst.used, 0) else ((exclM m c (findM m c (usedH h)).fst).fst, (exclM m c (findM m c (usedH h)).fst).snd, 0))) σ0) [KI.code (sub cStep [1, 1, 1, 1, 1, 1])] (opsIn (sub cStep [1, 1, 1, 1, 1, 0])) (List.drop 1 (opsIn (sub cStep [1, 1, 1, 1, 1, 0])).toList) (mkE 107 [(3, D.v (V.ref (vMod m))), (4, D.v (V.ref (vVal c))), (5, D.v (V.ref (vHnt h))), (6, D.ptr 0 0), (7, D.ptr 1 0), (8, di 0), (9, di 0), (10, D.ptr 2 0), (49, D.ptr 2 0)]) (St.mk [some zHn, some zVr, some [D.acc 1 (List.map eV h.found), D.acc 2 (List.map vi h.before), D.acc 3 (List.map vi h.rules), di h.next, di h.cand, di (IntKind.wrap IntKind.i64 (h.used + 1)), di m.kind, D.v (vSs m.states), D.v (vSs m.places), D.v (vSs m.letters), D.v (vIs m.ranks), di m.levels, di m.age, D.v (vRuls m.rules), di (Val.n m.start), D.v (vVs (Val.kids m.start)), di (Val.n c), D.v (vVs (Val.kids c))]] [(3, 1, List.map vi h.rules), (2, 1, List.map vi h.before), (1, 2, List.map eV h.found)]))) = _) ?_
    rw [wrap_id (n := h.used + 1) (by omega) (by omega)]
    refine ⟨hask, fun o c fo ho hc2 => op_own h hh.ok ho hc2 _, hsame, ⟨?_⟩⟩
    refine ro_callHE (σ := ⟨[some zHn, some zVr, some (cAcc (usedH h) m c)], owA (usedH h)⟩) 50 40 2 [.ptr 2 0] [.ptr 0 0] (cPl (findM m c (usedH h)).1 m c) (dFnd (findM m c (usedH h))) rfl (by kernel_rfl) (by kernel_rfl) (by kernel_rfl) rfl rfl (by rfl) (by rfl) (by rfl) (by rfl) ?_ (by rfl) hfs ?_
    · exact .ptr .nil
    generalize findM m c (usedH h) = p at *
    obtain ⟨h2, v, e⟩ := p
    dsimp only at hi2 hc2 hu2 hn2 hn3 ⊢
    by_cases he : (e != 0) = true
    · rw [if_pos he]
      refine rest_n mixed 107 [3, 4, 5] 8 2 (.t <| .c (dHnt h) .r) ?_
      refine via (by kernel_rfl : (((h2, v, e).snd.snd != 0) = true ∧ FSpec PP 37 [D.v (vHnt h)] (St.mk [] []) (dHnt h) (St.mk [] []) ∧ D.tup [D.v (V.agg [V.list (List.map eV h.found), V.list (List.map vi h.before), V.list (List.map vi h.rules), vi h.next, vi h.cand, vi h.used]), D.v (V.agg [V.bool false, V.bool false, V.list [], V.list [], vi 0, V.list [], V.list [], vi 0]), di (h2, v, e).snd.snd] = dStp (h, openV 0, e)) = _) ?_
      exact ⟨he, hrp, rfl⟩
    · rw [if_neg he]
      have hf := eq_false_of_ne_true he
      by_cases hd : v.decided = true
      · rw [if_pos hd]
        refine rest_n mixed 107 [3, 4, 5] 8 2 (.f <| .t .r) ?_
        refine via (by kernel_rfl : (((h2, v, e).snd.snd != 0) = false ∧ (h2, v, e).snd.fst.decided = true ∧ (True ∧ (some [db (h2, v, e).snd.fst.decided, db (h2, v, e).snd.fst.yes, D.v (vSts (h2, v, e).snd.fst.run), D.v (vIs (h2, v, e).snd.fst.coefs), di (h2, v, e).snd.fst.mod, D.v (vIs (h2, v, e).snd.fst.vals), D.v (vVs (h2, v, e).snd.fst.closed), di (h2, v, e).snd.fst.used] = some [db (h2, v, e).snd.fst.decided, db (h2, v, e).snd.fst.yes, D.v (vSts (h2, v, e).snd.fst.run), D.v (vIs (h2, v, e).snd.fst.coefs), di (h2, v, e).snd.fst.mod, D.v (vIs (h2, v, e).snd.fst.vals), D.v (vVs (h2, v, e).snd.fst.closed), di (h2, v, e).snd.fst.used] ∧ some [db (h2, v, e).snd.fst.decided, db (h2, v, e).snd.fst.yes, D.v (vSts (h2, v, e).snd.fst.run), D.v (vIs (h2, v, e).snd.fst.coefs), di (h2, v, e).snd.fst.mod, D.v (vIs (h2, v, e).snd.fst.vals), D.v (vVs (h2, v, e).snd.fst.closed), di (h2, v, e).snd.fst.used] = some [db (h2, v, e).snd.fst.decided, db (h2, v, e).snd.fst.yes, D.v (vSts (h2, v, e).snd.fst.run), D.v (vIs (h2, v, e).snd.fst.coefs), di (h2, v, e).snd.fst.mod, D.v (vIs (h2, v, e).snd.fst.vals), D.v (vVs (h2, v, e).snd.fst.closed), di (h2, v, e).snd.fst.used] ∧ True) ∧ True) ∧ D.tup [D.v (V.agg [V.list (List.map eV h2.found), V.list (List.map vi h2.before), V.list (List.map vi h2.rules), vi h2.next, vi h2.cand, vi h2.used]), D.v (V.agg [V.bool (h2, v, e).snd.fst.decided, V.bool (h2, v, e).snd.fst.yes, V.list (List.map vSt (h2, v, e).snd.fst.run), V.list (List.map vi (h2, v, e).snd.fst.coefs), vi (h2, v, e).snd.fst.mod, V.list (List.map vi (h2, v, e).snd.fst.vals), V.list (List.map eV (h2, v, e).snd.fst.closed), vi (h2, v, e).snd.fst.used]), di 0] = dStp (h2, v, 0)) = _) ?_
        exact ⟨hf, hd, ⟨trivial, ⟨rfl, rfl, trivial⟩, trivial⟩, rfl⟩
      · rw [if_neg hd]
        have hd2 := eq_false_of_ne_true hd
        by_cases hx : decide (h2.next ≥ (h2.found.length : Int)) = true
        · rw [if_pos hx]
          refine rest_n mixed 107 [3, 4, 5] 8 2 (.f <| .f <| .t <| .h (.oc (.arr 4 0 h2.found.length) ⟨[some zHn, some zVr, some (cPl h2 m c), some (cV v), some (flatV (h2.found.map eV))], []⟩) <| .h (.oc (.tup []) ⟨[some zHn, some zVr, some (cPl h2 m c), some (cV v), some (flatV ((sortV h2.found).map eV))], []⟩) <| .h (.ct 13 (dVs (sortV h2.found)) ⟨[some zHn, some zVr, some (cPl h2 m c), some (cV v), none], []⟩) .r) ?_
          refine via (by kernel_rfl : (((h2, v, e).snd.snd != 0) = false ∧ (h2, v, e).snd.fst.decided = false ∧ (True ∧ True ∧ True) ∧ decide (h2.next ≥ (↑(List.length (List.map eV h2.found)) : Int)) = true ∧ (∀ (o : Oper) (c_1 : Call) (fo : Operand), o.op = Op.call c_1 → c_1.callee = Callee.value fo → OpOK PP o [D.v (V.fn 41 [] []), dVs h2.found] (St.mk [some zHn, some zVr, some (cPl h2 m c), some [db (h2, v, e).snd.fst.decided, db (h2, v, e).snd.fst.yes, D.v (vSts (h2, v, e).snd.fst.run), D.v (vIs (h2, v, e).snd.fst.coefs), di (h2, v, e).snd.fst.mod, D.v (vIs (h2, v, e).snd.fst.vals), D.v (vVs (h2, v, e).snd.fst.closed), di (h2, v, e).snd.fst.used]] []) (D.arr 4 0 (List.length h2.found)) (St.mk [some zHn, some zVr, some (cPl h2 m c), some (cV v), some (flatV (List.map eV h2.found))] [])) ∧ (∀ (o : Oper) (c_1 : Call) (fo : Operand), o.op = Op.call c_1 → c_1.callee = Callee.value fo → OpOK PP o [D.v (V.fn 42 [] []), D.arr 4 0 (List.length h2.found), D.v (V.fn 43 [] [])] (St.mk [some zHn, some zVr, some (cPl h2 m c), some (cV v), some (flatV (List.map eV h2.found))] []) (D.tup []) (St.mk [some zHn, some zVr, some (cPl h2 m c), some (cV v), some (flatV (List.map eV (sortV h2.found)))] [])) ∧ (∀ (e : List D), e[13]? = some (D.arr 4 0 (List.length h2.found)) → ∀ (E : Ent) (g : Gh) (a : Act) (w : World), FI E g (St.mk [some zHn, some zVr, some (cPl h2 m c), some (cV v), some (flatV (List.map eV (sortV h2.found)))] []) e a w → ∃ g', FI E g' (St.mk [some zHn, some zVr, some (cPl h2 m c), some (cV v), none] []) (List.set e 13 (dVs (sortV h2.found))) a w) ∧ (True ∧ (some [di h2.used] = some [di h2.used] ∧ some [di h2.used] = some [di h2.used] ∧ True) ∧ True) ∧ D.tup [D.v (V.agg [V.list (List.map eV h2.found), V.list (List.map vi h2.before), V.list (List.map vi h2.rules), vi h2.next, vi h2.cand, vi h2.used]), D.v (V.agg [V.bool true, V.bool false, V.list [], V.list [], vi 0, V.list [], V.list (List.map eV (sortV h2.found)), vi h2.used]), di 0] = dStp (h2, closedV (sortV h2.found) h2.used, 0)) = _) ?_
          refine ⟨hf, hd2, ⟨trivial, trivial, trivial⟩, by rw [List.length_map]; exact hx, fun o cl fo ho hc2 => ?_, fun o cl fo ho hc2 => ?_, fun e he => cv_flz (σ := ⟨[some zHn, some zVr, some (cPl h2 m c), some (cV v), some (flatV ((sortV h2.found).map eV))], []⟩) (q := 4) (sz := 2) (by decide) (sizes_eV _) (by rw [List.length_map, (sortV_perm _).length_eq]) rfl he, ⟨trivial, ⟨rfl, rfl, trivial⟩, trivial⟩, rfl⟩
          · exact op_call0_arr (σ := ⟨[some zHn, some zVr, some (cPl h2 m c), some (cV v)], []⟩) (fs := []) (cs := []) (ds := [dVs h2.found]) ho hc2 rfl (pls_flatV _) (allA_spec h2.found (by have := hi2.ok.len; omega) (fun v hv => by have := hi2.ok.size v hv; omega))
          · exact op_call1 (dc := [.arr 0 0 h2.found.length, dfn 43]) (σ := ⟨[some zHn, some zVr, some (cPl h2 m c), some (cV v), some (flatV (h2.found.map eV))], []⟩) (q := 4) (fs := []) (cs := []) ho hc2 rfl (pls_flatV _) (pls_flatV _) (.arr (.pl rfl .nil)) rfl (sortV_spec h2.found (by have := hi2.ok.len; omega) (fun v hv => by have := hi2.ok.size v hv; omega))
        · rw [if_neg hx]
          refine rest_n mixed 107 [3, 4, 5] 8 2 (.f <| .f <| .f <| .c1 (cPl (exclM m c h2).1 m c) (dVrd (exclM m c h2).2) .r) ?_
          refine via (by kernel_rfl : (((h2, v, e).snd.snd != 0) = false ∧ (h2, v, e).snd.fst.decided = false ∧ (True ∧ True ∧ True) ∧ decide (h2.next ≥ (↑(List.length (List.map eV h2.found)) : Int)) = false ∧ FSpec PP 44 [D.ptr 0 0] (St.mk [some (cPl h2 m c)] []) (dVrd (exclM m c h2).snd) (St.mk [some (cPl (exclM m c h2).fst m c)] []) ∧ (True ∧ (some [db (exclM m c h2).snd.decided, db (exclM m c h2).snd.yes, D.v (vSts (exclM m c h2).snd.run), D.v (vIs (exclM m c h2).snd.coefs), di (exclM m c h2).snd.mod, D.v (vIs (exclM m c h2).snd.vals), D.v (vVs (exclM m c h2).snd.closed), di (exclM m c h2).snd.used] = some [db (exclM m c h2).snd.decided, db (exclM m c h2).snd.yes, D.v (vSts (exclM m c h2).snd.run), D.v (vIs (exclM m c h2).snd.coefs), di (exclM m c h2).snd.mod, D.v (vIs (exclM m c h2).snd.vals), D.v (vVs (exclM m c h2).snd.closed), di (exclM m c h2).snd.used] ∧ some [db (exclM m c h2).snd.decided, db (exclM m c h2).snd.yes, D.v (vSts (exclM m c h2).snd.run), D.v (vIs (exclM m c h2).snd.coefs), di (exclM m c h2).snd.mod, D.v (vIs (exclM m c h2).snd.vals), D.v (vVs (exclM m c h2).snd.closed), di (exclM m c h2).snd.used] = some [db (exclM m c h2).snd.decided, db (exclM m c h2).snd.yes, D.v (vSts (exclM m c h2).snd.run), D.v (vIs (exclM m c h2).snd.coefs), di (exclM m c h2).snd.mod, D.v (vIs (exclM m c h2).snd.vals), D.v (vVs (exclM m c h2).snd.closed), di (exclM m c h2).snd.used] ∧ True) ∧ True) ∧ D.tup [D.v (V.agg [V.list (List.map eV (exclM m c h2).fst.found), V.list (List.map vi (exclM m c h2).fst.before), V.list (List.map vi (exclM m c h2).fst.rules), vi (exclM m c h2).fst.next, vi (exclM m c h2).fst.cand, vi (exclM m c h2).fst.used]), D.v (V.agg [V.bool (exclM m c h2).snd.decided, V.bool (exclM m c h2).snd.yes, V.list (List.map vSt (exclM m c h2).snd.run), V.list (List.map vi (exclM m c h2).snd.coefs), vi (exclM m c h2).snd.mod, V.list (List.map vi (exclM m c h2).snd.vals), V.list (List.map eV (exclM m c h2).snd.closed), vi (exclM m c h2).snd.used]), di 0] = dStp ((exclM m c h2).fst, (exclM m c h2).snd, 0)) = _) ?_
          exact ⟨hf, hd2, ⟨trivial, trivial, trivial⟩, by rw [List.length_map]; exact eq_false_of_ne_true hx, excl_spec m hm c hc h2 (by omega), ⟨trivial, ⟨rfl, rfl, trivial⟩, trivial⟩, rfl⟩
end Go.Proofs.YtdfdemnbaiieaaaGreat

namespace Go.Proofs.YtdfdemnbaiieaaaGreat
open Go.Dv Go.Nv
set_option maxRecDepth 20000
theorem exclM_h (m : Mod) (c : Val) (h : Hnt) : (exclM m c h).1 = h ∨ (exclM m c h).1 = nxtH h := by
  rw [exclM]
  split
  · split
    · split
      · exact .inr rfl
      · exact .inr rfl
    · exact .inr rfl
  · exact .inl rfl
/-- the bounds of a hunt after k steps -/
structure HnB (m : Mod) (k : Nat) (h : Hnt) : Prop where
  inv : HnI m h
  next : 0 ≤ h.next ∧ h.next ≤ k
  cand : 0 ≤ h.cand ∧ h.cand ≤ k
  used : 0 ≤ h.used ∧ h.used ≤ k
theorem HnI.use {m : Mod} {h : Hnt} (hh : HnI m h) : HnI m (usedH h) := ⟨⟨hh.ok.ne, hh.ok.len, hh.ok.size, hh.ok.bl, hh.ok.rl, hh.ok.back⟩, hh.cfg⟩
theorem stepH_ok {m : Mod} (hm : PlC m) (c : Val) {k : Nat} {h : Hnt} (hb : HnB m k h) : HnB m (k + 1) (stepH m c h).1 := by
  have hn := hb.next
  have hc := hb.cand
  have hu := hb.used
  obtain ⟨g1, g2, g3, g4, g5⟩ := findM_ok hm c (usedH h) hb.inv.use hn.1
  have e1 : (usedH h).next = h.next := rfl
  have e2 : (usedH h).cand = h.cand := rfl
  have e3 : (usedH h).used = h.used + 1 := rfl
  have hF : HnB m (k + 1) (findM m c (usedH h)).1 := ⟨g1, by omega, by omega, by omega⟩
  rw [stepH]
  split
  · exact ⟨hb.inv.use, (by omega : 0 ≤ h.next ∧ h.next ≤ (k + 1 : Nat)), (by omega : 0 ≤ h.cand ∧ h.cand ≤ (k + 1 : Nat)), (by omega : 0 ≤ (usedH h).used ∧ (usedH h).used ≤ (k + 1 : Nat))⟩
  · split
    · exact ⟨hb.inv, (by omega : 0 ≤ h.next ∧ h.next ≤ (k + 1 : Nat)), (by omega : 0 ≤ h.cand ∧ h.cand ≤ (k + 1 : Nat)), (by omega : 0 ≤ h.used ∧ h.used ≤ (k + 1 : Nat))⟩
    · split
      · exact hF
      · split
        · exact hF
        · rcases exclM_h m c (findM m c (usedH h)).1 with e | e
          · dsimp only; rw [e]; exact hF
          · dsimp only; rw [e]
            exact ⟨⟨⟨g1.ok.ne, g1.ok.len, g1.ok.size, g1.ok.bl, g1.ok.rl, g1.ok.back⟩, g1.cfg⟩, ⟨hF.next.1, hF.next.2⟩, (by omega : 0 ≤ (findM m c (usedH h)).1.cand + 1 ∧ (findM m c (usedH h)).1.cand + 1 ≤ (k + 1 : Nat)), ⟨hF.used.1, hF.used.2⟩⟩
/-- what a hunt of n steps tells -/
def decL (m : Mod) (c : Val) : Nat → Hnt → Vrd → Vrd × Int
  | 0, _, v => (v, 0)
  | n + 1, h, v => if v.decided = true then (v, 0) else if ((stepH m c h).2.2 != 0) = true then (openV 0, (stepH m c h).2.2) else decL m c n (stepH m c h).1 (stepH m c h).2.1
def decM (m : Mod) (c : Val) (n : Nat) : Vrd × Int := decL m c n (hnt0 m) (openV 0)
abbrev dDec (r : Vrd × Int) : D := .tup [dVrd r.1, di r.2]
abbrev cH (h : Hnt) : List D := [dVs h.found, dIs h.before, dIs h.rules, di h.next, di h.cand, di h.used]
abbrev stD (h : Hnt) (v : Vrd) : St := ⟨[some zVr, some (cH h), some (cV v)], []⟩
theorem cv_zero {H : List (Option (List D))} {own : List (Nat × Nat × List V)} {q : Nat} (hq : H[q]? = some (some zVr)) (e : List D) : Cv e ⟨H, own⟩ e ⟨H.set q (some (cV (openV 0))), own⟩ :=
  cv_cells (σ := ⟨H, own⟩) (q := q) (cs := zVr) (cs' := cV (openV 0)) hq (fun g us hr => by
    simp only [repDs, repD, repV_nils] at hr ⊢
    obtain ⟨u0, _, rfl, h0, u1, _, rfl, h1, u2, _, rfl, h2, u3, _, rfl, h3, u4, _, rfl, h4, u5, _, rfl, h5, u6, _, rfl, h6, u7, _, rfl, h7, rfl⟩ := hr
    subst h2 h3 h5 h6
    exact ⟨_, _, rfl, h0, _, _, rfl, h1, _, _, rfl, repV_nil _, _, _, rfl, repV_nil _, _, _, rfl, h4, _, _, rfl, repV_nil _, _, _, rfl, repV_nil _, _, _, rfl, h7, rfl⟩) (fun _ x hx => by
    simp only [cV, List.mem_cons, List.not_mem_nil, or_false] at hx
    rcases hx with rfl | rfl | rfl | rfl | rfl | rfl | rfl | rfl <;> rfl) e
noncomputable abbrev fDcd : Func := Tryz.f8
noncomputable def cDcd : Code := fDcd.body.getD .skip
theorem hnt0_ok {m : Mod} (hm : PlC m) : HnB m 0 (hnt0 m) where
  inv := ⟨⟨by simp [hnt0], by simp [hnt0], fun v hv => by rw [List.mem_singleton.1 hv]; have := hm.start.size hm; omega, rfl, rfl, fun i b hb => by
    have h1 := (List.getElem?_eq_some_iff.1 hb).1
    simp [hnt0] at h1; subst h1
    simp [hnt0] at hb; omega⟩, fun v hv => by rw [List.mem_singleton.1 hv]; exact hm.start⟩
  next := by simp [hnt0]
  cand := by simp [hnt0]
  used := by simp [hnt0]
theorem dcd_loop (m : Mod) (hm : PlC m) (c : Val) (hc : CfgOK m c) (N : Nat) (hN : N ≤ 400) (n : Nat) : ∀ (k : Nat) (h : Hnt) (v : Vrd), N - k = n → HnB m k h →
    Rn PP fDcd 0 (dDec (decL m c n h v)) σ0 ([.lp (sub cDcd [1, 1, 1, 1, 0, 1, 0, 0]), .blk 0, .code (sub cDcd [1, 1, 1, 1, 1])] ++ []) (mkE 45 [(2, di N), (3, .v (.ref (vMod m))), (4, .v (.ref (vVal c))), (6, .ptr 0 0), (7, di 0), (8, .ptr 1 0), (10, .ptr 2 0), (11, di k)]) (stD h v) := by
  induction n with
  | zero =>
    intro k h v hn hb
    rw [decL]
    refine loop_vc mixed 45 [3, 4] (.f .r) ?_
    refine via (by kernel_rfl : (decide ((↑k : Int) < (↑N : Int)) = false ∧ D.tup [D.v (V.agg [V.bool v.decided, V.bool v.yes, V.list (List.map vSt v.run), V.list (List.map vi v.coefs), vi v.mod, V.list (List.map vi v.vals), V.list (List.map eV v.closed), vi v.used]), di 0] = dDec (v, 0)) = _) ?_
    exact ⟨decide_eq_false (by omega), rfl⟩
  | succ n ih =>
    intro k h v hn hb
    rw [decL]
    by_cases hd : v.decided = true
    · rw [if_pos hd]
      refine loop_vc mixed 45 [3, 4] (.t <| .f .r) ?_
      refine via (by kernel_rfl : (decide ((↑k : Int) < (↑N : Int)) = true ∧ (!v.decided) = false ∧ D.tup [D.v (V.agg [V.bool v.decided, V.bool v.yes, V.list (List.map vSt v.run), V.list (List.map vi v.coefs), vi v.mod, V.list (List.map vi v.vals), V.list (List.map eV v.closed), vi v.used]), di 0] = dDec (v, 0)) = _) ?_
      exact ⟨decide_eq_true (by omega), by rw [hd]; rfl, rfl⟩
    · rw [if_neg hd]
      have hnd : (!v.decided) = true := by simpa using hd
      have hst := step_spec m hm c hc h hb.inv (by have := hb.next; omega) (by have := hb.cand; omega) (by have := hb.used; omega)
      have hok := stepH_ok hm c hb
      generalize stepH m c h = p at *
      by_cases he : (p.2.2 != 0) = true
      · rw [if_pos he]
        refine loop_vc mixed 45 [3, 4] (.t <| .t <| .c (dStp p) <| .t .r) ?_
        refine via (by kernel_rfl : (decide ((↑k : Int) < (↑N : Int)) = true ∧ (!v.decided) = true ∧ FSpec PP 19 [D.v (vMod m), D.v (vVal c), D.v (V.agg [vVs h.found, vIs h.before, vIs h.rules, vi h.next, vi h.cand, vi h.used])] (St.mk [] []) (dStp p) (St.mk [] []) ∧ (p.snd.snd != 0) = true ∧ D.tup [D.v (V.agg [V.bool false, V.bool false, V.list [], V.list [], vi 0, V.list [], V.list [], vi 0]), di p.snd.snd] = dDec (openV 0, p.snd.snd)) = _) ?_
        exact ⟨decide_eq_true (by omega), hnd, hst, he, rfl⟩
      · rw [if_neg he]
        refine loop_vc mixed 45 [3, 4] (.t <| .t <| .c (dStp p) <| .f <| .lo [ke 2, ke 3, ke 4, ke 6, ke 7, ke 8, ke 10, ch 11 (di (k + 1 : Nat))] (stD p.1 p.2.1)) ?_
        refine via (by kernel_rfl : (decide ((↑k : Int) < (↑N : Int)) = true ∧ (!v.decided) = true ∧ FSpec PP 19 [D.v (vMod m), D.v (vVal c), D.v (V.agg [vVs h.found, vIs h.before, vIs h.rules, vi h.next, vi h.cand, vi h.used])] (St.mk [] []) (dStp p) (St.mk [] []) ∧ (p.snd.snd != 0) = false ∧ di (IntKind.wrap IntKind.i64 ((↑k : Int) + 1)) = di (↑(k + 1) : Int) ∧ okH 3 [] [some zVr, some [D.v (vVs p.fst.found), D.v (vIs p.fst.before), D.v (vIs p.fst.rules), di p.fst.next, di p.fst.cand, di p.fst.used], some [db p.snd.fst.decided, db p.snd.fst.yes, D.v (vSts p.snd.fst.run), D.v (vIs p.snd.fst.coefs), di p.snd.fst.mod, D.v (vIs p.snd.fst.vals), D.v (vVs p.snd.fst.closed), di p.snd.fst.used]] = true ∧ [some zVr, some [D.v (vVs p.fst.found), D.v (vIs p.fst.before), D.v (vIs p.fst.rules), di p.fst.next, di p.fst.cand, di p.fst.used], some [db p.snd.fst.decided, db p.snd.fst.yes, D.v (vSts p.snd.fst.run), D.v (vIs p.snd.fst.coefs), di p.snd.fst.mod, D.v (vIs p.snd.fst.vals), D.v (vVs p.snd.fst.closed), di p.snd.fst.used]] = [some zVr, some (cH p.fst), some (cV p.snd.fst)] ∧ Nv.It (RunC (CN 0) PP (fun env σ1 => ResOK PP fDcd env σ1 (dDec (decL m c n p.fst p.snd.fst)) σ0) [KI.lp (sub cDcd [1, 1, 1, 1, 0, 1, 0, 0]), KI.blk 0, KI.code (sub cDcd [1, 1, 1, 1, 1])] (mkE 45 [(2, di (↑N : Int)), (3, D.v (V.ref (vMod m))), (4, D.v (V.ref (vVal c))), (6, D.ptr 0 0), (7, di 0), (8, D.ptr 1 0), (10, D.ptr 2 0), (11, di (↑(k + 1) : Int))]) (stD p.fst p.snd.fst))) = _) ?_
        exact ⟨decide_eq_true (by omega), hnd, hst, eq_false_of_ne_true he, by rw [wrap_succ (by omega)], rfl, rfl, ⟨ih (k + 1) p.1 p.2.1 (by omega) hok⟩⟩
theorem dcd_spec (m : Mod) (hm : PlC m) (c : Val) (hc : CfgOK m c) (N : Nat) (hN : N ≤ 400) : FSpec PP 8 [dMod m, dV c, di N] σ0 (dDec (decM m c N)) σ0 := by
  refine spec_vc mixed fDcd cDcd (by kernel_rfl) (by kernel_rfl) (by kernel_rfl) (by kernel_rfl) 45 (by kernel_rfl) [3, 4] (.c (.tup [dHnt (hnt0 m), di 0]) <| .h (.q 5 0) <| .h (.cs (stD (hnt0 m) (openV 0))) <| .lo [ke 2, ke 3, ke 4, ke 6, ke 7, ke 8, ke 10, ch 11 (di (0 : Nat))] (stD (hnt0 m) (openV 0))) ?_
  refine via (by kernel_rfl : (FSpec PP 18 [D.v (vMod m), D.v (vVal c)] (St.mk [] []) (D.tup [dHnt (hnt0 m), di 0]) (St.mk [] []) ∧ (∀ (e : List D) (E : Ent) (g : Gh) (a : Act) (w : World), FI E g (St.mk [some [D.v (V.bool false), D.v (V.bool false), D.v V.nils, D.v V.nils, D.v (V.int IntKind.i64 0), D.v V.nils, D.v V.nils, D.v (V.int IntKind.i64 0)], some [D.v (vVs (hnt0 m).found), D.v (vIs (hnt0 m).before), D.v (vIs (hnt0 m).rules), D.v (vi (hnt0 m).next), D.v (vi (hnt0 m).cand), D.v (vi (hnt0 m).used)], some [D.v (V.bool false), D.v (V.bool false), D.v V.nils, D.v V.nils, D.v (V.int IntKind.i64 0), D.v V.nils, D.v V.nils, D.v (V.int IntKind.i64 0)]] []) e a w → ∃ g', FI E g' (stD (hnt0 m) (openV 0)) e a w) ∧ di 0 = di (↑0 : Int) ∧ okH 3 [] [some zVr, some (cH (hnt0 m)), some (cV (openV 0))] = true ∧ [some zVr, some (cH (hnt0 m)), some (cV (openV 0))] = [some zVr, some (cH (hnt0 m)), some (cV (openV 0))] ∧ Nv.It (RunC (CN (List.length σ0.H)) PP (fun env σ1 => ResOK PP fDcd env σ1 (dDec (decM m c N)) σ0) [KI.lp (sub cDcd [1, 1, 1, 1, 0, 1, 0, 0]), KI.blk 0, KI.code (sub cDcd [1, 1, 1, 1, 1])] (mkE 45 [(2, di (↑N : Int)), (3, D.v (V.ref (vMod m))), (4, D.v (V.ref (vVal c))), (6, D.ptr 0 0), (7, di 0), (8, D.ptr 1 0), (10, D.ptr 2 0), (11, di (↑0 : Int))]) (stD (hnt0 m) (openV 0)))) = _) ?_
  exact ⟨rstart_spec m hm c hc, fun e => (cv_zero (H := [some zVr, some (cH (hnt0 m)), some zVr]) (q := 2) rfl e), rfl, rfl, rfl, ⟨dcd_loop m hm c hc N hN N 0 (hnt0 m) (openV 0) rfl (hnt0_ok hm)⟩⟩
end Go.Proofs.YtdfdemnbaiieaaaGreat

namespace Go.Proofs.YtdfdemnbaiieaaaGreat
open Go.Dv Go.Nv
set_option maxRecDepth 20000
def rulS : Rul := ⟨[114], 0, 0, [1], [3], [], 0, 0, 0, [], [], [], [], 0⟩
def modS : Mod := ⟨1, [[97]], [[120]], [], [], 0, 0, [rulS], cfgV 0 [2]⟩
theorem modS_ok : modS.ok where
  kind := .inl rfl
  sized := by kernel_rfl
  ranked := by kernel_rfl
  named := by kernel_rfl
  rshort := fun r hr => by rw [List.mem_singleton.1 hr]; exact ⟨by decide, by decide, by decide, by decide, by decide, by decide, by decide⟩
  right := fun r hr => by rw [List.mem_singleton.1 hr]; kernel_rfl
  start := by kernel_rfl
  ssize := by show (cfgV 0 [2]).size ≤ 1000000; decide
theorem modS_plc : PlC modS where
  ok := modS_ok
  kind := rfl
  move := fun r hr => by rw [List.mem_singleton.1 hr]; rfl
  start := cfgOK modS 0 (by decide) [2] rfl (by intro y hy; rw [List.mem_singleton.1 hy]; decide)
  few := by decide
theorem sane_1 : (decM modS (cfgV 0 [5]) 30) = (⟨true, false, [], [-1], 2, [0], [], 4⟩, 0) := by kernel_rfl
theorem sane_2 : (decM modS (cfgV 0 [6]) 30) = (⟨true, true, [(0, cfgV 0 [4]), (0, cfgV 0 [6])], [], 0, [], [], 2⟩, 0) := by kernel_rfl
noncomputable abbrev fSane : Func := Tryz.f5
noncomputable def cSane : Code := fSane.body.getD .skip
theorem sane_spec : FSpec PP 5 [] σ0 (db true) σ0 := by
  refine spec_vc mixed fSane cSane (by kernel_rfl) (by kernel_rfl) (by kernel_rfl) (by kernel_rfl) 70 (by kernel_rfl) [] (.c (dDec (⟨true, false, [], [-1], 2, [0], [], 4⟩, 0)) <| .c (dDec (⟨true, true, [(0, cfgV 0 [4]), (0, cfgV 0 [6])], [], 0, [], [], 2⟩, 0)) .r) ?_
  refine via (by kernel_rfl : (FSpec PP 8 [D.v (V.agg [vi 1, V.list [V.str (ByteArray.mk #[97]).data.toList], V.list [V.str (ByteArray.mk #[120]).data.toList], V.list [], V.list [], vi 0, vi 0, V.list [V.agg [V.str (ByteArray.mk #[114]).data.toList, vi 0, vi 0, V.list [vi 1], V.list [vi 3], V.list [], vi 0, vi 0, vi 0, V.list [], V.list [], V.list [], V.list [], vi 0]], vi 0, V.list [V.agg [vi 0, V.list []], V.agg [vi 2, V.list []]]]), D.v (V.agg [vi 0, V.list [V.agg [vi 0, V.list []], V.agg [vi 5, V.list []]]]), di 30] (St.mk [] []) (dDec (Vrd.mk true false [] [-1] 2 [0] [] 4, 0)) (St.mk [] []) ∧ FSpec PP 8 [D.v (V.agg [vi 1, V.list [V.str (ByteArray.mk #[97]).data.toList], V.list [V.str (ByteArray.mk #[120]).data.toList], V.list [], V.list [], vi 0, vi 0, V.list [V.agg [V.str (ByteArray.mk #[114]).data.toList, vi 0, vi 0, V.list [vi 1], V.list [vi 3], V.list [], vi 0, vi 0, vi 0, V.list [], V.list [], V.list [], V.list [], vi 0]], vi 0, V.list [V.agg [vi 0, V.list []], V.agg [vi 2, V.list []]]]), D.v (V.agg [vi 0, V.list [V.agg [vi 0, V.list []], V.agg [vi 6, V.list []]]]), di 30] (St.mk [] []) (dDec (Vrd.mk true true [(0, cfgV 0 [4]), (0, cfgV 0 [6])] [] 0 [] [] 2, 0)) (St.mk [] []) ∧ db ((↑(List.length (List.map vSt (Vrd.mk true true [(0, cfgV 0 [4]), (0, cfgV 0 [6])] [] 0 [] [] 2, 0).fst.run)) : Int) == 2) = db true) = _) ?_
  have h1 := dcd_spec modS modS_plc (cfgV 0 [5]) (cfgOK modS 0 (by decide) [5] rfl (by intro y hy; rw [List.mem_singleton.1 hy]; decide)) 30 (by decide)
  have h2 := dcd_spec modS modS_plc (cfgV 0 [6]) (cfgOK modS 0 (by decide) [6] rfl (by intro y hy; rw [List.mem_singleton.1 hy]; decide)) 30 (by decide)
  rw [sane_1] at h1
  rw [sane_2] at h2
  exact ⟨h1, h2, rfl⟩
end Go.Proofs.YtdfdemnbaiieaaaGreat

namespace Go.Proofs.YtdfdemnbaiieaaaGreat
open Go.Dv Go.Nv
set_option maxRecDepth 20000
noncomputable abbrev fPln28 : Func := Tryz.f54
noncomputable def cPln28 : Code := fPln28.body.getD .skip
theorem pln28_loop (m : Mod) (hm : PlC m) (n : Nat) : ∀ k : Nat, m.rules.length - k = n →
    Rn PP fPln28 0 (di 0) σ0 ([.lp (sub cPln28 [1, 1, 1, 0, 1, 0, 0]), .blk 0, .code (sub cPln28 [1, 1, 1, 1])] ++ []) (mkE 28 [(1, .v (.ref (vMod m))), (4, di k)]) σ0 := by
  induction n with
  | zero =>
    intro k hn
    refine loop_vc mixed 28 [1] (.f .r) ?_
    refine via (by kernel_rfl : (decide ((↑k : Int) < (↑(List.length (List.map vRul m.rules)) : Int)) = false ∧ di 0 = di 0) = _) ?_
    exact ⟨decide_eq_false (by rw [List.length_map]; omega), rfl⟩
  | succ n ih =>
    intro k hn
    have hk : k < m.rules.length := by omega
    obtain ⟨r, hr⟩ : ∃ r, m.rules[k]? = some r := ⟨_, List.getElem?_eq_getElem hk⟩
    have hmv := hm.move r (List.mem_of_getElem? hr)
    refine loop_vc mixed 28 [1] (.t <| .x (vRul r) <| .f <| .l [ke 1, ch 4 (di (k + 1 : Nat))]) ?_
    refine via (by kernel_rfl : (decide ((↑k : Int) < (↑(List.length (List.map vRul m.rules)) : Int)) = true ∧ 0 ≤ (↑k : Int) ∧ (List.map vRul m.rules)[Int.toNat (↑k : Int)]? = some (vRul r) ∧ decide ((↑(List.length (List.map vi r.move)) : Int) > 0) = false ∧ di (IntKind.wrap IntKind.i64 ((↑k : Int) + 1)) = di (↑(k + 1) : Int) ∧ Nv.It (RunC (CN 0) PP (fun env σ1 => ResOK PP fPln28 env σ1 (di 0) σ0) [KI.lp (sub cPln28 [1, 1, 1, 0, 1, 0, 0]), KI.blk 0, KI.code (sub cPln28 [1, 1, 1, 1])] (mkE 28 [(1, D.v (V.ref (vMod m))), (4, di (↑(k + 1) : Int))]) σ0)) = _) ?_
    exact ⟨decide_eq_true (by rw [List.length_map]; omega), by omega, idx_some hr, by rw [hmv]; rfl, wrap_succ (by have := hm.places; omega), ⟨ih (k + 1) (by omega)⟩⟩
theorem pln28_spec (m : Mod) (hm : PlC m) : FSpec PP 54 [dMod m] σ0 (di 0) σ0 := by
  refine spec_vc mixed fPln28 cPln28 (by kernel_rfl) (by kernel_rfl) (by kernel_rfl) (by kernel_rfl) 28 (by kernel_rfl) [1] (.c (di 0) <| .k <| .f <| .l [ke 1, ch 4 (di (0 : Nat))]) ?_
  refine via (by kernel_rfl : (FSpec PP 46 [D.v (vMod m)] (St.mk [] []) (di 0) (St.mk [] []) ∧ (m.kind != 1) = false ∧ di 0 = di (↑0 : Int) ∧ Nv.It (RunC (CN (List.length σ0.H)) PP (fun env σ1 => ResOK PP fPln28 env σ1 (di 0) σ0) [KI.lp (sub cPln28 [1, 1, 1, 0, 1, 0, 0]), KI.blk 0, KI.code (sub cPln28 [1, 1, 1, 1])] (mkE 28 [(1, D.v (V.ref (vMod m))), (4, di (↑0 : Int))]) σ0)) = _) ?_
  exact ⟨chk15_spec m hm.ok, by rw [hm.kind]; rfl, rfl, ⟨pln28_loop m hm _ 0 rfl⟩⟩
noncomputable abbrev fNum28 : Func := Tryz.f59
noncomputable def cNum28 : Code := fNum28.body.getD .skip
theorem num28_loop (c : Val) (ys : List Int) (s : Int) (hc : IsC c s ys) (hl : ys.length ≤ 1000) (n : Nat) : ∀ k : Nat, ys.length - k = n → k ≤ ys.length →
    Rn PP fNum28 0 (dIs ys) σ0 ([.lp (sub cNum28 [1, 1, 0, 1, 0, 0]), .blk 0, .code (sub cNum28 [1, 1, 1])] ++ []) (mkE 22 [(1, .v (.ref (vVal c))), (3, accI (ys.take k)), (4, di (k + 1 : Nat))]) ⟨[], [(1, 1, (ys.take k).map vi)]⟩ := by
  have hlen : c.kids.length = ys.length + 1 := hc.len
  induction n with
  | zero =>
    intro k hn hk
    refine loop_vc mixed 22 [1] (.f .r) ?_
    refine via (by kernel_rfl : (decide ((↑(k + 1) : Int) < (↑(List.length (List.map eV (Val.kids c))) : Int)) = false ∧ D.v (V.list (List.map vi (List.take k ys))) = dIs ys) = _) ?_
    rw [List.take_of_length_le (show ys.length ≤ k by omega)]
    exact ⟨decide_eq_false (by rw [List.length_map]; omega), rfl⟩
  | succ n ih =>
    intro k hn hk
    obtain ⟨y, hy⟩ : ∃ y, ys[k]? = some y := ⟨_, List.getElem?_eq_getElem (show k < ys.length by omega)⟩
    refine loop_vc mixed 22 [1] (.t <| .h (.xs (vVal (lf y))) <| .ls [ke 1, ch 3 (accI (ys.take (k + 1))), ch 4 (di (k + 1 + 1 : Nat))] ⟨[], [(1, 1, (ys.take (k + 1)).map vi)]⟩) ?_
    refine via (by kernel_rfl : (decide ((↑(k + 1) : Int) < (↑(List.length (List.map eV (Val.kids c))) : Int)) = true ∧ 2 = 2 ∧ 0 ≤ (↑(k + 1) : Int) ∧ (List.map eV (Val.kids c))[Int.toNat (↑(k + 1) : Int)]? = some (vVal (lf y)) ∧ List.map vi (List.take k ys) = List.map vi (List.take k ys) ∧ LenOK (List.length (List.map vi (List.take k ys)) + List.length (vi (Val.n (lf y)) :: nV)) 8 ∧ D.acc 1 (List.map vi (List.take k ys) ++ [vi (Val.n (lf y))]) = accI (List.take (k + 1) ys) ∧ di (IntKind.wrap IntKind.i64 ((↑(k + 1) : Int) + 1)) = di (↑(k + 1 + 1) : Int) ∧ [(1, 1, List.map vi (List.take k ys) ++ vi (Val.n (lf y)) :: nV)] = [(1, 1, List.map vi (List.take (k + 1) ys))] ∧ Nv.It (RunC (CN 0) PP (fun env σ1 => ResOK PP fNum28 env σ1 (dIs ys) σ0) [KI.lp (sub cNum28 [1, 1, 0, 1, 0, 0]), KI.blk 0, KI.code (sub cNum28 [1, 1, 1])] (mkE 22 [(1, D.v (V.ref (vVal c))), (3, accI (List.take (k + 1) ys)), (4, di (↑(k + 1 + 1) : Int))]) (St.mk [] [(1, 1, List.map vi (List.take (k + 1) ys))]))) = _) ?_
    have ht : ys.take (k + 1) = ys.take k ++ [y] := by rw [List.take_add_one, hy]; rfl
    have hi : (List.map eV (Val.kids c))[Int.toNat ((k + 1 : Nat) : Int)]? = some (vVal (lf y)) := by
      rw [isC_kids hc]
      exact idx_val (by rw [List.getElem?_cons_succ, List.getElem?_map, hy]; rfl)
    refine ⟨decide_eq_true (by rw [List.length_map]; omega), rfl, by omega, hi, rfl, ⟨?_, ?_⟩, ?_, wrap_succ (by omega), ?_, ⟨ih (k + 1) (by omega) (by omega)⟩⟩
    · simp only [List.length_map, List.length_take, List.length_cons, List.length_nil]; omega
    · simp only [List.length_map, List.length_take, List.length_cons, List.length_nil]; omega
    · rw [ht, accI, List.map_append]; rfl
    · rw [ht, List.map_append]; rfl
theorem num28_spec (c : Val) (s : Int) (ys : List Int) (hc : IsC c s ys) (hl : ys.length ≤ 1000) : FSpec PP 59 [dV c] σ0 (dIs ys) σ0 := by
  refine spec_vc mixed fNum28 cNum28 (by kernel_rfl) (by kernel_rfl) (by kernel_rfl) (by kernel_rfl) 22 (by kernel_rfl) [1] (.h (.q 2 0) <| .h (.nw 3 1 1) <| .ls [ke 1, ke 3, ch 4 (di (0 + 1 : Nat))] ⟨[], [(1, 1, [])]⟩) ?_
  refine via (by kernel_rfl : (di 1 = di (↑(0 + 1) : Int) ∧ [(1, 1, nV)] = [(1, 1, nV)] ∧ Nv.It (RunC (CN (List.length σ0.H)) PP (fun env σ1 => ResOK PP fNum28 env σ1 (dIs ys) σ0) [KI.lp (sub cNum28 [1, 1, 0, 1, 0, 0]), KI.blk 0, KI.code (sub cNum28 [1, 1, 1])] (mkE 22 [(1, D.v (V.ref (vVal c))), (3, D.acc 1 []), (4, di (↑(0 + 1) : Int))]) (St.mk [] [(1, 1, [])]))) = _) ?_
  exact ⟨rfl, rfl, ⟨num28_loop c ys s hc hl _ 0 rfl (Nat.zero_le _)⟩⟩
noncomputable abbrev fSum32 : Func := Tryz.f58
noncomputable def cSum32 : Code := fSum32.body.getD .skip
theorem sum32_loop (cs vs : List Int) (hl : cs.length ≤ vs.length) (hl2 : cs.length ≤ 100) (hc : ∀ c ∈ cs, -4 ≤ c ∧ c ≤ 4) (hv : ∀ v ∈ vs, 0 ≤ v ∧ v ≤ 1048576) (N : Nat) : ∀ (k : Nat) (a : Int), cs.length - k = N → k ≤ cs.length → -(4194304 * (k : Int)) ≤ a ∧ a ≤ 4194304 * (k : Int) →
    Rn PP fSum32 0 (di (a + sumM (cs.drop k) (vs.drop k))) σ0 ([.lp (sub cSum32 [1, 1, 0, 1, 0, 0]), .blk 0, .code (sub cSum32 [1, 1, 1])] ++ []) (mkE 31 [(0, dIs cs), (1, dIs vs), (5, di a), (6, di k)]) σ0 := by
  induction N with
  | zero =>
    intro k a hn hk ha
    refine loop_vc mixed 31 [] (.f .r) ?_
    refine via (by kernel_rfl : (decide ((↑k : Int) < (↑(List.length (List.map vi cs)) : Int)) = false ∧ di a = di (a + sumM (List.drop k cs) (List.drop k vs))) = _) ?_
    refine ⟨decide_eq_false (by rw [List.length_map]; omega), ?_⟩
    rw [List.drop_of_length_le (show cs.length ≤ k by omega)]; simp only [sumM, Int.add_zero]
  | succ N ih =>
    intro k a hn hk ha
    obtain ⟨c, hc1⟩ : ∃ c, cs[k]? = some c := ⟨_, List.getElem?_eq_getElem (show k < cs.length by omega)⟩
    obtain ⟨v, hv1⟩ : ∃ v, vs[k]? = some v := ⟨_, List.getElem?_eq_getElem (show k < vs.length by omega)⟩
    refine loop_vc mixed 31 [] (.t <| .t <| .x (vi c) <| .x (vi v) <| .l [ke 0, ke 1, ch 5 (di (a + c * v)), ch 6 (di (k + 1 : Nat))]) ?_
    refine via (by kernel_rfl : (decide ((↑k : Int) < (↑(List.length (List.map vi cs)) : Int)) = true ∧ decide ((↑k : Int) < (↑(List.length (List.map vi vs)) : Int)) = true ∧ 0 ≤ (↑k : Int) ∧ (List.map vi cs)[Int.toNat (↑k : Int)]? = some (vi c) ∧ 0 ≤ (↑k : Int) ∧ (List.map vi vs)[Int.toNat (↑k : Int)]? = some (vi v) ∧ di (IntKind.wrap IntKind.i64 (a + IntKind.wrap IntKind.i64 (c * v))) = di (a + c * v) ∧ di (IntKind.wrap IntKind.i64 ((↑k : Int) + 1)) = di (↑(k + 1) : Int) ∧ Nv.It (RunC (CN 0) PP (fun env σ1 => ResOK PP fSum32 env σ1 (di (a + sumM (List.drop k cs) (List.drop k vs))) σ0) [KI.lp (sub cSum32 [1, 1, 0, 1, 0, 0]), KI.blk 0, KI.code (sub cSum32 [1, 1, 1])] (mkE 31 [(0, D.v (vIs cs)), (1, D.v (vIs vs)), (5, di (a + c * v)), (6, di (↑(k + 1) : Int))]) (St.mk [] []))) = _) ?_
    have h2 := mul_bd (hc c (List.mem_of_getElem? hc1)) (hv v (List.mem_of_getElem? hv1))
    have e3 : cs.drop k = c :: cs.drop (k + 1) := by rw [List.drop_eq_getElem_cons (by omega)]; congr 1; rw [List.getElem?_eq_getElem (by omega)] at hc1; simpa using hc1
    have e4 : vs.drop k = v :: vs.drop (k + 1) := by rw [List.drop_eq_getElem_cons (by omega)]; congr 1; rw [List.getElem?_eq_getElem (by omega)] at hv1; simpa using hv1
    have hi := ih (k + 1) (a + c * v) (by omega) (by omega) (by omega)
    rw [e3, e4]
    simp only [sumM]
    rw [← Int.add_assoc]
    refine ⟨decide_eq_true (by rw [List.length_map]; omega), decide_eq_true (by rw [List.length_map]; omega), by omega, idx_some hc1, by omega, idx_some hv1, ?_, wrap_succ (by omega), ⟨hi⟩⟩
    rw [wrap_id (n := c * v) (by omega) (by omega), wrap_id (by omega) (by omega)]
theorem sum32_spec (cs vs : List Int) (hl : cs.length ≤ vs.length) (hl2 : cs.length ≤ 100) (hc : ∀ c ∈ cs, -4 ≤ c ∧ c ≤ 4) (hv : ∀ v ∈ vs, 0 ≤ v ∧ v ≤ 1048576) : FSpec PP 58 [dIs cs, dIs vs] σ0 (di (sumM cs vs)) σ0 := by
  refine spec_vc mixed fSum32 cSum32 (by kernel_rfl) (by kernel_rfl) (by kernel_rfl) (by kernel_rfl) 31 (by kernel_rfl) [] (.l [ke 0, ke 1, ke 5, ch 6 (di (0 : Nat))]) ?_
  refine via (by kernel_rfl : (di 0 = di (↑0 : Int) ∧ Nv.It (RunC (CN (List.length σ0.H)) PP (fun env σ1 => ResOK PP fSum32 env σ1 (di (sumM cs vs)) σ0) [KI.lp (sub cSum32 [1, 1, 0, 1, 0, 0]), KI.blk 0, KI.code (sub cSum32 [1, 1, 1])] (mkE 31 [(0, dIs cs), (1, dIs vs), (5, di 0), (6, di (↑0 : Int))]) σ0)) = _) ?_
  have := sum32_loop cs vs hl hl2 hc hv _ 0 0 rfl (by omega) (by omega)
  simp only [Int.zero_add, List.drop_zero] at this
  exact ⟨rfl, ⟨this⟩⟩
noncomputable abbrev fRest32 : Func := Tryz.f57
noncomputable def cRest32 : Code := fRest32.body.getD .skip
theorem rest32_spec (n k : Int) (hk : 1 ≤ k ∧ k ≤ 100) (hn : -1125899906842624 ≤ n ∧ n ≤ 1125899906842624) : FSpec PP 57 [di n, di k] σ0 (di (n % k)) σ0 := by
  refine spec_vc mixed fRest32 cRest32 (by kernel_rfl) (by kernel_rfl) (by kernel_rfl) (by kernel_rfl) 12 (by kernel_rfl) [] .r ?_
  refine via (by kernel_rfl : (k ≠ 0 ∧ k ≠ 0 ∧ di (Int.tmod (IntKind.wrap IntKind.i64 (Int.tmod n k + k)) k) = di (n % k)) = _) ?_
  have h1 := Int.lt_tmod_of_pos n (show 0 < k by omega)
  have h2 := Int.tmod_lt_of_pos n (show 0 < k by omega)
  have e1 : IntKind.i64.wrap (n.tmod k + k) = n.tmod k + k := wrap_id (by omega) (by omega)
  rw [e1]
  refine ⟨by omega, by omega, ?_⟩
  congr 3
  rw [Int.tmod_eq_emod_of_nonneg (by omega), Int.add_emod_right]
  have e := Int.mul_tdiv_add_tmod n k
  conv => rhs; rw [← e, Int.add_comm, Int.add_mul_emod_self_left]
noncomputable abbrev fEff32 : Func := Tryz.f56
noncomputable def cEff32 : Code := fEff32.body.getD .skip
theorem eff32_spec (m : Mod) (r : Rul) (hr : RulOK m r) (cs : List Int) (hl : cs.length = m.places.length) (hl2 : cs.length ≤ 2) (hc : ∀ c ∈ cs, -4 ≤ c ∧ c ≤ 4) : FSpec PP 56 [dRul r, dIs cs] σ0 (di (effM cs r)) σ0 := by
  have b1 : ∀ v ∈ r.give, 0 ≤ v ∧ v ≤ 1048576 := fun v hv => by have := hr.give v hv; omega
  have b2 : ∀ v ∈ r.need, 0 ≤ v ∧ v ≤ 1048576 := fun v hv => by have := hr.need v hv; omega
  refine spec_vc mixed fEff32 cEff32 (by kernel_rfl) (by kernel_rfl) (by kernel_rfl) (by kernel_rfl) 14 (by kernel_rfl) [2] (.c (di (sumM cs r.give)) <| .c (di (sumM cs r.need)) .r) ?_
  refine via (by kernel_rfl : (FSpec PP 58 [D.v (vIs cs), D.v (vIs r.give)] (St.mk [] []) (di (sumM cs r.give)) (St.mk [] []) ∧ FSpec PP 58 [D.v (vIs cs), D.v (vIs r.need)] (St.mk [] []) (di (sumM cs r.need)) (St.mk [] []) ∧ di (IntKind.wrap IntKind.i64 (sumM cs r.give - sumM cs r.need)) = di (effM cs r)) = _) ?_
  have h1 := sumM_bd cs r.give hc b1
  have h2 := sumM_bd cs r.need hc b2
  refine ⟨sum32_spec cs r.give (by rw [hl, hr.giveL]; exact Nat.le_refl _) (by omega) hc b1, sum32_spec cs r.need (by rw [hl, hr.needL]; exact Nat.le_refl _) (by omega) hc b2, ?_⟩
  rw [wrap_id (by omega) (by omega)]; rfl
noncomputable abbrev fRgt32 : Func := Tryz.f55
noncomputable def cRgt32 : Code := fRgt32.body.getD .skip
theorem rgt32_loop (cs : List Int) (md : Int) (hl : cs.length ≤ 1000) (hc : ∀ c ∈ cs, -4 ≤ c ∧ c ≤ 4) (hm : md = 0 ∨ 2 ≤ md ∧ md ≤ 8) (n : Nat) : ∀ k : Nat, cs.length - k = n →
    Rn PP fRgt32 0 (db true) σ0 ([.lp (sub cRgt32 [1, 0, 1, 0, 0]), .blk 0, .code (sub cRgt32 [1, 1])] ++ []) (mkE 34 [(0, dIs cs), (1, di md), (5, di k)]) σ0 := by
  induction n with
  | zero =>
    intro k hn
    by_cases h : (md == 0) = true
    · refine loop_vc mixed 34 [] (.f <| .t .r) ?_
      refine via (by kernel_rfl : (decide ((↑k : Int) < (↑(List.length (List.map vi cs)) : Int)) = false ∧ (md == 0) = true ∧ db true = db true) = _) ?_
      exact ⟨decide_eq_false (by rw [List.length_map]; omega), h, rfl⟩
    · refine loop_vc mixed 34 [] (.f <| .f <| .t .r) ?_
      refine via (by kernel_rfl : (decide ((↑k : Int) < (↑(List.length (List.map vi cs)) : Int)) = false ∧ (md == 0) = false ∧ decide (md ≥ 2) = true ∧ db (decide (md ≤ 8)) = db true) = _) ?_
      have h2 : md ≠ 0 := by simpa using h
      exact ⟨decide_eq_false (by rw [List.length_map]; omega), eq_false_of_ne_true h, decide_eq_true (by omega), by rw [decide_eq_true (by omega)]⟩
  | succ n ih =>
    intro k hn
    obtain ⟨c, hc1⟩ : ∃ c, cs[k]? = some c := ⟨_, List.getElem?_eq_getElem (show k < cs.length by omega)⟩
    have h2 := hc c (List.mem_of_getElem? hc1)
    refine loop_vc mixed 34 [] (.t <| .x (vi c) <| .f <| .x (vi c) <| .f <| .l [ke 0, ke 1, ch 5 (di (k + 1 : Nat))]) ?_
    refine via (by kernel_rfl : (decide ((↑k : Int) < (↑(List.length (List.map vi cs)) : Int)) = true ∧ 0 ≤ (↑k : Int) ∧ (List.map vi cs)[Int.toNat (↑k : Int)]? = some (vi c) ∧ decide (c < -4) = false ∧ 0 ≤ (↑k : Int) ∧ (List.map vi cs)[Int.toNat (↑k : Int)]? = some (vi c) ∧ decide (c > 4) = false ∧ di (IntKind.wrap IntKind.i64 ((↑k : Int) + 1)) = di (↑(k + 1) : Int) ∧ Nv.It (RunC (CN 0) PP (fun env σ1 => ResOK PP fRgt32 env σ1 (db true) σ0) [KI.lp (sub cRgt32 [1, 0, 1, 0, 0]), KI.blk 0, KI.code (sub cRgt32 [1, 1])] (mkE 34 [(0, D.v (vIs cs)), (1, di md), (5, di (↑(k + 1) : Int))]) σ0)) = _) ?_
    exact ⟨decide_eq_true (by rw [List.length_map]; omega), by omega, idx_some hc1, decide_eq_false (by omega), by omega, idx_some hc1, decide_eq_false (by omega), wrap_succ (by omega), ⟨ih (k + 1) (by omega)⟩⟩
theorem rgt32_spec (cs : List Int) (md : Int) (hl : cs.length ≤ 1000) (hc : ∀ c ∈ cs, -4 ≤ c ∧ c ≤ 4) (hm : md = 0 ∨ 2 ≤ md ∧ md ≤ 8) : FSpec PP 55 [dIs cs, di md] σ0 (db true) σ0 := by
  refine spec_vc mixed fRgt32 cRgt32 (by kernel_rfl) (by kernel_rfl) (by kernel_rfl) (by kernel_rfl) 34 (by kernel_rfl) [] (.l [ke 0, ke 1, ch 5 (di (0 : Nat))]) ?_
  refine via (by kernel_rfl : (di 0 = di (↑0 : Int) ∧ Nv.It (RunC (CN (List.length σ0.H)) PP (fun env σ1 => ResOK PP fRgt32 env σ1 (db true) σ0) [KI.lp (sub cRgt32 [1, 0, 1, 0, 0]), KI.blk 0, KI.code (sub cRgt32 [1, 1])] (mkE 34 [(0, dIs cs), (1, di md), (5, di (↑0 : Int))]) σ0)) = _) ?_
  exact ⟨rfl, ⟨rgt32_loop cs md hl hc hm _ 0 rfl⟩⟩
noncomputable abbrev fChk32 : Func := Tryz.f30
noncomputable def cChk32 : Code := fChk32.body.getD .skip
theorem chk32_loop (m : Mod) (a : Atm) (ha : AtmOK m a) (hl : a.vals.length ≤ 1000) (n : Nat) : ∀ k : Nat, a.vals.length - k = n →
    Rn PP fChk32 0 (di 0) σ0 ([.lp (sub cChk32 [1, 1, 1, 0, 1, 0, 0]), .blk 0, .code (sub cChk32 [1, 1, 1, 1])] ++ []) (mkE 79 [(2, .v (.ref (vMod m))), (3, .v (.ref (vAtm a))), (6, di k)]) σ0 := by
  induction n with
  | zero =>
    intro k hn
    refine loop_vc mixed 79 [2, 3] (.f .r) ?_
    refine via (by kernel_rfl : (decide ((↑k : Int) < (↑(List.length (List.map vi a.vals)) : Int)) = false ∧ di 0 = di 0) = _) ?_
    exact ⟨decide_eq_false (by rw [List.length_map]; omega), rfl⟩
  | succ n ih =>
    intro k hn
    obtain ⟨v, hv⟩ : ∃ v, a.vals[k]? = some v := ⟨_, List.getElem?_eq_getElem (show k < a.vals.length by omega)⟩
    have hvv := ha.val v (List.mem_of_getElem? hv)
    have hm := ha.mod
    have hi := ih (k + 1) (by omega)
    have hx : (a.vals.map vi)[Int.toNat (k : Int)]? = some (vi v) := idx_some hv
    by_cases h1 : v = OMG
    · refine loop_vc mixed 79 [2, 3] (.t <| .x (vi v) <| .f <| .l [ke 2, ke 3, ch 6 (di (k + 1 : Nat))]) ?_
      refine via (by kernel_rfl : (decide ((↑k : Int) < (↑(List.length (List.map vi a.vals)) : Int)) = true ∧ 0 ≤ (↑k : Int) ∧ (List.map vi a.vals)[Int.toNat (↑k : Int)]? = some (vi v) ∧ (v != 1099511627776) = false ∧ di (IntKind.wrap IntKind.i64 ((↑k : Int) + 1)) = di (↑(k + 1) : Int) ∧ Nv.It (RunC (CN 0) PP (fun env σ1 => ResOK PP fChk32 env σ1 (di 0) σ0) [KI.lp (sub cChk32 [1, 1, 1, 0, 1, 0, 0]), KI.blk 0, KI.code (sub cChk32 [1, 1, 1, 1])] (mkE 79 [(2, D.v (V.ref (vMod m))), (3, D.v (V.ref (vAtm a))), (6, di (↑(k + 1) : Int))]) σ0)) = _) ?_
      exact ⟨decide_eq_true (by rw [List.length_map]; omega), by omega, hx, by rw [h1]; rfl, wrap_succ (by omega), ⟨hi⟩⟩
    · by_cases h2 : a.mod = 0
      · refine loop_vc mixed 79 [2, 3] (.t <| .x (vi v) <| .t <| .t <| .f <| .f <| .f <| .l [ke 2, ke 3, ch 6 (di (k + 1 : Nat))]) ?_
        refine via (by kernel_rfl : (decide ((↑k : Int) < (↑(List.length (List.map vi a.vals)) : Int)) = true ∧ 0 ≤ (↑k : Int) ∧ (List.map vi a.vals)[Int.toNat (↑k : Int)]? = some (vi v) ∧ (v != 1099511627776) = true ∧ (a.mod == 0) = true ∧ decide (v < -1099511627776) = false ∧ decide (v > 1099511627775) = false ∧ decide (a.mod > 0) = false ∧ di (IntKind.wrap IntKind.i64 ((↑k : Int) + 1)) = di (↑(k + 1) : Int) ∧ Nv.It (RunC (CN 0) PP (fun env σ1 => ResOK PP fChk32 env σ1 (di 0) σ0) [KI.lp (sub cChk32 [1, 1, 1, 0, 1, 0, 0]), KI.blk 0, KI.code (sub cChk32 [1, 1, 1, 1])] (mkE 79 [(2, D.v (V.ref (vMod m))), (3, D.v (V.ref (vAtm a))), (6, di (↑(k + 1) : Int))]) σ0)) = _) ?_
        have hv2 : -1099511627776 ≤ v ∧ v ≤ 1099511627775 := by omega
        exact ⟨decide_eq_true (by rw [List.length_map]; omega), by omega, hx, bne_iff_ne.2 h1, by rw [h2]; rfl, decide_eq_false (by omega), decide_eq_false (by omega), decide_eq_false (by omega), wrap_succ (by omega), ⟨hi⟩⟩
      · refine loop_vc mixed 79 [2, 3] (.t <| .x (vi v) <| .t <| .f <| .k <| .t <| .f <| .f <| .l [ke 2, ke 3, ch 6 (di (k + 1 : Nat))]) ?_
        refine via (by kernel_rfl : (decide ((↑k : Int) < (↑(List.length (List.map vi a.vals)) : Int)) = true ∧ 0 ≤ (↑k : Int) ∧ (List.map vi a.vals)[Int.toNat (↑k : Int)]? = some (vi v) ∧ (v != 1099511627776) = true ∧ (a.mod == 0) = false ∧ decide (a.mod > 0) = true ∧ decide (v < 0) = false ∧ decide (v ≥ a.mod) = false ∧ di (IntKind.wrap IntKind.i64 ((↑k : Int) + 1)) = di (↑(k + 1) : Int) ∧ Nv.It (RunC (CN 0) PP (fun env σ1 => ResOK PP fChk32 env σ1 (di 0) σ0) [KI.lp (sub cChk32 [1, 1, 1, 0, 1, 0, 0]), KI.blk 0, KI.code (sub cChk32 [1, 1, 1, 1])] (mkE 79 [(2, D.v (V.ref (vMod m))), (3, D.v (V.ref (vAtm a))), (6, di (↑(k + 1) : Int))]) σ0)) = _) ?_
        have hv2 : 0 ≤ v ∧ v ≤ a.mod - 1 := by omega
        exact ⟨decide_eq_true (by rw [List.length_map]; omega), by omega, hx, bne_iff_ne.2 h1, beq_eq_false_iff_ne.2 h2, decide_eq_true (by omega), decide_eq_false (by omega), decide_eq_false (by omega), wrap_succ (by omega), ⟨hi⟩⟩
theorem chk32_spec (m : Mod) (hm : PlC m) (a : Atm) (ha : AtmOK m a) : FSpec PP 30 [dMod m, dAtm a] σ0 (di 0) σ0 := by
  refine spec_vc mixed fChk32 cChk32 (by kernel_rfl) (by kernel_rfl) (by kernel_rfl) (by kernel_rfl) 79 (by kernel_rfl) [2, 3] (.c (di 0) <| .k <| .f <| .c (db true) <| .k <| .f <| .l [ke 2, ke 3, ch 6 (di (0 : Nat))]) ?_
  refine via (by kernel_rfl : (FSpec PP 54 [D.v (vMod m)] (St.mk [] []) (di 0) (St.mk [] []) ∧ ((↑(List.length (List.map vi a.coefs)) : Int) != (↑(List.length (List.map V.str m.places)) : Int)) = false ∧ FSpec PP 55 [D.v (vIs a.coefs), di a.mod] (St.mk [] []) (db true) (St.mk [] []) ∧ ((↑(List.length (List.map vi a.vals)) : Int) != (↑(List.length (List.map V.str m.states)) : Int)) = false ∧ di 0 = di (↑0 : Int) ∧ Nv.It (RunC (CN (List.length σ0.H)) PP (fun env σ1 => ResOK PP fChk32 env σ1 (di 0) σ0) [KI.lp (sub cChk32 [1, 1, 1, 0, 1, 0, 0]), KI.blk 0, KI.code (sub cChk32 [1, 1, 1, 1])] (mkE 79 [(2, D.v (V.ref (vMod m))), (3, D.v (V.ref (vAtm a))), (6, di (↑0 : Int))]) σ0)) = _) ?_
  have hp := hm.places
  have hl := ha.len
  have hv := ha.vlen
  exact ⟨pln28_spec m hm, by rw [List.length_map, List.length_map, hl]; simp, rgt32_spec a.coefs a.mod (by omega) ha.coef ha.mod, by rw [List.length_map, List.length_map, hv]; simp, rfl, ⟨chk32_loop m a ha (by omega) _ 0 rfl⟩⟩
noncomputable abbrev fHld32 : Func := Tryz.f32
noncomputable def cHld32 : Code := fHld32.body.getD .skip
theorem hld32_spec (m : Mod) (hm : PlC m) (a : Atm) (ha : AtmOK m a) (c : Val) (hc : CfgOK m c) : FSpec PP 32 [dAtm a, dV c] σ0 (db (hldB a c)) σ0 := by
  have hp := hm.places
  have hf := hm.few
  have hs := hc.st
  obtain ⟨v, hv⟩ : ∃ v, a.vals[(stV c).toNat]? = some v := ⟨_, List.getElem?_eq_getElem (by rw [ha.vlen]; omega)⟩
  have hb := sumM_bd a.coefs (nmV c) ha.coef hc.nm
  have hl := ha.len
  have hcl := hc.len
  have hmd := ha.mod
  refine spec_vc mixed fHld32 cHld32 (by kernel_rfl) (by kernel_rfl) (by kernel_rfl) (by kernel_rfl) 35 (by kernel_rfl) [2, 3] (.h (.xs (vVal (lf (stV c)))) <| .x (vi v) <| .c (dIs (nmV c)) <| .c (di (sumM a.coefs (nmV c))) <| .b .r (.b .r (.c (di (sumM a.coefs (nmV c) % a.mod)) .r))) ?_
  refine via (by kernel_rfl : (2 = 2 ∧ iz 0 ≤ 0 ∧ (List.map eV (Val.kids c))[Int.toNat 0]? = some (vVal (lf (stV c))) ∧ 0 ≤ Val.n (lf (stV c)) ∧ (List.map vi a.vals)[Int.toNat (Val.n (lf (stV c)))]? = some (vi v) ∧ FSpec PP 59 [D.v (vVal c)] (St.mk [] []) (dIs (nmV c)) (St.mk [] []) ∧ FSpec PP 58 [D.v (vIs a.coefs), D.v (vIs (nmV c))] (St.mk [] []) (di (sumM a.coefs (nmV c))) (St.mk [] []) ∧ ((v == 1099511627776) = true → db false = db (hldB a c)) ∧ ((v == 1099511627776) = false → ((a.mod == 0) = true → db (decide (sumM a.coefs (nmV c) ≥ v)) = db (hldB a c)) ∧ ((a.mod == 0) = false → FSpec PP 57 [di (sumM a.coefs (nmV c)), di a.mod] (St.mk [] []) (di (sumM a.coefs (nmV c) % a.mod)) (St.mk [] []) ∧ db (sumM a.coefs (nmV c) % a.mod == v) = db (hldB a c)))) = _) ?_
  have e : hldB a c = folB a (sumM a.coefs (nmV c)) v := by rw [hldB, List.getD_eq_getElem?_getD, hv]; rfl
  rw [e]
  refine ⟨rfl, by decide, idx_val (i := 0) hc.isC.head, hs.1, by rw [List.getElem?_map, show Val.n (lf (stV c)) = stV c from rfl, hv]; rfl, num28_spec c _ _ hc.isC (by omega), sum32_spec _ _ (by omega) (by omega) ha.coef hc.nm, fun h => ?_, fun h => ⟨fun h2 => ?_, fun h2 => ⟨rest32_spec _ a.mod ?_ (by omega), ?_⟩⟩⟩
  · have h : (v == OMG) = true := h
    rw [folB, if_pos h]
  · have h : (v == OMG) = false := h
    rw [folB, if_neg (by rw [h]; decide), if_pos h2]
  · have h2 : a.mod ≠ 0 := by simpa using h2
    omega
  · have h : (v == OMG) = false := h
    rw [folB, if_neg (by rw [h]; decide), if_neg (by rw [h2]; decide)]
noncomputable abbrev fHlds32 : Func := Tryz.f16
noncomputable def cHlds32 : Code := fHlds32.body.getD .skip
theorem hlds32_spec (m : Mod) (hm : PlC m) (a : Atm) (ha : AtmOK m a) (c : Val) (hc : CfgOK m c) : FSpec PP 16 [dMod m, dAtm a, dV c] σ0 (.tup [db (hldB a c), di 0]) σ0 := by
  refine spec_vc mixed fHlds32 cHlds32 (by kernel_rfl) (by kernel_rfl) (by kernel_rfl) (by kernel_rfl) 22 (by kernel_rfl) [3, 4, 5] (.c (di 0) <| .c (db true) <| .c (db (hldB a c)) .r) ?_
  refine via (by kernel_rfl : (FSpec PP 30 [D.v (vMod m), D.v (vAtm a)] (St.mk [] []) (di 0) (St.mk [] []) ∧ FSpec PP 28 [D.v (vMod m), D.v (vVal c)] (St.mk [] []) (db true) (St.mk [] []) ∧ FSpec PP 32 [D.v (vAtm a), D.v (vVal c)] (St.mk [] []) (db (hldB a c)) (St.mk [] []) ∧ D.tup [db (hldB a c), di 0] = D.tup [db (hldB a c), di 0]) = _) ?_
  have hsz := hc.size hm
  have h1 := val15_spec m hm.ok c (by omega)
  rw [hc.valid hm] at h1
  exact ⟨chk32_spec m hm a ha, h1, hld32_spec m hm a ha c hc, rfl⟩
noncomputable abbrev fCls32 : Func := Tryz.f31
noncomputable def cCls32 : Code := fCls32.body.getD .skip
theorem cls32_loop (m : Mod) (hm : PlC m) (a : Atm) (ha : AtmOK m a) (hcl : ∀ r ∈ m.rules, clsB a r = false) (N : Nat) : ∀ k : Nat, m.rules.length - k = N →
    Rn PP fCls32 0 (di 0) σ0 ([.lp (sub cCls32 [1, 1, 1, 0, 1, 0, 0]), .blk 0, .code (sub cCls32 [1, 1, 1, 1])] ++ []) (mkE 79 [(2, .v (.ref (vMod m))), (3, .v (.ref (vAtm a))), (6, di k)]) σ0 := by
  induction N with
  | zero =>
    intro k hn
    refine loop_vc mixed 79 [2, 3] (.f .r) ?_
    refine via (by kernel_rfl : (decide ((↑k : Int) < (↑(List.length (List.map vRul m.rules)) : Int)) = false ∧ di 0 = di 0) = _) ?_
    exact ⟨decide_eq_false (by rw [List.length_map]; omega), rfl⟩
  | succ N ih =>
    intro k hn
    have hk : k < m.rules.length := by omega
    obtain ⟨r, hr⟩ : ∃ r, m.rules[k]? = some r := ⟨_, List.getElem?_eq_getElem hk⟩
    have hrm := List.mem_of_getElem? hr
    have hro := hm.rule hrm
    have hp := hm.places
    have hf := hm.few
    obtain ⟨v, hv⟩ : ∃ v, a.vals[r.frm.toNat]? = some v := ⟨_, List.getElem?_eq_getElem (by rw [ha.vlen]; have := hro.frm; omega)⟩
    obtain ⟨u, hu⟩ : ∃ v, a.vals[r.to.toNat]? = some v := ⟨_, List.getElem?_eq_getElem (by rw [ha.vlen]; have := hro.to; omega)⟩
    have hvb := ha.vbd (List.mem_of_getElem? hv)
    have heb := eff_bd hro (by rw [ha.len]; omega) ha.coef
    have hcb : clsB a r = (!(v == OMG) && !folB a (v + effM a.coefs r) u) := by
      rw [clsB, List.getD_eq_getElem?_getD, List.getD_eq_getElem?_getD, hv, hu]; rfl
    have hcf := hcl r hrm
    rw [hcb] at hcf
    have hi := ih (k + 1) (by omega)
    have hmd := ha.mod
    have heff := eff32_spec m r hro a.coefs ha.len (by rw [ha.len]; omega) ha.coef
    by_cases h1 : v = OMG
    · refine loop_vc mixed 79 [2, 3] (.t <| .x (vRul r) <| .x (vi v) <| .x (vi u) <| .t <| .ls [ke 2, ke 3, ch 6 (di (k + 1 : Nat))] σ0) ?_
      refine via (by kernel_rfl : (decide ((↑k : Int) < (↑(List.length (List.map vRul m.rules)) : Int)) = true ∧ 0 ≤ (↑k : Int) ∧ (List.map vRul m.rules)[Int.toNat (↑k : Int)]? = some (vRul r) ∧ 0 ≤ r.frm ∧ (List.map vi a.vals)[Int.toNat r.frm]? = some (vi v) ∧ 0 ≤ r.to ∧ (List.map vi a.vals)[Int.toNat r.to]? = some (vi u) ∧ (True ∧ True ∧ True) ∧ (v == 1099511627776) = true ∧ di (IntKind.wrap IntKind.i64 ((↑k : Int) + 1)) = di (↑(k + 1) : Int) ∧ Nv.It (RunC (CN 0) PP (fun env σ1 => ResOK PP fCls32 env σ1 (di 0) σ0) [KI.lp (sub cCls32 [1, 1, 1, 0, 1, 0, 0]), KI.blk 0, KI.code (sub cCls32 [1, 1, 1, 1])] (mkE 79 [(2, D.v (V.ref (vMod m))), (3, D.v (V.ref (vAtm a))), (6, di (↑(k + 1) : Int))]) σ0)) = _) ?_
      exact ⟨decide_eq_true (by rw [List.length_map]; omega), by omega, idx_some hr, hro.frm.1, by rw [List.getElem?_map, hv]; rfl, hro.to.1, by rw [List.getElem?_map, hu]; rfl, ⟨trivial, trivial, trivial⟩, by rw [h1]; rfl, wrap_succ (by omega), ⟨hi⟩⟩
    · have h1' : (v == OMG) = false := beq_eq_false_iff_ne.2 h1
      rw [h1', Bool.not_false, Bool.true_and, Bool.not_eq_false'] at hcf
      rw [folB] at hcf
      by_cases h2 : u = OMG
      · rw [if_pos (by rw [h2]; rfl)] at hcf; cases hcf
      · rw [if_neg (by simpa using h2)] at hcf
        by_cases h3 : a.mod = 0
        · rw [if_pos (by rw [h3]; rfl)] at hcf
          refine loop_vc mixed 79 [2, 3] (.t <| .x (vRul r) <| .x (vi v) <| .x (vi u) <| .f <| .c (di (effM a.coefs r)) <| .f <| .t <| .f <| .f <| .ls [ke 2, ke 3, ch 6 (di (k + 1 : Nat))] σ0) ?_
          refine via (by kernel_rfl : (decide ((↑k : Int) < (↑(List.length (List.map vRul m.rules)) : Int)) = true ∧ 0 ≤ (↑k : Int) ∧ (List.map vRul m.rules)[Int.toNat (↑k : Int)]? = some (vRul r) ∧ 0 ≤ r.frm ∧ (List.map vi a.vals)[Int.toNat r.frm]? = some (vi v) ∧ 0 ≤ r.to ∧ (List.map vi a.vals)[Int.toNat r.to]? = some (vi u) ∧ (True ∧ True ∧ True) ∧ (v == 1099511627776) = false ∧ FSpec PP 56 [D.v (V.agg [V.str r.name, vi r.frm, vi r.to, vIs r.need, vIs r.give, vIs r.move, vi r.chan, vi r.act, vi r.letter, vIs r.path, vIs r.next, vTks r.takes, vIs r.makes, vi r.second]), D.v (vIs a.coefs)] (St.mk [] []) (di (effM a.coefs r)) (St.mk [] []) ∧ (u == 1099511627776) = false ∧ (a.mod == 0) = true ∧ decide (IntKind.wrap IntKind.i64 (v + effM a.coefs r) < u) = false ∧ decide (a.mod > 0) = false ∧ di (IntKind.wrap IntKind.i64 ((↑k : Int) + 1)) = di (↑(k + 1) : Int) ∧ Nv.It (RunC (CN 0) PP (fun env σ1 => ResOK PP fCls32 env σ1 (di 0) σ0) [KI.lp (sub cCls32 [1, 1, 1, 0, 1, 0, 0]), KI.blk 0, KI.code (sub cCls32 [1, 1, 1, 1])] (mkE 79 [(2, D.v (V.ref (vMod m))), (3, D.v (V.ref (vAtm a))), (6, di (↑(k + 1) : Int))]) σ0)) = _) ?_
          rw [wrap_id (n := v + effM a.coefs r) (by omega) (by omega)]
          have hcf := of_decide_eq_true hcf
          exact ⟨decide_eq_true (by rw [List.length_map]; omega), by omega, idx_some hr, hro.frm.1, by rw [List.getElem?_map, hv]; rfl, hro.to.1, by rw [List.getElem?_map, hu]; rfl, ⟨trivial, trivial, trivial⟩, h1', heff, beq_eq_false_iff_ne.2 h2, by rw [h3]; rfl, decide_eq_false (by omega), decide_eq_false (by omega), wrap_succ (by omega), ⟨hi⟩⟩
        · rw [if_neg (by simpa using h3)] at hcf
          refine loop_vc mixed 79 [2, 3] (.t <| .x (vRul r) <| .x (vi v) <| .x (vi u) <| .f <| .c (di (effM a.coefs r)) <| .f <| .f <| .k <| .t <| .c (di ((v + effM a.coefs r) % a.mod)) <| .f <| .ls [ke 2, ke 3, ch 6 (di (k + 1 : Nat))] σ0) ?_
          refine via (by kernel_rfl : (decide ((↑k : Int) < (↑(List.length (List.map vRul m.rules)) : Int)) = true ∧ 0 ≤ (↑k : Int) ∧ (List.map vRul m.rules)[Int.toNat (↑k : Int)]? = some (vRul r) ∧ 0 ≤ r.frm ∧ (List.map vi a.vals)[Int.toNat r.frm]? = some (vi v) ∧ 0 ≤ r.to ∧ (List.map vi a.vals)[Int.toNat r.to]? = some (vi u) ∧ (True ∧ True ∧ True) ∧ (v == 1099511627776) = false ∧ FSpec PP 56 [D.v (V.agg [V.str r.name, vi r.frm, vi r.to, vIs r.need, vIs r.give, vIs r.move, vi r.chan, vi r.act, vi r.letter, vIs r.path, vIs r.next, vTks r.takes, vIs r.makes, vi r.second]), D.v (vIs a.coefs)] (St.mk [] []) (di (effM a.coefs r)) (St.mk [] []) ∧ (u == 1099511627776) = false ∧ (a.mod == 0) = false ∧ decide (a.mod > 0) = true ∧ FSpec PP 57 [di (IntKind.wrap IntKind.i64 (v + effM a.coefs r)), di a.mod] (St.mk [] []) (di ((v + effM a.coefs r) % a.mod)) (St.mk [] []) ∧ ((v + effM a.coefs r) % a.mod != u) = false ∧ di (IntKind.wrap IntKind.i64 ((↑k : Int) + 1)) = di (↑(k + 1) : Int) ∧ Nv.It (RunC (CN 0) PP (fun env σ1 => ResOK PP fCls32 env σ1 (di 0) σ0) [KI.lp (sub cCls32 [1, 1, 1, 0, 1, 0, 0]), KI.blk 0, KI.code (sub cCls32 [1, 1, 1, 1])] (mkE 79 [(2, D.v (V.ref (vMod m))), (3, D.v (V.ref (vAtm a))), (6, di (↑(k + 1) : Int))]) σ0)) = _) ?_
          rw [wrap_id (n := v + effM a.coefs r) (by omega) (by omega)]
          exact ⟨decide_eq_true (by rw [List.length_map]; omega), by omega, idx_some hr, hro.frm.1, by rw [List.getElem?_map, hv]; rfl, hro.to.1, by rw [List.getElem?_map, hu]; rfl, ⟨trivial, trivial, trivial⟩, h1', heff, beq_eq_false_iff_ne.2 h2, beq_eq_false_iff_ne.2 h3, decide_eq_true (by omega), rest32_spec _ a.mod (by omega) (by omega), bne_eq_false_iff_eq.2 (by simpa using hcf), wrap_succ (by omega), ⟨hi⟩⟩
theorem cls32_spec (m : Mod) (hm : PlC m) (a : Atm) (ha : AtmOK m a) (hcl : clsM m a = 0) : FSpec PP 31 [dMod m, dAtm a] σ0 (di 0) σ0 := by
  have hh := hld32_spec m hm a ha m.start hm.start
  have hb : hldB a m.start = true := by
    cases hb : hldB a m.start with
    | true => rfl
    | false => rw [clsM, hb] at hcl; cases hcl
  rw [hb] at hh
  rw [clsM, hb, if_pos rfl] at hcl
  have hany : m.rules.any (clsB a) = false := by
    cases hany : m.rules.any (clsB a) with
    | false => rfl
    | true => rw [hany] at hcl; cases hcl
  refine spec_vc mixed fCls32 cCls32 (by kernel_rfl) (by kernel_rfl) (by kernel_rfl) (by kernel_rfl) 79 (by kernel_rfl) [2, 3] (.c (di 0) <| .c (db true) <| .l [ke 2, ke 3, ch 6 (di (0 : Nat))]) ?_
  refine via (by kernel_rfl : (FSpec PP 30 [D.v (vMod m), D.v (vAtm a)] (St.mk [] []) (di 0) (St.mk [] []) ∧ FSpec PP 32 [D.v (vAtm a), D.v (V.agg [vi (Val.n m.start), vVs (Val.kids m.start)])] (St.mk [] []) (db true) (St.mk [] []) ∧ di 0 = di (↑0 : Int) ∧ Nv.It (RunC (CN (List.length σ0.H)) PP (fun env σ1 => ResOK PP fCls32 env σ1 (di 0) σ0) [KI.lp (sub cCls32 [1, 1, 1, 0, 1, 0, 0]), KI.blk 0, KI.code (sub cCls32 [1, 1, 1, 1])] (mkE 79 [(2, D.v (V.ref (vMod m))), (3, D.v (V.ref (vAtm a))), (6, di (↑0 : Int))]) σ0)) = _) ?_
  exact ⟨chk32_spec m hm a ha, hh, rfl, ⟨cls32_loop m hm a ha (fun r hr => by simpa using List.any_eq_false.1 hany r hr) _ 0 rfl⟩⟩
noncomputable abbrev fExc32 : Func := Tryz.f14
noncomputable def cExc32 : Code := fExc32.body.getD .skip
theorem exc32_spec (m : Mod) (hm : PlC m) (a : Atm) (ha : AtmOK m a) (c : Val) (hc : CfgOK m c) (h : excB m a c = true) : FSpec PP 14 [dMod m, dAtm a, dV c] σ0 (.tup [db true, di 0]) σ0 := by
  simp only [excB, Bool.and_eq_true, Bool.not_eq_true', beq_iff_eq] at h
  have hh := hld32_spec m hm a ha c hc
  rw [h.1] at hh
  have hsz := hc.size hm
  have h1 := val15_spec m hm.ok c (by omega)
  rw [hc.valid hm] at h1
  refine spec_vc mixed fExc32 cExc32 (by kernel_rfl) (by kernel_rfl) (by kernel_rfl) (by kernel_rfl) 29 (by kernel_rfl) [3, 4, 5] (.c (di 0) <| .c (db true) <| .c (di 0) <| .c (db false) .r) ?_
  refine via (by kernel_rfl : (FSpec PP 30 [D.v (vMod m), D.v (vAtm a)] (St.mk [] []) (di 0) (St.mk [] []) ∧ FSpec PP 28 [D.v (vMod m), D.v (vVal c)] (St.mk [] []) (db true) (St.mk [] []) ∧ FSpec PP 31 [D.v (vMod m), D.v (vAtm a)] (St.mk [] []) (di 0) (St.mk [] []) ∧ FSpec PP 32 [D.v (vAtm a), D.v (vVal c)] (St.mk [] []) (db false) (St.mk [] []) ∧ D.tup [db !false, di 0] = D.tup [db true, di 0]) = _) ?_
  exact ⟨chk32_spec m hm a ha, h1, cls32_spec m hm a ha h.2, hh, rfl⟩
end Go.Proofs.YtdfdemnbaiieaaaGreat

namespace Go.Proofs.YtdfdemnbaiieaaaGreat
open Go.Dv Go.Nv
set_option maxRecDepth 20000
noncomputable abbrev fCpy06 : Func := Tryz.f34
noncomputable def cCpy06 : Code := fCpy06.body.getD .skip
abbrev stQ (n : Int) (l : List Val) : St := ⟨[some [di 0, .v .nils], some [di n, .acc 1 (l.map eV)]], [(1, 2, l.map eV)]⟩
theorem cpy06_loop (v : Val) (hv : v.size ≤ 1000000) (hk : ∀ x ∈ v.kids, FSpec PP 34 [dV x] σ0 (dV x) σ0) (n : Nat) : ∀ k : Nat, v.kids.length - k = n →
    Rn PP fCpy06 0 (dV v) σ0 ([.lp (sub cCpy06 [1, 1, 0, 1, 0, 0]), .blk 0, .code (sub cCpy06 [1, 1, 1])] ++ []) (mkE 27 [(1, .v (.ref (vVal v))), (2, .ptr 0 0), (3, .ptr 1 0), (4, di k)]) (stQ v.n (v.kids.take k)) := by
  have hs := v.size_eq
  have hl := Val.length_le v.kids
  induction n with
  | zero =>
    intro k hn
    refine loop_vc mixed 27 [1] (.f .r) ?_
    refine via (by kernel_rfl : (decide ((↑k : Int) < (↑(List.length (List.map eV (Val.kids v))) : Int)) = false ∧ D.v (V.agg [vi (Val.n v), V.list (List.map eV (List.take k (Val.kids v)))]) = dV v) = _) ?_
    rw [List.take_of_length_le (by omega)]
    exact ⟨decide_eq_false (by rw [List.length_map]; omega), rfl⟩
  | succ n ih =>
    intro k hn
    obtain ⟨x, hx⟩ : ∃ x, v.kids[k]? = some x := ⟨_, List.getElem?_eq_getElem (show k < v.kids.length by omega)⟩
    refine loop_vc mixed 27 [1] (.t <| .h (.xs (vVal x)) <| .c (dV x) <| .ls [ke 1, ke 2, ke 3, ch 4 (di (k + 1 : Nat))] (stQ v.n (v.kids.take (k + 1)))) ?_
    refine via (by kernel_rfl : (decide ((↑k : Int) < (↑(List.length (List.map eV (Val.kids v))) : Int)) = true ∧ 2 = 2 ∧ 0 ≤ (↑k : Int) ∧ (List.map eV (Val.kids v))[Int.toNat (↑k : Int)]? = some (vVal x) ∧ FSpec PP 34 [D.v (vVal x)] (St.mk [] []) (dV x) (St.mk [] []) ∧ List.map eV (List.take k (Val.kids v)) = List.map eV (List.take k (Val.kids v)) ∧ LenOK (List.length (List.map eV (List.take k (Val.kids v))) + List.length (vVal x :: nV)) 32 ∧ (True ∧ True) ∧ di (IntKind.wrap IntKind.i64 ((↑k : Int) + 1)) = di (↑(k + 1) : Int) ∧ [some [di 0, D.v V.nils], some [di (Val.n v), D.acc 1 (List.map eV (List.take k (Val.kids v)) ++ vVal x :: nV)]] = [some [di 0, D.v V.nils], some [di (Val.n v), D.acc 1 (List.map eV (List.take (k + 1) (Val.kids v)))]] ∧ [(1, 2, List.map eV (List.take k (Val.kids v)) ++ vVal x :: nV)] = [(1, 2, List.map eV (List.take (k + 1) (Val.kids v)))] ∧ Nv.It (RunC (CN 0) PP (fun env σ1 => ResOK PP fCpy06 env σ1 (dV v) σ0) [KI.lp (sub cCpy06 [1, 1, 0, 1, 0, 0]), KI.blk 0, KI.code (sub cCpy06 [1, 1, 1])] (mkE 27 [(1, D.v (V.ref (vVal v))), (2, D.ptr 0 0), (3, D.ptr 1 0), (4, di (↑(k + 1) : Int))]) (stQ (Val.n v) (List.take (k + 1) (Val.kids v))))) = _) ?_
    have ht : v.kids.take (k + 1) = v.kids.take k ++ [x] := by rw [List.take_add_one, hx]; rfl
    refine ⟨decide_eq_true (by rw [List.length_map]; omega), rfl, by omega, idx_val hx, hk x (List.mem_of_getElem? hx), rfl, ⟨?_, ?_⟩, ⟨trivial, trivial⟩, wrap_succ (by omega), ?_, ?_, ⟨ih (k + 1) (by omega)⟩⟩
    · simp only [List.length_map, List.length_take, List.length_cons, List.length_nil]; omega
    · simp only [List.length_map, List.length_take, List.length_cons, List.length_nil]; omega
    · rw [ht, append_val]
    · rw [ht, append_val]
theorem cpy06_spec (N : Nat) : ∀ v : Val, v.size ≤ N → v.size ≤ 1000000 → FSpec PP 34 [dV v] σ0 (dV v) σ0 := by
  induction N with
  | zero => intro v h; have := v.size_pos; omega
  | succ N ih =>
    intro v hN hv
    have hs := v.size_eq
    refine spec_vc mixed fCpy06 cCpy06 (by kernel_rfl) (by kernel_rfl) (by kernel_rfl) (by kernel_rfl) 27 (by kernel_rfl) [1] (.h .rn <| .h (.q 2 0) <| .h (.cl 1 1 1 2) <| .ls [ke 1, ke 2, ke 3, ch 4 (di (0 : Nat))] (stQ v.n [])) ?_
    refine via (by kernel_rfl : (di 0 = di (↑0 : Int) ∧ [some [di 0, D.v V.nils], some [di (Val.n v), D.acc 1 nV]] = [some [di 0, D.v V.nils], some [di (Val.n v), D.acc 1 nV]] ∧ [(1, 2, nV)] = [(1, 2, nV)] ∧ Nv.It (RunC (CN (List.length σ0.H)) PP (fun env σ1 => ResOK PP fCpy06 env σ1 (dV v) σ0) [KI.lp (sub cCpy06 [1, 1, 0, 1, 0, 0]), KI.blk 0, KI.code (sub cCpy06 [1, 1, 1])] (mkE 27 [(1, D.v (V.ref (vVal v))), (2, D.ptr 0 0), (3, D.ptr 1 0), (4, di (↑0 : Int))]) (stQ (Val.n v) []))) = _) ?_
    have := cpy06_loop v hv (fun x hx => by have := Val.size_mem hx; exact ih x (by omega) (by omega)) _ 0 rfl
    exact ⟨rfl, rfl, rfl, ⟨by simpa using this⟩⟩
noncomputable abbrev fChk23 : Func := Tryz.f33
noncomputable def cChk23 : Code := fChk23.body.getD .skip
abbrev stK (c : Val) : St := ⟨[some [di c.n, dVs c.kids]], []⟩
theorem run_at {m : Mod} {c d : Val} {l : List Stp} (h : RunM m c l d) : ∀ (k : Nat) (s : Stp), l[k]? = some s → ∃ e, RunM m c (l.take k) e ∧ (stepsM m e).2 = 0 ∧ s ∈ (stepsM m e).1 ∧ RunM m c (l.take (k + 1)) s.2 := by
  induction h with
  | nil => intro k s hs; simp at hs
  | @snoc l d s' h1 h2 h3 ih =>
    intro k s hs
    by_cases hk : k < l.length
    · rw [List.getElem?_append_left hk] at hs
      obtain ⟨e, g1, g2, g3, g4⟩ := ih k s hs
      exact ⟨e, by rw [List.take_append_of_le_length (by omega)]; exact g1, g2, g3, by rw [List.take_append_of_le_length (by omega)]; exact g4⟩
    · have hk2 := (List.getElem?_eq_some_iff.1 hs).1
      simp at hk2
      have : k = l.length := by omega
      subst this
      rw [List.getElem?_append_right (Nat.le_refl _)] at hs
      simp at hs; subst hs
      refine ⟨d, by rw [List.take_left']; exact h1; rfl, h2, h3, ?_⟩
      rw [List.take_of_length_le (by simp)]
      exact .snoc h1 h2 h3
theorem step_ap {m : Mod} {c : Val} {s : Stp} (h : StepOK m c s) : (∃ i : Nat, s.1 = i ∧ i < m.rules.length) ∧ apS m c s.1 = ([s.2], 0) := by
  obtain ⟨i, r, h1, h2, h3, h4, h5⟩ := h.rule
  refine ⟨⟨i, h1, (List.getElem?_eq_some_iff.1 h2).1⟩, ?_⟩
  rw [apS, h1, if_neg (by omega)]
  simp only [Int.toNat_natCast, h2, h5]
  rfl
theorem RunM.det {m : Mod} {c d e : Val} {l : List Stp} (h : RunM m c l d) (h2 : RunM m c l e) : d = e := by
  cases h with
  | nil =>
    generalize hl : ([] : List Stp) = l at h2
    cases h2 with
    | nil => rfl
    | snoc => simp at hl
  | @snoc l d s h1 h3 h4 =>
    generalize hl : l ++ [s] = l' at h2
    cases h2 with
    | nil => simp at hl
    | @snoc l2 d2 s2 g1 g3 g4 =>
      have := List.append_inj_right' hl rfl
      simp at this
      rw [this]
theorem chk23_loop (m : Mod) (hm : PlC m) (run : List Stp) (d : Val) (hr : RunM m m.start run d) (hl : run.length ≤ 64) (n : Nat) : ∀ (k : Nat) (c : Val), run.length - k = n → RunM m m.start (run.take k) c →
    Rn PP fChk23 0 (.tup [di run.length, di 0]) σ0 ([.lp (sub cChk23 [1, 1, 1, 1, 1, 0, 1, 0, 0]), .blk 0, .code (sub cChk23 [1, 1, 1, 1, 1, 1])] ++ []) (mkE 78 [(2, .v (vSts run)), (3, .v (.ref (vMod m))), (9, .ptr 0 0), (10, di k)]) (stK c) := by
  induction n with
  | zero =>
    intro k c hn hc
    refine loop_vc mixed 78 [3, 4] (.f .r) ?_
    refine via (by kernel_rfl : (decide ((↑k : Int) < (↑(List.length (List.map vSt run)) : Int)) = false ∧ D.tup [di (↑(List.length (List.map vSt run)) : Int), di 0] = D.tup [di (↑(List.length run) : Int), di 0]) = _) ?_
    exact ⟨decide_eq_false (by rw [List.length_map]; omega), by rw [List.length_map]⟩
  | succ n ih =>
    intro k c hn hc
    obtain ⟨s, hs⟩ : ∃ s, run[k]? = some s := ⟨_, List.getElem?_eq_getElem (show k < run.length by omega)⟩
    refine loop_vc mixed 78 [3, 4] (.t <| .x (vSt s) <| .c (dLP ([s.2], 0)) <| .n <| .h (.xs (vVal s.2)) <| .x (vSt s) <| .c (db true) <| .n <| .x (vSt s) <| .lo [ke 2, ke 3, ke 9, ch 10 (di (k + 1 : Nat))] (stK s.2)) ?_
    refine via (by kernel_rfl : (decide ((↑k : Int) < (↑(List.length (List.map vSt run)) : Int)) = true ∧ 0 ≤ (↑k : Int) ∧ (List.map vSt run)[Int.toNat (↑k : Int)]? = some (vSt s) ∧ FSpec PP 29 [D.v (vMod m), di s.fst, D.v (V.agg [vi (Val.n c), vVs (Val.kids c)])] (St.mk [] []) (dLP ([s.snd], 0)) (St.mk [] []) ∧ (True ∧ True) ∧ 2 = 2 ∧ iz 0 ≤ 0 ∧ some (eV s.snd) = some (vVal s.snd) ∧ 0 ≤ (↑k : Int) ∧ (List.map vSt run)[Int.toNat (↑k : Int)]? = some (vSt s) ∧ FSpec PP 25 [D.v (vVal s.snd), D.v (V.agg [vi (Val.n s.snd), vVs (Val.kids s.snd)])] (St.mk [] []) (db true) (St.mk [] []) ∧ 0 ≤ (↑k : Int) ∧ (List.map vSt run)[Int.toNat (↑k : Int)]? = some (vSt s) ∧ di (IntKind.wrap IntKind.i64 ((↑k : Int) + 1)) = di (↑(k + 1) : Int) ∧ okH 1 [] [some [di (Val.n s.snd), D.v (vVs (Val.kids s.snd))]] = true ∧ [some [di (Val.n s.snd), D.v (vVs (Val.kids s.snd))]] = [some [di (Val.n s.snd), dVs (Val.kids s.snd)]] ∧ Nv.It (RunC (CN 0) PP (fun env σ1 => ResOK PP fChk23 env σ1 (D.tup [di (↑(List.length run) : Int), di 0]) σ0) [KI.lp (sub cChk23 [1, 1, 1, 1, 1, 0, 1, 0, 0]), KI.blk 0, KI.code (sub cChk23 [1, 1, 1, 1, 1, 1])] (mkE 78 [(2, D.v (vSts run)), (3, D.v (V.ref (vMod m))), (9, D.ptr 0 0), (10, di (↑(k + 1) : Int))]) (stK s.snd))) = _) ?_
    obtain ⟨e, g1, g2, g3, g4⟩ := run_at hr k s hs
    have he : e = c := g1.det hc
    subst he
    have hco := RunM.ok hm hm.start g1
    obtain ⟨⟨i, hi1, hi2⟩, hap⟩ := step_ap ((stepsM_or hm hco).2.2 s g3)
    have happ := ap22_all hm hco s.1 (by omega) (by omega)
    rw [hap] at happ
    have hsz := (RunM.ok hm hm.start g4).size hm
    have hsm := sam06_spec s.2 s.2 (by omega)
    rw [cmpV_eq.2 rfl] at hsm
    exact ⟨decide_eq_true (by rw [List.length_map]; omega), by omega, idx_some hs, happ, ⟨trivial, trivial⟩, rfl, by decide, by rw [enc_eq], by omega, idx_some hs, hsm, by omega, idx_some hs, wrap_succ (by omega), rfl, rfl, ⟨ih (k + 1) s.2 (by omega) g4⟩⟩
theorem chk23_spec (m : Mod) (hm : PlC m) (run : List Stp) (d : Val) (hr : RunM m m.start run d) (hl : run.length ≤ 64) : FSpec PP 33 [dMod m, dV m.start, .v (vSts run)] σ0 (.tup [di run.length, di 0]) σ0 := by
  refine spec_vc mixed fChk23 cChk23 (by kernel_rfl) (by kernel_rfl) (by kernel_rfl) (by kernel_rfl) 78 (by kernel_rfl) [3, 4] (.c (di 0) <| .c (db true) <| .k <| .f <| .lo [ke 2, ke 3, ke 9, ch 10 (di (0 : Nat))] (stK m.start)) ?_
  refine via (by kernel_rfl : (FSpec PP 27 [D.v (vMod m)] (St.mk [] []) (di 0) (St.mk [] []) ∧ FSpec PP 28 [D.v (vMod m), D.v (vVal m.start)] (St.mk [] []) (db true) (St.mk [] []) ∧ decide ((↑(List.length (List.map vSt run)) : Int) > 64) = false ∧ di 0 = di (↑0 : Int) ∧ okH 1 [] [some [di (Val.n m.start), D.v (vVs (Val.kids m.start))]] = true ∧ [some [di (Val.n m.start), D.v (vVs (Val.kids m.start))]] = [some [di (Val.n m.start), dVs (Val.kids m.start)]] ∧ Nv.It (RunC (CN (List.length σ0.H)) PP (fun env σ1 => ResOK PP fChk23 env σ1 (D.tup [di (↑(List.length run) : Int), di 0]) σ0) [KI.lp (sub cChk23 [1, 1, 1, 1, 1, 0, 1, 0, 0]), KI.blk 0, KI.code (sub cChk23 [1, 1, 1, 1, 1, 1])] (mkE 78 [(2, D.v (vSts run)), (3, D.v (V.ref (vMod m))), (9, D.ptr 0 0), (10, di (↑0 : Int))]) (stK m.start))) = _) ?_
  have h1 := val15_spec m hm.ok m.start (by have := hm.start.size hm; omega)
  rw [hm.start.valid hm] at h1
  exact ⟨kd22_spec m hm.ok, h1, decide_eq_false (by rw [List.length_map]; omega), rfl, rfl, rfl, ⟨chk23_loop m hm run d hr hl _ 0 m.start rfl .nil⟩⟩
noncomputable abbrev fRpl23 : Func := Tryz.f17
noncomputable def cRpl23 : Code := fRpl23.body.getD .skip
theorem rpl23_spec (m : Mod) (hm : PlC m) (run : List Stp) (d : Val) (hr : RunM m m.start run d) (hl : run.length ≤ 64) : FSpec PP 17 [dMod m, .v (vSts run)] σ0 (.tup [dV d, di run.length, di 0]) σ0 := by
  have hck := chk23_spec m hm run d hr hl
  by_cases h : run = []
  · refine spec_vc mixed fRpl23 cRpl23 (by kernel_rfl) (by kernel_rfl) (by kernel_rfl) (by kernel_rfl) 37 (by kernel_rfl) [2] (.c (.tup [di run.length, di 0]) <| .k <| .t <| .c (dV m.start) .r) ?_
    refine via (by kernel_rfl : (FSpec PP 33 [D.v (vMod m), D.v (V.agg [vi (Val.n m.start), vVs (Val.kids m.start)]), D.v (vSts run)] (St.mk [] []) (D.tup [di (↑(List.length run) : Int), di 0]) (St.mk [] []) ∧ ((↑(List.length (List.map vSt run)) : Int) == 0) = true ∧ FSpec PP 34 [D.v (V.agg [vi (Val.n m.start), vVs (Val.kids m.start)])] (St.mk [] []) (dV m.start) (St.mk [] []) ∧ D.tup [D.v (V.agg [vi (Val.n m.start), V.list (List.map eV (Val.kids m.start))]), di 0, di 0] = D.tup [dV d, di (↑(List.length run) : Int), di 0]) = _) ?_
    have hd : d = m.start := by rw [h] at hr; exact hr.det .nil
    have hcp := cpy06_spec _ m.start (Nat.le_refl _) (by have := hm.start.size hm; omega)
    rw [hd]
    exact ⟨hck, by rw [h]; rfl, hcp, by rw [h]; rfl⟩
  · obtain ⟨s, hs⟩ : ∃ s, run[run.length - 1]? = some s := ⟨_, List.getElem?_eq_getElem (show run.length - 1 < run.length by have := List.length_pos_iff.2 h; omega)⟩
    refine spec_vc mixed fRpl23 cRpl23 (by kernel_rfl) (by kernel_rfl) (by kernel_rfl) (by kernel_rfl) 37 (by kernel_rfl) [2] (.c (.tup [di run.length, di 0]) <| .k <| .f <| .x (vSt s) <| .c (dV s.2) .r) ?_
    refine via (by kernel_rfl : (FSpec PP 33 [D.v (vMod m), D.v (V.agg [vi (Val.n m.start), vVs (Val.kids m.start)]), D.v (vSts run)] (St.mk [] []) (D.tup [di (↑(List.length run) : Int), di 0]) (St.mk [] []) ∧ ((↑(List.length (List.map vSt run)) : Int) == 0) = false ∧ 0 ≤ IntKind.wrap IntKind.i64 ((↑(List.length (List.map vSt run)) : Int) - 1) ∧ (List.map vSt run)[Int.toNat (IntKind.wrap IntKind.i64 ((↑(List.length (List.map vSt run)) : Int) - 1))]? = some (vSt s) ∧ FSpec PP 34 [D.v (V.agg [vi (Val.n s.snd), vVs (Val.kids s.snd)])] (St.mk [] []) (dV s.snd) (St.mk [] []) ∧ D.tup [D.v (V.agg [vi (Val.n s.snd), V.list (List.map eV (Val.kids s.snd))]), di (↑(List.length run) : Int), di 0] = D.tup [dV d, di (↑(List.length run) : Int), di 0]) = _) ?_
    have hlen := List.length_pos_iff.2 h
    obtain ⟨e, g1, g2, g3, g4⟩ := run_at hr _ s hs
    have hd : d = s.2 := by
      rw [Nat.sub_add_cancel hlen, List.take_length] at g4
      exact hr.det g4
    have hsz := (RunM.ok hm hm.start g4).size hm
    have hcp := cpy06_spec _ s.2 (Nat.le_refl _) (by omega)
    have ew : IntKind.i64.wrap ((run.map vSt).length - 1) = ((run.length - 1 : Nat) : Int) := by rw [List.length_map, wrap_id (by omega) (by omega)]; omega
    rw [ew, hd]
    exact ⟨hck, beq_eq_false_iff_ne.2 (by rw [List.length_map]; omega), by omega, idx_some hs, hcp, rfl⟩
end Go.Proofs.YtdfdemnbaiieaaaGreat
