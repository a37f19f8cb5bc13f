/-
  Invariants: potentials: walked.
-/
import Derived.Test.YtdfdemnbaiieaaaGreatEh
import Derived.Test.YtdfdemnbaiieaaaGreatEf
import Derived.Test.YtdfdemnbaiieaaaGreatEb
namespace Go.Proofs.YtdfdemnbaiieaaaGreat
open Go.Dv Go.Nv
set_option maxRecDepth 20000
noncomputable abbrev fIPot : Func := Tryz.f75
noncomputable def cIPot : Code := fIPot.body.getD .skip
def potL (cs : List Int) (md : Int) (rs : List Rul) : Nat → List Int → Option (List Int)
  | 0, vals => if (rndM cs md rs vals false).2.1 = true ∨ (rndM cs md rs vals false).2.2 = false then none else some (rndM cs md rs vals false).1
  | n + 1, vals => if (rndM cs md rs vals false).2.2 = false then none else if (rndM cs md rs vals false).2.1 = false then some (rndM cs md rs vals false).1 else potL cs md rs n (rndM cs md rs vals false).1
def fstM (m : Mod) (cs : List Int) (md : Int) : Int := if decide (md > 0) = true then sumM cs (nmV m.start) % md else sumM cs (nmV m.start)
def potM (m : Mod) (cs : List Int) (md : Int) : Option (List Int) := potL cs md m.rules m.states.length ((List.replicate m.states.length OMG).set (stV m.start).toNat (fstM m cs md))
abbrev dPot (cs : List Int) (md : Int) (o : Option (List Int)) : D := match o with
  | some vals => .tup [dAtm ⟨cs, md, vals⟩, db true, di 0]
  | none => .tup [dAtm ⟨[], 0, []⟩, db false, di 0]
abbrev zAt : List D := [.v .nils, di 0, .v .nils]
abbrev stP (m : Mod) (cs : List Int) (md : Int) (N : Nat) (vals : List Int) : St := ⟨[some zAt, some (cIs vals), some (cSp m cs md N)], []⟩
abbrev cSpP (m : Mod) (cs : List Int) (md : Int) (vals : List Int) : List D := [di m.kind, .v (vSs m.states), .v (vSs m.places), .v (vSs m.letters), .v (vIs m.ranks), di m.levels, di m.age, .v (vRuls m.rules), di m.start.n, dVs m.start.kids, dIs cs, di md, dIs vals]
theorem cv_sp (m : Mod) (cs : List Int) (md : Int) (vals : List Int) (N : Nat) (hN : vals.length = N) (e : List D) : Cv e (stP m cs md N vals) e ⟨[some zAt, none, some (cSpP m cs md vals)], []⟩ := by
  have h := cv_cellArr (σ := stP m cs md N vals) (p := 2) (q := 1) (i := 12) (cs := cSp m cs md N) (xs := vals.map vi) rfl (by rw [← cIs_v]; rfl) (by decide) (by rw [List.length_map, hN]; rfl) (fun x hx => by obtain ⟨z, _, rfl⟩ := List.mem_map.1 hx; rfl) e
  exact h
theorem okP (m : Mod) (cs : List Int) (md : Int) (N : Nat) (vals : List Int) : okH 3 [] [some zAt, some (cIs vals), some (cSp m cs md N)] = true := by simp [okH, D.okNs, D.okN, okNs_cIs]
theorem ipot_loop (m : Mod) (hm : PlC m) (cs : List Int) (md : Int) (hc : CoM m cs md) (N : Nat) (hN : N = m.states.length) (n : Nat) : ∀ (k : Nat) (vals : List Int) (B : Int), N - k = n → 0 ≤ B → B + 201326592 * n ≤ 700000000 → ValB md B vals → vals.length = N →
    Rn PP fIPot 0 (dPot cs md (potL cs md m.rules n vals)) σ0 ([.lp (sub cIPot [1, 1, 1, 1, 1, 1, 1, 0, 1, 0, 0]), .blk 1, .code (sub cIPot [1, 1, 1, 1, 1, 1, 1, 1])] ++ []) (mkE 110 [(6, .ptr 0 0), (10, .ptr 2 0), (77, di N), (78, di k)]) (stP m cs md N vals) := by
  induction n with
  | zero =>
    intro k vals B hn hB hB2 h hl
    have hr := irnd_spec m hm cs md hc N hN vals B hB (by omega) h hl
    obtain ⟨_, hl2⟩ := rndM_ok hm hc m.rules vals false B (fun r hr => hm.rule hr) hB h (by omega)
    rw [potL]
    generalize rndM cs md m.rules vals false = f at *
    obtain ⟨v2, c, ok⟩ := f
    cases c with
    | true =>
      rw [if_pos (.inl rfl)]
      refine loop_vc mixed 110 [3] (.f <| .h (.q 21 1) <| .h (.oc (.tup [db true, db ok]) (stP m cs md N v2)) .r) ?_
      refine via (by kernel_rfl : (decide ((↑k : Int) < (↑N : Int)) = false ∧ (∀ (o : Oper) (c : Call) (fo : Operand), o.op = Op.call c → c.callee = Callee.value fo → OpOK PP o [D.v (V.fn 127 [] []), D.ptr 2 0] (stP m cs md N vals) (D.tup [db true, db ok]) (stP m cs md N v2)) ∧ D.tup [D.v (V.agg [V.list [], vi 0, V.list []]), db false, di 0] = dPot cs md none) = _) ?_
      exact ⟨decide_eq_false (by omega), fun o c fo ho hc2 => op_callS (H := [some zAt, some (cIs vals), some (cSp m cs md N)]) ho hc2 2 (by decide) rfl rfl (x := []) hr, rfl⟩
    | false =>
      cases ok with
      | false =>
        rw [if_pos (.inr rfl)]
        refine loop_vc mixed 110 [3] (.f <| .h (.q 21 1) <| .h (.oc (.tup [db false, db false]) (stP m cs md N v2)) .r) ?_
        refine via (by kernel_rfl : (decide ((↑k : Int) < (↑N : Int)) = false ∧ (∀ (o : Oper) (c : Call) (fo : Operand), o.op = Op.call c → c.callee = Callee.value fo → OpOK PP o [D.v (V.fn 127 [] []), D.ptr 2 0] (stP m cs md N vals) (D.tup [db false, db false]) (stP m cs md N v2)) ∧ D.tup [D.v (V.agg [V.list [], vi 0, V.list []]), db false, di 0] = dPot cs md none) = _) ?_
        exact ⟨decide_eq_false (by omega), fun o c fo ho hc2 => op_callS (H := [some zAt, some (cIs vals), some (cSp m cs md N)]) ho hc2 2 (by decide) rfl rfl (x := []) hr, rfl⟩
      | true =>
        rw [if_neg (by simp)]
        refine loop_vc mixed 110 [3] (.f <| .h (.q 21 1) <| .h (.oc (.tup [db false, db true]) (stP m cs md N v2)) <| .h (.q 24 0) <| .h (.cs ⟨[some zAt, none, some (cSpP m cs md v2)], []⟩) .r) ?_
        refine via (by kernel_rfl : (decide ((↑k : Int) < (↑N : Int)) = false ∧ (∀ (o : Oper) (c : Call) (fo : Operand), o.op = Op.call c → c.callee = Callee.value fo → OpOK PP o [D.v (V.fn 127 [] []), D.ptr 2 0] (stP m cs md N vals) (D.tup [db false, db true]) (stP m cs md N v2)) ∧ (∀ (e : List D) (E : Ent) (g : Gh) (a : Act) (w : World), FI E g (St.mk [some zAt, some (cIs v2), some (cSp m cs md N)] []) e a w → ∃ g', FI E g' (St.mk [some zAt, none, some (cSpP m cs md v2)] []) e a w) ∧ D.tup [D.v (V.agg [V.list (List.map vi cs), vi md, V.list (List.map vi v2)]), db true, di 0] = dPot cs md (some (v2, false, true).fst)) = _) ?_
        exact ⟨decide_eq_false (by omega), fun o c fo ho hc2 => op_callS (H := [some zAt, some (cIs vals), some (cSp m cs md N)]) ho hc2 2 (by decide) rfl rfl (x := []) hr, fun e => cv_sp m cs md v2 N (by simpa using hl2.trans hN.symm) e, rfl⟩
  | succ n ih =>
    intro k vals B hn hB hB2 h hl
    have hr := irnd_spec m hm cs md hc N hN vals B hB (by omega) h hl
    obtain ⟨hb2, hl2⟩ := rndM_ok hm hc m.rules vals false B (fun r hr => hm.rule hr) hB h (by omega)
    have hp := hm.places
    rw [potL]
    generalize rndM cs md m.rules vals false = f at *
    obtain ⟨v2, c, ok⟩ := f
    cases ok with
    | false =>
      rw [if_pos rfl]
      refine loop_vc mixed 110 [3] (.t <| .h (.q 15 1) <| .h (.oc (.tup [db c, db false]) (stP m cs md N v2)) .r) ?_
      refine via (by kernel_rfl : (decide ((↑k : Int) < (↑N : Int)) = true ∧ (∀ (o : Oper) (c_1 : Call) (fo : Operand), o.op = Op.call c_1 → c_1.callee = Callee.value fo → OpOK PP o [D.v (V.fn 127 [] []), D.ptr 2 0] (stP m cs md N vals) (D.tup [db c, db false]) (stP m cs md N v2)) ∧ D.tup [D.v (V.agg [V.list [], vi 0, V.list []]), db false, di 0] = dPot cs md none) = _) ?_
      exact ⟨decide_eq_true (by omega), fun o c fo ho hc2 => op_callS (H := [some zAt, some (cIs vals), some (cSp m cs md N)]) ho hc2 2 (by decide) rfl rfl (x := []) hr, rfl⟩
    | true =>
      rw [if_neg (by simp)]
      cases c with
      | false =>
        rw [if_pos rfl]
        refine loop_vc mixed 110 [3] (.t <| .h (.q 15 1) <| .h (.oc (.tup [db false, db true]) (stP m cs md N v2)) <| .h (.q 19 0) <| .h (.cs ⟨[some zAt, none, some (cSpP m cs md v2)], []⟩) .r) ?_
        refine via (by kernel_rfl : (decide ((↑k : Int) < (↑N : Int)) = true ∧ (∀ (o : Oper) (c : Call) (fo : Operand), o.op = Op.call c → c.callee = Callee.value fo → OpOK PP o [D.v (V.fn 127 [] []), D.ptr 2 0] (stP m cs md N vals) (D.tup [db false, db true]) (stP m cs md N v2)) ∧ (∀ (e : List D) (E : Ent) (g : Gh) (a : Act) (w : World), FI E g (St.mk [some zAt, some (cIs v2), some (cSp m cs md N)] []) e a w → ∃ g', FI E g' (St.mk [some zAt, none, some (cSpP m cs md v2)] []) e a w) ∧ D.tup [D.v (V.agg [V.list (List.map vi cs), vi md, V.list (List.map vi v2)]), db true, di 0] = dPot cs md (some (v2, false, true).fst)) = _) ?_
        exact ⟨decide_eq_true (by omega), fun o c fo ho hc2 => op_callS (H := [some zAt, some (cIs vals), some (cSp m cs md N)]) ho hc2 2 (by decide) rfl rfl (x := []) hr, fun e => cv_sp m cs md v2 N (by simpa using hl2.trans hN.symm) e, rfl⟩
      | true =>
        rw [if_neg (by simp)]
        refine loop_vc mixed 110 [3] (.t <| .h (.q 15 1) <| .h (.oc (.tup [db true, db true]) (stP m cs md N v2)) <| .lo [ke 6, ke 10, ke 77, ch 78 (di (k + 1 : Nat))] (stP m cs md N v2)) ?_
        refine via (by kernel_rfl : (decide ((↑k : Int) < (↑N : Int)) = true ∧ (∀ (o : Oper) (c : Call) (fo : Operand), o.op = Op.call c → c.callee = Callee.value fo → OpOK PP o [D.v (V.fn 127 [] []), D.ptr 2 0] (stP m cs md N vals) (D.tup [db true, db true]) (stP m cs md N v2)) ∧ di (IntKind.wrap IntKind.i64 ((↑k : Int) + 1)) = di (↑(k + 1) : Int) ∧ okH 3 [] [some zAt, some (cIs v2), some (cSp m cs md N)] = true ∧ [some zAt, some (cIs v2), some (cSp m cs md N)] = [some zAt, some (cIs v2), some (cSp m cs md N)] ∧ Nv.It (RunC (CN 0) PP (fun env σ1 => ResOK PP fIPot env σ1 (dPot cs md (potL cs md m.rules n (v2, true, true).fst)) σ0) [KI.lp (sub cIPot [1, 1, 1, 1, 1, 1, 1, 0, 1, 0, 0]), KI.blk 1, KI.code (sub cIPot [1, 1, 1, 1, 1, 1, 1, 1])] (mkE 110 [(6, D.ptr 0 0), (10, D.ptr 2 0), (77, di (↑N : Int)), (78, di (↑(k + 1) : Int))]) (stP m cs md N v2))) = _) ?_
        exact ⟨decide_eq_true (by omega), fun o c fo ho hc2 => op_callS (H := [some zAt, some (cIs vals), some (cSp m cs md N)]) ho hc2 2 (by decide) rfl rfl (x := []) hr, by rw [wrap_succ (by omega)], okP .., rfl, ⟨ih (k + 1) v2 (B + 16777216 * m.rules.length) (by omega) (by omega) (by omega) hb2 (hl2.trans hN.symm)⟩⟩
theorem v0_ok {m : Mod} (hm : PlC m) {cs : List Int} {md : Int} (hc : CoM m cs md) : ValB md 8388608 ((List.replicate m.states.length OMG).set (stV m.start).toNat (fstM m cs md)) := by
  have hfw := hm.few
  have hcl := hc.len
  have hmd := hc.mod
  have hs := sumM_bd cs (nmV m.start) hc.coef hm.start.nm
  have hd : 0 < md → 0 ≤ fstM m cs md ∧ fstM m cs md ≤ md - 1 := fun hp => by
    rw [fstM, if_pos (decide_eq_true hp)]
    have h1 := Int.emod_nonneg (sumM cs (nmV m.start)) (show md ≠ 0 by omega)
    have h2 := Int.emod_lt_of_pos (sumM cs (nmV m.start)) hp
    omega
  have hb : -8388608 ≤ fstM m cs md ∧ fstM m cs md ≤ 8388608 := by
    by_cases hp : 0 < md
    · have := hd hp; omega
    · rw [fstM, if_neg (by rw [decide_eq_false hp]; decide)]; omega
  refine ⟨fun v hv => ?_, fun hp v hv => ?_⟩
  · rcases List.mem_or_eq_of_mem_set hv with h | h
    · exact .inl (List.mem_replicate.1 h).2
    · rw [h]; exact .inr hb
  · rcases List.mem_or_eq_of_mem_set hv with h | h
    · exact .inl (List.mem_replicate.1 h).2
    · rw [h]; exact .inr (hd hp)
theorem ipot_spec (m : Mod) (hm : PlC m) (cs : List Int) (md : Int) (hc : CoM m cs md) : FSpec PP 75 [dMod m, dIs cs, di md] σ0 (dPot cs md (potM m cs md)) σ0 := by
  have hp := hm.places
  have hfw := hm.few
  have hcl := hc.len
  have hmd := hc.mod
  obtain ⟨N, hN⟩ : ∃ N, N = m.states.length := ⟨_, rfl⟩
  obtain ⟨v0, hv0⟩ : ∃ v0, v0 = (List.replicate m.states.length OMG).set (stV m.start).toNat (fstM m cs md) := ⟨_, rfl⟩
  obtain ⟨p, hpp⟩ : ∃ p, p = potM m cs md := ⟨_, rfl⟩
  have hfm : fstM m cs md = if decide (md > 0) = true then sumM cs (nmV m.start) % md else sumM cs (nmV m.start) := rfl
  have eL : (m.states.map V.str).length = N := by rw [List.length_map, hN]
  have hrep : FSpec PP 123 [dl [vi 1099511627776], di N] σ0 (.arr 0 0 N) ⟨[some (cIs (List.replicate N OMG))], []⟩ := by
    have h := rep_spec N (by omega) (by omega)
    rwa [show List.replicate N (di 1099511627776) = cIs (List.replicate N OMG) by simp [cIs]] at h
  have hpl : D.pls (cIs (List.replicate N OMG)) = true := by rw [cIs_v]; exact pls_map _
  have hst := hm.start.st
  have hkd := isC_kids hm.start.isC
  have hidx : (List.map eV (Val.kids m.start))[Int.toNat 0]? = some (vVal (lf (stV m.start))) := by rw [hkd]; rfl
  have hset : ∀ x : Int, List.set (cIs (List.replicate N OMG)) (0 + Int.toNat (Val.n (lf (stV m.start))) * 1) (di x) = cIs ((List.replicate N OMG).set (stV m.start).toNat x) := fun x => by simp [cIs, List.map_set]; rfl
  have hli : 0 + Int.toNat (Val.n (lf (stV m.start))) * 1 < (cIs (List.replicate N OMG)).length := by show 0 + (stV m.start).toNat * 1 < _; simp [cIs]; omega
  have hfit := ifit_spec cs (by omega)
  rw [show cs.any fitB = false from List.any_eq_false.2 fun c h => by have := hc.coef c h; simp [fitB]; omega] at hfit
  have hmod := imod_spec md
  rw [show modB md = true by simp only [modB, Bool.or_eq_true, Bool.and_eq_true, decide_eq_true_eq, beq_iff_eq]; omega] at hmod
  have hnum := snum_spec m.start _ _ hm.start.isC (by have := hm.start.len; omega)
  have hsum := isum_spec cs (nmV m.start) (by rw [hm.start.len, hcl]; exact Nat.le_refl _) (by omega) hc.coef hm.start.nm
  have hsb := sumM_bd cs (nmV m.start) hc.coef hm.start.nm
  have hv := v0_ok hm hc
  have hlp := ipot_loop m hm cs md hc N hN N 0 v0 8388608 (by omega) (by omega) (by omega) (by rw [hv0]; exact hv) (by rw [hv0, List.length_set, List.length_replicate, hN])
  have hpe : potL cs md m.rules N v0 = potM m cs md := by rw [potM, hv0, hN]
  rw [hpe] at hlp
  by_cases h : decide (md > 0) = true
  · refine spec_vc mixed fIPot cIPot (by kernel_rfl) (by kernel_rfl) (by kernel_rfl) (by kernel_rfl) 110 (by kernel_rfl) [3] (.c (di 0) <| .k <| .f <| .c (db true) <| .c (db true) <| .c (dIs cs) <| .h (.oc (.arr 1 0 N) ⟨[some zAt, some (cIs (List.replicate N OMG))], []⟩) <| .h .g <| .h .g <| .c (dIs (nmV m.start)) <| .c (di (sumM cs (nmV m.start))) <| .t <| .c (di (fstM m cs md)) <| .h (.xs (vVal (lf (stV m.start)))) <| .w <| .lo [ke 6, ke 10, ch 77 (di N), ch 78 (di (0 : Nat))] (stP m cs md N v0)) ?_
    refine via (by kernel_rfl : (FSpec PP 120 [D.v (vMod m)] (St.mk [] []) (di 0) (St.mk [] []) ∧ ((↑(List.length (List.map vi cs)) : Int) != (↑(List.length (List.map V.str m.places)) : Int)) = false ∧ FSpec PP 121 [D.v (vIs cs)] (St.mk [] []) (db true) (St.mk [] []) ∧ FSpec PP 122 [di md] (St.mk [] []) (db true) (St.mk [] []) ∧ FSpec PP 63 [D.v (vIs cs)] (St.mk [] []) (dIs cs) (St.mk [] []) ∧ (∀ (o : Oper) (c : Call) (fo : Operand), o.op = Op.call c → c.callee = Callee.value fo → OpOK PP o [D.v (V.fn 123 [] []), D.v (V.list [vi 1099511627776]), di (↑(List.length (List.map V.str m.states)) : Int)] (St.mk [some [D.v V.nils, di 0, D.v V.nils]] []) (D.arr 1 0 N) (St.mk [some zAt, some (cIs (List.replicate N OMG))] [])) ∧ FSpec PP 125 [D.v (V.agg [vi (Val.n m.start), vVs (Val.kids m.start)])] (St.mk [] []) (dIs (nmV m.start)) (St.mk [] []) ∧ FSpec PP 124 [D.v (vIs cs), D.v (vIs (nmV m.start))] (St.mk [] []) (di (sumM cs (nmV m.start))) (St.mk [] []) ∧ decide (md > 0) = true ∧ FSpec PP 126 [di (sumM cs (nmV m.start)), di md] (St.mk [] []) (di (fstM m cs md)) (St.mk [] []) ∧ 2 = 2 ∧ iz 0 ≤ 0 ∧ (List.map eV (Val.kids m.start))[Int.toNat 0]? = some (vVal (lf (stV m.start))) ∧ 0 ≤ Val.n (lf (stV m.start)) ∧ Val.n (lf (stV m.start)) < (↑N : Int) ∧ 0 + Int.toNat (Val.n (lf (stV m.start))) * 1 < List.length (cIs (List.replicate N OMG)) ∧ (True ∧ True) ∧ di (↑(List.length (List.map V.str m.states)) : Int) = di (↑N : Int) ∧ di 0 = di (↑0 : Int) ∧ okH 3 [] [some zAt, some (List.set (cIs (List.replicate N OMG)) (0 + Int.toNat (Val.n (lf (stV m.start))) * 1) (di (fstM m cs md))), some [di m.kind, D.v (vSs m.states), D.v (vSs m.places), D.v (vSs m.letters), D.v (vIs m.ranks), di m.levels, di m.age, D.v (vRuls m.rules), di (Val.n m.start), D.v (vVs (Val.kids m.start)), D.v (vIs cs), di md, D.arr 1 0 N]] = true ∧ [some zAt, some (List.set (cIs (List.replicate N OMG)) (0 + Int.toNat (Val.n (lf (stV m.start))) * 1) (di (fstM m cs md))), some [di m.kind, D.v (vSs m.states), D.v (vSs m.places), D.v (vSs m.letters), D.v (vIs m.ranks), di m.levels, di m.age, D.v (vRuls m.rules), di (Val.n m.start), D.v (vVs (Val.kids m.start)), D.v (vIs cs), di md, D.arr 1 0 N]] = [some zAt, some (cIs v0), some (cSp m cs md N)] ∧ Nv.It (RunC (CN (List.length σ0.H)) PP (fun env σ1 => ResOK PP fIPot env σ1 (dPot cs md (potM m cs md)) σ0) [KI.lp (sub cIPot [1, 1, 1, 1, 1, 1, 1, 0, 1, 0, 0]), KI.blk 1, KI.code (sub cIPot [1, 1, 1, 1, 1, 1, 1, 1])] (mkE 110 [(6, D.ptr 0 0), (10, D.ptr 2 0), (77, di (↑N : Int)), (78, di (↑0 : Int))]) (stP m cs md N v0))) = _) ?_
    have hrst : FSpec PP 126 [di (sumM cs (nmV m.start)), di md] σ0 (di (fstM m cs md)) σ0 := by
      rw [fstM, if_pos h]; exact irest_spec _ md (by have := of_decide_eq_true h; omega) (by omega)
    rw [eL, hset, show cIs ((List.replicate N OMG).set (stV m.start).toNat (fstM m cs md)) = cIs v0 by rw [hv0, hN]]
    exact ⟨scnt_spec m hm, by rw [List.length_map, List.length_map, hcl]; simp, hfit, hmod, cloI_spec cs (by omega), fun o c fo ho hc2 => op_call0_arr (f := 123) (fs := []) (cs := []) (ds := [dl [vi 1099511627776], di N]) ho hc2 rfl hpl hrep, hnum, hsum, h, hrst, rfl, by decide, hidx, hst.1, (by show stV m.start < _; omega), hli, ⟨trivial, trivial⟩, rfl, rfl, okP m cs md N v0, rfl, ⟨hlp⟩⟩
  · refine spec_vc mixed fIPot cIPot (by kernel_rfl) (by kernel_rfl) (by kernel_rfl) (by kernel_rfl) 110 (by kernel_rfl) [3] (.c (di 0) <| .k <| .f <| .c (db true) <| .c (db true) <| .c (dIs cs) <| .h (.oc (.arr 1 0 N) ⟨[some zAt, some (cIs (List.replicate N OMG))], []⟩) <| .h .g <| .h .g <| .c (dIs (nmV m.start)) <| .c (di (sumM cs (nmV m.start))) <| .f <| .h (.xs (vVal (lf (stV m.start)))) <| .w <| .lo [ke 6, ke 10, ch 77 (di N), ch 78 (di (0 : Nat))] (stP m cs md N v0)) ?_
    refine via (by kernel_rfl : (FSpec PP 120 [D.v (vMod m)] (St.mk [] []) (di 0) (St.mk [] []) ∧ ((↑(List.length (List.map vi cs)) : Int) != (↑(List.length (List.map V.str m.places)) : Int)) = false ∧ FSpec PP 121 [D.v (vIs cs)] (St.mk [] []) (db true) (St.mk [] []) ∧ FSpec PP 122 [di md] (St.mk [] []) (db true) (St.mk [] []) ∧ FSpec PP 63 [D.v (vIs cs)] (St.mk [] []) (dIs cs) (St.mk [] []) ∧ (∀ (o : Oper) (c : Call) (fo : Operand), o.op = Op.call c → c.callee = Callee.value fo → OpOK PP o [D.v (V.fn 123 [] []), D.v (V.list [vi 1099511627776]), di (↑(List.length (List.map V.str m.states)) : Int)] (St.mk [some [D.v V.nils, di 0, D.v V.nils]] []) (D.arr 1 0 N) (St.mk [some zAt, some (cIs (List.replicate N OMG))] [])) ∧ FSpec PP 125 [D.v (V.agg [vi (Val.n m.start), vVs (Val.kids m.start)])] (St.mk [] []) (dIs (nmV m.start)) (St.mk [] []) ∧ FSpec PP 124 [D.v (vIs cs), D.v (vIs (nmV m.start))] (St.mk [] []) (di (sumM cs (nmV m.start))) (St.mk [] []) ∧ decide (md > 0) = false ∧ 2 = 2 ∧ iz 0 ≤ 0 ∧ (List.map eV (Val.kids m.start))[Int.toNat 0]? = some (vVal (lf (stV m.start))) ∧ 0 ≤ Val.n (lf (stV m.start)) ∧ Val.n (lf (stV m.start)) < (↑N : Int) ∧ 0 + Int.toNat (Val.n (lf (stV m.start))) * 1 < List.length (cIs (List.replicate N OMG)) ∧ (True ∧ True) ∧ di (↑(List.length (List.map V.str m.states)) : Int) = di (↑N : Int) ∧ di 0 = di (↑0 : Int) ∧ okH 3 [] [some zAt, some (List.set (cIs (List.replicate N OMG)) (0 + Int.toNat (Val.n (lf (stV m.start))) * 1) (di (sumM cs (nmV m.start)))), some [di m.kind, D.v (vSs m.states), D.v (vSs m.places), D.v (vSs m.letters), D.v (vIs m.ranks), di m.levels, di m.age, D.v (vRuls m.rules), di (Val.n m.start), D.v (vVs (Val.kids m.start)), D.v (vIs cs), di md, D.arr 1 0 N]] = true ∧ [some zAt, some (List.set (cIs (List.replicate N OMG)) (0 + Int.toNat (Val.n (lf (stV m.start))) * 1) (di (sumM cs (nmV m.start)))), some [di m.kind, D.v (vSs m.states), D.v (vSs m.places), D.v (vSs m.letters), D.v (vIs m.ranks), di m.levels, di m.age, D.v (vRuls m.rules), di (Val.n m.start), D.v (vVs (Val.kids m.start)), D.v (vIs cs), di md, D.arr 1 0 N]] = [some zAt, some (cIs v0), some (cSp m cs md N)] ∧ Nv.It (RunC (CN (List.length σ0.H)) PP (fun env σ1 => ResOK PP fIPot env σ1 (dPot cs md (potM m cs md)) σ0) [KI.lp (sub cIPot [1, 1, 1, 1, 1, 1, 1, 0, 1, 0, 0]), KI.blk 1, KI.code (sub cIPot [1, 1, 1, 1, 1, 1, 1, 1])] (mkE 110 [(6, D.ptr 0 0), (10, D.ptr 2 0), (77, di (↑N : Int)), (78, di (↑0 : Int))]) (stP m cs md N v0))) = _) ?_
    have hF : decide (md > 0) = false := by simpa using h
    have hfs : sumM cs (nmV m.start) = fstM m cs md := by rw [fstM, if_neg h]
    rw [eL, hset, show cIs ((List.replicate N OMG).set (stV m.start).toNat (sumM cs (nmV m.start))) = cIs v0 by rw [hv0, hN, hfs]]
    exact ⟨scnt_spec m hm, by rw [List.length_map, List.length_map, hcl]; simp, hfit, hmod, cloI_spec cs (by omega), fun o c fo ho hc2 => op_call0_arr (f := 123) (fs := []) (cs := []) (ds := [dl [vi 1099511627776], di N]) ho hc2 rfl hpl hrep, hnum, hsum, hF, rfl, by decide, hidx, hst.1, (by show stV m.start < _; omega), hli, ⟨trivial, trivial⟩, rfl, rfl, okP m cs md N v0, rfl, ⟨hlp⟩⟩
end Go.Proofs.YtdfdemnbaiieaaaGreat

namespace Go.Proofs.YtdfdemnbaiieaaaGreat
open Go.Dv Go.Nv
set_option maxRecDepth 20000
theorem potL_ok {m : Mod} (hm : PlC m) {cs : List Int} {md : Int} (hc : CoM m cs md) : ∀ (n : Nat) (vals : List Int) (B : Int), 0 ≤ B → ValB md B vals → vals.length = m.states.length → ∀ r, potL cs md m.rules n vals = some r → ValB md (B + 201326592 * (n + 1)) r ∧ r.length = m.states.length := by
  intro n
  have hp := hm.places
  induction n with
  | zero =>
    intro vals B hB h hl r hr
    obtain ⟨h1, h2⟩ := rndM_ok hm hc m.rules vals false B (fun r hr => hm.rule hr) hB h hl
    rw [potL] at hr
    split at hr
    · cases hr
    · cases hr
      exact ⟨⟨fun v hv => by have := h1.bd v hv; omega, h1.md⟩, h2⟩
  | succ n ih =>
    intro vals B hB h hl r hr
    obtain ⟨h1, h2⟩ := rndM_ok hm hc m.rules vals false B (fun r hr => hm.rule hr) hB h hl
    rw [potL] at hr
    split at hr
    · cases hr
    · split at hr
      · cases hr
        exact ⟨⟨fun v hv => by have := h1.bd v hv; omega, h1.md⟩, h2⟩
      · obtain ⟨h3, h4⟩ := ih _ (B + 16777216 * m.rules.length) (by omega) h1 h2 r hr
        exact ⟨⟨fun v hv => by have := h3.bd v hv; omega, h3.md⟩, h4⟩
theorem potM_ok {m : Mod} (hm : PlC m) {cs : List Int} {md : Int} (hc : CoM m cs md) {vals : List Int} (h : potM m cs md = some vals) : AtmOK m ⟨cs, md, vals⟩ := by
  have hfw := hm.few
  obtain ⟨h1, h2⟩ := potL_ok hm hc m.states.length _ 8388608 (by omega) (v0_ok hm hc) (by rw [List.length_set, List.length_replicate]) vals h
  refine ⟨hc.len, hc.coef, hc.mod, h2, fun v hv => ?_⟩
  rcases hc.mod with hm0 | hm0
  · rcases h1.bd v hv with h | h
    · exact .inl h
    · exact .inr (.inl ⟨hm0, by omega⟩)
  · rcases h1.md (by omega) v hv with h | h
    · exact .inl h
    · exact .inr (.inr ⟨by show 0 < md; omega, h⟩)
theorem cndM_ok {m : Mod} (hm : PlC m) {n : Int} (hn : 0 ≤ n) (h : (cndM m.places.length n).2.2 = true) : CoM m (cndM m.places.length n).1 (cndM m.places.length n).2.1 := by
  have hfw := hm.few
  have hp := hm.places
  revert h
  unfold cndM
  split
  · rename_i hp1
    split
    · intro _
      refine ⟨by simp [hp1], fun c hc => ?_, ?_⟩
      · simp only [List.mem_singleton] at hc; omega
      · dsimp only; split <;> omega
    · intro h; cases h
  · split
    · intro _
      refine ⟨by simp; omega, fun c hc => ?_, ?_⟩
      · simp only [List.mem_cons, List.not_mem_nil, or_false] at hc; omega
      · dsimp only; split <;> omega
    · intro h; cases h
theorem icnd_spec (m : Mod) (hm : PlC m) (n : Int) (hn : 0 ≤ n ∧ n ≤ 1000) : FSpec PP 73 [di m.places.length, di n] σ0 (dCnd (cndM m.places.length n)) σ0 := by
  have hfw := hm.few
  have hp := hm.places
  rcases show m.places.length = 1 ∨ m.places.length = 2 by omega with h | h
  · rw [h]; exact icnd_1 n hn
  · rw [h]; exact icnd_2 n hn
def nxtH (h : Hnt) : Hnt := ⟨h.found, h.before, h.rules, h.next, h.cand + 1, h.used⟩
/-- an atom that tells the target from what is reached -/
def atmV (cs : List Int) (md : Int) (vals : List Int) (u : Int) : Vrd := ⟨true, false, [], cs, md, vals, [], u⟩
def exclM (m : Mod) (c : Val) (h : Hnt) : Hnt × Vrd :=
  match cndM m.places.length h.cand with
  | (cs, md, true) => match potM m cs md with
    | some vals => if excB m ⟨cs, md, vals⟩ c = true then (nxtH h, atmV cs md vals h.used) else (nxtH h, openV h.used)
    | none => (nxtH h, openV h.used)
  | (_, _, false) => (h, openV h.used)
noncomputable abbrev fExcl : Func := Tryz.f44
noncomputable def cExcl : Code := fExcl.body.getD .skip
theorem excl_spec (m : Mod) (hm : PlC m) (c : Val) (hc : CfgOK m c) (h : Hnt) (hn : 0 ≤ h.cand ∧ h.cand ≤ 1000) : FSpec PP 44 [.ptr 0 0] (stH h m c) (dVrd (exclM m c h).2) (stH (exclM m c h).1 m c) := by
  have hcd := icnd_spec m hm h.cand hn
  have hco := cndM_ok hm hn.1
  have hpl := spl_spec m (by have := hm.places; omega)
  rw [plainB_plc hm] at hpl
  rw [exclM]
  generalize cndM m.places.length h.cand = k at *
  obtain ⟨cs, md, ok⟩ := k
  have hw : IntKind.i64.wrap (h.cand + 1) = h.cand + 1 := wrap_id (by omega) (by omega)
  cases ok with
  | false =>
    dsimp only
    refine spec_vc mixed fExcl cExcl (by kernel_rfl) (by kernel_rfl) (by kernel_rfl) (by kernel_rfl) 86 (by kernel_rfl) [] (.c (.tup [dIs cs, di md, db false]) <| .c1 (cPl h m c) (dVrd (openV h.used)) .r) ?_
    refine via (by kernel_rfl : (FSpec PP 73 [di (↑(List.length (List.map V.str m.places)) : Int), di h.cand] (St.mk [] []) (D.tup [dIs cs, di md, db false]) (St.mk [] []) ∧ (True ∧ True ∧ True) ∧ FSpec PP 64 [D.ptr 0 0] (St.mk [some (cPl h m c)] []) (dVrd (openV h.used)) (St.mk [some (cPl h m c)] []) ∧ [some (cPl h m c)] = [some (cPl h m c)] ∧ D.v (V.agg [V.bool (openV h.used).decided, V.bool (openV h.used).yes, V.list [], V.list [], vi (openV h.used).mod, V.list [], V.list [], vi (openV h.used).used]) = dVrd (openV h.used)) = _) ?_
    exact ⟨by rw [List.length_map]; exact hcd, ⟨trivial, trivial, trivial⟩, opn_spec h m c, rfl, rfl⟩
  | true =>
    have hco := hco rfl
    have hpo := ipot_spec m hm cs md hco
    have hpk : ∀ vals, potM m cs md = some vals → AtmOK m ⟨cs, md, vals⟩ := fun vals h => potM_ok hm hco h
    dsimp only
    generalize potM m cs md = o at *
    cases o with
    | none =>
      refine spec_vc mixed fExcl cExcl (by kernel_rfl) (by kernel_rfl) (by kernel_rfl) (by kernel_rfl) 86 (by kernel_rfl) [] (.c (.tup [dIs cs, di md, db true]) <| .c (db true) <| .c (dPot cs md none) <| .c1 (cPl (nxtH h) m c) (dVrd (openV h.used)) .r) ?_
      refine via (by kernel_rfl : (FSpec PP 73 [di (↑(List.length (List.map V.str m.places)) : Int), di h.cand] (St.mk [] []) (D.tup [dIs cs, di md, db true]) (St.mk [] []) ∧ (True ∧ True ∧ True) ∧ FSpec PP 74 [D.v (V.agg [vi m.kind, vSs m.states, vSs m.places, vSs m.letters, vIs m.ranks, vi m.levels, vi m.age, vRuls m.rules, vi (Val.n m.start), vVs (Val.kids m.start)])] (St.mk [] []) (db true) (St.mk [] []) ∧ FSpec PP 75 [D.v (V.agg [vi m.kind, vSs m.states, vSs m.places, vSs m.letters, vIs m.ranks, vi m.levels, vi m.age, vRuls m.rules, vi (Val.n m.start), vVs (Val.kids m.start)]), D.v (vIs cs), di md] (St.mk [] []) (dPot cs md none) (St.mk [] []) ∧ FSpec PP 64 [D.ptr 0 0] (St.mk [some [dVs h.found, dIs h.before, dIs h.rules, di h.next, di (IntKind.wrap IntKind.i64 (h.cand + 1)), di h.used, di m.kind, D.v (vSs m.states), D.v (vSs m.places), D.v (vSs m.letters), D.v (vIs m.ranks), di m.levels, di m.age, D.v (vRuls m.rules), di (Val.n m.start), dVs (Val.kids m.start), di (Val.n c), dVs (Val.kids c)]] []) (dVrd (openV h.used)) (St.mk [some (cPl (nxtH h) m c)] []) ∧ [some (cPl (nxtH h) m c)] = [some (cPl (match none with | some vals => if excB m (Atm.mk cs md vals) c = true then (nxtH h, atmV cs md vals h.used) else (nxtH h, openV h.used) | none => (nxtH h, openV h.used)).fst m c)] ∧ D.v (V.agg [V.bool (openV h.used).decided, V.bool (openV h.used).yes, V.list [], V.list [], vi (openV h.used).mod, V.list [], V.list [], vi (openV h.used).used]) = dVrd (match none with | some vals => if excB m (Atm.mk cs md vals) c = true then (nxtH h, atmV cs md vals h.used) else (nxtH h, openV h.used) | none => (nxtH h, openV h.used)).snd) = _) ?_
      rw [hw]
      exact ⟨by rw [List.length_map]; exact hcd, ⟨trivial, trivial, trivial⟩, hpl, hpo, opn_spec (nxtH h) m c, rfl, rfl⟩
    | some vals =>
      have hex := iexc_spec m hm _ (hpk vals rfl) c hc
      dsimp only
      cases hb : excB m ⟨cs, md, vals⟩ c with
      | true =>
        rw [if_pos rfl]
        refine spec_vc mixed fExcl cExcl (by kernel_rfl) (by kernel_rfl) (by kernel_rfl) (by kernel_rfl) 86 (by kernel_rfl) [] (.c (.tup [dIs cs, di md, db true]) <| .c (db true) <| .c (dPot cs md (some vals)) <| .c (.tup [db true, di 0]) .r) ?_
        refine via (by kernel_rfl : (FSpec PP 73 [di (↑(List.length (List.map V.str m.places)) : Int), di h.cand] (St.mk [] []) (D.tup [dIs cs, di md, db true]) (St.mk [] []) ∧ (True ∧ True ∧ True) ∧ FSpec PP 74 [D.v (V.agg [vi m.kind, vSs m.states, vSs m.places, vSs m.letters, vIs m.ranks, vi m.levels, vi m.age, vRuls m.rules, vi (Val.n m.start), vVs (Val.kids m.start)])] (St.mk [] []) (db true) (St.mk [] []) ∧ FSpec PP 75 [D.v (V.agg [vi m.kind, vSs m.states, vSs m.places, vSs m.letters, vIs m.ranks, vi m.levels, vi m.age, vRuls m.rules, vi (Val.n m.start), vVs (Val.kids m.start)]), D.v (vIs cs), di md] (St.mk [] []) (dPot cs md (some vals)) (St.mk [] []) ∧ FSpec PP 76 [D.v (V.agg [vi m.kind, vSs m.states, vSs m.places, vSs m.letters, vIs m.ranks, vi m.levels, vi m.age, vRuls m.rules, vi (Val.n m.start), vVs (Val.kids m.start)]), D.v (V.agg [vIs (Atm.mk cs md vals).coefs, vi (Atm.mk cs md vals).mod, vIs (Atm.mk cs md vals).vals]), D.v (V.agg [vi (Val.n c), vVs (Val.kids c)])] (St.mk [] []) (D.tup [db true, di 0]) (St.mk [] []) ∧ (True ∧ True ∧ True ∧ True) ∧ (True ∧ True ∧ True) ∧ [some [dVs h.found, dIs h.before, dIs h.rules, di h.next, di (IntKind.wrap IntKind.i64 (h.cand + 1)), di h.used, di m.kind, D.v (vSs m.states), D.v (vSs m.places), D.v (vSs m.letters), D.v (vIs m.ranks), di m.levels, di m.age, D.v (vRuls m.rules), di (Val.n m.start), dVs (Val.kids m.start), di (Val.n c), dVs (Val.kids c)]] = [some (cPl (nxtH h, atmV cs md vals h.used).fst m c)] ∧ D.v (V.agg [V.bool true, V.bool false, V.list [], V.list (List.map vi (Atm.mk cs md vals).coefs), vi (Atm.mk cs md vals).mod, V.list (List.map vi (Atm.mk cs md vals).vals), V.list [], vi h.used]) = dVrd (nxtH h, atmV cs md vals h.used).snd) = _) ?_
        rw [hw]
        exact ⟨by rw [List.length_map]; exact hcd, ⟨trivial, trivial, trivial⟩, hpl, hpo, hb ▸ hex, ⟨trivial, trivial, trivial, trivial⟩, ⟨trivial, trivial, trivial⟩, rfl, rfl⟩
      | false =>
        rw [if_neg (by decide)]
        refine spec_vc mixed fExcl cExcl (by kernel_rfl) (by kernel_rfl) (by kernel_rfl) (by kernel_rfl) 86 (by kernel_rfl) [] (.c (.tup [dIs cs, di md, db true]) <| .c (db true) <| .c (dPot cs md (some vals)) <| .c (.tup [db false, di 0]) <| .c1 (cPl (nxtH h) m c) (dVrd (openV h.used)) .r) ?_
        refine via (by kernel_rfl : (FSpec PP 73 [di (↑(List.length (List.map V.str m.places)) : Int), di h.cand] (St.mk [] []) (D.tup [dIs cs, di md, db true]) (St.mk [] []) ∧ (True ∧ True ∧ True) ∧ FSpec PP 74 [D.v (V.agg [vi m.kind, vSs m.states, vSs m.places, vSs m.letters, vIs m.ranks, vi m.levels, vi m.age, vRuls m.rules, vi (Val.n m.start), vVs (Val.kids m.start)])] (St.mk [] []) (db true) (St.mk [] []) ∧ FSpec PP 75 [D.v (V.agg [vi m.kind, vSs m.states, vSs m.places, vSs m.letters, vIs m.ranks, vi m.levels, vi m.age, vRuls m.rules, vi (Val.n m.start), vVs (Val.kids m.start)]), D.v (vIs cs), di md] (St.mk [] []) (dPot cs md (some vals)) (St.mk [] []) ∧ FSpec PP 76 [D.v (V.agg [vi m.kind, vSs m.states, vSs m.places, vSs m.letters, vIs m.ranks, vi m.levels, vi m.age, vRuls m.rules, vi (Val.n m.start), vVs (Val.kids m.start)]), D.v (V.agg [vIs (Atm.mk cs md vals).coefs, vi (Atm.mk cs md vals).mod, vIs (Atm.mk cs md vals).vals]), D.v (V.agg [vi (Val.n c), vVs (Val.kids c)])] (St.mk [] []) (D.tup [db false, di 0]) (St.mk [] []) ∧ (True ∧ True ∧ True ∧ True) ∧ FSpec PP 64 [D.ptr 0 0] (St.mk [some [dVs h.found, dIs h.before, dIs h.rules, di h.next, di (IntKind.wrap IntKind.i64 (h.cand + 1)), di h.used, di m.kind, D.v (vSs m.states), D.v (vSs m.places), D.v (vSs m.letters), D.v (vIs m.ranks), di m.levels, di m.age, D.v (vRuls m.rules), di (Val.n m.start), dVs (Val.kids m.start), di (Val.n c), dVs (Val.kids c)]] []) (dVrd (openV h.used)) (St.mk [some (cPl (nxtH h) m c)] []) ∧ [some (cPl (nxtH h) m c)] = [some (cPl (nxtH h, openV h.used).fst m c)] ∧ D.v (V.agg [V.bool (openV h.used).decided, V.bool (openV h.used).yes, V.list [], V.list [], vi (openV h.used).mod, V.list [], V.list [], vi (openV h.used).used]) = dVrd (nxtH h, openV h.used).snd) = _) ?_
        rw [hw]
        exact ⟨by rw [List.length_map]; exact hcd, ⟨trivial, trivial, trivial⟩, hpl, hpo, hb ▸ hex, ⟨trivial, trivial, trivial, trivial⟩, opn_spec (nxtH h) m c, rfl, rfl⟩
end Go.Proofs.YtdfdemnbaiieaaaGreat

namespace Go.Proofs.YtdfdemnbaiieaaaGreat
open Go.Dv Go.Nv
set_option maxRecDepth 20000
/-- what is right with a hunt on the way -/
structure HnI (m : Mod) (h : Hnt) : Prop where
  ok : HntOK h
  cfg : ∀ v ∈ h.found, CfgOK m v
theorem findL_ok {m : Mod} (hm : PlC m) (c : Val) (at' : Int) : ∀ (l : List Stp) (h : Hnt), HnI m h → 0 ≤ at' ∧ at' < h.found.length → (∀ s ∈ l, CfgOK m s.2) → HnI m (findL c at' h l).1 ∧ (findL c at' h l).1.cand = h.cand ∧ (findL c at' h l).1.used = h.used ∧ (findL c at' h l).1.next = h.next
  | [], h, hh, _, _ => ⟨hh, rfl, rfl, rfl⟩
  | s :: l, h, hh, ha, hl => by
    have hs := hl s (by simp)
    have hl' : ∀ s ∈ l, CfgOK m s.2 := fun s h => hl s (by simp [h])
    rw [findL]
    split
    · exact findL_ok hm c at' l h hh ha hl'
    · split
      · exact ⟨hh, rfl, rfl, rfl⟩
      · rename_i h2
        have h2 : ¬ (h.found.length : Int) ≥ 128 := by simpa using h2
        have ho := addH_ok hh.ok (by omega) ha (s := s) (by have := hs.size hm; omega)
        have hi : HnI m (addH h at' s) := ⟨ho, fun v hv => by
          rcases List.mem_append.1 hv with hv | hv
          · exact hh.cfg v hv
          · rw [List.mem_singleton.1 hv]; exact hs⟩
        split
        · exact findL_ok hm c at' l _ hi (by simp only [addH, List.length_append, List.length_cons, List.length_nil]; omega) hl'
        · split
          · exact ⟨hi, rfl, rfl, rfl⟩
          · exact ⟨hi, rfl, rfl, rfl⟩
theorem findM_ok {m : Mod} (hm : PlC m) (c : Val) (h : Hnt) (hh : HnI m h) (hn : 0 ≤ h.next) : HnI m (findM m c h).1 ∧ (findM m c h).1.cand = h.cand ∧ (findM m c h).1.used = h.used ∧ h.next ≤ (findM m c h).1.next ∧ (findM m c h).1.next ≤ h.next + 1 := by
  rw [findM]
  split
  · exact ⟨hh, rfl, rfl, by show h.next ≤ h.next; omega, by show h.next ≤ h.next + 1; omega⟩
  · rename_i h1
    have h1 : ¬ h.next ≥ (h.found.length : Int) := by simpa using h1
    split
    · exact ⟨hh, rfl, rfl, by show h.next ≤ h.next; omega, by show h.next ≤ h.next + 1; omega⟩
    · obtain ⟨v, hv⟩ : ∃ v, h.found[h.next.toNat]? = some v := ⟨_, List.getElem?_eq_getElem (show h.next.toNat < h.found.length by omega)⟩
      have hst := stepsM_or hm (hh.cfg v (List.mem_of_getElem? hv))
      rw [show h.found.getD h.next.toNat default = v by rw [List.getD_eq_getElem?_getD, hv]; rfl]
      obtain ⟨g1, g2, g3, g4⟩ := findL_ok hm c h.next (stepsM m v).1 ⟨h.found, h.before, h.rules, h.next + 1, h.cand, h.used⟩ ⟨⟨hh.ok.ne, hh.ok.len, hh.ok.size, hh.ok.bl, hh.ok.rl, hh.ok.back⟩, hh.cfg⟩ (by show 0 ≤ h.next ∧ h.next < h.found.length; omega) (fun s hs => (hst.2.2 s hs).ok)
      exact ⟨g1, g2, g3, by rw [g4]; show h.next ≤ h.next + 1; omega, by rw [g4]; show h.next + 1 ≤ h.next + 1; omega⟩
theorem rown_pl (h : Hnt) (h1 : h.found.length ≤ 100000) (hs : ∀ v ∈ h.found, v.size ≤ 1000000) (h2 : h.before.length ≤ 100000) (h3 : h.rules.length ≤ 100000) (hb : h.before ≠ []) (hr : h.rules ≠ []) :
    FSpec PP 37 [dHnt h] σ0 (dHnt h) σ0 := by
  have hsp := rown_spec h h1 hs h2 h3 hb hr
  refine ⟨hsp.1, fun g w args hw ha => Calls.mono (hsp.2 g w args hw ha) ?_⟩
  rintro e w' ⟨u, g', rfl, hw', hr⟩
  have hw2 := wi_sh (σ' := σ0) hw' (m := 0) rfl (Nat.zero_le _) (by rw [hw.n]; exact Nat.le_refl _) rfl (by simp)
  refine ⟨u, _, rfl, hw2, ?_⟩
  refine repD_sh _ _ rfl ?_
  simp only [repD, repV_agg] at hr ⊢
  obtain ⟨us, rfl, hr⟩ := hr
  have hr2 := repDs_un hr
  refine ⟨us, toVs_rep (g := g') (ds := (cAc h).map D.un) rfl hr2 (fun c hc => ?_), rfl⟩
  simp only [cAc, List.map_cons, List.map_nil, D.un, List.mem_cons, List.not_mem_nil, or_false] at hc
  rcases hc with rfl | rfl | rfl | rfl | rfl | rfl <;> rfl
def usedH (h : Hnt) : Hnt := ⟨h.found, h.before, h.rules, h.next, h.cand, h.used + 1⟩
def closedV (l : List Val) (u : Int) : Vrd := ⟨true, false, [], [], 0, [], l, u⟩
/-- one step of a hunt -/
def stepH (m : Mod) (c : Val) (h : Hnt) : Hnt × Vrd × Int :=
  if (cmpV m.start c == 0) = true then (usedH h, yesV [] (usedH h).used, 0)
  else if ((findM m c (usedH h)).2.2 != 0) = true then (h, openV 0, (findM m c (usedH h)).2.2)
  else if (findM m c (usedH h)).2.1.decided = true then ((findM m c (usedH h)).1, (findM m c (usedH h)).2.1, 0)
  else if decide ((findM m c (usedH h)).1.next ≥ ((findM m c (usedH h)).1.found.length : Int)) = true then ((findM m c (usedH h)).1, closedV (sortV (findM m c (usedH h)).1.found) (findM m c (usedH h)).1.used, 0)
  else ((exclM m c (findM m c (usedH h)).1).1, (exclM m c (findM m c (usedH h)).1).2, 0)
abbrev zHn : List D := [.v .nils, .v .nils, .v .nils, di 0, di 0, di 0]
abbrev dStp (r : Hnt × Vrd × Int) : D := .tup [dHnt r.1, dVrd r.2.1, di r.2.2]
noncomputable abbrev fStep : Func := Tryz.f19
noncomputable def cStep : Code := fStep.body.getD .skip
theorem op_own (h : Hnt) (hh : HntOK h) {o : Oper} {c : Call} {fo : Operand} (ho : o.op = .call c) (hc : c.callee = .value fo) (H : List (Option (List D))) : OpOK PP o [.v (.fn 37 [] []), dHnt h] ⟨H, []⟩ (.dagg (cAc h)) ⟨H, owA h⟩ := by
  have hl := hh.len
  have hbl := hh.bl
  have hrl := hh.rl
  have hne : 0 < h.found.length := List.length_pos_iff.2 hh.ne
  have hsp := rown_spec h (by omega) (fun v hv => by have := hh.size v hv; omega) (by omega) (by omega) (List.length_pos_iff.1 (by omega)) (List.length_pos_iff.1 (by omega))
  have := op_callG (σ := ⟨H, []⟩) ho hc (fD := .v (.fn 37 [] [])) rfl (ds := [dHnt h]) [] id hsp (.cons (.ren (dc := dHnt h) rfl) .nil) .nil (by simp) rfl (by simp) (by simp) (by simp [D.okN, D.okNs]) rfl
  simpa [renH, backH, renOwn, D.ren, D.rens, rho] using this
theorem cv_plainQ (h : Hnt) (m : Mod) (c : Val) {H : List (Option (List D))} {own : List (Nat × Nat × List V)} {q : Nat} (hq : H[q]? = some (some (cAcc h m c))) (e : List D) : Cv e ⟨H, own⟩ e ⟨H.set q (some (cPl h m c)), own⟩ :=
  cv_cells (σ := ⟨H, own⟩) (q := q) (cs := cAcc h m c) (cs' := cPl h m c) hq (fun g us hr => by
    have := repDs_un hr
    simpa [D.un] using this) (fun _ x hx => by
    simp only [cPl, List.mem_cons, List.not_mem_nil, or_false] at hx
    rcases hx with rfl | rfl | rfl | rfl | rfl | rfl | rfl | rfl | rfl | rfl | rfl | rfl | rfl | rfl | rfl | rfl | rfl | rfl <;> rfl) e
abbrev cV (v : Vrd) : List D := [db v.decided, db v.yes, .v (vSts v.run), dIs v.coefs, di v.mod, dIs v.vals, dVs v.closed, di v.used]
theorem yes_0 (h : Hnt) (m : Mod) (c : Val) : FSpec PP 39 [.ptr 0 0, .v .nils] (stH h m c) (dVrd (yesV [] h.used)) (stH h m c) := by
  refine spec_vc mixed fYes cYes (by kernel_rfl) (by kernel_rfl) (by kernel_rfl) (by kernel_rfl) 12 (by kernel_rfl) [] .r ?_
  refine via (by kernel_rfl : ([some (cPl h m c)] = [some (cPl h m c)] ∧ D.v (V.agg [V.bool true, V.bool true, V.list [], V.list [], vi 0, V.list [], V.list [], vi h.used]) = dVrd (yesV [] h.used)) = _) ?_
  exact ⟨rfl, rfl⟩
theorem step_spec (m : Mod) (hm : PlC m) (c : Val) (hc : CfgOK m c) (h : Hnt) (hh : HnI m h) (hn : 0 ≤ h.next ∧ h.next ≤ 500) (hcd : 0 ≤ h.cand ∧ h.cand ≤ 500) (hu : 0 ≤ h.used ∧ h.used ≤ 100000) : FSpec PP 19 [dMod m, dV c, dHnt h] σ0 (dStp (stepH m c h)) σ0 := by
  have hask := askd_spec m hm c hc
  have hsz := hm.start.size hm
  have hsame := ssame_spec m.start c (by omega)
  rw [stepH]
  by_cases h1 : (cmpV m.start c == 0) = true
  · rw [if_pos h1]
    rw [h1] at hsame
    refine spec_vc mixed fStep cStep (by kernel_rfl) (by kernel_rfl) (by kernel_rfl) (by kernel_rfl) 107 (by kernel_rfl) [3, 4, 5] (.c (di 0) <| .h (.oc (.dagg (cAc h)) ⟨[some zHn, some zVr], owA h⟩) <| .h .g <| .c (db true) <| .h (.cs ⟨[some zHn, some zVr, some (cPl (usedH h) m c)], owA h⟩) <| .c1 (cPl (usedH h) m c) (dVrd (yesV [] (usedH h).used)) .r) ?_
    refine via (by kernel_rfl : (FSpec PP 35 [D.v (vMod m), D.v (vVal c)] (St.mk [] []) (di 0) (St.mk [] []) ∧ (∀ (o : Oper) (c : Call) (fo : Operand), o.op = Op.call c → c.callee = Callee.value fo → OpOK PP o [D.v (V.fn 37 [] []), D.v (vHnt h)] (St.mk [some [D.v V.nils, D.v V.nils, D.v V.nils, di 0, di 0, di 0], some [db false, db false, D.v V.nils, D.v V.nils, di 0, D.v V.nils, D.v V.nils, di 0]] []) (D.dagg (cAc h)) (St.mk [some zHn, some zVr] (owA h))) ∧ FSpec PP 38 [D.v (V.agg [vi (Val.n m.start), vVs (Val.kids m.start)]), D.v (vVal c)] (St.mk [] []) (db true) (St.mk [] []) ∧ (∀ (e : List D) (E : Ent) (g : Gh) (a : Act) (w : World), FI E g (St.mk [some zHn, some zVr, some [D.acc 1 (List.map eV h.found), D.acc 2 (List.map vi h.before), D.acc 3 (List.map vi h.rules), di h.next, di h.cand, D.v (V.int IntKind.i64 (IntKind.wrap IntKind.i64 (h.used + 1))), D.v (vi m.kind), D.v (vSs m.states), D.v (vSs m.places), D.v (vSs m.letters), D.v (vIs m.ranks), D.v (vi m.levels), D.v (vi m.age), D.v (vRuls m.rules), D.v (vi (Val.n m.start)), D.v (vVs (Val.kids m.start)), D.v (vi (Val.n c)), D.v (vVs (Val.kids c))]] [(3, 1, List.map vi h.rules), (2, 1, List.map vi h.before), (1, 2, List.map eV h.found)]) e a w → ∃ g', FI E g' (St.mk [some zHn, some zVr, some (cPl (usedH h) m c)] (owA h)) e a w) ∧ FSpec PP 39 [D.ptr 0 0, D.v V.nils] (St.mk [some (cPl (usedH h) m c)] []) (dVrd (yesV [] (usedH h).used)) (St.mk [some (cPl (usedH h) m c)] []) ∧ ((some [dVs (usedH h).found, dIs (usedH h).before, dIs (usedH h).rules, di (usedH h).next, di (usedH h).cand, di (usedH h).used] = some [dVs (usedH h).found, dIs (usedH h).before, dIs (usedH h).rules, di (usedH h).next, di (usedH h).cand, di (usedH h).used] ∧ some [dVs (usedH h).found, dIs (usedH h).before, dIs (usedH h).rules, di (usedH h).next, di (usedH h).cand, di (usedH h).used] = some [dVs (usedH h).found, dIs (usedH h).before, dIs (usedH h).rules, di (usedH h).next, di (usedH h).cand, di (usedH h).used] ∧ some [dVs (usedH h).found, dIs (usedH h).before, dIs (usedH h).rules, di (usedH h).next, di (usedH h).cand, di (usedH h).used] = some [dVs (usedH h).found, dIs (usedH h).before, dIs (usedH h).rules, di (usedH h).next, di (usedH h).cand, di (usedH h).used] ∧ True) ∧ True) ∧ D.tup [D.v (V.agg [V.list (List.map eV (usedH h).found), V.list (List.map vi (usedH h).before), V.list (List.map vi (usedH h).rules), vi (usedH h).next, vi (usedH h).cand, vi (usedH h).used]), D.v (V.agg [V.bool (yesV [] (usedH h).used).decided, V.bool (yesV [] (usedH h).used).yes, V.list [], V.list [], vi (yesV [] (usedH h).used).mod, V.list [], V.list [], vi (yesV [] (usedH h).used).used]), di 0] = dStp (usedH h, yesV [] (usedH h).used, 0)) = _) ?_
    rw [wrap_id (n := h.used + 1) (by omega) (by omega)]
    exact ⟨hask, fun o c fo ho hc2 => op_own h hh.ok ho hc2 _, hsame, fun e => cv_plainQ (usedH h) m c (H := [some zHn, some zVr, some (cAcc (usedH h) m c)]) (own := owA h) (q := 2) rfl e, yes_0 (usedH h) m c, ⟨⟨rfl, rfl, rfl, trivial⟩, trivial⟩, rfl⟩
  · rw [if_neg h1]
    rw [eq_false_of_ne_true h1] at hsame
    have hiU : HnI m (usedH h) := ⟨⟨hh.ok.ne, hh.ok.len, hh.ok.size, hh.ok.bl, hh.ok.rl, hh.ok.back⟩, hh.cfg⟩
    have hfs := find_spec m hm c (usedH h) hiU.ok hn.1 (by show h.next ≤ 1000; omega) hh.cfg
    obtain ⟨hi2, hc2, hu2, hn2, hn3⟩ := findM_ok hm c (usedH h) hiU hn.1
    have hrp : FSpec PP 37 [dHnt h] σ0 (dHnt h) σ0 := by
      have hl := hh.ok.len
      have hbl := hh.ok.bl
      have hrl := hh.ok.rl
      have hne : 0 < h.found.length := List.length_pos_iff.2 hh.ok.ne
      exact rown_pl h (by omega) (fun v hv => by have := hh.ok.size v hv; omega) (by omega) (by omega) (List.length_pos_iff.1 (by omega)) (List.length_pos_iff.1 (by omega))
    have hcd2 : 0 ≤ (usedH h).cand ∧ (usedH h).cand ≤ 500 := hcd
    refine spec_vc mixed fStep cStep (by kernel_rfl) (by kernel_rfl) (by kernel_rfl) (by kernel_rfl) 107 (by kernel_rfl) [3, 4, 5] (.c (di 0) <| .h (.oc (.dagg (cAc h)) ⟨[some zHn, some zVr], owA h⟩) <| .h .g <| .c (db false) <| .h (.q 8 1) <| .h (.s [ke 3, ke 4, ke 5, ke 6, ke 7, ke 8, ke 9, ke 10, ke 49]) .z) ?_
    refine via (by kernel_rfl : (FSpec PP 35 [D.v (vMod m), D.v (vVal c)] (St.mk [] []) (di 0) (St.mk [] []) ∧ (∀ (o : Oper) (c : Call) (fo : Operand), o.op = Op.call c → c.callee = Callee.value fo → OpOK PP o [D.v (V.fn 37 [] []), D.v (vHnt h)] (St.mk [some [D.v V.nils, D.v V.nils, D.v V.nils, di 0, di 0, di 0], some [db false, db false, D.v V.nils, D.v V.nils, di 0, D.v V.nils, D.v V.nils, di 0]] []) (D.dagg (cAc h)) (St.mk [some zHn, some zVr] (owA h))) ∧ FSpec PP 38 [D.v (V.agg [vi (Val.n m.start), vVs (Val.kids m.start)]), D.v (vVal c)] (St.mk [] []) (db false) (St.mk [] []) ∧ Nv.It (RunO (CN (List.length σ0.H)) PP (fun env σ1 => ResOK PP fStep env σ1 (dStp (if ((findM m c (usedH h)).snd.snd != 0) = true then (h, openV 0, (findM m c (usedH h)).snd.snd) else if (findM m c (usedH h)).snd.fst.decided = true then ((findM m c (usedH h)).fst, (findM m c (usedH h)).snd.fst, 0) else if decide ((findM m c (usedH h)).fst.next ≥ (↑(List.length (findM m c (usedH h)).fst.found) : Int)) = true then ((findM m c (usedH h)).fst, closedV (sortV (findM m c (usedH h)).fst.found) (findM m c (usedH h)).fst.used, 0) else ((exclM m c (findM m c (usedH h)).fst).fst, (exclM m c (findM m c (usedH h)).fst).snd, 0))) σ0) [KI.code (sub cStep [1, 1, 1, 1, 1, 1])] (opsIn (sub cStep [1, 1, 1, 1, 1, 0])) (List.drop 1 (opsIn (sub cStep [1, 1, 1, 1, 1, 0])).toList) (mkE 107 [(3, D.v (V.ref (vMod m))), (4, D.v (V.ref (vVal c))), (5, D.v (V.ref (vHnt h))), (6, D.ptr 0 0), (7, D.ptr 1 0), (8, di 0), (9, di 0), (10, D.ptr 2 0), (49, D.ptr 2 0)]) (St.mk [some zHn, some zVr, some [D.acc 1 (List.map eV h.found), D.acc 2 (List.map vi h.before), D.acc 3 (List.map vi h.rules), di h.next, di h.cand, di (IntKind.wrap IntKind.i64 (h.used + 1)), di m.kind, D.v (vSs m.states), D.v (vSs m.places), D.v (vSs m.letters), D.v (vIs m.ranks), di m.levels, di m.age, D.v (vRuls m.rules), di (Val.n m.start), D.v (vVs (Val.kids m.start)), di (Val.n c), D.v (vVs (Val.kids c))]] [(3, 1, List.map vi h.rules), (2, 1, List.map vi h.before), (1, 2, List.map eV h.found)]))) = _) ?_
    rw [wrap_id (n := h.used + 1) (by omega) (by omega)]
    refine ⟨hask, fun o c fo ho hc2 => op_own h hh.ok ho hc2 _, hsame, ⟨?_⟩⟩
    refine ro_callHE (σ := ⟨[some zHn, some zVr, some (cAcc (usedH h) m c)], owA (usedH h)⟩) 50 40 2 [.ptr 2 0] [.ptr 0 0] (cPl (findM m c (usedH h)).1 m c) (dFnd (findM m c (usedH h))) rfl (by kernel_rfl) (by kernel_rfl) (by kernel_rfl) rfl rfl (by rfl) (by rfl) (by rfl) (by rfl) ?_ (by rfl) hfs ?_
    · exact .ptr .nil
    generalize findM m c (usedH h) = p at *
    obtain ⟨h2, v, e⟩ := p
    dsimp only at hi2 hc2 hu2 hn2 hn3 ⊢
    by_cases he : (e != 0) = true
    · rw [if_pos he]
      refine rest_n mixed 107 [3, 4, 5] 8 2 (.t <| .c (dHnt h) .r) ?_
      refine via (by kernel_rfl : (((h2, v, e).snd.snd != 0) = true ∧ FSpec PP 37 [D.v (vHnt h)] (St.mk [] []) (dHnt h) (St.mk [] []) ∧ D.tup [D.v (V.agg [V.list (List.map eV h.found), V.list (List.map vi h.before), V.list (List.map vi h.rules), vi h.next, vi h.cand, vi h.used]), D.v (V.agg [V.bool false, V.bool false, V.list [], V.list [], vi 0, V.list [], V.list [], vi 0]), di (h2, v, e).snd.snd] = dStp (h, openV 0, e)) = _) ?_
      exact ⟨he, hrp, rfl⟩
    · rw [if_neg he]
      have hf := eq_false_of_ne_true he
      by_cases hd : v.decided = true
      · rw [if_pos hd]
        refine rest_n mixed 107 [3, 4, 5] 8 2 (.f <| .t .r) ?_
        refine via (by kernel_rfl : (((h2, v, e).snd.snd != 0) = false ∧ (h2, v, e).snd.fst.decided = true ∧ (True ∧ (some [db (h2, v, e).snd.fst.decided, db (h2, v, e).snd.fst.yes, D.v (vSts (h2, v, e).snd.fst.run), D.v (vIs (h2, v, e).snd.fst.coefs), di (h2, v, e).snd.fst.mod, D.v (vIs (h2, v, e).snd.fst.vals), D.v (vVs (h2, v, e).snd.fst.closed), di (h2, v, e).snd.fst.used] = some [db (h2, v, e).snd.fst.decided, db (h2, v, e).snd.fst.yes, D.v (vSts (h2, v, e).snd.fst.run), D.v (vIs (h2, v, e).snd.fst.coefs), di (h2, v, e).snd.fst.mod, D.v (vIs (h2, v, e).snd.fst.vals), D.v (vVs (h2, v, e).snd.fst.closed), di (h2, v, e).snd.fst.used] ∧ some [db (h2, v, e).snd.fst.decided, db (h2, v, e).snd.fst.yes, D.v (vSts (h2, v, e).snd.fst.run), D.v (vIs (h2, v, e).snd.fst.coefs), di (h2, v, e).snd.fst.mod, D.v (vIs (h2, v, e).snd.fst.vals), D.v (vVs (h2, v, e).snd.fst.closed), di (h2, v, e).snd.fst.used] = some [db (h2, v, e).snd.fst.decided, db (h2, v, e).snd.fst.yes, D.v (vSts (h2, v, e).snd.fst.run), D.v (vIs (h2, v, e).snd.fst.coefs), di (h2, v, e).snd.fst.mod, D.v (vIs (h2, v, e).snd.fst.vals), D.v (vVs (h2, v, e).snd.fst.closed), di (h2, v, e).snd.fst.used] ∧ True) ∧ True) ∧ D.tup [D.v (V.agg [V.list (List.map eV h2.found), V.list (List.map vi h2.before), V.list (List.map vi h2.rules), vi h2.next, vi h2.cand, vi h2.used]), D.v (V.agg [V.bool (h2, v, e).snd.fst.decided, V.bool (h2, v, e).snd.fst.yes, V.list (List.map vSt (h2, v, e).snd.fst.run), V.list (List.map vi (h2, v, e).snd.fst.coefs), vi (h2, v, e).snd.fst.mod, V.list (List.map vi (h2, v, e).snd.fst.vals), V.list (List.map eV (h2, v, e).snd.fst.closed), vi (h2, v, e).snd.fst.used]), di 0] = dStp (h2, v, 0)) = _) ?_
        exact ⟨hf, hd, ⟨trivial, ⟨rfl, rfl, trivial⟩, trivial⟩, rfl⟩
      · rw [if_neg hd]
        have hd2 := eq_false_of_ne_true hd
        by_cases hx : decide (h2.next ≥ (h2.found.length : Int)) = true
        · rw [if_pos hx]
          refine rest_n mixed 107 [3, 4, 5] 8 2 (.f <| .f <| .t <| .h (.oc (.arr 4 0 h2.found.length) ⟨[some zHn, some zVr, some (cPl h2 m c), some (cV v), some (flatV (h2.found.map eV))], []⟩) <| .h (.oc (.tup []) ⟨[some zHn, some zVr, some (cPl h2 m c), some (cV v), some (flatV ((sortV h2.found).map eV))], []⟩) <| .h (.ct 13 (dVs (sortV h2.found)) ⟨[some zHn, some zVr, some (cPl h2 m c), some (cV v), none], []⟩) .r) ?_
          refine via (by kernel_rfl : (((h2, v, e).snd.snd != 0) = false ∧ (h2, v, e).snd.fst.decided = false ∧ (True ∧ True ∧ True) ∧ decide (h2.next ≥ (↑(List.length (List.map eV h2.found)) : Int)) = true ∧ (∀ (o : Oper) (c_1 : Call) (fo : Operand), o.op = Op.call c_1 → c_1.callee = Callee.value fo → OpOK PP o [D.v (V.fn 41 [] []), dVs h2.found] (St.mk [some zHn, some zVr, some (cPl h2 m c), some [db (h2, v, e).snd.fst.decided, db (h2, v, e).snd.fst.yes, D.v (vSts (h2, v, e).snd.fst.run), D.v (vIs (h2, v, e).snd.fst.coefs), di (h2, v, e).snd.fst.mod, D.v (vIs (h2, v, e).snd.fst.vals), D.v (vVs (h2, v, e).snd.fst.closed), di (h2, v, e).snd.fst.used]] []) (D.arr 4 0 (List.length h2.found)) (St.mk [some zHn, some zVr, some (cPl h2 m c), some (cV v), some (flatV (List.map eV h2.found))] [])) ∧ (∀ (o : Oper) (c_1 : Call) (fo : Operand), o.op = Op.call c_1 → c_1.callee = Callee.value fo → OpOK PP o [D.v (V.fn 42 [] []), D.arr 4 0 (List.length h2.found), D.v (V.fn 43 [] [])] (St.mk [some zHn, some zVr, some (cPl h2 m c), some (cV v), some (flatV (List.map eV h2.found))] []) (D.tup []) (St.mk [some zHn, some zVr, some (cPl h2 m c), some (cV v), some (flatV (List.map eV (sortV h2.found)))] [])) ∧ (∀ (e : List D), e[13]? = some (D.arr 4 0 (List.length h2.found)) → ∀ (E : Ent) (g : Gh) (a : Act) (w : World), FI E g (St.mk [some zHn, some zVr, some (cPl h2 m c), some (cV v), some (flatV (List.map eV (sortV h2.found)))] []) e a w → ∃ g', FI E g' (St.mk [some zHn, some zVr, some (cPl h2 m c), some (cV v), none] []) (List.set e 13 (dVs (sortV h2.found))) a w) ∧ (True ∧ (some [di h2.used] = some [di h2.used] ∧ some [di h2.used] = some [di h2.used] ∧ True) ∧ True) ∧ D.tup [D.v (V.agg [V.list (List.map eV h2.found), V.list (List.map vi h2.before), V.list (List.map vi h2.rules), vi h2.next, vi h2.cand, vi h2.used]), D.v (V.agg [V.bool true, V.bool false, V.list [], V.list [], vi 0, V.list [], V.list (List.map eV (sortV h2.found)), vi h2.used]), di 0] = dStp (h2, closedV (sortV h2.found) h2.used, 0)) = _) ?_
          refine ⟨hf, hd2, ⟨trivial, trivial, trivial⟩, by rw [List.length_map]; exact hx, fun o cl fo ho hc2 => ?_, fun o cl fo ho hc2 => ?_, fun e he => cv_flz (σ := ⟨[some zHn, some zVr, some (cPl h2 m c), some (cV v), some (flatV ((sortV h2.found).map eV))], []⟩) (q := 4) (sz := 2) (by decide) (sizes_eV _) (by rw [List.length_map, (sortV_perm _).length_eq]) rfl he, ⟨trivial, ⟨rfl, rfl, trivial⟩, trivial⟩, rfl⟩
          · exact op_call0_arr (σ := ⟨[some zHn, some zVr, some (cPl h2 m c), some (cV v)], []⟩) (fs := []) (cs := []) (ds := [dVs h2.found]) ho hc2 rfl (pls_flatV _) (allA_spec h2.found (by have := hi2.ok.len; omega) (fun v hv => by have := hi2.ok.size v hv; omega))
          · exact op_call1 (dc := [.arr 0 0 h2.found.length, dfn 43]) (σ := ⟨[some zHn, some zVr, some (cPl h2 m c), some (cV v), some (flatV (h2.found.map eV))], []⟩) (q := 4) (fs := []) (cs := []) ho hc2 rfl (pls_flatV _) (pls_flatV _) (.arr (.pl rfl .nil)) rfl (sortV_spec h2.found (by have := hi2.ok.len; omega) (fun v hv => by have := hi2.ok.size v hv; omega))
        · rw [if_neg hx]
          refine rest_n mixed 107 [3, 4, 5] 8 2 (.f <| .f <| .f <| .c1 (cPl (exclM m c h2).1 m c) (dVrd (exclM m c h2).2) .r) ?_
          refine via (by kernel_rfl : (((h2, v, e).snd.snd != 0) = false ∧ (h2, v, e).snd.fst.decided = false ∧ (True ∧ True ∧ True) ∧ decide (h2.next ≥ (↑(List.length (List.map eV h2.found)) : Int)) = false ∧ FSpec PP 44 [D.ptr 0 0] (St.mk [some (cPl h2 m c)] []) (dVrd (exclM m c h2).snd) (St.mk [some (cPl (exclM m c h2).fst m c)] []) ∧ (True ∧ (some [db (exclM m c h2).snd.decided, db (exclM m c h2).snd.yes, D.v (vSts (exclM m c h2).snd.run), D.v (vIs (exclM m c h2).snd.coefs), di (exclM m c h2).snd.mod, D.v (vIs (exclM m c h2).snd.vals), D.v (vVs (exclM m c h2).snd.closed), di (exclM m c h2).snd.used] = some [db (exclM m c h2).snd.decided, db (exclM m c h2).snd.yes, D.v (vSts (exclM m c h2).snd.run), D.v (vIs (exclM m c h2).snd.coefs), di (exclM m c h2).snd.mod, D.v (vIs (exclM m c h2).snd.vals), D.v (vVs (exclM m c h2).snd.closed), di (exclM m c h2).snd.used] ∧ some [db (exclM m c h2).snd.decided, db (exclM m c h2).snd.yes, D.v (vSts (exclM m c h2).snd.run), D.v (vIs (exclM m c h2).snd.coefs), di (exclM m c h2).snd.mod, D.v (vIs (exclM m c h2).snd.vals), D.v (vVs (exclM m c h2).snd.closed), di (exclM m c h2).snd.used] = some [db (exclM m c h2).snd.decided, db (exclM m c h2).snd.yes, D.v (vSts (exclM m c h2).snd.run), D.v (vIs (exclM m c h2).snd.coefs), di (exclM m c h2).snd.mod, D.v (vIs (exclM m c h2).snd.vals), D.v (vVs (exclM m c h2).snd.closed), di (exclM m c h2).snd.used] ∧ True) ∧ True) ∧ D.tup [D.v (V.agg [V.list (List.map eV (exclM m c h2).fst.found), V.list (List.map vi (exclM m c h2).fst.before), V.list (List.map vi (exclM m c h2).fst.rules), vi (exclM m c h2).fst.next, vi (exclM m c h2).fst.cand, vi (exclM m c h2).fst.used]), D.v (V.agg [V.bool (exclM m c h2).snd.decided, V.bool (exclM m c h2).snd.yes, V.list (List.map vSt (exclM m c h2).snd.run), V.list (List.map vi (exclM m c h2).snd.coefs), vi (exclM m c h2).snd.mod, V.list (List.map vi (exclM m c h2).snd.vals), V.list (List.map eV (exclM m c h2).snd.closed), vi (exclM m c h2).snd.used]), di 0] = dStp ((exclM m c h2).fst, (exclM m c h2).snd, 0)) = _) ?_
          exact ⟨hf, hd2, ⟨trivial, trivial, trivial⟩, by rw [List.length_map]; exact eq_false_of_ne_true hx, excl_spec m hm c hc h2 (by omega), ⟨trivial, ⟨rfl, rfl, trivial⟩, trivial⟩, rfl⟩
end Go.Proofs.YtdfdemnbaiieaaaGreat

namespace Go.Proofs.YtdfdemnbaiieaaaGreat
open Go.Dv Go.Nv
set_option maxRecDepth 20000
theorem exclM_h (m : Mod) (c : Val) (h : Hnt) : (exclM m c h).1 = h ∨ (exclM m c h).1 = nxtH h := by
  rw [exclM]
  split
  · split
    · split
      · exact .inr rfl
      · exact .inr rfl
    · exact .inr rfl
  · exact .inl rfl
/-- the bounds of a hunt after k steps -/
structure HnB (m : Mod) (k : Nat) (h : Hnt) : Prop where
  inv : HnI m h
  next : 0 ≤ h.next ∧ h.next ≤ k
  cand : 0 ≤ h.cand ∧ h.cand ≤ k
  used : 0 ≤ h.used ∧ h.used ≤ k
theorem HnI.use {m : Mod} {h : Hnt} (hh : HnI m h) : HnI m (usedH h) := ⟨⟨hh.ok.ne, hh.ok.len, hh.ok.size, hh.ok.bl, hh.ok.rl, hh.ok.back⟩, hh.cfg⟩
theorem stepH_ok {m : Mod} (hm : PlC m) (c : Val) {k : Nat} {h : Hnt} (hb : HnB m k h) : HnB m (k + 1) (stepH m c h).1 := by
  have hn := hb.next
  have hc := hb.cand
  have hu := hb.used
  obtain ⟨g1, g2, g3, g4, g5⟩ := findM_ok hm c (usedH h) hb.inv.use hn.1
  have e1 : (usedH h).next = h.next := rfl
  have e2 : (usedH h).cand = h.cand := rfl
  have e3 : (usedH h).used = h.used + 1 := rfl
  have hF : HnB m (k + 1) (findM m c (usedH h)).1 := ⟨g1, by omega, by omega, by omega⟩
  rw [stepH]
  split
  · exact ⟨hb.inv.use, (by omega : 0 ≤ h.next ∧ h.next ≤ (k + 1 : Nat)), (by omega : 0 ≤ h.cand ∧ h.cand ≤ (k + 1 : Nat)), (by omega : 0 ≤ (usedH h).used ∧ (usedH h).used ≤ (k + 1 : Nat))⟩
  · split
    · exact ⟨hb.inv, (by omega : 0 ≤ h.next ∧ h.next ≤ (k + 1 : Nat)), (by omega : 0 ≤ h.cand ∧ h.cand ≤ (k + 1 : Nat)), (by omega : 0 ≤ h.used ∧ h.used ≤ (k + 1 : Nat))⟩
    · split
      · exact hF
      · split
        · exact hF
        · rcases exclM_h m c (findM m c (usedH h)).1 with e | e
          · dsimp only; rw [e]; exact hF
          · dsimp only; rw [e]
            exact ⟨⟨⟨g1.ok.ne, g1.ok.len, g1.ok.size, g1.ok.bl, g1.ok.rl, g1.ok.back⟩, g1.cfg⟩, ⟨hF.next.1, hF.next.2⟩, (by omega : 0 ≤ (findM m c (usedH h)).1.cand + 1 ∧ (findM m c (usedH h)).1.cand + 1 ≤ (k + 1 : Nat)), ⟨hF.used.1, hF.used.2⟩⟩
/-- what a hunt of n steps tells -/
def decL (m : Mod) (c : Val) : Nat → Hnt → Vrd → Vrd × Int
  | 0, _, v => (v, 0)
  | n + 1, h, v => if v.decided = true then (v, 0) else if ((stepH m c h).2.2 != 0) = true then (openV 0, (stepH m c h).2.2) else decL m c n (stepH m c h).1 (stepH m c h).2.1
def decM (m : Mod) (c : Val) (n : Nat) : Vrd × Int := decL m c n (hnt0 m) (openV 0)
abbrev dDec (r : Vrd × Int) : D := .tup [dVrd r.1, di r.2]
abbrev cH (h : Hnt) : List D := [dVs h.found, dIs h.before, dIs h.rules, di h.next, di h.cand, di h.used]
abbrev stD (h : Hnt) (v : Vrd) : St := ⟨[some zVr, some (cH h), some (cV v)], []⟩
theorem cv_zero {H : List (Option (List D))} {own : List (Nat × Nat × List V)} {q : Nat} (hq : H[q]? = some (some zVr)) (e : List D) : Cv e ⟨H, own⟩ e ⟨H.set q (some (cV (openV 0))), own⟩ :=
  cv_cells (σ := ⟨H, own⟩) (q := q) (cs := zVr) (cs' := cV (openV 0)) hq (fun g us hr => by
    simp only [repDs, repD, repV_nils] at hr ⊢
    obtain ⟨u0, _, rfl, h0, u1, _, rfl, h1, u2, _, rfl, h2, u3, _, rfl, h3, u4, _, rfl, h4, u5, _, rfl, h5, u6, _, rfl, h6, u7, _, rfl, h7, rfl⟩ := hr
    subst h2 h3 h5 h6
    exact ⟨_, _, rfl, h0, _, _, rfl, h1, _, _, rfl, repV_nil _, _, _, rfl, repV_nil _, _, _, rfl, h4, _, _, rfl, repV_nil _, _, _, rfl, repV_nil _, _, _, rfl, h7, rfl⟩) (fun _ x hx => by
    simp only [cV, List.mem_cons, List.not_mem_nil, or_false] at hx
    rcases hx with rfl | rfl | rfl | rfl | rfl | rfl | rfl | rfl <;> rfl) e
noncomputable abbrev fDcd : Func := Tryz.f8
noncomputable def cDcd : Code := fDcd.body.getD .skip
theorem hnt0_ok {m : Mod} (hm : PlC m) : HnB m 0 (hnt0 m) where
  inv := ⟨⟨by simp [hnt0], by simp [hnt0], fun v hv => by rw [List.mem_singleton.1 hv]; have := hm.start.size hm; omega, rfl, rfl, fun i b hb => by
    have h1 := (List.getElem?_eq_some_iff.1 hb).1
    simp [hnt0] at h1; subst h1
    simp [hnt0] at hb; omega⟩, fun v hv => by rw [List.mem_singleton.1 hv]; exact hm.start⟩
  next := by simp [hnt0]
  cand := by simp [hnt0]
  used := by simp [hnt0]
theorem dcd_loop (m : Mod) (hm : PlC m) (c : Val) (hc : CfgOK m c) (N : Nat) (hN : N ≤ 400) (n : Nat) : ∀ (k : Nat) (h : Hnt) (v : Vrd), N - k = n → HnB m k h →
    Rn PP fDcd 0 (dDec (decL m c n h v)) σ0 ([.lp (sub cDcd [1, 1, 1, 1, 0, 1, 0, 0]), .blk 0, .code (sub cDcd [1, 1, 1, 1, 1])] ++ []) (mkE 45 [(2, di N), (3, .v (.ref (vMod m))), (4, .v (.ref (vVal c))), (6, .ptr 0 0), (7, di 0), (8, .ptr 1 0), (10, .ptr 2 0), (11, di k)]) (stD h v) := by
  induction n with
  | zero =>
    intro k h v hn hb
    rw [decL]
    refine loop_vc mixed 45 [3, 4] (.f .r) ?_
    refine via (by kernel_rfl : (decide ((↑k : Int) < (↑N : Int)) = false ∧ D.tup [D.v (V.agg [V.bool v.decided, V.bool v.yes, V.list (List.map vSt v.run), V.list (List.map vi v.coefs), vi v.mod, V.list (List.map vi v.vals), V.list (List.map eV v.closed), vi v.used]), di 0] = dDec (v, 0)) = _) ?_
    exact ⟨decide_eq_false (by omega), rfl⟩
  | succ n ih =>
    intro k h v hn hb
    rw [decL]
    by_cases hd : v.decided = true
    · rw [if_pos hd]
      refine loop_vc mixed 45 [3, 4] (.t <| .f .r) ?_
      refine via (by kernel_rfl : (decide ((↑k : Int) < (↑N : Int)) = true ∧ (!v.decided) = false ∧ D.tup [D.v (V.agg [V.bool v.decided, V.bool v.yes, V.list (List.map vSt v.run), V.list (List.map vi v.coefs), vi v.mod, V.list (List.map vi v.vals), V.list (List.map eV v.closed), vi v.used]), di 0] = dDec (v, 0)) = _) ?_
      exact ⟨decide_eq_true (by omega), by rw [hd]; rfl, rfl⟩
    · rw [if_neg hd]
      have hnd : (!v.decided) = true := by simpa using hd
      have hst := step_spec m hm c hc h hb.inv (by have := hb.next; omega) (by have := hb.cand; omega) (by have := hb.used; omega)
      have hok := stepH_ok hm c hb
      generalize stepH m c h = p at *
      by_cases he : (p.2.2 != 0) = true
      · rw [if_pos he]
        refine loop_vc mixed 45 [3, 4] (.t <| .t <| .c (dStp p) <| .t .r) ?_
        refine via (by kernel_rfl : (decide ((↑k : Int) < (↑N : Int)) = true ∧ (!v.decided) = true ∧ FSpec PP 19 [D.v (vMod m), D.v (vVal c), D.v (V.agg [vVs h.found, vIs h.before, vIs h.rules, vi h.next, vi h.cand, vi h.used])] (St.mk [] []) (dStp p) (St.mk [] []) ∧ (p.snd.snd != 0) = true ∧ D.tup [D.v (V.agg [V.bool false, V.bool false, V.list [], V.list [], vi 0, V.list [], V.list [], vi 0]), di p.snd.snd] = dDec (openV 0, p.snd.snd)) = _) ?_
        exact ⟨decide_eq_true (by omega), hnd, hst, he, rfl⟩
      · rw [if_neg he]
        refine loop_vc mixed 45 [3, 4] (.t <| .t <| .c (dStp p) <| .f <| .lo [ke 2, ke 3, ke 4, ke 6, ke 7, ke 8, ke 10, ch 11 (di (k + 1 : Nat))] (stD p.1 p.2.1)) ?_
        refine via (by kernel_rfl : (decide ((↑k : Int) < (↑N : Int)) = true ∧ (!v.decided) = true ∧ FSpec PP 19 [D.v (vMod m), D.v (vVal c), D.v (V.agg [vVs h.found, vIs h.before, vIs h.rules, vi h.next, vi h.cand, vi h.used])] (St.mk [] []) (dStp p) (St.mk [] []) ∧ (p.snd.snd != 0) = false ∧ di (IntKind.wrap IntKind.i64 ((↑k : Int) + 1)) = di (↑(k + 1) : Int) ∧ okH 3 [] [some zVr, some [D.v (vVs p.fst.found), D.v (vIs p.fst.before), D.v (vIs p.fst.rules), di p.fst.next, di p.fst.cand, di p.fst.used], some [db p.snd.fst.decided, db p.snd.fst.yes, D.v (vSts p.snd.fst.run), D.v (vIs p.snd.fst.coefs), di p.snd.fst.mod, D.v (vIs p.snd.fst.vals), D.v (vVs p.snd.fst.closed), di p.snd.fst.used]] = true ∧ [some zVr, some [D.v (vVs p.fst.found), D.v (vIs p.fst.before), D.v (vIs p.fst.rules), di p.fst.next, di p.fst.cand, di p.fst.used], some [db p.snd.fst.decided, db p.snd.fst.yes, D.v (vSts p.snd.fst.run), D.v (vIs p.snd.fst.coefs), di p.snd.fst.mod, D.v (vIs p.snd.fst.vals), D.v (vVs p.snd.fst.closed), di p.snd.fst.used]] = [some zVr, some (cH p.fst), some (cV p.snd.fst)] ∧ Nv.It (RunC (CN 0) PP (fun env σ1 => ResOK PP fDcd env σ1 (dDec (decL m c n p.fst p.snd.fst)) σ0) [KI.lp (sub cDcd [1, 1, 1, 1, 0, 1, 0, 0]), KI.blk 0, KI.code (sub cDcd [1, 1, 1, 1, 1])] (mkE 45 [(2, di (↑N : Int)), (3, D.v (V.ref (vMod m))), (4, D.v (V.ref (vVal c))), (6, D.ptr 0 0), (7, di 0), (8, D.ptr 1 0), (10, D.ptr 2 0), (11, di (↑(k + 1) : Int))]) (stD p.fst p.snd.fst))) = _) ?_
        exact ⟨decide_eq_true (by omega), hnd, hst, eq_false_of_ne_true he, by rw [wrap_succ (by omega)], rfl, rfl, ⟨ih (k + 1) p.1 p.2.1 (by omega) hok⟩⟩
theorem dcd_spec (m : Mod) (hm : PlC m) (c : Val) (hc : CfgOK m c) (N : Nat) (hN : N ≤ 400) : FSpec PP 8 [dMod m, dV c, di N] σ0 (dDec (decM m c N)) σ0 := by
  refine spec_vc mixed fDcd cDcd (by kernel_rfl) (by kernel_rfl) (by kernel_rfl) (by kernel_rfl) 45 (by kernel_rfl) [3, 4] (.c (.tup [dHnt (hnt0 m), di 0]) <| .h (.q 5 0) <| .h (.cs (stD (hnt0 m) (openV 0))) <| .lo [ke 2, ke 3, ke 4, ke 6, ke 7, ke 8, ke 10, ch 11 (di (0 : Nat))] (stD (hnt0 m) (openV 0))) ?_
  refine via (by kernel_rfl : (FSpec PP 18 [D.v (vMod m), D.v (vVal c)] (St.mk [] []) (D.tup [dHnt (hnt0 m), di 0]) (St.mk [] []) ∧ (∀ (e : List D) (E : Ent) (g : Gh) (a : Act) (w : World), FI E g (St.mk [some [D.v (V.bool false), D.v (V.bool false), D.v V.nils, D.v V.nils, D.v (V.int IntKind.i64 0), D.v V.nils, D.v V.nils, D.v (V.int IntKind.i64 0)], some [D.v (vVs (hnt0 m).found), D.v (vIs (hnt0 m).before), D.v (vIs (hnt0 m).rules), D.v (vi (hnt0 m).next), D.v (vi (hnt0 m).cand), D.v (vi (hnt0 m).used)], some [D.v (V.bool false), D.v (V.bool false), D.v V.nils, D.v V.nils, D.v (V.int IntKind.i64 0), D.v V.nils, D.v V.nils, D.v (V.int IntKind.i64 0)]] []) e a w → ∃ g', FI E g' (stD (hnt0 m) (openV 0)) e a w) ∧ di 0 = di (↑0 : Int) ∧ okH 3 [] [some zVr, some (cH (hnt0 m)), some (cV (openV 0))] = true ∧ [some zVr, some (cH (hnt0 m)), some (cV (openV 0))] = [some zVr, some (cH (hnt0 m)), some (cV (openV 0))] ∧ Nv.It (RunC (CN (List.length σ0.H)) PP (fun env σ1 => ResOK PP fDcd env σ1 (dDec (decM m c N)) σ0) [KI.lp (sub cDcd [1, 1, 1, 1, 0, 1, 0, 0]), KI.blk 0, KI.code (sub cDcd [1, 1, 1, 1, 1])] (mkE 45 [(2, di (↑N : Int)), (3, D.v (V.ref (vMod m))), (4, D.v (V.ref (vVal c))), (6, D.ptr 0 0), (7, di 0), (8, D.ptr 1 0), (10, D.ptr 2 0), (11, di (↑0 : Int))]) (stD (hnt0 m) (openV 0)))) = _) ?_
  exact ⟨rstart_spec m hm c hc, fun e => (cv_zero (H := [some zVr, some (cH (hnt0 m)), some zVr]) (q := 2) rfl e), rfl, rfl, rfl, ⟨dcd_loop m hm c hc N hN N 0 (hnt0 m) (openV 0) rfl (hnt0_ok hm)⟩⟩
end Go.Proofs.YtdfdemnbaiieaaaGreat

namespace Go.Proofs.YtdfdemnbaiieaaaGreat
open Go.Dv Go.Nv
set_option maxRecDepth 20000
def rulS : Rul := ⟨[114], 0, 0, [1], [3], [], 0, 0, 0, [], [], [], [], 0⟩
def modS : Mod := ⟨1, [[97]], [[120]], [], [], 0, 0, [rulS], cfgV 0 [2]⟩
theorem modS_ok : modS.ok where
  kind := .inl rfl
  sized := by kernel_rfl
  ranked := by kernel_rfl
  named := by kernel_rfl
  rshort := fun r hr => by rw [List.mem_singleton.1 hr]; exact ⟨by decide, by decide, by decide, by decide, by decide, by decide, by decide⟩
  right := fun r hr => by rw [List.mem_singleton.1 hr]; kernel_rfl
  start := by kernel_rfl
  ssize := by show (cfgV 0 [2]).size ≤ 1000000; decide
theorem modS_plc : PlC modS where
  ok := modS_ok
  kind := rfl
  move := fun r hr => by rw [List.mem_singleton.1 hr]; rfl
  start := cfgOK modS 0 (by decide) [2] rfl (by intro y hy; rw [List.mem_singleton.1 hy]; decide)
  few := by decide
theorem sane_1 : (decM modS (cfgV 0 [5]) 30) = (⟨true, false, [], [-1], 2, [0], [], 4⟩, 0) := by kernel_rfl
theorem sane_2 : (decM modS (cfgV 0 [6]) 30) = (⟨true, true, [(0, cfgV 0 [4]), (0, cfgV 0 [6])], [], 0, [], [], 2⟩, 0) := by kernel_rfl
noncomputable abbrev fSane : Func := Tryz.f5
noncomputable def cSane : Code := fSane.body.getD .skip
theorem sane_spec : FSpec PP 5 [] σ0 (db true) σ0 := by
  refine spec_vc mixed fSane cSane (by kernel_rfl) (by kernel_rfl) (by kernel_rfl) (by kernel_rfl) 70 (by kernel_rfl) [] (.c (dDec (⟨true, false, [], [-1], 2, [0], [], 4⟩, 0)) <| .c (dDec (⟨true, true, [(0, cfgV 0 [4]), (0, cfgV 0 [6])], [], 0, [], [], 2⟩, 0)) .r) ?_
  refine via (by kernel_rfl : (FSpec PP 8 [D.v (V.agg [vi 1, V.list [V.str (ByteArray.mk #[97]).data.toList], V.list [V.str (ByteArray.mk #[120]).data.toList], V.list [], V.list [], vi 0, vi 0, V.list [V.agg [V.str (ByteArray.mk #[114]).data.toList, vi 0, vi 0, V.list [vi 1], V.list [vi 3], V.list [], vi 0, vi 0, vi 0, V.list [], V.list [], V.list [], V.list [], vi 0]], vi 0, V.list [V.agg [vi 0, V.list []], V.agg [vi 2, V.list []]]]), D.v (V.agg [vi 0, V.list [V.agg [vi 0, V.list []], V.agg [vi 5, V.list []]]]), di 30] (St.mk [] []) (dDec (Vrd.mk true false [] [-1] 2 [0] [] 4, 0)) (St.mk [] []) ∧ FSpec PP 8 [D.v (V.agg [vi 1, V.list [V.str (ByteArray.mk #[97]).data.toList], V.list [V.str (ByteArray.mk #[120]).data.toList], V.list [], V.list [], vi 0, vi 0, V.list [V.agg [V.str (ByteArray.mk #[114]).data.toList, vi 0, vi 0, V.list [vi 1], V.list [vi 3], V.list [], vi 0, vi 0, vi 0, V.list [], V.list [], V.list [], V.list [], vi 0]], vi 0, V.list [V.agg [vi 0, V.list []], V.agg [vi 2, V.list []]]]), D.v (V.agg [vi 0, V.list [V.agg [vi 0, V.list []], V.agg [vi 6, V.list []]]]), di 30] (St.mk [] []) (dDec (Vrd.mk true true [(0, cfgV 0 [4]), (0, cfgV 0 [6])] [] 0 [] [] 2, 0)) (St.mk [] []) ∧ db ((↑(List.length (List.map vSt (Vrd.mk true true [(0, cfgV 0 [4]), (0, cfgV 0 [6])] [] 0 [] [] 2, 0).fst.run)) : Int) == 2) = db true) = _) ?_
  have h1 := dcd_spec modS modS_plc (cfgV 0 [5]) (cfgOK modS 0 (by decide) [5] rfl (by intro y hy; rw [List.mem_singleton.1 hy]; decide)) 30 (by decide)
  have h2 := dcd_spec modS modS_plc (cfgV 0 [6]) (cfgOK modS 0 (by decide) [6] rfl (by intro y hy; rw [List.mem_singleton.1 hy]; decide)) 30 (by decide)
  rw [sane_1] at h1
  rw [sane_2] at h2
  exact ⟨h1, h2, rfl⟩
end Go.Proofs.YtdfdemnbaiieaaaGreat

namespace Go.Proofs.YtdfdemnbaiieaaaGreat
open Go.Dv Go.Nv
set_option maxRecDepth 20000
end Go.Proofs.YtdfdemnbaiieaaaGreat

namespace Go.Proofs.YtdfdemnbaiieaaaGreat
open Go.Dv Go.Nv
set_option maxRecDepth 20000
end Go.Proofs.YtdfdemnbaiieaaaGreat

namespace Go.Proofs.YtdfdemnbaiieaaaGreat
open Go.Dv Go.Nv
set_option maxRecDepth 20000
noncomputable abbrev fIn25 : Func := Tryz.f10
noncomputable def cIn25 : Code := fIn25.body.getD .skip
theorem in25_loop (l : List Val) (hl : l.length ≤ 1000000) (hs : ∀ x ∈ l, x.size ≤ 1000000) (v : Val) (n : Nat) : ∀ k : Nat, l.length - k = n →
    Rn PP fIn25 0 (db ((l.drop k).any fun x => cmpV x v == 0)) σ0 ([.lp (sub cIn25 [1, 0, 1, 0, 0]), .blk 0, .code (sub cIn25 [1, 1])] ++ []) (mkE 18 [(0, dVs l), (3, .v (.ref (vVal v))), (5, di k)]) σ0 := by
  induction n with
  | zero =>
    intro k hn
    rw [List.drop_of_length_le (by omega)]
    refine loop_vc mixed 18 [3] (.f .r) ?_
    refine via (by kernel_rfl : (decide ((↑k : Int) < (↑(List.length (List.map eV l)) : Int)) = false ∧ db false = db (List.any [] fun x => cmpV x v == 0)) = _) ?_
    exact ⟨decide_eq_false (by rw [List.length_map]; omega), rfl⟩
  | succ n ih =>
    intro k hn
    obtain ⟨x, hx⟩ : ∃ x, l[k]? = some x := ⟨_, List.getElem?_eq_getElem (show k < l.length by omega)⟩
    have e3 : l.drop k = x :: l.drop (k + 1) := by rw [List.drop_eq_getElem_cons (by omega)]; congr 1; rw [List.getElem?_eq_getElem (by omega)] at hx; simpa using hx
    have hi := ih (k + 1) (by omega)
    rw [e3, List.any_cons]
    have hsm := sam06_spec x v (hs x (List.mem_of_getElem? hx))
    cases hc : (cmpV x v == 0) with
    | true =>
      rw [hc] at hsm
      rw [Bool.true_or]
      refine loop_vc mixed 18 [3] (.t <| .h (.xs (vVal x)) <| .c (db true) .r) ?_
      refine via (by kernel_rfl : (decide ((↑k : Int) < (↑(List.length (List.map eV l)) : Int)) = true ∧ 2 = 2 ∧ 0 ≤ (↑k : Int) ∧ (List.map eV l)[Int.toNat (↑k : Int)]? = some (vVal x) ∧ FSpec PP 25 [D.v (vVal x), D.v (vVal v)] (St.mk [] []) (db true) (St.mk [] []) ∧ db true = db true) = _) ?_
      exact ⟨decide_eq_true (by rw [List.length_map]; omega), rfl, by omega, idx_val hx, hsm, rfl⟩
    | false =>
      rw [hc] at hsm
      rw [Bool.false_or]
      refine loop_vc mixed 18 [3] (.t <| .h (.xs (vVal x)) <| .c (db false) <| .l [ke 0, ke 3, ch 5 (di (k + 1 : Nat))]) ?_
      refine via (by kernel_rfl : (decide ((↑k : Int) < (↑(List.length (List.map eV l)) : Int)) = true ∧ 2 = 2 ∧ 0 ≤ (↑k : Int) ∧ (List.map eV l)[Int.toNat (↑k : Int)]? = some (vVal x) ∧ FSpec PP 25 [D.v (vVal x), D.v (vVal v)] (St.mk [] []) (db false) (St.mk [] []) ∧ di (IntKind.wrap IntKind.i64 ((↑k : Int) + 1)) = di (↑(k + 1) : Int) ∧ Nv.It (RunC (CN 0) PP (fun env σ1 => ResOK PP fIn25 env σ1 (db (List.any (List.drop (k + 1) l) fun x => cmpV x v == 0)) σ0) [KI.lp (sub cIn25 [1, 0, 1, 0, 0]), KI.blk 0, KI.code (sub cIn25 [1, 1])] (mkE 18 [(0, D.v (vVs l)), (3, D.v (V.ref (vVal v))), (5, di (↑(k + 1) : Int))]) (St.mk [] []))) = _) ?_
      exact ⟨decide_eq_true (by rw [List.length_map]; omega), rfl, by omega, idx_val hx, hsm, wrap_succ (by omega), ⟨hi⟩⟩
theorem in25_spec (l : List Val) (hl : l.length ≤ 1000000) (hs : ∀ x ∈ l, x.size ≤ 1000000) (v : Val) : FSpec PP 10 [dVs l, dV v] σ0 (db (l.any fun x => cmpV x v == 0)) σ0 := by
  refine spec_vc mixed fIn25 cIn25 (by kernel_rfl) (by kernel_rfl) (by kernel_rfl) (by kernel_rfl) 18 (by kernel_rfl) [3] (.l [ke 0, ke 3, ch 5 (di (0 : Nat))]) ?_
  refine via (by kernel_rfl : (di 0 = di (↑0 : Int) ∧ Nv.It (RunC (CN (List.length σ0.H)) PP (fun env σ1 => ResOK PP fIn25 env σ1 (db (List.any l fun x => cmpV x v == 0)) σ0) [KI.lp (sub cIn25 [1, 0, 1, 0, 0]), KI.blk 0, KI.code (sub cIn25 [1, 1])] (mkE 18 [(0, dVs l), (3, D.v (V.ref (vVal v))), (5, di (↑0 : Int))]) σ0)) = _) ?_
  exact ⟨rfl, ⟨in25_loop l hl hs v _ 0 rfl⟩⟩
end Go.Proofs.YtdfdemnbaiieaaaGreat

namespace Go.Proofs.YtdfdemnbaiieaaaGreat
open Go.Dv Go.Nv
set_option maxRecDepth 20000
abbrev cMa (S Pl : List (List UInt8)) (d : D) : List D := [di 1, .v (vSs S), .v (vSs Pl), .v .nils, .v .nils, di 0, di 0, d, di 0, .v .nils]
abbrev cMe (S Pl : List (List UInt8)) (d : D) (c : Val) : List D := [di 1, .v (vSs S), .v (vSs Pl), .v .nils, .v .nils, di 0, di 0, d, di c.n, dVs c.kids]
/-- where the rules lie, after one rule, two, three -/
abbrev H1 (r1 : Rul) : List (Option (List D)) := [some (cR r1), some (flatV ([r1].map vRul))]
abbrev H2 (r1 r2 : Rul) : List (Option (List D)) := [some (cR r1), none, some (cR r2), some (flatV ([r1, r2].map vRul))]
abbrev H3 (r1 r2 r3 : Rul) : List (Option (List D)) := [some (cR r1), none, some (cR r2), none, some (cR r3), some (flatV ([r1, r2, r3].map vRul))]
/-- what the loop of rules may come to -/
inductive EndG (l : List UInt8) (S Pl : List (List UInt8)) : D → St → Prop
  | one {a : Nat} {c : Val} {r1 : Rul} (h : MadeC ⟨1, S, Pl, [], [], 0, 0, [r1], c⟩) (ha : a ≤ l.length) : EndG l S Pl (.dagg (cMe S Pl (.gro 4 1 14) c)) ⟨[some (cDz l a), some (cMe S Pl (.gro 4 1 14) c), some (cMe S Pl (.gro 4 1 14) c)] ++ H1 r1, []⟩
  | two {a : Nat} {c : Val} {r1 r2 : Rul} (h : MadeC ⟨1, S, Pl, [], [], 0, 0, [r1, r2], c⟩) (ha : a ≤ l.length) : EndG l S Pl (.dagg (cMe S Pl (.gro 6 2 14) c)) ⟨[some (cDz l a), some (cMe S Pl (.gro 6 2 14) c), some (cMe S Pl (.gro 6 2 14) c)] ++ H2 r1 r2, []⟩
  | three {a : Nat} {c : Val} {r1 r2 r3 : Rul} (h : MadeC ⟨1, S, Pl, [], [], 0, 0, [r1, r2, r3], c⟩) (ha : a ≤ l.length) : EndG l S Pl (.dagg (cMe S Pl (.gro 8 3 14) c)) ⟨[some (cDz l a), some (cMe S Pl (.gro 8 3 14) c), some (cMe S Pl (.gro 8 3 14) c)] ++ H3 r1 r2 r3, []⟩
theorem mkR_at {ns np : Nat} {rs : List Rul} {k : Nat} {nm : List UInt8} {f t : Int} {nd gv : List Int} (hnm : dl3[k]? = some nm) (hf : 0 ≤ f ∧ f < ns) (ht : 0 ≤ t ∧ t < ns) (hn : nd.length = np ∧ ∀ x ∈ nd, 0 ≤ x ∧ x ≤ 2) (hg : gv.length = np ∧ ∀ x ∈ gv, 0 ≤ x ∧ x ≤ 2) (hrs : rs.length = k) (hR : ∀ i r, rs[i]? = some r → MadeR ns np i r) : ∀ i r, (rs ++ [mkR nm f t nd gv])[i]? = some r → MadeR ns np i r := fun i r hi => by
  by_cases hik : i < rs.length
  · rw [List.getElem?_append_left hik] at hi; exact hR i r hi
  · rw [List.getElem?_append_right (by omega)] at hi
    have h1 : i - rs.length = 0 := by
      have := (List.getElem?_eq_some_iff.1 hi).1
      simp at this; omega
    rw [h1] at hi
    simp at hi; subst hi
    have hik2 : i = k := by omega
    subst hik2
    exact ⟨hnm, hf, ht, hn, hg, rfl⟩
/-- what the loop of rules comes to, from k rules -/
def CtrG (l : List UInt8) (S Pl : List (List UInt8)) (k : Nat) (σ : St) : Prop := ∃ (d : D) (σ' : St), EndG l S Pl d σ' ∧
  Rn PP fCtr 1 d σ' ([.lp (sub cCtr [1, 1, 1, 0, 1, 0, 0]), .blk 0, .code (sub cCtr [1, 1, 1, 1])] ++ []) (mkE 85 [(0, .ptr 0 0), (1, db false), (4, .ptr 1 0), (5, .ptr 2 0), (6, di Pl.length), (7, di k)]) σ
theorem ctrG_3 (l : List UInt8) (hl : l.length ≤ 200) (S Pl : List (List UInt8)) (hS : S = [[97]] ∨ S = [[97], [98]]) (hP : Pl = [[120]] ∨ Pl = [[120], [121]]) (a : Nat) (ha : a ≤ l.length) (r1 r2 r3 : Rul) (hR : ∀ i r, ([r1, r2, r3] : List Rul)[i]? = some r → MadeR S.length Pl.length i r) :
    CtrG l S Pl 3 ⟨[some (cDz l a), some zM, some (cMa S Pl (.gro 8 3 14))] ++ H3 r1 r2 r3, []⟩ := by
  have hSl : 1 ≤ S.length ∧ S.length ≤ 2 := by rcases hS with rfl | rfl <;> decide
  have hPl : 1 ≤ Pl.length ∧ Pl.length ≤ 2 := by rcases hP with rfl | rfl <;> decide
  obtain ⟨r, a1, h1, h2, h3, h4⟩ := pick_ex l hl a ha 3 (by decide) (by decide)
  obtain ⟨ys, a2, y1, y2, y3, y4⟩ := ints_ex l hl a1 h3 Pl.length (by omega) 3 (by decide) (by decide)
  obtain ⟨c, hc⟩ : ∃ c, c = cfgV 0 ys := ⟨_, rfl⟩
  refine ⟨_, _, .three (r1 := r1) (r2 := r2) (r3 := r3) (c := c) ⟨rfl, hS, hP, rfl, rfl, rfl, rfl, by simp, hR, ys, y2, y3, hc⟩ y1, ?_⟩
  refine loop_vc mixed 85 [] (.c1 (cDz l a1) (di r) <| .f <| .c1 (cDz l a2) (dIs ys) <| .c (dV c) <| .h (.m (.dagg (cMe S Pl (.gro 8 3 14) c))) .rd) ?_
  refine via (by kernel_rfl : (FSpec PP 21 [D.ptr 0 0, di 3] (St.mk [some (cDz l a)] []) (di r) (St.mk [some (cDz l a1)] []) ∧ decide ((↑3 : Int) < IntKind.wrap IntKind.i64 (1 + r)) = false ∧ FSpec PP 22 [D.ptr 0 0, di (↑(List.length Pl) : Int), di 3] (St.mk [some (cDz l a1)] []) (dIs ys) (St.mk [some (cDz l a2)] []) ∧ FSpec PP 20 [di 0, D.v (vIs ys)] (St.mk [] []) (dV c) (St.mk [] []) ∧ 10 ≤ 10 ∧ [di 1, D.v (vSs S), D.v (vSs Pl), D.v V.nils, D.v V.nils, di 0, di 0, D.gro 8 3 14, di (Val.n c), D.v (vVs (Val.kids c))] = cMe S Pl (D.gro 8 3 14) c ∧ [some (cDz l a2), some [di 1, D.v (vSs S), D.v (vSs Pl), D.v V.nils, D.v V.nils, di 0, di 0, D.gro 8 3 14, di (Val.n c), dVs (Val.kids c)], some [di 1, D.v (vSs S), D.v (vSs Pl), D.v V.nils, D.v V.nils, di 0, di 0, D.gro 8 3 14, di (Val.n c), D.v (vVs (Val.kids c))], some (cR r1), none, some (cR r2), none, some (cR r3), some [D.v (V.str r1.name), di r1.frm, di r1.to, D.v (vIs r1.need), D.v (vIs r1.give), D.v (vIs r1.move), di r1.chan, di r1.act, di r1.letter, D.v (vIs r1.path), D.v (vIs r1.next), D.v (vTks r1.takes), D.v (vIs r1.makes), di r1.second, D.v (V.str r2.name), di r2.frm, di r2.to, D.v (vIs r2.need), D.v (vIs r2.give), D.v (vIs r2.move), di r2.chan, di r2.act, di r2.letter, D.v (vIs r2.path), D.v (vIs r2.next), D.v (vTks r2.takes), D.v (vIs r2.makes), di r2.second, D.v (V.str r3.name), di r3.frm, di r3.to, D.v (vIs r3.need), D.v (vIs r3.give), D.v (vIs r3.move), di r3.chan, di r3.act, di r3.letter, D.v (vIs r3.path), D.v (vIs r3.next), D.v (vTks r3.takes), D.v (vIs r3.makes), di r3.second]] = [some (cDz l a2), some (cMe S Pl (D.gro 8 3 14) c), some (cMe S Pl (D.gro 8 3 14) c), some (cR r1), none, some (cR r2), none, some (cR r3), some [D.v (V.str r1.name), di r1.frm, di r1.to, D.v (vIs r1.need), D.v (vIs r1.give), D.v (vIs r1.move), di r1.chan, di r1.act, di r1.letter, D.v (vIs r1.path), D.v (vIs r1.next), D.v (vTks r1.takes), D.v (vIs r1.makes), di r1.second, D.v (V.str r2.name), di r2.frm, di r2.to, D.v (vIs r2.need), D.v (vIs r2.give), D.v (vIs r2.move), di r2.chan, di r2.act, di r2.letter, D.v (vIs r2.path), D.v (vIs r2.next), D.v (vTks r2.takes), D.v (vIs r2.makes), di r2.second, D.v (V.str r3.name), di r3.frm, di r3.to, D.v (vIs r3.need), D.v (vIs r3.give), D.v (vIs r3.move), di r3.chan, di r3.act, di r3.letter, D.v (vIs r3.path), D.v (vIs r3.next), D.v (vTks r3.takes), D.v (vIs r3.makes), di r3.second]] ∧ D.dagg [di 1, D.v (vSs S), D.v (vSs Pl), D.v V.nils, D.v V.nils, di 0, di 0, D.gro 8 3 14, di (Val.n c), dVs (Val.kids c)] = D.dagg (cMe S Pl (D.gro 8 3 14) c)) = _) ?_
  refine ⟨h4, ?_, y4, hc ▸ cfg28_spec ys (by omega) 0, Nat.le_refl _, rfl, rfl, rfl⟩
  rw [wrap_id (by omega) (by omega)]; exact decide_eq_false (by omega)
theorem ctrG_2 (l : List UInt8) (hl : l.length ≤ 200) (S Pl : List (List UInt8)) (hS : S = [[97]] ∨ S = [[97], [98]]) (hP : Pl = [[120]] ∨ Pl = [[120], [121]]) (a : Nat) (ha : a ≤ l.length) (r1 r2 : Rul) (hR : ∀ i r, ([r1, r2] : List Rul)[i]? = some r → MadeR S.length Pl.length i r) :
    CtrG l S Pl 2 ⟨[some (cDz l a), some zM, some (cMa S Pl (.gro 6 2 14))] ++ H2 r1 r2, []⟩ := by
  have hSl : 1 ≤ S.length ∧ S.length ≤ 2 := by rcases hS with rfl | rfl <;> decide
  have hPl : 1 ≤ Pl.length ∧ Pl.length ≤ 2 := by rcases hP with rfl | rfl <;> decide
  obtain ⟨r, a1, h1, h2, h3, h4⟩ := pick_ex l hl a ha 3 (by decide) (by decide)
  by_cases hk : ((2 : Nat) : Int) < 1 + r
  · obtain ⟨f, a2, f1, f2, f3, f4⟩ := pick_ex l hl a1 h3 S.length (by omega) (by omega)
    obtain ⟨t, a3, t1, t2, t3, t4⟩ := pick_ex l hl a2 f3 S.length (by omega) (by omega)
    obtain ⟨nd, a4, n1, n2, n3, n4⟩ := ints_ex l hl a3 t3 Pl.length (by omega) 2 (by decide) (by decide)
    obtain ⟨gv, a5, g1, g2, g3, g4⟩ := ints_ex l hl a4 n1 Pl.length (by omega) 2 (by decide) (by decide)
    obtain ⟨nm, hnm⟩ : ∃ nm, dl3[2]? = some nm := ⟨_, rfl⟩
    obtain ⟨d, σ', m1, m2⟩ := ctrG_3 l hl S Pl hS hP a5 g1 r1 r2 (mkR nm f t nd gv) (mkR_at (rs := [r1, r2]) hnm ⟨f1, f2⟩ ⟨t1, t2⟩ ⟨n2, n3⟩ ⟨g2, g3⟩ rfl hR)
    refine ⟨d, σ', m1, ?_⟩
    refine loop_vc mixed 85 [] (.c1 (cDz l a1) (di r) <| .t <| .h (.dr 21) <| .x (.str nm) <| .c1 (cDz l a2) (di f) <| .c1 (cDz l a3) (di t) <| .c1 (cDz l a4) (dIs nd) <| .c1 (cDz l a5) (dIs gv) <| .lo [ke 0, ke 1, ke 4, ke 5, ke 6, ch 7 (di (3 : Nat))] ⟨[some (cDz l a5), some zM, some (cMa S Pl (.gro 8 3 14))] ++ H3 r1 r2 (mkR nm f t nd gv), []⟩) ?_
    refine via (by kernel_rfl : (FSpec PP 21 [D.ptr 0 0, di 3] (St.mk [some (cDz l a)] []) (di r) (St.mk [some (cDz l a1)] []) ∧ decide ((↑2 : Int) < IntKind.wrap IntKind.i64 (1 + r)) = true ∧ 0 ≤ (↑2 : Int) ∧ some (V.str (ByteArray.mk #[116]).data.toList) = some (V.str nm) ∧ FSpec PP 21 [D.ptr 0 0, di (↑(List.length (List.map V.str S)) : Int)] (St.mk [some (cDz l a1)] []) (di f) (St.mk [some (cDz l a2)] []) ∧ FSpec PP 21 [D.ptr 0 0, di (↑(List.length (List.map V.str S)) : Int)] (St.mk [some (cDz l a1)] []) (di f) (St.mk [some (cDz l a2)] []) ∧ di f = di f ∧ FSpec PP 21 [D.ptr 0 0, di (↑(List.length (List.map V.str S)) : Int)] (St.mk [some (cDz l a2)] []) (di t) (St.mk [some (cDz l a3)] []) ∧ FSpec PP 21 [D.ptr 0 0, di (↑(List.length (List.map V.str S)) : Int)] (St.mk [some (cDz l a2)] []) (di t) (St.mk [some (cDz l a3)] []) ∧ di t = di t ∧ FSpec PP 22 [D.ptr 0 0, di (↑(List.length Pl) : Int), di 2] (St.mk [some (cDz l a3)] []) (dIs nd) (St.mk [some (cDz l a4)] []) ∧ FSpec PP 22 [D.ptr 0 0, di (↑(List.length Pl) : Int), di 2] (St.mk [some (cDz l a3)] []) (dIs nd) (St.mk [some (cDz l a4)] []) ∧ dIs nd = dIs nd ∧ FSpec PP 22 [D.ptr 0 0, di (↑(List.length Pl) : Int), di 2] (St.mk [some (cDz l a4)] []) (dIs gv) (St.mk [some (cDz l a5)] []) ∧ FSpec PP 22 [D.ptr 0 0, di (↑(List.length Pl) : Int), di 2] (St.mk [some (cDz l a4)] []) (dIs gv) (St.mk [some (cDz l a5)] []) ∧ dIs gv = dIs gv ∧ [St.mk [some (cDz l a1), some zM, some (cMa S Pl (D.gro 6 2 14)), some (cR r1), none, some (cR r2), some [D.v (V.str r1.name), di r1.frm, di r1.to, D.v (vIs r1.need), D.v (vIs r1.give), D.v (vIs r1.move), di r1.chan, di r1.act, di r1.letter, D.v (vIs r1.path), D.v (vIs r1.next), D.v (vTks r1.takes), D.v (vIs r1.makes), di r1.second, D.v (V.str r2.name), di r2.frm, di r2.to, D.v (vIs r2.need), D.v (vIs r2.give), D.v (vIs r2.move), di r2.chan, di r2.act, di r2.letter, D.v (vIs r2.path), D.v (vIs r2.next), D.v (vTks r2.takes), D.v (vIs r2.makes), di r2.second], some [D.v (V.str (ByteArray.mk #[]).data.toList), di 0, di 0, D.v V.nils, D.v V.nils, D.v V.nils, di 0, di 0, di 0, D.v V.nils, D.v V.nils, D.v V.nils, D.v V.nils, di 0]] [], St.mk [some (cDz l a2), some zM, some (cMa S Pl (D.gro 6 2 14)), some (cR r1), none, some (cR r2), some [D.v (V.str r1.name), di r1.frm, di r1.to, D.v (vIs r1.need), D.v (vIs r1.give), D.v (vIs r1.move), di r1.chan, di r1.act, di r1.letter, D.v (vIs r1.path), D.v (vIs r1.next), D.v (vTks r1.takes), D.v (vIs r1.makes), di r1.second, D.v (V.str r2.name), di r2.frm, di r2.to, D.v (vIs r2.need), D.v (vIs r2.give), D.v (vIs r2.move), di r2.chan, di r2.act, di r2.letter, D.v (vIs r2.path), D.v (vIs r2.next), D.v (vTks r2.takes), D.v (vIs r2.makes), di r2.second], some [D.v (V.str (ByteArray.mk #[]).data.toList), di 0, di 0, D.v V.nils, D.v V.nils, D.v V.nils, di 0, di 0, di 0, D.v V.nils, D.v V.nils, D.v V.nils, D.v V.nils, di 0]] [], St.mk [some (cDz l a3), some zM, some (cMa S Pl (D.gro 6 2 14)), some (cR r1), none, some (cR r2), some [D.v (V.str r1.name), di r1.frm, di r1.to, D.v (vIs r1.need), D.v (vIs r1.give), D.v (vIs r1.move), di r1.chan, di r1.act, di r1.letter, D.v (vIs r1.path), D.v (vIs r1.next), D.v (vTks r1.takes), D.v (vIs r1.makes), di r1.second, D.v (V.str r2.name), di r2.frm, di r2.to, D.v (vIs r2.need), D.v (vIs r2.give), D.v (vIs r2.move), di r2.chan, di r2.act, di r2.letter, D.v (vIs r2.path), D.v (vIs r2.next), D.v (vTks r2.takes), D.v (vIs r2.makes), di r2.second], some [D.v (V.str (ByteArray.mk #[]).data.toList), di 0, di 0, D.v V.nils, D.v V.nils, D.v V.nils, di 0, di 0, di 0, D.v V.nils, D.v V.nils, D.v V.nils, D.v V.nils, di 0]] [], St.mk [some (cDz l a4), some zM, some (cMa S Pl (D.gro 6 2 14)), some (cR r1), none, some (cR r2), some [D.v (V.str r1.name), di r1.frm, di r1.to, D.v (vIs r1.need), D.v (vIs r1.give), D.v (vIs r1.move), di r1.chan, di r1.act, di r1.letter, D.v (vIs r1.path), D.v (vIs r1.next), D.v (vTks r1.takes), D.v (vIs r1.makes), di r1.second, D.v (V.str r2.name), di r2.frm, di r2.to, D.v (vIs r2.need), D.v (vIs r2.give), D.v (vIs r2.move), di r2.chan, di r2.act, di r2.letter, D.v (vIs r2.path), D.v (vIs r2.next), D.v (vTks r2.takes), D.v (vIs r2.makes), di r2.second], some [D.v (V.str (ByteArray.mk #[]).data.toList), di 0, di 0, D.v V.nils, D.v V.nils, D.v V.nils, di 0, di 0, di 0, D.v V.nils, D.v V.nils, D.v V.nils, D.v V.nils, di 0]] [], St.mk [some (cDz l a5), some zM, some (cMa S Pl (D.gro 6 2 14)), some (cR r1), none, some (cR r2), some [D.v (V.str r1.name), di r1.frm, di r1.to, D.v (vIs r1.need), D.v (vIs r1.give), D.v (vIs r1.move), di r1.chan, di r1.act, di r1.letter, D.v (vIs r1.path), D.v (vIs r1.next), D.v (vTks r1.takes), D.v (vIs r1.makes), di r1.second, D.v (V.str r2.name), di r2.frm, di r2.to, D.v (vIs r2.need), D.v (vIs r2.give), D.v (vIs r2.move), di r2.chan, di r2.act, di r2.letter, D.v (vIs r2.path), D.v (vIs r2.next), D.v (vTks r2.takes), D.v (vIs r2.makes), di r2.second], some [D.v (V.str (ByteArray.mk #[]).data.toList), di 0, di 0, D.v V.nils, D.v V.nils, D.v V.nils, di 0, di 0, di 0, D.v V.nils, D.v V.nils, D.v V.nils, D.v V.nils, di 0]] []] = [St.mk [some (cDz l a1), some zM, some (cMa S Pl (D.gro 6 2 14)), some (cR r1), none, some (cR r2), some [D.v (V.str r1.name), di r1.frm, di r1.to, D.v (vIs r1.need), D.v (vIs r1.give), D.v (vIs r1.move), di r1.chan, di r1.act, di r1.letter, D.v (vIs r1.path), D.v (vIs r1.next), D.v (vTks r1.takes), D.v (vIs r1.makes), di r1.second, D.v (V.str r2.name), di r2.frm, di r2.to, D.v (vIs r2.need), D.v (vIs r2.give), D.v (vIs r2.move), di r2.chan, di r2.act, di r2.letter, D.v (vIs r2.path), D.v (vIs r2.next), D.v (vTks r2.takes), D.v (vIs r2.makes), di r2.second], some [D.v (V.str (ByteArray.mk #[]).data.toList), di 0, di 0, D.v V.nils, D.v V.nils, D.v V.nils, di 0, di 0, di 0, D.v V.nils, D.v V.nils, D.v V.nils, D.v V.nils, di 0]] [], St.mk [some (cDz l a2), some zM, some (cMa S Pl (D.gro 6 2 14)), some (cR r1), none, some (cR r2), some [D.v (V.str r1.name), di r1.frm, di r1.to, D.v (vIs r1.need), D.v (vIs r1.give), D.v (vIs r1.move), di r1.chan, di r1.act, di r1.letter, D.v (vIs r1.path), D.v (vIs r1.next), D.v (vTks r1.takes), D.v (vIs r1.makes), di r1.second, D.v (V.str r2.name), di r2.frm, di r2.to, D.v (vIs r2.need), D.v (vIs r2.give), D.v (vIs r2.move), di r2.chan, di r2.act, di r2.letter, D.v (vIs r2.path), D.v (vIs r2.next), D.v (vTks r2.takes), D.v (vIs r2.makes), di r2.second], some [D.v (V.str (ByteArray.mk #[]).data.toList), di 0, di 0, D.v V.nils, D.v V.nils, D.v V.nils, di 0, di 0, di 0, D.v V.nils, D.v V.nils, D.v V.nils, D.v V.nils, di 0]] [], St.mk [some (cDz l a3), some zM, some (cMa S Pl (D.gro 6 2 14)), some (cR r1), none, some (cR r2), some [D.v (V.str r1.name), di r1.frm, di r1.to, D.v (vIs r1.need), D.v (vIs r1.give), D.v (vIs r1.move), di r1.chan, di r1.act, di r1.letter, D.v (vIs r1.path), D.v (vIs r1.next), D.v (vTks r1.takes), D.v (vIs r1.makes), di r1.second, D.v (V.str r2.name), di r2.frm, di r2.to, D.v (vIs r2.need), D.v (vIs r2.give), D.v (vIs r2.move), di r2.chan, di r2.act, di r2.letter, D.v (vIs r2.path), D.v (vIs r2.next), D.v (vTks r2.takes), D.v (vIs r2.makes), di r2.second], some [D.v (V.str (ByteArray.mk #[]).data.toList), di 0, di 0, D.v V.nils, D.v V.nils, D.v V.nils, di 0, di 0, di 0, D.v V.nils, D.v V.nils, D.v V.nils, D.v V.nils, di 0]] [], St.mk [some (cDz l a4), some zM, some (cMa S Pl (D.gro 6 2 14)), some (cR r1), none, some (cR r2), some [D.v (V.str r1.name), di r1.frm, di r1.to, D.v (vIs r1.need), D.v (vIs r1.give), D.v (vIs r1.move), di r1.chan, di r1.act, di r1.letter, D.v (vIs r1.path), D.v (vIs r1.next), D.v (vTks r1.takes), D.v (vIs r1.makes), di r1.second, D.v (V.str r2.name), di r2.frm, di r2.to, D.v (vIs r2.need), D.v (vIs r2.give), D.v (vIs r2.move), di r2.chan, di r2.act, di r2.letter, D.v (vIs r2.path), D.v (vIs r2.next), D.v (vTks r2.takes), D.v (vIs r2.makes), di r2.second], some [D.v (V.str (ByteArray.mk #[]).data.toList), di 0, di 0, D.v V.nils, D.v V.nils, D.v V.nils, di 0, di 0, di 0, D.v V.nils, D.v V.nils, D.v V.nils, D.v V.nils, di 0]] [], St.mk [some (cDz l a5), some zM, some (cMa S Pl (D.gro 6 2 14)), some (cR r1), none, some (cR r2), some [D.v (V.str r1.name), di r1.frm, di r1.to, D.v (vIs r1.need), D.v (vIs r1.give), D.v (vIs r1.move), di r1.chan, di r1.act, di r1.letter, D.v (vIs r1.path), D.v (vIs r1.next), D.v (vTks r1.takes), D.v (vIs r1.makes), di r1.second, D.v (V.str r2.name), di r2.frm, di r2.to, D.v (vIs r2.need), D.v (vIs r2.give), D.v (vIs r2.move), di r2.chan, di r2.act, di r2.letter, D.v (vIs r2.path), D.v (vIs r2.next), D.v (vTks r2.takes), D.v (vIs r2.makes), di r2.second], some [D.v (V.str (ByteArray.mk #[]).data.toList), di 0, di 0, D.v V.nils, D.v V.nils, D.v V.nils, di 0, di 0, di 0, D.v V.nils, D.v V.nils, D.v V.nils, D.v V.nils, di 0]] []] ∧ ((some [D.v (vSs S)] = some [D.v (vSs S)] ∧ some [D.v (vSs S)] = some [D.v (vSs S)] ∧ some [D.v (vSs S)] = some [D.v (vSs S)] ∧ some [D.v (vSs S)] = some [D.v (vSs S)] ∧ some [D.v (vSs S)] = some [D.v (vSs S)] ∧ some [D.v (vSs S)] = some [D.v (vSs S)] ∧ some [D.v (vSs S)] = some [D.v (vSs S)] ∧ some [D.v (vSs S)] = some [D.v (vSs S)] ∧ some [D.v (vSs S)] = some [D.v (vSs S)] ∧ some [D.v (vSs S)] = some [D.v (vSs S)] ∧ some [D.v (vSs S)] = some [D.v (vSs S)] ∧ True) ∧ (some [D.v (vSs S)] = some [D.v (vSs S)] ∧ some [D.v (vSs S)] = some [D.v (vSs S)] ∧ some [D.v (vSs S)] = some [D.v (vSs S)] ∧ some [D.v (vSs S)] = some [D.v (vSs S)] ∧ some [D.v (vSs S)] = some [D.v (vSs S)] ∧ some [D.v (vSs S)] = some [D.v (vSs S)] ∧ some [D.v (vSs S)] = some [D.v (vSs S)] ∧ some [D.v (vSs S)] = some [D.v (vSs S)] ∧ some [D.v (vSs S)] = some [D.v (vSs S)] ∧ some [D.v (vSs S)] = some [D.v (vSs S)] ∧ some [D.v (vSs S)] = some [D.v (vSs S)] ∧ True) ∧ True) ∧ 28 = 28 ∧ [V.agg [V.str nm, vi f, vi t, vIs nd, vIs gv, V.list [], vi 0, vi 0, vi 0, V.list [], V.list [], V.list [], V.list [], vi 0]] ≠ [] ∧ (∀ (y : V), y ∈ [V.agg [V.str nm, vi f, vi t, vIs nd, vIs gv, V.list [], vi 0, vi 0, vi 0, V.list [], V.list [], V.list [], V.list [], vi 0]] → V.size y = 14) ∧ LenOK 3 232 ∧ di (IntKind.wrap IntKind.i64 ((↑2 : Int) + 1)) = di (↑3 : Int) ∧ okH 9 [] [some (cDz l a5), some zM, some [di 1, D.v (vSs S), D.v (vSs Pl), D.v V.nils, D.v V.nils, di 0, di 0, D.gro 8 3 14, di 0, D.v V.nils], some (cR r1), none, some (cR r2), none, some [D.v (V.str nm), di f, di t, D.v (vIs nd), D.v (vIs gv), D.v (V.list []), di 0, di 0, di 0, D.v (V.list []), D.v (V.list []), D.v (V.list []), D.v (V.list []), di 0], some [D.v (V.str r1.name), di r1.frm, di r1.to, D.v (vIs r1.need), D.v (vIs r1.give), D.v (vIs r1.move), di r1.chan, di r1.act, di r1.letter, D.v (vIs r1.path), D.v (vIs r1.next), D.v (vTks r1.takes), D.v (vIs r1.makes), di r1.second, D.v (V.str r2.name), di r2.frm, di r2.to, D.v (vIs r2.need), D.v (vIs r2.give), D.v (vIs r2.move), di r2.chan, di r2.act, di r2.letter, D.v (vIs r2.path), D.v (vIs r2.next), D.v (vTks r2.takes), D.v (vIs r2.makes), di r2.second, D.v (V.str nm), di f, di t, D.v (vIs nd), D.v (vIs gv), D.v (V.list []), di 0, di 0, di 0, D.v (V.list []), D.v (V.list []), D.v (V.list []), D.v (V.list []), di 0]] = true ∧ [some (cDz l a5), some zM, some [di 1, D.v (vSs S), D.v (vSs Pl), D.v V.nils, D.v V.nils, di 0, di 0, D.gro 8 3 14, di 0, D.v V.nils], some (cR r1), none, some (cR r2), none, some [D.v (V.str nm), di f, di t, D.v (vIs nd), D.v (vIs gv), D.v (V.list nV), di 0, di 0, di 0, D.v (V.list nV), D.v (V.list nV), D.v (V.list nV), D.v (V.list nV), di 0], some [D.v (V.str r1.name), di r1.frm, di r1.to, D.v (vIs r1.need), D.v (vIs r1.give), D.v (vIs r1.move), di r1.chan, di r1.act, di r1.letter, D.v (vIs r1.path), D.v (vIs r1.next), D.v (vTks r1.takes), D.v (vIs r1.makes), di r1.second, D.v (V.str r2.name), di r2.frm, di r2.to, D.v (vIs r2.need), D.v (vIs r2.give), D.v (vIs r2.move), di r2.chan, di r2.act, di r2.letter, D.v (vIs r2.path), D.v (vIs r2.next), D.v (vTks r2.takes), D.v (vIs r2.makes), di r2.second, D.v (V.str nm), di f, di t, D.v (vIs nd), D.v (vIs gv), D.v (V.list nV), di 0, di 0, di 0, D.v (V.list nV), D.v (V.list nV), D.v (V.list nV), D.v (V.list nV), di 0]] = [some (cDz l a5), some zM, some (cMa S Pl (D.gro 8 3 14)), some (cR r1), none, some (cR r2), none, some (cR (mkR nm f t nd gv)), some [D.v (V.str r1.name), di r1.frm, di r1.to, D.v (vIs r1.need), D.v (vIs r1.give), D.v (vIs r1.move), di r1.chan, di r1.act, di r1.letter, D.v (vIs r1.path), D.v (vIs r1.next), D.v (vTks r1.takes), D.v (vIs r1.makes), di r1.second, D.v (V.str r2.name), di r2.frm, di r2.to, D.v (vIs r2.need), D.v (vIs r2.give), D.v (vIs r2.move), di r2.chan, di r2.act, di r2.letter, D.v (vIs r2.path), D.v (vIs r2.next), D.v (vTks r2.takes), D.v (vIs r2.makes), di r2.second, D.v (V.str (mkR nm f t nd gv).name), di (mkR nm f t nd gv).frm, di (mkR nm f t nd gv).to, D.v (vIs (mkR nm f t nd gv).need), D.v (vIs (mkR nm f t nd gv).give), D.v (vIs (mkR nm f t nd gv).move), di (mkR nm f t nd gv).chan, di (mkR nm f t nd gv).act, di (mkR nm f t nd gv).letter, D.v (vIs (mkR nm f t nd gv).path), D.v (vIs (mkR nm f t nd gv).next), D.v (vTks (mkR nm f t nd gv).takes), D.v (vIs (mkR nm f t nd gv).makes), di (mkR nm f t nd gv).second]] ∧ Nv.It (RunC (CN 1) PP (fun env σ1 => ResOK PP fCtr env σ1 d σ') [KI.lp (sub cCtr [1, 1, 1, 0, 1, 0, 0]), KI.blk 0, KI.code (sub cCtr [1, 1, 1, 1])] (mkE 85 [(0, D.ptr 0 0), (1, db false), (4, D.ptr 1 0), (5, D.ptr 2 0), (6, di (↑(List.length Pl) : Int)), (7, di (↑3 : Int))]) (St.mk [some (cDz l a5), some zM, some (cMa S Pl (D.gro 8 3 14)), some (cR r1), none, some (cR r2), none, some (cR (mkR nm f t nd gv)), some [D.v (V.str r1.name), di r1.frm, di r1.to, D.v (vIs r1.need), D.v (vIs r1.give), D.v (vIs r1.move), di r1.chan, di r1.act, di r1.letter, D.v (vIs r1.path), D.v (vIs r1.next), D.v (vTks r1.takes), D.v (vIs r1.makes), di r1.second, D.v (V.str r2.name), di r2.frm, di r2.to, D.v (vIs r2.need), D.v (vIs r2.give), D.v (vIs r2.move), di r2.chan, di r2.act, di r2.letter, D.v (vIs r2.path), D.v (vIs r2.next), D.v (vTks r2.takes), D.v (vIs r2.makes), di r2.second, D.v (V.str (mkR nm f t nd gv).name), di (mkR nm f t nd gv).frm, di (mkR nm f t nd gv).to, D.v (vIs (mkR nm f t nd gv).need), D.v (vIs (mkR nm f t nd gv).give), D.v (vIs (mkR nm f t nd gv).move), di (mkR nm f t nd gv).chan, di (mkR nm f t nd gv).act, di (mkR nm f t nd gv).letter, D.v (vIs (mkR nm f t nd gv).path), D.v (vIs (mkR nm f t nd gv).next), D.v (vTks (mkR nm f t nd gv).takes), D.v (vIs (mkR nm f t nd gv).makes), di (mkR nm f t nd gv).second]] []))) = _) ?_
    rw [show ((S.map V.str).length : Int) = (S.length : Int) by rw [List.length_map]]
    refine ⟨h4, ?_, by omega, congrArg (Option.map V.str) hnm, f4, f4, rfl, t4, t4, rfl, n4, n4, rfl, g4, g4, rfl, rfl, ?_⟩
    · rw [wrap_id (by omega) (by omega)]; exact decide_eq_true (by omega)
    · repeat' first | with_reducible refine And.intro ?_ ?_
      all_goals try first | exact ⟨m2⟩ | rfl | decide | exact (fun y hy => by rw [List.mem_singleton.1 hy]; rfl) | exact List.cons_ne_nil _ _
  · obtain ⟨ys, a2, y1, y2, y3, y4⟩ := ints_ex l hl a1 h3 Pl.length (by omega) 3 (by decide) (by decide)
    obtain ⟨c, hc⟩ : ∃ c, c = cfgV 0 ys := ⟨_, rfl⟩
    refine ⟨_, _, .two (r1 := r1) (r2 := r2) (c := c) ⟨rfl, hS, hP, rfl, rfl, rfl, rfl, by simp, hR, ys, y2, y3, hc⟩ y1, ?_⟩
    refine loop_vc mixed 85 [] (.c1 (cDz l a1) (di r) <| .f <| .c1 (cDz l a2) (dIs ys) <| .c (dV c) <| .h (.m (.dagg (cMe S Pl (.gro 6 2 14) c))) .rd) ?_
    refine via (by kernel_rfl : (FSpec PP 21 [D.ptr 0 0, di 3] (St.mk [some (cDz l a)] []) (di r) (St.mk [some (cDz l a1)] []) ∧ decide ((↑2 : Int) < IntKind.wrap IntKind.i64 (1 + r)) = false ∧ FSpec PP 22 [D.ptr 0 0, di (↑(List.length Pl) : Int), di 3] (St.mk [some (cDz l a1)] []) (dIs ys) (St.mk [some (cDz l a2)] []) ∧ FSpec PP 20 [di 0, D.v (vIs ys)] (St.mk [] []) (dV c) (St.mk [] []) ∧ 10 ≤ 10 ∧ [di 1, D.v (vSs S), D.v (vSs Pl), D.v V.nils, D.v V.nils, di 0, di 0, D.gro 6 2 14, di (Val.n c), D.v (vVs (Val.kids c))] = cMe S Pl (D.gro 6 2 14) c ∧ [some (cDz l a2), some [di 1, D.v (vSs S), D.v (vSs Pl), D.v V.nils, D.v V.nils, di 0, di 0, D.gro 6 2 14, di (Val.n c), dVs (Val.kids c)], some [di 1, D.v (vSs S), D.v (vSs Pl), D.v V.nils, D.v V.nils, di 0, di 0, D.gro 6 2 14, di (Val.n c), D.v (vVs (Val.kids c))], some (cR r1), none, some (cR r2), some [D.v (V.str r1.name), di r1.frm, di r1.to, D.v (vIs r1.need), D.v (vIs r1.give), D.v (vIs r1.move), di r1.chan, di r1.act, di r1.letter, D.v (vIs r1.path), D.v (vIs r1.next), D.v (vTks r1.takes), D.v (vIs r1.makes), di r1.second, D.v (V.str r2.name), di r2.frm, di r2.to, D.v (vIs r2.need), D.v (vIs r2.give), D.v (vIs r2.move), di r2.chan, di r2.act, di r2.letter, D.v (vIs r2.path), D.v (vIs r2.next), D.v (vTks r2.takes), D.v (vIs r2.makes), di r2.second]] = [some (cDz l a2), some (cMe S Pl (D.gro 6 2 14) c), some (cMe S Pl (D.gro 6 2 14) c), some (cR r1), none, some (cR r2), some [D.v (V.str r1.name), di r1.frm, di r1.to, D.v (vIs r1.need), D.v (vIs r1.give), D.v (vIs r1.move), di r1.chan, di r1.act, di r1.letter, D.v (vIs r1.path), D.v (vIs r1.next), D.v (vTks r1.takes), D.v (vIs r1.makes), di r1.second, D.v (V.str r2.name), di r2.frm, di r2.to, D.v (vIs r2.need), D.v (vIs r2.give), D.v (vIs r2.move), di r2.chan, di r2.act, di r2.letter, D.v (vIs r2.path), D.v (vIs r2.next), D.v (vTks r2.takes), D.v (vIs r2.makes), di r2.second]] ∧ D.dagg [di 1, D.v (vSs S), D.v (vSs Pl), D.v V.nils, D.v V.nils, di 0, di 0, D.gro 6 2 14, di (Val.n c), dVs (Val.kids c)] = D.dagg (cMe S Pl (D.gro 6 2 14) c)) = _) ?_
    refine ⟨h4, ?_, y4, hc ▸ cfg28_spec ys (by omega) 0, Nat.le_refl _, rfl, rfl, rfl⟩
    rw [wrap_id (by omega) (by omega)]; exact decide_eq_false (by omega)
theorem ctrG_1 (l : List UInt8) (hl : l.length ≤ 200) (S Pl : List (List UInt8)) (hS : S = [[97]] ∨ S = [[97], [98]]) (hP : Pl = [[120]] ∨ Pl = [[120], [121]]) (a : Nat) (ha : a ≤ l.length) (r1 : Rul) (hR : ∀ i r, ([r1] : List Rul)[i]? = some r → MadeR S.length Pl.length i r) :
    CtrG l S Pl 1 ⟨[some (cDz l a), some zM, some (cMa S Pl (.gro 4 1 14))] ++ H1 r1, []⟩ := by
  have hSl : 1 ≤ S.length ∧ S.length ≤ 2 := by rcases hS with rfl | rfl <;> decide
  have hPl : 1 ≤ Pl.length ∧ Pl.length ≤ 2 := by rcases hP with rfl | rfl <;> decide
  obtain ⟨r, a1, h1, h2, h3, h4⟩ := pick_ex l hl a ha 3 (by decide) (by decide)
  by_cases hk : ((1 : Nat) : Int) < 1 + r
  · obtain ⟨f, a2, f1, f2, f3, f4⟩ := pick_ex l hl a1 h3 S.length (by omega) (by omega)
    obtain ⟨t, a3, t1, t2, t3, t4⟩ := pick_ex l hl a2 f3 S.length (by omega) (by omega)
    obtain ⟨nd, a4, n1, n2, n3, n4⟩ := ints_ex l hl a3 t3 Pl.length (by omega) 2 (by decide) (by decide)
    obtain ⟨gv, a5, g1, g2, g3, g4⟩ := ints_ex l hl a4 n1 Pl.length (by omega) 2 (by decide) (by decide)
    obtain ⟨nm, hnm⟩ : ∃ nm, dl3[1]? = some nm := ⟨_, rfl⟩
    obtain ⟨d, σ', m1, m2⟩ := ctrG_2 l hl S Pl hS hP a5 g1 r1 (mkR nm f t nd gv) (mkR_at (rs := [r1]) hnm ⟨f1, f2⟩ ⟨t1, t2⟩ ⟨n2, n3⟩ ⟨g2, g3⟩ rfl hR)
    refine ⟨d, σ', m1, ?_⟩
    refine loop_vc mixed 85 [] (.c1 (cDz l a1) (di r) <| .t <| .h (.dr 21) <| .x (.str nm) <| .c1 (cDz l a2) (di f) <| .c1 (cDz l a3) (di t) <| .c1 (cDz l a4) (dIs nd) <| .c1 (cDz l a5) (dIs gv) <| .lo [ke 0, ke 1, ke 4, ke 5, ke 6, ch 7 (di (2 : Nat))] ⟨[some (cDz l a5), some zM, some (cMa S Pl (.gro 6 2 14))] ++ H2 r1 (mkR nm f t nd gv), []⟩) ?_
    refine via (by kernel_rfl : (FSpec PP 21 [D.ptr 0 0, di 3] (St.mk [some (cDz l a)] []) (di r) (St.mk [some (cDz l a1)] []) ∧ decide ((↑1 : Int) < IntKind.wrap IntKind.i64 (1 + r)) = true ∧ 0 ≤ (↑1 : Int) ∧ some (V.str (ByteArray.mk #[115]).data.toList) = some (V.str nm) ∧ FSpec PP 21 [D.ptr 0 0, di (↑(List.length (List.map V.str S)) : Int)] (St.mk [some (cDz l a1)] []) (di f) (St.mk [some (cDz l a2)] []) ∧ FSpec PP 21 [D.ptr 0 0, di (↑(List.length (List.map V.str S)) : Int)] (St.mk [some (cDz l a1)] []) (di f) (St.mk [some (cDz l a2)] []) ∧ di f = di f ∧ FSpec PP 21 [D.ptr 0 0, di (↑(List.length (List.map V.str S)) : Int)] (St.mk [some (cDz l a2)] []) (di t) (St.mk [some (cDz l a3)] []) ∧ FSpec PP 21 [D.ptr 0 0, di (↑(List.length (List.map V.str S)) : Int)] (St.mk [some (cDz l a2)] []) (di t) (St.mk [some (cDz l a3)] []) ∧ di t = di t ∧ FSpec PP 22 [D.ptr 0 0, di (↑(List.length Pl) : Int), di 2] (St.mk [some (cDz l a3)] []) (dIs nd) (St.mk [some (cDz l a4)] []) ∧ FSpec PP 22 [D.ptr 0 0, di (↑(List.length Pl) : Int), di 2] (St.mk [some (cDz l a3)] []) (dIs nd) (St.mk [some (cDz l a4)] []) ∧ dIs nd = dIs nd ∧ FSpec PP 22 [D.ptr 0 0, di (↑(List.length Pl) : Int), di 2] (St.mk [some (cDz l a4)] []) (dIs gv) (St.mk [some (cDz l a5)] []) ∧ FSpec PP 22 [D.ptr 0 0, di (↑(List.length Pl) : Int), di 2] (St.mk [some (cDz l a4)] []) (dIs gv) (St.mk [some (cDz l a5)] []) ∧ dIs gv = dIs gv ∧ [St.mk [some (cDz l a1), some zM, some (cMa S Pl (D.gro 4 1 14)), some (cR r1), some [D.v (V.str r1.name), di r1.frm, di r1.to, D.v (vIs r1.need), D.v (vIs r1.give), D.v (vIs r1.move), di r1.chan, di r1.act, di r1.letter, D.v (vIs r1.path), D.v (vIs r1.next), D.v (vTks r1.takes), D.v (vIs r1.makes), di r1.second], some [D.v (V.str (ByteArray.mk #[]).data.toList), di 0, di 0, D.v V.nils, D.v V.nils, D.v V.nils, di 0, di 0, di 0, D.v V.nils, D.v V.nils, D.v V.nils, D.v V.nils, di 0]] [], St.mk [some (cDz l a2), some zM, some (cMa S Pl (D.gro 4 1 14)), some (cR r1), some [D.v (V.str r1.name), di r1.frm, di r1.to, D.v (vIs r1.need), D.v (vIs r1.give), D.v (vIs r1.move), di r1.chan, di r1.act, di r1.letter, D.v (vIs r1.path), D.v (vIs r1.next), D.v (vTks r1.takes), D.v (vIs r1.makes), di r1.second], some [D.v (V.str (ByteArray.mk #[]).data.toList), di 0, di 0, D.v V.nils, D.v V.nils, D.v V.nils, di 0, di 0, di 0, D.v V.nils, D.v V.nils, D.v V.nils, D.v V.nils, di 0]] [], St.mk [some (cDz l a3), some zM, some (cMa S Pl (D.gro 4 1 14)), some (cR r1), some [D.v (V.str r1.name), di r1.frm, di r1.to, D.v (vIs r1.need), D.v (vIs r1.give), D.v (vIs r1.move), di r1.chan, di r1.act, di r1.letter, D.v (vIs r1.path), D.v (vIs r1.next), D.v (vTks r1.takes), D.v (vIs r1.makes), di r1.second], some [D.v (V.str (ByteArray.mk #[]).data.toList), di 0, di 0, D.v V.nils, D.v V.nils, D.v V.nils, di 0, di 0, di 0, D.v V.nils, D.v V.nils, D.v V.nils, D.v V.nils, di 0]] [], St.mk [some (cDz l a4), some zM, some (cMa S Pl (D.gro 4 1 14)), some (cR r1), some [D.v (V.str r1.name), di r1.frm, di r1.to, D.v (vIs r1.need), D.v (vIs r1.give), D.v (vIs r1.move), di r1.chan, di r1.act, di r1.letter, D.v (vIs r1.path), D.v (vIs r1.next), D.v (vTks r1.takes), D.v (vIs r1.makes), di r1.second], some [D.v (V.str (ByteArray.mk #[]).data.toList), di 0, di 0, D.v V.nils, D.v V.nils, D.v V.nils, di 0, di 0, di 0, D.v V.nils, D.v V.nils, D.v V.nils, D.v V.nils, di 0]] [], St.mk [some (cDz l a5), some zM, some (cMa S Pl (D.gro 4 1 14)), some (cR r1), some [D.v (V.str r1.name), di r1.frm, di r1.to, D.v (vIs r1.need), D.v (vIs r1.give), D.v (vIs r1.move), di r1.chan, di r1.act, di r1.letter, D.v (vIs r1.path), D.v (vIs r1.next), D.v (vTks r1.takes), D.v (vIs r1.makes), di r1.second], some [D.v (V.str (ByteArray.mk #[]).data.toList), di 0, di 0, D.v V.nils, D.v V.nils, D.v V.nils, di 0, di 0, di 0, D.v V.nils, D.v V.nils, D.v V.nils, D.v V.nils, di 0]] []] = [St.mk [some (cDz l a1), some zM, some (cMa S Pl (D.gro 4 1 14)), some (cR r1), some [D.v (V.str r1.name), di r1.frm, di r1.to, D.v (vIs r1.need), D.v (vIs r1.give), D.v (vIs r1.move), di r1.chan, di r1.act, di r1.letter, D.v (vIs r1.path), D.v (vIs r1.next), D.v (vTks r1.takes), D.v (vIs r1.makes), di r1.second], some [D.v (V.str (ByteArray.mk #[]).data.toList), di 0, di 0, D.v V.nils, D.v V.nils, D.v V.nils, di 0, di 0, di 0, D.v V.nils, D.v V.nils, D.v V.nils, D.v V.nils, di 0]] [], St.mk [some (cDz l a2), some zM, some (cMa S Pl (D.gro 4 1 14)), some (cR r1), some [D.v (V.str r1.name), di r1.frm, di r1.to, D.v (vIs r1.need), D.v (vIs r1.give), D.v (vIs r1.move), di r1.chan, di r1.act, di r1.letter, D.v (vIs r1.path), D.v (vIs r1.next), D.v (vTks r1.takes), D.v (vIs r1.makes), di r1.second], some [D.v (V.str (ByteArray.mk #[]).data.toList), di 0, di 0, D.v V.nils, D.v V.nils, D.v V.nils, di 0, di 0, di 0, D.v V.nils, D.v V.nils, D.v V.nils, D.v V.nils, di 0]] [], St.mk [some (cDz l a3), some zM, some (cMa S Pl (D.gro 4 1 14)), some (cR r1), some [D.v (V.str r1.name), di r1.frm, di r1.to, D.v (vIs r1.need), D.v (vIs r1.give), D.v (vIs r1.move), di r1.chan, di r1.act, di r1.letter, D.v (vIs r1.path), D.v (vIs r1.next), D.v (vTks r1.takes), D.v (vIs r1.makes), di r1.second], some [D.v (V.str (ByteArray.mk #[]).data.toList), di 0, di 0, D.v V.nils, D.v V.nils, D.v V.nils, di 0, di 0, di 0, D.v V.nils, D.v V.nils, D.v V.nils, D.v V.nils, di 0]] [], St.mk [some (cDz l a4), some zM, some (cMa S Pl (D.gro 4 1 14)), some (cR r1), some [D.v (V.str r1.name), di r1.frm, di r1.to, D.v (vIs r1.need), D.v (vIs r1.give), D.v (vIs r1.move), di r1.chan, di r1.act, di r1.letter, D.v (vIs r1.path), D.v (vIs r1.next), D.v (vTks r1.takes), D.v (vIs r1.makes), di r1.second], some [D.v (V.str (ByteArray.mk #[]).data.toList), di 0, di 0, D.v V.nils, D.v V.nils, D.v V.nils, di 0, di 0, di 0, D.v V.nils, D.v V.nils, D.v V.nils, D.v V.nils, di 0]] [], St.mk [some (cDz l a5), some zM, some (cMa S Pl (D.gro 4 1 14)), some (cR r1), some [D.v (V.str r1.name), di r1.frm, di r1.to, D.v (vIs r1.need), D.v (vIs r1.give), D.v (vIs r1.move), di r1.chan, di r1.act, di r1.letter, D.v (vIs r1.path), D.v (vIs r1.next), D.v (vTks r1.takes), D.v (vIs r1.makes), di r1.second], some [D.v (V.str (ByteArray.mk #[]).data.toList), di 0, di 0, D.v V.nils, D.v V.nils, D.v V.nils, di 0, di 0, di 0, D.v V.nils, D.v V.nils, D.v V.nils, D.v V.nils, di 0]] []] ∧ ((some [D.v (vSs S)] = some [D.v (vSs S)] ∧ some [D.v (vSs S)] = some [D.v (vSs S)] ∧ some [D.v (vSs S)] = some [D.v (vSs S)] ∧ some [D.v (vSs S)] = some [D.v (vSs S)] ∧ some [D.v (vSs S)] = some [D.v (vSs S)] ∧ some [D.v (vSs S)] = some [D.v (vSs S)] ∧ some [D.v (vSs S)] = some [D.v (vSs S)] ∧ some [D.v (vSs S)] = some [D.v (vSs S)] ∧ some [D.v (vSs S)] = some [D.v (vSs S)] ∧ some [D.v (vSs S)] = some [D.v (vSs S)] ∧ some [D.v (vSs S)] = some [D.v (vSs S)] ∧ True) ∧ (some [D.v (vSs S)] = some [D.v (vSs S)] ∧ some [D.v (vSs S)] = some [D.v (vSs S)] ∧ some [D.v (vSs S)] = some [D.v (vSs S)] ∧ some [D.v (vSs S)] = some [D.v (vSs S)] ∧ some [D.v (vSs S)] = some [D.v (vSs S)] ∧ some [D.v (vSs S)] = some [D.v (vSs S)] ∧ some [D.v (vSs S)] = some [D.v (vSs S)] ∧ some [D.v (vSs S)] = some [D.v (vSs S)] ∧ some [D.v (vSs S)] = some [D.v (vSs S)] ∧ some [D.v (vSs S)] = some [D.v (vSs S)] ∧ some [D.v (vSs S)] = some [D.v (vSs S)] ∧ True) ∧ True) ∧ 14 = 14 ∧ [V.agg [V.str nm, vi f, vi t, vIs nd, vIs gv, V.list [], vi 0, vi 0, vi 0, V.list [], V.list [], V.list [], V.list [], vi 0]] ≠ [] ∧ (∀ (y : V), y ∈ [V.agg [V.str nm, vi f, vi t, vIs nd, vIs gv, V.list [], vi 0, vi 0, vi 0, V.list [], V.list [], V.list [], V.list [], vi 0]] → V.size y = 14) ∧ LenOK 2 232 ∧ di (IntKind.wrap IntKind.i64 ((↑1 : Int) + 1)) = di (↑2 : Int) ∧ okH 7 [] [some (cDz l a5), some zM, some [di 1, D.v (vSs S), D.v (vSs Pl), D.v V.nils, D.v V.nils, di 0, di 0, D.gro 6 2 14, di 0, D.v V.nils], some (cR r1), none, some [D.v (V.str nm), di f, di t, D.v (vIs nd), D.v (vIs gv), D.v (V.list []), di 0, di 0, di 0, D.v (V.list []), D.v (V.list []), D.v (V.list []), D.v (V.list []), di 0], some [D.v (V.str r1.name), di r1.frm, di r1.to, D.v (vIs r1.need), D.v (vIs r1.give), D.v (vIs r1.move), di r1.chan, di r1.act, di r1.letter, D.v (vIs r1.path), D.v (vIs r1.next), D.v (vTks r1.takes), D.v (vIs r1.makes), di r1.second, D.v (V.str nm), di f, di t, D.v (vIs nd), D.v (vIs gv), D.v (V.list []), di 0, di 0, di 0, D.v (V.list []), D.v (V.list []), D.v (V.list []), D.v (V.list []), di 0]] = true ∧ [some (cDz l a5), some zM, some [di 1, D.v (vSs S), D.v (vSs Pl), D.v V.nils, D.v V.nils, di 0, di 0, D.gro 6 2 14, di 0, D.v V.nils], some (cR r1), none, some [D.v (V.str nm), di f, di t, D.v (vIs nd), D.v (vIs gv), D.v (V.list nV), di 0, di 0, di 0, D.v (V.list nV), D.v (V.list nV), D.v (V.list nV), D.v (V.list nV), di 0], some [D.v (V.str r1.name), di r1.frm, di r1.to, D.v (vIs r1.need), D.v (vIs r1.give), D.v (vIs r1.move), di r1.chan, di r1.act, di r1.letter, D.v (vIs r1.path), D.v (vIs r1.next), D.v (vTks r1.takes), D.v (vIs r1.makes), di r1.second, D.v (V.str nm), di f, di t, D.v (vIs nd), D.v (vIs gv), D.v (V.list nV), di 0, di 0, di 0, D.v (V.list nV), D.v (V.list nV), D.v (V.list nV), D.v (V.list nV), di 0]] = [some (cDz l a5), some zM, some (cMa S Pl (D.gro 6 2 14)), some (cR r1), none, some (cR (mkR nm f t nd gv)), some [D.v (V.str r1.name), di r1.frm, di r1.to, D.v (vIs r1.need), D.v (vIs r1.give), D.v (vIs r1.move), di r1.chan, di r1.act, di r1.letter, D.v (vIs r1.path), D.v (vIs r1.next), D.v (vTks r1.takes), D.v (vIs r1.makes), di r1.second, D.v (V.str (mkR nm f t nd gv).name), di (mkR nm f t nd gv).frm, di (mkR nm f t nd gv).to, D.v (vIs (mkR nm f t nd gv).need), D.v (vIs (mkR nm f t nd gv).give), D.v (vIs (mkR nm f t nd gv).move), di (mkR nm f t nd gv).chan, di (mkR nm f t nd gv).act, di (mkR nm f t nd gv).letter, D.v (vIs (mkR nm f t nd gv).path), D.v (vIs (mkR nm f t nd gv).next), D.v (vTks (mkR nm f t nd gv).takes), D.v (vIs (mkR nm f t nd gv).makes), di (mkR nm f t nd gv).second]] ∧ Nv.It (RunC (CN 1) PP (fun env σ1 => ResOK PP fCtr env σ1 d σ') [KI.lp (sub cCtr [1, 1, 1, 0, 1, 0, 0]), KI.blk 0, KI.code (sub cCtr [1, 1, 1, 1])] (mkE 85 [(0, D.ptr 0 0), (1, db false), (4, D.ptr 1 0), (5, D.ptr 2 0), (6, di (↑(List.length Pl) : Int)), (7, di (↑2 : Int))]) (St.mk [some (cDz l a5), some zM, some (cMa S Pl (D.gro 6 2 14)), some (cR r1), none, some (cR (mkR nm f t nd gv)), some [D.v (V.str r1.name), di r1.frm, di r1.to, D.v (vIs r1.need), D.v (vIs r1.give), D.v (vIs r1.move), di r1.chan, di r1.act, di r1.letter, D.v (vIs r1.path), D.v (vIs r1.next), D.v (vTks r1.takes), D.v (vIs r1.makes), di r1.second, D.v (V.str (mkR nm f t nd gv).name), di (mkR nm f t nd gv).frm, di (mkR nm f t nd gv).to, D.v (vIs (mkR nm f t nd gv).need), D.v (vIs (mkR nm f t nd gv).give), D.v (vIs (mkR nm f t nd gv).move), di (mkR nm f t nd gv).chan, di (mkR nm f t nd gv).act, di (mkR nm f t nd gv).letter, D.v (vIs (mkR nm f t nd gv).path), D.v (vIs (mkR nm f t nd gv).next), D.v (vTks (mkR nm f t nd gv).takes), D.v (vIs (mkR nm f t nd gv).makes), di (mkR nm f t nd gv).second]] []))) = _) ?_
    rw [show ((S.map V.str).length : Int) = (S.length : Int) by rw [List.length_map]]
    refine ⟨h4, ?_, by omega, congrArg (Option.map V.str) hnm, f4, f4, rfl, t4, t4, rfl, n4, n4, rfl, g4, g4, rfl, rfl, ?_⟩
    · rw [wrap_id (by omega) (by omega)]; exact decide_eq_true (by omega)
    · repeat' first | with_reducible refine And.intro ?_ ?_
      all_goals try first | exact ⟨m2⟩ | rfl | decide | exact (fun y hy => by rw [List.mem_singleton.1 hy]; rfl) | exact List.cons_ne_nil _ _
  · obtain ⟨ys, a2, y1, y2, y3, y4⟩ := ints_ex l hl a1 h3 Pl.length (by omega) 3 (by decide) (by decide)
    obtain ⟨c, hc⟩ : ∃ c, c = cfgV 0 ys := ⟨_, rfl⟩
    refine ⟨_, _, .one (r1 := r1) (c := c) ⟨rfl, hS, hP, rfl, rfl, rfl, rfl, by simp, hR, ys, y2, y3, hc⟩ y1, ?_⟩
    refine loop_vc mixed 85 [] (.c1 (cDz l a1) (di r) <| .f <| .c1 (cDz l a2) (dIs ys) <| .c (dV c) <| .h (.m (.dagg (cMe S Pl (.gro 4 1 14) c))) .rd) ?_
    refine via (by kernel_rfl : (FSpec PP 21 [D.ptr 0 0, di 3] (St.mk [some (cDz l a)] []) (di r) (St.mk [some (cDz l a1)] []) ∧ decide ((↑1 : Int) < IntKind.wrap IntKind.i64 (1 + r)) = false ∧ FSpec PP 22 [D.ptr 0 0, di (↑(List.length Pl) : Int), di 3] (St.mk [some (cDz l a1)] []) (dIs ys) (St.mk [some (cDz l a2)] []) ∧ FSpec PP 20 [di 0, D.v (vIs ys)] (St.mk [] []) (dV c) (St.mk [] []) ∧ 10 ≤ 10 ∧ [di 1, D.v (vSs S), D.v (vSs Pl), D.v V.nils, D.v V.nils, di 0, di 0, D.gro 4 1 14, di (Val.n c), D.v (vVs (Val.kids c))] = cMe S Pl (D.gro 4 1 14) c ∧ [some (cDz l a2), some [di 1, D.v (vSs S), D.v (vSs Pl), D.v V.nils, D.v V.nils, di 0, di 0, D.gro 4 1 14, di (Val.n c), dVs (Val.kids c)], some [di 1, D.v (vSs S), D.v (vSs Pl), D.v V.nils, D.v V.nils, di 0, di 0, D.gro 4 1 14, di (Val.n c), D.v (vVs (Val.kids c))], some (cR r1), some [D.v (V.str r1.name), di r1.frm, di r1.to, D.v (vIs r1.need), D.v (vIs r1.give), D.v (vIs r1.move), di r1.chan, di r1.act, di r1.letter, D.v (vIs r1.path), D.v (vIs r1.next), D.v (vTks r1.takes), D.v (vIs r1.makes), di r1.second]] = [some (cDz l a2), some (cMe S Pl (D.gro 4 1 14) c), some (cMe S Pl (D.gro 4 1 14) c), some (cR r1), some [D.v (V.str r1.name), di r1.frm, di r1.to, D.v (vIs r1.need), D.v (vIs r1.give), D.v (vIs r1.move), di r1.chan, di r1.act, di r1.letter, D.v (vIs r1.path), D.v (vIs r1.next), D.v (vTks r1.takes), D.v (vIs r1.makes), di r1.second]] ∧ D.dagg [di 1, D.v (vSs S), D.v (vSs Pl), D.v V.nils, D.v V.nils, di 0, di 0, D.gro 4 1 14, di (Val.n c), dVs (Val.kids c)] = D.dagg (cMe S Pl (D.gro 4 1 14) c)) = _) ?_
    refine ⟨h4, ?_, y4, hc ▸ cfg28_spec ys (by omega) 0, Nat.le_refl _, rfl, rfl, rfl⟩
    rw [wrap_id (by omega) (by omega)]; exact decide_eq_false (by omega)
theorem ctrG_0 (l : List UInt8) (hl : l.length ≤ 200) (S Pl : List (List UInt8)) (hS : S = [[97]] ∨ S = [[97], [98]]) (hP : Pl = [[120]] ∨ Pl = [[120], [121]]) (a : Nat) (ha : a ≤ l.length)  :
    CtrG l S Pl 0 ⟨[some (cDz l a), some zM, some (cMa S Pl (.v .nils))], []⟩ := by
  have hSl : 1 ≤ S.length ∧ S.length ≤ 2 := by rcases hS with rfl | rfl <;> decide
  have hPl : 1 ≤ Pl.length ∧ Pl.length ≤ 2 := by rcases hP with rfl | rfl <;> decide
  obtain ⟨r, a1, h1, h2, h3, h4⟩ := pick_ex l hl a ha 3 (by decide) (by decide)
  have hk : ((0 : Nat) : Int) < 1 + r := by omega
  obtain ⟨f, a2, f1, f2, f3, f4⟩ := pick_ex l hl a1 h3 S.length (by omega) (by omega)
  obtain ⟨t, a3, t1, t2, t3, t4⟩ := pick_ex l hl a2 f3 S.length (by omega) (by omega)
  obtain ⟨nd, a4, n1, n2, n3, n4⟩ := ints_ex l hl a3 t3 Pl.length (by omega) 2 (by decide) (by decide)
  obtain ⟨gv, a5, g1, g2, g3, g4⟩ := ints_ex l hl a4 n1 Pl.length (by omega) 2 (by decide) (by decide)
  obtain ⟨nm, hnm⟩ : ∃ nm, dl3[0]? = some nm := ⟨_, rfl⟩
  obtain ⟨d, σ', m1, m2⟩ := ctrG_1 l hl S Pl hS hP a5 g1  (mkR nm f t nd gv) (mkR_at (rs := []) hnm ⟨f1, f2⟩ ⟨t1, t2⟩ ⟨n2, n3⟩ ⟨g2, g3⟩ rfl (fun i r h => by simp at h))
  refine ⟨d, σ', m1, ?_⟩
  refine loop_vc mixed 85 [] (.c1 (cDz l a1) (di r) <| .t <| .h (.dr 21) <| .x (.str nm) <| .c1 (cDz l a2) (di f) <| .c1 (cDz l a3) (di t) <| .c1 (cDz l a4) (dIs nd) <| .c1 (cDz l a5) (dIs gv) <| .h (.q 12 4) <| .h .g <| .lo [ke 0, ke 1, ke 4, ke 5, ke 6, ch 7 (di (1 : Nat))] ⟨[some (cDz l a5), some zM, some (cMa S Pl (.gro 4 1 14))] ++ H1 (mkR nm f t nd gv), []⟩) ?_
  refine via (by kernel_rfl : (FSpec PP 21 [D.ptr 0 0, di 3] (St.mk [some (cDz l a)] []) (di r) (St.mk [some (cDz l a1)] []) ∧ decide ((↑0 : Int) < IntKind.wrap IntKind.i64 (1 + r)) = true ∧ 0 ≤ (↑0 : Int) ∧ some (V.str (ByteArray.mk #[114]).data.toList) = some (V.str nm) ∧ FSpec PP 21 [D.ptr 0 0, di (↑(List.length (List.map V.str S)) : Int)] (St.mk [some (cDz l a1)] []) (di f) (St.mk [some (cDz l a2)] []) ∧ FSpec PP 21 [D.ptr 0 0, di (↑(List.length (List.map V.str S)) : Int)] (St.mk [some (cDz l a1)] []) (di f) (St.mk [some (cDz l a2)] []) ∧ di f = di f ∧ FSpec PP 21 [D.ptr 0 0, di (↑(List.length (List.map V.str S)) : Int)] (St.mk [some (cDz l a2)] []) (di t) (St.mk [some (cDz l a3)] []) ∧ FSpec PP 21 [D.ptr 0 0, di (↑(List.length (List.map V.str S)) : Int)] (St.mk [some (cDz l a2)] []) (di t) (St.mk [some (cDz l a3)] []) ∧ di t = di t ∧ FSpec PP 22 [D.ptr 0 0, di (↑(List.length Pl) : Int), di 2] (St.mk [some (cDz l a3)] []) (dIs nd) (St.mk [some (cDz l a4)] []) ∧ FSpec PP 22 [D.ptr 0 0, di (↑(List.length Pl) : Int), di 2] (St.mk [some (cDz l a3)] []) (dIs nd) (St.mk [some (cDz l a4)] []) ∧ dIs nd = dIs nd ∧ FSpec PP 22 [D.ptr 0 0, di (↑(List.length Pl) : Int), di 2] (St.mk [some (cDz l a4)] []) (dIs gv) (St.mk [some (cDz l a5)] []) ∧ FSpec PP 22 [D.ptr 0 0, di (↑(List.length Pl) : Int), di 2] (St.mk [some (cDz l a4)] []) (dIs gv) (St.mk [some (cDz l a5)] []) ∧ dIs gv = dIs gv ∧ [St.mk [some (cDz l a1), some zM, some (cMa S Pl (D.v V.nils)), some [D.v (V.str (ByteArray.mk #[]).data.toList), di 0, di 0, D.v V.nils, D.v V.nils, D.v V.nils, di 0, di 0, di 0, D.v V.nils, D.v V.nils, D.v V.nils, D.v V.nils, di 0]] [], St.mk [some (cDz l a2), some zM, some (cMa S Pl (D.v V.nils)), some [D.v (V.str (ByteArray.mk #[]).data.toList), di 0, di 0, D.v V.nils, D.v V.nils, D.v V.nils, di 0, di 0, di 0, D.v V.nils, D.v V.nils, D.v V.nils, D.v V.nils, di 0]] [], St.mk [some (cDz l a3), some zM, some (cMa S Pl (D.v V.nils)), some [D.v (V.str (ByteArray.mk #[]).data.toList), di 0, di 0, D.v V.nils, D.v V.nils, D.v V.nils, di 0, di 0, di 0, D.v V.nils, D.v V.nils, D.v V.nils, D.v V.nils, di 0]] [], St.mk [some (cDz l a4), some zM, some (cMa S Pl (D.v V.nils)), some [D.v (V.str (ByteArray.mk #[]).data.toList), di 0, di 0, D.v V.nils, D.v V.nils, D.v V.nils, di 0, di 0, di 0, D.v V.nils, D.v V.nils, D.v V.nils, D.v V.nils, di 0]] [], St.mk [some (cDz l a5), some zM, some (cMa S Pl (D.v V.nils)), some [D.v (V.str (ByteArray.mk #[]).data.toList), di 0, di 0, D.v V.nils, D.v V.nils, D.v V.nils, di 0, di 0, di 0, D.v V.nils, D.v V.nils, D.v V.nils, D.v V.nils, di 0]] []] = [St.mk [some (cDz l a1), some zM, some (cMa S Pl (D.v V.nils)), some [D.v (V.str (ByteArray.mk #[]).data.toList), di 0, di 0, D.v V.nils, D.v V.nils, D.v V.nils, di 0, di 0, di 0, D.v V.nils, D.v V.nils, D.v V.nils, D.v V.nils, di 0]] [], St.mk [some (cDz l a2), some zM, some (cMa S Pl (D.v V.nils)), some [D.v (V.str (ByteArray.mk #[]).data.toList), di 0, di 0, D.v V.nils, D.v V.nils, D.v V.nils, di 0, di 0, di 0, D.v V.nils, D.v V.nils, D.v V.nils, D.v V.nils, di 0]] [], St.mk [some (cDz l a3), some zM, some (cMa S Pl (D.v V.nils)), some [D.v (V.str (ByteArray.mk #[]).data.toList), di 0, di 0, D.v V.nils, D.v V.nils, D.v V.nils, di 0, di 0, di 0, D.v V.nils, D.v V.nils, D.v V.nils, D.v V.nils, di 0]] [], St.mk [some (cDz l a4), some zM, some (cMa S Pl (D.v V.nils)), some [D.v (V.str (ByteArray.mk #[]).data.toList), di 0, di 0, D.v V.nils, D.v V.nils, D.v V.nils, di 0, di 0, di 0, D.v V.nils, D.v V.nils, D.v V.nils, D.v V.nils, di 0]] [], St.mk [some (cDz l a5), some zM, some (cMa S Pl (D.v V.nils)), some [D.v (V.str (ByteArray.mk #[]).data.toList), di 0, di 0, D.v V.nils, D.v V.nils, D.v V.nils, di 0, di 0, di 0, D.v V.nils, D.v V.nils, D.v V.nils, D.v V.nils, di 0]] []] ∧ ((some [D.v (vSs S)] = some [D.v (vSs S)] ∧ some [D.v (vSs S)] = some [D.v (vSs S)] ∧ some [D.v (vSs S)] = some [D.v (vSs S)] ∧ some [D.v (vSs S)] = some [D.v (vSs S)] ∧ some [D.v (vSs S)] = some [D.v (vSs S)] ∧ some [D.v (vSs S)] = some [D.v (vSs S)] ∧ some [D.v (vSs S)] = some [D.v (vSs S)] ∧ some [D.v (vSs S)] = some [D.v (vSs S)] ∧ some [D.v (vSs S)] = some [D.v (vSs S)] ∧ some [D.v (vSs S)] = some [D.v (vSs S)] ∧ some [D.v (vSs S)] = some [D.v (vSs S)] ∧ True) ∧ (some [D.v (vSs S)] = some [D.v (vSs S)] ∧ some [D.v (vSs S)] = some [D.v (vSs S)] ∧ some [D.v (vSs S)] = some [D.v (vSs S)] ∧ some [D.v (vSs S)] = some [D.v (vSs S)] ∧ some [D.v (vSs S)] = some [D.v (vSs S)] ∧ some [D.v (vSs S)] = some [D.v (vSs S)] ∧ some [D.v (vSs S)] = some [D.v (vSs S)] ∧ some [D.v (vSs S)] = some [D.v (vSs S)] ∧ some [D.v (vSs S)] = some [D.v (vSs S)] ∧ some [D.v (vSs S)] = some [D.v (vSs S)] ∧ some [D.v (vSs S)] = some [D.v (vSs S)] ∧ True) ∧ True) ∧ [V.agg [V.str nm, vi f, vi t, vIs nd, vIs gv, V.list [], vi 0, vi 0, vi 0, V.list [], V.list [], V.list [], V.list [], vi 0]] ≠ [] ∧ (∀ (y : V), y ∈ [V.agg [V.str nm, vi f, vi t, vIs nd, vIs gv, V.list [], vi 0, vi 0, vi 0, V.list [], V.list [], V.list [], V.list [], vi 0]] → V.size y = 14) ∧ LenOK 1 232 ∧ di (IntKind.wrap IntKind.i64 ((↑0 : Int) + 1)) = di (↑1 : Int) ∧ okH 5 [] [some (cDz l a5), some zM, some [di 1, D.v (vSs S), D.v (vSs Pl), D.v V.nils, D.v V.nils, di 0, di 0, D.gro 4 1 14, di 0, D.v V.nils], some [D.v (V.str nm), di f, di t, D.v (vIs nd), D.v (vIs gv), D.v (V.list []), di 0, di 0, di 0, D.v (V.list []), D.v (V.list []), D.v (V.list []), D.v (V.list []), di 0], some [D.v (V.str nm), di f, di t, D.v (vIs nd), D.v (vIs gv), D.v (V.list []), di 0, di 0, di 0, D.v (V.list []), D.v (V.list []), D.v (V.list []), D.v (V.list []), di 0]] = true ∧ [some (cDz l a5), some zM, some [di 1, D.v (vSs S), D.v (vSs Pl), D.v V.nils, D.v V.nils, di 0, di 0, D.gro 4 1 14, di 0, D.v V.nils], some [D.v (V.str nm), di f, di t, D.v (vIs nd), D.v (vIs gv), D.v (V.list nV), di 0, di 0, di 0, D.v (V.list nV), D.v (V.list nV), D.v (V.list nV), D.v (V.list nV), di 0], some [D.v (V.str nm), di f, di t, D.v (vIs nd), D.v (vIs gv), D.v (V.list nV), di 0, di 0, di 0, D.v (V.list nV), D.v (V.list nV), D.v (V.list nV), D.v (V.list nV), di 0]] = [some (cDz l a5), some zM, some (cMa S Pl (D.gro 4 1 14)), some (cR (mkR nm f t nd gv)), some [D.v (V.str (mkR nm f t nd gv).name), di (mkR nm f t nd gv).frm, di (mkR nm f t nd gv).to, D.v (vIs (mkR nm f t nd gv).need), D.v (vIs (mkR nm f t nd gv).give), D.v (vIs (mkR nm f t nd gv).move), di (mkR nm f t nd gv).chan, di (mkR nm f t nd gv).act, di (mkR nm f t nd gv).letter, D.v (vIs (mkR nm f t nd gv).path), D.v (vIs (mkR nm f t nd gv).next), D.v (vTks (mkR nm f t nd gv).takes), D.v (vIs (mkR nm f t nd gv).makes), di (mkR nm f t nd gv).second]] ∧ Nv.It (RunC (CN 1) PP (fun env σ1 => ResOK PP fCtr env σ1 d σ') [KI.lp (sub cCtr [1, 1, 1, 0, 1, 0, 0]), KI.blk 0, KI.code (sub cCtr [1, 1, 1, 1])] (mkE 85 [(0, D.ptr 0 0), (1, db false), (4, D.ptr 1 0), (5, D.ptr 2 0), (6, di (↑(List.length Pl) : Int)), (7, di (↑1 : Int))]) (St.mk [some (cDz l a5), some zM, some (cMa S Pl (D.gro 4 1 14)), some (cR (mkR nm f t nd gv)), some [D.v (V.str (mkR nm f t nd gv).name), di (mkR nm f t nd gv).frm, di (mkR nm f t nd gv).to, D.v (vIs (mkR nm f t nd gv).need), D.v (vIs (mkR nm f t nd gv).give), D.v (vIs (mkR nm f t nd gv).move), di (mkR nm f t nd gv).chan, di (mkR nm f t nd gv).act, di (mkR nm f t nd gv).letter, D.v (vIs (mkR nm f t nd gv).path), D.v (vIs (mkR nm f t nd gv).next), D.v (vTks (mkR nm f t nd gv).takes), D.v (vIs (mkR nm f t nd gv).makes), di (mkR nm f t nd gv).second]] []))) = _) ?_
  rw [show ((S.map V.str).length : Int) = (S.length : Int) by rw [List.length_map]]
  refine ⟨h4, ?_, by omega, congrArg (Option.map V.str) hnm, f4, f4, rfl, t4, t4, rfl, n4, n4, rfl, g4, g4, rfl, rfl, ?_⟩
  · rw [wrap_id (by omega) (by omega)]; exact decide_eq_true (by omega)
  · repeat' first | with_reducible refine And.intro ?_ ?_
    all_goals try first | exact ⟨m2⟩ | rfl | decide | exact (fun y hy => by rw [List.mem_singleton.1 hy]; rfl) | exact List.cons_ne_nil _ _
theorem ctrG_ex (l : List UInt8) (hl : l.length ≤ 200) (a : Nat) (ha : a ≤ l.length) :
    ∃ (S Pl : List (List UInt8)) (d : D) (σ' : St), EndG l S Pl d σ' ∧ FSpec PP 13 [.ptr 0 0, db false] (dz l a) d σ' := by
  obtain ⟨r1, a1, h1, h2, h3, h4⟩ := pick_ex l hl a ha 2 (by decide) (by decide)
  obtain ⟨r2, a2, h5, h6, h7, h8⟩ := pick_ex l hl a1 h3 2 (by decide) (by decide)
  obtain ⟨S, hS, hS2⟩ : ∃ S : List (List UInt8), (S = [[97]] ∨ S = [[97], [98]]) ∧ (r1 = 0 ∧ S = [[97]] ∨ r1 = 1 ∧ S = [[97], [98]]) := by
    rcases (show r1 = 0 ∨ r1 = 1 by omega) with h | h
    · exact ⟨_, .inl rfl, .inl ⟨h, rfl⟩⟩
    · exact ⟨_, .inr rfl, .inr ⟨h, rfl⟩⟩
  obtain ⟨Pl, hP, hP2⟩ : ∃ S : List (List UInt8), (S = [[120]] ∨ S = [[120], [121]]) ∧ (r2 = 0 ∧ S = [[120]] ∨ r2 = 1 ∧ S = [[120], [121]]) := by
    rcases (show r2 = 0 ∨ r2 = 1 by omega) with h | h
    · exact ⟨_, .inl rfl, .inl ⟨h, rfl⟩⟩
    · exact ⟨_, .inr rfl, .inr ⟨h, rfl⟩⟩
  obtain ⟨d, σ', m1, m2⟩ := ctrG_0 l hl S Pl hS hP a2 h7
  refine ⟨S, Pl, d, σ', m1, ?_⟩
  cases m1 with
  | @one a3 c x1 h ha3 =>
    refine spec_vc mixed fCtr cCtr (by kernel_rfl) (by kernel_rfl) (by kernel_rfl) (by kernel_rfl) 85 (by kernel_rfl) [] (.h (.dr 11) <| .c1 (cDz l a1) (di r1) <| .c1 (cDz l a2) (di r2) <| .h .rn <| .lo [ke 0, ke 1, ke 4, ke 5, ch 6 (di Pl.length), ch 7 (di (0 : Nat))] ⟨[some (cDz l a2), some zM, some (cMa S Pl (.v .nils))], []⟩) ?_
    refine via (by kernel_rfl : (FSpec PP 21 [D.ptr 0 0, di 2] (St.mk [some (cDz l a)] []) (di r1) (St.mk [some (cDz l a1)] []) ∧ FSpec PP 21 [D.ptr 0 0, di 2] (St.mk [some (cDz l a)] []) (di r1) (St.mk [some (cDz l a1)] []) ∧ di r1 = di r1 ∧ (∀ (x : V), x ∈ [V.str (ByteArray.mk #[97]).data.toList, V.str (ByteArray.mk #[98]).data.toList] → V.size x = 1) ∧ 0 ≤ (fun x => x.snd) (IntKind.i64, IntKind.wrap IntKind.i64 (1 + r1)) ∧ (fun x => x.snd) (IntKind.i64, IntKind.wrap IntKind.i64 (1 + r1)) ≤ (↑(List.length [V.str (ByteArray.mk #[97]).data.toList, V.str (ByteArray.mk #[98]).data.toList]) : Int) ∧ FSpec PP 21 [D.ptr 0 0, di 2] (St.mk [some (cDz l a1)] []) (di r2) (St.mk [some (cDz l a2)] []) ∧ FSpec PP 21 [D.ptr 0 0, di 2] (St.mk [some (cDz l a1)] []) (di r2) (St.mk [some (cDz l a2)] []) ∧ di r2 = di r2 ∧ (∀ (x : V), x ∈ [V.str (ByteArray.mk #[120]).data.toList, V.str (ByteArray.mk #[121]).data.toList] → V.size x = 1) ∧ 0 ≤ (fun x => x.snd) (IntKind.i64, IntKind.wrap IntKind.i64 (1 + r2)) ∧ (fun x => x.snd) (IntKind.i64, IntKind.wrap IntKind.i64 (1 + r2)) ≤ (↑(List.length [V.str (ByteArray.mk #[120]).data.toList, V.str (ByteArray.mk #[121]).data.toList]) : Int) ∧ [St.mk [some (cDz l a), some [di 0, D.v V.nils, D.v V.nils, D.v V.nils, D.v V.nils, di 0, di 0, D.v V.nils, di 0, D.v V.nils], some [di 0, D.v V.nils, D.v V.nils, D.v V.nils, D.v V.nils, di 0, di 0, D.v V.nils, di 0, D.v V.nils]] [], St.mk [some (cDz l a1), some [di 0, D.v V.nils, D.v V.nils, D.v V.nils, D.v V.nils, di 0, di 0, D.v V.nils, di 0, D.v V.nils], some [di 0, D.v V.nils, D.v V.nils, D.v V.nils, D.v V.nils, di 0, di 0, D.v V.nils, di 0, D.v V.nils]] [], St.mk [some (cDz l a2), some [di 0, D.v V.nils, D.v V.nils, D.v V.nils, D.v V.nils, di 0, di 0, D.v V.nils, di 0, D.v V.nils], some [di 0, D.v V.nils, D.v V.nils, D.v V.nils, D.v V.nils, di 0, di 0, D.v V.nils, di 0, D.v V.nils]] []] = [St.mk [some (cDz l a), some [di 0, D.v V.nils, D.v V.nils, D.v V.nils, D.v V.nils, di 0, di 0, D.v V.nils, di 0, D.v V.nils], some [di 0, D.v V.nils, D.v V.nils, D.v V.nils, D.v V.nils, di 0, di 0, D.v V.nils, di 0, D.v V.nils]] [], St.mk [some (cDz l a1), some [di 0, D.v V.nils, D.v V.nils, D.v V.nils, D.v V.nils, di 0, di 0, D.v V.nils, di 0, D.v V.nils], some [di 0, D.v V.nils, D.v V.nils, D.v V.nils, D.v V.nils, di 0, di 0, D.v V.nils, di 0, D.v V.nils]] [], St.mk [some (cDz l a2), some [di 0, D.v V.nils, D.v V.nils, D.v V.nils, D.v V.nils, di 0, di 0, D.v V.nils, di 0, D.v V.nils], some [di 0, D.v V.nils, D.v V.nils, D.v V.nils, D.v V.nils, di 0, di 0, D.v V.nils, di 0, D.v V.nils]] []] ∧ True ∧ di (↑(List.length (List.drop 0 (List.take (Int.toNat ((fun x => x.snd) (IntKind.i64, IntKind.wrap IntKind.i64 (1 + r2)))) (V.str (ByteArray.mk #[120]).data.toList :: V.str (ByteArray.mk #[121]).data.toList :: nV)))) : Int) = di (↑(List.length Pl) : Int) ∧ di 0 = di (↑0 : Int) ∧ okH 3 [] [some (cDz l a2), some [di 0, D.v V.nils, D.v V.nils, D.v V.nils, D.v V.nils, di 0, di 0, D.v V.nils, di 0, D.v V.nils], some [di 1, D.v (V.list (List.drop 0 (List.take (Int.toNat ((fun x => x.snd) (IntKind.i64, IntKind.wrap IntKind.i64 (1 + r1)))) [V.str (ByteArray.mk #[97]).data.toList, V.str (ByteArray.mk #[98]).data.toList]))), D.v (V.list (List.drop 0 (List.take (Int.toNat ((fun x => x.snd) (IntKind.i64, IntKind.wrap IntKind.i64 (1 + r2)))) [V.str (ByteArray.mk #[120]).data.toList, V.str (ByteArray.mk #[121]).data.toList]))), D.v V.nils, D.v V.nils, di 0, di 0, D.v V.nils, di 0, D.v V.nils]] = true ∧ [some (cDz l a2), some [di 0, D.v V.nils, D.v V.nils, D.v V.nils, D.v V.nils, di 0, di 0, D.v V.nils, di 0, D.v V.nils], some [di 1, D.v (V.list (List.drop 0 (List.take (Int.toNat ((fun x => x.snd) (IntKind.i64, IntKind.wrap IntKind.i64 (1 + r1)))) (V.str (ByteArray.mk #[97]).data.toList :: V.str (ByteArray.mk #[98]).data.toList :: nV)))), D.v (V.list (List.drop 0 (List.take (Int.toNat ((fun x => x.snd) (IntKind.i64, IntKind.wrap IntKind.i64 (1 + r2)))) (V.str (ByteArray.mk #[120]).data.toList :: V.str (ByteArray.mk #[121]).data.toList :: nV)))), D.v V.nils, D.v V.nils, di 0, di 0, D.v V.nils, di 0, D.v V.nils]] = [some (cDz l a2), some zM, some (cMa S Pl (D.v V.nils))] ∧ Nv.It (RunC (CN (List.length (dz l a).H)) PP (fun env σ1 => ResOK PP fCtr env σ1 (D.dagg (cMe S Pl (D.gro 4 1 14) c)) (St.mk ([some (cDz l a3), some (cMe S Pl (D.gro 4 1 14) c), some (cMe S Pl (D.gro 4 1 14) c)] ++ H1 x1) [])) [KI.lp (sub cCtr [1, 1, 1, 0, 1, 0, 0]), KI.blk 0, KI.code (sub cCtr [1, 1, 1, 1])] (mkE 85 [(0, D.ptr 0 0), (1, db false), (4, D.ptr 1 0), (5, D.ptr 2 0), (6, di (↑(List.length Pl) : Int)), (7, di (↑0 : Int))]) (St.mk [some (cDz l a2), some zM, some (cMa S Pl (D.v V.nils))] []))) = _) ?_
    refine ⟨h4, h4, rfl, by simp [V.size], ?_, ?_, h8, h8, rfl, by simp [V.size], ?_, ?_, rfl, trivial, ?_, rfl, ?_, ?_, ⟨m2⟩⟩
    · show 0 ≤ IntKind.i64.wrap (1 + r1); rw [wrap_id (by omega) (by omega)]; omega
    · show IntKind.i64.wrap (1 + r1) ≤ 2; rw [wrap_id (by omega) (by omega)]; omega
    · show 0 ≤ IntKind.i64.wrap (1 + r2); rw [wrap_id (by omega) (by omega)]; omega
    · show IntKind.i64.wrap (1 + r2) ≤ 2; rw [wrap_id (by omega) (by omega)]; omega
    · rcases hP2 with ⟨rfl, rfl⟩ | ⟨rfl, rfl⟩ <;> rfl
    · rcases hS2 with ⟨rfl, rfl⟩ | ⟨rfl, rfl⟩ <;> rcases hP2 with ⟨rfl, rfl⟩ | ⟨rfl, rfl⟩ <;> rfl
    · rcases hS2 with ⟨rfl, rfl⟩ | ⟨rfl, rfl⟩ <;> rcases hP2 with ⟨rfl, rfl⟩ | ⟨rfl, rfl⟩ <;> rfl
  | @two a3 c x1 x2 h ha3 =>
    refine spec_vc mixed fCtr cCtr (by kernel_rfl) (by kernel_rfl) (by kernel_rfl) (by kernel_rfl) 85 (by kernel_rfl) [] (.h (.dr 11) <| .c1 (cDz l a1) (di r1) <| .c1 (cDz l a2) (di r2) <| .h .rn <| .lo [ke 0, ke 1, ke 4, ke 5, ch 6 (di Pl.length), ch 7 (di (0 : Nat))] ⟨[some (cDz l a2), some zM, some (cMa S Pl (.v .nils))], []⟩) ?_
    refine via (by kernel_rfl : (FSpec PP 21 [D.ptr 0 0, di 2] (St.mk [some (cDz l a)] []) (di r1) (St.mk [some (cDz l a1)] []) ∧ FSpec PP 21 [D.ptr 0 0, di 2] (St.mk [some (cDz l a)] []) (di r1) (St.mk [some (cDz l a1)] []) ∧ di r1 = di r1 ∧ (∀ (x : V), x ∈ [V.str (ByteArray.mk #[97]).data.toList, V.str (ByteArray.mk #[98]).data.toList] → V.size x = 1) ∧ 0 ≤ (fun x => x.snd) (IntKind.i64, IntKind.wrap IntKind.i64 (1 + r1)) ∧ (fun x => x.snd) (IntKind.i64, IntKind.wrap IntKind.i64 (1 + r1)) ≤ (↑(List.length [V.str (ByteArray.mk #[97]).data.toList, V.str (ByteArray.mk #[98]).data.toList]) : Int) ∧ FSpec PP 21 [D.ptr 0 0, di 2] (St.mk [some (cDz l a1)] []) (di r2) (St.mk [some (cDz l a2)] []) ∧ FSpec PP 21 [D.ptr 0 0, di 2] (St.mk [some (cDz l a1)] []) (di r2) (St.mk [some (cDz l a2)] []) ∧ di r2 = di r2 ∧ (∀ (x : V), x ∈ [V.str (ByteArray.mk #[120]).data.toList, V.str (ByteArray.mk #[121]).data.toList] → V.size x = 1) ∧ 0 ≤ (fun x => x.snd) (IntKind.i64, IntKind.wrap IntKind.i64 (1 + r2)) ∧ (fun x => x.snd) (IntKind.i64, IntKind.wrap IntKind.i64 (1 + r2)) ≤ (↑(List.length [V.str (ByteArray.mk #[120]).data.toList, V.str (ByteArray.mk #[121]).data.toList]) : Int) ∧ [St.mk [some (cDz l a), some [di 0, D.v V.nils, D.v V.nils, D.v V.nils, D.v V.nils, di 0, di 0, D.v V.nils, di 0, D.v V.nils], some [di 0, D.v V.nils, D.v V.nils, D.v V.nils, D.v V.nils, di 0, di 0, D.v V.nils, di 0, D.v V.nils]] [], St.mk [some (cDz l a1), some [di 0, D.v V.nils, D.v V.nils, D.v V.nils, D.v V.nils, di 0, di 0, D.v V.nils, di 0, D.v V.nils], some [di 0, D.v V.nils, D.v V.nils, D.v V.nils, D.v V.nils, di 0, di 0, D.v V.nils, di 0, D.v V.nils]] [], St.mk [some (cDz l a2), some [di 0, D.v V.nils, D.v V.nils, D.v V.nils, D.v V.nils, di 0, di 0, D.v V.nils, di 0, D.v V.nils], some [di 0, D.v V.nils, D.v V.nils, D.v V.nils, D.v V.nils, di 0, di 0, D.v V.nils, di 0, D.v V.nils]] []] = [St.mk [some (cDz l a), some [di 0, D.v V.nils, D.v V.nils, D.v V.nils, D.v V.nils, di 0, di 0, D.v V.nils, di 0, D.v V.nils], some [di 0, D.v V.nils, D.v V.nils, D.v V.nils, D.v V.nils, di 0, di 0, D.v V.nils, di 0, D.v V.nils]] [], St.mk [some (cDz l a1), some [di 0, D.v V.nils, D.v V.nils, D.v V.nils, D.v V.nils, di 0, di 0, D.v V.nils, di 0, D.v V.nils], some [di 0, D.v V.nils, D.v V.nils, D.v V.nils, D.v V.nils, di 0, di 0, D.v V.nils, di 0, D.v V.nils]] [], St.mk [some (cDz l a2), some [di 0, D.v V.nils, D.v V.nils, D.v V.nils, D.v V.nils, di 0, di 0, D.v V.nils, di 0, D.v V.nils], some [di 0, D.v V.nils, D.v V.nils, D.v V.nils, D.v V.nils, di 0, di 0, D.v V.nils, di 0, D.v V.nils]] []] ∧ True ∧ di (↑(List.length (List.drop 0 (List.take (Int.toNat ((fun x => x.snd) (IntKind.i64, IntKind.wrap IntKind.i64 (1 + r2)))) (V.str (ByteArray.mk #[120]).data.toList :: V.str (ByteArray.mk #[121]).data.toList :: nV)))) : Int) = di (↑(List.length Pl) : Int) ∧ di 0 = di (↑0 : Int) ∧ okH 3 [] [some (cDz l a2), some [di 0, D.v V.nils, D.v V.nils, D.v V.nils, D.v V.nils, di 0, di 0, D.v V.nils, di 0, D.v V.nils], some [di 1, D.v (V.list (List.drop 0 (List.take (Int.toNat ((fun x => x.snd) (IntKind.i64, IntKind.wrap IntKind.i64 (1 + r1)))) [V.str (ByteArray.mk #[97]).data.toList, V.str (ByteArray.mk #[98]).data.toList]))), D.v (V.list (List.drop 0 (List.take (Int.toNat ((fun x => x.snd) (IntKind.i64, IntKind.wrap IntKind.i64 (1 + r2)))) [V.str (ByteArray.mk #[120]).data.toList, V.str (ByteArray.mk #[121]).data.toList]))), D.v V.nils, D.v V.nils, di 0, di 0, D.v V.nils, di 0, D.v V.nils]] = true ∧ [some (cDz l a2), some [di 0, D.v V.nils, D.v V.nils, D.v V.nils, D.v V.nils, di 0, di 0, D.v V.nils, di 0, D.v V.nils], some [di 1, D.v (V.list (List.drop 0 (List.take (Int.toNat ((fun x => x.snd) (IntKind.i64, IntKind.wrap IntKind.i64 (1 + r1)))) (V.str (ByteArray.mk #[97]).data.toList :: V.str (ByteArray.mk #[98]).data.toList :: nV)))), D.v (V.list (List.drop 0 (List.take (Int.toNat ((fun x => x.snd) (IntKind.i64, IntKind.wrap IntKind.i64 (1 + r2)))) (V.str (ByteArray.mk #[120]).data.toList :: V.str (ByteArray.mk #[121]).data.toList :: nV)))), D.v V.nils, D.v V.nils, di 0, di 0, D.v V.nils, di 0, D.v V.nils]] = [some (cDz l a2), some zM, some (cMa S Pl (D.v V.nils))] ∧ Nv.It (RunC (CN (List.length (dz l a).H)) PP (fun env σ1 => ResOK PP fCtr env σ1 (D.dagg (cMe S Pl (D.gro 6 2 14) c)) (St.mk ([some (cDz l a3), some (cMe S Pl (D.gro 6 2 14) c), some (cMe S Pl (D.gro 6 2 14) c)] ++ H2 x1 x2) [])) [KI.lp (sub cCtr [1, 1, 1, 0, 1, 0, 0]), KI.blk 0, KI.code (sub cCtr [1, 1, 1, 1])] (mkE 85 [(0, D.ptr 0 0), (1, db false), (4, D.ptr 1 0), (5, D.ptr 2 0), (6, di (↑(List.length Pl) : Int)), (7, di (↑0 : Int))]) (St.mk [some (cDz l a2), some zM, some (cMa S Pl (D.v V.nils))] []))) = _) ?_
    refine ⟨h4, h4, rfl, by simp [V.size], ?_, ?_, h8, h8, rfl, by simp [V.size], ?_, ?_, rfl, trivial, ?_, rfl, ?_, ?_, ⟨m2⟩⟩
    · show 0 ≤ IntKind.i64.wrap (1 + r1); rw [wrap_id (by omega) (by omega)]; omega
    · show IntKind.i64.wrap (1 + r1) ≤ 2; rw [wrap_id (by omega) (by omega)]; omega
    · show 0 ≤ IntKind.i64.wrap (1 + r2); rw [wrap_id (by omega) (by omega)]; omega
    · show IntKind.i64.wrap (1 + r2) ≤ 2; rw [wrap_id (by omega) (by omega)]; omega
    · rcases hP2 with ⟨rfl, rfl⟩ | ⟨rfl, rfl⟩ <;> rfl
    · rcases hS2 with ⟨rfl, rfl⟩ | ⟨rfl, rfl⟩ <;> rcases hP2 with ⟨rfl, rfl⟩ | ⟨rfl, rfl⟩ <;> rfl
    · rcases hS2 with ⟨rfl, rfl⟩ | ⟨rfl, rfl⟩ <;> rcases hP2 with ⟨rfl, rfl⟩ | ⟨rfl, rfl⟩ <;> rfl
  | @three a3 c x1 x2 x3 h ha3 =>
    refine spec_vc mixed fCtr cCtr (by kernel_rfl) (by kernel_rfl) (by kernel_rfl) (by kernel_rfl) 85 (by kernel_rfl) [] (.h (.dr 11) <| .c1 (cDz l a1) (di r1) <| .c1 (cDz l a2) (di r2) <| .h .rn <| .lo [ke 0, ke 1, ke 4, ke 5, ch 6 (di Pl.length), ch 7 (di (0 : Nat))] ⟨[some (cDz l a2), some zM, some (cMa S Pl (.v .nils))], []⟩) ?_
    refine via (by kernel_rfl : (FSpec PP 21 [D.ptr 0 0, di 2] (St.mk [some (cDz l a)] []) (di r1) (St.mk [some (cDz l a1)] []) ∧ FSpec PP 21 [D.ptr 0 0, di 2] (St.mk [some (cDz l a)] []) (di r1) (St.mk [some (cDz l a1)] []) ∧ di r1 = di r1 ∧ (∀ (x : V), x ∈ [V.str (ByteArray.mk #[97]).data.toList, V.str (ByteArray.mk #[98]).data.toList] → V.size x = 1) ∧ 0 ≤ (fun x => x.snd) (IntKind.i64, IntKind.wrap IntKind.i64 (1 + r1)) ∧ (fun x => x.snd) (IntKind.i64, IntKind.wrap IntKind.i64 (1 + r1)) ≤ (↑(List.length [V.str (ByteArray.mk #[97]).data.toList, V.str (ByteArray.mk #[98]).data.toList]) : Int) ∧ FSpec PP 21 [D.ptr 0 0, di 2] (St.mk [some (cDz l a1)] []) (di r2) (St.mk [some (cDz l a2)] []) ∧ FSpec PP 21 [D.ptr 0 0, di 2] (St.mk [some (cDz l a1)] []) (di r2) (St.mk [some (cDz l a2)] []) ∧ di r2 = di r2 ∧ (∀ (x : V), x ∈ [V.str (ByteArray.mk #[120]).data.toList, V.str (ByteArray.mk #[121]).data.toList] → V.size x = 1) ∧ 0 ≤ (fun x => x.snd) (IntKind.i64, IntKind.wrap IntKind.i64 (1 + r2)) ∧ (fun x => x.snd) (IntKind.i64, IntKind.wrap IntKind.i64 (1 + r2)) ≤ (↑(List.length [V.str (ByteArray.mk #[120]).data.toList, V.str (ByteArray.mk #[121]).data.toList]) : Int) ∧ [St.mk [some (cDz l a), some [di 0, D.v V.nils, D.v V.nils, D.v V.nils, D.v V.nils, di 0, di 0, D.v V.nils, di 0, D.v V.nils], some [di 0, D.v V.nils, D.v V.nils, D.v V.nils, D.v V.nils, di 0, di 0, D.v V.nils, di 0, D.v V.nils]] [], St.mk [some (cDz l a1), some [di 0, D.v V.nils, D.v V.nils, D.v V.nils, D.v V.nils, di 0, di 0, D.v V.nils, di 0, D.v V.nils], some [di 0, D.v V.nils, D.v V.nils, D.v V.nils, D.v V.nils, di 0, di 0, D.v V.nils, di 0, D.v V.nils]] [], St.mk [some (cDz l a2), some [di 0, D.v V.nils, D.v V.nils, D.v V.nils, D.v V.nils, di 0, di 0, D.v V.nils, di 0, D.v V.nils], some [di 0, D.v V.nils, D.v V.nils, D.v V.nils, D.v V.nils, di 0, di 0, D.v V.nils, di 0, D.v V.nils]] []] = [St.mk [some (cDz l a), some [di 0, D.v V.nils, D.v V.nils, D.v V.nils, D.v V.nils, di 0, di 0, D.v V.nils, di 0, D.v V.nils], some [di 0, D.v V.nils, D.v V.nils, D.v V.nils, D.v V.nils, di 0, di 0, D.v V.nils, di 0, D.v V.nils]] [], St.mk [some (cDz l a1), some [di 0, D.v V.nils, D.v V.nils, D.v V.nils, D.v V.nils, di 0, di 0, D.v V.nils, di 0, D.v V.nils], some [di 0, D.v V.nils, D.v V.nils, D.v V.nils, D.v V.nils, di 0, di 0, D.v V.nils, di 0, D.v V.nils]] [], St.mk [some (cDz l a2), some [di 0, D.v V.nils, D.v V.nils, D.v V.nils, D.v V.nils, di 0, di 0, D.v V.nils, di 0, D.v V.nils], some [di 0, D.v V.nils, D.v V.nils, D.v V.nils, D.v V.nils, di 0, di 0, D.v V.nils, di 0, D.v V.nils]] []] ∧ True ∧ di (↑(List.length (List.drop 0 (List.take (Int.toNat ((fun x => x.snd) (IntKind.i64, IntKind.wrap IntKind.i64 (1 + r2)))) (V.str (ByteArray.mk #[120]).data.toList :: V.str (ByteArray.mk #[121]).data.toList :: nV)))) : Int) = di (↑(List.length Pl) : Int) ∧ di 0 = di (↑0 : Int) ∧ okH 3 [] [some (cDz l a2), some [di 0, D.v V.nils, D.v V.nils, D.v V.nils, D.v V.nils, di 0, di 0, D.v V.nils, di 0, D.v V.nils], some [di 1, D.v (V.list (List.drop 0 (List.take (Int.toNat ((fun x => x.snd) (IntKind.i64, IntKind.wrap IntKind.i64 (1 + r1)))) [V.str (ByteArray.mk #[97]).data.toList, V.str (ByteArray.mk #[98]).data.toList]))), D.v (V.list (List.drop 0 (List.take (Int.toNat ((fun x => x.snd) (IntKind.i64, IntKind.wrap IntKind.i64 (1 + r2)))) [V.str (ByteArray.mk #[120]).data.toList, V.str (ByteArray.mk #[121]).data.toList]))), D.v V.nils, D.v V.nils, di 0, di 0, D.v V.nils, di 0, D.v V.nils]] = true ∧ [some (cDz l a2), some [di 0, D.v V.nils, D.v V.nils, D.v V.nils, D.v V.nils, di 0, di 0, D.v V.nils, di 0, D.v V.nils], some [di 1, D.v (V.list (List.drop 0 (List.take (Int.toNat ((fun x => x.snd) (IntKind.i64, IntKind.wrap IntKind.i64 (1 + r1)))) (V.str (ByteArray.mk #[97]).data.toList :: V.str (ByteArray.mk #[98]).data.toList :: nV)))), D.v (V.list (List.drop 0 (List.take (Int.toNat ((fun x => x.snd) (IntKind.i64, IntKind.wrap IntKind.i64 (1 + r2)))) (V.str (ByteArray.mk #[120]).data.toList :: V.str (ByteArray.mk #[121]).data.toList :: nV)))), D.v V.nils, D.v V.nils, di 0, di 0, D.v V.nils, di 0, D.v V.nils]] = [some (cDz l a2), some zM, some (cMa S Pl (D.v V.nils))] ∧ Nv.It (RunC (CN (List.length (dz l a).H)) PP (fun env σ1 => ResOK PP fCtr env σ1 (D.dagg (cMe S Pl (D.gro 8 3 14) c)) (St.mk ([some (cDz l a3), some (cMe S Pl (D.gro 8 3 14) c), some (cMe S Pl (D.gro 8 3 14) c)] ++ H3 x1 x2 x3) [])) [KI.lp (sub cCtr [1, 1, 1, 0, 1, 0, 0]), KI.blk 0, KI.code (sub cCtr [1, 1, 1, 1])] (mkE 85 [(0, D.ptr 0 0), (1, db false), (4, D.ptr 1 0), (5, D.ptr 2 0), (6, di (↑(List.length Pl) : Int)), (7, di (↑0 : Int))]) (St.mk [some (cDz l a2), some zM, some (cMa S Pl (D.v V.nils))] []))) = _) ?_
    refine ⟨h4, h4, rfl, by simp [V.size], ?_, ?_, h8, h8, rfl, by simp [V.size], ?_, ?_, rfl, trivial, ?_, rfl, ?_, ?_, ⟨m2⟩⟩
    · show 0 ≤ IntKind.i64.wrap (1 + r1); rw [wrap_id (by omega) (by omega)]; omega
    · show IntKind.i64.wrap (1 + r1) ≤ 2; rw [wrap_id (by omega) (by omega)]; omega
    · show 0 ≤ IntKind.i64.wrap (1 + r2); rw [wrap_id (by omega) (by omega)]; omega
    · show IntKind.i64.wrap (1 + r2) ≤ 2; rw [wrap_id (by omega) (by omega)]; omega
    · rcases hP2 with ⟨rfl, rfl⟩ | ⟨rfl, rfl⟩ <;> rfl
    · rcases hS2 with ⟨rfl, rfl⟩ | ⟨rfl, rfl⟩ <;> rcases hP2 with ⟨rfl, rfl⟩ | ⟨rfl, rfl⟩ <;> rfl
    · rcases hS2 with ⟨rfl, rfl⟩ | ⟨rfl, rfl⟩ <;> rcases hP2 with ⟨rfl, rfl⟩ | ⟨rfl, rfl⟩ <;> rfl
end Go.Proofs.YtdfdemnbaiieaaaGreat

namespace Go.Proofs.YtdfdemnbaiieaaaGreat
open Go.Dv Go.Nv
set_option maxRecDepth 20000
theorem repDs_split {g : Gh} : ∀ {a b : List D} {us : List Value}, repDs g (a ++ b) us → ∃ u v, us = u ++ v ∧ repDs g a u ∧ repDs g b v
  | [], b, us, h => ⟨[], us, rfl, rfl, h⟩
  | x :: a, b, us, h => by
    simp only [List.cons_append, repDs] at h
    obtain ⟨u, us', rfl, h1, h2⟩ := h
    obtain ⟨v, w, rfl, h3, h4⟩ := repDs_split h2
    exact ⟨u :: v, w, rfl, ⟨u, v, rfl, h1, h3⟩, h4⟩
/-- of what a call leaves, the object it was handed and one new object are kept -/
theorem spec_sel {P : Program} {f : FuncId} {ds A B es : List D} {T : List (Option (List D))} {q n sz : Nat} {c1 c2 : List D} (hB : D.pls B = true) (he : D.pls es = true) (h1 : D.pls c1 = true) (h2 : D.pls c2 = true) (hq : T[q]? = some (some es))
    (h : FSpec P f ds ⟨[some A], []⟩ (.dagg (c1 ++ .gro (q + 1) n sz :: c2)) ⟨some B :: T, []⟩) : FSpec P f ds ⟨[some A], []⟩ (.dagg (c1 ++ .arr 1 0 n :: c2)) ⟨[some B, some es], []⟩ := by
  refine ⟨h.1, fun g w args hw ha => Calls.mono (h.2 g w args hw ha) ?_⟩
  rintro e w' ⟨u, g', rfl, hw', hr⟩
  have hgn : g.n = 1 := hw.n
  have hne : g'.β 0 ≠ g'.β (q + 1) := fun e => by
    have := hw'.rep.inj 0 (q + 1) B es rfl (by simpa using hq) e
    omega
  refine ⟨u, { M := g'.M, β := fun i => if i = 0 then g'.β 0 else g'.β (q + 1), n := 2, ι := g'.ι, κ := fun i => if i = 0 then g'.κ 0 else g'.κ (q + 1) }, rfl, ?_, ?_⟩
  · refine { rep := ?_, M := hw'.M, size := hw'.size, keep := hw'.keep, os := hw'.os, tape := hw'.tape, output := hw'.output, nE := ?_, βE := ?_, κE := ?_, objs := ?_, owns := fun x hx => by simp at hx, drawn := hw'.drawn }
    · refine { n := rfl, mem := hw'.rep.mem, obj := ?_, inj := ?_, own := fun k s xs hx => by simp at hx, tags := by simp, sep := fun x hx => by simp at hx, ownObj := fun x hx => by simp at hx, fresh := hw'.rep.fresh }
      · intro i cs hi
        match i, hi with
        | 0, hi =>
          simp at hi; subst hi
          obtain ⟨us, rest, et, a1, a2, a3, a4, a5⟩ := hw'.rep.obj 0 B rfl
          exact ⟨us, rest, et, a1, repDs_pl (by rfl) hB a2, a3, a4, a5⟩
        | 1, hi =>
          simp at hi; subst hi
          obtain ⟨us, rest, et, a1, a2, a3, a4, a5⟩ := hw'.rep.obj (q + 1) es (by simpa using hq)
          exact ⟨us, rest, et, a1, repDs_pl (by rfl) he a2, a3, a4, a5⟩
        | i + 2, hi => simp at hi
      · intro i j cs ds hi hj hij
        match i, j, hi, hj with
        | 0, 0, _, _ => rfl
        | 0, 1, _, _ => exact absurd hij hne
        | 1, 0, _, _ => exact absurd hij.symm hne
        | 1, 1, _, _ => rfl
        | i + 2, _, hi, _ => simp at hi
        | _, j + 2, _, hj => simp at hj
    · show g.n ≤ 2; omega
    · intro o ho
      have h0 : o = 0 := by show o = 0; have : o < g.n := ho; omega
      subst h0; exact hw'.βE 0 ho
    · intro o ho
      have h0 : o = 0 := by show o = 0; have : o < g.n := ho; omega
      subst h0; exact hw'.κE 0 ho
    · intro i cs hi
      match i, hi with
      | 0, hi => exact hw'.objs 0 B rfl
      | 1, hi => exact hw'.objs (q + 1) es (by simpa using hq)
      | i + 2, hi => simp at hi
  · simp only [repD] at hr ⊢
    obtain ⟨us, rfl, hr⟩ := hr
    obtain ⟨u1, u2, rfl, b1, b2⟩ := repDs_split hr
    simp only [repDs] at b2
    obtain ⟨x, u3, rfl, b3, b4⟩ := b2
    simp only [repD] at b3
    obtain ⟨b5, cap, b6, b7, b8⟩ := b3
    refine ⟨_, rfl, repDs_append (repDs_pl (by rfl) h1 b1) ?_⟩
    simp only [repDs]
    exact ⟨_, _, rfl, by simp only [repD]; exact ⟨by decide, cap, b6, b8⟩, repDs_pl (by rfl) h2 b4⟩
/-- a dealt counter model, its rules in an array of their own -/
theorem ctrA_ex (l : List UInt8) (hl : l.length ≤ 200) (a : Nat) (ha : a ≤ l.length) :
    ∃ (S Pl : List (List UInt8)) (rs : List Rul) (c : Val) (a' : Nat), MadeC ⟨1, S, Pl, [], [], 0, 0, rs, c⟩ ∧ a' ≤ l.length ∧
    FSpec PP 13 [.ptr 0 0, db false] (dz l a) (.dagg (cMe S Pl (.arr 1 0 rs.length) c)) ⟨[some (cDz l a'), some (flatV (rs.map vRul))], []⟩ := by
  obtain ⟨S, Pl, d, σ', m1, m2⟩ := ctrG_ex l hl a ha
  cases m1 with
  | @one a3 c x1 h ha3 =>
    exact ⟨S, Pl, [x1], c, a3, h, ha3, spec_sel (q := 3) (n := 1) (sz := 14) (c1 := [di 1, .v (vSs S), .v (vSs Pl), .v .nils, .v .nils, di 0, di 0]) (c2 := [di c.n, dVs c.kids]) rfl (pls_map _) rfl rfl rfl m2⟩
  | @two a3 c x1 x2 h ha3 =>
    exact ⟨S, Pl, [x1, x2], c, a3, h, ha3, spec_sel (q := 5) (n := 2) (sz := 14) (c1 := [di 1, .v (vSs S), .v (vSs Pl), .v .nils, .v .nils, di 0, di 0]) (c2 := [di c.n, dVs c.kids]) rfl (pls_map _) rfl rfl rfl m2⟩
  | @three a3 c x1 x2 x3 h ha3 =>
    exact ⟨S, Pl, [x1, x2, x3], c, a3, h, ha3, spec_sel (q := 7) (n := 3) (sz := 14) (c1 := [di 1, .v (vSs S), .v (vSs Pl), .v .nils, .v .nils, di 0, di 0]) (c2 := [di c.n, dVs c.kids]) rfl (pls_map _) rfl rfl rfl m2⟩
theorem okNs_mv (n : Nat) (ts : List Nat) : ∀ l : List V, D.okNs n ts (l.map .v) = true
  | [] => rfl
  | x :: l => by simp only [List.map_cons, D.okNs, D.okN, okNs_mv n ts l, Bool.true_and]
theorem two_of : ∀ {l : List Int}, l.length = 2 → ∃ a b, l = [a, b]
  | [a, b], _ => ⟨a, b, rfl⟩
theorem flatR_cons (r : Rul) (l : List Rul) : flatV ((r :: l).map vRul) = cR r ++ flatV (l.map vRul) := by
  simp only [flatV, List.map_cons, List.flatMap_cons, List.map_append]; rfl
theorem flatR_app (a b : List Rul) : flatV ((a ++ b).map vRul) = flatV (a.map vRul) ++ flatV (b.map vRul) := by
  simp only [flatV, List.map_append, List.flatMap_append]
theorem flatR_len : ∀ l : List Rul, (flatV (l.map vRul)).length = l.length * 14
  | [] => rfl
  | r :: l => by
    have h : (cR r).length = 14 := rfl
    rw [flatR_cons, List.length_append, flatR_len l, h, List.length_cons]; omega
theorem flatR_split {l : List Rul} {k : Nat} {r : Rul} (h : l[k]? = some r) : flatV (l.map vRul) = flatV ((l.take k).map vRul) ++ (cR r ++ flatV ((l.drop (k + 1)).map vRul)) := by
  obtain ⟨hk, rfl⟩ := List.getElem?_eq_some_iff.1 h
  conv => lhs; rw [← List.take_append_drop k l, List.drop_eq_getElem_cons hk]
  rw [flatR_app, flatR_cons]
theorem flatR_tk {l : List Rul} {k : Nat} (hk : k < l.length) : (flatV ((l.take k).map vRul)).length = k * 14 := by rw [flatR_len, List.length_take]; omega
theorem flatR_at {l : List Rul} {k : Nat} {r : Rul} (h : l[k]? = some r) : ((flatV (l.map vRul)).drop (k * 14)).take 14 = cR r := by
  have hk := (List.getElem?_eq_some_iff.1 h).1
  rw [flatR_split h, List.drop_left' (flatR_tk hk)]
  rfl
theorem flatR_set {l : List Rul} {k : Nat} {nm : List UInt8} {f t : Int} {nd gv : List Int} (h : l[k]? = some (mkR nm f t nd gv)) : ((flatV (l.map vRul)).set (k * 14 + 3) (dIs gv)).set (k * 14 + 4) (dIs nd) = flatV ((l.set k (mkR nm f t gv nd)).map vRul) := by
  have hk := (List.getElem?_eq_some_iff.1 h).1
  have h2 : (l.set k (mkR nm f t gv nd))[k]? = some (mkR nm f t gv nd) := by rw [List.getElem?_set_self hk]
  rw [flatR_split h, flatR_split h2, List.set_append_right _ _ (by rw [flatR_tk hk]; omega), List.set_append_right _ _ (by rw [flatR_tk hk]; omega), flatR_tk hk]
  rw [List.take_set_of_le (Nat.le_refl _), List.drop_set_of_lt (by omega), show k * 14 + 3 - k * 14 = 3 by omega, show k * 14 + 4 - k * 14 = 4 by omega]
  rfl
theorem made_set {S Pl : List (List UInt8)} {rs : List Rul} {c : Val} {k : Nat} {nm : List UInt8} {f t : Int} {nd gv : List Int} (hm : MadeC ⟨1, S, Pl, [], [], 0, 0, rs, c⟩) (h : rs[k]? = some (mkR nm f t nd gv)) : MadeC ⟨1, S, Pl, [], [], 0, 0, rs.set k (mkR nm f t gv nd), c⟩ := by
  refine ⟨rfl, hm.states, hm.places, rfl, rfl, rfl, rfl, by show (rs.set k _).length ≤ 3; rw [List.length_set]; exact hm.count, fun i r hi => ?_, hm.start⟩
  have hi : (rs.set k (mkR nm f t gv nd))[i]? = some r := hi
  by_cases hik : i = k
  · subst hik
    rw [List.getElem?_set_self (List.getElem?_eq_some_iff.1 h).1] at hi
    cases hi
    have hr := hm.rules i _ h
    exact ⟨hr.name, hr.frm, hr.to, hr.give, hr.need, rfl⟩
  · rw [List.getElem?_set_ne (fun e => hik e.symm)] at hi
    exact hm.rules i r hi
/-- an array of structs that a cell holds becomes data -/
theorem cv_cellArrF {σ : St} {p q i sz : Nat} {cs : List D} {xs : List V} (hsz : 0 < sz) (hp : σ.H[p]? = some (some cs)) (hq : σ.H[q]? = some (some (flatV xs))) (hpq : p ≠ q) (hi : cs[i]? = some (.arr q 0 xs.length)) (hx : ∀ x ∈ xs, x.size = sz) (e : List D) :
    Cv e σ e ⟨(σ.H.set q none).set p (some (cs.set i (.v (.list xs)))), σ.own⟩ := fun E g a w hf => by
  obtain ⟨us, rest, et, hb, hr, h1, hM, _⟩ := hf.wi.rep.obj q _ hq
  have hA : repA g.M (xs.flatMap V.cellsV) us := toVs_rep (toVs_map _) hr h1
  let M' : Mem := fun b o => if b = g.β q then us[o]? else g.M b o
  have hle : g.M.le M' := fun b o v hm => by
    simp only [M']
    rw [if_neg]; · exact hm
    intro e; subst e; rw [hM o] at hm; simp at hm
  have hlg : g.le { g with M := M' } := ⟨hle, Nat.le_refl _, fun _ _ => rfl, fun _ _ _ h => h, fun _ _ => rfl⟩
  have hin : inM M' (g.β q) 0 us := fun j v hj => by simp [M', hj]
  have hw' : WI E { g with M := M' } ⟨σ.H.set q none, σ.own⟩ w := hf.wi.setObjG hle hq (fun c hc => by simp at hc) (fun b _ hne => ⟨rfl, fun o => by simp [M', hne]⟩) (fun b o v hm => by
      simp only [M'] at hm
      split at hm
      · rename_i e; subst e
        simp only [World.cell?, hb, List.getElem?_toArray]; exact get_app hm
      · exact hf.wi.rep.mem b o v hm) (Nat.le_refl _) rfl rfl rfl
  have hp' : (σ.H.set q none)[p]? = some (some cs) := by rw [List.getElem?_set_ne (fun e => hpq e.symm)]; exact hp
  obtain ⟨us2, rest2, et2, hb2, hr2, h12, _, hκ2⟩ := hw'.rep.obj p cs hp'
  obtain ⟨u, hu, hru⟩ := repDs_get hr2 hi
  simp only [repD] at hru
  obtain ⟨_, cap, hcap, rfl⟩ := hru
  have hlist : repV M' (.list xs) (.slice (some ⟨g.β q, 0, none⟩) xs.length cap) := repV_of_cells hsz hin (repE_of_flat hx (repA.mono hle _ _ hA)) hcap
  have hset := repDs_set hr2 i (d := .v (.list xs)) (u := .slice (some ⟨g.β q, 0, none⟩) xs.length cap) (by simp only [repD]; exact hlist)
  rw [set_self hu] at hset
  have h3 := hw'.setObj hp' hb2 hκ2 hset (fun c hc => by
    rcases List.mem_or_eq_of_mem_set hc with h | h
    · exact h12 c h
    · rw [h]; rfl) (fun _ _ => rfl) rfl rfl rfl rfl
  exact ⟨_, h3, repDs.mono hlg _ _ hf.env, hf.defers⟩
noncomputable abbrev fStd : Func := Tryz.f7
noncomputable def cStd : Code := fStd.body.getD .skip
abbrev stT (l : List UInt8) (a : Nat) (S Pl : List (List UInt8)) (n : Nat) (c : Val) (rs : List Rul) : St := ⟨[some (cDz l a), some zM, some (flatV (rs.map vRul)), some (cMe S Pl (.arr 2 0 n) c)], []⟩
theorem std_loop (l : List UInt8) (a : Nat) (S Pl : List (List UInt8)) (c : Val) (n : Nat) (hn3 : n ≤ 3) (N : Nat) : ∀ (k : Nat) (rs : List Rul), n - k = N → rs.length = n → MadeC ⟨1, S, Pl, [], [], 0, 0, rs, c⟩ →
    ∃ m, MadeC m ∧ Rn PP fStd 1 (dMod m) (dz l a) ([.lp (sub cStd [1, 1, 0, 1, 0, 0]), .blk 0, .code (sub cStd [1, 1, 1])] ++ []) (mkE 62 [(2, .ptr 1 0), (3, .ptr 3 0), (4, di k)]) (stT l a S Pl n c rs) := by
  induction N with
  | zero =>
    intro k rs hn hrs hm
    refine ⟨_, hm, ?_⟩
    refine loop_vc mixed 62 [] (.f <| .h (.q 13 0) <| .h (.cs ⟨[some (cDz l a), some zM, none, some (cMe S Pl (.v (vRuls rs)) c)], []⟩) .r) ?_
    refine via (by kernel_rfl : (decide ((↑k : Int) < (↑n : Int)) = false ∧ (∀ (e : List D) (E : Ent) (g : Gh) (a_1 : Act) (w : World), FI E g (St.mk [some (cDz l a), some zM, some (flatV (List.map vRul rs)), some (cMe S Pl (D.arr 2 0 n) c)] []) e a_1 w → ∃ g', FI E g' (St.mk [some (cDz l a), some zM, none, some (cMe S Pl (D.v (vRuls rs)) c)] []) e a_1 w) ∧ [some (cDz l a)] = [some (cDz l a)] ∧ D.v (V.agg [vi 1, V.list (List.map V.str S), V.list (List.map V.str Pl), V.list [], V.list [], vi 0, vi 0, V.list (List.map vRul rs), vi (Val.n c), V.list (List.map eV (Val.kids c))]) = dMod (Mod.mk 1 S Pl [] [] 0 0 rs c)) = _) ?_
    refine ⟨decide_eq_false (by omega), fun e => ?_, rfl, rfl⟩
    exact cv_cellArrF (σ := stT l a S Pl n c rs) (p := 3) (q := 2) (i := 7) (sz := 14) (cs := cMe S Pl (.arr 2 0 n) c) (xs := rs.map vRul) (by decide) rfl rfl (by decide) (by rw [List.length_map, hrs]; rfl) (fun x hx => by obtain ⟨z, _, rfl⟩ := List.mem_map.1 hx; rfl) e
  | succ N ih =>
    intro k rs hn hrs hm
    obtain ⟨r, hr⟩ : ∃ r, rs[k]? = some r := ⟨_, List.getElem?_eq_getElem (show k < rs.length by omega)⟩
    have hR := hm.rules k r hr
    obtain ⟨nm, f, t, nd, gv, rfl⟩ : ∃ nm f t nd gv, r = mkR nm f t nd gv := ⟨_, _, _, _, _, hR.rest⟩
    have hms := made_set hm hr
    have hat := flatR_at hr
    have hk : k < n := by omega
    have hln : k * 14 + 14 ≤ (flatV (rs.map vRul)).length := by rw [flatR_len]; omega
    have okS : ∀ l' : List Rul, okH 4 [] [some (cDz l a), some zM, some (flatV (l'.map vRul)), some (cMe S Pl (.arr 2 0 n) c)] = true := fun l' => by
      have : D.okNs 4 [] (flatV (l'.map vRul)) = true := okNs_mv _ _ _
      simp [okH, D.okNs, D.okN, this]
    have e0 : 0 + Int.toNat (k : Int) * 14 = k * 14 := by omega
    have hnl : nd.length = Pl.length := hR.need.1
    have hgl : gv.length = Pl.length := hR.give.1
    rcases hm.places with hP | hP
    · have hP : Pl = [[120]] := hP
      rw [hP] at hnl hgl
      obtain ⟨x1, rfl⟩ := List.length_eq_one_iff.1 hnl
      obtain ⟨y1, rfl⟩ := List.length_eq_one_iff.1 hgl
      by_cases hg : decide (IntKind.wrap IntKind.i64 (0 + y1) > IntKind.wrap IntKind.i64 (0 + x1)) = true
      · obtain ⟨m, m1, m2⟩ := ih (k + 1) (rs.set k (mkR nm f t [y1] [x1])) (by omega) (by rw [List.length_set]; exact hrs) hms
        refine ⟨m, m1, ?_⟩
        refine loop_vc mixed 62 [] (.t <| .m (.arr 2 0 n) <| .m (dRul (mkR nm f t [x1] [y1])) <| .n <| .x (vi x1) <| .x (vi y1) <| .n <| .f <| .t <| .w <| .w <| .lo [ke 2, ke 3, ch 4 (di (k + 1 : Nat))] (stT l a S Pl n c (rs.set k (mkR nm f t [y1] [x1])))) ?_
        refine via (by kernel_rfl : (decide ((↑k : Int) < (↑n : Int)) = true ∧ some (D.arr 2 0 n) = some (D.arr 2 0 n) ∧ 0 ≤ (↑k : Int) ∧ (↑k : Int) < (↑n : Int) ∧ 0 + Int.toNat (↑k : Int) * 14 + 14 ≤ List.length (flatV (List.map vRul rs)) ∧ List.take 14 (List.drop (0 + Int.toNat (↑k : Int) * 14) (flatV (List.map vRul rs))) = [D.v (V.str (mkR nm f t [x1] [y1]).name), di (mkR nm f t [x1] [y1]).frm, di (mkR nm f t [x1] [y1]).to, D.v (vIs (mkR nm f t [x1] [y1]).need), D.v (vIs (mkR nm f t [x1] [y1]).give), D.v (vIs (mkR nm f t [x1] [y1]).move), di (mkR nm f t [x1] [y1]).chan, di (mkR nm f t [x1] [y1]).act, di (mkR nm f t [x1] [y1]).letter, D.v (vIs (mkR nm f t [x1] [y1]).path), D.v (vIs (mkR nm f t [x1] [y1]).next), D.v (vTks (mkR nm f t [x1] [y1]).takes), D.v (vIs (mkR nm f t [x1] [y1]).makes), di (mkR nm f t [x1] [y1]).second] ∧ iz 0 ≤ 0 ∧ some (vi x1) = some (vi x1) ∧ iz 0 ≤ 0 ∧ some (vi y1) = some (vi y1) ∧ (True ∧ True ∧ True) ∧ decide (IntKind.wrap IntKind.i64 (0 + 1) < (↑(List.length (List.map vi (mkR nm f t [x1] [y1]).need)) : Int)) = false ∧ decide (IntKind.wrap IntKind.i64 (0 + y1) > IntKind.wrap IntKind.i64 (0 + x1)) = true ∧ 0 ≤ (↑k : Int) ∧ (↑k : Int) < (↑n : Int) ∧ ((0 + Int.toNat (↑k : Int) * 14) + 3) < List.length (flatV (List.map vRul rs)) ∧ 0 ≤ (↑k : Int) ∧ (↑k : Int) < (↑n : Int) ∧ ((0 + Int.toNat (↑k : Int) * 14) + 4) < List.length (List.set (flatV (List.map vRul rs)) (((0 + Int.toNat (↑k : Int) * 14) + 3)) (D.v (vIs (mkR nm f t [x1] [y1]).give))) ∧ (True ∧ (some [D.arr 2 0 n] = some [D.arr 2 0 n] ∧ some [D.arr 2 0 n] = some [D.arr 2 0 n] ∧ True) ∧ True ∧ (some [D.v (vIs (mkR nm f t [x1] [y1]).need)] = some [D.v (vIs (mkR nm f t [x1] [y1]).need)] ∧ some [D.v (vIs (mkR nm f t [x1] [y1]).need)] = some [D.v (vIs (mkR nm f t [x1] [y1]).need)] ∧ True) ∧ True) ∧ di (IntKind.wrap IntKind.i64 ((↑k : Int) + 1)) = di (↑(k + 1) : Int) ∧ okH 4 [] [some (cDz l a), some zM, some (List.set (List.set (flatV (List.map vRul rs)) (((0 + Int.toNat (↑k : Int) * 14) + 3)) (D.v (vIs (mkR nm f t [x1] [y1]).give))) (((0 + Int.toNat (↑k : Int) * 14) + 4)) (D.v (vIs (mkR nm f t [x1] [y1]).need))), some (cMe S Pl (D.arr 2 0 n) c)] = true ∧ [some (cDz l a), some zM, some (List.set (List.set (flatV (List.map vRul rs)) (((0 + Int.toNat (↑k : Int) * 14) + 3)) (D.v (vIs (mkR nm f t [x1] [y1]).give))) (((0 + Int.toNat (↑k : Int) * 14) + 4)) (D.v (vIs (mkR nm f t [x1] [y1]).need))), some (cMe S Pl (D.arr 2 0 n) c)] = [some (cDz l a), some zM, some (flatV (List.map vRul (List.set rs k (mkR nm f t [y1] [x1])))), some (cMe S Pl (D.arr 2 0 n) c)] ∧ Nv.It (RunC (CN 1) PP (fun env σ1 => ResOK PP fStd env σ1 (dMod m) (dz l a)) [KI.lp (sub cStd [1, 1, 0, 1, 0, 0]), KI.blk 0, KI.code (sub cStd [1, 1, 1])] (mkE 62 [(2, D.ptr 1 0), (3, D.ptr 3 0), (4, di (↑(k + 1) : Int))]) (stT l a S Pl n c (List.set rs k (mkR nm f t [y1] [x1]))))) = _) ?_
        rw [wrap_succ (by omega), e0]
        refine ⟨decide_eq_true (by omega), rfl, by omega, by omega, hln, hat, ?_⟩
        rw [show ((flatV (rs.map vRul)).set (k * 14 + 3) (D.v (vIs (mkR nm f t [x1] [y1]).give))).set (k * 14 + 4) (D.v (vIs (mkR nm f t [x1] [y1]).need)) = flatV ((rs.set k (mkR nm f t [y1] [x1])).map vRul) from flatR_set hr]
        repeat' first | with_reducible refine And.intro ?_ ?_
        all_goals first | exact ⟨m2⟩ | exact okS _ | exact hg | rfl | decide | omega | (rw [List.length_set]; omega)
      · obtain ⟨m, m1, m2⟩ := ih (k + 1) rs (by omega) hrs hm
        refine ⟨m, m1, ?_⟩
        refine loop_vc mixed 62 [] (.t <| .m (.arr 2 0 n) <| .m (dRul (mkR nm f t [x1] [y1])) <| .n <| .x (vi x1) <| .x (vi y1) <| .n <| .f <| .f <| .lo [ke 2, ke 3, ch 4 (di (k + 1 : Nat))] (stT l a S Pl n c rs)) ?_
        refine via (by kernel_rfl : (decide ((↑k : Int) < (↑n : Int)) = true ∧ some (D.arr 2 0 n) = some (D.arr 2 0 n) ∧ 0 ≤ (↑k : Int) ∧ (↑k : Int) < (↑n : Int) ∧ 0 + Int.toNat (↑k : Int) * 14 + 14 ≤ List.length (flatV (List.map vRul rs)) ∧ List.take 14 (List.drop (0 + Int.toNat (↑k : Int) * 14) (flatV (List.map vRul rs))) = [D.v (V.str (mkR nm f t [x1] [y1]).name), di (mkR nm f t [x1] [y1]).frm, di (mkR nm f t [x1] [y1]).to, D.v (vIs (mkR nm f t [x1] [y1]).need), D.v (vIs (mkR nm f t [x1] [y1]).give), D.v (vIs (mkR nm f t [x1] [y1]).move), di (mkR nm f t [x1] [y1]).chan, di (mkR nm f t [x1] [y1]).act, di (mkR nm f t [x1] [y1]).letter, D.v (vIs (mkR nm f t [x1] [y1]).path), D.v (vIs (mkR nm f t [x1] [y1]).next), D.v (vTks (mkR nm f t [x1] [y1]).takes), D.v (vIs (mkR nm f t [x1] [y1]).makes), di (mkR nm f t [x1] [y1]).second] ∧ iz 0 ≤ 0 ∧ some (vi x1) = some (vi x1) ∧ iz 0 ≤ 0 ∧ some (vi y1) = some (vi y1) ∧ (True ∧ True ∧ True) ∧ decide (IntKind.wrap IntKind.i64 (0 + 1) < (↑(List.length (List.map vi (mkR nm f t [x1] [y1]).need)) : Int)) = false ∧ decide (IntKind.wrap IntKind.i64 (0 + y1) > IntKind.wrap IntKind.i64 (0 + x1)) = false ∧ di (IntKind.wrap IntKind.i64 ((↑k : Int) + 1)) = di (↑(k + 1) : Int) ∧ okH 4 [] [some (cDz l a), some zM, some (flatV (List.map vRul rs)), some (cMe S Pl (D.arr 2 0 n) c)] = true ∧ [some (cDz l a), some zM, some (flatV (List.map vRul rs)), some (cMe S Pl (D.arr 2 0 n) c)] = [some (cDz l a), some zM, some (flatV (List.map vRul rs)), some (cMe S Pl (D.arr 2 0 n) c)] ∧ Nv.It (RunC (CN 1) PP (fun env σ1 => ResOK PP fStd env σ1 (dMod m) (dz l a)) [KI.lp (sub cStd [1, 1, 0, 1, 0, 0]), KI.blk 0, KI.code (sub cStd [1, 1, 1])] (mkE 62 [(2, D.ptr 1 0), (3, D.ptr 3 0), (4, di (↑(k + 1) : Int))]) (stT l a S Pl n c rs))) = _) ?_
        rw [wrap_succ (by omega)]
        refine ⟨decide_eq_true (by omega), rfl, by omega, by omega, by rw [e0]; exact hln, by rw [e0]; exact hat, ?_⟩
        repeat' first | with_reducible refine And.intro ?_ ?_
        all_goals first | exact ⟨m2⟩ | exact okS _ | exact eq_false_of_ne_true hg | rfl | decide | omega
    · have hP : Pl = [[120], [121]] := hP
      rw [hP] at hnl hgl
      obtain ⟨x1, x2, rfl⟩ := two_of hnl
      obtain ⟨y1, y2, rfl⟩ := two_of hgl
      by_cases hg : decide (IntKind.wrap IntKind.i64 (IntKind.wrap IntKind.i64 (0 + y1) + y2) > IntKind.wrap IntKind.i64 (IntKind.wrap IntKind.i64 (0 + x1) + x2)) = true
      · obtain ⟨m, m1, m2⟩ := ih (k + 1) (rs.set k (mkR nm f t [y1, y2] [x1, x2])) (by omega) (by rw [List.length_set]; exact hrs) hms
        refine ⟨m, m1, ?_⟩
        refine loop_vc mixed 62 [] (.t <| .m (.arr 2 0 n) <| .m (dRul (mkR nm f t [x1, x2] [y1, y2])) <| .n <| .x (vi x1) <| .x (vi y1) <| .n <| .t <| .x (vi x2) <| .x (vi y2) <| .n <| .f <| .t <| .w <| .w <| .lo [ke 2, ke 3, ch 4 (di (k + 1 : Nat))] (stT l a S Pl n c (rs.set k (mkR nm f t [y1, y2] [x1, x2])))) ?_
        refine via (by kernel_rfl : (decide ((↑k : Int) < (↑n : Int)) = true ∧ some (D.arr 2 0 n) = some (D.arr 2 0 n) ∧ 0 ≤ (↑k : Int) ∧ (↑k : Int) < (↑n : Int) ∧ 0 + Int.toNat (↑k : Int) * 14 + 14 ≤ List.length (flatV (List.map vRul rs)) ∧ List.take 14 (List.drop (0 + Int.toNat (↑k : Int) * 14) (flatV (List.map vRul rs))) = [D.v (V.str (mkR nm f t [x1, x2] [y1, y2]).name), di (mkR nm f t [x1, x2] [y1, y2]).frm, di (mkR nm f t [x1, x2] [y1, y2]).to, D.v (vIs (mkR nm f t [x1, x2] [y1, y2]).need), D.v (vIs (mkR nm f t [x1, x2] [y1, y2]).give), D.v (vIs (mkR nm f t [x1, x2] [y1, y2]).move), di (mkR nm f t [x1, x2] [y1, y2]).chan, di (mkR nm f t [x1, x2] [y1, y2]).act, di (mkR nm f t [x1, x2] [y1, y2]).letter, D.v (vIs (mkR nm f t [x1, x2] [y1, y2]).path), D.v (vIs (mkR nm f t [x1, x2] [y1, y2]).next), D.v (vTks (mkR nm f t [x1, x2] [y1, y2]).takes), D.v (vIs (mkR nm f t [x1, x2] [y1, y2]).makes), di (mkR nm f t [x1, x2] [y1, y2]).second] ∧ iz 0 ≤ 0 ∧ some (vi x1) = some (vi x1) ∧ iz 0 ≤ 0 ∧ some (vi y1) = some (vi y1) ∧ (True ∧ True ∧ True) ∧ decide (IntKind.wrap IntKind.i64 (0 + 1) < (↑(List.length (List.map vi (mkR nm f t [x1, x2] [y1, y2]).need)) : Int)) = true ∧ 0 ≤ IntKind.wrap IntKind.i64 (0 + 1) ∧ some (vi x2) = some (vi x2) ∧ 0 ≤ IntKind.wrap IntKind.i64 (0 + 1) ∧ some (vi y2) = some (vi y2) ∧ (True ∧ True ∧ True) ∧ decide (IntKind.wrap IntKind.i64 (IntKind.wrap IntKind.i64 (0 + 1) + 1) < (↑(List.length (List.map vi (mkR nm f t [x1, x2] [y1, y2]).need)) : Int)) = false ∧ decide (IntKind.wrap IntKind.i64 (IntKind.wrap IntKind.i64 (0 + y1) + y2) > IntKind.wrap IntKind.i64 (IntKind.wrap IntKind.i64 (0 + x1) + x2)) = true ∧ 0 ≤ (↑k : Int) ∧ (↑k : Int) < (↑n : Int) ∧ ((0 + Int.toNat (↑k : Int) * 14) + 3) < List.length (flatV (List.map vRul rs)) ∧ 0 ≤ (↑k : Int) ∧ (↑k : Int) < (↑n : Int) ∧ ((0 + Int.toNat (↑k : Int) * 14) + 4) < List.length (List.set (flatV (List.map vRul rs)) (((0 + Int.toNat (↑k : Int) * 14) + 3)) (D.v (vIs (mkR nm f t [x1, x2] [y1, y2]).give))) ∧ (True ∧ (some [D.arr 2 0 n] = some [D.arr 2 0 n] ∧ some [D.arr 2 0 n] = some [D.arr 2 0 n] ∧ True) ∧ True ∧ (some [D.v (vIs (mkR nm f t [x1, x2] [y1, y2]).need)] = some [D.v (vIs (mkR nm f t [x1, x2] [y1, y2]).need)] ∧ some [D.v (vIs (mkR nm f t [x1, x2] [y1, y2]).need)] = some [D.v (vIs (mkR nm f t [x1, x2] [y1, y2]).need)] ∧ True) ∧ True) ∧ di (IntKind.wrap IntKind.i64 ((↑k : Int) + 1)) = di (↑(k + 1) : Int) ∧ okH 4 [] [some (cDz l a), some zM, some (List.set (List.set (flatV (List.map vRul rs)) (((0 + Int.toNat (↑k : Int) * 14) + 3)) (D.v (vIs (mkR nm f t [x1, x2] [y1, y2]).give))) (((0 + Int.toNat (↑k : Int) * 14) + 4)) (D.v (vIs (mkR nm f t [x1, x2] [y1, y2]).need))), some (cMe S Pl (D.arr 2 0 n) c)] = true ∧ [some (cDz l a), some zM, some (List.set (List.set (flatV (List.map vRul rs)) (((0 + Int.toNat (↑k : Int) * 14) + 3)) (D.v (vIs (mkR nm f t [x1, x2] [y1, y2]).give))) (((0 + Int.toNat (↑k : Int) * 14) + 4)) (D.v (vIs (mkR nm f t [x1, x2] [y1, y2]).need))), some (cMe S Pl (D.arr 2 0 n) c)] = [some (cDz l a), some zM, some (flatV (List.map vRul (List.set rs k (mkR nm f t [y1, y2] [x1, x2])))), some (cMe S Pl (D.arr 2 0 n) c)] ∧ Nv.It (RunC (CN 1) PP (fun env σ1 => ResOK PP fStd env σ1 (dMod m) (dz l a)) [KI.lp (sub cStd [1, 1, 0, 1, 0, 0]), KI.blk 0, KI.code (sub cStd [1, 1, 1])] (mkE 62 [(2, D.ptr 1 0), (3, D.ptr 3 0), (4, di (↑(k + 1) : Int))]) (stT l a S Pl n c (List.set rs k (mkR nm f t [y1, y2] [x1, x2]))))) = _) ?_
        rw [wrap_succ (by omega), e0]
        refine ⟨decide_eq_true (by omega), rfl, by omega, by omega, hln, hat, ?_⟩
        rw [show ((flatV (rs.map vRul)).set (k * 14 + 3) (D.v (vIs (mkR nm f t [x1, x2] [y1, y2]).give))).set (k * 14 + 4) (D.v (vIs (mkR nm f t [x1, x2] [y1, y2]).need)) = flatV ((rs.set k (mkR nm f t [y1, y2] [x1, x2])).map vRul) from flatR_set hr]
        repeat' first | with_reducible refine And.intro ?_ ?_
        all_goals first | exact ⟨m2⟩ | exact okS _ | exact hg | rfl | decide | omega | (rw [List.length_set]; omega)
      · obtain ⟨m, m1, m2⟩ := ih (k + 1) rs (by omega) hrs hm
        refine ⟨m, m1, ?_⟩
        refine loop_vc mixed 62 [] (.t <| .m (.arr 2 0 n) <| .m (dRul (mkR nm f t [x1, x2] [y1, y2])) <| .n <| .x (vi x1) <| .x (vi y1) <| .n <| .t <| .x (vi x2) <| .x (vi y2) <| .n <| .f <| .f <| .lo [ke 2, ke 3, ch 4 (di (k + 1 : Nat))] (stT l a S Pl n c rs)) ?_
        refine via (by kernel_rfl : (decide ((↑k : Int) < (↑n : Int)) = true ∧ some (D.arr 2 0 n) = some (D.arr 2 0 n) ∧ 0 ≤ (↑k : Int) ∧ (↑k : Int) < (↑n : Int) ∧ 0 + Int.toNat (↑k : Int) * 14 + 14 ≤ List.length (flatV (List.map vRul rs)) ∧ List.take 14 (List.drop (0 + Int.toNat (↑k : Int) * 14) (flatV (List.map vRul rs))) = [D.v (V.str (mkR nm f t [x1, x2] [y1, y2]).name), di (mkR nm f t [x1, x2] [y1, y2]).frm, di (mkR nm f t [x1, x2] [y1, y2]).to, D.v (vIs (mkR nm f t [x1, x2] [y1, y2]).need), D.v (vIs (mkR nm f t [x1, x2] [y1, y2]).give), D.v (vIs (mkR nm f t [x1, x2] [y1, y2]).move), di (mkR nm f t [x1, x2] [y1, y2]).chan, di (mkR nm f t [x1, x2] [y1, y2]).act, di (mkR nm f t [x1, x2] [y1, y2]).letter, D.v (vIs (mkR nm f t [x1, x2] [y1, y2]).path), D.v (vIs (mkR nm f t [x1, x2] [y1, y2]).next), D.v (vTks (mkR nm f t [x1, x2] [y1, y2]).takes), D.v (vIs (mkR nm f t [x1, x2] [y1, y2]).makes), di (mkR nm f t [x1, x2] [y1, y2]).second] ∧ iz 0 ≤ 0 ∧ some (vi x1) = some (vi x1) ∧ iz 0 ≤ 0 ∧ some (vi y1) = some (vi y1) ∧ (True ∧ True ∧ True) ∧ decide (IntKind.wrap IntKind.i64 (0 + 1) < (↑(List.length (List.map vi (mkR nm f t [x1, x2] [y1, y2]).need)) : Int)) = true ∧ 0 ≤ IntKind.wrap IntKind.i64 (0 + 1) ∧ some (vi x2) = some (vi x2) ∧ 0 ≤ IntKind.wrap IntKind.i64 (0 + 1) ∧ some (vi y2) = some (vi y2) ∧ (True ∧ True ∧ True) ∧ decide (IntKind.wrap IntKind.i64 (IntKind.wrap IntKind.i64 (0 + 1) + 1) < (↑(List.length (List.map vi (mkR nm f t [x1, x2] [y1, y2]).need)) : Int)) = false ∧ decide (IntKind.wrap IntKind.i64 (IntKind.wrap IntKind.i64 (0 + y1) + y2) > IntKind.wrap IntKind.i64 (IntKind.wrap IntKind.i64 (0 + x1) + x2)) = false ∧ di (IntKind.wrap IntKind.i64 ((↑k : Int) + 1)) = di (↑(k + 1) : Int) ∧ okH 4 [] [some (cDz l a), some zM, some (flatV (List.map vRul rs)), some (cMe S Pl (D.arr 2 0 n) c)] = true ∧ [some (cDz l a), some zM, some (flatV (List.map vRul rs)), some (cMe S Pl (D.arr 2 0 n) c)] = [some (cDz l a), some zM, some (flatV (List.map vRul rs)), some (cMe S Pl (D.arr 2 0 n) c)] ∧ Nv.It (RunC (CN 1) PP (fun env σ1 => ResOK PP fStd env σ1 (dMod m) (dz l a)) [KI.lp (sub cStd [1, 1, 0, 1, 0, 0]), KI.blk 0, KI.code (sub cStd [1, 1, 1])] (mkE 62 [(2, D.ptr 1 0), (3, D.ptr 3 0), (4, di (↑(k + 1) : Int))]) (stT l a S Pl n c rs))) = _) ?_
        rw [wrap_succ (by omega)]
        refine ⟨decide_eq_true (by omega), rfl, by omega, by omega, by rw [e0]; exact hln, by rw [e0]; exact hat, ?_⟩
        repeat' first | with_reducible refine And.intro ?_ ?_
        all_goals first | exact ⟨m2⟩ | exact okS _ | exact eq_false_of_ne_true hg | rfl | decide | omega
theorem rens_mv (ρ τ : Nat → Nat) : ∀ l : List V, D.rens ρ τ (l.map .v) = l.map .v
  | [] => rfl
  | x :: l => by simp only [List.map_cons, D.rens, D.ren, rens_mv ρ τ l]
theorem steady_ex (l : List UInt8) (hl : l.length ≤ 200) (a : Nat) (ha : a ≤ l.length) :
    ∃ (m : Mod) (a' : Nat), MadeC m ∧ a' ≤ l.length ∧ FSpec PP 7 [.ptr 0 0] (dz l a) (dMod m) (dz l a') := by
  obtain ⟨S, Pl, rs, c, a1, h1, h2, h3⟩ := ctrA_ex l hl a ha
  obtain ⟨m, m1, m2⟩ := std_loop l a1 S Pl c rs.length h1.count _ 0 rs rfl rfl h1
  refine ⟨m, a1, m1, h2, ?_⟩
  refine spec_vc mixed fStd cStd (by kernel_rfl) (by kernel_rfl) (by kernel_rfl) (by kernel_rfl) 62 (by kernel_rfl) [] (.h (.oc (.dagg (cMe S Pl (.arr 2 0 rs.length) c)) ⟨[some (cDz l a1), some zM, some (flatV (rs.map vRul))], []⟩) <| .lo [ke 2, ke 3, ch 4 (di (0 : Nat))] (stT l a1 S Pl rs.length c rs)) ?_
  refine via (by kernel_rfl : ((∀ (o : Oper) (c_1 : Call) (fo : Operand), o.op = Op.call c_1 → c_1.callee = Callee.value fo → OpOK PP o [D.v (V.fn 13 [] []), D.ptr 0 0, db false] (St.mk [some (cDz l a), some [di 0, D.v V.nils, D.v V.nils, D.v V.nils, D.v V.nils, di 0, di 0, D.v V.nils, di 0, D.v V.nils]] []) (D.dagg (cMe S Pl (D.arr 2 0 (List.length rs)) c)) (St.mk [some (cDz l a1), some zM, some (flatV (List.map vRul rs))] [])) ∧ di 0 = di (↑0 : Int) ∧ okH 4 [] [some (cDz l a1), some zM, some (flatV (List.map vRul rs)), some [di 1, D.v (vSs S), D.v (vSs Pl), D.v V.nils, D.v V.nils, di 0, di 0, D.arr 2 0 (List.length rs), di (Val.n c), dVs (Val.kids c)]] = true ∧ [some (cDz l a1), some zM, some (flatV (List.map vRul rs)), some [di 1, D.v (vSs S), D.v (vSs Pl), D.v V.nils, D.v V.nils, di 0, di 0, D.arr 2 0 (List.length rs), di (Val.n c), dVs (Val.kids c)]] = [some (cDz l a1), some zM, some (flatV (List.map vRul rs)), some (cMe S Pl (D.arr 2 0 (List.length rs)) c)] ∧ Nv.It (RunC (CN (List.length (dz l a).H)) PP (fun env σ1 => ResOK PP fStd env σ1 (dMod m) (dz l a1)) [KI.lp (sub cStd [1, 1, 0, 1, 0, 0]), KI.blk 0, KI.code (sub cStd [1, 1, 1])] (mkE 62 [(2, D.ptr 1 0), (3, D.ptr 3 0), (4, di (↑0 : Int))]) (stT l a1 S Pl (List.length rs) c rs))) = _) ?_
  refine ⟨fun o cl fo ho hc => ?_, rfl, ?_, rfl, ⟨m2⟩⟩
  · have h := op_callG (σ := ⟨[some (cDz l a), some zM], []⟩) ho hc (fD := .v (.fn 13 [] [])) rfl (ds := [.ptr 0 0, db false]) [0] id h3 (.cons (.ren (dc := .ptr 0 0) rfl) (.cons (.ren (dc := db false) rfl) .nil))
      (.cons rfl (.cons (.ren (dc := .v (vBs l)) rfl) (.cons (.ren (dc := di a) rfl) .nil)) (by rfl) .nil) (by simp) rfl (by simp) (by simp) (by simp [D.okN, D.okNs]) (by simp [okH, D.okNs, D.okN, flatV, okNs_mv])
    have e1 : D.rens (rho 2 [0]) id (flatV (rs.map vRul)) = flatV (rs.map vRul) := rens_mv _ _ _
    simp [renH, backH, renOwn, D.ren, D.rens, e1, rho] at h
    exact h
  · have : D.okNs 4 [] (flatV (rs.map vRul)) = true := okNs_mv _ _ _
    simp [okH, D.okNs, D.okN, this]
end Go.Proofs.YtdfdemnbaiieaaaGreat

namespace Go.Proofs.YtdfdemnbaiieaaaGreat
open Go.Dv Go.Nv
set_option maxRecDepth 20000
theorem any_mem (l : List Val) (v : Val) : (l.any fun x => cmpV x v == 0) = true ↔ v ∈ l := by
  rw [List.any_eq_true]
  constructor
  · rintro ⟨x, hx, h⟩
    rw [beq_iff_eq, cmpV_eq] at h
    exact h ▸ hx
  · intro h
    exact ⟨v, h, by rw [beq_iff_eq]; exact cmpV_eq.2 rfl⟩
theorem idxV_mem (l : List Val) (v : Val) : idxV l v ≥ 0 ↔ v ∈ l := by
  have h := ixM_any (fun x => cmpV x v == 0) l 0
  rw [← any_mem, ← h, decide_eq_true_eq]; rfl
/-- what is expanded -/
structure ExpI (m : Mod) (h : Hnt) (n : Nat) : Prop where
  start : m.start ∈ h.found
  nodup : h.found.Nodup
  exp : ∀ i v, i < n → h.found[i]? = some v → (stepsM m v).2 = 0 ∧ ∀ s ∈ (stepsM m v).1, s.2 ∈ h.found
theorem findL_exp {m : Mod} (c : Val) (at' : Int) (n : Nat) : ∀ (l : List Stp) (h : Hnt), ExpI m h n → n ≤ h.found.length → ExpI m (findL c at' h l).1 n ∧ (∃ t, (findL c at' h l).1.found = h.found ++ t) ∧ ((findL c at' h l).2.1.decided = false → (findL c at' h l).2.2 = 0 → ∀ s ∈ l, s.2 ∈ (findL c at' h l).1.found)
  | [], h, hh, _ => ⟨hh, ⟨[], by simp [findL]⟩, fun _ _ s hs => by simp at hs⟩
  | s :: l, h, hh, hn => by
    rw [findL]
    split
    · rename_i h1
      have h1 := (idxV_mem h.found s.2).1 (of_decide_eq_true h1)
      obtain ⟨g1, ⟨t, g2⟩, g3⟩ := findL_exp c at' n l h hh hn
      refine ⟨g1, ⟨t, g2⟩, fun d e s' hs' => ?_⟩
      rcases List.mem_cons.1 hs' with rfl | hs'
      · rw [g2]; exact List.mem_append_left _ h1
      · exact g3 d e s' hs'
    · rename_i h1
      have h1 : s.2 ∉ h.found := fun hm => h1 (decide_eq_true ((idxV_mem h.found s.2).2 hm))
      have hi : ExpI m (addH h at' s) n := ⟨List.mem_append_left _ hh.start, List.nodup_append.2 ⟨hh.nodup, by simp, fun a ha b hb => by rw [List.mem_singleton.1 hb]; exact fun e => h1 (e ▸ ha)⟩, fun i v hi hv => by
        have hv : (h.found ++ [s.2])[i]? = some v := hv
        rw [List.getElem?_append_left (by omega)] at hv
        obtain ⟨a1, a2⟩ := hh.exp i v hi hv
        exact ⟨a1, fun s hs => List.mem_append_left _ (a2 s hs)⟩⟩
      have hn2 : n ≤ (addH h at' s).found.length := by show n ≤ (h.found ++ [s.2]).length; rw [List.length_append]; omega
      split
      · exact ⟨hh, ⟨[], by simp⟩, fun _ e => by cases e⟩
      · split
        · obtain ⟨g1, ⟨t, g2⟩, g3⟩ := findL_exp c at' n l _ hi hn2
          refine ⟨g1, ⟨s.2 :: t, by rw [g2]; simp [addH]⟩, fun d e s' hs' => ?_⟩
          rcases List.mem_cons.1 hs' with rfl | hs'
          · rw [g2]; simp [addH]
          · exact g3 d e s' hs'
        · split
          · exact ⟨hi, ⟨[s.2], rfl⟩, fun _ e => by cases e⟩
          · exact ⟨hi, ⟨[s.2], rfl⟩, fun d => by cases d⟩
theorem findL_next (c : Val) (at' : Int) : ∀ (l : List Stp) (h : Hnt), (findL c at' h l).1.next = h.next
  | [], _ => rfl
  | s :: l, h => by
    rw [findL]
    split
    · exact findL_next c at' l h
    · split
      · rfl
      · split
        · exact findL_next c at' l _
        · split <;> rfl
theorem findM_exp {m : Mod} (c : Val) (h : Hnt) (hh : ExpI m h h.next.toNat) (hn : 0 ≤ h.next ∧ h.next ≤ h.found.length) : ((findM m c h).2.2 = 0 → (findM m c h).2.1.decided = false → ExpI m (findM m c h).1 (findM m c h).1.next.toNat ∧ 0 ≤ (findM m c h).1.next ∧ (findM m c h).1.next ≤ (findM m c h).1.found.length) := by
  rw [findM]
  split
  · exact fun _ _ => ⟨hh, hn⟩
  · rename_i h1
    have h1 : ¬ h.next ≥ (h.found.length : Int) := by simpa using h1
    obtain ⟨v, hv⟩ : ∃ v, h.found[h.next.toNat]? = some v := ⟨_, List.getElem?_eq_getElem (show h.next.toNat < h.found.length by omega)⟩
    rw [show h.found.getD h.next.toNat default = v by rw [List.getD_eq_getElem?_getD, hv]; rfl]
    split
    · rename_i h2
      intro h3
      rw [show (stepsM m v).2 = 0 from h3] at h2; cases h2
    · rename_i h2
      have h2 : (stepsM m v).2 = 0 := by simpa using h2
      intro he hd
      obtain ⟨g1, ⟨t, g2⟩, g3⟩ := findL_exp c h.next h.next.toNat (stepsM m v).1 ⟨h.found, h.before, h.rules, h.next + 1, h.cand, h.used⟩ ⟨hh.start, hh.nodup, hh.exp⟩ (by show h.next.toNat ≤ h.found.length; omega)
      have g4 := findL_next c h.next (stepsM m v).1 ⟨h.found, h.before, h.rules, h.next + 1, h.cand, h.used⟩
      have g5 := g3 hd he
      rw [g4]
      refine ⟨⟨g1.start, g1.nodup, fun i x hi hx => ?_⟩, by show 0 ≤ h.next + 1; omega, by rw [g2]; show h.next + 1 ≤ ((h.found ++ t).length : Int); rw [List.length_append]; omega⟩
      have hi : i < (h.next + 1).toNat := hi
      by_cases hin : i < h.next.toNat
      · exact g1.exp i x hin hx
      · have hie : i = h.next.toNat := by omega
        subst hie
        rw [g2] at hx
        have hx : (h.found ++ t)[h.next.toNat]? = some x := hx
        rw [List.getElem?_append_left (by omega), hv] at hx
        cases hx
        exact ⟨h2, g5⟩
/-- a verdict's list is the whole of what is reached -/
def TellC (m : Mod) (v : Vrd) : Prop := v.closed ≠ [] → v.coefs = [] ∧ ∃ F : List Val, v.closed = sortV F ∧ m.start ∈ F ∧ F.Nodup ∧ F.length ≤ 128 ∧ (∀ x ∈ F, CfgOK m x) ∧ ∀ x ∈ F, (stepsM m x).2 = 0 ∧ ∀ s ∈ (stepsM m x).1, s.2 ∈ F
theorem findL_cl (c : Val) (at' : Int) : ∀ (l : List Stp) (h : Hnt), (findL c at' h l).2.1.closed = []
  | [], _ => rfl
  | s :: l, h => by
    rw [findL]
    split
    · exact findL_cl c at' l h
    · split
      · rfl
      · split
        · exact findL_cl c at' l _
        · split <;> rfl
theorem findM_cl (m : Mod) (c : Val) (h : Hnt) : (findM m c h).2.1.closed = [] := by
  rw [findM]
  split
  · rfl
  · split
    · rfl
    · exact findL_cl _ _ _ _
theorem exclM_cl (m : Mod) (c : Val) (h : Hnt) : (exclM m c h).2.closed = [] := by
  rw [exclM]
  split
  · split
    · split <;> rfl
    · rfl
  · rfl
theorem stepH_exp {m : Mod} (hm : PlC m) (c : Val) {k : Nat} {h : Hnt} (hb : HnB m k h) (hh : ExpI m h h.next.toNat) (hn : h.next ≤ h.found.length) : TellC m (stepH m c h).2.1 ∧ ((stepH m c h).2.2 = 0 → (stepH m c h).2.1.decided = false → ExpI m (stepH m c h).1 (stepH m c h).1.next.toNat ∧ (stepH m c h).1.next ≤ (stepH m c h).1.found.length) := by
  obtain ⟨g1, g2, g3, g4, g5⟩ := findM_ok hm c (usedH h) hb.inv.use hb.next.1
  have ge := findM_exp c (usedH h) (m := m) ⟨hh.start, hh.nodup, hh.exp⟩ ⟨hb.next.1, hn⟩
  have gc := findM_cl m c (usedH h)
  rw [stepH]
  split
  · exact ⟨fun h => absurd rfl h, fun _ hd => by cases hd⟩
  · split
    · rename_i he
      exact ⟨fun h => absurd rfl h, fun h0 => by rw [show (findM m c (usedH h)).2.2 = 0 from h0] at he; cases he⟩
    · rename_i he
      have he : (findM m c (usedH h)).2.2 = 0 := by simpa using he
      split
      · rename_i hd
        exact ⟨fun h => absurd gc h, fun _ h2 => by rw [show (findM m c (usedH h)).2.1.decided = false from h2] at hd; cases hd⟩
      · rename_i hd
        obtain ⟨e1, e2, e3⟩ := ge he (eq_false_of_ne_true hd)
        split
        · rename_i hx
          have hx := of_decide_eq_true hx
          refine ⟨fun _ => ⟨rfl, (findM m c (usedH h)).1.found, rfl, e1.start, e1.nodup, g1.ok.len, g1.cfg, fun x hx2 => ?_⟩, fun _ h2 => by cases h2⟩
          obtain ⟨i, hi⟩ := List.getElem?_of_mem hx2
          exact e1.exp i x (by have := (List.getElem?_eq_some_iff.1 hi).1; omega) hi
        · refine ⟨fun h => absurd (exclM_cl m c _) h, fun _ _ => ?_⟩
          rcases exclM_h m c (findM m c (usedH h)).1 with e | e
          · dsimp only; rw [e]; exact ⟨e1, e3⟩
          · dsimp only; rw [e]; exact ⟨⟨e1.start, e1.nodup, e1.exp⟩, e3⟩
theorem decL_tellC {m : Mod} (hm : PlC m) (c : Val) : ∀ (n k : Nat) (h : Hnt) (v : Vrd), HnB m k h → (v.decided = false → ExpI m h h.next.toNat ∧ h.next ≤ h.found.length) → TellC m v → TellC m (decL m c n h v).1
  | 0, _, _, _, _, _, hv => hv
  | n + 1, k, h, v, hb, hx, hv => by
    rw [decL]
    split
    · exact hv
    · rename_i hd
      obtain ⟨x1, x2⟩ := hx (eq_false_of_ne_true hd)
      obtain ⟨s1, s2⟩ := stepH_exp hm c hb x1 x2
      split
      · exact fun h => absurd rfl h
      · rename_i he
        exact decL_tellC hm c n (k + 1) _ _ (stepH_ok hm c hb) (s2 (by simpa using he)) s1
theorem decM_tellC {m : Mod} (hm : PlC m) (c : Val) (n : Nat) : TellC m (decM m c n).1 := decL_tellC hm c n 0 _ _ (hnt0_ok hm) (fun _ => ⟨⟨by simp [hnt0], by simp [hnt0], fun i v hi => by simp [hnt0] at hi⟩, by simp [hnt0]⟩) (fun h => absurd rfl h)
/-- neighbours of the sorted list -/
theorem sortV_lt {F : List Val} (hn : F.Nodup) {i : Nat} {a b : Val} (ha : (sortV F)[i]? = some a) (hb : (sortV F)[i + 1]? = some b) : cmpV a b < 0 := by
  have hs := List.pairwise_iff_getElem.1 (sortV_sorted F)
  have hd := List.pairwise_iff_getElem.1 ((sortV_perm F).nodup_iff.2 hn)
  obtain ⟨h1, rfl⟩ := List.getElem?_eq_some_iff.1 ha
  obtain ⟨h2, rfl⟩ := List.getElem?_eq_some_iff.1 hb
  have a1 := of_decide_eq_true (hs i (i + 1) h1 h2 (by omega))
  have a2 := hd i (i + 1) h1 h2 (by omega)
  have a3 : cmpV (sortV F)[i] (sortV F)[i + 1] ≠ 0 := fun e => a2 (cmpV_eq.1 e)
  omega
end Go.Proofs.YtdfdemnbaiieaaaGreat
