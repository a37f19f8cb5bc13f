/-
  Law ReachAtoms: the atom that excludes holds at what is reached: walked.
-/
import Derived.Test.YtdfdemnbaiieaaaGreatEi
namespace Go.Proofs.YtdfdemnbaiieaaaGreat
open Go.Dv Go.Nv
set_option maxRecDepth 20000
/- WHAT AN ATOM SAYS OF A RUN -/
theorem sumM_eff : ∀ (cs ys ns gs : List Int), ns.length = ys.length → gs.length = ys.length → sumM cs (List.zipWith (fun w g => w + g) (List.zipWith (fun y n => y - n) ys ns) gs) = sumM cs ys + (sumM cs gs - sumM cs ns)
  | [], _, _, _, _, _ => by simp [sumM]
  | c :: cs, [], ns, gs, h1, h2 => by
    obtain rfl := List.length_eq_zero_iff.1 (show ns.length = 0 by simpa using h1)
    obtain rfl := List.length_eq_zero_iff.1 (show gs.length = 0 by simpa using h2)
    simp [sumM]
  | c :: cs, y :: ys, [], gs, h1, _ => by simp at h1
  | c :: cs, y :: ys, n :: ns, [], _, h2 => by simp at h2
  | c :: cs, y :: ys, n :: ns, g :: gs, h1, h2 => by
    have ih := sumM_eff cs ys ns gs (by simpa using h1) (by simpa using h2)
    simp only [List.zipWith_cons_cons, sumM, ih]
    rw [Int.mul_add, Int.mul_sub]; omega
theorem hld_step {m : Mod} (hm : PlC m) {a : Atm} (ha : AtmOK m a) (hcl : ∀ r ∈ m.rules, clsB a r = false) {c : Val} (hc : CfgOK m c) {s : Stp} (hs : StepOK m c s) (h : hldB a c = true) : hldB a s.2 = true := by
  obtain ⟨i, r, h1, h2, h3, h4, h5⟩ := hs.rule
  have hrm := List.mem_of_getElem? h2
  have hro := hm.rule hrm
  have hb := hcl r hrm
  have hsum : sumM a.coefs (afterM r (nmV c)) = sumM a.coefs (nmV c) + effM a.coefs r := by
    rw [afterM, subM, sumM_eff _ _ _ _ (by rw [hro.needL, hc.len]) (by rw [hro.giveL, hc.len]), effM]
  rw [hldB, h4, stV_cfg, nmV_cfg, hsum]
  rw [hldB, h3] at h
  rw [clsB] at hb
  generalize a.vals.getD r.frm.toNat 0 = v at *
  generalize a.vals.getD r.to.toNat 0 = u at *
  have hv : (v == OMG) = false := by
    cases hv : v == OMG with
    | false => rfl
    | true => rw [folB, if_pos hv] at h; cases h
  rw [hv, Bool.not_false, Bool.true_and, Bool.not_eq_false'] at hb
  rw [folB, if_neg (by rw [hv]; decide)] at h
  rw [folB] at hb ⊢
  split at hb
  · cases hb
  · rename_i hu
    rw [if_neg hu]
    split at hb
    · rename_i hz
      rw [if_pos hz] at h ⊢
      have h := of_decide_eq_true h
      have hb := of_decide_eq_true hb
      exact decide_eq_true (by omega)
    · rename_i hz
      rw [if_neg hz] at h ⊢
      simp only [beq_iff_eq] at h hb ⊢
      rw [← hb, ← h, Int.emod_add_emod]
theorem hld_run {m : Mod} (hm : PlC m) {a : Atm} (ha : AtmOK m a) (hcl : clsM m a = 0) {d : Val} {l : List Stp} (h : RunM m m.start l d) : hldB a d = true := by
  have hb : hldB a m.start = true := by
    cases hb : hldB a m.start with
    | true => rfl
    | false => rw [clsM, hb] at hcl; cases hcl
  rw [clsM, hb, if_pos rfl] at hcl
  have hany : m.rules.any (clsB a) = false := by
    cases hany : m.rules.any (clsB a) with
    | false => rfl
    | true => rw [hany] at hcl; cases hcl
  induction h with
  | nil => exact hb
  | snoc h1 h2 h3 ih =>
    have hd := RunM.ok hm hm.start h1
    exact hld_step hm ha (fun r hr => by simpa using List.any_eq_false.1 hany r hr) hd ((stepsM_or hm hd).2.2 _ h3) ih
/- WHAT DECIDE TELLS -/
/-- a verdict that is not a run and names no list is an atom that excludes -/
def TellA (m : Mod) (c : Val) (v : Vrd) : Prop := v.decided = true → v.yes = false → v.closed = [] → AtmOK m ⟨v.coefs, v.mod, v.vals⟩ ∧ excB m ⟨v.coefs, v.mod, v.vals⟩ c = true
theorem findL_tell (m : Mod) (c x : Val) (at' : Int) : ∀ (l : List Stp) (h : Hnt), TellA m c (findL x at' h l).2.1
  | [], h => fun h1 => by cases h1
  | s :: l, h => by
    rw [findL]
    split
    · exact findL_tell m c x at' l h
    · split
      · exact fun h1 => by cases h1
      · split
        · exact findL_tell m c x at' l _
        · split
          · exact fun h1 => by cases h1
          · exact fun _ h2 => by cases h2
theorem findM_tell (m : Mod) (c : Val) (h : Hnt) : TellA m c (findM m c h).2.1 := by
  rw [findM]
  split
  · exact fun h1 => by cases h1
  · split
    · exact fun h1 => by cases h1
    · exact findL_tell m c c _ _ _
theorem exclM_tell {m : Mod} (hm : PlC m) (c : Val) (h : Hnt) (hn : 0 ≤ h.cand) : TellA m c (exclM m c h).2 := by
  have hco := cndM_ok hm hn
  rw [exclM]
  generalize cndM m.places.length h.cand = k at *
  obtain ⟨cs, md, ok⟩ := k
  cases ok with
  | false => exact fun h1 => by cases h1
  | true =>
    have hco := hco rfl
    have hpk : ∀ vals, potM m cs md = some vals → AtmOK m ⟨cs, md, vals⟩ := fun vals h => potM_ok hm hco h
    dsimp only
    generalize potM m cs md = o at *
    cases o with
    | none => exact fun h1 => by cases h1
    | some vals =>
      dsimp only
      split
      · rename_i hx; exact fun _ _ _ => ⟨hpk vals rfl, hx⟩
      · exact fun h1 => by cases h1
theorem stepH_tell {m : Mod} (hm : PlC m) (c : Val) {k : Nat} {h : Hnt} (hb : HnB m k h) : TellA m c (stepH m c h).2.1 := by
  obtain ⟨g1, g2, g3, g4, g5⟩ := findM_ok hm c (usedH h) hb.inv.use hb.next.1
  rw [stepH]
  split
  · exact fun _ h2 => by cases h2
  · split
    · exact fun h1 => by cases h1
    · split
      · exact findM_tell m c (usedH h)
      · split
        · intro _ _ h3
          have h3 : sortV (findM m c (usedH h)).1.found = [] := h3
          have hp := sortV_perm (findM m c (usedH h)).1.found
          rw [h3] at hp
          exact absurd hp.symm.eq_nil g1.ok.ne
        · exact exclM_tell hm c _ (by rw [g2]; exact hb.cand.1)
theorem decL_tell {m : Mod} (hm : PlC m) (c : Val) : ∀ (n k : Nat) (h : Hnt) (v : Vrd), HnB m k h → TellA m c v → TellA m c (decL m c n h v).1
  | 0, _, _, _, _, hv => hv
  | n + 1, k, h, v, hb, hv => by
    rw [decL]
    split
    · exact hv
    · split
      · exact fun h1 => by cases h1
      · exact decL_tell hm c n (k + 1) _ _ (stepH_ok hm c hb) (stepH_tell hm c hb)
theorem decM_tell {m : Mod} (hm : PlC m) (c : Val) (n : Nat) : TellA m c (decM m c n).1 := decL_tell hm c n 0 _ _ (hnt0_ok hm) (fun h1 => by cases h1)
/- THE LAW -/
noncomputable abbrev fAtms : Func := Tryz.f4
noncomputable def cAtms : Code := fAtms.body.getD .skip
theorem op_new (s : List UInt8) {o : Oper} {c : Call} {fo : Operand} (ho : o.op = .call c) (hc : c.callee = .value fo) : OpOK PP o [.v (.fn 6 [] []), .v (vBs s)] σ0 (.ptr 0 0) (dz (s.take 200) 0) := by
  have := op_callG (σ := σ0) ho hc (fD := .v (.fn 6 [] [])) rfl (ds := [.v (vBs s)]) [] id (new_spec s) (.cons (.ren (dc := .v (vBs s)) rfl) .nil) .nil (by simp) rfl (by simp) (by simp) rfl (by rfl)
  simp [renH, backH, renOwn, D.ren, D.rens, rho] at this
  exact this
theorem atoms_spec (s : List UInt8) : FSpec PP 4 [.v (vBs s)] σ0 (db true) σ0 := by
  obtain ⟨l, hl⟩ : ∃ l, l = s.take 200 := ⟨_, rfl⟩
  have hll : l.length ≤ 200 := by rw [hl, List.length_take]; omega
  have hnew := fun (o : Oper) (c : Call) (fo : Operand) (ho : o.op = .call c) (hc : c.callee = .value fo) => hl ▸ op_new s ho hc
  obtain ⟨m, a1, hmk, m2, m3⟩ := ctr_ex l hll 0 (Nat.zero_le _)
  have hm := hmk.plc
  obtain ⟨c, a2, hc, c2, c3⟩ := dcfg_ex m hm l hll a1 m2
  obtain ⟨d, run, a3, d1, d2, d3, d4⟩ := near_ex m hm l hll a2 c2 6 (by decide)
  have hdc := dcd_spec m hm c hc 40 (by decide)
  have htl := decM_tell hm c 40
  generalize decM m c 40 = p at *
  obtain ⟨v, e⟩ := p
  dsimp only at hdc htl
  by_cases he : (e != 0) = true
  · refine spec_vc mixed fAtms cAtms (by kernel_rfl) (by kernel_rfl) (by kernel_rfl) (by kernel_rfl) 94 (by kernel_rfl) [] (.c (db true) <| .h (.oc (.ptr 0 0) (dz l 0)) <| .c1 (cDz l a1) (dMod m) <| .c1 (cDz l a2) (dV c) <| .c (dDec (v, e)) <| .t .r) ?_
    refine via (by kernel_rfl : (FSpec PP 5 [] (St.mk [] []) (db true) (St.mk [] []) ∧ (∀ (o : Oper) (c : Call) (fo : Operand), o.op = Op.call c → c.callee = Callee.value fo → OpOK PP o [D.v (V.fn 6 [] []), D.v (vBs s)] σ0 (D.ptr 0 0) (dz l 0)) ∧ FSpec PP 13 [D.ptr 0 0, db false] (St.mk [some (cDz l 0)] []) (dMod m) (St.mk [some (cDz l a1)] []) ∧ FSpec PP 9 [D.ptr 0 0, D.v (V.agg [vi m.kind, vSs m.states, vSs m.places, vSs m.letters, vIs m.ranks, vi m.levels, vi m.age, vRuls m.rules, vi (Val.n m.start), vVs (Val.kids m.start)])] (St.mk [some (cDz l a1)] []) (dV c) (St.mk [some (cDz l a2)] []) ∧ FSpec PP 8 [D.v (V.agg [vi m.kind, vSs m.states, vSs m.places, vSs m.letters, vIs m.ranks, vi m.levels, vi m.age, vRuls m.rules, vi (Val.n m.start), vVs (Val.kids m.start)]), D.v (V.agg [vi (Val.n c), vVs (Val.kids c)]), di 40] (St.mk [] []) (dDec (v, e)) (St.mk [] []) ∧ ((v, e).snd != 0) = true ∧ db true = db true) = _) ?_
    exact ⟨sane_spec, hnew, m3, c3, hdc, he, rfl⟩
  · have he2 : e = 0 := by simpa using he
    subst he2
    cases h1 : v.decided with
    | false =>
      refine spec_vc mixed fAtms cAtms (by kernel_rfl) (by kernel_rfl) (by kernel_rfl) (by kernel_rfl) 94 (by kernel_rfl) [] (.c (db true) <| .h (.oc (.ptr 0 0) (dz l 0)) <| .c1 (cDz l a1) (dMod m) <| .c1 (cDz l a2) (dV c) <| .c (dDec (v, 0)) <| .k <| .t .r) ?_
      refine via (by kernel_rfl : (FSpec PP 5 [] (St.mk [] []) (db true) (St.mk [] []) ∧ (∀ (o : Oper) (c : Call) (fo : Operand), o.op = Op.call c → c.callee = Callee.value fo → OpOK PP o [D.v (V.fn 6 [] []), D.v (vBs s)] σ0 (D.ptr 0 0) (dz l 0)) ∧ FSpec PP 13 [D.ptr 0 0, db false] (St.mk [some (cDz l 0)] []) (dMod m) (St.mk [some (cDz l a1)] []) ∧ FSpec PP 9 [D.ptr 0 0, D.v (V.agg [vi m.kind, vSs m.states, vSs m.places, vSs m.letters, vIs m.ranks, vi m.levels, vi m.age, vRuls m.rules, vi (Val.n m.start), vVs (Val.kids m.start)])] (St.mk [some (cDz l a1)] []) (dV c) (St.mk [some (cDz l a2)] []) ∧ FSpec PP 8 [D.v (V.agg [vi m.kind, vSs m.states, vSs m.places, vSs m.letters, vIs m.ranks, vi m.levels, vi m.age, vRuls m.rules, vi (Val.n m.start), vVs (Val.kids m.start)]), D.v (V.agg [vi (Val.n c), vVs (Val.kids c)]), di 40] (St.mk [] []) (dDec (v, 0)) (St.mk [] []) ∧ (!(v, 0).fst.decided) = true ∧ db true = db true) = _) ?_
      exact ⟨sane_spec, hnew, m3, c3, hdc, by rw [h1]; rfl, rfl⟩
    | true =>
      cases h2 : v.yes with
      | true =>
        refine spec_vc mixed fAtms cAtms (by kernel_rfl) (by kernel_rfl) (by kernel_rfl) (by kernel_rfl) 94 (by kernel_rfl) [] (.c (db true) <| .h (.oc (.ptr 0 0) (dz l 0)) <| .c1 (cDz l a1) (dMod m) <| .c1 (cDz l a2) (dV c) <| .c (dDec (v, 0)) <| .k <| .f <| .t .r) ?_
        refine via (by kernel_rfl : (FSpec PP 5 [] (St.mk [] []) (db true) (St.mk [] []) ∧ (∀ (o : Oper) (c : Call) (fo : Operand), o.op = Op.call c → c.callee = Callee.value fo → OpOK PP o [D.v (V.fn 6 [] []), D.v (vBs s)] σ0 (D.ptr 0 0) (dz l 0)) ∧ FSpec PP 13 [D.ptr 0 0, db false] (St.mk [some (cDz l 0)] []) (dMod m) (St.mk [some (cDz l a1)] []) ∧ FSpec PP 9 [D.ptr 0 0, D.v (V.agg [vi m.kind, vSs m.states, vSs m.places, vSs m.letters, vIs m.ranks, vi m.levels, vi m.age, vRuls m.rules, vi (Val.n m.start), vVs (Val.kids m.start)])] (St.mk [some (cDz l a1)] []) (dV c) (St.mk [some (cDz l a2)] []) ∧ FSpec PP 8 [D.v (V.agg [vi m.kind, vSs m.states, vSs m.places, vSs m.letters, vIs m.ranks, vi m.levels, vi m.age, vRuls m.rules, vi (Val.n m.start), vVs (Val.kids m.start)]), D.v (V.agg [vi (Val.n c), vVs (Val.kids c)]), di 40] (St.mk [] []) (dDec (v, 0)) (St.mk [] []) ∧ (!(v, 0).fst.decided) = false ∧ (v, 0).fst.yes = true ∧ db true = db true) = _) ?_
        exact ⟨sane_spec, hnew, m3, c3, hdc, by rw [h1]; rfl, h2, rfl⟩
      | false =>
        by_cases h3 : v.closed = []
        · obtain ⟨ha, hx⟩ := htl h1 h2 h3
          refine spec_vc mixed fAtms cAtms (by kernel_rfl) (by kernel_rfl) (by kernel_rfl) (by kernel_rfl) 94 (by kernel_rfl) [] (.c (db true) <| .h (.oc (.ptr 0 0) (dz l 0)) <| .c1 (cDz l a1) (dMod m) <| .c1 (cDz l a2) (dV c) <| .c (dDec (v, 0)) <| .k <| .f <| .f <| .f <| .c (.tup [db true, di 0]) <| .c1 (cDz l a3) (.tup [dV d, .v (vSts run)]) <| .c (.tup [db true, di 0]) <| .c (.tup [dV d, di run.length, di 0]) .r) ?_
          refine via (by kernel_rfl : (FSpec PP 5 [] (St.mk [] []) (db true) (St.mk [] []) ∧ (∀ (o : Oper) (c : Call) (fo : Operand), o.op = Op.call c → c.callee = Callee.value fo → OpOK PP o [D.v (V.fn 6 [] []), D.v (vBs s)] σ0 (D.ptr 0 0) (dz l 0)) ∧ FSpec PP 13 [D.ptr 0 0, db false] (St.mk [some (cDz l 0)] []) (dMod m) (St.mk [some (cDz l a1)] []) ∧ FSpec PP 9 [D.ptr 0 0, D.v (V.agg [vi m.kind, vSs m.states, vSs m.places, vSs m.letters, vIs m.ranks, vi m.levels, vi m.age, vRuls m.rules, vi (Val.n m.start), vVs (Val.kids m.start)])] (St.mk [some (cDz l a1)] []) (dV c) (St.mk [some (cDz l a2)] []) ∧ FSpec PP 8 [D.v (V.agg [vi m.kind, vSs m.states, vSs m.places, vSs m.letters, vIs m.ranks, vi m.levels, vi m.age, vRuls m.rules, vi (Val.n m.start), vVs (Val.kids m.start)]), D.v (V.agg [vi (Val.n c), vVs (Val.kids c)]), di 40] (St.mk [] []) (dDec (v, 0)) (St.mk [] []) ∧ (!(v, 0).fst.decided) = false ∧ (v, 0).fst.yes = false ∧ decide ((↑(List.length (List.map eV (v, 0).fst.closed)) : Int) > 0) = false ∧ FSpec PP 14 [D.v (V.agg [vi m.kind, vSs m.states, vSs m.places, vSs m.letters, vIs m.ranks, vi m.levels, vi m.age, vRuls m.rules, vi (Val.n m.start), vVs (Val.kids m.start)]), D.v (V.agg [vIs (v, 0).fst.coefs, vi (v, 0).fst.mod, vIs (v, 0).fst.vals]), D.v (V.agg [vi (Val.n c), vVs (Val.kids c)])] (St.mk [] []) (D.tup [db true, di 0]) (St.mk [] []) ∧ FSpec PP 15 [D.ptr 0 0, D.v (V.agg [vi m.kind, vSs m.states, vSs m.places, vSs m.letters, vIs m.ranks, vi m.levels, vi m.age, vRuls m.rules, vi (Val.n m.start), vVs (Val.kids m.start)]), di 6] (St.mk [some (cDz l a2)] []) (D.tup [dV d, D.v (vSts run)]) (St.mk [some (cDz l a3)] []) ∧ FSpec PP 16 [D.v (V.agg [vi m.kind, vSs m.states, vSs m.places, vSs m.letters, vIs m.ranks, vi m.levels, vi m.age, vRuls m.rules, vi (Val.n m.start), vVs (Val.kids m.start)]), D.v (V.agg [vIs (v, 0).fst.coefs, vi (v, 0).fst.mod, vIs (v, 0).fst.vals]), D.v (V.agg [vi (Val.n d), vVs (Val.kids d)])] (St.mk [] []) (D.tup [db true, di 0]) (St.mk [] []) ∧ FSpec PP 17 [D.v (V.agg [vi m.kind, vSs m.states, vSs m.places, vSs m.letters, vIs m.ranks, vi m.levels, vi m.age, vRuls m.rules, vi (Val.n m.start), vVs (Val.kids m.start)]), D.v (vSts run)] (St.mk [] []) (D.tup [dV d, di (↑(List.length run) : Int), di 0]) (St.mk [] []) ∧ db (0 == 0) = db true) = _) ?_
          have hh := hlds32_spec m hm ⟨v.coefs, v.mod, v.vals⟩ ha d (RunM.ok hm hm.start d1)
          have hc0 : clsM m ⟨v.coefs, v.mod, v.vals⟩ = 0 := by simp only [excB, Bool.and_eq_true, beq_iff_eq] at hx; exact hx.2
          rw [hld_run hm ha hc0 d1] at hh
          exact ⟨sane_spec, hnew, m3, c3, hdc, by rw [h1]; rfl, h2, by rw [h3]; rfl, exc32_spec m hm _ ha c hc hx, d4, hh, rpl23_spec m hm run d d1 (by omega), rfl⟩
        · refine spec_vc mixed fAtms cAtms (by kernel_rfl) (by kernel_rfl) (by kernel_rfl) (by kernel_rfl) 94 (by kernel_rfl) [] (.c (db true) <| .h (.oc (.ptr 0 0) (dz l 0)) <| .c1 (cDz l a1) (dMod m) <| .c1 (cDz l a2) (dV c) <| .c (dDec (v, 0)) <| .k <| .f <| .f <| .t .r) ?_
          refine via (by kernel_rfl : (FSpec PP 5 [] (St.mk [] []) (db true) (St.mk [] []) ∧ (∀ (o : Oper) (c : Call) (fo : Operand), o.op = Op.call c → c.callee = Callee.value fo → OpOK PP o [D.v (V.fn 6 [] []), D.v (vBs s)] σ0 (D.ptr 0 0) (dz l 0)) ∧ FSpec PP 13 [D.ptr 0 0, db false] (St.mk [some (cDz l 0)] []) (dMod m) (St.mk [some (cDz l a1)] []) ∧ FSpec PP 9 [D.ptr 0 0, D.v (V.agg [vi m.kind, vSs m.states, vSs m.places, vSs m.letters, vIs m.ranks, vi m.levels, vi m.age, vRuls m.rules, vi (Val.n m.start), vVs (Val.kids m.start)])] (St.mk [some (cDz l a1)] []) (dV c) (St.mk [some (cDz l a2)] []) ∧ FSpec PP 8 [D.v (V.agg [vi m.kind, vSs m.states, vSs m.places, vSs m.letters, vIs m.ranks, vi m.levels, vi m.age, vRuls m.rules, vi (Val.n m.start), vVs (Val.kids m.start)]), D.v (V.agg [vi (Val.n c), vVs (Val.kids c)]), di 40] (St.mk [] []) (dDec (v, 0)) (St.mk [] []) ∧ (!(v, 0).fst.decided) = false ∧ (v, 0).fst.yes = false ∧ decide ((↑(List.length (List.map eV (v, 0).fst.closed)) : Int) > 0) = true ∧ db true = db true) = _) ?_
          exact ⟨sane_spec, hnew, m3, c3, hdc, by rw [h1]; rfl, h2, decide_eq_true (by have := List.length_pos_iff.2 h3; show ((v.closed.map eV).length : Int) > 0; rw [List.length_map]; omega), rfl⟩
end Go.Proofs.YtdfdemnbaiieaaaGreat
