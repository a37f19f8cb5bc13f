/-
  The law on the questions for places: walked and proved.
-/
import Derived.Test.YtopbcpgmffppjaaGreatDoorEh
namespace Go.Proofs.YtopbcpgmffppjaaGreatDoor
open Go.Dv Go.Nv
set_option maxRecDepth 20000
theorem op_new (s : List UInt8) {o : Oper} {c : Call} {fo : Operand} (ho : o.op = .call c) (hc : c.callee = .value fo) : OpOK PP o [.v (.fn 8 [] []), .v (vBs s)] σ0 (.ptr 0 0) (dz (s.take 200) 0) := by
  have := op_callG (σ := σ0) ho hc (fD := .v (.fn 8 [] [])) rfl (ds := [.v (vBs s)]) [] id (new_spec s) (.cons (.ren (dc := .v (vBs s)) rfl) .nil) .nil (by simp) rfl (by simp) (by simp) rfl (by rfl)
  simp [renH, backH, renOwn, D.ren, D.rens, rho] at this
  exact this
abbrev pTx (nm : List UInt8) : List UInt8 := wPlace ++ [32] ++ nm
theorem pl_bad (m : Mod) (hm : ModI m (typM m)) (k : Int) (hk : ¬ (0 ≤ k ∧ k < m.places.length)) : FSpec PP 13 [dMod m, dQ ⟨4, k, zeroV⟩] σ0 (.tup [ds [], di 48]) σ0 := by
  refine qtx_bad m _ ?_
  have h := qchk_spec m _ hm ⟨4, k, zeroV⟩ _ (qval_place m _ hm k zeroV (by decide +kernel))
  have hv : validQ m (typM m) ⟨4, k, zeroV⟩ = false := by
    simp only [validQ]
    rw [if_neg (by decide), if_neg (by decide), if_neg (by decide), if_pos trivial]
    by_cases h0 : 0 ≤ k
    · have : ¬ k < m.places.length := fun h1 => hk ⟨h0, h1⟩
      simp [this]
    · simp [h0]
  rwa [hv] at h
theorem pl_ok (m : Mod) (hm : ModI m (typM m)) (hp : plainB m = true) (k : Nat) (nm : List UInt8) (hk : m.places[k]? = some nm) (hl : nm.length ≤ 1000) : FSpec PP 13 [dMod m, dQ ⟨4, k, zeroV⟩] σ0 (.tup [ds (pTx nm), di 0]) σ0 := by
  refine qtx_place m k zeroV nm hk hl ?_
  have h := qchk_spec m _ hm ⟨4, k, zeroV⟩ _ (qval_place m _ hm k zeroV (by decide +kernel))
  have hlt := (List.getElem?_eq_some_iff.1 hk).1
  have hv : validQ m (typM m) ⟨4, k, zeroV⟩ = true := by
    simp only [validQ]
    rw [if_neg (by decide), if_neg (by decide), if_neg (by decide), if_pos trivial, hp, show (cmpV zeroV zeroV == 0) = true from by decide +kernel]
    simp; omega
  rwa [hv] at h
theorem made_plain {m : Mod} (h : MadeC m) : plainB m = true := by
  simp only [plainB, h.kind, Bool.and_eq_true, List.all_eq_true]
  refine ⟨by decide, fun r hr => ?_⟩
  have hi := List.idxOf_lt_length_of_mem hr
  have hm := h.rules _ r (by rw [List.getElem?_eq_getElem hi, List.getElem_idxOf])
  rw [hm.rest]
  rfl
theorem m01 : IntKind.wrap IntKind.i64 (-1 + 1) = 0 := by decide
noncomputable abbrev fQPl : Func := Tryz.f4
noncomputable def cQPl : Code := fQPl.body.getD .skip
theorem places_spec (s : List UInt8) : FSpec PP 4 [.v (vBs s)] σ0 (db true) σ0 := by
  obtain ⟨l, hl⟩ : ∃ l, l = s.take 200 := ⟨_, rfl⟩
  have hll : l.length ≤ 200 := by rw [hl, List.length_take]; omega
  have hnew := fun (o : Oper) (c : Call) (fo : Operand) (ho : o.op = .call c) (hc : c.callee = .value fo) => hl ▸ op_new s ho hc
  obtain ⟨m, a1, hmk, m2, m3⟩ := ctr_ex l hll 0 (Nat.zero_le _)
  have hm := hmk.ok.int
  have hp := made_plain hmk
  have hpl := hmk.places
  clear hmk
  obtain ⟨kd, st, pl, le, rk, lv, ag, ru, c⟩ := m
  rcases hpl with hpl | hpl
  · subst hpl
    refine spec_vc mixed fQPl cQPl (by kernel_rfl) (by kernel_rfl) (by kernel_rfl) (by kernel_rfl) 59 (by kernel_rfl) [] (.c (db true) <| .h (.oc (.ptr 0 0) (dz l 0)) <| .c1 (cDz l a1) (dMod ⟨kd, st, [[120]], le, rk, lv, ag, ru, c⟩) <| .h (.q 5 0) <| .h (.nw 4 1 1) <| .n <| .c (.tup [ds [], di 48]) <| .n <| .n <| .c (.tup [ds (pTx [120]), di 0]) <| .n <| .x (.str []) <| .n <| .n <| .c (.tup [ds [], di 48]) <| .n <| .x (.str []) <| .n <| .x (.str (pTx [120])) <| .n <| .n <| .r) ?_
    refine via (by kernel_rfl : (FSpec PP 7 [] (St.mk [] []) (db true) (St.mk [] []) ∧ (∀ (o : Oper) (c : Call) (fo : Operand), o.op = Op.call c → c.callee = Callee.value fo → OpOK PP o [D.v (V.fn 8 [] []), D.v (vBs s)] σ0 (D.ptr 0 0) (dz l 0)) ∧ FSpec PP 12 [D.ptr 0 0, db false] (St.mk [some (cDz l 0)] []) (dMod (Mod.mk kd st [[120]] le rk lv ag ru c)) (St.mk [some (cDz l a1)] []) ∧ FSpec PP 13 [D.v (V.agg [vi (Mod.mk kd st [[120]] le rk lv ag ru c).kind, vSs (Mod.mk kd st [[120]] le rk lv ag ru c).states, vSs (Mod.mk kd st [[120]] le rk lv ag ru c).places, vSs (Mod.mk kd st [[120]] le rk lv ag ru c).letters, vIs (Mod.mk kd st [[120]] le rk lv ag ru c).ranks, vi (Mod.mk kd st [[120]] le rk lv ag ru c).levels, vi (Mod.mk kd st [[120]] le rk lv ag ru c).age, vRuls (Mod.mk kd st [[120]] le rk lv ag ru c).rules, vi (Val.n (Mod.mk kd st [[120]] le rk lv ag ru c).start), vVs (Val.kids (Mod.mk kd st [[120]] le rk lv ag ru c).start)]), D.v (V.agg [vi 4, vi (-1), vi 0, V.list []])] (St.mk [] []) (D.tup [D.v (V.str []), di 48]) (St.mk [] []) ∧ nV = nV ∧ LenOK 1 16 ∧ FSpec PP 13 [D.v (V.agg [vi (Mod.mk kd st [[120]] le rk lv ag ru c).kind, vSs (Mod.mk kd st [[120]] le rk lv ag ru c).states, vSs (Mod.mk kd st [[120]] le rk lv ag ru c).places, vSs (Mod.mk kd st [[120]] le rk lv ag ru c).letters, vIs (Mod.mk kd st [[120]] le rk lv ag ru c).ranks, vi (Mod.mk kd st [[120]] le rk lv ag ru c).levels, vi (Mod.mk kd st [[120]] le rk lv ag ru c).age, vRuls (Mod.mk kd st [[120]] le rk lv ag ru c).rules, vi (Val.n (Mod.mk kd st [[120]] le rk lv ag ru c).start), vVs (Val.kids (Mod.mk kd st [[120]] le rk lv ag ru c).start)]), D.v (V.agg [vi 4, vi (IntKind.wrap IntKind.i64 (-1 + 1)), vi 0, V.list []])] (St.mk [] []) (D.tup [D.v (V.str (pTx [120])), di 0]) (St.mk [] []) ∧ iz 0 ≤ 0 ∧ some (V.str []) = some (V.str []) ∧ V.str [] :: nV = V.str [] :: nV ∧ LenOK 2 16 ∧ FSpec PP 13 [D.v (V.agg [vi (Mod.mk kd st [[120]] le rk lv ag ru c).kind, vSs (Mod.mk kd st [[120]] le rk lv ag ru c).states, vSs (Mod.mk kd st [[120]] le rk lv ag ru c).places, vSs (Mod.mk kd st [[120]] le rk lv ag ru c).letters, vIs (Mod.mk kd st [[120]] le rk lv ag ru c).ranks, vi (Mod.mk kd st [[120]] le rk lv ag ru c).levels, vi (Mod.mk kd st [[120]] le rk lv ag ru c).age, vRuls (Mod.mk kd st [[120]] le rk lv ag ru c).rules, vi (Val.n (Mod.mk kd st [[120]] le rk lv ag ru c).start), vVs (Val.kids (Mod.mk kd st [[120]] le rk lv ag ru c).start)]), D.v (V.agg [vi 4, vi (IntKind.wrap IntKind.i64 (IntKind.wrap IntKind.i64 (-1 + 1) + 1)), vi 0, V.list []])] (St.mk [] []) (D.tup [D.v (V.str []), di 48]) (St.mk [] []) ∧ iz 0 ≤ 0 ∧ some (V.str []) = some (V.str []) ∧ 0 ≤ IntKind.wrap IntKind.i64 (0 + 1) ∧ some (V.str (pTx [120])) = some (V.str (pTx [120])) ∧ V.str [] :: V.str (pTx [120]) :: nV = V.str [] :: V.str (pTx [120]) :: nV ∧ LenOK 3 16 ∧ db true = db true) = _) ?_
    rw [m01, w01]
    repeat' first | with_reducible refine And.intro ?_ ?_
    all_goals first | exact sane_spec | exact hnew | exact m3 | exact pl_bad _ hm (-1) (by omega) | exact pl_ok _ hm hp 0 [120] rfl (by decide) | exact pl_bad _ hm 1 (by show ¬ (0 ≤ (1 : Int) ∧ (1 : Int) < 1); omega) | exact ⟨by decide, by decide⟩ | decide | rfl
  · subst hpl
    refine spec_vc mixed fQPl cQPl (by kernel_rfl) (by kernel_rfl) (by kernel_rfl) (by kernel_rfl) 59 (by kernel_rfl) [] (.c (db true) <| .h (.oc (.ptr 0 0) (dz l 0)) <| .c1 (cDz l a1) (dMod ⟨kd, st, [[120], [121]], le, rk, lv, ag, ru, c⟩) <| .h (.q 5 0) <| .h (.nw 4 1 1) <| .n <| .c (.tup [ds [], di 48]) <| .n <| .n <| .c (.tup [ds (pTx [120]), di 0]) <| .n <| .x (.str []) <| .n <| .n <| .c (.tup [ds (pTx [121]), di 0]) <| .n <| .x (.str []) <| .n <| .x (.str (pTx [120])) <| .n <| .n <| .c (.tup [ds [], di 48]) <| .n <| .x (.str []) <| .n <| .x (.str (pTx [120])) <| .n <| .x (.str (pTx [121])) <| .n <| .n <| .r) ?_
    refine via (by kernel_rfl : (FSpec PP 7 [] (St.mk [] []) (db true) (St.mk [] []) ∧ (∀ (o : Oper) (c : Call) (fo : Operand), o.op = Op.call c → c.callee = Callee.value fo → OpOK PP o [D.v (V.fn 8 [] []), D.v (vBs s)] σ0 (D.ptr 0 0) (dz l 0)) ∧ FSpec PP 12 [D.ptr 0 0, db false] (St.mk [some (cDz l 0)] []) (dMod (Mod.mk kd st [[120], [121]] le rk lv ag ru c)) (St.mk [some (cDz l a1)] []) ∧ FSpec PP 13 [D.v (V.agg [vi (Mod.mk kd st [[120], [121]] le rk lv ag ru c).kind, vSs (Mod.mk kd st [[120], [121]] le rk lv ag ru c).states, vSs (Mod.mk kd st [[120], [121]] le rk lv ag ru c).places, vSs (Mod.mk kd st [[120], [121]] le rk lv ag ru c).letters, vIs (Mod.mk kd st [[120], [121]] le rk lv ag ru c).ranks, vi (Mod.mk kd st [[120], [121]] le rk lv ag ru c).levels, vi (Mod.mk kd st [[120], [121]] le rk lv ag ru c).age, vRuls (Mod.mk kd st [[120], [121]] le rk lv ag ru c).rules, vi (Val.n (Mod.mk kd st [[120], [121]] le rk lv ag ru c).start), vVs (Val.kids (Mod.mk kd st [[120], [121]] le rk lv ag ru c).start)]), D.v (V.agg [vi 4, vi (-1), vi 0, V.list []])] (St.mk [] []) (D.tup [D.v (V.str []), di 48]) (St.mk [] []) ∧ nV = nV ∧ LenOK 1 16 ∧ FSpec PP 13 [D.v (V.agg [vi (Mod.mk kd st [[120], [121]] le rk lv ag ru c).kind, vSs (Mod.mk kd st [[120], [121]] le rk lv ag ru c).states, vSs (Mod.mk kd st [[120], [121]] le rk lv ag ru c).places, vSs (Mod.mk kd st [[120], [121]] le rk lv ag ru c).letters, vIs (Mod.mk kd st [[120], [121]] le rk lv ag ru c).ranks, vi (Mod.mk kd st [[120], [121]] le rk lv ag ru c).levels, vi (Mod.mk kd st [[120], [121]] le rk lv ag ru c).age, vRuls (Mod.mk kd st [[120], [121]] le rk lv ag ru c).rules, vi (Val.n (Mod.mk kd st [[120], [121]] le rk lv ag ru c).start), vVs (Val.kids (Mod.mk kd st [[120], [121]] le rk lv ag ru c).start)]), D.v (V.agg [vi 4, vi (IntKind.wrap IntKind.i64 (-1 + 1)), vi 0, V.list []])] (St.mk [] []) (D.tup [D.v (V.str (pTx [120])), di 0]) (St.mk [] []) ∧ iz 0 ≤ 0 ∧ some (V.str []) = some (V.str []) ∧ V.str [] :: nV = V.str [] :: nV ∧ LenOK 2 16 ∧ FSpec PP 13 [D.v (V.agg [vi (Mod.mk kd st [[120], [121]] le rk lv ag ru c).kind, vSs (Mod.mk kd st [[120], [121]] le rk lv ag ru c).states, vSs (Mod.mk kd st [[120], [121]] le rk lv ag ru c).places, vSs (Mod.mk kd st [[120], [121]] le rk lv ag ru c).letters, vIs (Mod.mk kd st [[120], [121]] le rk lv ag ru c).ranks, vi (Mod.mk kd st [[120], [121]] le rk lv ag ru c).levels, vi (Mod.mk kd st [[120], [121]] le rk lv ag ru c).age, vRuls (Mod.mk kd st [[120], [121]] le rk lv ag ru c).rules, vi (Val.n (Mod.mk kd st [[120], [121]] le rk lv ag ru c).start), vVs (Val.kids (Mod.mk kd st [[120], [121]] le rk lv ag ru c).start)]), D.v (V.agg [vi 4, vi (IntKind.wrap IntKind.i64 (IntKind.wrap IntKind.i64 (-1 + 1) + 1)), vi 0, V.list []])] (St.mk [] []) (D.tup [D.v (V.str (pTx [121])), di 0]) (St.mk [] []) ∧ iz 0 ≤ 0 ∧ some (V.str []) = some (V.str []) ∧ 0 ≤ IntKind.wrap IntKind.i64 (0 + 1) ∧ some (V.str (pTx [120])) = some (V.str (pTx [120])) ∧ V.str [] :: V.str (pTx [120]) :: nV = V.str [] :: V.str (pTx [120]) :: nV ∧ LenOK 3 16 ∧ FSpec PP 13 [D.v (V.agg [vi (Mod.mk kd st [[120], [121]] le rk lv ag ru c).kind, vSs (Mod.mk kd st [[120], [121]] le rk lv ag ru c).states, vSs (Mod.mk kd st [[120], [121]] le rk lv ag ru c).places, vSs (Mod.mk kd st [[120], [121]] le rk lv ag ru c).letters, vIs (Mod.mk kd st [[120], [121]] le rk lv ag ru c).ranks, vi (Mod.mk kd st [[120], [121]] le rk lv ag ru c).levels, vi (Mod.mk kd st [[120], [121]] le rk lv ag ru c).age, vRuls (Mod.mk kd st [[120], [121]] le rk lv ag ru c).rules, vi (Val.n (Mod.mk kd st [[120], [121]] le rk lv ag ru c).start), vVs (Val.kids (Mod.mk kd st [[120], [121]] le rk lv ag ru c).start)]), D.v (V.agg [vi 4, vi (IntKind.wrap IntKind.i64 (IntKind.wrap IntKind.i64 (IntKind.wrap IntKind.i64 (-1 + 1) + 1) + 1)), vi 0, V.list []])] (St.mk [] []) (D.tup [D.v (V.str []), di 48]) (St.mk [] []) ∧ iz 0 ≤ 0 ∧ some (V.str []) = some (V.str []) ∧ 0 ≤ IntKind.wrap IntKind.i64 (0 + 1) ∧ some (V.str (pTx [120])) = some (V.str (pTx [120])) ∧ 0 ≤ IntKind.wrap IntKind.i64 (IntKind.wrap IntKind.i64 (0 + 1) + 1) ∧ some (V.str (pTx [121])) = some (V.str (pTx [121])) ∧ V.str [] :: V.str (pTx [120]) :: V.str (pTx [121]) :: nV = V.str [] :: V.str (pTx [120]) :: V.str (pTx [121]) :: nV ∧ LenOK 4 16 ∧ db true = db true) = _) ?_
    rw [m01, w01, w12]
    repeat' first | with_reducible refine And.intro ?_ ?_
    all_goals first | exact sane_spec | exact hnew | exact m3 | exact pl_bad _ hm (-1) (by omega) | exact pl_ok _ hm hp 0 [120] rfl (by decide) | exact pl_ok _ hm hp 1 [121] rfl (by decide) | exact pl_bad _ hm 2 (by show ¬ (0 ≤ (2 : Int) ∧ (2 : Int) < 2); omega) | exact ⟨by decide, by decide⟩ | decide | rfl
end Go.Proofs.YtopbcpgmffppjaaGreatDoor
