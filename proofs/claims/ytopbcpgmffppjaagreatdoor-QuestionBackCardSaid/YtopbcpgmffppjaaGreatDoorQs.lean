/-
  The law that a question comes back from its text: walked and proved.
-/
import Derived.Test.YtopbcpgmffppjaaGreatDoorEm
import Derived.Test.YtopbcpgmffppjaaGreatDoorEl
import Derived.Test.YtopbcpgmffppjaaGreatDoorEb
namespace Go.Proofs.YtopbcpgmffppjaaGreatDoor
open Go.Dv Go.Nv
set_option maxRecDepth 20000
noncomputable abbrev fMo : Func := Tryz.f16
noncomputable def cMo : Code := fMo.body.getD .skip
theorem mod_ex (x n : Int) (hn : 0 < n ∧ n ≤ 1000000) : ∃ j : Int, 0 ≤ j ∧ j < n ∧ FSpec PP 16 [di x, di n] σ0 (di j) σ0 := by
  have h1 := Int.tmod_lt_of_pos x hn.1
  have h2 : -n < Int.tmod x n := by have h3 := Int.tmod_lt_of_pos (-x) hn.1; rw [Int.neg_tmod] at h3; omega
  by_cases h : Int.tmod x n < 0
  · refine ⟨Int.tmod x n + n, by omega, by omega, ?_⟩
    refine spec_vc mixed fMo cMo (by kernel_rfl) (by kernel_rfl) (by kernel_rfl) (by kernel_rfl) 15 (by kernel_rfl) [] (.t .r) ?_
    refine via (by kernel_rfl : (n ≠ 0 ∧ decide (Int.tmod x n < 0) = true ∧ di (IntKind.wrap IntKind.i64 (Int.tmod x n + n)) = di (Int.tmod x n + n)) = _) ?_
    exact ⟨by omega, decide_eq_true h, by rw [wrap_id (by omega) (by omega)]⟩
  · refine ⟨Int.tmod x n, by omega, by omega, ?_⟩
    refine spec_vc mixed fMo cMo (by kernel_rfl) (by kernel_rfl) (by kernel_rfl) (by kernel_rfl) 15 (by kernel_rfl) [] (.f .r) ?_
    refine via (by kernel_rfl : (n ≠ 0 ∧ decide (Int.tmod x n < 0) = false ∧ di (Int.tmod x n) = di (Int.tmod x n)) = _) ?_
    exact ⟨by omega, decide_eq_false h, rfl⟩
noncomputable abbrev fQBa : Func := Tryz.f5
noncomputable def cQBa : Code := fQBa.body.getD .skip
/-- the strings that are read: each is refused, or comes back -/
theorem law_str (m : Mod) (t : Typ) (hm : ModI m t) (hP : m.places = [[120]] ∨ m.places = [[120], [121]]) (s : List UInt8) : (∃ (q : Qst) (e : Int), RdV q.target ∧ (e = 1 ∨ e = 12) ∧ FSpec PP 15 [dMod m, ds s] σ0 (.tup [dQ q, di e]) σ0) ∨
    ∃ q : Qst, FSpec PP 15 [dMod m, ds s] σ0 (.tup [dQ q, di 0]) σ0 ∧ FSpec PP 13 [dMod m, dQ q] σ0 (.tup [ds s, di 0]) σ0 ∧ FSpec PP 10 [dMod m, dQ q] σ0 (di 0) σ0 := by
  obtain ⟨q, e, h1, h2, h3, h4⟩ := parse_any m t hm hP s
  rcases h2 with rfl | h2
  · obtain ⟨h5, h6⟩ := h3 rfl
    have hx := txI_ok m t hm hP q h1 h5
    rw [h6] at hx
    have hc := chk_anyI m t hm q h1
    rw [h5] at hc
    exact .inr ⟨q, h4, hx, hc⟩
  · exact .inl ⟨q, e, h1, h2, h4⟩
theorem qba_bad (d : List UInt8) (x : Int) (y : UInt8) (s : List UInt8) (m : Mod) (t : Typ) (hm : ModI m t) (l : List UInt8) (a0 a1 : Nat) (q : Qst) (hnew : ∀ (o : Oper) (c : Call) (fo : Operand), o.op = .call c → c.callee = .value fo → OpOK PP o [.v (.fn 8 [] []), .v (vBs s)] σ0 (.ptr 0 0) (dz l 0))
    (m3 : FSpec PP 9 [.ptr 0 0] (dz l 0) (dMod m) (dz l a0)) (h1 : FSpec PP 14 [.ptr 0 0, dMod m] (dz l a0) (dQ q) (dz l a1)) (hq : SmV q.target) (hv : validQ m t q = false) :
    FSpec PP 5 [.v (vBs s), ds d, di x, .v (vb y)] σ0 (db true) σ0 := by
  have k1 := txI_bad m t hm q hq.rd hv
  have k2 := chk_anyI m t hm q hq.rd
  rw [hv] at k2
  refine spec_vc mixed fQBa cQBa (by kernel_rfl) (by kernel_rfl) (by kernel_rfl) (by kernel_rfl) 107 (by kernel_rfl) [] (.c (db true) <| .h (.oc (.ptr 0 0) (dz l 0)) <| .c1 (cDz l a0) (dMod m) <| .c1 (cDz l a1) (dQ q) <| .c (.tup [ds [], di 48]) <| .c (di 48) <| .r) ?_
  refine via (by kernel_rfl : (FSpec PP 7 [] (St.mk [] []) (db true) (St.mk [] []) ∧ (∀ (o : Oper) (c : Call) (fo : Operand), o.op = Op.call c → c.callee = Callee.value fo → OpOK PP o [D.v (V.fn 8 [] []), D.v (vBs s)] σ0 (D.ptr 0 0) (dz l 0)) ∧ FSpec PP 9 [D.ptr 0 0] (St.mk [some (cDz l 0)] []) (dMod m) (St.mk [some (cDz l a0)] []) ∧ FSpec PP 14 [D.ptr 0 0, D.v (V.agg [vi m.kind, vSs m.states, vSs m.places, vSs m.letters, vIs m.ranks, vi m.levels, vi m.age, vRuls m.rules, vi (Val.n m.start), vVs (Val.kids m.start)])] (St.mk [some (cDz l a0)] []) (dQ q) (St.mk [some (cDz l a1)] []) ∧ FSpec PP 13 [D.v (V.agg [vi m.kind, vSs m.states, vSs m.places, vSs m.letters, vIs m.ranks, vi m.levels, vi m.age, vRuls m.rules, vi (Val.n m.start), vVs (Val.kids m.start)]), D.v (V.agg [vi q.kind, vi q.place, vi (Val.n q.target), vVs (Val.kids q.target)])] (St.mk [] []) (D.tup [D.v (V.str []), di 48]) (St.mk [] []) ∧ FSpec PP 10 [D.v (V.agg [vi m.kind, vSs m.states, vSs m.places, vSs m.letters, vIs m.ranks, vi m.levels, vi m.age, vRuls m.rules, vi (Val.n m.start), vVs (Val.kids m.start)]), D.v (V.agg [vi q.kind, vi q.place, vi (Val.n q.target), vVs (Val.kids q.target)])] (St.mk [] []) (di 48) (St.mk [] []) ∧ db (48 == 48) = db true) = _) ?_
  exact ⟨sane_spec, hnew, m3, h1, k1, k2, rfl⟩
abbrev eQB (d : List UInt8) (x : Int) (y : UInt8) : List (Nat × D) := [(1, ds d), (2, di x), (3, .v (vb y)), (9, .ptr 0 0), (10, .ptr 1 0), (11, .ptr 2 0), (14, .ptr 3 0), (15, di 0)]
abbrev qbSt (l : List UInt8) (a : Nat) (m : Mod) (q : Qst) : St := ⟨[some (cDz l a), some (cMod m), some (cQs q), some (cQs q)], []⟩
noncomputable abbrev opB (c : Code) (i : Nat) : Oper := ((opsIn c)[i]?).getD ⟨none, .alloc 0, 0, "", #[], none⟩
theorem ro_eq {C : Ent → Ent → Prop} {P : Program} {R : List D → St → Prop} {k : List KI} {ops : Array Oper} {L L' : List Oper} {env env' : List D} {σ : St} (h : RunO C P R k ops L' env' σ) (e1 : L = L') (e2 : env = env') : RunO C P R k ops L env σ := by rw [e1, e2]; exact h
/-- from the changed string on -/
theorem qba_end (d : List UInt8) (x : Int) (y : UInt8) (m : Mod) (t : Typ) (hm : ModI m t) (hP : m.places = [[120]] ∨ m.places = [[120], [121]]) (l : List UInt8) (a : Nat) (q : Qst) (hq : SmV q.target) (s' : List UInt8) (r n cap : Nat) (cs : Array Value) :
    RunO (CB 4 r cs 5) PP (fun env σ1 => ResOK PP fQBa env σ1 (db true) σ0) ([.code (sub cQBa [1, 1, 1, 1, 1, 1, 1, 1, 1, 1, 0, 1]), .code (sub cQBa [1, 1, 1, 1, 1, 1, 1, 1, 1, 1, 1])] ++ []) (opsIn (sub cQBa [1, 1, 1, 1, 1, 1, 1, 1, 1, 1, 0, 0])) (List.drop 2 (opsIn (sub cQBa [1, 1, 1, 1, 1, 1, 1, 1, 1, 1, 0, 0])).toList) (mkE 107 (eQB d x y ++ [(63, .raw (.slice (some ⟨r, 0, none⟩) n cap)), (64, ds s')])) (qbSt l a m q) := by
  have hs := qsm_spec q q (by have := hq.size; omega)
  rw [sameQ_eq.2 (rfl : q = q)] at hs
  rcases law_str m t hm hP s' with ⟨q1, e1, v1, n1, p1⟩ | ⟨q1, p1, t1, c1⟩
  · have n1 : (e1 != 0) = true := by rcases n1 with rfl | rfl <;> rfl
    rcases law_str m t hm hP d with ⟨q2, e2, v2, n2, p2⟩ | ⟨q2, p2, t2, c2⟩
    · have n2 : (e2 != 0) = true := by rcases n2 with rfl | rfl <;> rfl
      refine rest_vc mixed (linkB 4 r cs _) 4 (fun _ _ h => h.2) 107 [] 12 2 (.n <| .x (.str s') <| .c (.tup [dQ q1, di e1]) <| .t <| .n <| .x (.str d) <| .c (.tup [dQ q2, di e2]) <| .t <| .n <| .c (db true) <| .r) ?_
      refine via (by kernel_rfl : (iz 0 ≤ 0 ∧ some (V.str s') = some (V.str s') ∧ FSpec PP 15 [D.v (V.agg [vi m.kind, vSs m.states, vSs m.places, vSs m.letters, vIs m.ranks, vi m.levels, vi m.age, vRuls m.rules, vi (Val.n m.start), vVs (Val.kids m.start)]), D.v (V.str s')] (St.mk [] []) (D.tup [dQ q1, di e1]) (St.mk [] []) ∧ (e1 != 0) = true ∧ 0 ≤ IntKind.wrap IntKind.i64 (0 + 1) ∧ some (V.str d) = some (V.str d) ∧ FSpec PP 15 [D.v (V.agg [vi m.kind, vSs m.states, vSs m.places, vSs m.letters, vIs m.ranks, vi m.levels, vi m.age, vRuls m.rules, vi (Val.n m.start), vVs (Val.kids m.start)]), D.v (V.str d)] (St.mk [] []) (D.tup [dQ q2, di e2]) (St.mk [] []) ∧ (e2 != 0) = true ∧ FSpec PP 17 [D.v (V.agg [vi q.kind, vi q.place, vi (Val.n q.target), vVs (Val.kids q.target)]), D.v (V.agg [vi q.kind, vi q.place, vi (Val.n q.target), vVs (Val.kids q.target)])] (St.mk [] []) (db true) (St.mk [] []) ∧ db true = db true) = _) ?_
      simp only [w01]
      repeat' first | with_reducible refine And.intro ?_ ?_
      all_goals first | exact p1 | exact n1 | exact p2 | exact n2 | exact hs | rfl | decide | simp
    · refine rest_vc mixed (linkB 4 r cs _) 4 (fun _ _ h => h.2) 107 [] 12 2 (.n <| .x (.str s') <| .c (.tup [dQ q1, di e1]) <| .t <| .n <| .x (.str d) <| .c (.tup [dQ q2, di 0]) <| .k <| .c (.tup [ds d, di 0]) <| .k <| .f <| .c (di 0) <| .k <| .n <| .c (db true) <| .r) ?_
      refine via (by kernel_rfl : (iz 0 ≤ 0 ∧ some (V.str s') = some (V.str s') ∧ FSpec PP 15 [D.v (V.agg [vi m.kind, vSs m.states, vSs m.places, vSs m.letters, vIs m.ranks, vi m.levels, vi m.age, vRuls m.rules, vi (Val.n m.start), vVs (Val.kids m.start)]), D.v (V.str s')] (St.mk [] []) (D.tup [dQ q1, di e1]) (St.mk [] []) ∧ (e1 != 0) = true ∧ 0 ≤ IntKind.wrap IntKind.i64 (0 + 1) ∧ some (V.str d) = some (V.str d) ∧ FSpec PP 15 [D.v (V.agg [vi m.kind, vSs m.states, vSs m.places, vSs m.letters, vIs m.ranks, vi m.levels, vi m.age, vRuls m.rules, vi (Val.n m.start), vVs (Val.kids m.start)]), D.v (V.str d)] (St.mk [] []) (D.tup [dQ q2, di 0]) (St.mk [] []) ∧ FSpec PP 13 [D.v (V.agg [vi m.kind, vSs m.states, vSs m.places, vSs m.letters, vIs m.ranks, vi m.levels, vi m.age, vRuls m.rules, vi (Val.n m.start), vVs (Val.kids m.start)]), D.v (V.agg [vi q2.kind, vi q2.place, vi (Val.n q2.target), vVs (Val.kids q2.target)])] (St.mk [] []) (D.tup [D.v (V.str d), di 0]) (St.mk [] []) ∧ (!d == d) = false ∧ FSpec PP 10 [D.v (V.agg [vi m.kind, vSs m.states, vSs m.places, vSs m.letters, vIs m.ranks, vi m.levels, vi m.age, vRuls m.rules, vi (Val.n m.start), vVs (Val.kids m.start)]), D.v (V.agg [vi q2.kind, vi q2.place, vi (Val.n q2.target), vVs (Val.kids q2.target)])] (St.mk [] []) (di 0) (St.mk [] []) ∧ FSpec PP 17 [D.v (V.agg [vi q.kind, vi q.place, vi (Val.n q.target), vVs (Val.kids q.target)]), D.v (V.agg [vi q.kind, vi q.place, vi (Val.n q.target), vVs (Val.kids q.target)])] (St.mk [] []) (db true) (St.mk [] []) ∧ db true = db true) = _) ?_
      simp only [w01]
      repeat' first | with_reducible refine And.intro ?_ ?_
      all_goals first | exact p1 | exact n1 | exact p2 | exact t2 | exact c2 | exact hs | rfl | decide | simp
  · rcases law_str m t hm hP d with ⟨q2, e2, v2, n2, p2⟩ | ⟨q2, p2, t2, c2⟩
    · have n2 : (e2 != 0) = true := by rcases n2 with rfl | rfl <;> rfl
      refine rest_vc mixed (linkB 4 r cs _) 4 (fun _ _ h => h.2) 107 [] 12 2 (.n <| .x (.str s') <| .c (.tup [dQ q1, di 0]) <| .k <| .c (.tup [ds s', di 0]) <| .k <| .f <| .c (di 0) <| .k <| .n <| .x (.str d) <| .c (.tup [dQ q2, di e2]) <| .t <| .n <| .c (db true) <| .r) ?_
      refine via (by kernel_rfl : (iz 0 ≤ 0 ∧ some (V.str s') = some (V.str s') ∧ FSpec PP 15 [D.v (V.agg [vi m.kind, vSs m.states, vSs m.places, vSs m.letters, vIs m.ranks, vi m.levels, vi m.age, vRuls m.rules, vi (Val.n m.start), vVs (Val.kids m.start)]), D.v (V.str s')] (St.mk [] []) (D.tup [dQ q1, di 0]) (St.mk [] []) ∧ FSpec PP 13 [D.v (V.agg [vi m.kind, vSs m.states, vSs m.places, vSs m.letters, vIs m.ranks, vi m.levels, vi m.age, vRuls m.rules, vi (Val.n m.start), vVs (Val.kids m.start)]), D.v (V.agg [vi q1.kind, vi q1.place, vi (Val.n q1.target), vVs (Val.kids q1.target)])] (St.mk [] []) (D.tup [D.v (V.str s'), di 0]) (St.mk [] []) ∧ (!s' == s') = false ∧ FSpec PP 10 [D.v (V.agg [vi m.kind, vSs m.states, vSs m.places, vSs m.letters, vIs m.ranks, vi m.levels, vi m.age, vRuls m.rules, vi (Val.n m.start), vVs (Val.kids m.start)]), D.v (V.agg [vi q1.kind, vi q1.place, vi (Val.n q1.target), vVs (Val.kids q1.target)])] (St.mk [] []) (di 0) (St.mk [] []) ∧ 0 ≤ IntKind.wrap IntKind.i64 (0 + 1) ∧ some (V.str d) = some (V.str d) ∧ FSpec PP 15 [D.v (V.agg [vi m.kind, vSs m.states, vSs m.places, vSs m.letters, vIs m.ranks, vi m.levels, vi m.age, vRuls m.rules, vi (Val.n m.start), vVs (Val.kids m.start)]), D.v (V.str d)] (St.mk [] []) (D.tup [dQ q2, di e2]) (St.mk [] []) ∧ (e2 != 0) = true ∧ FSpec PP 17 [D.v (V.agg [vi q.kind, vi q.place, vi (Val.n q.target), vVs (Val.kids q.target)]), D.v (V.agg [vi q.kind, vi q.place, vi (Val.n q.target), vVs (Val.kids q.target)])] (St.mk [] []) (db true) (St.mk [] []) ∧ db true = db true) = _) ?_
      simp only [w01]
      repeat' first | with_reducible refine And.intro ?_ ?_
      all_goals first | exact p1 | exact t1 | exact c1 | exact p2 | exact n2 | exact hs | rfl | decide | simp
    · refine rest_vc mixed (linkB 4 r cs _) 4 (fun _ _ h => h.2) 107 [] 12 2 (.n <| .x (.str s') <| .c (.tup [dQ q1, di 0]) <| .k <| .c (.tup [ds s', di 0]) <| .k <| .f <| .c (di 0) <| .k <| .n <| .x (.str d) <| .c (.tup [dQ q2, di 0]) <| .k <| .c (.tup [ds d, di 0]) <| .k <| .f <| .c (di 0) <| .k <| .n <| .c (db true) <| .r) ?_
      refine via (by kernel_rfl : (iz 0 ≤ 0 ∧ some (V.str s') = some (V.str s') ∧ FSpec PP 15 [D.v (V.agg [vi m.kind, vSs m.states, vSs m.places, vSs m.letters, vIs m.ranks, vi m.levels, vi m.age, vRuls m.rules, vi (Val.n m.start), vVs (Val.kids m.start)]), D.v (V.str s')] (St.mk [] []) (D.tup [dQ q1, di 0]) (St.mk [] []) ∧ FSpec PP 13 [D.v (V.agg [vi m.kind, vSs m.states, vSs m.places, vSs m.letters, vIs m.ranks, vi m.levels, vi m.age, vRuls m.rules, vi (Val.n m.start), vVs (Val.kids m.start)]), D.v (V.agg [vi q1.kind, vi q1.place, vi (Val.n q1.target), vVs (Val.kids q1.target)])] (St.mk [] []) (D.tup [D.v (V.str s'), di 0]) (St.mk [] []) ∧ (!s' == s') = false ∧ FSpec PP 10 [D.v (V.agg [vi m.kind, vSs m.states, vSs m.places, vSs m.letters, vIs m.ranks, vi m.levels, vi m.age, vRuls m.rules, vi (Val.n m.start), vVs (Val.kids m.start)]), D.v (V.agg [vi q1.kind, vi q1.place, vi (Val.n q1.target), vVs (Val.kids q1.target)])] (St.mk [] []) (di 0) (St.mk [] []) ∧ 0 ≤ IntKind.wrap IntKind.i64 (0 + 1) ∧ some (V.str d) = some (V.str d) ∧ FSpec PP 15 [D.v (V.agg [vi m.kind, vSs m.states, vSs m.places, vSs m.letters, vIs m.ranks, vi m.levels, vi m.age, vRuls m.rules, vi (Val.n m.start), vVs (Val.kids m.start)]), D.v (V.str d)] (St.mk [] []) (D.tup [dQ q2, di 0]) (St.mk [] []) ∧ FSpec PP 13 [D.v (V.agg [vi m.kind, vSs m.states, vSs m.places, vSs m.letters, vIs m.ranks, vi m.levels, vi m.age, vRuls m.rules, vi (Val.n m.start), vVs (Val.kids m.start)]), D.v (V.agg [vi q2.kind, vi q2.place, vi (Val.n q2.target), vVs (Val.kids q2.target)])] (St.mk [] []) (D.tup [D.v (V.str d), di 0]) (St.mk [] []) ∧ (!d == d) = false ∧ FSpec PP 10 [D.v (V.agg [vi m.kind, vSs m.states, vSs m.places, vSs m.letters, vIs m.ranks, vi m.levels, vi m.age, vRuls m.rules, vi (Val.n m.start), vVs (Val.kids m.start)]), D.v (V.agg [vi q2.kind, vi q2.place, vi (Val.n q2.target), vVs (Val.kids q2.target)])] (St.mk [] []) (di 0) (St.mk [] []) ∧ FSpec PP 17 [D.v (V.agg [vi q.kind, vi q.place, vi (Val.n q.target), vVs (Val.kids q.target)]), D.v (V.agg [vi q.kind, vi q.place, vi (Val.n q.target), vVs (Val.kids q.target)])] (St.mk [] []) (db true) (St.mk [] []) ∧ db true = db true) = _) ?_
      simp only [w01]
      repeat' first | with_reducible refine And.intro ?_ ?_
      all_goals first | exact p1 | exact t1 | exact c1 | exact p2 | exact t2 | exact c2 | exact hs | rfl | decide | simp
theorem slBy : slTy PP 22 = some (5, 1, 1, some (.int .u8 0)) := by kernel_rfl
abbrev eQM (d : List UInt8) (x : Int) (y : UInt8) (r jn n cap : Nat) : List (Nat × D) := eQB d x y ++ [(16, .raw (.slice (some ⟨r, 0, none⟩) n cap)), (61, .v (vb y)), (62, .raw (.pointer (some ⟨r, jn, none⟩)))]
theorem bytes_set {u : List UInt8} {cs : Array Value} (h : BytesAt u cs) (j : Nat) (y : UInt8) (hj : j < cs.size) : BytesAt (u.set j y) (cs.setIfInBounds j (.int .u8 (y.toNat : Int))) := fun i hi => by
  rw [List.length_set] at hi
  rw [Array.getElem?_setIfInBounds]
  by_cases e : j = i
  · subst e
    simp [hj]
  · rw [if_neg e, h i hi]
    simp [List.getElem_set, e]
theorem bytes_lt {u : List UInt8} {cs : Array Value} (h : BytesAt u cs) {j : Nat} (hj : j < u.length) : j < cs.size := by
  have := h j hj
  exact (Array.getElem?_eq_some_iff.1 this).1
theorem qba_mid (d : List UInt8) (x : Int) (y : UInt8) (m : Mod) (t : Typ) (hm : ModI m t) (hP : m.places = [[120]] ∨ m.places = [[120], [121]]) (l : List UInt8) (a : Nat) (q : Qst) (hq : SmV q.target) (u : List UInt8) (hu : 0 < u.length ∧ u.length ≤ 4096) (r cap : Nat) (cs : Array Value) (hat : BytesAt u cs) :
    RunO (CB 4 r cs 5) PP (fun env σ1 => ResOK PP fQBa env σ1 (db true) σ0) ([.code (sub cQBa [1, 1, 1, 1, 1, 1, 1, 1, 1])] ++ []) (opsIn (sub cQBa [1, 1, 1, 1, 1, 1, 1, 1, 0])) (List.drop 2 (opsIn (sub cQBa [1, 1, 1, 1, 1, 1, 1, 1, 0])).toList) (mkE 107 (eQB d x y ++ [(54, ds u), (55, .raw (.slice (some ⟨r, 0, none⟩) u.length cap))])) (qbSt l a m q) := by
  obtain ⟨j, j0, j1, hmod⟩ := mod_ex x u.length (by omega)
  obtain ⟨jn, rfl⟩ : ∃ n : Nat, j = n := ⟨j.toNat, by omega⟩
  refine rest_vc mixed (linkB 4 r cs _) 4 (fun _ _ h => h.2) 107 [] 10 2 (.h (.q 11 3) <| .h (.o (di u.length) (qbSt l a m q)) <| .c (di jn) <| .h (.q 11 6) <| .h (.o (.raw (.pointer (some ⟨r, jn, none⟩))) (qbSt l a m q)) <| .h (.q 11 7) <| .h (.s [ke 1, ke 2, ke 3, ke 9, ke 10, ke 11, ke 14, ke 15, ke 16, ke 61, ke 62]) .z) ?_
  refine via (by kernel_rfl : (OpOK PP (Oper.mk (some 59) (Op.call (Call.mk (Callee.builtin Builtin.len) #[Operand.tmp 58] #[22])) 3 "law.go:86" #[Edge.mk 2 Ground.data] none) [D.raw (Value.slice (some (Addr.mk r 0 none)) (List.length u) cap)] (qbSt l a m q) (di (↑(List.length u) : Int)) (qbSt l a m q) ∧ FSpec PP 16 [di x, di (↑(List.length u) : Int)] (St.mk [] []) (di (↑jn : Int)) (St.mk [] []) ∧ OpOK PP (Oper.mk (some 62) (Op.indexAddr 22 (Operand.tmp 56) (Operand.tmp 60)) 0 "law.go:86" #[Edge.mk 0 Ground.data, Edge.mk 4 Ground.data, Edge.mk 0 Ground.phase, Edge.mk 1 Ground.phase, Edge.mk 2 Ground.phase, Edge.mk 3 Ground.phase, Edge.mk 4 Ground.phase, Edge.mk 5 Ground.phase] none) [D.raw (Value.slice (some (Addr.mk r 0 none)) (List.length u) cap), di (↑jn : Int)] (qbSt l a m q) (D.raw (Value.pointer (some (Addr.mk r jn none)))) (qbSt l a m q) ∧ Nv.It (RunO (CB 4 r cs 5) PP (fun env σ1 => ResOK PP fQBa env σ1 (db true) σ0) [KI.code (sub cQBa [1, 1, 1, 1, 1, 1, 1, 1, 1, 1])] (opsIn (sub cQBa [1, 1, 1, 1, 1, 1, 1, 1, 1, 0])) (List.drop 7 (opsIn (sub cQBa [1, 1, 1, 1, 1, 1, 1, 1, 1, 0])).toList) (mkE 107 [(1, D.v (V.str d)), (2, di x), (3, D.v (V.int IntKind.u8 (↑(UInt8.toNat y) : Int))), (9, D.ptr 0 0), (10, D.ptr 1 0), (11, D.ptr 2 0), (14, D.ptr 3 0), (15, di 0), (16, D.raw (Value.slice (some (Addr.mk r 0 none)) (List.length u) cap)), (61, D.v (V.int IntKind.u8 (↑(UInt8.toNat y) : Int))), (62, D.raw (Value.pointer (some (Addr.mk r jn none))))]) (qbSt l a m q))) = _) ?_
  have hj : jn < u.length := by omega
  refine ⟨op_lenRaw rfl (e := 5) (by kernel_rfl), hmod, op_idxRaw rfl slBy j0 j1, ⟨?_⟩⟩
  refine ro_eq (L' := opB (sub cQBa [1, 1, 1, 1, 1, 1, 1, 1, 1, 0]) 7 :: List.drop 8 (opsIn (sub cQBa [1, 1, 1, 1, 1, 1, 1, 1, 1, 0])).toList) ?_ (by kernel_rfl) rfl
  refine ro_putByte 62 61 (by kernel_rfl) (by kernel_rfl) (t := 5) (by kernel_rfl) (by kernel_rfl) (i := jn) (r := r) (c := y) (by kernel_rfl) (by kernel_rfl) (bytes_lt hat hj) ?_
  have hat' := bytes_set hat jn y (bytes_lt hat hj)
  generalize cs.setIfInBounds jn (.int .u8 (y.toNat : Int)) = cs' at hat' ⊢
  have hl' : (u.set jn y).length = u.length := List.length_set
  generalize u.set jn y = s' at hat' hl'
  refine rest_vc (ks := [.code (sub cQBa [1, 1, 1, 1, 1, 1, 1, 1, 1, 1])]) (T := []) (E := eQM d x y r jn u.length cap) mixed (linkB 4 r cs' _) 4 (fun _ _ h => h.2) 107 [] 11 8 (.h (.q 12 1) <| .h (.s [ke 1, ke 2, ke 3, ke 9, ke 10, ke 11, ke 14, ke 15, ke 63]) .z) ?_
  refine via (by kernel_rfl : (Nv.It (RunO (CB 4 r cs' 5) PP (fun env σ1 => ResOK PP fQBa env σ1 (db true) σ0) [KI.code (sub cQBa [1, 1, 1, 1, 1, 1, 1, 1, 1, 1, 0, 1]), KI.code (sub cQBa [1, 1, 1, 1, 1, 1, 1, 1, 1, 1, 1])] (opsIn (sub cQBa [1, 1, 1, 1, 1, 1, 1, 1, 1, 1, 0, 0])) (List.drop 1 (opsIn (sub cQBa [1, 1, 1, 1, 1, 1, 1, 1, 1, 1, 0, 0])).toList) (mkE 107 [(1, D.v (V.str d)), (2, di x), (3, D.v (V.int IntKind.u8 (↑(UInt8.toNat y) : Int))), (9, D.ptr 0 0), (10, D.ptr 1 0), (11, D.ptr 2 0), (14, D.ptr 3 0), (15, di 0), (63, D.raw (Value.slice (some (Addr.mk r 0 none)) (List.length u) cap))]) (qbSt l a m q))) = _) ?_
  refine ⟨?_⟩
  refine ro_eq (L' := opB (sub cQBa [1, 1, 1, 1, 1, 1, 1, 1, 1, 1, 0, 0]) 1 :: List.drop 2 (opsIn (sub cQBa [1, 1, 1, 1, 1, 1, 1, 1, 1, 1, 0, 0])).toList) ?_ (by kernel_rfl) rfl
  have hend := qba_end d x y m t hm hP l a q hq s' r u.length cap cs'
  rw [← hl'] at hend ⊢
  exact ro_ofBytes 64 63 (by kernel_rfl) (by kernel_rfl) (src := 22) (dst := 9) (by kernel_rfl) (e0 := 5) (by kernel_rfl) (by kernel_rfl) (by kernel_rfl) (cap := cap) (by kernel_rfl) hat' hend
theorem qba_ok (d : List UInt8) (x : Int) (y : UInt8) (s : List UInt8) (m : Mod) (t : Typ) (hm : ModI m t) (hP : m.places = [[120]] ∨ m.places = [[120], [121]]) (l : List UInt8) (a0 a1 : Nat) (q : Qst) (hnew : ∀ (o : Oper) (c : Call) (fo : Operand), o.op = .call c → c.callee = .value fo → OpOK PP o [.v (.fn 8 [] []), .v (vBs s)] σ0 (.ptr 0 0) (dz l 0))
    (m3 : FSpec PP 9 [.ptr 0 0] (dz l 0) (dMod m) (dz l a0)) (h1 : FSpec PP 14 [.ptr 0 0, dMod m] (dz l a0) (dQ q) (dz l a1)) (hq : SmV q.target) (hv : validQ m t q = true) (hl : 0 < (txI m q).length ∧ (txI m q).length ≤ 4096) :
    FSpec PP 5 [.v (vBs s), ds d, di x, .v (vb y)] σ0 (db true) σ0 := by
  have k1 := txI_ok m t hm hP q hq.rd hv
  have k2 := parse_back m t hm hP q hq hv hl.2
  generalize txI m q = u at k1 k2 hl
  refine spec_vc mixed fQBa cQBa (by kernel_rfl) (by kernel_rfl) (by kernel_rfl) (by kernel_rfl) 107 (by kernel_rfl) [] (.c (db true) <| .h (.oc (.ptr 0 0) (dz l 0)) <| .c1 (cDz l a0) (dMod m) <| .c1 (cDz l a1) (dQ q) <| .c (.tup [ds u, di 0]) <| .f <| .c (.tup [dQ q, di 0]) <| .h (.q 10 1) <| .h (.s [ke 1, ke 2, ke 3, ke 9, ke 10, ke 11, ke 14, ke 15, ke 54]) .z) ?_
  refine via (by kernel_rfl : (FSpec PP 7 [] (St.mk [] []) (db true) (St.mk [] []) ∧ (∀ (o : Oper) (c : Call) (fo : Operand), o.op = Op.call c → c.callee = Callee.value fo → OpOK PP o [D.v (V.fn 8 [] []), D.v (vBs s)] σ0 (D.ptr 0 0) (dz l 0)) ∧ FSpec PP 9 [D.ptr 0 0] (St.mk [some (cDz l 0)] []) (dMod m) (St.mk [some (cDz l a0)] []) ∧ FSpec PP 14 [D.ptr 0 0, D.v (V.agg [vi m.kind, vSs m.states, vSs m.places, vSs m.letters, vIs m.ranks, vi m.levels, vi m.age, vRuls m.rules, vi (Val.n m.start), vVs (Val.kids m.start)])] (St.mk [some (cDz l a0)] []) (dQ q) (St.mk [some (cDz l a1)] []) ∧ FSpec PP 13 [D.v (V.agg [vi m.kind, vSs m.states, vSs m.places, vSs m.letters, vIs m.ranks, vi m.levels, vi m.age, vRuls m.rules, vi (Val.n m.start), vVs (Val.kids m.start)]), D.v (V.agg [vi q.kind, vi q.place, vi (Val.n q.target), vVs (Val.kids q.target)])] (St.mk [] []) (D.tup [D.v (V.str u), di 0]) (St.mk [] []) ∧ (0 != 0) = false ∧ FSpec PP 15 [D.v (V.agg [vi m.kind, vSs m.states, vSs m.places, vSs m.letters, vIs m.ranks, vi m.levels, vi m.age, vRuls m.rules, vi (Val.n m.start), vVs (Val.kids m.start)]), D.v (V.str u)] (St.mk [] []) (D.tup [dQ q, di 0]) (St.mk [] []) ∧ Nv.It (RunO (CN (List.length σ0.H)) PP (fun env σ1 => ResOK PP fQBa env σ1 (db true) σ0) [KI.code (sub cQBa [1, 1, 1, 1, 1, 1, 1, 1, 1])] (opsIn (sub cQBa [1, 1, 1, 1, 1, 1, 1, 1, 0])) (List.drop 1 (opsIn (sub cQBa [1, 1, 1, 1, 1, 1, 1, 1, 0])).toList) (mkE 107 [(1, D.v (V.str d)), (2, di x), (3, D.v (V.int IntKind.u8 (↑(UInt8.toNat y) : Int))), (9, D.ptr 0 0), (10, D.ptr 1 0), (11, D.ptr 2 0), (14, D.ptr 3 0), (15, di 0), (54, D.v (V.str u))]) (St.mk [some (cDz l a1), some [di m.kind, D.v (vSs m.states), D.v (vSs m.places), D.v (vSs m.letters), D.v (vIs m.ranks), di m.levels, di m.age, D.v (vRuls m.rules), di (Val.n m.start), D.v (vVs (Val.kids m.start))], some [di q.kind, di q.place, di (Val.n q.target), D.v (vVs (Val.kids q.target))], some [di q.kind, di q.place, di (Val.n q.target), D.v (vVs (Val.kids q.target))]] []))) = _) ?_
  refine ⟨sane_spec, hnew, m3, h1, k1, rfl, k2, ⟨?_⟩⟩
  refine ro_eq (L' := opB (sub cQBa [1, 1, 1, 1, 1, 1, 1, 1, 0]) 1 :: List.drop 2 (opsIn (sub cQBa [1, 1, 1, 1, 1, 1, 1, 1, 0])).toList) ?_ (by kernel_rfl) rfl
  refine ro_toBytes 55 54 (by kernel_rfl) (by kernel_rfl) (src := 9) (dst := 22) (by kernel_rfl) (e := 5) (by kernel_rfl) (by kernel_rfl) (by kernel_rfl) (s := u) (by kernel_rfl) fun r cap cs hat => ?_
  exact qba_mid d x y m t hm hP l a1 q hq u hl r cap cs hat
theorem txI_len (m : Mod) (t : Typ) (hP : m.places = [[120]] ∨ m.places = [[120], [121]]) (q : Qst) (hv : RdV q.target) (h : validQ m t q = true) : 0 < (txI m q).length ∧ (txI m q).length ≤ 4096 := by
  have h1 := textI_len q.target hv.rg
  have h2 := hv.size
  have hk := valid_is h
  cases hk with
  | cover v => simp only [txI, if_true, List.length_append, List.length_cons, List.length_nil] at *; omega
  | reach v =>
    have : txI m ⟨2, 0, v⟩ = wReach ++ [32] ++ textI v := rfl
    rw [this]
    simp only [List.length_append, List.length_cons, List.length_nil] at *; omega
  | bounded =>
    have : txI m ⟨3, 0, zeroV⟩ = wBounded := rfl
    rw [this]; decide
  | dead =>
    have : txI m ⟨5, 0, zeroV⟩ = wDead := rfl
    rw [this]; decide
  | home =>
    have : txI m ⟨6, 0, zeroV⟩ = wHome := rfl
    rw [this]; decide
  | place n hn =>
    have : txI m ⟨4, n, zeroV⟩ = wPlace ++ [32] ++ m.places.getD n [] := rfl
    rw [this]
    have hl : (m.places.getD n []).length ≤ 1 := by
      rcases hP with e | e <;> rw [e] at hn ⊢
      · obtain rfl : n = 0 := by simp at hn; omega
        decide
      · rcases (show n = 0 ∨ n = 1 by simp at hn; omega) with rfl | rfl <;> decide
    simp only [List.length_append, List.length_cons, List.length_nil]; omega
theorem back_spec (s d : List UInt8) (x : Int) (y : UInt8) : FSpec PP 5 [.v (vBs s), ds d, di x, .v (vb y)] σ0 (db true) σ0 := by
  obtain ⟨l, hl⟩ : ∃ l, l = s.take 200 := ⟨_, rfl⟩
  have hll : l.length ≤ 200 := by rw [hl, List.length_take]; omega
  have hnew := fun (o : Oper) (c : Call) (fo : Operand) (ho : o.op = .call c) (hc : c.callee = .value fo) => hl ▸ op_new s ho hc
  obtain ⟨m, a0, hmk, m2, m3⟩ := any_ex l hll 0 (Nat.zero_le _)
  obtain ⟨t, hm, _⟩ := hmk.int
  have hP := hmk.small.2.1
  obtain ⟨q, a1, hq, p2, h1⟩ := ask_ex m hmk l hll a0 m2
  cases hv : validQ m t q with
  | false => exact qba_bad d x y s m t hm l a0 a1 q hnew m3 h1 hq hv
  | true => exact qba_ok d x y s m t hm hP l a0 a1 q hnew m3 h1 hq hv (txI_len m t hP q hq.rd hv)
end Go.Proofs.YtopbcpgmffppjaaGreatDoor
