/-
  The law on which questions fit which models: walked and proved.
-/
import Derived.Test.YtopbcpgmffppjaaGreatDoorEk
import Derived.Test.YtopbcpgmffppjaaGreatDoorEh
namespace Go.Proofs.YtopbcpgmffppjaaGreatDoor
open Go.Dv Go.Nv
set_option maxRecDepth 20000
theorem Mod.ok.any {m : Mod} (h : m.ok) : ∃ t, ModI m t ∧ validB t m.start = true ∧ 1 ≤ m.places.length ∧ m.rules.length ≤ 12 := by
  obtain ⟨h1, h2, h3, h4, h5, h6, h7, h8⟩ := h.sz
  exact ⟨_, h.int, h.start, h4, h3⟩
theorem AnyM.int {m : Mod} (h : AnyM m) : ∃ t, ModI m t ∧ validB t m.start = true ∧ 1 ≤ m.places.length ∧ m.rules.length ≤ 12 := by
  cases h with
  | cM h => exact h.ok.any
  | l2 h => exact (h.ok (.inl rfl)).any
  | l3 h => exact (h.ok (.inr rfl)).any
  | tm h => exact ⟨_, h.int, h.start_ok, h.sz.2.1, by have := h.count; omega⟩
  | c h => exact h.ok.any
def pK (m : Mod) (k : Nat) : Bool := (m.kind == 1) && (m.rules.take k).all fun r => ((r.move.length : Int) == 0)
theorem pK_all (m : Mod) : pK m m.rules.length = plainB m := by
  rw [pK, List.take_length, plainB]
  congr 1
  refine congrArg (m.rules.all ·) (funext fun r => ?_)
  by_cases h : r.move.length = 0
  · simp [h]
  · have h1 : ¬ ((r.move.length : Int) = 0) := by omega
    have h2 : (r.move.length : Int) > 0 := by omega
    rw [decide_eq_true h2]; simp [h]
theorem pK_succ (m : Mod) (k : Nat) (r : Rul) (hr : m.rules[k]? = some r) : pK m (k + 1) = (pK m k && ((r.move.length : Int) == 0)) := by
  rw [pK, pK, List.take_add_one, hr]
  simp [Bool.and_assoc]
theorem qchkB : FSpec PP 10 [dMod mB, dQ ⟨5, 0, zeroV⟩] σ0 (di 15) σ0 := by
  have h := wlkB
  refine spec_vc mixed fQChk cQChk (by kernel_rfl) (by kernel_rfl) (by kernel_rfl) (by kernel_rfl) 15 (by kernel_rfl) [2, 3] (.c (di 15) <| .k .r) ?_
  refine via (by kernel_rfl : (FSpec PP 21 [D.v (vMod mB)] (St.mk [] []) (di 15) (St.mk [] []) ∧ di 15 = di 15) = _) ?_
  exact ⟨h, rfl⟩
noncomputable abbrev fQKi : Func := Tryz.f3
noncomputable def cQKi : Code := fQKi.body.getD .skip
abbrev cMod (m : Mod) : List D := [di m.kind, .v (vSs m.states), .v (vSs m.places), .v (vSs m.letters), .v (vIs m.ranks), di m.levels, di m.age, .v (vRuls m.rules), di m.start.n, dVs m.start.kids]
theorem qki_loop (l : List UInt8) (a : Nat) (m : Mod) (t : Typ) (hm : ModI m t) (hst : validB t m.start = true) (hpl : 1 ≤ m.places.length) (hr : m.rules.length ≤ 12) (n : Nat) : ∀ k : Nat, m.rules.length - k = n → k ≤ m.rules.length →
    Rn PP fQKi 0 (db true) σ0 ([.lp (sub cQKi [1, 1, 1, 1, 1, 0, 1, 0, 0]), .blk 0, .code (sub cQKi [1, 1, 1, 1, 1, 1])] ++ []) (mkE 94 [(4, .ptr 1 0), (5, db (pK m k)), (25, .v (vRuls m.rules)), (26, di m.rules.length), (27, di k)]) ⟨[some (cDz l a), some (cMod m)], []⟩ := by
  induction n with
  | zero =>
    intro k hn hk0
    obtain rfl : k = m.rules.length := by omega
    rw [pK_all]
    have hsz : m.start.size ≤ 1000000 := by
      simp only [validB, Bool.and_eq_true, decide_eq_true_eq] at hst; omega
    have hz : (cmpV zeroV zeroV == 0) = true := by decide +kernel
    have k1 := qchk_spec m t hm ⟨1, 0, m.start⟩ _ (qval_cover m t hm 0 m.start hsz)
    rw [show validQ m t ⟨1, 0, m.start⟩ = true by simp [validQ, hst]] at k1
    have k2 := qchk_spec m t hm ⟨2, 0, m.start⟩ _ (qval_reach m t hm 0 m.start hsz)
    rw [show validQ m t ⟨2, 0, m.start⟩ = true by simp [validQ, hst]] at k2
    have k3 := qchk_spec m t hm ⟨3, 0, zeroV⟩ _ (qval_bounded m t hm 0 zeroV (by decide +kernel))
    rw [show validQ m t ⟨3, 0, zeroV⟩ = plainB m by simp [validQ, hz]] at k3
    have k4 := qchk_spec m t hm ⟨4, 0, zeroV⟩ _ (qval_place m t hm 0 zeroV (by decide +kernel))
    rw [show validQ m t ⟨4, 0, zeroV⟩ = plainB m by simp [validQ, hz]; omega] at k4
    have k5 := qchk_spec m t hm ⟨5, 0, zeroV⟩ _ (qval_dead m t 0 zeroV (by decide +kernel))
    rw [show validQ m t ⟨5, 0, zeroV⟩ = true by simp [validQ, hz]] at k5
    have k6 := qchk_spec m t hm ⟨6, 0, zeroV⟩ _ (qval_home m t 0 zeroV (by decide +kernel))
    rw [show validQ m t ⟨6, 0, zeroV⟩ = true by simp [validQ, hz]] at k6
    have hb := qchkB
    cases hp : plainB m with
    | true =>
      rw [hp] at k3 k4
      refine loop_vc mixed 94 [] (.f <| .c (di 0) <| .c (di 0) <| .c (di 0) <| .c (di 0) <| .c (di 0) <| .c (di 0) <| .c (dMod mB) <| .c (di 15) <| .r) ?_
      refine via (by kernel_rfl : (decide ((↑(List.length m.rules) : Int) < (↑(List.length m.rules) : Int)) = false ∧ FSpec PP 10 [D.v (V.agg [vi m.kind, vSs m.states, vSs m.places, vSs m.letters, vIs m.ranks, vi m.levels, vi m.age, vRuls m.rules, vi (Val.n m.start), vVs (Val.kids m.start)]), D.v (V.agg [vi 1, vi 0, vi (Val.n m.start), vVs (Val.kids m.start)])] (St.mk [] []) (di 0) (St.mk [] []) ∧ FSpec PP 10 [D.v (V.agg [vi m.kind, vSs m.states, vSs m.places, vSs m.letters, vIs m.ranks, vi m.levels, vi m.age, vRuls m.rules, vi (Val.n m.start), vVs (Val.kids m.start)]), D.v (V.agg [vi 2, vi 0, vi (Val.n m.start), vVs (Val.kids m.start)])] (St.mk [] []) (di 0) (St.mk [] []) ∧ FSpec PP 10 [D.v (V.agg [vi m.kind, vSs m.states, vSs m.places, vSs m.letters, vIs m.ranks, vi m.levels, vi m.age, vRuls m.rules, vi (Val.n m.start), vVs (Val.kids m.start)]), D.v (V.agg [vi 3, vi 0, vi 0, V.list []])] (St.mk [] []) (di 0) (St.mk [] []) ∧ FSpec PP 10 [D.v (V.agg [vi m.kind, vSs m.states, vSs m.places, vSs m.letters, vIs m.ranks, vi m.levels, vi m.age, vRuls m.rules, vi (Val.n m.start), vVs (Val.kids m.start)]), D.v (V.agg [vi 4, vi 0, vi 0, V.list []])] (St.mk [] []) (di 0) (St.mk [] []) ∧ FSpec PP 10 [D.v (V.agg [vi m.kind, vSs m.states, vSs m.places, vSs m.letters, vIs m.ranks, vi m.levels, vi m.age, vRuls m.rules, vi (Val.n m.start), vVs (Val.kids m.start)]), D.v (V.agg [vi 5, vi 0, vi 0, V.list []])] (St.mk [] []) (di 0) (St.mk [] []) ∧ FSpec PP 10 [D.v (V.agg [vi m.kind, vSs m.states, vSs m.places, vSs m.letters, vIs m.ranks, vi m.levels, vi m.age, vRuls m.rules, vi (Val.n m.start), vVs (Val.kids m.start)]), D.v (V.agg [vi 6, vi 0, vi 0, V.list []])] (St.mk [] []) (di 0) (St.mk [] []) ∧ FSpec PP 11 [] (St.mk [] []) (dMod mB) (St.mk [] []) ∧ FSpec PP 10 [D.v (vMod mB), D.v (V.agg [vi 5, vi 0, vi 0, V.list []])] (St.mk [] []) (di 15) (St.mk [] []) ∧ db (15 == 15) = db true) = _) ?_
      exact ⟨decide_eq_false (by omega), k1, k2, k3, k4, k5, k6, bra_spec, hb, rfl⟩
    | false =>
      rw [hp] at k3 k4
      refine loop_vc mixed 94 [] (.f <| .c (di 0) <| .c (di 0) <| .c (di 48) <| .c (di 48) <| .c (di 0) <| .c (di 0) <| .c (dMod mB) <| .c (di 15) <| .r) ?_
      refine via (by kernel_rfl : (decide ((↑(List.length m.rules) : Int) < (↑(List.length m.rules) : Int)) = false ∧ FSpec PP 10 [D.v (V.agg [vi m.kind, vSs m.states, vSs m.places, vSs m.letters, vIs m.ranks, vi m.levels, vi m.age, vRuls m.rules, vi (Val.n m.start), vVs (Val.kids m.start)]), D.v (V.agg [vi 1, vi 0, vi (Val.n m.start), vVs (Val.kids m.start)])] (St.mk [] []) (di 0) (St.mk [] []) ∧ FSpec PP 10 [D.v (V.agg [vi m.kind, vSs m.states, vSs m.places, vSs m.letters, vIs m.ranks, vi m.levels, vi m.age, vRuls m.rules, vi (Val.n m.start), vVs (Val.kids m.start)]), D.v (V.agg [vi 2, vi 0, vi (Val.n m.start), vVs (Val.kids m.start)])] (St.mk [] []) (di 0) (St.mk [] []) ∧ FSpec PP 10 [D.v (V.agg [vi m.kind, vSs m.states, vSs m.places, vSs m.letters, vIs m.ranks, vi m.levels, vi m.age, vRuls m.rules, vi (Val.n m.start), vVs (Val.kids m.start)]), D.v (V.agg [vi 3, vi 0, vi 0, V.list []])] (St.mk [] []) (di 48) (St.mk [] []) ∧ FSpec PP 10 [D.v (V.agg [vi m.kind, vSs m.states, vSs m.places, vSs m.letters, vIs m.ranks, vi m.levels, vi m.age, vRuls m.rules, vi (Val.n m.start), vVs (Val.kids m.start)]), D.v (V.agg [vi 4, vi 0, vi 0, V.list []])] (St.mk [] []) (di 48) (St.mk [] []) ∧ FSpec PP 10 [D.v (V.agg [vi m.kind, vSs m.states, vSs m.places, vSs m.letters, vIs m.ranks, vi m.levels, vi m.age, vRuls m.rules, vi (Val.n m.start), vVs (Val.kids m.start)]), D.v (V.agg [vi 5, vi 0, vi 0, V.list []])] (St.mk [] []) (di 0) (St.mk [] []) ∧ FSpec PP 10 [D.v (V.agg [vi m.kind, vSs m.states, vSs m.places, vSs m.letters, vIs m.ranks, vi m.levels, vi m.age, vRuls m.rules, vi (Val.n m.start), vVs (Val.kids m.start)]), D.v (V.agg [vi 6, vi 0, vi 0, V.list []])] (St.mk [] []) (di 0) (St.mk [] []) ∧ FSpec PP 11 [] (St.mk [] []) (dMod mB) (St.mk [] []) ∧ FSpec PP 10 [D.v (vMod mB), D.v (V.agg [vi 5, vi 0, vi 0, V.list []])] (St.mk [] []) (di 15) (St.mk [] []) ∧ db (15 == 15) = db true) = _) ?_
      exact ⟨decide_eq_false (by omega), k1, k2, k3, k4, k5, k6, bra_spec, hb, rfl⟩
  | succ n ih =>
    intro k hn hk0
    obtain ⟨r, hr⟩ : ∃ r, m.rules[k]? = some r := ⟨_, List.getElem?_eq_getElem (show k < m.rules.length by omega)⟩
    have hs := pK_succ m k r hr
    cases hp : pK m k with
    | true =>
      refine loop_vc mixed 94 [] (.t <| .x (vRul r) <| .k <| .ls [ke 4, ch 5 (db (pK m (k + 1))), ke 25, ke 26, ch 27 (di (k + 1 : Nat))] ⟨[some (cDz l a), some (cMod m)], []⟩) ?_
      refine via (by kernel_rfl : (decide ((↑k : Int) < (↑(List.length m.rules) : Int)) = true ∧ 0 ≤ (↑k : Int) ∧ (List.map vRul m.rules)[Int.toNat (↑k : Int)]? = some (vRul r) ∧ db ((↑(List.length (List.map vi r.move)) : Int) == 0) = db (pK m (k + 1)) ∧ di (IntKind.wrap IntKind.i64 ((↑k : Int) + 1)) = di (↑(k + 1) : Int) ∧ [some (cDz l a), some (cMod m)] = [some (cDz l a), some (cMod m)] ∧ Nv.It (RunC (CN 0) PP (fun env σ1 => ResOK PP fQKi env σ1 (db true) σ0) [KI.lp (sub cQKi [1, 1, 1, 1, 1, 0, 1, 0, 0]), KI.blk 0, KI.code (sub cQKi [1, 1, 1, 1, 1, 1])] (mkE 94 [(4, D.ptr 1 0), (5, db (pK m (k + 1))), (25, D.v (vRuls m.rules)), (26, di (↑(List.length m.rules) : Int)), (27, di (↑(k + 1) : Int))]) (St.mk [some (cDz l a), some (cMod m)] []))) = _) ?_
      rw [hp] at hs
      exact ⟨decide_eq_true (by omega), by omega, idx_some hr, by rw [hs, List.length_map]; rfl, wrap_succ (by omega), rfl, ⟨ih (k + 1) (by omega) (by omega)⟩⟩
    | false =>
      refine loop_vc mixed 94 [] (.t <| .x (vRul r) <| .k <| .ls [ke 4, ch 5 (db (pK m (k + 1))), ke 25, ke 26, ch 27 (di (k + 1 : Nat))] ⟨[some (cDz l a), some (cMod m)], []⟩) ?_
      refine via (by kernel_rfl : (decide ((↑k : Int) < (↑(List.length m.rules) : Int)) = true ∧ 0 ≤ (↑k : Int) ∧ (List.map vRul m.rules)[Int.toNat (↑k : Int)]? = some (vRul r) ∧ db false = db (pK m (k + 1)) ∧ di (IntKind.wrap IntKind.i64 ((↑k : Int) + 1)) = di (↑(k + 1) : Int) ∧ [some (cDz l a), some (cMod m)] = [some (cDz l a), some (cMod m)] ∧ Nv.It (RunC (CN 0) PP (fun env σ1 => ResOK PP fQKi env σ1 (db true) σ0) [KI.lp (sub cQKi [1, 1, 1, 1, 1, 0, 1, 0, 0]), KI.blk 0, KI.code (sub cQKi [1, 1, 1, 1, 1, 1])] (mkE 94 [(4, D.ptr 1 0), (5, db (pK m (k + 1))), (25, D.v (vRuls m.rules)), (26, di (↑(List.length m.rules) : Int)), (27, di (↑(k + 1) : Int))]) (St.mk [some (cDz l a), some (cMod m)] []))) = _) ?_
      rw [hp] at hs
      exact ⟨decide_eq_true (by omega), by omega, idx_some hr, by rw [hs]; rfl, wrap_succ (by omega), rfl, ⟨ih (k + 1) (by omega) (by omega)⟩⟩
theorem kinds_spec (s : List UInt8) : FSpec PP 3 [.v (vBs s)] σ0 (db true) σ0 := by
  obtain ⟨l, hl⟩ : ∃ l, l = s.take 200 := ⟨_, rfl⟩
  have hll : l.length ≤ 200 := by rw [hl, List.length_take]; omega
  have hnew := fun (o : Oper) (c : Call) (fo : Operand) (ho : o.op = .call c) (hc : c.callee = .value fo) => hl ▸ op_new s ho hc
  obtain ⟨m, a1, hmk, m2, m3⟩ := any_ex l hll 0 (Nat.zero_le _)
  obtain ⟨t, hm, hst, hpl, hr⟩ := hmk.int
  have hrn := qki_loop l a1 m t hm hst hpl hr _ 0 rfl (Nat.zero_le _)
  refine spec_vc mixed fQKi cQKi (by kernel_rfl) (by kernel_rfl) (by kernel_rfl) (by kernel_rfl) 94 (by kernel_rfl) [] (.c (db true) <| .h (.oc (.ptr 0 0) (dz l 0)) <| .c1 (cDz l a1) (dMod m) <| .ls [ke 4, ch 5 (db (pK m 0)), ch 25 (.v (vRuls m.rules)), ch 26 (di m.rules.length), ch 27 (di (0 : Nat))] ⟨[some (cDz l a1), some (cMod m)], []⟩) ?_
  refine via (by kernel_rfl : (FSpec PP 7 [] (St.mk [] []) (db true) (St.mk [] []) ∧ (∀ (o : Oper) (c : Call) (fo : Operand), o.op = Op.call c → c.callee = Callee.value fo → OpOK PP o [D.v (V.fn 8 [] []), D.v (vBs s)] σ0 (D.ptr 0 0) (dz l 0)) ∧ FSpec PP 9 [D.ptr 0 0] (St.mk [some (cDz l 0)] []) (dMod m) (St.mk [some (cDz l a1)] []) ∧ db (m.kind == 1) = db (pK m 0) ∧ D.v (vRuls m.rules) = D.v (vRuls m.rules) ∧ di (↑(List.length (List.map vRul m.rules)) : Int) = di (↑(List.length m.rules) : Int) ∧ di 0 = di (↑0 : Int) ∧ [some (cDz l a1), some [di m.kind, D.v (vSs m.states), D.v (vSs m.places), D.v (vSs m.letters), D.v (vIs m.ranks), di m.levels, di m.age, D.v (vRuls m.rules), di (Val.n m.start), D.v (vVs (Val.kids m.start))]] = [some (cDz l a1), some (cMod m)] ∧ Nv.It (RunC (CN (List.length σ0.H)) PP (fun env σ1 => ResOK PP fQKi env σ1 (db true) σ0) [KI.lp (sub cQKi [1, 1, 1, 1, 1, 0, 1, 0, 0]), KI.blk 0, KI.code (sub cQKi [1, 1, 1, 1, 1, 1])] (mkE 94 [(4, D.ptr 1 0), (5, db (pK m 0)), (25, D.v (vRuls m.rules)), (26, di (↑(List.length m.rules) : Int)), (27, di (↑0 : Int))]) (St.mk [some (cDz l a1), some (cMod m)] []))) = _) ?_
  exact ⟨sane_spec, hnew, m3, by simp [pK], rfl, by rw [List.length_map], rfl, rfl, ⟨hrn⟩⟩
end Go.Proofs.YtopbcpgmffppjaaGreatDoor
