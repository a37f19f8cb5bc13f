/-
  The law TreeExact: walked.
-/
import Derived.Test.YtaceggcohmmfhaaFf
namespace Go.Proofs.Ytaceggcohmmfhaa
open Go.Dv Go.Nv Tr
set_option maxRecDepth 20000
abbrev e6 (z : List Int) (ps : List (Tr × Tr)) (k : Nat) (p : Tr × Tr) : List (Nat × D) := [(3, dl z), (9, .ptr 0 0), (11, .ptr 1 0), (67, .v (.list (ps.map vP2))), (68, di (ps.length : Int)), (69, di (k : Int)), (72, .v (vP2 p))]
theorem insL_none {F : Tr → Tr → Nat → List Int × Bool} {a : Tr} : ∀ (ks : List Tr) (n : Nat), (insL F a ks n).2 = false → (insL F a ks n).1 = []
  | [], _, _ => rfl
  | k :: ks, n, h => by
    simp only [insL] at h ⊢
    split at h
    · cases h
    · rename_i hk
      rw [if_neg hk]
      exact insL_none ks _ h
theorem embR_no {a b : Tr} (h : (embR a b).2 = false) : embR a b = ([], false) := by
  refine Prod.ext ?_ h
  unfold embR at h ⊢
  split at h
  · rename_i hv
    rw [if_pos hv]
    cases hz : b.size with
    | zero => rfl
    | succ f =>
      rw [hz] at h
      simp only [insM] at h ⊢
      split at h
      · cases h
      · rename_i hr
        rw [if_neg hr]
        exact insL_none _ _ h
  · rename_i hv
    rw [if_neg hv]
theorem kq_seq {P : Program} {B : Exit → Act → World → Prop} {x y : Code} {k : List KI} {e : Exit} {a : Act} {w : World} (h : KQ P B (.code x :: .code y :: k) e a w) : KQ P B (.code (.seq x y) :: k) e a w := by
  cases e <;> simp only [KQ] at h ⊢
  case normal => exact wp_seq (wp_mono h fun e a w q => by cases e <;> exact q)
  all_goals exact h
theorem kq_code {P : Program} {B : Exit → Act → World → Prop} {c : Code} {k k' : List KI} (hk : ∀ e a w, KQ P B k e a w → KQ P B k' e a w) {e : Exit} {a : Act} {w : World} (h : KQ P B (.code c :: k) e a w) : KQ P B (.code c :: k') e a w := by
  cases e <;> simp only [KQ] at h ⊢
  case normal => exact wp_mono h fun e a w q => hk e a w q
  all_goals exact hk _ _ _ h
theorem run_tail {C : Ent → Ent → Prop} {P : Program} {R : List D → St → Prop} {k k' : List KI} {env : List D} {σ : St} (hk : ∀ B e a w, KQ P B k e a w → KQ P B k' e a w) (h : RunC C P R k env σ) : RunC C P R k' env σ := fun E0 E g a w B hC hfi hB => hk B _ _ _ (h E0 E g a w B hC hfi hB)
theorem run_seq4 {C : Ent → Ent → Prop} {P : Program} {R : List D → St → Prop} {a b c d e : Code} {T : List KI} {env : List D} {σ : St} (h : RunC C P R (.code a :: .code b :: .code c :: .code d :: .code e :: T) env σ) : RunC C P R (.code (.seq a (.seq b (.seq c (.seq d e)))) :: T) env σ :=
  run_tail (fun _ _ _ _ h => kq_seq (kq_code (fun _ _ _ h => kq_seq (kq_code (fun _ _ _ h => kq_seq (kq_code (fun _ _ _ h => kq_seq h) h)) h)) h)) h
/-- one pair -/
theorem pair_step {l z : List Int} {ps : List (Tr × Tr)} (hl : l.length ≤ 1000000) {k : Nat} (hk : k ≤ 1000) (s : Nat × Int) {x y : Tr} (hx : x.size ≤ 1000000) (hy : y.size ≤ 1000000) (next : ∀ s', loopP l z ps (k + 1) s') :
    Rn PP fTEx 0 (db true) σ0 (.code (sub cTEx [1, 1, 1, 0, 1, 0, 0, 1, 1, 0, 0, 1]) :: [.blk 1, .code (sub cTEx [1, 1, 1, 0, 1, 0, 0, 1, 1, 1]), .lp (sub cTEx [1, 1, 1, 0, 1, 0, 0]), .blk 0, .code (sub cTEx [1, 1, 1, 1])]) (mkE 185 (e7 z ps k)) (S7 l s x y []) := by
  refine part_7 ?_
  rw [seq_8]
  refine run_seq4 ?_
  have hlen := embR_len x y
  have his := embR_is x y
  cases he : embT x y with
  | none =>
    rw [he] at his
    exact part_no hx hy he (embR_no his) (part_nil hk hx hy (next s))
  | some w =>
    rw [he] at his
    obtain ⟨u, hu⟩ : ∃ u, embR x y = (u, true) := ⟨_, Prod.ext rfl his⟩
    have hul : u.length ≤ 12 := by rw [hu] at hlen; exact hlen
    refine part_yes hx hy w he u hu ?_
    cases u with
    | nil => exact part_nil hk hx hy (next s)
    | cons c u =>
      obtain ⟨i, s1, hi, h1⟩ := next_ex l hl (c :: u).length (by simp) s
      obtain ⟨v, s2, hv, h2⟩ := next_ex l hl ((if validT y then y.size else 0) + 2) (by omega) s1
      exact part_cons hk hx hy (c :: u) (by simp) (by omega) h1 hi h2 (next s2)
/-- the loop over the pairs -/
theorem pairs_loop (l z : List Int) (hl : l.length ≤ 1000000) (ps : List (Tr × Tr)) (hlen : ps.length ≤ 1000) (hps : ∀ p ∈ ps, p.1.size ≤ 1000000 ∧ p.2.size ≤ 1000000) (n : Nat) : ∀ (k : Nat) (s : Nat × Int), ps.length - k = n → loopP l z ps k s := by
  induction n using Nat.strongRecOn with
  | _ n ih =>
  intro k s hn
  refine loop_vc mixed 185 [5, 6] (.b (.e fun p : Tr × Tr => .x (vP2 p) <| .h (.q 6 3) <| .h (.s [ke 3, ke 9, ke 11, ke 67, ke 68, ke 69, ke 72]) .z) .r) ?_
  refine via (by kernel_rfl : ((decide ((↑k : Int) < (↑(List.length ps) : Int)) = true → ∃ a, 0 ≤ (↑k : Int) ∧ (List.map vP2 ps)[Int.toNat (↑k : Int)]? = some (vP2 a) ∧ Nv.It (RunO (CN 0) PP (fun env σ1 => ResOK PP fTEx env σ1 (db true) σ0) [KI.code (sub cTEx [1, 1, 1, 0, 1, 0, 0, 1, 1, 0, 0, 1]), KI.blk 1, KI.code (sub cTEx [1, 1, 1, 0, 1, 0, 0, 1, 1, 1]), KI.lp (sub cTEx [1, 1, 1, 0, 1, 0, 0]), KI.blk 0, KI.code (sub cTEx [1, 1, 1, 1])] (opsIn (sub cTEx [1, 1, 1, 0, 1, 0, 0, 1, 1, 0, 0, 0])) (List.drop 3 (opsIn (sub cTEx [1, 1, 1, 0, 1, 0, 0, 1, 1, 0, 0, 0])).toList) (mkE 185 [(3, D.v (V.list (List.map vi z))), (9, D.ptr 0 0), (11, D.ptr 1 0), (67, D.v (V.list (List.map vP2 ps))), (68, Nv.di (↑(List.length ps) : Int)), (69, Nv.di (↑k : Int)), (72, D.v (vP2 a))]) (St.mk [some (dk l s.fst s.snd), some [Nv.di 0, D.v V.nils, Nv.di 0, D.v V.nils]] []))) ∧ (decide ((↑k : Int) < (↑(List.length ps) : Int)) = false → Nv.db true = db true)) = _) ?_
  refine ⟨fun h => ?_, fun h => ?_⟩
  · have hj : k < ps.length := by simpa using h
    have hp : ps[k]? = some ps[k] := List.getElem?_eq_getElem hj
    have hm := hps _ (List.getElem_mem hj)
    generalize ps[k] = p at hp hm
    refine ⟨p, by omega, idx_some hp, ⟨?_⟩⟩
    refine rest_vc (ks := []) (T := .code (sub cTEx [1, 1, 1, 0, 1, 0, 0, 1, 1, 0, 0, 1]) :: [.blk 1, .code (sub cTEx [1, 1, 1, 0, 1, 0, 0, 1, 1, 1]), .lp (sub cTEx [1, 1, 1, 0, 1, 0, 0]), .blk 0, .code (sub cTEx [1, 1, 1, 1])]) mixed (linkN 0) 0 (fun _ _ h => h.2) 185 [] 6 3 (.ls [ke 3, ke 9, ke 11, ke 67, ke 68, ke 69] (S7 l s p.1 p.2 [])) ?_
    refine via (by kernel_rfl : ([some (dk l s.fst s.snd), some [D.v (vi (lab p.fst)), D.v (vtl (kids p.fst)), D.v (vi (lab p.snd)), D.v (vtl (kids p.snd))]] = [some (dk l s.fst s.snd), some (aT p.fst p.snd)] ∧ Nv.It (RunC (CN 0) PP (fun env σ1 => ResOK PP fTEx env σ1 (db true) σ0) [KI.code (sub cTEx [1, 1, 1, 0, 1, 0, 0, 1, 1, 0, 0, 1]), KI.blk 1, KI.code (sub cTEx [1, 1, 1, 0, 1, 0, 0, 1, 1, 1]), KI.lp (sub cTEx [1, 1, 1, 0, 1, 0, 0]), KI.blk 0, KI.code (sub cTEx [1, 1, 1, 1])] (mkE 185 [(3, D.v (V.list (List.map vi z))), (9, D.ptr 0 0), (11, D.ptr 1 0), (67, D.v (V.list (List.map vP2 ps))), (68, Nv.di (↑(List.length ps) : Int)), (69, Nv.di (↑k : Int))]) (S7 l s p.fst p.snd []))) = _) ?_
    exact ⟨rfl, ⟨pair_step hl (by omega) s hm.1 hm.2 fun s' => ih (ps.length - (k + 1)) (by omega) (k + 1) s' rfl⟩⟩
  · rfl
/-- a new deck -/
theorem op_newT (l : List Int) {o : Oper} {c : Call} {fo : Operand} (ho : o.op = .call c) (hc : c.callee = .value fo) : OpOK PP o [.v (.fn 7 [] []), dl l] σ0 (.ptr 0 0) (σd l 0 11400714819323198485) := by
  have := op_callG (σ := σ0) ho hc (fD := .v (.fn 7 [] [])) rfl (ds := [dl l]) [] id (new_spec l) (.cons (.ren (dc := dl l) rfl) .nil) .nil (by simp) rfl (by simp) (by simp) rfl (by rfl)
  simp [renH, backH, renOwn, D.ren, D.rens, rho] at this
  exact this
abbrev dkS (l : List Int) (s : Nat × Int) : List D := dk l s.1 s.2
theorem exact_spec (l : List Int) (a b : Tr) (at' : List Int) : FSpec PP 3 [dl l, dt a, dt b, dl at'] σ0 (db true) σ0 := by
  have hnew := fun (o : Oper) (c : Call) (fo : Operand) (ho : o.op = .call c) (hc : c.callee = .value fo) => op_newT l ho hc
  by_cases hl : l.length ≤ 400
  case neg =>
    refine spec_vc mixed fTEx cTEx (by kernel_rfl) (by kernel_rfl) (by kernel_rfl) (by kernel_rfl) 185 (by kernel_rfl) [5, 6] (.c (db true) <| .c (db (decide (l.length ≤ 400))) <| .t <| .c (db true) .r) ?_
    refine via (by kernel_rfl : (FSpec PP 4 [] (St.mk [] []) (db true) (St.mk [] []) ∧ FSpec PP 5 [D.v (V.list (List.map vi l))] (St.mk [] []) (db (decide (List.length l ≤ 400))) (St.mk [] []) ∧ (!decide (List.length l ≤ 400)) = true ∧ FSpec PP 4 [] (St.mk [] []) (db true) (St.mk [] []) ∧ Nv.db true = db true) = _) ?_
    exact ⟨awakeT_spec, few_spec l, by simp [hl], awakeT_spec, rfl⟩
  by_cases ha : smT 5 a = true
  case neg =>
    refine spec_vc mixed fTEx cTEx (by kernel_rfl) (by kernel_rfl) (by kernel_rfl) (by kernel_rfl) 185 (by kernel_rfl) [5, 6] (.c (db true) <| .c (db (decide (l.length ≤ 400))) <| .f <| .c (db (smT 5 a)) <| .t <| .c (db true) .r) ?_
    refine via (by kernel_rfl : (FSpec PP 4 [] (St.mk [] []) (db true) (St.mk [] []) ∧ FSpec PP 5 [D.v (V.list (List.map vi l))] (St.mk [] []) (db (decide (List.length l ≤ 400))) (St.mk [] []) ∧ (!decide (List.length l ≤ 400)) = false ∧ FSpec PP 6 [D.v (V.agg [vi (lab a), vtl (kids a)]), Nv.di 4] (St.mk [] []) (db (smT 5 a)) (St.mk [] []) ∧ (!smT 5 a) = true ∧ FSpec PP 4 [] (St.mk [] []) (db true) (St.mk [] []) ∧ Nv.db true = db true) = _) ?_
    exact ⟨awakeT_spec, few_spec l, by simp [hl], lsmall_spec 5 (by decide) a, by simp [ha], awakeT_spec, rfl⟩
  by_cases hb : smT 5 b = true
  case neg =>
    refine spec_vc mixed fTEx cTEx (by kernel_rfl) (by kernel_rfl) (by kernel_rfl) (by kernel_rfl) 185 (by kernel_rfl) [5, 6] (.c (db true) <| .c (db (decide (l.length ≤ 400))) <| .f <| .c (db (smT 5 a)) <| .f <| .c (db (smT 5 b)) <| .t <| .c (db true) .r) ?_
    refine via (by kernel_rfl : (FSpec PP 4 [] (St.mk [] []) (db true) (St.mk [] []) ∧ FSpec PP 5 [D.v (V.list (List.map vi l))] (St.mk [] []) (db (decide (List.length l ≤ 400))) (St.mk [] []) ∧ (!decide (List.length l ≤ 400)) = false ∧ FSpec PP 6 [D.v (V.agg [vi (lab a), vtl (kids a)]), Nv.di 4] (St.mk [] []) (db (smT 5 a)) (St.mk [] []) ∧ (!smT 5 a) = false ∧ FSpec PP 6 [D.v (V.agg [vi (lab b), vtl (kids b)]), Nv.di 4] (St.mk [] []) (db (smT 5 b)) (St.mk [] []) ∧ (!smT 5 b) = true ∧ FSpec PP 4 [] (St.mk [] []) (db true) (St.mk [] []) ∧ Nv.db true = db true) = _) ?_
    exact ⟨awakeT_spec, few_spec l, by simp [hl], lsmall_spec 5 (by decide) a, by simp [ha], lsmall_spec 5 (by decide) b, by simp [hb], awakeT_spec, rfl⟩
  obtain ⟨t1, s1, z1, _, h1⟩ := tree_spec l (by omega) 2 (by omega) 4 (by omega) (by omega) (0, 11400714819323198485)
  obtain ⟨t2, s2, z2, _, h2⟩ := tree_spec l (by omega) 2 (by omega) 12 (by omega) (by omega) s1
  obtain ⟨t3, s3, z3, _, h3⟩ := tree_spec l (by omega) 1 (by omega) 6 (by omega) (by omega) s2
  obtain ⟨t4, s4, z4, _, h4⟩ := tree_spec l (by omega) 1 (by omega) 9 (by omega) (by omega) s3
  obtain ⟨t5, s5, z5, _, h5⟩ := tree_spec l (by omega) 3 (by omega) 14 (by omega) (by omega) s4
  obtain ⟨t6, s6, z6, _, h6⟩ := tree_spec l (by omega) 2 (by omega) 8 (by omega) (by omega) s5
  refine spec_vc mixed fTEx cTEx (by kernel_rfl) (by kernel_rfl) (by kernel_rfl) (by kernel_rfl) 185 (by kernel_rfl) [5, 6] (.c (db true) <| .c (db (decide (l.length ≤ 400))) <| .f <| .c (db (smT 5 a)) <| .f <| .c (db (smT 5 b)) <| .f <| .b (.c (db true) .r) (.h (.oc (.ptr 0 0) (σd l 0 11400714819323198485)) <| .c1 (dkS l s1) (dt t1) <| .c1 (dkS l s2) (dt t2) <| .c1 (dkS l s3) (dt t3) <| .c1 (dkS l s4) (dt t4) <| .c1 (dkS l s5) (dt t5) <| .c1 (dkS l s6) (dt t6) <| .ls [ke 3, ke 9, ch 67 (.v (.list ([(a, b), (t1, t2), (t3, t4), (t5, b), (a, t6)].map vP2))), ch 68 (di (([(a, b), (t1, t2), (t3, t4), (t5, b), (a, t6)].length : Nat) : Int)), ch 69 (di ((0 : Nat) : Int))] (sd l s6))) ?_
  refine via (by kernel_rfl : (FSpec PP 4 [] (St.mk [] []) (db true) (St.mk [] []) ∧ FSpec PP 5 [D.v (V.list (List.map vi l))] (St.mk [] []) (db (decide (List.length l ≤ 400))) (St.mk [] []) ∧ (!decide (List.length l ≤ 400)) = false ∧ FSpec PP 6 [D.v (V.agg [vi (lab a), vtl (kids a)]), Nv.di 4] (St.mk [] []) (db (smT 5 a)) (St.mk [] []) ∧ (!smT 5 a) = false ∧ FSpec PP 6 [D.v (V.agg [vi (lab b), vtl (kids b)]), Nv.di 4] (St.mk [] []) (db (smT 5 b)) (St.mk [] []) ∧ (!smT 5 b) = false ∧ (decide ((↑(List.length (List.map vi at')) : Int) > 40) = true → FSpec PP 4 [] (St.mk [] []) (db true) (St.mk [] []) ∧ Nv.db true = db true) ∧ (decide ((↑(List.length (List.map vi at')) : Int) > 40) = false → (∀ (o : Oper) (c : Call) (fo : Operand), o.op = Op.call c → c.callee = Callee.value fo → OpOK PP o [D.v (V.fn 7 [] []), dl l] σ0 (D.ptr 0 0) (σd l 0 11400714819323198485)) ∧ FSpec PP 8 [D.ptr 0 0, Nv.di 2, Nv.di 4] (St.mk [some (dk l 0 11400714819323198485)] []) (dt t1) (St.mk [some (dkS l s1)] []) ∧ FSpec PP 8 [D.ptr 0 0, Nv.di 2, Nv.di 12] (St.mk [some (dkS l s1)] []) (dt t2) (St.mk [some (dkS l s2)] []) ∧ FSpec PP 8 [D.ptr 0 0, Nv.di 1, Nv.di 6] (St.mk [some (dkS l s2)] []) (dt t3) (St.mk [some (dkS l s3)] []) ∧ FSpec PP 8 [D.ptr 0 0, Nv.di 1, Nv.di 9] (St.mk [some (dkS l s3)] []) (dt t4) (St.mk [some (dkS l s4)] []) ∧ FSpec PP 8 [D.ptr 0 0, Nv.di 3, Nv.di 14] (St.mk [some (dkS l s4)] []) (dt t5) (St.mk [some (dkS l s5)] []) ∧ FSpec PP 8 [D.ptr 0 0, Nv.di 2, Nv.di 8] (St.mk [some (dkS l s5)] []) (dt t6) (St.mk [some (dkS l s6)] []) ∧ D.v (V.list [V.agg [vi (lab a), vtl (kids a), vi (lab b), vtl (kids b)], V.agg [vi (lab t1), vtl (kids t1), vi (lab t2), vtl (kids t2)], V.agg [vi (lab t3), vtl (kids t3), vi (lab t4), vtl (kids t4)], V.agg [vi (lab t5), vtl (kids t5), vi (lab b), vtl (kids b)], V.agg [vi (lab a), vtl (kids a), vi (lab t6), vtl (kids t6)]]) = D.v (V.list [vP2 (a, b), vP2 (t1, t2), vP2 (t3, t4), vP2 (t5, b), vP2 (a, t6)]) ∧ Nv.di (↑(List.length (V.agg (vi (lab a) :: vtl (kids a) :: vi (lab b) :: vtl (kids b) :: nV) :: V.agg (vi (lab t1) :: vtl (kids t1) :: vi (lab t2) :: vtl (kids t2) :: nV) :: V.agg (vi (lab t3) :: vtl (kids t3) :: vi (lab t4) :: vtl (kids t4) :: nV) :: V.agg (vi (lab t5) :: vtl (kids t5) :: vi (lab b) :: vtl (kids b) :: nV) :: V.agg (vi (lab a) :: vtl (kids a) :: vi (lab t6) :: vtl (kids t6) :: nV) :: nV)) : Int) = di (↑(List.length [(a, b), (t1, t2), (t3, t4), (t5, b), (a, t6)]) : Int) ∧ Nv.di 0 = di (↑0 : Int) ∧ [some (dkS l s6)] = [some (dk l s6.fst s6.snd)] ∧ Nv.It (RunC (CN (List.length σ0.H)) PP (fun env σ1 => ResOK PP fTEx env σ1 (db true) σ0) [KI.lp (sub cTEx [1, 1, 1, 0, 1, 0, 0]), KI.blk 0, KI.code (sub cTEx [1, 1, 1, 1])] (mkE 185 [(3, dl at'), (9, D.ptr 0 0), (67, D.v (V.list [vP2 (a, b), vP2 (t1, t2), vP2 (t3, t4), vP2 (t5, b), vP2 (a, t6)])), (68, di (↑(List.length [(a, b), (t1, t2), (t3, t4), (t5, b), (a, t6)]) : Int)), (69, di (↑0 : Int))]) (sd l s6)))) = _) ?_
  have ga := smT_5 ha
  have gb := smT_5 hb
  have hz := pairs_loop l at' (by omega) [(a, b), (t1, t2), (t3, t4), (t5, b), (a, t6)] (by simp) (by
    intro p hp
    simp only [List.mem_cons, List.not_mem_nil, or_false] at hp
    rcases hp with rfl | rfl | rfl | rfl | rfl <;> exact ⟨by simp only; omega, by simp only; omega⟩) _ 0 s6 rfl
  exact ⟨awakeT_spec, few_spec l, by simp [hl], lsmall_spec 5 (by decide) a, by simp [ha], lsmall_spec 5 (by decide) b, by simp [hb], fun _ => ⟨awakeT_spec, rfl⟩, fun _ => ⟨hnew, h1, h2, h3, h4, h5, h6, rfl, rfl, rfl, rfl, ⟨hz⟩⟩⟩
end Go.Proofs.Ytaceggcohmmfhaa
