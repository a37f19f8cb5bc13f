/-
  The law of the lattice, walked.
-/
import Derived.Test.YtoofgniepbidnaaLa
namespace Go.Proofs.Ytoofgniepbidnaa
open Go.Dv

noncomputable def cAwake : Code := Try.f13.body.getD .skip
set_option maxRecDepth 20000 in
theorem awake_spec : FSpec PP 13 [] σ0 (db true) σ0 := by
  refine spec_at cAwake Try.func13 rfl (by kernel_rfl) (by first | decide | simp) _ (by dsimp only [Try.f13, List.length, Nat.reduceAdd, Nat.reduceSub, List.replicate, List.cons_append, List.nil_append]) ?_
  refine at_seq [0] [1] rfl ?_
  refine at_region rfl ?_
  refine at_mc 0 rfl rfl rfl (.inr rfl) (by dsimp only [constD]) (by dsimp only [List.set]) ?_
  refine at_end rfl ?_
  refine at_seq [1, 0] [1, 1] rfl ?_
  refine at_region rfl ?_
  refine at_op (some 4) rfl rfl rfl rfl (op_buildSlice rfl (by rfl) (by rfl) slInt rfl rfl (by simp [V.size]) (by decide) (by decide) (by decide)) (by dsimp only [putD, List.set]) ?_
  refine at_op (some 5) rfl rfl rfl rfl (op_buildSlice rfl (by rfl) (by rfl) slInt rfl rfl (by simp [V.size]) (by decide) (by decide) (by decide)) (by dsimp only [putD, List.set]) ?_
  refine at_op (some 6) rfl rfl rfl rfl (op_call0 rfl rfl rfl rfl (awakeSub)) (by dsimp only [putD, List.set]) ?_
  refine at_mv 6 3 rfl rfl rfl (.inl rfl) rfl (by dsimp only [List.set]) ?_
  refine at_op (some 7) rfl rfl rfl rfl (op_extract rfl rfl) (by dsimp only [putD, List.set]) ?_
  refine at_op (some 8) rfl rfl rfl rfl (op_extract rfl rfl) (by dsimp only [putD, List.set]) ?_
  refine at_mv 7 1 rfl rfl rfl (.inr rfl) rfl (by dsimp only [List.set]) ?_
  refine at_mv 8 2 rfl rfl rfl (.inr rfl) rfl (by dsimp only [List.set]) ?_
  refine at_end rfl ?_
  refine at_seq [1, 1, 0] [1, 1, 1] rfl ?_
  refine at_region rfl ?_
  refine at_mv 2 9 rfl rfl rfl (.inl rfl) rfl (by dsimp only [List.set]) ?_
  refine at_op (some 10) rfl rfl rfl rfl (op_binI rfl rfl) (by dsimp only [putD, List.set]) ?_
  refine at_mv 10 11 rfl rfl rfl (.inl rfl) rfl (by dsimp only [List.set]) ?_
  refine at_mv 1 12 rfl rfl rfl (.inl rfl) rfl (by dsimp only [List.set]) ?_
  first | (refine at_op (some 13) rfl rfl rfl rfl (op_lenL rfl uInts) (by dsimp only [putD, List.set]) ?_) | (refine at_op (some 13) rfl rfl rfl rfl (opOK_un (op_lenL rfl uInts)) (by dsimp only [putD, List.set]) ?_) | (refine at_op (some 13) rfl rfl rfl rfl (op_lenA rfl uInts) (by dsimp only [putD, List.set]) ?_)
  refine at_op (some 14) rfl rfl rfl rfl (op_binI rfl rfl) (by dsimp only [putD, List.set]) ?_
  refine at_pk true 11 14 15 rfl rfl rfl rfl rfl rfl rfl (by dsimp only [List.set]) ?_
  refine at_mv 15 16 rfl rfl rfl (.inl rfl) rfl (by dsimp only [List.set]) ?_
  refine at_mv 1 17 rfl rfl rfl (.inl rfl) rfl (by dsimp only [List.set]) ?_
  first | (refine at_op (some 18) rfl rfl rfl rfl (op_idxL rfl slInt (by first | decide | omega) (by first | exact idx_some (by assumption) | assumption | rfl) (by first | rfl | (simp [V.size]; done))) (by dsimp only [putD, List.set]) ?_) | (refine at_op (some 18) rfl rfl rfl rfl (opOK_un (op_idxL rfl slInt (by first | decide | omega) (by first | exact idx_some (by assumption) | assumption | rfl) (by first | rfl | (simp [V.size]; done)))) (by dsimp only [putD, List.set]) ?_) | (refine at_op (some 18) rfl rfl rfl rfl (op_idxA rfl slInt (by first | decide | omega) (by first | decide | omega)) (by dsimp only [putD, List.set]) ?_)
  first | (refine at_op (some 19) rfl rfl rfl rfl (op_loadR1 rfl oneInt rfl) (by dsimp only [putD, List.set]) ?_) | (refine at_op (some 19) rfl rfl rfl rfl (op_loadP1 rfl oneInt rfl rfl) (by dsimp only [putD, List.set]) ?_)
  refine at_op (some 20) rfl rfl rfl rfl (op_binI rfl rfl) (by dsimp only [putD, List.set]) ?_
  refine at_pk true 16 20 21 rfl rfl rfl rfl rfl rfl rfl (by dsimp only [List.set]) ?_
  refine at_mv 21 22 rfl rfl rfl (.inl rfl) rfl (by dsimp only [List.set]) ?_
  refine at_mv 1 23 rfl rfl rfl (.inl rfl) rfl (by dsimp only [List.set]) ?_
  first | (refine at_op (some 24) rfl rfl rfl rfl (op_idxL rfl slInt (by first | decide | omega) (by first | exact idx_some (by assumption) | assumption | rfl) (by first | rfl | (simp [V.size]; done))) (by dsimp only [putD, List.set]) ?_) | (refine at_op (some 24) rfl rfl rfl rfl (opOK_un (op_idxL rfl slInt (by first | decide | omega) (by first | exact idx_some (by assumption) | assumption | rfl) (by first | rfl | (simp [V.size]; done)))) (by dsimp only [putD, List.set]) ?_) | (refine at_op (some 24) rfl rfl rfl rfl (op_idxA rfl slInt (by first | decide | omega) (by first | decide | omega)) (by dsimp only [putD, List.set]) ?_)
  first | (refine at_op (some 25) rfl rfl rfl rfl (op_loadR1 rfl oneInt rfl) (by dsimp only [putD, List.set]) ?_) | (refine at_op (some 25) rfl rfl rfl rfl (op_loadP1 rfl oneInt rfl rfl) (by dsimp only [putD, List.set]) ?_)
  refine at_op (some 26) rfl rfl rfl rfl (op_binI rfl rfl) (by dsimp only [putD, List.set]) ?_
  refine at_pk true 22 26 27 rfl rfl rfl rfl rfl rfl rfl (by dsimp only [List.set]) ?_
  refine at_mv 27 28 rfl rfl rfl (.inl rfl) rfl (by dsimp only [List.set]) ?_
  refine at_mv 1 29 rfl rfl rfl (.inl rfl) rfl (by dsimp only [List.set]) ?_
  refine at_op (some 30) rfl rfl rfl rfl (op_call0 rfl rfl rfl rfl (valid_is [1099511627776, 5] (v := true) (by decide))) (by dsimp only [putD, List.set]) ?_
  refine at_pk true 28 30 31 rfl rfl rfl rfl rfl rfl rfl (by dsimp only [List.set]) ?_
  refine at_mv 31 32 rfl rfl rfl (.inl rfl) rfl (by dsimp only [List.set]) ?_
  refine at_mv 1 33 rfl rfl rfl (.inl rfl) rfl (by dsimp only [List.set]) ?_
  refine at_op (some 34) rfl rfl rfl rfl (op_call0 rfl rfl rfl rfl (finite_is [1099511627776, 5] (v := false) (by decide))) (by dsimp only [putD, List.set]) ?_
  refine at_op (some 35) rfl rfl rfl rfl (op_un rfl rfl) (by dsimp only [putD, List.set]) ?_
  refine at_pk true 32 35 36 rfl rfl rfl rfl rfl rfl rfl (by dsimp only [List.set]) ?_
  refine at_mv 36 37 rfl rfl rfl (.inl rfl) rfl (by dsimp only [List.set]) ?_
  refine at_op (some 38) rfl rfl rfl rfl (op_buildSlice rfl (by rfl) (by rfl) slInt rfl rfl (by simp [V.size]) (by decide) (by decide) (by decide)) (by dsimp only [putD, List.set]) ?_
  refine at_mv 1 39 rfl rfl rfl (.inl rfl) rfl (by dsimp only [List.set]) ?_
  refine at_op (some 40) rfl rfl rfl rfl (op_call0 rfl rfl rfl rfl (leq_is [3, 5] [1099511627776, 5] (v := true) (by decide))) (by dsimp only [putD, List.set]) ?_
  refine at_pk true 37 40 41 rfl rfl rfl rfl rfl rfl rfl (by dsimp only [List.set]) ?_
  refine at_mv 41 0 rfl rfl rfl (.inr rfl) rfl (by dsimp only [List.set]) ?_
  refine at_end rfl ?_
  refine at_ret rfl (ret_one (t := 0) rfl rfl ?_ rfl)
  rfl

noncomputable def cLattice : Code := Try.f3.body.getD .skip
set_option maxRecDepth 20000 in
theorem lattice_spec (l : List Int) : FSpec PP 3 [dl l] σ0 (db true) σ0 := by
  refine spec_at cLattice Try.func3 rfl (by kernel_rfl) (by first | decide | simp) _ (by dsimp only [Try.f3, List.length, Nat.reduceAdd, Nat.reduceSub, List.replicate, List.cons_append, List.nil_append]) ?_
  refine at_seq [0] [1] rfl ?_
  refine at_region rfl ?_
  refine at_mc 2 rfl rfl rfl (.inr rfl) (by dsimp only [constD]) (by dsimp only [List.set]) ?_
  refine at_end rfl ?_
  refine at_seq [1, 0] [1, 1] rfl ?_
  refine at_seq [1, 0, 0] [1, 0, 1] rfl ?_
  refine at_region rfl ?_
  refine at_op (some 12) rfl rfl rfl rfl (op_call0 rfl rfl rfl rfl (awake_spec)) (by dsimp only [putD, List.set]) ?_
  refine at_op (some 13) rfl rfl rfl rfl (op_un rfl rfl) (by dsimp only [putD, List.set]) ?_
  refine at_mv 13 14 rfl rfl rfl (.inl rfl) rfl (by dsimp only [List.set]) ?_
  refine at_mv 0 15 rfl rfl rfl (.inl rfl) rfl (by dsimp only [List.set]) ?_
  refine at_op (some 16) rfl rfl rfl rfl (op_call0 rfl rfl rfl rfl (few_spec l)) (by dsimp only [putD, List.set]) ?_
  refine at_op (some 17) rfl rfl rfl rfl (op_un rfl rfl) (by dsimp only [putD, List.set]) ?_
  refine at_pk false 14 17 18 rfl rfl rfl rfl rfl rfl rfl (by dsimp only [List.set]) ?_
  refine at_end rfl ?_
  refine at_cond [1, 0, 1, 0] [1, 0, 1, 1] rfl rfl (fun hc1 => ?_) (fun hc1 => ?_)
  · skip
    refine at_seq [1, 0, 1, 0, 0] [1, 0, 1, 0, 1] rfl ?_
    refine at_region rfl ?_
    refine at_op (some 19) rfl rfl rfl rfl (op_call0 rfl rfl rfl rfl (awake_spec)) (by dsimp only [putD, List.set]) ?_
    refine at_mv 19 2 rfl rfl rfl (.inr rfl) rfl (by dsimp only [List.set]) ?_
    refine at_end rfl ?_
    refine at_ret rfl (ret_one (t := 2) rfl rfl ?_ rfl)
    first | rfl | (simp_all; done)
  · skip
    have hs : l.length ≤ 1000000 := by simp at hc1; omega
    refine at_skip rfl ?_
    refine at_seq [1, 1, 0] [1, 1, 1] rfl ?_
    refine at_region rfl ?_
    refine at_mv 0 20 rfl rfl rfl (.inl rfl) rfl (by dsimp only [List.set]) ?_
    refine at_opS (some 21) rfl rfl rfl rfl (op_call0_new rfl rfl rfl rfl (new_spec l)) (by dsimp only [putD, List.set]) (by dsimp only [List.set, List.append, List.cons_append, List.nil_append, cellsD, List.map, repl, List.length, Nat.reduceAdd, if_true, ↓reduceIte]; first | done | rfl) ?_
    refine at_mv 21 3 rfl rfl rfl (.inr rfl) rfl (by dsimp only [List.set]) ?_
    refine at_end rfl ?_
    refine at_seq [1, 1, 1, 0] [1, 1, 1, 1] rfl ?_
    refine at_region rfl ?_
    refine at_mv 3 22 rfl rfl rfl (.inl rfl) rfl (by dsimp only [List.set]) ?_
    refine at_opS (some 23) rfl rfl rfl rfl (op_call1 rfl rfl rfl rfl rfl (.ptr (.pl rfl .nil)) rfl (next_spec l _ _ hs _ (by omega))) (by dsimp only [putD, List.set]) (by dsimp only [List.set, List.append, List.cons_append, List.nil_append, cellsD, List.map, repl, List.length, Nat.reduceAdd, if_true, ↓reduceIte]; first | done | rfl) ?_
    obtain ⟨n, hn⟩ := Int.eq_ofNat_of_zero_le (nextV_range (n := 7) (s := dkSt l 0 11400714819323198485) (by omega)).1
    have h6 : n ≤ 6 := by have := (nextV_range (n := 7) (s := dkSt l 0 11400714819323198485) (by omega)).2; omega
    rw [hn]
    refine at_mv 23 4 rfl rfl rfl (.inr rfl) rfl (by dsimp only [List.set]) ?_
    refine at_end rfl ?_
    refine at_seq [1, 1, 1, 1, 0] [1, 1, 1, 1, 1] rfl ?_
    refine at_region rfl ?_
    refine at_mv 3 24 rfl rfl rfl (.inl rfl) rfl (by dsimp only [List.set]) ?_
    refine at_mv 4 25 rfl rfl rfl (.inl rfl) rfl (by dsimp only [List.set]) ?_
    refine at_opS (some 26) rfl rfl rfl rfl (op_call1 rfl rfl rfl rfl rfl (.ptr (.pl rfl (.pl rfl .nil))) rfl (vectorU_spec l hs true n (by omega) _ _)) (by dsimp only [putD, List.set]) (by dsimp only [List.set, List.append, List.cons_append, List.nil_append, cellsD, List.map, repl, List.length, Nat.reduceAdd, if_true, ↓reduceIte]; first | done | rfl) ?_
    refine at_mv 3 27 rfl rfl rfl (.inl rfl) rfl (by dsimp only [List.set]) ?_
    refine at_mv 4 28 rfl rfl rfl (.inl rfl) rfl (by dsimp only [List.set]) ?_
    refine at_opS (some 29) rfl rfl rfl rfl (op_call1 rfl rfl rfl rfl rfl (.ptr (.pl rfl (.pl rfl .nil))) rfl (vectorU_spec l hs true n (by omega) _ _)) (by dsimp only [putD, List.set]) (by dsimp only [List.set, List.append, List.cons_append, List.nil_append, cellsD, List.map, repl, List.length, Nat.reduceAdd, if_true, ↓reduceIte]; first | done | rfl) ?_
    refine at_mv 3 30 rfl rfl rfl (.inl rfl) rfl (by dsimp only [List.set]) ?_
    refine at_mv 4 31 rfl rfl rfl (.inl rfl) rfl (by dsimp only [List.set]) ?_
    refine at_opS (some 32) rfl rfl rfl rfl (op_call1 rfl rfl rfl rfl rfl (.ptr (.pl rfl (.pl rfl .nil))) rfl (vectorU_spec l hs true n (by omega) _ _)) (by dsimp only [putD, List.set]) (by dsimp only [List.set, List.append, List.cons_append, List.nil_append, cellsD, List.map, repl, List.length, Nat.reduceAdd, if_true, ↓reduceIte]; first | done | rfl) ?_
    refine at_mv 26 5 rfl rfl rfl (.inr rfl) rfl (by dsimp only [List.set]) ?_
    refine at_mv 29 6 rfl rfl rfl (.inr rfl) rfl (by dsimp only [List.set]) ?_
    refine at_mv 32 7 rfl rfl rfl (.inr rfl) rfl (by dsimp only [List.set]) ?_
    refine at_end rfl ?_
    obtain ⟨A, hA⟩ : ∃ A, vecM l true n (dkAt l 0, dkSt l 0 11400714819323198485) = A := ⟨_, rfl⟩
    rw [hA]
    have vA : valid A.1 = true := by rw [← hA]; exact vecM_valid h6
    have lA : A.1.length = n := by rw [← hA]; exact (vecM_ok _ _ _ _).1
    obtain ⟨B, hB⟩ : ∃ B, vecM l true n (A.2.1, A.2.2) = B := ⟨_, rfl⟩
    rw [hB]
    have vB : valid B.1 = true := by rw [← hB]; exact vecM_valid h6
    have lB : B.1.length = n := by rw [← hB]; exact (vecM_ok _ _ _ _).1
    obtain ⟨C, hC⟩ : ∃ C, vecM l true n (B.2.1, B.2.2) = C := ⟨_, rfl⟩
    rw [hC]
    have vC : valid C.1 = true := by rw [← hC]; exact vecM_valid h6
    have lC : C.1.length = n := by rw [← hC]; exact (vecM_ok _ _ _ _).1
    have hab : A.1.length = B.1.length := by omega
    have hac : A.1.length = C.1.length := by omega
    have vU := valid_zip maxF_or vA vB
    have vD := valid_zip minF_or vA vB
    have lU : (List.zipWith maxF A.1 B.1).length = n := by simp; omega
    have lD : (List.zipWith minF A.1 B.1).length = n := by simp; omega
    have e1 : leq (List.zipWith maxF A.1 B.1) C.1 = (leq A.1 C.1 && leq B.1 C.1) := by rw [leq_of vU vC (by omega), leq_of vA vC (by omega), leq_of vB vC (by omega)]; exact below_max hab hac
    have e2 : leq C.1 (List.zipWith minF A.1 B.1) = (leq C.1 A.1 && leq C.1 B.1) := by rw [leq_of vC vD (by omega), leq_of vC vA (by omega), leq_of vC vB (by omega)]; exact below_min hab hac
    refine at_seq [1, 1, 1, 1, 1, 0] [1, 1, 1, 1, 1, 1] rfl ?_
    refine at_region rfl ?_
    refine at_mv 5 34 rfl rfl rfl (.inl rfl) rfl (by dsimp only [List.set]) ?_
    refine at_mv 6 35 rfl rfl rfl (.inl rfl) rfl (by dsimp only [List.set]) ?_
    refine at_op (some 36) rfl rfl rfl rfl (op_call0 rfl rfl rfl rfl (max_ok A.1 B.1 vA vB hab)) (by dsimp only [putD, List.set]) ?_
    refine at_mv 36 33 rfl rfl rfl (.inl rfl) rfl (by dsimp only [List.set]) ?_
    refine at_op (some 37) rfl rfl rfl rfl (op_extract rfl rfl) (by dsimp only [putD, List.set]) ?_
    refine at_op (some 38) rfl rfl rfl rfl (op_extract rfl rfl) (by dsimp only [putD, List.set]) ?_
    refine at_mv 37 8 rfl rfl rfl (.inr rfl) rfl (by dsimp only [List.set]) ?_
    refine at_mv 38 9 rfl rfl rfl (.inr rfl) rfl (by dsimp only [List.set]) ?_
    refine at_end rfl ?_
    refine at_seq [1, 1, 1, 1, 1, 1, 0] [1, 1, 1, 1, 1, 1, 1] rfl ?_
    refine at_region rfl ?_
    refine at_mv 5 40 rfl rfl rfl (.inl rfl) rfl (by dsimp only [List.set]) ?_
    refine at_mv 6 41 rfl rfl rfl (.inl rfl) rfl (by dsimp only [List.set]) ?_
    refine at_op (some 42) rfl rfl rfl rfl (op_call0 rfl rfl rfl rfl (min_ok A.1 B.1 vA vB hab)) (by dsimp only [putD, List.set]) ?_
    refine at_mv 42 39 rfl rfl rfl (.inl rfl) rfl (by dsimp only [List.set]) ?_
    refine at_op (some 43) rfl rfl rfl rfl (op_extract rfl rfl) (by dsimp only [putD, List.set]) ?_
    refine at_op (some 44) rfl rfl rfl rfl (op_extract rfl rfl) (by dsimp only [putD, List.set]) ?_
    refine at_mv 43 10 rfl rfl rfl (.inr rfl) rfl (by dsimp only [List.set]) ?_
    refine at_mv 44 11 rfl rfl rfl (.inr rfl) rfl (by dsimp only [List.set]) ?_
    refine at_end rfl ?_
    refine at_seq [1, 1, 1, 1, 1, 1, 1, 0] [1, 1, 1, 1, 1, 1, 1, 1] rfl ?_
    refine at_seq [1, 1, 1, 1, 1, 1, 1, 0, 0] [1, 1, 1, 1, 1, 1, 1, 0, 1] rfl ?_
    refine at_region rfl ?_
    refine at_mv 9 45 rfl rfl rfl (.inl rfl) rfl (by dsimp only [List.set]) ?_
    refine at_op (some 46) rfl rfl rfl rfl (op_binI rfl rfl) (by dsimp only [putD, List.set]) ?_
    refine at_mv 46 47 rfl rfl rfl (.inl rfl) rfl (by dsimp only [List.set]) ?_
    refine at_mv 11 48 rfl rfl rfl (.inl rfl) rfl (by dsimp only [List.set]) ?_
    refine at_op (some 49) rfl rfl rfl rfl (op_binI rfl rfl) (by dsimp only [putD, List.set]) ?_
    refine at_pk false 47 49 50 rfl rfl rfl rfl rfl rfl rfl (by dsimp only [List.set]) ?_
    refine at_mv 50 51 rfl rfl rfl (.inl rfl) rfl (by dsimp only [List.set]) ?_
    refine at_mv 5 52 rfl rfl rfl (.inl rfl) rfl (by dsimp only [List.set]) ?_
    refine at_mv 8 53 rfl rfl rfl (.inl rfl) rfl (by dsimp only [List.set]) ?_
    refine at_op (some 54) rfl rfl rfl rfl (op_call0 rfl rfl rfl rfl (leq_is _ _ (v := true) (by rw [leq_of vA vU (by omega)]; exact below_max1))) (by dsimp only [putD, List.set]) ?_
    refine at_op (some 55) rfl rfl rfl rfl (op_un rfl rfl) (by dsimp only [putD, List.set]) ?_
    refine at_pk false 51 55 56 rfl rfl rfl rfl rfl rfl rfl (by dsimp only [List.set]) ?_
    refine at_mv 56 57 rfl rfl rfl (.inl rfl) rfl (by dsimp only [List.set]) ?_
    refine at_mv 6 58 rfl rfl rfl (.inl rfl) rfl (by dsimp only [List.set]) ?_
    refine at_mv 8 59 rfl rfl rfl (.inl rfl) rfl (by dsimp only [List.set]) ?_
    refine at_op (some 60) rfl rfl rfl rfl (op_call0 rfl rfl rfl rfl (leq_is _ _ (v := true) (by rw [leq_of vB vU (by omega)]; exact below_max2))) (by dsimp only [putD, List.set]) ?_
    refine at_op (some 61) rfl rfl rfl rfl (op_un rfl rfl) (by dsimp only [putD, List.set]) ?_
    refine at_pk false 57 61 62 rfl rfl rfl rfl rfl rfl rfl (by dsimp only [List.set]) ?_
    refine at_mv 62 63 rfl rfl rfl (.inl rfl) rfl (by dsimp only [List.set]) ?_
    refine at_mv 10 64 rfl rfl rfl (.inl rfl) rfl (by dsimp only [List.set]) ?_
    refine at_mv 5 65 rfl rfl rfl (.inl rfl) rfl (by dsimp only [List.set]) ?_
    refine at_op (some 66) rfl rfl rfl rfl (op_call0 rfl rfl rfl rfl (leq_is _ _ (v := true) (by rw [leq_of vD vA (by omega)]; exact below_min1))) (by dsimp only [putD, List.set]) ?_
    refine at_op (some 67) rfl rfl rfl rfl (op_un rfl rfl) (by dsimp only [putD, List.set]) ?_
    refine at_pk false 63 67 68 rfl rfl rfl rfl rfl rfl rfl (by dsimp only [List.set]) ?_
    refine at_mv 68 69 rfl rfl rfl (.inl rfl) rfl (by dsimp only [List.set]) ?_
    refine at_mv 10 70 rfl rfl rfl (.inl rfl) rfl (by dsimp only [List.set]) ?_
    refine at_mv 6 71 rfl rfl rfl (.inl rfl) rfl (by dsimp only [List.set]) ?_
    refine at_op (some 72) rfl rfl rfl rfl (op_call0 rfl rfl rfl rfl (leq_is _ _ (v := true) (by rw [leq_of vD vB (by omega)]; exact below_min2))) (by dsimp only [putD, List.set]) ?_
    refine at_op (some 73) rfl rfl rfl rfl (op_un rfl rfl) (by dsimp only [putD, List.set]) ?_
    refine at_pk false 69 73 74 rfl rfl rfl rfl rfl rfl rfl (by dsimp only [List.set]) ?_
    refine at_end rfl ?_
    refine at_false [1, 1, 1, 1, 1, 1, 1, 0, 1, 0] [1, 1, 1, 1, 1, 1, 1, 0, 1, 1] rfl rfl ?_
    refine at_skip rfl ?_
    refine at_seq [1, 1, 1, 1, 1, 1, 1, 1, 0] [1, 1, 1, 1, 1, 1, 1, 1, 1] rfl ?_
    refine at_region rfl ?_
    refine at_mv 5 75 rfl rfl rfl (.inl rfl) rfl (by dsimp only [List.set]) ?_
    refine at_mv 7 76 rfl rfl rfl (.inl rfl) rfl (by dsimp only [List.set]) ?_
    refine at_op (some 77) rfl rfl rfl rfl (op_call0 rfl rfl rfl rfl (leq_spec _ _)) (by dsimp only [putD, List.set]) ?_
    refine at_mv 77 78 rfl rfl rfl (.inl rfl) rfl (by dsimp only [List.set]) ?_
    refine at_split 78 rfl (fun hb2 env' he => ?_) (fun hb2 env' he => ?_)
    · dsimp only [List.set] at he; subst he
      refine at_mv 6 79 rfl rfl rfl (.inl rfl) rfl (by dsimp only [List.set]) ?_
      refine at_mv 7 80 rfl rfl rfl (.inl rfl) rfl (by dsimp only [List.set]) ?_
      refine at_op (some 81) rfl rfl rfl rfl (op_call0 rfl rfl rfl rfl (leq_spec _ _)) (by dsimp only [putD, List.set]) ?_
      refine at_pk true 78 81 82 rfl rfl rfl rfl rfl rfl rfl (by dsimp only [List.set]) ?_
      refine at_mv 8 83 rfl rfl rfl (.inl rfl) rfl (by dsimp only [List.set]) ?_
      refine at_mv 7 84 rfl rfl rfl (.inl rfl) rfl (by dsimp only [List.set]) ?_
      refine at_op (some 85) rfl rfl rfl rfl (op_call0 rfl rfl rfl rfl (leq_is _ _ e1)) (by dsimp only [putD, List.set]) ?_
      refine at_op (some 86) rfl rfl rfl rfl (op_eqlB rfl uBool (.inl rfl)) (by dsimp only [putD, List.set]) ?_
      refine at_mv 86 87 rfl rfl rfl (.inl rfl) rfl (by dsimp only [List.set]) ?_
      refine at_split 87 rfl (fun hb3 env' he => ?_) (fun hb3 env' he => ?_)
      · dsimp only [List.set] at he; subst he
        refine at_mv 7 88 rfl rfl rfl (.inl rfl) rfl (by dsimp only [List.set]) ?_
        refine at_mv 5 89 rfl rfl rfl (.inl rfl) rfl (by dsimp only [List.set]) ?_
        refine at_op (some 90) rfl rfl rfl rfl (op_call0 rfl rfl rfl rfl (leq_spec _ _)) (by dsimp only [putD, List.set]) ?_
        refine at_mv 90 91 rfl rfl rfl (.inl rfl) rfl (by dsimp only [List.set]) ?_
        refine at_split 91 rfl (fun hb4 env' he => ?_) (fun hb4 env' he => ?_)
        · dsimp only [List.set] at he; subst he
          refine at_mv 7 92 rfl rfl rfl (.inl rfl) rfl (by dsimp only [List.set]) ?_
          refine at_mv 6 93 rfl rfl rfl (.inl rfl) rfl (by dsimp only [List.set]) ?_
          refine at_op (some 94) rfl rfl rfl rfl (op_call0 rfl rfl rfl rfl (leq_spec _ _)) (by dsimp only [putD, List.set]) ?_
          refine at_pk true 91 94 95 rfl rfl rfl rfl rfl rfl rfl (by dsimp only [List.set]) ?_
          refine at_mv 7 96 rfl rfl rfl (.inl rfl) rfl (by dsimp only [List.set]) ?_
          refine at_mv 10 97 rfl rfl rfl (.inl rfl) rfl (by dsimp only [List.set]) ?_
          refine at_op (some 98) rfl rfl rfl rfl (op_call0 rfl rfl rfl rfl (leq_is _ _ e2)) (by dsimp only [putD, List.set]) ?_
          refine at_op (some 99) rfl rfl rfl rfl (op_eqlB rfl uBool (.inl rfl)) (by dsimp only [putD, List.set]) ?_
          refine at_pk true 87 99 100 rfl rfl rfl rfl rfl rfl rfl (by dsimp only [List.set]) ?_
          refine at_mv 100 2 rfl rfl rfl (.inr rfl) rfl (by dsimp only [List.set]) ?_
          refine at_end rfl ?_
          refine at_ret rfl (ret_one (t := 2) rfl rfl ?_ rfl)
          first | rfl | (simp_all; done)
        · dsimp only [List.set] at he; subst he
          refine at_opN (some 92) rfl rfl rfl (by dsimp only [putD, List.set]) ?_
          refine at_opN (some 93) rfl rfl rfl (by dsimp only [putD, List.set]) ?_
          refine at_opN (some 94) rfl rfl rfl (by dsimp only [putD, List.set]) ?_
          refine at_pkc false 91 95 rfl rfl rfl rfl rfl rfl (by dsimp only [constD]) (by dsimp only [List.set]) ?_
          refine at_mv 7 96 rfl rfl rfl (.inl rfl) rfl (by dsimp only [List.set]) ?_
          refine at_mv 10 97 rfl rfl rfl (.inl rfl) rfl (by dsimp only [List.set]) ?_
          refine at_op (some 98) rfl rfl rfl rfl (op_call0 rfl rfl rfl rfl (leq_is _ _ e2)) (by dsimp only [putD, List.set]) ?_
          refine at_op (some 99) rfl rfl rfl rfl (op_eqlB rfl uBool (.inl rfl)) (by dsimp only [putD, List.set]) ?_
          refine at_pk true 87 99 100 rfl rfl rfl rfl rfl rfl rfl (by dsimp only [List.set]) ?_
          refine at_mv 100 2 rfl rfl rfl (.inr rfl) rfl (by dsimp only [List.set]) ?_
          refine at_end rfl ?_
          refine at_ret rfl (ret_one (t := 2) rfl rfl ?_ rfl)
          first | rfl | (simp_all; done)
      · dsimp only [List.set] at he; subst he
        refine at_opN (some 88) rfl rfl rfl (by dsimp only [putD, List.set]) ?_
        refine at_opN (some 89) rfl rfl rfl (by dsimp only [putD, List.set]) ?_
        refine at_opN (some 90) rfl rfl rfl (by dsimp only [putD, List.set]) ?_
        refine at_opN (some 91) rfl rfl rfl (by dsimp only [putD, List.set]) ?_
        refine at_opN (some 92) rfl rfl rfl (by dsimp only [putD, List.set]) ?_
        refine at_opN (some 93) rfl rfl rfl (by dsimp only [putD, List.set]) ?_
        refine at_opN (some 94) rfl rfl rfl (by dsimp only [putD, List.set]) ?_
        refine at_opN (some 95) rfl rfl rfl (by dsimp only [putD, List.set]) ?_
        refine at_opN (some 96) rfl rfl rfl (by dsimp only [putD, List.set]) ?_
        refine at_opN (some 97) rfl rfl rfl (by dsimp only [putD, List.set]) ?_
        refine at_opN (some 98) rfl rfl rfl (by dsimp only [putD, List.set]) ?_
        refine at_opN (some 99) rfl rfl rfl (by dsimp only [putD, List.set]) ?_
        refine at_pkc false 87 100 rfl rfl rfl rfl rfl rfl (by dsimp only [constD]) (by dsimp only [List.set]) ?_
        refine at_mv 100 2 rfl rfl rfl (.inr rfl) rfl (by dsimp only [List.set]) ?_
        refine at_end rfl ?_
        refine at_ret rfl (ret_one (t := 2) rfl rfl ?_ rfl)
        first | rfl | (simp_all; done)
    · dsimp only [List.set] at he; subst he
      refine at_opN (some 79) rfl rfl rfl (by dsimp only [putD, List.set]) ?_
      refine at_opN (some 80) rfl rfl rfl (by dsimp only [putD, List.set]) ?_
      refine at_opN (some 81) rfl rfl rfl (by dsimp only [putD, List.set]) ?_
      refine at_pkc false 78 82 rfl rfl rfl rfl rfl rfl (by dsimp only [constD]) (by dsimp only [List.set]) ?_
      refine at_mv 8 83 rfl rfl rfl (.inl rfl) rfl (by dsimp only [List.set]) ?_
      refine at_mv 7 84 rfl rfl rfl (.inl rfl) rfl (by dsimp only [List.set]) ?_
      refine at_op (some 85) rfl rfl rfl rfl (op_call0 rfl rfl rfl rfl (leq_is _ _ e1)) (by dsimp only [putD, List.set]) ?_
      refine at_op (some 86) rfl rfl rfl rfl (op_eqlB rfl uBool (.inl rfl)) (by dsimp only [putD, List.set]) ?_
      refine at_mv 86 87 rfl rfl rfl (.inl rfl) rfl (by dsimp only [List.set]) ?_
      refine at_split 87 rfl (fun hb5 env' he => ?_) (fun hb5 env' he => ?_)
      · dsimp only [List.set] at he; subst he
        refine at_mv 7 88 rfl rfl rfl (.inl rfl) rfl (by dsimp only [List.set]) ?_
        refine at_mv 5 89 rfl rfl rfl (.inl rfl) rfl (by dsimp only [List.set]) ?_
        refine at_op (some 90) rfl rfl rfl rfl (op_call0 rfl rfl rfl rfl (leq_spec _ _)) (by dsimp only [putD, List.set]) ?_
        refine at_mv 90 91 rfl rfl rfl (.inl rfl) rfl (by dsimp only [List.set]) ?_
        refine at_split 91 rfl (fun hb6 env' he => ?_) (fun hb6 env' he => ?_)
        · dsimp only [List.set] at he; subst he
          refine at_mv 7 92 rfl rfl rfl (.inl rfl) rfl (by dsimp only [List.set]) ?_
          refine at_mv 6 93 rfl rfl rfl (.inl rfl) rfl (by dsimp only [List.set]) ?_
          refine at_op (some 94) rfl rfl rfl rfl (op_call0 rfl rfl rfl rfl (leq_spec _ _)) (by dsimp only [putD, List.set]) ?_
          refine at_pk true 91 94 95 rfl rfl rfl rfl rfl rfl rfl (by dsimp only [List.set]) ?_
          refine at_mv 7 96 rfl rfl rfl (.inl rfl) rfl (by dsimp only [List.set]) ?_
          refine at_mv 10 97 rfl rfl rfl (.inl rfl) rfl (by dsimp only [List.set]) ?_
          refine at_op (some 98) rfl rfl rfl rfl (op_call0 rfl rfl rfl rfl (leq_is _ _ e2)) (by dsimp only [putD, List.set]) ?_
          refine at_op (some 99) rfl rfl rfl rfl (op_eqlB rfl uBool (.inl rfl)) (by dsimp only [putD, List.set]) ?_
          refine at_pk true 87 99 100 rfl rfl rfl rfl rfl rfl rfl (by dsimp only [List.set]) ?_
          refine at_mv 100 2 rfl rfl rfl (.inr rfl) rfl (by dsimp only [List.set]) ?_
          refine at_end rfl ?_
          refine at_ret rfl (ret_one (t := 2) rfl rfl ?_ rfl)
          first | rfl | (simp_all; done)
        · dsimp only [List.set] at he; subst he
          refine at_opN (some 92) rfl rfl rfl (by dsimp only [putD, List.set]) ?_
          refine at_opN (some 93) rfl rfl rfl (by dsimp only [putD, List.set]) ?_
          refine at_opN (some 94) rfl rfl rfl (by dsimp only [putD, List.set]) ?_
          refine at_pkc false 91 95 rfl rfl rfl rfl rfl rfl (by dsimp only [constD]) (by dsimp only [List.set]) ?_
          refine at_mv 7 96 rfl rfl rfl (.inl rfl) rfl (by dsimp only [List.set]) ?_
          refine at_mv 10 97 rfl rfl rfl (.inl rfl) rfl (by dsimp only [List.set]) ?_
          refine at_op (some 98) rfl rfl rfl rfl (op_call0 rfl rfl rfl rfl (leq_is _ _ e2)) (by dsimp only [putD, List.set]) ?_
          refine at_op (some 99) rfl rfl rfl rfl (op_eqlB rfl uBool (.inl rfl)) (by dsimp only [putD, List.set]) ?_
          refine at_pk true 87 99 100 rfl rfl rfl rfl rfl rfl rfl (by dsimp only [List.set]) ?_
          refine at_mv 100 2 rfl rfl rfl (.inr rfl) rfl (by dsimp only [List.set]) ?_
          refine at_end rfl ?_
          refine at_ret rfl (ret_one (t := 2) rfl rfl ?_ rfl)
          first | rfl | (simp_all; done)
      · dsimp only [List.set] at he; subst he
        refine at_opN (some 88) rfl rfl rfl (by dsimp only [putD, List.set]) ?_
        refine at_opN (some 89) rfl rfl rfl (by dsimp only [putD, List.set]) ?_
        refine at_opN (some 90) rfl rfl rfl (by dsimp only [putD, List.set]) ?_
        refine at_opN (some 91) rfl rfl rfl (by dsimp only [putD, List.set]) ?_
        refine at_opN (some 92) rfl rfl rfl (by dsimp only [putD, List.set]) ?_
        refine at_opN (some 93) rfl rfl rfl (by dsimp only [putD, List.set]) ?_
        refine at_opN (some 94) rfl rfl rfl (by dsimp only [putD, List.set]) ?_
        refine at_opN (some 95) rfl rfl rfl (by dsimp only [putD, List.set]) ?_
        refine at_opN (some 96) rfl rfl rfl (by dsimp only [putD, List.set]) ?_
        refine at_opN (some 97) rfl rfl rfl (by dsimp only [putD, List.set]) ?_
        refine at_opN (some 98) rfl rfl rfl (by dsimp only [putD, List.set]) ?_
        refine at_opN (some 99) rfl rfl rfl (by dsimp only [putD, List.set]) ?_
        refine at_pkc false 87 100 rfl rfl rfl rfl rfl rfl (by dsimp only [constD]) (by dsimp only [List.set]) ?_
        refine at_mv 100 2 rfl rfl rfl (.inr rfl) rfl (by dsimp only [List.set]) ?_
        refine at_end rfl ?_
        refine at_ret rfl (ret_one (t := 2) rfl rfl ?_ rfl)
        first | rfl | (simp_all; done)

end Go.Proofs.Ytoofgniepbidnaa
