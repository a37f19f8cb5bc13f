/-
  The laws of order, of sums undone and of comparing, walked.
-/
import Derived.Test.YtoofgniepbidnaaLc
namespace Go.Proofs.Ytoofgniepbidnaa
open Go.Dv

noncomputable def cOrder : Code := Try.f5.body.getD .skip
set_option maxRecDepth 20000 in
theorem vorder_spec (l : List Int) : FSpec PP 5 [dl l] σ0 (db true) σ0 := by
  refine spec_at cOrder Try.func5 rfl (by kernel_rfl) (by first | decide | simp) _ (by dsimp only [Try.f5, List.length, Nat.reduceAdd, Nat.reduceSub, List.replicate, List.cons_append, List.nil_append]) ?_
  refine at_seq [0] [1] rfl ?_
  refine at_region rfl ?_
  refine at_mc 2 rfl rfl rfl (.inr rfl) (by dsimp only [constD]) (by dsimp only [List.set]) ?_
  refine at_end rfl ?_
  refine at_seq [1, 0] [1, 1] rfl ?_
  refine at_seq [1, 0, 0] [1, 0, 1] rfl ?_
  refine at_region rfl ?_
  refine at_op (some 8) rfl rfl rfl rfl (op_call0 rfl rfl rfl rfl (awake_spec)) (by dsimp only [putD, List.set]) ?_
  refine at_op (some 9) rfl rfl rfl rfl (op_un rfl rfl) (by dsimp only [putD, List.set]) ?_
  refine at_mv 9 10 rfl rfl rfl (.inl rfl) rfl (by dsimp only [List.set]) ?_
  refine at_mv 0 11 rfl rfl rfl (.inl rfl) rfl (by dsimp only [List.set]) ?_
  refine at_op (some 12) rfl rfl rfl rfl (op_call0 rfl rfl rfl rfl (few_spec l)) (by dsimp only [putD, List.set]) ?_
  refine at_op (some 13) rfl rfl rfl rfl (op_un rfl rfl) (by dsimp only [putD, List.set]) ?_
  refine at_pk false 10 13 14 rfl rfl rfl rfl rfl rfl rfl (by dsimp only [List.set]) ?_
  refine at_end rfl ?_
  refine at_cond [1, 0, 1, 0] [1, 0, 1, 1] rfl rfl (fun hc1 => ?_) (fun hc1 => ?_)
  · skip
    refine at_seq [1, 0, 1, 0, 0] [1, 0, 1, 0, 1] rfl ?_
    refine at_region rfl ?_
    refine at_op (some 15) rfl rfl rfl rfl (op_call0 rfl rfl rfl rfl (awake_spec)) (by dsimp only [putD, List.set]) ?_
    refine at_mv 15 2 rfl rfl rfl (.inr rfl) rfl (by dsimp only [List.set]) ?_
    refine at_end rfl ?_
    refine at_ret rfl (ret_one (t := 2) rfl rfl ?_ rfl)
    first | rfl | (simp_all; done)
  · skip
    have hs : l.length ≤ 1000000 := by simp at hc1; omega
    refine at_skip rfl ?_
    refine at_seq [1, 1, 0] [1, 1, 1] rfl ?_
    refine at_region rfl ?_
    refine at_mv 0 16 rfl rfl rfl (.inl rfl) rfl (by dsimp only [List.set]) ?_
    refine at_opS (some 17) rfl rfl rfl rfl (op_call0_new rfl rfl rfl rfl (new_spec l)) (by dsimp only [putD, List.set]) (by dsimp only [List.set, List.append, List.cons_append, List.nil_append, cellsD, List.map, repl, List.length, Nat.reduceAdd, if_true, ↓reduceIte]; first | done | rfl) ?_
    refine at_mv 17 3 rfl rfl rfl (.inr rfl) rfl (by dsimp only [List.set]) ?_
    refine at_end rfl ?_
    refine at_seq [1, 1, 1, 0] [1, 1, 1, 1] rfl ?_
    refine at_region rfl ?_
    refine at_mv 3 18 rfl rfl rfl (.inl rfl) rfl (by dsimp only [List.set]) ?_
    refine at_opS (some 19) rfl rfl rfl rfl (op_call1 rfl rfl rfl rfl rfl (.ptr (.pl rfl .nil)) rfl (next_spec l _ _ hs _ (by omega))) (by dsimp only [putD, List.set]) (by dsimp only [List.set, List.append, List.cons_append, List.nil_append, cellsD, List.map, repl, List.length, Nat.reduceAdd, if_true, ↓reduceIte]; first | done | rfl) ?_
    obtain ⟨n, hn⟩ := Int.eq_ofNat_of_zero_le (nextV_range (n := 7) (s := dkSt l 0 11400714819323198485) (by omega)).1
    have h6n : n ≤ 6 := by have := (nextV_range (n := 7) (s := dkSt l 0 11400714819323198485) (by omega)).2; omega
    rw [hn]
    refine at_mv 19 4 rfl rfl rfl (.inr rfl) rfl (by dsimp only [List.set]) ?_
    refine at_end rfl ?_
    refine at_seq [1, 1, 1, 1, 0] [1, 1, 1, 1, 1] rfl ?_
    refine at_region rfl ?_
    refine at_mv 3 20 rfl rfl rfl (.inl rfl) rfl (by dsimp only [List.set]) ?_
    refine at_mv 4 21 rfl rfl rfl (.inl rfl) rfl (by dsimp only [List.set]) ?_
    refine at_opS (some 22) rfl rfl rfl rfl (op_call1 rfl rfl rfl rfl rfl (.ptr (.pl rfl (.pl rfl .nil))) rfl (vectorU_spec l hs true _ (by omega) _ _)) (by dsimp only [putD, List.set]) (by dsimp only [List.set, List.append, List.cons_append, List.nil_append, cellsD, List.map, repl, List.length, Nat.reduceAdd, if_true, ↓reduceIte]; first | done | rfl) ?_
    refine at_mv 3 23 rfl rfl rfl (.inl rfl) rfl (by dsimp only [List.set]) ?_
    refine at_mv 4 24 rfl rfl rfl (.inl rfl) rfl (by dsimp only [List.set]) ?_
    refine at_opS (some 25) rfl rfl rfl rfl (op_call1 rfl rfl rfl rfl rfl (.ptr (.pl rfl (.pl rfl .nil))) rfl (vectorU_spec l hs true _ (by omega) _ _)) (by dsimp only [putD, List.set]) (by dsimp only [List.set, List.append, List.cons_append, List.nil_append, cellsD, List.map, repl, List.length, Nat.reduceAdd, if_true, ↓reduceIte]; first | done | rfl) ?_
    refine at_mv 3 26 rfl rfl rfl (.inl rfl) rfl (by dsimp only [List.set]) ?_
    refine at_mv 4 27 rfl rfl rfl (.inl rfl) rfl (by dsimp only [List.set]) ?_
    refine at_opS (some 28) rfl rfl rfl rfl (op_call1 rfl rfl rfl rfl rfl (.ptr (.pl rfl (.pl rfl .nil))) rfl (vectorU_spec l hs true _ (by omega) _ _)) (by dsimp only [putD, List.set]) (by dsimp only [List.set, List.append, List.cons_append, List.nil_append, cellsD, List.map, repl, List.length, Nat.reduceAdd, if_true, ↓reduceIte]; first | done | rfl) ?_
    refine at_mv 22 5 rfl rfl rfl (.inr rfl) rfl (by dsimp only [List.set]) ?_
    refine at_mv 25 6 rfl rfl rfl (.inr rfl) rfl (by dsimp only [List.set]) ?_
    refine at_mv 28 7 rfl rfl rfl (.inr rfl) rfl (by dsimp only [List.set]) ?_
    refine at_end rfl ?_
    obtain ⟨A, hA⟩ : ∃ A, vecM l true n (dkAt l 0, dkSt l 0 11400714819323198485) = A := ⟨_, rfl⟩
    rw [hA]
    have vA : valid A.1 = true := by rw [← hA]; exact vecM_valid h6n
    have lA : A.1.length = n := by rw [← hA]; exact (vecM_ok _ _ _ _).1
    have qA : A.1.length ≤ 1000000 := by omega
    obtain ⟨B, hB⟩ : ∃ B, vecM l true n (A.2.1, A.2.2) = B := ⟨_, rfl⟩
    rw [hB]
    have vB : valid B.1 = true := by rw [← hB]; exact vecM_valid h6n
    have lB : B.1.length = n := by rw [← hB]; exact (vecM_ok _ _ _ _).1
    have qB : B.1.length ≤ 1000000 := by omega
    obtain ⟨C, hC⟩ : ∃ C, vecM l true n (B.2.1, B.2.2) = C := ⟨_, rfl⟩
    rw [hC]
    have vC : valid C.1 = true := by rw [← hC]; exact vecM_valid h6n
    have lC : C.1.length = n := by rw [← hC]; exact (vecM_ok _ _ _ _).1
    have qC : C.1.length ≤ 1000000 := by omega
    have hT : leq A.1 B.1 = true → leq B.1 C.1 = true → leq A.1 C.1 = true := by rw [leq_of vA vB (by omega), leq_of vA vC (by omega), leq_of vB vC (by omega)]; exact below_trans (by omega) (by omega)
    have hS : leq A.1 B.1 = true → leq B.1 A.1 = true → cmpV A.1 B.1 = 0 := by rw [leq_of vA vB (by omega), leq_of vB vA (by omega)]; intro h1 h2; rw [below_antisymm (by omega) h1 h2, cmpV_refl]
    have hQ : leq A.1 B.1 = true → cmpV A.1 B.1 ≤ 0 := by rw [leq_of vA vB (by omega)]; exact cmpV_below (by omega)
    refine at_seq [1, 1, 1, 1, 1, 0] [1, 1, 1, 1, 1, 1] rfl ?_
    refine at_seq [1, 1, 1, 1, 1, 0, 0] [1, 1, 1, 1, 1, 0, 1] rfl ?_
    refine at_region rfl ?_
    refine at_mv 5 29 rfl rfl rfl (.inl rfl) rfl (by dsimp only [List.set]) ?_
    refine at_mv 5 30 rfl rfl rfl (.inl rfl) rfl (by dsimp only [List.set]) ?_
    refine at_op (some 31) rfl rfl rfl rfl (op_call0 rfl rfl rfl rfl (leq_is _ _ (v := true) (by rw [leq_of vA vA rfl]; exact below_refl _))) (by dsimp only [putD, List.set]) ?_
    refine at_op (some 32) rfl rfl rfl rfl (op_un rfl rfl) (by dsimp only [putD, List.set]) ?_
    refine at_mv 32 33 rfl rfl rfl (.inl rfl) rfl (by dsimp only [List.set]) ?_
    refine at_mv 5 34 rfl rfl rfl (.inl rfl) rfl (by dsimp only [List.set]) ?_
    refine at_mv 6 35 rfl rfl rfl (.inl rfl) rfl (by dsimp only [List.set]) ?_
    refine at_op (some 36) rfl rfl rfl rfl (op_call0 rfl rfl rfl rfl (leq_spec _ _)) (by dsimp only [putD, List.set]) ?_
    refine at_mv 36 37 rfl rfl rfl (.inl rfl) rfl (by dsimp only [List.set]) ?_
    refine at_split 37 rfl (fun hb2 env' he => ?_) (fun hb2 env' he => ?_)
    · dsimp only [List.set] at he; subst he
      refine at_mv 6 38 rfl rfl rfl (.inl rfl) rfl (by dsimp only [List.set]) ?_
      refine at_mv 7 39 rfl rfl rfl (.inl rfl) rfl (by dsimp only [List.set]) ?_
      refine at_op (some 40) rfl rfl rfl rfl (op_call0 rfl rfl rfl rfl (leq_spec _ _)) (by dsimp only [putD, List.set]) ?_
      refine at_pk true 37 40 41 rfl rfl rfl rfl rfl rfl rfl (by dsimp only [List.set]) ?_
      refine at_mv 41 42 rfl rfl rfl (.inl rfl) rfl (by dsimp only [List.set]) ?_
      refine at_split 42 rfl (fun hb3 env' he => ?_) (fun hb3 env' he => ?_)
      · dsimp only [List.set] at he; subst he
        refine at_mv 5 43 rfl rfl rfl (.inl rfl) rfl (by dsimp only [List.set]) ?_
        refine at_mv 7 44 rfl rfl rfl (.inl rfl) rfl (by dsimp only [List.set]) ?_
        refine at_op (some 45) rfl rfl rfl rfl (op_call0 rfl rfl rfl rfl (leq_spec _ _)) (by dsimp only [putD, List.set]) ?_
        refine at_op (some 46) rfl rfl rfl rfl (op_un rfl rfl) (by dsimp only [putD, List.set]) ?_
        refine at_pk true 42 46 47 rfl rfl rfl rfl rfl rfl rfl (by dsimp only [List.set]) ?_
        refine at_pk false 33 47 48 rfl rfl rfl rfl rfl rfl rfl (by dsimp only [List.set]) ?_
        refine at_mv 48 49 rfl rfl rfl (.inl rfl) rfl (by dsimp only [List.set]) ?_
        refine at_split 49 rfl (fun hb4 env' he => ?_) (fun hb4 env' he => ?_)
        · dsimp only [List.set] at he; subst he
          refine at_opN (some 50) rfl rfl rfl (by dsimp only [putD, List.set]) ?_
          refine at_opN (some 51) rfl rfl rfl (by dsimp only [putD, List.set]) ?_
          refine at_opN (some 52) rfl rfl rfl (by dsimp only [putD, List.set]) ?_
          refine at_opN (some 53) rfl rfl rfl (by dsimp only [putD, List.set]) ?_
          refine at_opN (some 54) rfl rfl rfl (by dsimp only [putD, List.set]) ?_
          refine at_opN (some 55) rfl rfl rfl (by dsimp only [putD, List.set]) ?_
          refine at_opN (some 56) rfl rfl rfl (by dsimp only [putD, List.set]) ?_
          refine at_opN (some 57) rfl rfl rfl (by dsimp only [putD, List.set]) ?_
          refine at_opN (some 58) rfl rfl rfl (by dsimp only [putD, List.set]) ?_
          refine at_opN (some 59) rfl rfl rfl (by dsimp only [putD, List.set]) ?_
          refine at_opN (some 60) rfl rfl rfl (by dsimp only [putD, List.set]) ?_
          refine at_opN (some 61) rfl rfl rfl (by dsimp only [putD, List.set]) ?_
          refine at_opN (some 62) rfl rfl rfl (by dsimp only [putD, List.set]) ?_
          refine at_opN (some 63) rfl rfl rfl (by dsimp only [putD, List.set]) ?_
          refine at_pkc true 49 64 rfl rfl rfl rfl rfl rfl (by dsimp only [constD]) (by dsimp only [List.set]) ?_
          refine at_end rfl ?_
          refine at_true [1, 1, 1, 1, 1, 0, 1, 0] [1, 1, 1, 1, 1, 0, 1, 1] rfl rfl ?_
          refine at_seq [1, 1, 1, 1, 1, 0, 1, 0, 0] [1, 1, 1, 1, 1, 0, 1, 0, 1] rfl ?_
          refine at_region rfl ?_
          refine at_mc 2 rfl rfl rfl (.inr rfl) (by dsimp only [constD]) (by dsimp only [List.set]) ?_
          refine at_end rfl ?_
          refine at_ret rfl (ret_one (t := 2) rfl rfl ?_ rfl)
          first | rfl | (simp_all; done)
        · dsimp only [List.set] at he; subst he
          refine at_mv 5 50 rfl rfl rfl (.inl rfl) rfl (by dsimp only [List.set]) ?_
          refine at_mv 6 51 rfl rfl rfl (.inl rfl) rfl (by dsimp only [List.set]) ?_
          refine at_op (some 52) rfl rfl rfl rfl (op_call0 rfl rfl rfl rfl (leq_spec _ _)) (by dsimp only [putD, List.set]) ?_
          refine at_mv 52 53 rfl rfl rfl (.inl rfl) rfl (by dsimp only [List.set]) ?_
          refine at_split 53 rfl (fun hb5 env' he => ?_) (fun hb5 env' he => ?_)
          · dsimp only [List.set] at he; subst he
            refine at_mv 6 54 rfl rfl rfl (.inl rfl) rfl (by dsimp only [List.set]) ?_
            refine at_mv 5 55 rfl rfl rfl (.inl rfl) rfl (by dsimp only [List.set]) ?_
            refine at_op (some 56) rfl rfl rfl rfl (op_call0 rfl rfl rfl rfl (leq_spec _ _)) (by dsimp only [putD, List.set]) ?_
            refine at_pk true 53 56 57 rfl rfl rfl rfl rfl rfl rfl (by dsimp only [List.set]) ?_
            refine at_mv 57 58 rfl rfl rfl (.inl rfl) rfl (by dsimp only [List.set]) ?_
            refine at_split 58 rfl (fun hb6 env' he => ?_) (fun hb6 env' he => ?_)
            · dsimp only [List.set] at he; subst he
              refine at_mv 5 59 rfl rfl rfl (.inl rfl) rfl (by dsimp only [List.set]) ?_
              refine at_mv 6 60 rfl rfl rfl (.inl rfl) rfl (by dsimp only [List.set]) ?_
              refine at_op (some 61) rfl rfl rfl rfl (op_call0 rfl rfl rfl rfl (same_spec _ _ qA)) (by dsimp only [putD, List.set]) ?_
              refine at_op (some 62) rfl rfl rfl rfl (op_un rfl rfl) (by dsimp only [putD, List.set]) ?_
              refine at_pk true 58 62 63 rfl rfl rfl rfl rfl rfl rfl (by dsimp only [List.set]) ?_
              refine at_pk false 49 63 64 rfl rfl rfl rfl rfl rfl rfl (by dsimp only [List.set]) ?_
              refine at_end rfl ?_
              refine at_cond [1, 1, 1, 1, 1, 0, 1, 0] [1, 1, 1, 1, 1, 0, 1, 1] rfl rfl (fun hc7 => ?_) (fun hc7 => ?_)
              · skip
                refine at_seq [1, 1, 1, 1, 1, 0, 1, 0, 0] [1, 1, 1, 1, 1, 0, 1, 0, 1] rfl ?_
                refine at_region rfl ?_
                refine at_mc 2 rfl rfl rfl (.inr rfl) (by dsimp only [constD]) (by dsimp only [List.set]) ?_
                refine at_end rfl ?_
                refine at_ret rfl (ret_one (t := 2) rfl rfl ?_ rfl)
                first | rfl | (simp_all; done)
              · skip
                refine at_skip rfl ?_
                refine at_seq [1, 1, 1, 1, 1, 1, 0] [1, 1, 1, 1, 1, 1, 1] rfl ?_
                refine at_region rfl ?_
                refine at_mv 5 65 rfl rfl rfl (.inl rfl) rfl (by dsimp only [List.set]) ?_
                refine at_mv 6 66 rfl rfl rfl (.inl rfl) rfl (by dsimp only [List.set]) ?_
                refine at_op (some 67) rfl rfl rfl rfl (op_call0 rfl rfl rfl rfl (leq_spec _ _)) (by dsimp only [putD, List.set]) ?_
                refine at_op (some 68) rfl rfl rfl rfl (op_un rfl rfl) (by dsimp only [putD, List.set]) ?_
                refine at_mv 68 69 rfl rfl rfl (.inl rfl) rfl (by dsimp only [List.set]) ?_
                refine at_split 69 rfl (fun hb8 env' he => ?_) (fun hb8 env' he => ?_)
                · dsimp only [List.set] at he; subst he
                  refine at_opN (some 70) rfl rfl rfl (by dsimp only [putD, List.set]) ?_
                  refine at_opN (some 71) rfl rfl rfl (by dsimp only [putD, List.set]) ?_
                  refine at_opN (some 72) rfl rfl rfl (by dsimp only [putD, List.set]) ?_
                  refine at_opN (some 73) rfl rfl rfl (by dsimp only [putD, List.set]) ?_
                  refine at_pkc true 69 74 rfl rfl rfl rfl rfl rfl (by dsimp only [constD]) (by dsimp only [List.set]) ?_
                  refine at_mv 74 2 rfl rfl rfl (.inr rfl) rfl (by dsimp only [List.set]) ?_
                  refine at_end rfl ?_
                  refine at_ret rfl (ret_one (t := 2) rfl rfl ?_ rfl)
                  first | rfl | (simp_all; done)
                · dsimp only [List.set] at he; subst he
                  refine at_mv 5 70 rfl rfl rfl (.inl rfl) rfl (by dsimp only [List.set]) ?_
                  refine at_mv 6 71 rfl rfl rfl (.inl rfl) rfl (by dsimp only [List.set]) ?_
                  refine at_op (some 72) rfl rfl rfl rfl (op_call0 rfl rfl rfl rfl (vcompare_spec _ _ qA)) (by dsimp only [putD, List.set]) ?_
                  refine at_op (some 73) rfl rfl rfl rfl (op_binI rfl rfl) (by dsimp only [putD, List.set]) ?_
                  refine at_pk false 69 73 74 rfl rfl rfl rfl rfl rfl rfl (by dsimp only [List.set]) ?_
                  refine at_mv 74 2 rfl rfl rfl (.inr rfl) rfl (by dsimp only [List.set]) ?_
                  refine at_end rfl ?_
                  refine at_ret rfl (ret_one (t := 2) rfl rfl ?_ rfl)
                  first | rfl | (simp_all; done)
            · dsimp only [List.set] at he; subst he
              refine at_opN (some 59) rfl rfl rfl (by dsimp only [putD, List.set]) ?_
              refine at_opN (some 60) rfl rfl rfl (by dsimp only [putD, List.set]) ?_
              refine at_opN (some 61) rfl rfl rfl (by dsimp only [putD, List.set]) ?_
              refine at_opN (some 62) rfl rfl rfl (by dsimp only [putD, List.set]) ?_
              refine at_pkc false 58 63 rfl rfl rfl rfl rfl rfl (by dsimp only [constD]) (by dsimp only [List.set]) ?_
              refine at_pk false 49 63 64 rfl rfl rfl rfl rfl rfl rfl (by dsimp only [List.set]) ?_
              refine at_end rfl ?_
              refine at_false [1, 1, 1, 1, 1, 0, 1, 0] [1, 1, 1, 1, 1, 0, 1, 1] rfl rfl ?_
              refine at_skip rfl ?_
              refine at_seq [1, 1, 1, 1, 1, 1, 0] [1, 1, 1, 1, 1, 1, 1] rfl ?_
              refine at_region rfl ?_
              refine at_mv 5 65 rfl rfl rfl (.inl rfl) rfl (by dsimp only [List.set]) ?_
              refine at_mv 6 66 rfl rfl rfl (.inl rfl) rfl (by dsimp only [List.set]) ?_
              refine at_op (some 67) rfl rfl rfl rfl (op_call0 rfl rfl rfl rfl (leq_spec _ _)) (by dsimp only [putD, List.set]) ?_
              refine at_op (some 68) rfl rfl rfl rfl (op_un rfl rfl) (by dsimp only [putD, List.set]) ?_
              refine at_mv 68 69 rfl rfl rfl (.inl rfl) rfl (by dsimp only [List.set]) ?_
              refine at_split 69 rfl (fun hb9 env' he => ?_) (fun hb9 env' he => ?_)
              · dsimp only [List.set] at he; subst he
                refine at_opN (some 70) rfl rfl rfl (by dsimp only [putD, List.set]) ?_
                refine at_opN (some 71) rfl rfl rfl (by dsimp only [putD, List.set]) ?_
                refine at_opN (some 72) rfl rfl rfl (by dsimp only [putD, List.set]) ?_
                refine at_opN (some 73) rfl rfl rfl (by dsimp only [putD, List.set]) ?_
                refine at_pkc true 69 74 rfl rfl rfl rfl rfl rfl (by dsimp only [constD]) (by dsimp only [List.set]) ?_
                refine at_mv 74 2 rfl rfl rfl (.inr rfl) rfl (by dsimp only [List.set]) ?_
                refine at_end rfl ?_
                refine at_ret rfl (ret_one (t := 2) rfl rfl ?_ rfl)
                first | rfl | (simp_all; done)
              · dsimp only [List.set] at he; subst he
                refine at_mv 5 70 rfl rfl rfl (.inl rfl) rfl (by dsimp only [List.set]) ?_
                refine at_mv 6 71 rfl rfl rfl (.inl rfl) rfl (by dsimp only [List.set]) ?_
                refine at_op (some 72) rfl rfl rfl rfl (op_call0 rfl rfl rfl rfl (vcompare_spec _ _ qA)) (by dsimp only [putD, List.set]) ?_
                refine at_op (some 73) rfl rfl rfl rfl (op_binI rfl rfl) (by dsimp only [putD, List.set]) ?_
                refine at_pk false 69 73 74 rfl rfl rfl rfl rfl rfl rfl (by dsimp only [List.set]) ?_
                refine at_mv 74 2 rfl rfl rfl (.inr rfl) rfl (by dsimp only [List.set]) ?_
                refine at_end rfl ?_
                refine at_ret rfl (ret_one (t := 2) rfl rfl ?_ rfl)
                first | rfl | (simp_all; done)
          · dsimp only [List.set] at he; subst he
            refine at_opN (some 54) rfl rfl rfl (by dsimp only [putD, List.set]) ?_
            refine at_opN (some 55) rfl rfl rfl (by dsimp only [putD, List.set]) ?_
            refine at_opN (some 56) rfl rfl rfl (by dsimp only [putD, List.set]) ?_
            refine at_pkc false 53 57 rfl rfl rfl rfl rfl rfl (by dsimp only [constD]) (by dsimp only [List.set]) ?_
            refine at_mv 57 58 rfl rfl rfl (.inl rfl) rfl (by dsimp only [List.set]) ?_
            refine at_opN (some 59) rfl rfl rfl (by dsimp only [putD, List.set]) ?_
            refine at_opN (some 60) rfl rfl rfl (by dsimp only [putD, List.set]) ?_
            refine at_opN (some 61) rfl rfl rfl (by dsimp only [putD, List.set]) ?_
            refine at_opN (some 62) rfl rfl rfl (by dsimp only [putD, List.set]) ?_
            refine at_pkc false 58 63 rfl rfl rfl rfl rfl rfl (by dsimp only [constD]) (by dsimp only [List.set]) ?_
            refine at_pk false 49 63 64 rfl rfl rfl rfl rfl rfl rfl (by dsimp only [List.set]) ?_
            refine at_end rfl ?_
            refine at_false [1, 1, 1, 1, 1, 0, 1, 0] [1, 1, 1, 1, 1, 0, 1, 1] rfl rfl ?_
            refine at_skip rfl ?_
            refine at_seq [1, 1, 1, 1, 1, 1, 0] [1, 1, 1, 1, 1, 1, 1] rfl ?_
            refine at_region rfl ?_
            refine at_mv 5 65 rfl rfl rfl (.inl rfl) rfl (by dsimp only [List.set]) ?_
            refine at_mv 6 66 rfl rfl rfl (.inl rfl) rfl (by dsimp only [List.set]) ?_
            refine at_op (some 67) rfl rfl rfl rfl (op_call0 rfl rfl rfl rfl (leq_spec _ _)) (by dsimp only [putD, List.set]) ?_
            refine at_op (some 68) rfl rfl rfl rfl (op_un rfl rfl) (by dsimp only [putD, List.set]) ?_
            refine at_mv 68 69 rfl rfl rfl (.inl rfl) rfl (by dsimp only [List.set]) ?_
            refine at_split 69 rfl (fun hb10 env' he => ?_) (fun hb10 env' he => ?_)
            · dsimp only [List.set] at he; subst he
              refine at_opN (some 70) rfl rfl rfl (by dsimp only [putD, List.set]) ?_
              refine at_opN (some 71) rfl rfl rfl (by dsimp only [putD, List.set]) ?_
              refine at_opN (some 72) rfl rfl rfl (by dsimp only [putD, List.set]) ?_
              refine at_opN (some 73) rfl rfl rfl (by dsimp only [putD, List.set]) ?_
              refine at_pkc true 69 74 rfl rfl rfl rfl rfl rfl (by dsimp only [constD]) (by dsimp only [List.set]) ?_
              refine at_mv 74 2 rfl rfl rfl (.inr rfl) rfl (by dsimp only [List.set]) ?_
              refine at_end rfl ?_
              refine at_ret rfl (ret_one (t := 2) rfl rfl ?_ rfl)
              first | rfl | (simp_all; done)
            · dsimp only [List.set] at he; subst he
              refine at_mv 5 70 rfl rfl rfl (.inl rfl) rfl (by dsimp only [List.set]) ?_
              refine at_mv 6 71 rfl rfl rfl (.inl rfl) rfl (by dsimp only [List.set]) ?_
              refine at_op (some 72) rfl rfl rfl rfl (op_call0 rfl rfl rfl rfl (vcompare_spec _ _ qA)) (by dsimp only [putD, List.set]) ?_
              refine at_op (some 73) rfl rfl rfl rfl (op_binI rfl rfl) (by dsimp only [putD, List.set]) ?_
              refine at_pk false 69 73 74 rfl rfl rfl rfl rfl rfl rfl (by dsimp only [List.set]) ?_
              refine at_mv 74 2 rfl rfl rfl (.inr rfl) rfl (by dsimp only [List.set]) ?_
              refine at_end rfl ?_
              refine at_ret rfl (ret_one (t := 2) rfl rfl ?_ rfl)
              first | rfl | (simp_all; done)
      · dsimp only [List.set] at he; subst he
        refine at_opN (some 43) rfl rfl rfl (by dsimp only [putD, List.set]) ?_
        refine at_opN (some 44) rfl rfl rfl (by dsimp only [putD, List.set]) ?_
        refine at_opN (some 45) rfl rfl rfl (by dsimp only [putD, List.set]) ?_
        refine at_opN (some 46) rfl rfl rfl (by dsimp only [putD, List.set]) ?_
        refine at_pkc false 42 47 rfl rfl rfl rfl rfl rfl (by dsimp only [constD]) (by dsimp only [List.set]) ?_
        refine at_pk false 33 47 48 rfl rfl rfl rfl rfl rfl rfl (by dsimp only [List.set]) ?_
        refine at_mv 48 49 rfl rfl rfl (.inl rfl) rfl (by dsimp only [List.set]) ?_
        refine at_mv 5 50 rfl rfl rfl (.inl rfl) rfl (by dsimp only [List.set]) ?_
        refine at_mv 6 51 rfl rfl rfl (.inl rfl) rfl (by dsimp only [List.set]) ?_
        refine at_op (some 52) rfl rfl rfl rfl (op_call0 rfl rfl rfl rfl (leq_spec _ _)) (by dsimp only [putD, List.set]) ?_
        refine at_mv 52 53 rfl rfl rfl (.inl rfl) rfl (by dsimp only [List.set]) ?_
        refine at_split 53 rfl (fun hb11 env' he => ?_) (fun hb11 env' he => ?_)
        · dsimp only [List.set] at he; subst he
          refine at_mv 6 54 rfl rfl rfl (.inl rfl) rfl (by dsimp only [List.set]) ?_
          refine at_mv 5 55 rfl rfl rfl (.inl rfl) rfl (by dsimp only [List.set]) ?_
          refine at_op (some 56) rfl rfl rfl rfl (op_call0 rfl rfl rfl rfl (leq_spec _ _)) (by dsimp only [putD, List.set]) ?_
          refine at_pk true 53 56 57 rfl rfl rfl rfl rfl rfl rfl (by dsimp only [List.set]) ?_
          refine at_mv 57 58 rfl rfl rfl (.inl rfl) rfl (by dsimp only [List.set]) ?_
          refine at_split 58 rfl (fun hb12 env' he => ?_) (fun hb12 env' he => ?_)
          · dsimp only [List.set] at he; subst he
            refine at_mv 5 59 rfl rfl rfl (.inl rfl) rfl (by dsimp only [List.set]) ?_
            refine at_mv 6 60 rfl rfl rfl (.inl rfl) rfl (by dsimp only [List.set]) ?_
            refine at_op (some 61) rfl rfl rfl rfl (op_call0 rfl rfl rfl rfl (same_spec _ _ qA)) (by dsimp only [putD, List.set]) ?_
            refine at_op (some 62) rfl rfl rfl rfl (op_un rfl rfl) (by dsimp only [putD, List.set]) ?_
            refine at_pk true 58 62 63 rfl rfl rfl rfl rfl rfl rfl (by dsimp only [List.set]) ?_
            refine at_pk false 49 63 64 rfl rfl rfl rfl rfl rfl rfl (by dsimp only [List.set]) ?_
            refine at_end rfl ?_
            refine at_cond [1, 1, 1, 1, 1, 0, 1, 0] [1, 1, 1, 1, 1, 0, 1, 1] rfl rfl (fun hc13 => ?_) (fun hc13 => ?_)
            · skip
              refine at_seq [1, 1, 1, 1, 1, 0, 1, 0, 0] [1, 1, 1, 1, 1, 0, 1, 0, 1] rfl ?_
              refine at_region rfl ?_
              refine at_mc 2 rfl rfl rfl (.inr rfl) (by dsimp only [constD]) (by dsimp only [List.set]) ?_
              refine at_end rfl ?_
              refine at_ret rfl (ret_one (t := 2) rfl rfl ?_ rfl)
              first | rfl | (simp_all; done)
            · skip
              refine at_skip rfl ?_
              refine at_seq [1, 1, 1, 1, 1, 1, 0] [1, 1, 1, 1, 1, 1, 1] rfl ?_
              refine at_region rfl ?_
              refine at_mv 5 65 rfl rfl rfl (.inl rfl) rfl (by dsimp only [List.set]) ?_
              refine at_mv 6 66 rfl rfl rfl (.inl rfl) rfl (by dsimp only [List.set]) ?_
              refine at_op (some 67) rfl rfl rfl rfl (op_call0 rfl rfl rfl rfl (leq_spec _ _)) (by dsimp only [putD, List.set]) ?_
              refine at_op (some 68) rfl rfl rfl rfl (op_un rfl rfl) (by dsimp only [putD, List.set]) ?_
              refine at_mv 68 69 rfl rfl rfl (.inl rfl) rfl (by dsimp only [List.set]) ?_
              refine at_split 69 rfl (fun hb14 env' he => ?_) (fun hb14 env' he => ?_)
              · dsimp only [List.set] at he; subst he
                refine at_opN (some 70) rfl rfl rfl (by dsimp only [putD, List.set]) ?_
                refine at_opN (some 71) rfl rfl rfl (by dsimp only [putD, List.set]) ?_
                refine at_opN (some 72) rfl rfl rfl (by dsimp only [putD, List.set]) ?_
                refine at_opN (some 73) rfl rfl rfl (by dsimp only [putD, List.set]) ?_
                refine at_pkc true 69 74 rfl rfl rfl rfl rfl rfl (by dsimp only [constD]) (by dsimp only [List.set]) ?_
                refine at_mv 74 2 rfl rfl rfl (.inr rfl) rfl (by dsimp only [List.set]) ?_
                refine at_end rfl ?_
                refine at_ret rfl (ret_one (t := 2) rfl rfl ?_ rfl)
                first | rfl | (simp_all; done)
              · dsimp only [List.set] at he; subst he
                refine at_mv 5 70 rfl rfl rfl (.inl rfl) rfl (by dsimp only [List.set]) ?_
                refine at_mv 6 71 rfl rfl rfl (.inl rfl) rfl (by dsimp only [List.set]) ?_
                refine at_op (some 72) rfl rfl rfl rfl (op_call0 rfl rfl rfl rfl (vcompare_spec _ _ qA)) (by dsimp only [putD, List.set]) ?_
                refine at_op (some 73) rfl rfl rfl rfl (op_binI rfl rfl) (by dsimp only [putD, List.set]) ?_
                refine at_pk false 69 73 74 rfl rfl rfl rfl rfl rfl rfl (by dsimp only [List.set]) ?_
                refine at_mv 74 2 rfl rfl rfl (.inr rfl) rfl (by dsimp only [List.set]) ?_
                refine at_end rfl ?_
                refine at_ret rfl (ret_one (t := 2) rfl rfl ?_ rfl)
                first | rfl | (simp_all; done)
          · dsimp only [List.set] at he; subst he
            refine at_opN (some 59) rfl rfl rfl (by dsimp only [putD, List.set]) ?_
            refine at_opN (some 60) rfl rfl rfl (by dsimp only [putD, List.set]) ?_
            refine at_opN (some 61) rfl rfl rfl (by dsimp only [putD, List.set]) ?_
            refine at_opN (some 62) rfl rfl rfl (by dsimp only [putD, List.set]) ?_
            refine at_pkc false 58 63 rfl rfl rfl rfl rfl rfl (by dsimp only [constD]) (by dsimp only [List.set]) ?_
            refine at_pk false 49 63 64 rfl rfl rfl rfl rfl rfl rfl (by dsimp only [List.set]) ?_
            refine at_end rfl ?_
            refine at_false [1, 1, 1, 1, 1, 0, 1, 0] [1, 1, 1, 1, 1, 0, 1, 1] rfl rfl ?_
            refine at_skip rfl ?_
            refine at_seq [1, 1, 1, 1, 1, 1, 0] [1, 1, 1, 1, 1, 1, 1] rfl ?_
            refine at_region rfl ?_
            refine at_mv 5 65 rfl rfl rfl (.inl rfl) rfl (by dsimp only [List.set]) ?_
            refine at_mv 6 66 rfl rfl rfl (.inl rfl) rfl (by dsimp only [List.set]) ?_
            refine at_op (some 67) rfl rfl rfl rfl (op_call0 rfl rfl rfl rfl (leq_spec _ _)) (by dsimp only [putD, List.set]) ?_
            refine at_op (some 68) rfl rfl rfl rfl (op_un rfl rfl) (by dsimp only [putD, List.set]) ?_
            refine at_mv 68 69 rfl rfl rfl (.inl rfl) rfl (by dsimp only [List.set]) ?_
            refine at_split 69 rfl (fun hb15 env' he => ?_) (fun hb15 env' he => ?_)
            · dsimp only [List.set] at he; subst he
              refine at_opN (some 70) rfl rfl rfl (by dsimp only [putD, List.set]) ?_
              refine at_opN (some 71) rfl rfl rfl (by dsimp only [putD, List.set]) ?_
              refine at_opN (some 72) rfl rfl rfl (by dsimp only [putD, List.set]) ?_
              refine at_opN (some 73) rfl rfl rfl (by dsimp only [putD, List.set]) ?_
              refine at_pkc true 69 74 rfl rfl rfl rfl rfl rfl (by dsimp only [constD]) (by dsimp only [List.set]) ?_
              refine at_mv 74 2 rfl rfl rfl (.inr rfl) rfl (by dsimp only [List.set]) ?_
              refine at_end rfl ?_
              refine at_ret rfl (ret_one (t := 2) rfl rfl ?_ rfl)
              first | rfl | (simp_all; done)
            · dsimp only [List.set] at he; subst he
              refine at_mv 5 70 rfl rfl rfl (.inl rfl) rfl (by dsimp only [List.set]) ?_
              refine at_mv 6 71 rfl rfl rfl (.inl rfl) rfl (by dsimp only [List.set]) ?_
              refine at_op (some 72) rfl rfl rfl rfl (op_call0 rfl rfl rfl rfl (vcompare_spec _ _ qA)) (by dsimp only [putD, List.set]) ?_
              refine at_op (some 73) rfl rfl rfl rfl (op_binI rfl rfl) (by dsimp only [putD, List.set]) ?_
              refine at_pk false 69 73 74 rfl rfl rfl rfl rfl rfl rfl (by dsimp only [List.set]) ?_
              refine at_mv 74 2 rfl rfl rfl (.inr rfl) rfl (by dsimp only [List.set]) ?_
              refine at_end rfl ?_
              refine at_ret rfl (ret_one (t := 2) rfl rfl ?_ rfl)
              first | rfl | (simp_all; done)
        · dsimp only [List.set] at he; subst he
          refine at_opN (some 54) rfl rfl rfl (by dsimp only [putD, List.set]) ?_
          refine at_opN (some 55) rfl rfl rfl (by dsimp only [putD, List.set]) ?_
          refine at_opN (some 56) rfl rfl rfl (by dsimp only [putD, List.set]) ?_
          refine at_pkc false 53 57 rfl rfl rfl rfl rfl rfl (by dsimp only [constD]) (by dsimp only [List.set]) ?_
          refine at_mv 57 58 rfl rfl rfl (.inl rfl) rfl (by dsimp only [List.set]) ?_
          refine at_opN (some 59) rfl rfl rfl (by dsimp only [putD, List.set]) ?_
          refine at_opN (some 60) rfl rfl rfl (by dsimp only [putD, List.set]) ?_
          refine at_opN (some 61) rfl rfl rfl (by dsimp only [putD, List.set]) ?_
          refine at_opN (some 62) rfl rfl rfl (by dsimp only [putD, List.set]) ?_
          refine at_pkc false 58 63 rfl rfl rfl rfl rfl rfl (by dsimp only [constD]) (by dsimp only [List.set]) ?_
          refine at_pk false 49 63 64 rfl rfl rfl rfl rfl rfl rfl (by dsimp only [List.set]) ?_
          refine at_end rfl ?_
          refine at_false [1, 1, 1, 1, 1, 0, 1, 0] [1, 1, 1, 1, 1, 0, 1, 1] rfl rfl ?_
          refine at_skip rfl ?_
          refine at_seq [1, 1, 1, 1, 1, 1, 0] [1, 1, 1, 1, 1, 1, 1] rfl ?_
          refine at_region rfl ?_
          refine at_mv 5 65 rfl rfl rfl (.inl rfl) rfl (by dsimp only [List.set]) ?_
          refine at_mv 6 66 rfl rfl rfl (.inl rfl) rfl (by dsimp only [List.set]) ?_
          refine at_op (some 67) rfl rfl rfl rfl (op_call0 rfl rfl rfl rfl (leq_spec _ _)) (by dsimp only [putD, List.set]) ?_
          refine at_op (some 68) rfl rfl rfl rfl (op_un rfl rfl) (by dsimp only [putD, List.set]) ?_
          refine at_mv 68 69 rfl rfl rfl (.inl rfl) rfl (by dsimp only [List.set]) ?_
          refine at_split 69 rfl (fun hb16 env' he => ?_) (fun hb16 env' he => ?_)
          · dsimp only [List.set] at he; subst he
            refine at_opN (some 70) rfl rfl rfl (by dsimp only [putD, List.set]) ?_
            refine at_opN (some 71) rfl rfl rfl (by dsimp only [putD, List.set]) ?_
            refine at_opN (some 72) rfl rfl rfl (by dsimp only [putD, List.set]) ?_
            refine at_opN (some 73) rfl rfl rfl (by dsimp only [putD, List.set]) ?_
            refine at_pkc true 69 74 rfl rfl rfl rfl rfl rfl (by dsimp only [constD]) (by dsimp only [List.set]) ?_
            refine at_mv 74 2 rfl rfl rfl (.inr rfl) rfl (by dsimp only [List.set]) ?_
            refine at_end rfl ?_
            refine at_ret rfl (ret_one (t := 2) rfl rfl ?_ rfl)
            first | rfl | (simp_all; done)
          · dsimp only [List.set] at he; subst he
            refine at_mv 5 70 rfl rfl rfl (.inl rfl) rfl (by dsimp only [List.set]) ?_
            refine at_mv 6 71 rfl rfl rfl (.inl rfl) rfl (by dsimp only [List.set]) ?_
            refine at_op (some 72) rfl rfl rfl rfl (op_call0 rfl rfl rfl rfl (vcompare_spec _ _ qA)) (by dsimp only [putD, List.set]) ?_
            refine at_op (some 73) rfl rfl rfl rfl (op_binI rfl rfl) (by dsimp only [putD, List.set]) ?_
            refine at_pk false 69 73 74 rfl rfl rfl rfl rfl rfl rfl (by dsimp only [List.set]) ?_
            refine at_mv 74 2 rfl rfl rfl (.inr rfl) rfl (by dsimp only [List.set]) ?_
            refine at_end rfl ?_
            refine at_ret rfl (ret_one (t := 2) rfl rfl ?_ rfl)
            first | rfl | (simp_all; done)
    · dsimp only [List.set] at he; subst he
      refine at_opN (some 38) rfl rfl rfl (by dsimp only [putD, List.set]) ?_
      refine at_opN (some 39) rfl rfl rfl (by dsimp only [putD, List.set]) ?_
      refine at_opN (some 40) rfl rfl rfl (by dsimp only [putD, List.set]) ?_
      refine at_pkc false 37 41 rfl rfl rfl rfl rfl rfl (by dsimp only [constD]) (by dsimp only [List.set]) ?_
      refine at_mv 41 42 rfl rfl rfl (.inl rfl) rfl (by dsimp only [List.set]) ?_
      refine at_opN (some 43) rfl rfl rfl (by dsimp only [putD, List.set]) ?_
      refine at_opN (some 44) rfl rfl rfl (by dsimp only [putD, List.set]) ?_
      refine at_opN (some 45) rfl rfl rfl (by dsimp only [putD, List.set]) ?_
      refine at_opN (some 46) rfl rfl rfl (by dsimp only [putD, List.set]) ?_
      refine at_pkc false 42 47 rfl rfl rfl rfl rfl rfl (by dsimp only [constD]) (by dsimp only [List.set]) ?_
      refine at_pk false 33 47 48 rfl rfl rfl rfl rfl rfl rfl (by dsimp only [List.set]) ?_
      refine at_mv 48 49 rfl rfl rfl (.inl rfl) rfl (by dsimp only [List.set]) ?_
      refine at_mv 5 50 rfl rfl rfl (.inl rfl) rfl (by dsimp only [List.set]) ?_
      refine at_mv 6 51 rfl rfl rfl (.inl rfl) rfl (by dsimp only [List.set]) ?_
      refine at_op (some 52) rfl rfl rfl rfl (op_call0 rfl rfl rfl rfl (leq_spec _ _)) (by dsimp only [putD, List.set]) ?_
      refine at_mv 52 53 rfl rfl rfl (.inl rfl) rfl (by dsimp only [List.set]) ?_
      refine at_split 53 rfl (fun hb17 env' he => ?_) (fun hb17 env' he => ?_)
      · dsimp only [List.set] at he; subst he
        refine at_mv 6 54 rfl rfl rfl (.inl rfl) rfl (by dsimp only [List.set]) ?_
        refine at_mv 5 55 rfl rfl rfl (.inl rfl) rfl (by dsimp only [List.set]) ?_
        refine at_op (some 56) rfl rfl rfl rfl (op_call0 rfl rfl rfl rfl (leq_spec _ _)) (by dsimp only [putD, List.set]) ?_
        refine at_pk true 53 56 57 rfl rfl rfl rfl rfl rfl rfl (by dsimp only [List.set]) ?_
        refine at_mv 57 58 rfl rfl rfl (.inl rfl) rfl (by dsimp only [List.set]) ?_
        refine at_split 58 rfl (fun hb18 env' he => ?_) (fun hb18 env' he => ?_)
        · dsimp only [List.set] at he; subst he
          refine at_mv 5 59 rfl rfl rfl (.inl rfl) rfl (by dsimp only [List.set]) ?_
          refine at_mv 6 60 rfl rfl rfl (.inl rfl) rfl (by dsimp only [List.set]) ?_
          refine at_op (some 61) rfl rfl rfl rfl (op_call0 rfl rfl rfl rfl (same_spec _ _ qA)) (by dsimp only [putD, List.set]) ?_
          refine at_op (some 62) rfl rfl rfl rfl (op_un rfl rfl) (by dsimp only [putD, List.set]) ?_
          refine at_pk true 58 62 63 rfl rfl rfl rfl rfl rfl rfl (by dsimp only [List.set]) ?_
          refine at_pk false 49 63 64 rfl rfl rfl rfl rfl rfl rfl (by dsimp only [List.set]) ?_
          refine at_end rfl ?_
          refine at_cond [1, 1, 1, 1, 1, 0, 1, 0] [1, 1, 1, 1, 1, 0, 1, 1] rfl rfl (fun hc19 => ?_) (fun hc19 => ?_)
          · skip
            refine at_seq [1, 1, 1, 1, 1, 0, 1, 0, 0] [1, 1, 1, 1, 1, 0, 1, 0, 1] rfl ?_
            refine at_region rfl ?_
            refine at_mc 2 rfl rfl rfl (.inr rfl) (by dsimp only [constD]) (by dsimp only [List.set]) ?_
            refine at_end rfl ?_
            refine at_ret rfl (ret_one (t := 2) rfl rfl ?_ rfl)
            first | rfl | (simp_all; done)
          · skip
            refine at_skip rfl ?_
            refine at_seq [1, 1, 1, 1, 1, 1, 0] [1, 1, 1, 1, 1, 1, 1] rfl ?_
            refine at_region rfl ?_
            refine at_mv 5 65 rfl rfl rfl (.inl rfl) rfl (by dsimp only [List.set]) ?_
            refine at_mv 6 66 rfl rfl rfl (.inl rfl) rfl (by dsimp only [List.set]) ?_
            refine at_op (some 67) rfl rfl rfl rfl (op_call0 rfl rfl rfl rfl (leq_spec _ _)) (by dsimp only [putD, List.set]) ?_
            refine at_op (some 68) rfl rfl rfl rfl (op_un rfl rfl) (by dsimp only [putD, List.set]) ?_
            refine at_mv 68 69 rfl rfl rfl (.inl rfl) rfl (by dsimp only [List.set]) ?_
            refine at_split 69 rfl (fun hb20 env' he => ?_) (fun hb20 env' he => ?_)
            · dsimp only [List.set] at he; subst he
              refine at_opN (some 70) rfl rfl rfl (by dsimp only [putD, List.set]) ?_
              refine at_opN (some 71) rfl rfl rfl (by dsimp only [putD, List.set]) ?_
              refine at_opN (some 72) rfl rfl rfl (by dsimp only [putD, List.set]) ?_
              refine at_opN (some 73) rfl rfl rfl (by dsimp only [putD, List.set]) ?_
              refine at_pkc true 69 74 rfl rfl rfl rfl rfl rfl (by dsimp only [constD]) (by dsimp only [List.set]) ?_
              refine at_mv 74 2 rfl rfl rfl (.inr rfl) rfl (by dsimp only [List.set]) ?_
              refine at_end rfl ?_
              refine at_ret rfl (ret_one (t := 2) rfl rfl ?_ rfl)
              first | rfl | (simp_all; done)
            · dsimp only [List.set] at he; subst he
              refine at_mv 5 70 rfl rfl rfl (.inl rfl) rfl (by dsimp only [List.set]) ?_
              refine at_mv 6 71 rfl rfl rfl (.inl rfl) rfl (by dsimp only [List.set]) ?_
              refine at_op (some 72) rfl rfl rfl rfl (op_call0 rfl rfl rfl rfl (vcompare_spec _ _ qA)) (by dsimp only [putD, List.set]) ?_
              refine at_op (some 73) rfl rfl rfl rfl (op_binI rfl rfl) (by dsimp only [putD, List.set]) ?_
              refine at_pk false 69 73 74 rfl rfl rfl rfl rfl rfl rfl (by dsimp only [List.set]) ?_
              refine at_mv 74 2 rfl rfl rfl (.inr rfl) rfl (by dsimp only [List.set]) ?_
              refine at_end rfl ?_
              refine at_ret rfl (ret_one (t := 2) rfl rfl ?_ rfl)
              first | rfl | (simp_all; done)
        · dsimp only [List.set] at he; subst he
          refine at_opN (some 59) rfl rfl rfl (by dsimp only [putD, List.set]) ?_
          refine at_opN (some 60) rfl rfl rfl (by dsimp only [putD, List.set]) ?_
          refine at_opN (some 61) rfl rfl rfl (by dsimp only [putD, List.set]) ?_
          refine at_opN (some 62) rfl rfl rfl (by dsimp only [putD, List.set]) ?_
          refine at_pkc false 58 63 rfl rfl rfl rfl rfl rfl (by dsimp only [constD]) (by dsimp only [List.set]) ?_
          refine at_pk false 49 63 64 rfl rfl rfl rfl rfl rfl rfl (by dsimp only [List.set]) ?_
          refine at_end rfl ?_
          refine at_false [1, 1, 1, 1, 1, 0, 1, 0] [1, 1, 1, 1, 1, 0, 1, 1] rfl rfl ?_
          refine at_skip rfl ?_
          refine at_seq [1, 1, 1, 1, 1, 1, 0] [1, 1, 1, 1, 1, 1, 1] rfl ?_
          refine at_region rfl ?_
          refine at_mv 5 65 rfl rfl rfl (.inl rfl) rfl (by dsimp only [List.set]) ?_
          refine at_mv 6 66 rfl rfl rfl (.inl rfl) rfl (by dsimp only [List.set]) ?_
          refine at_op (some 67) rfl rfl rfl rfl (op_call0 rfl rfl rfl rfl (leq_spec _ _)) (by dsimp only [putD, List.set]) ?_
          refine at_op (some 68) rfl rfl rfl rfl (op_un rfl rfl) (by dsimp only [putD, List.set]) ?_
          refine at_mv 68 69 rfl rfl rfl (.inl rfl) rfl (by dsimp only [List.set]) ?_
          refine at_split 69 rfl (fun hb21 env' he => ?_) (fun hb21 env' he => ?_)
          · dsimp only [List.set] at he; subst he
            refine at_opN (some 70) rfl rfl rfl (by dsimp only [putD, List.set]) ?_
            refine at_opN (some 71) rfl rfl rfl (by dsimp only [putD, List.set]) ?_
            refine at_opN (some 72) rfl rfl rfl (by dsimp only [putD, List.set]) ?_
            refine at_opN (some 73) rfl rfl rfl (by dsimp only [putD, List.set]) ?_
            refine at_pkc true 69 74 rfl rfl rfl rfl rfl rfl (by dsimp only [constD]) (by dsimp only [List.set]) ?_
            refine at_mv 74 2 rfl rfl rfl (.inr rfl) rfl (by dsimp only [List.set]) ?_
            refine at_end rfl ?_
            refine at_ret rfl (ret_one (t := 2) rfl rfl ?_ rfl)
            first | rfl | (simp_all; done)
          · dsimp only [List.set] at he; subst he
            refine at_mv 5 70 rfl rfl rfl (.inl rfl) rfl (by dsimp only [List.set]) ?_
            refine at_mv 6 71 rfl rfl rfl (.inl rfl) rfl (by dsimp only [List.set]) ?_
            refine at_op (some 72) rfl rfl rfl rfl (op_call0 rfl rfl rfl rfl (vcompare_spec _ _ qA)) (by dsimp only [putD, List.set]) ?_
            refine at_op (some 73) rfl rfl rfl rfl (op_binI rfl rfl) (by dsimp only [putD, List.set]) ?_
            refine at_pk false 69 73 74 rfl rfl rfl rfl rfl rfl rfl (by dsimp only [List.set]) ?_
            refine at_mv 74 2 rfl rfl rfl (.inr rfl) rfl (by dsimp only [List.set]) ?_
            refine at_end rfl ?_
            refine at_ret rfl (ret_one (t := 2) rfl rfl ?_ rfl)
            first | rfl | (simp_all; done)
      · dsimp only [List.set] at he; subst he
        refine at_opN (some 54) rfl rfl rfl (by dsimp only [putD, List.set]) ?_
        refine at_opN (some 55) rfl rfl rfl (by dsimp only [putD, List.set]) ?_
        refine at_opN (some 56) rfl rfl rfl (by dsimp only [putD, List.set]) ?_
        refine at_pkc false 53 57 rfl rfl rfl rfl rfl rfl (by dsimp only [constD]) (by dsimp only [List.set]) ?_
        refine at_mv 57 58 rfl rfl rfl (.inl rfl) rfl (by dsimp only [List.set]) ?_
        refine at_opN (some 59) rfl rfl rfl (by dsimp only [putD, List.set]) ?_
        refine at_opN (some 60) rfl rfl rfl (by dsimp only [putD, List.set]) ?_
        refine at_opN (some 61) rfl rfl rfl (by dsimp only [putD, List.set]) ?_
        refine at_opN (some 62) rfl rfl rfl (by dsimp only [putD, List.set]) ?_
        refine at_pkc false 58 63 rfl rfl rfl rfl rfl rfl (by dsimp only [constD]) (by dsimp only [List.set]) ?_
        refine at_pk false 49 63 64 rfl rfl rfl rfl rfl rfl rfl (by dsimp only [List.set]) ?_
        refine at_end rfl ?_
        refine at_false [1, 1, 1, 1, 1, 0, 1, 0] [1, 1, 1, 1, 1, 0, 1, 1] rfl rfl ?_
        refine at_skip rfl ?_
        refine at_seq [1, 1, 1, 1, 1, 1, 0] [1, 1, 1, 1, 1, 1, 1] rfl ?_
        refine at_region rfl ?_
        refine at_mv 5 65 rfl rfl rfl (.inl rfl) rfl (by dsimp only [List.set]) ?_
        refine at_mv 6 66 rfl rfl rfl (.inl rfl) rfl (by dsimp only [List.set]) ?_
        refine at_op (some 67) rfl rfl rfl rfl (op_call0 rfl rfl rfl rfl (leq_spec _ _)) (by dsimp only [putD, List.set]) ?_
        refine at_op (some 68) rfl rfl rfl rfl (op_un rfl rfl) (by dsimp only [putD, List.set]) ?_
        refine at_mv 68 69 rfl rfl rfl (.inl rfl) rfl (by dsimp only [List.set]) ?_
        refine at_split 69 rfl (fun hb22 env' he => ?_) (fun hb22 env' he => ?_)
        · dsimp only [List.set] at he; subst he
          refine at_opN (some 70) rfl rfl rfl (by dsimp only [putD, List.set]) ?_
          refine at_opN (some 71) rfl rfl rfl (by dsimp only [putD, List.set]) ?_
          refine at_opN (some 72) rfl rfl rfl (by dsimp only [putD, List.set]) ?_
          refine at_opN (some 73) rfl rfl rfl (by dsimp only [putD, List.set]) ?_
          refine at_pkc true 69 74 rfl rfl rfl rfl rfl rfl (by dsimp only [constD]) (by dsimp only [List.set]) ?_
          refine at_mv 74 2 rfl rfl rfl (.inr rfl) rfl (by dsimp only [List.set]) ?_
          refine at_end rfl ?_
          refine at_ret rfl (ret_one (t := 2) rfl rfl ?_ rfl)
          first | rfl | (simp_all; done)
        · dsimp only [List.set] at he; subst he
          refine at_mv 5 70 rfl rfl rfl (.inl rfl) rfl (by dsimp only [List.set]) ?_
          refine at_mv 6 71 rfl rfl rfl (.inl rfl) rfl (by dsimp only [List.set]) ?_
          refine at_op (some 72) rfl rfl rfl rfl (op_call0 rfl rfl rfl rfl (vcompare_spec _ _ qA)) (by dsimp only [putD, List.set]) ?_
          refine at_op (some 73) rfl rfl rfl rfl (op_binI rfl rfl) (by dsimp only [putD, List.set]) ?_
          refine at_pk false 69 73 74 rfl rfl rfl rfl rfl rfl rfl (by dsimp only [List.set]) ?_
          refine at_mv 74 2 rfl rfl rfl (.inr rfl) rfl (by dsimp only [List.set]) ?_
          refine at_end rfl ?_
          refine at_ret rfl (ret_one (t := 2) rfl rfl ?_ rfl)
          first | rfl | (simp_all; done)

noncomputable def cCmp : Code := Try.f6.body.getD .skip
set_option maxRecDepth 20000 in
theorem vcmp_spec (l : List Int) : FSpec PP 6 [dl l] σ0 (db true) σ0 := by
  refine spec_at cCmp Try.func6 rfl (by kernel_rfl) (by first | decide | simp) _ (by dsimp only [Try.f6, List.length, Nat.reduceAdd, Nat.reduceSub, List.replicate, List.cons_append, List.nil_append]) ?_
  refine at_seq [0] [1] rfl ?_
  refine at_region rfl ?_
  refine at_mc 2 rfl rfl rfl (.inr rfl) (by dsimp only [constD]) (by dsimp only [List.set]) ?_
  refine at_end rfl ?_
  refine at_seq [1, 0] [1, 1] rfl ?_
  refine at_seq [1, 0, 0] [1, 0, 1] rfl ?_
  refine at_region rfl ?_
  refine at_op (some 9) rfl rfl rfl rfl (op_call0 rfl rfl rfl rfl (awake_spec)) (by dsimp only [putD, List.set]) ?_
  refine at_op (some 10) rfl rfl rfl rfl (op_un rfl rfl) (by dsimp only [putD, List.set]) ?_
  refine at_mv 10 11 rfl rfl rfl (.inl rfl) rfl (by dsimp only [List.set]) ?_
  refine at_mv 0 12 rfl rfl rfl (.inl rfl) rfl (by dsimp only [List.set]) ?_
  refine at_op (some 13) rfl rfl rfl rfl (op_call0 rfl rfl rfl rfl (few_spec l)) (by dsimp only [putD, List.set]) ?_
  refine at_op (some 14) rfl rfl rfl rfl (op_un rfl rfl) (by dsimp only [putD, List.set]) ?_
  refine at_pk false 11 14 15 rfl rfl rfl rfl rfl rfl rfl (by dsimp only [List.set]) ?_
  refine at_end rfl ?_
  refine at_cond [1, 0, 1, 0] [1, 0, 1, 1] rfl rfl (fun hc1 => ?_) (fun hc1 => ?_)
  · skip
    refine at_seq [1, 0, 1, 0, 0] [1, 0, 1, 0, 1] rfl ?_
    refine at_region rfl ?_
    refine at_op (some 16) rfl rfl rfl rfl (op_call0 rfl rfl rfl rfl (awake_spec)) (by dsimp only [putD, List.set]) ?_
    refine at_mv 16 2 rfl rfl rfl (.inr rfl) rfl (by dsimp only [List.set]) ?_
    refine at_end rfl ?_
    refine at_ret rfl (ret_one (t := 2) rfl rfl ?_ rfl)
    first | rfl | (simp_all; done)
  · skip
    have hs : l.length ≤ 1000000 := by simp at hc1; omega
    refine at_skip rfl ?_
    refine at_seq [1, 1, 0] [1, 1, 1] rfl ?_
    refine at_region rfl ?_
    refine at_mv 0 17 rfl rfl rfl (.inl rfl) rfl (by dsimp only [List.set]) ?_
    refine at_opS (some 18) rfl rfl rfl rfl (op_call0_new rfl rfl rfl rfl (new_spec l)) (by dsimp only [putD, List.set]) (by dsimp only [List.set, List.append, List.cons_append, List.nil_append, cellsD, List.map, repl, List.length, Nat.reduceAdd, if_true, ↓reduceIte]; first | done | rfl) ?_
    refine at_mv 18 3 rfl rfl rfl (.inr rfl) rfl (by dsimp only [List.set]) ?_
    refine at_end rfl ?_
    refine at_seq [1, 1, 1, 0] [1, 1, 1, 1] rfl ?_
    refine at_region rfl ?_
    refine at_mv 3 19 rfl rfl rfl (.inl rfl) rfl (by dsimp only [List.set]) ?_
    refine at_mv 3 20 rfl rfl rfl (.inl rfl) rfl (by dsimp only [List.set]) ?_
    refine at_opS (some 21) rfl rfl rfl rfl (op_call1 rfl rfl rfl rfl rfl (.ptr (.pl rfl .nil)) rfl (next_spec l _ _ hs _ (by omega))) (by dsimp only [putD, List.set]) (by dsimp only [List.set, List.append, List.cons_append, List.nil_append, cellsD, List.map, repl, List.length, Nat.reduceAdd, if_true, ↓reduceIte]; first | done | rfl) ?_
    obtain ⟨na, hna⟩ := Int.eq_ofNat_of_zero_le (nextV_range (n := 4) (s := dkSt l 0 11400714819323198485) (by omega)).1
    have h6na : na ≤ 6 := by have := (nextV_range (n := 4) (s := dkSt l 0 11400714819323198485) (by omega)).2; omega
    rw [hna]
    refine at_opS (some 22) rfl rfl rfl rfl (op_call1 rfl rfl rfl rfl rfl (.ptr (.pl rfl (.pl rfl .nil))) rfl (vectorU_spec l hs true _ (by omega) _ _)) (by dsimp only [putD, List.set]) (by dsimp only [List.set, List.append, List.cons_append, List.nil_append, cellsD, List.map, repl, List.length, Nat.reduceAdd, if_true, ↓reduceIte]; first | done | rfl) ?_
    obtain ⟨A, hA⟩ : ∃ A, vecM l true na (dkAt l 0, dkSt l 0 11400714819323198485) = A := ⟨_, rfl⟩
    rw [hA]
    have vA : valid A.1 = true := by rw [← hA]; exact vecM_valid h6na
    have lA : A.1.length = na := by rw [← hA]; exact (vecM_ok _ _ _ _).1
    have qA : A.1.length ≤ 1000000 := by omega
    refine at_mv 3 23 rfl rfl rfl (.inl rfl) rfl (by dsimp only [List.set]) ?_
    refine at_mv 3 24 rfl rfl rfl (.inl rfl) rfl (by dsimp only [List.set]) ?_
    refine at_opS (some 25) rfl rfl rfl rfl (op_call1 rfl rfl rfl rfl rfl (.ptr (.pl rfl .nil)) rfl (next_spec l _ _ hs _ (by omega))) (by dsimp only [putD, List.set]) (by dsimp only [List.set, List.append, List.cons_append, List.nil_append, cellsD, List.map, repl, List.length, Nat.reduceAdd, if_true, ↓reduceIte]; first | done | rfl) ?_
    obtain ⟨nb, hnb⟩ := Int.eq_ofNat_of_zero_le (nextV_range (n := 4) (s := dkSt l A.2.1 A.2.2) (by omega)).1
    have h6nb : nb ≤ 6 := by have := (nextV_range (n := 4) (s := dkSt l A.2.1 A.2.2) (by omega)).2; omega
    rw [hnb]
    refine at_opS (some 26) rfl rfl rfl rfl (op_call1 rfl rfl rfl rfl rfl (.ptr (.pl rfl (.pl rfl .nil))) rfl (vectorU_spec l hs true _ (by omega) _ _)) (by dsimp only [putD, List.set]) (by dsimp only [List.set, List.append, List.cons_append, List.nil_append, cellsD, List.map, repl, List.length, Nat.reduceAdd, if_true, ↓reduceIte]; first | done | rfl) ?_
    obtain ⟨B, hB⟩ : ∃ B, vecM l true nb (dkAt l A.2.1, dkSt l A.2.1 A.2.2) = B := ⟨_, rfl⟩
    rw [hB]
    have vB : valid B.1 = true := by rw [← hB]; exact vecM_valid h6nb
    have lB : B.1.length = nb := by rw [← hB]; exact (vecM_ok _ _ _ _).1
    have qB : B.1.length ≤ 1000000 := by omega
    refine at_mv 3 27 rfl rfl rfl (.inl rfl) rfl (by dsimp only [List.set]) ?_
    refine at_mv 3 28 rfl rfl rfl (.inl rfl) rfl (by dsimp only [List.set]) ?_
    refine at_opS (some 29) rfl rfl rfl rfl (op_call1 rfl rfl rfl rfl rfl (.ptr (.pl rfl .nil)) rfl (next_spec l _ _ hs _ (by omega))) (by dsimp only [putD, List.set]) (by dsimp only [List.set, List.append, List.cons_append, List.nil_append, cellsD, List.map, repl, List.length, Nat.reduceAdd, if_true, ↓reduceIte]; first | done | rfl) ?_
    obtain ⟨nc, hnc⟩ := Int.eq_ofNat_of_zero_le (nextV_range (n := 4) (s := dkSt l B.2.1 B.2.2) (by omega)).1
    have h6nc : nc ≤ 6 := by have := (nextV_range (n := 4) (s := dkSt l B.2.1 B.2.2) (by omega)).2; omega
    rw [hnc]
    refine at_opS (some 30) rfl rfl rfl rfl (op_call1 rfl rfl rfl rfl rfl (.ptr (.pl rfl (.pl rfl .nil))) rfl (vectorU_spec l hs true _ (by omega) _ _)) (by dsimp only [putD, List.set]) (by dsimp only [List.set, List.append, List.cons_append, List.nil_append, cellsD, List.map, repl, List.length, Nat.reduceAdd, if_true, ↓reduceIte]; first | done | rfl) ?_
    obtain ⟨C, hC⟩ : ∃ C, vecM l true nc (dkAt l B.2.1, dkSt l B.2.1 B.2.2) = C := ⟨_, rfl⟩
    rw [hC]
    have vC : valid C.1 = true := by rw [← hC]; exact vecM_valid h6nc
    have lC : C.1.length = nc := by rw [← hC]; exact (vecM_ok _ _ _ _).1
    have qC : C.1.length ≤ 1000000 := by omega
    refine at_mv 22 4 rfl rfl rfl (.inr rfl) rfl (by dsimp only [List.set]) ?_
    refine at_mv 26 5 rfl rfl rfl (.inr rfl) rfl (by dsimp only [List.set]) ?_
    refine at_mv 30 6 rfl rfl rfl (.inr rfl) rfl (by dsimp only [List.set]) ?_
    refine at_end rfl ?_
    refine at_seq [1, 1, 1, 1, 0] [1, 1, 1, 1, 1] rfl ?_
    refine at_region rfl ?_
    refine at_mv 4 31 rfl rfl rfl (.inl rfl) rfl (by dsimp only [List.set]) ?_
    refine at_mv 5 32 rfl rfl rfl (.inl rfl) rfl (by dsimp only [List.set]) ?_
    refine at_op (some 33) rfl rfl rfl rfl (op_call0 rfl rfl rfl rfl (vcompare_spec _ _ qA)) (by dsimp only [putD, List.set]) ?_
    refine at_mv 5 34 rfl rfl rfl (.inl rfl) rfl (by dsimp only [List.set]) ?_
    refine at_mv 4 35 rfl rfl rfl (.inl rfl) rfl (by dsimp only [List.set]) ?_
    refine at_op (some 36) rfl rfl rfl rfl (op_call0 rfl rfl rfl rfl (vcompare_spec _ _ qB)) (by dsimp only [putD, List.set]) ?_
    refine at_mv 33 7 rfl rfl rfl (.inr rfl) rfl (by dsimp only [List.set]) ?_
    refine at_mv 36 8 rfl rfl rfl (.inr rfl) rfl (by dsimp only [List.set]) ?_
    refine at_end rfl ?_
    refine at_seq [1, 1, 1, 1, 1, 0] [1, 1, 1, 1, 1, 1] rfl ?_
    refine at_seq [1, 1, 1, 1, 1, 0, 0] [1, 1, 1, 1, 1, 0, 1] rfl ?_
    refine at_region rfl ?_
    refine at_mv 7 37 rfl rfl rfl (.inl rfl) rfl (by dsimp only [List.set]) ?_
    refine at_mv 8 38 rfl rfl rfl (.inl rfl) rfl (by dsimp only [List.set]) ?_
    refine at_op (some 39) rfl rfl rfl rfl (op_un rfl rfl) (by dsimp only [putD, List.set]) ?_
    have hN : IntKind.i64.wrap (0 - cmpV B.1 A.1) = cmpV A.1 B.1 := by have := cmpV_anti A.1 B.1; have := cmpV_range A.1 B.1; rw [wrap_id (by omega) (by omega)]; omega
    rw [hN]
    clear hN
    have hT := cmpV_trans (a := A.1) (b := B.1) (c := C.1)
    have hS := cmpV_short (a := A.1) (b := B.1)
    refine at_op (some 40) rfl rfl rfl rfl (op_binI rfl rfl) (by dsimp only [putD, List.set]) ?_
    refine at_mv 40 41 rfl rfl rfl (.inl rfl) rfl (by dsimp only [List.set]) ?_
    refine at_split 41 rfl (fun hb2 env' he => ?_) (fun hb2 env' he => ?_)
    · dsimp only [List.set] at he; subst he
      refine at_opN (some 42) rfl rfl rfl (by dsimp only [putD, List.set]) ?_
      refine at_opN (some 43) rfl rfl rfl (by dsimp only [putD, List.set]) ?_
      refine at_opN (some 44) rfl rfl rfl (by dsimp only [putD, List.set]) ?_
      refine at_opN (some 45) rfl rfl rfl (by dsimp only [putD, List.set]) ?_
      refine at_opN (some 46) rfl rfl rfl (by dsimp only [putD, List.set]) ?_
      refine at_opN (some 47) rfl rfl rfl (by dsimp only [putD, List.set]) ?_
      refine at_pkc true 41 48 rfl rfl rfl rfl rfl rfl (by dsimp only [constD]) (by dsimp only [List.set]) ?_
      refine at_mv 48 49 rfl rfl rfl (.inl rfl) rfl (by dsimp only [List.set]) ?_
      refine at_opN (some 50) rfl rfl rfl (by dsimp only [putD, List.set]) ?_
      refine at_opN (some 51) rfl rfl rfl (by dsimp only [putD, List.set]) ?_
      refine at_opN (some 52) rfl rfl rfl (by dsimp only [putD, List.set]) ?_
      refine at_opN (some 53) rfl rfl rfl (by dsimp only [putD, List.set]) ?_
      refine at_opN (some 54) rfl rfl rfl (by dsimp only [putD, List.set]) ?_
      refine at_opN (some 55) rfl rfl rfl (by dsimp only [putD, List.set]) ?_
      refine at_opN (some 56) rfl rfl rfl (by dsimp only [putD, List.set]) ?_
      refine at_opN (some 57) rfl rfl rfl (by dsimp only [putD, List.set]) ?_
      refine at_opN (some 58) rfl rfl rfl (by dsimp only [putD, List.set]) ?_
      refine at_pkc true 49 59 rfl rfl rfl rfl rfl rfl (by dsimp only [constD]) (by dsimp only [List.set]) ?_
      refine at_end rfl ?_
      refine at_true [1, 1, 1, 1, 1, 0, 1, 0] [1, 1, 1, 1, 1, 0, 1, 1] rfl rfl ?_
      refine at_seq [1, 1, 1, 1, 1, 0, 1, 0, 0] [1, 1, 1, 1, 1, 0, 1, 0, 1] rfl ?_
      refine at_region rfl ?_
      refine at_mc 2 rfl rfl rfl (.inr rfl) (by dsimp only [constD]) (by dsimp only [List.set]) ?_
      refine at_end rfl ?_
      refine at_ret rfl (ret_one (t := 2) rfl rfl ?_ rfl)
      first | rfl | (simp_all; done)
    · dsimp only [List.set] at he; subst he
      refine at_mv 7 42 rfl rfl rfl (.inl rfl) rfl (by dsimp only [List.set]) ?_
      refine at_op (some 43) rfl rfl rfl rfl (op_binI rfl rfl) (by dsimp only [putD, List.set]) ?_
      refine at_mv 4 44 rfl rfl rfl (.inl rfl) rfl (by dsimp only [List.set]) ?_
      refine at_mv 5 45 rfl rfl rfl (.inl rfl) rfl (by dsimp only [List.set]) ?_
      refine at_op (some 46) rfl rfl rfl rfl (op_call0 rfl rfl rfl rfl (same_spec _ _ qA)) (by dsimp only [putD, List.set]) ?_
      refine at_op (some 47) rfl rfl rfl rfl (op_eqlB rfl uBool (.inr rfl)) (by dsimp only [putD, List.set]) ?_
      refine at_pk false 41 47 48 rfl rfl rfl rfl rfl rfl rfl (by dsimp only [List.set]) ?_
      refine at_mv 48 49 rfl rfl rfl (.inl rfl) rfl (by dsimp only [List.set]) ?_
      refine at_split 49 rfl (fun hb3 env' he => ?_) (fun hb3 env' he => ?_)
      · dsimp only [List.set] at he; subst he
        refine at_opN (some 50) rfl rfl rfl (by dsimp only [putD, List.set]) ?_
        refine at_opN (some 51) rfl rfl rfl (by dsimp only [putD, List.set]) ?_
        refine at_opN (some 52) rfl rfl rfl (by dsimp only [putD, List.set]) ?_
        refine at_opN (some 53) rfl rfl rfl (by dsimp only [putD, List.set]) ?_
        refine at_opN (some 54) rfl rfl rfl (by dsimp only [putD, List.set]) ?_
        refine at_opN (some 55) rfl rfl rfl (by dsimp only [putD, List.set]) ?_
        refine at_opN (some 56) rfl rfl rfl (by dsimp only [putD, List.set]) ?_
        refine at_opN (some 57) rfl rfl rfl (by dsimp only [putD, List.set]) ?_
        refine at_opN (some 58) rfl rfl rfl (by dsimp only [putD, List.set]) ?_
        refine at_pkc true 49 59 rfl rfl rfl rfl rfl rfl (by dsimp only [constD]) (by dsimp only [List.set]) ?_
        refine at_end rfl ?_
        refine at_true [1, 1, 1, 1, 1, 0, 1, 0] [1, 1, 1, 1, 1, 0, 1, 1] rfl rfl ?_
        refine at_seq [1, 1, 1, 1, 1, 0, 1, 0, 0] [1, 1, 1, 1, 1, 0, 1, 0, 1] rfl ?_
        refine at_region rfl ?_
        refine at_mc 2 rfl rfl rfl (.inr rfl) (by dsimp only [constD]) (by dsimp only [List.set]) ?_
        refine at_end rfl ?_
        refine at_ret rfl (ret_one (t := 2) rfl rfl ?_ rfl)
        first | rfl | (simp_all; done)
      · dsimp only [List.set] at he; subst he
        refine at_mv 4 50 rfl rfl rfl (.inl rfl) rfl (by dsimp only [List.set]) ?_
        first | (refine at_op (some 51) rfl rfl rfl rfl (op_lenL rfl uInts) (by dsimp only [putD, List.set]) ?_) | (refine at_op (some 51) rfl rfl rfl rfl (opOK_un (op_lenL rfl uInts)) (by dsimp only [putD, List.set]) ?_) | (refine at_op (some 51) rfl rfl rfl rfl (op_lenA rfl uInts) (by dsimp only [putD, List.set]) ?_)
        refine at_mv 5 52 rfl rfl rfl (.inl rfl) rfl (by dsimp only [List.set]) ?_
        first | (refine at_op (some 53) rfl rfl rfl rfl (op_lenL rfl uInts) (by dsimp only [putD, List.set]) ?_) | (refine at_op (some 53) rfl rfl rfl rfl (opOK_un (op_lenL rfl uInts)) (by dsimp only [putD, List.set]) ?_) | (refine at_op (some 53) rfl rfl rfl rfl (op_lenA rfl uInts) (by dsimp only [putD, List.set]) ?_)
        refine at_op (some 54) rfl rfl rfl rfl (op_binI rfl rfl) (by dsimp only [putD, List.set]) ?_
        refine at_mv 54 55 rfl rfl rfl (.inl rfl) rfl (by dsimp only [List.set]) ?_
        refine at_split 55 rfl (fun hb4 env' he => ?_) (fun hb4 env' he => ?_)
        · dsimp only [List.set] at he; subst he
          refine at_mv 7 56 rfl rfl rfl (.inl rfl) rfl (by dsimp only [List.set]) ?_
          refine at_op (some 57) rfl rfl rfl rfl (op_binI rfl rfl) (by dsimp only [putD, List.set]) ?_
          refine at_pk true 55 57 58 rfl rfl rfl rfl rfl rfl rfl (by dsimp only [List.set]) ?_
          refine at_pk false 49 58 59 rfl rfl rfl rfl rfl rfl rfl (by dsimp only [List.set]) ?_
          refine at_end rfl ?_
          refine at_cond [1, 1, 1, 1, 1, 0, 1, 0] [1, 1, 1, 1, 1, 0, 1, 1] rfl rfl (fun hc5 => ?_) (fun hc5 => ?_)
          · skip
            refine at_seq [1, 1, 1, 1, 1, 0, 1, 0, 0] [1, 1, 1, 1, 1, 0, 1, 0, 1] rfl ?_
            refine at_region rfl ?_
            refine at_mc 2 rfl rfl rfl (.inr rfl) (by dsimp only [constD]) (by dsimp only [List.set]) ?_
            refine at_end rfl ?_
            refine at_ret rfl (ret_one (t := 2) rfl rfl ?_ rfl)
            first | rfl | (simp_all; done)
          · skip
            refine at_skip rfl ?_
            refine at_seq [1, 1, 1, 1, 1, 1, 0] [1, 1, 1, 1, 1, 1, 1] rfl ?_
            refine at_region rfl ?_
            refine at_mv 7 60 rfl rfl rfl (.inl rfl) rfl (by dsimp only [List.set]) ?_
            refine at_op (some 61) rfl rfl rfl rfl (op_binI rfl rfl) (by dsimp only [putD, List.set]) ?_
            refine at_mv 61 62 rfl rfl rfl (.inl rfl) rfl (by dsimp only [List.set]) ?_
            refine at_split 62 rfl (fun hb6 env' he => ?_) (fun hb6 env' he => ?_)
            · dsimp only [List.set] at he; subst he
              refine at_mv 5 63 rfl rfl rfl (.inl rfl) rfl (by dsimp only [List.set]) ?_
              refine at_mv 6 64 rfl rfl rfl (.inl rfl) rfl (by dsimp only [List.set]) ?_
              refine at_op (some 65) rfl rfl rfl rfl (op_call0 rfl rfl rfl rfl (vcompare_spec _ _ qB)) (by dsimp only [putD, List.set]) ?_
              refine at_op (some 66) rfl rfl rfl rfl (op_binI rfl rfl) (by dsimp only [putD, List.set]) ?_
              refine at_pk true 62 66 67 rfl rfl rfl rfl rfl rfl rfl (by dsimp only [List.set]) ?_
              refine at_op (some 68) rfl rfl rfl rfl (op_un rfl rfl) (by dsimp only [putD, List.set]) ?_
              refine at_mv 68 69 rfl rfl rfl (.inl rfl) rfl (by dsimp only [List.set]) ?_
              refine at_split 69 rfl (fun hb7 env' he => ?_) (fun hb7 env' he => ?_)
              · dsimp only [List.set] at he; subst he
                refine at_opN (some 70) rfl rfl rfl (by dsimp only [putD, List.set]) ?_
                refine at_opN (some 71) rfl rfl rfl (by dsimp only [putD, List.set]) ?_
                refine at_opN (some 72) rfl rfl rfl (by dsimp only [putD, List.set]) ?_
                refine at_opN (some 73) rfl rfl rfl (by dsimp only [putD, List.set]) ?_
                refine at_pkc true 69 74 rfl rfl rfl rfl rfl rfl (by dsimp only [constD]) (by dsimp only [List.set]) ?_
                refine at_mv 74 2 rfl rfl rfl (.inr rfl) rfl (by dsimp only [List.set]) ?_
                refine at_end rfl ?_
                refine at_ret rfl (ret_one (t := 2) rfl rfl ?_ rfl)
                first | rfl | (simp_all; done)
              · dsimp only [List.set] at he; subst he
                refine at_mv 4 70 rfl rfl rfl (.inl rfl) rfl (by dsimp only [List.set]) ?_
                refine at_mv 6 71 rfl rfl rfl (.inl rfl) rfl (by dsimp only [List.set]) ?_
                refine at_op (some 72) rfl rfl rfl rfl (op_call0 rfl rfl rfl rfl (vcompare_spec _ _ qA)) (by dsimp only [putD, List.set]) ?_
                refine at_op (some 73) rfl rfl rfl rfl (op_binI rfl rfl) (by dsimp only [putD, List.set]) ?_
                refine at_pk false 69 73 74 rfl rfl rfl rfl rfl rfl rfl (by dsimp only [List.set]) ?_
                refine at_mv 74 2 rfl rfl rfl (.inr rfl) rfl (by dsimp only [List.set]) ?_
                refine at_end rfl ?_
                refine at_ret rfl (ret_one (t := 2) rfl rfl ?_ rfl)
                first | rfl | (simp_all; done)
            · dsimp only [List.set] at he; subst he
              refine at_opN (some 63) rfl rfl rfl (by dsimp only [putD, List.set]) ?_
              refine at_opN (some 64) rfl rfl rfl (by dsimp only [putD, List.set]) ?_
              refine at_opN (some 65) rfl rfl rfl (by dsimp only [putD, List.set]) ?_
              refine at_opN (some 66) rfl rfl rfl (by dsimp only [putD, List.set]) ?_
              refine at_pkc false 62 67 rfl rfl rfl rfl rfl rfl (by dsimp only [constD]) (by dsimp only [List.set]) ?_
              refine at_op (some 68) rfl rfl rfl rfl (op_un rfl rfl) (by dsimp only [putD, List.set]) ?_
              refine at_mv 68 69 rfl rfl rfl (.inl rfl) rfl (by dsimp only [List.set]) ?_
              refine at_opN (some 70) rfl rfl rfl (by dsimp only [putD, List.set]) ?_
              refine at_opN (some 71) rfl rfl rfl (by dsimp only [putD, List.set]) ?_
              refine at_opN (some 72) rfl rfl rfl (by dsimp only [putD, List.set]) ?_
              refine at_opN (some 73) rfl rfl rfl (by dsimp only [putD, List.set]) ?_
              refine at_pkc true 69 74 rfl rfl rfl rfl rfl rfl (by dsimp only [constD]) (by dsimp only [List.set]) ?_
              refine at_mv 74 2 rfl rfl rfl (.inr rfl) rfl (by dsimp only [List.set]) ?_
              refine at_end rfl ?_
              refine at_ret rfl (ret_one (t := 2) rfl rfl ?_ rfl)
              first | rfl | (simp_all; done)
        · dsimp only [List.set] at he; subst he
          refine at_opN (some 56) rfl rfl rfl (by dsimp only [putD, List.set]) ?_
          refine at_opN (some 57) rfl rfl rfl (by dsimp only [putD, List.set]) ?_
          refine at_pkc false 55 58 rfl rfl rfl rfl rfl rfl (by dsimp only [constD]) (by dsimp only [List.set]) ?_
          refine at_pk false 49 58 59 rfl rfl rfl rfl rfl rfl rfl (by dsimp only [List.set]) ?_
          refine at_end rfl ?_
          refine at_false [1, 1, 1, 1, 1, 0, 1, 0] [1, 1, 1, 1, 1, 0, 1, 1] rfl rfl ?_
          refine at_skip rfl ?_
          refine at_seq [1, 1, 1, 1, 1, 1, 0] [1, 1, 1, 1, 1, 1, 1] rfl ?_
          refine at_region rfl ?_
          refine at_mv 7 60 rfl rfl rfl (.inl rfl) rfl (by dsimp only [List.set]) ?_
          refine at_op (some 61) rfl rfl rfl rfl (op_binI rfl rfl) (by dsimp only [putD, List.set]) ?_
          refine at_mv 61 62 rfl rfl rfl (.inl rfl) rfl (by dsimp only [List.set]) ?_
          refine at_split 62 rfl (fun hb8 env' he => ?_) (fun hb8 env' he => ?_)
          · dsimp only [List.set] at he; subst he
            refine at_mv 5 63 rfl rfl rfl (.inl rfl) rfl (by dsimp only [List.set]) ?_
            refine at_mv 6 64 rfl rfl rfl (.inl rfl) rfl (by dsimp only [List.set]) ?_
            refine at_op (some 65) rfl rfl rfl rfl (op_call0 rfl rfl rfl rfl (vcompare_spec _ _ qB)) (by dsimp only [putD, List.set]) ?_
            refine at_op (some 66) rfl rfl rfl rfl (op_binI rfl rfl) (by dsimp only [putD, List.set]) ?_
            refine at_pk true 62 66 67 rfl rfl rfl rfl rfl rfl rfl (by dsimp only [List.set]) ?_
            refine at_op (some 68) rfl rfl rfl rfl (op_un rfl rfl) (by dsimp only [putD, List.set]) ?_
            refine at_mv 68 69 rfl rfl rfl (.inl rfl) rfl (by dsimp only [List.set]) ?_
            refine at_split 69 rfl (fun hb9 env' he => ?_) (fun hb9 env' he => ?_)
            · dsimp only [List.set] at he; subst he
              refine at_opN (some 70) rfl rfl rfl (by dsimp only [putD, List.set]) ?_
              refine at_opN (some 71) rfl rfl rfl (by dsimp only [putD, List.set]) ?_
              refine at_opN (some 72) rfl rfl rfl (by dsimp only [putD, List.set]) ?_
              refine at_opN (some 73) rfl rfl rfl (by dsimp only [putD, List.set]) ?_
              refine at_pkc true 69 74 rfl rfl rfl rfl rfl rfl (by dsimp only [constD]) (by dsimp only [List.set]) ?_
              refine at_mv 74 2 rfl rfl rfl (.inr rfl) rfl (by dsimp only [List.set]) ?_
              refine at_end rfl ?_
              refine at_ret rfl (ret_one (t := 2) rfl rfl ?_ rfl)
              first | rfl | (simp_all; done)
            · dsimp only [List.set] at he; subst he
              refine at_mv 4 70 rfl rfl rfl (.inl rfl) rfl (by dsimp only [List.set]) ?_
              refine at_mv 6 71 rfl rfl rfl (.inl rfl) rfl (by dsimp only [List.set]) ?_
              refine at_op (some 72) rfl rfl rfl rfl (op_call0 rfl rfl rfl rfl (vcompare_spec _ _ qA)) (by dsimp only [putD, List.set]) ?_
              refine at_op (some 73) rfl rfl rfl rfl (op_binI rfl rfl) (by dsimp only [putD, List.set]) ?_
              refine at_pk false 69 73 74 rfl rfl rfl rfl rfl rfl rfl (by dsimp only [List.set]) ?_
              refine at_mv 74 2 rfl rfl rfl (.inr rfl) rfl (by dsimp only [List.set]) ?_
              refine at_end rfl ?_
              refine at_ret rfl (ret_one (t := 2) rfl rfl ?_ rfl)
              first | rfl | (simp_all; done)
          · dsimp only [List.set] at he; subst he
            refine at_opN (some 63) rfl rfl rfl (by dsimp only [putD, List.set]) ?_
            refine at_opN (some 64) rfl rfl rfl (by dsimp only [putD, List.set]) ?_
            refine at_opN (some 65) rfl rfl rfl (by dsimp only [putD, List.set]) ?_
            refine at_opN (some 66) rfl rfl rfl (by dsimp only [putD, List.set]) ?_
            refine at_pkc false 62 67 rfl rfl rfl rfl rfl rfl (by dsimp only [constD]) (by dsimp only [List.set]) ?_
            refine at_op (some 68) rfl rfl rfl rfl (op_un rfl rfl) (by dsimp only [putD, List.set]) ?_
            refine at_mv 68 69 rfl rfl rfl (.inl rfl) rfl (by dsimp only [List.set]) ?_
            refine at_opN (some 70) rfl rfl rfl (by dsimp only [putD, List.set]) ?_
            refine at_opN (some 71) rfl rfl rfl (by dsimp only [putD, List.set]) ?_
            refine at_opN (some 72) rfl rfl rfl (by dsimp only [putD, List.set]) ?_
            refine at_opN (some 73) rfl rfl rfl (by dsimp only [putD, List.set]) ?_
            refine at_pkc true 69 74 rfl rfl rfl rfl rfl rfl (by dsimp only [constD]) (by dsimp only [List.set]) ?_
            refine at_mv 74 2 rfl rfl rfl (.inr rfl) rfl (by dsimp only [List.set]) ?_
            refine at_end rfl ?_
            refine at_ret rfl (ret_one (t := 2) rfl rfl ?_ rfl)
            first | rfl | (simp_all; done)

noncomputable def cUndone : Code := Try.f4.body.getD .skip
set_option maxRecDepth 20000 in
theorem vundone_spec (l : List Int) : FSpec PP 4 [dl l] σ0 (db true) σ0 := by
  refine spec_at cUndone Try.func4 rfl (by kernel_rfl) (by first | decide | simp) _ (by dsimp only [Try.f4, List.length, Nat.reduceAdd, Nat.reduceSub, List.replicate, List.cons_append, List.nil_append]) ?_
  refine at_seq [0] [1] rfl ?_
  refine at_region rfl ?_
  refine at_mc 2 rfl rfl rfl (.inr rfl) (by dsimp only [constD]) (by dsimp only [List.set]) ?_
  refine at_end rfl ?_
  refine at_seq [1, 0] [1, 1] rfl ?_
  refine at_seq [1, 0, 0] [1, 0, 1] rfl ?_
  refine at_region rfl ?_
  refine at_op (some 16) rfl rfl rfl rfl (op_call0 rfl rfl rfl rfl (awake_spec)) (by dsimp only [putD, List.set]) ?_
  refine at_op (some 17) rfl rfl rfl rfl (op_un rfl rfl) (by dsimp only [putD, List.set]) ?_
  refine at_mv 17 18 rfl rfl rfl (.inl rfl) rfl (by dsimp only [List.set]) ?_
  refine at_mv 0 19 rfl rfl rfl (.inl rfl) rfl (by dsimp only [List.set]) ?_
  refine at_op (some 20) rfl rfl rfl rfl (op_call0 rfl rfl rfl rfl (few_spec l)) (by dsimp only [putD, List.set]) ?_
  refine at_op (some 21) rfl rfl rfl rfl (op_un rfl rfl) (by dsimp only [putD, List.set]) ?_
  refine at_pk false 18 21 22 rfl rfl rfl rfl rfl rfl rfl (by dsimp only [List.set]) ?_
  refine at_end rfl ?_
  refine at_cond [1, 0, 1, 0] [1, 0, 1, 1] rfl rfl (fun hc1 => ?_) (fun hc1 => ?_)
  · skip
    refine at_seq [1, 0, 1, 0, 0] [1, 0, 1, 0, 1] rfl ?_
    refine at_region rfl ?_
    refine at_op (some 23) rfl rfl rfl rfl (op_call0 rfl rfl rfl rfl (awake_spec)) (by dsimp only [putD, List.set]) ?_
    refine at_mv 23 2 rfl rfl rfl (.inr rfl) rfl (by dsimp only [List.set]) ?_
    refine at_end rfl ?_
    refine at_ret rfl (ret_one (t := 2) rfl rfl ?_ rfl)
    first | rfl | (simp_all; done)
  · skip
    have hs : l.length ≤ 1000000 := by simp at hc1; omega
    refine at_skip rfl ?_
    refine at_seq [1, 1, 0] [1, 1, 1] rfl ?_
    refine at_region rfl ?_
    refine at_mv 0 24 rfl rfl rfl (.inl rfl) rfl (by dsimp only [List.set]) ?_
    refine at_opS (some 25) rfl rfl rfl rfl (op_call0_new rfl rfl rfl rfl (new_spec l)) (by dsimp only [putD, List.set]) (by dsimp only [List.set, List.append, List.cons_append, List.nil_append, cellsD, List.map, repl, List.length, Nat.reduceAdd, if_true, ↓reduceIte]; first | done | rfl) ?_
    refine at_mv 25 3 rfl rfl rfl (.inr rfl) rfl (by dsimp only [List.set]) ?_
    refine at_end rfl ?_
    refine at_seq [1, 1, 1, 0] [1, 1, 1, 1] rfl ?_
    refine at_region rfl ?_
    refine at_mv 3 26 rfl rfl rfl (.inl rfl) rfl (by dsimp only [List.set]) ?_
    refine at_opS (some 27) rfl rfl rfl rfl (op_call1 rfl rfl rfl rfl rfl (.ptr (.pl rfl .nil)) rfl (next_spec l _ _ hs _ (by omega))) (by dsimp only [putD, List.set]) (by dsimp only [List.set, List.append, List.cons_append, List.nil_append, cellsD, List.map, repl, List.length, Nat.reduceAdd, if_true, ↓reduceIte]; first | done | rfl) ?_
    obtain ⟨n, hn⟩ := Int.eq_ofNat_of_zero_le (nextV_range (n := 7) (s := dkSt l 0 11400714819323198485) (by omega)).1
    have h6n : n ≤ 6 := by have := (nextV_range (n := 7) (s := dkSt l 0 11400714819323198485) (by omega)).2; omega
    rw [hn]
    refine at_mv 27 4 rfl rfl rfl (.inr rfl) rfl (by dsimp only [List.set]) ?_
    refine at_end rfl ?_
    refine at_seq [1, 1, 1, 1, 0] [1, 1, 1, 1, 1] rfl ?_
    refine at_region rfl ?_
    refine at_mv 3 28 rfl rfl rfl (.inl rfl) rfl (by dsimp only [List.set]) ?_
    refine at_mv 4 29 rfl rfl rfl (.inl rfl) rfl (by dsimp only [List.set]) ?_
    refine at_opS (some 30) rfl rfl rfl rfl (op_call1 rfl rfl rfl rfl rfl (.ptr (.pl rfl (.pl rfl .nil))) rfl (smallU_spec l hs 9 (by omega) _ (by omega) _ _)) (by dsimp only [putD, List.set]) (by dsimp only [List.set, List.append, List.cons_append, List.nil_append, cellsD, List.map, repl, List.length, Nat.reduceAdd, if_true, ↓reduceIte]; first | done | rfl) ?_
    refine at_mv 3 31 rfl rfl rfl (.inl rfl) rfl (by dsimp only [List.set]) ?_
    refine at_mv 4 32 rfl rfl rfl (.inl rfl) rfl (by dsimp only [List.set]) ?_
    refine at_opS (some 33) rfl rfl rfl rfl (op_call1 rfl rfl rfl rfl rfl (.ptr (.pl rfl (.pl rfl .nil))) rfl (smallU_spec l hs 9 (by omega) _ (by omega) _ _)) (by dsimp only [putD, List.set]) (by dsimp only [List.set, List.append, List.cons_append, List.nil_append, cellsD, List.map, repl, List.length, Nat.reduceAdd, if_true, ↓reduceIte]; first | done | rfl) ?_
    refine at_mv 3 34 rfl rfl rfl (.inl rfl) rfl (by dsimp only [List.set]) ?_
    refine at_mv 4 35 rfl rfl rfl (.inl rfl) rfl (by dsimp only [List.set]) ?_
    refine at_opS (some 36) rfl rfl rfl rfl (op_call1 rfl rfl rfl rfl rfl (.ptr (.pl rfl (.pl rfl .nil))) rfl (vectorU_spec l hs true _ (by omega) _ _)) (by dsimp only [putD, List.set]) (by dsimp only [List.set, List.append, List.cons_append, List.nil_append, cellsD, List.map, repl, List.length, Nat.reduceAdd, if_true, ↓reduceIte]; first | done | rfl) ?_
    refine at_mv 30 5 rfl rfl rfl (.inr rfl) rfl (by dsimp only [List.set]) ?_
    refine at_mv 33 6 rfl rfl rfl (.inr rfl) rfl (by dsimp only [List.set]) ?_
    refine at_mv 36 7 rfl rfl rfl (.inr rfl) rfl (by dsimp only [List.set]) ?_
    refine at_end rfl ?_
    obtain ⟨A, hA⟩ : ∃ A, smM l 9 n (dkAt l 0, dkSt l 0 11400714819323198485) = A := ⟨_, rfl⟩
    rw [hA]
    have sA : sm 9 A.1 := by rw [← hA]; exact (smM_ok _ _ (by omega) _ _).2
    have lA : A.1.length = n := by rw [← hA]; exact (smM_ok _ _ (by omega) _ _).1
    have qA : A.1.length ≤ 1000000 := by omega
    obtain ⟨B, hB⟩ : ∃ B, smM l 9 n (A.2.1, A.2.2) = B := ⟨_, rfl⟩
    rw [hB]
    have sB : sm 9 B.1 := by rw [← hB]; exact (smM_ok _ _ (by omega) _ _).2
    have lB : B.1.length = n := by rw [← hB]; exact (smM_ok _ _ (by omega) _ _).1
    have qB : B.1.length ≤ 1000000 := by omega
    obtain ⟨C, hC⟩ : ∃ C, vecM l true n (B.2.1, B.2.2) = C := ⟨_, rfl⟩
    rw [hC]
    have vC : valid C.1 = true := by rw [← hC]; exact vecM_valid h6n
    have lC : C.1.length = n := by rw [← hC]; exact (vecM_ok _ _ _ _).1
    have qC : C.1.length ≤ 1000000 := by omega
    have hab : A.1.length = B.1.length := by omega
    obtain ⟨u1, u2, u3, u4⟩ := sum_sm hab sA sB
    obtain ⟨vA, fA⟩ := sm_valid (by omega) sA (by omega)
    obtain ⟨vB, fB⟩ := sm_valid (by omega) sB (by omega)
    have lU : (List.zipWith addF A.1 B.1).length = n := by simp; omega
    obtain ⟨vU, fU⟩ := sm_valid (by omega) u1 (by omega)
    have hM := add_mono vA vU vC (by omega) (by omega) (fun x hx => by have := sA x hx; omega) u1 u2
    refine at_seq [1, 1, 1, 1, 1, 0] [1, 1, 1, 1, 1, 1] rfl ?_
    refine at_region rfl ?_
    refine at_mv 5 38 rfl rfl rfl (.inl rfl) rfl (by dsimp only [List.set]) ?_
    refine at_mv 6 39 rfl rfl rfl (.inl rfl) rfl (by dsimp only [List.set]) ?_
    refine at_op (some 40) rfl rfl rfl rfl (op_call0 rfl rfl rfl rfl (add_is (add_ok vA vB hab vU))) (by dsimp only [putD, List.set]) ?_
    refine at_mv 40 37 rfl rfl rfl (.inl rfl) rfl (by dsimp only [List.set]) ?_
    refine at_op (some 41) rfl rfl rfl rfl (op_extract rfl rfl) (by dsimp only [putD, List.set]) ?_
    refine at_op (some 42) rfl rfl rfl rfl (op_extract rfl rfl) (by dsimp only [putD, List.set]) ?_
    refine at_mv 41 8 rfl rfl rfl (.inr rfl) rfl (by dsimp only [List.set]) ?_
    refine at_mv 42 9 rfl rfl rfl (.inr rfl) rfl (by dsimp only [List.set]) ?_
    refine at_end rfl ?_
    refine at_seq [1, 1, 1, 1, 1, 1, 0] [1, 1, 1, 1, 1, 1, 1] rfl ?_
    refine at_region rfl ?_
    refine at_mv 8 44 rfl rfl rfl (.inl rfl) rfl (by dsimp only [List.set]) ?_
    refine at_mv 6 45 rfl rfl rfl (.inl rfl) rfl (by dsimp only [List.set]) ?_
    refine at_op (some 46) rfl rfl rfl rfl (op_call0 rfl rfl rfl rfl (sub_is (by rw [sub_ok vU fB (by omega) u3, u4]))) (by dsimp only [putD, List.set]) ?_
    refine at_mv 46 43 rfl rfl rfl (.inl rfl) rfl (by dsimp only [List.set]) ?_
    refine at_op (some 47) rfl rfl rfl rfl (op_extract rfl rfl) (by dsimp only [putD, List.set]) ?_
    refine at_op (some 48) rfl rfl rfl rfl (op_extract rfl rfl) (by dsimp only [putD, List.set]) ?_
    refine at_mv 47 10 rfl rfl rfl (.inr rfl) rfl (by dsimp only [List.set]) ?_
    refine at_mv 48 11 rfl rfl rfl (.inr rfl) rfl (by dsimp only [List.set]) ?_
    refine at_end rfl ?_
    refine at_seq [1, 1, 1, 1, 1, 1, 1, 0] [1, 1, 1, 1, 1, 1, 1, 1] rfl ?_
    refine at_seq [1, 1, 1, 1, 1, 1, 1, 0, 0] [1, 1, 1, 1, 1, 1, 1, 0, 1] rfl ?_
    refine at_region rfl ?_
    refine at_mv 9 49 rfl rfl rfl (.inl rfl) rfl (by dsimp only [List.set]) ?_
    refine at_op (some 50) rfl rfl rfl rfl (op_binI rfl rfl) (by dsimp only [putD, List.set]) ?_
    refine at_mv 50 51 rfl rfl rfl (.inl rfl) rfl (by dsimp only [List.set]) ?_
    refine at_mv 11 52 rfl rfl rfl (.inl rfl) rfl (by dsimp only [List.set]) ?_
    refine at_op (some 53) rfl rfl rfl rfl (op_binI rfl rfl) (by dsimp only [putD, List.set]) ?_
    refine at_pk false 51 53 54 rfl rfl rfl rfl rfl rfl rfl (by dsimp only [List.set]) ?_
    refine at_mv 54 55 rfl rfl rfl (.inl rfl) rfl (by dsimp only [List.set]) ?_
    refine at_mv 10 56 rfl rfl rfl (.inl rfl) rfl (by dsimp only [List.set]) ?_
    refine at_mv 5 57 rfl rfl rfl (.inl rfl) rfl (by dsimp only [List.set]) ?_
    refine at_op (some 58) rfl rfl rfl rfl (op_call0 rfl rfl rfl rfl (same_is _ _ qA (v := true) (by rw [cmpV_refl]; rfl))) (by dsimp only [putD, List.set]) ?_
    refine at_op (some 59) rfl rfl rfl rfl (op_un rfl rfl) (by dsimp only [putD, List.set]) ?_
    refine at_pk false 55 59 60 rfl rfl rfl rfl rfl rfl rfl (by dsimp only [List.set]) ?_
    refine at_mv 60 61 rfl rfl rfl (.inl rfl) rfl (by dsimp only [List.set]) ?_
    refine at_mv 5 62 rfl rfl rfl (.inl rfl) rfl (by dsimp only [List.set]) ?_
    refine at_mv 8 63 rfl rfl rfl (.inl rfl) rfl (by dsimp only [List.set]) ?_
    refine at_op (some 64) rfl rfl rfl rfl (op_call0 rfl rfl rfl rfl (leq_is _ _ (v := true) (by rw [leq_of vA vU (by omega)]; exact u2))) (by dsimp only [putD, List.set]) ?_
    refine at_op (some 65) rfl rfl rfl rfl (op_un rfl rfl) (by dsimp only [putD, List.set]) ?_
    refine at_pk false 61 65 66 rfl rfl rfl rfl rfl rfl rfl (by dsimp only [List.set]) ?_
    refine at_end rfl ?_
    refine at_false [1, 1, 1, 1, 1, 1, 1, 0, 1, 0] [1, 1, 1, 1, 1, 1, 1, 0, 1, 1] rfl rfl ?_
    refine at_skip rfl ?_
    refine at_seq [1, 1, 1, 1, 1, 1, 1, 1, 0] [1, 1, 1, 1, 1, 1, 1, 1, 1] rfl ?_
    refine at_region rfl ?_
    refine at_mv 5 68 rfl rfl rfl (.inl rfl) rfl (by dsimp only [List.set]) ?_
    refine at_mv 7 69 rfl rfl rfl (.inl rfl) rfl (by dsimp only [List.set]) ?_
    refine at_op (some 70) rfl rfl rfl rfl (op_call0 rfl rfl rfl rfl (add_spec _ _)) (by dsimp only [putD, List.set]) ?_
    refine at_mv 70 67 rfl rfl rfl (.inl rfl) rfl (by dsimp only [List.set]) ?_
    refine at_op (some 71) rfl rfl rfl rfl (op_extract rfl rfl) (by dsimp only [putD, List.set]) ?_
    refine at_op (some 72) rfl rfl rfl rfl (op_extract rfl rfl) (by dsimp only [putD, List.set]) ?_
    refine at_mv 71 12 rfl rfl rfl (.inr rfl) rfl (by dsimp only [List.set]) ?_
    refine at_mv 72 13 rfl rfl rfl (.inr rfl) rfl (by dsimp only [List.set]) ?_
    refine at_end rfl ?_
    refine at_seq [1, 1, 1, 1, 1, 1, 1, 1, 1, 0] [1, 1, 1, 1, 1, 1, 1, 1, 1, 1] rfl ?_
    refine at_region rfl ?_
    refine at_mv 8 74 rfl rfl rfl (.inl rfl) rfl (by dsimp only [List.set]) ?_
    refine at_mv 7 75 rfl rfl rfl (.inl rfl) rfl (by dsimp only [List.set]) ?_
    refine at_op (some 76) rfl rfl rfl rfl (op_call0 rfl rfl rfl rfl (add_spec _ _)) (by dsimp only [putD, List.set]) ?_
    refine at_mv 76 73 rfl rfl rfl (.inl rfl) rfl (by dsimp only [List.set]) ?_
    refine at_op (some 77) rfl rfl rfl rfl (op_extract rfl rfl) (by dsimp only [putD, List.set]) ?_
    refine at_op (some 78) rfl rfl rfl rfl (op_extract rfl rfl) (by dsimp only [putD, List.set]) ?_
    refine at_mv 77 14 rfl rfl rfl (.inr rfl) rfl (by dsimp only [List.set]) ?_
    refine at_mv 78 15 rfl rfl rfl (.inr rfl) rfl (by dsimp only [List.set]) ?_
    refine at_end rfl ?_
    refine at_seq [1, 1, 1, 1, 1, 1, 1, 1, 1, 1, 0] [1, 1, 1, 1, 1, 1, 1, 1, 1, 1, 1] rfl ?_
    refine at_region rfl ?_
    refine at_mv 13 79 rfl rfl rfl (.inl rfl) rfl (by dsimp only [List.set]) ?_
    refine at_op (some 80) rfl rfl rfl rfl (op_binI rfl rfl) (by dsimp only [putD, List.set]) ?_
    refine at_mv 80 81 rfl rfl rfl (.inl rfl) rfl (by dsimp only [List.set]) ?_
    refine at_split 81 rfl (fun hb2 env' he => ?_) (fun hb2 env' he => ?_)
    · dsimp only [List.set] at he; subst he
      refine at_opN (some 82) rfl rfl rfl (by dsimp only [putD, List.set]) ?_
      refine at_opN (some 83) rfl rfl rfl (by dsimp only [putD, List.set]) ?_
      refine at_pkc true 81 84 rfl rfl rfl rfl rfl rfl (by dsimp only [constD]) (by dsimp only [List.set]) ?_
      refine at_mv 84 85 rfl rfl rfl (.inl rfl) rfl (by dsimp only [List.set]) ?_
      refine at_opN (some 86) rfl rfl rfl (by dsimp only [putD, List.set]) ?_
      refine at_opN (some 87) rfl rfl rfl (by dsimp only [putD, List.set]) ?_
      refine at_opN (some 88) rfl rfl rfl (by dsimp only [putD, List.set]) ?_
      refine at_pkc true 85 89 rfl rfl rfl rfl rfl rfl (by dsimp only [constD]) (by dsimp only [List.set]) ?_
      refine at_mv 89 90 rfl rfl rfl (.inl rfl) rfl (by dsimp only [List.set]) ?_
      refine at_mv 15 91 rfl rfl rfl (.inl rfl) rfl (by dsimp only [List.set]) ?_
      refine at_op (some 92) rfl rfl rfl rfl (op_binI rfl rfl) (by dsimp only [putD, List.set]) ?_
      refine at_mv 92 93 rfl rfl rfl (.inl rfl) rfl (by dsimp only [List.set]) ?_
      refine at_split 93 rfl (fun hb3 env' he => ?_) (fun hb3 env' he => ?_)
      · dsimp only [List.set] at he; subst he
        refine at_opN (some 94) rfl rfl rfl (by dsimp only [putD, List.set]) ?_
        refine at_opN (some 95) rfl rfl rfl (by dsimp only [putD, List.set]) ?_
        refine at_pkc true 93 96 rfl rfl rfl rfl rfl rfl (by dsimp only [constD]) (by dsimp only [List.set]) ?_
        refine at_pk true 90 96 97 rfl rfl rfl rfl rfl rfl rfl (by dsimp only [List.set]) ?_
        refine at_mv 97 2 rfl rfl rfl (.inr rfl) rfl (by dsimp only [List.set]) ?_
        refine at_end rfl ?_
        refine at_ret rfl (ret_one (t := 2) rfl rfl ?_ rfl)
        first | rfl | (simp_all; done)
      · dsimp only [List.set] at he; subst he
        refine at_mv 13 94 rfl rfl rfl (.inl rfl) rfl (by dsimp only [List.set]) ?_
        refine at_op (some 95) rfl rfl rfl rfl (op_binI rfl rfl) (by dsimp only [putD, List.set]) ?_
        refine at_pk false 93 95 96 rfl rfl rfl rfl rfl rfl rfl (by dsimp only [List.set]) ?_
        refine at_pk true 90 96 97 rfl rfl rfl rfl rfl rfl rfl (by dsimp only [List.set]) ?_
        refine at_mv 97 2 rfl rfl rfl (.inr rfl) rfl (by dsimp only [List.set]) ?_
        refine at_end rfl ?_
        refine at_ret rfl (ret_one (t := 2) rfl rfl ?_ rfl)
        first | rfl | (simp_all; done)
    · dsimp only [List.set] at he; subst he
      refine at_mv 15 82 rfl rfl rfl (.inl rfl) rfl (by dsimp only [List.set]) ?_
      refine at_op (some 83) rfl rfl rfl rfl (op_binI rfl rfl) (by dsimp only [putD, List.set]) ?_
      refine at_pk false 81 83 84 rfl rfl rfl rfl rfl rfl rfl (by dsimp only [List.set]) ?_
      refine at_mv 84 85 rfl rfl rfl (.inl rfl) rfl (by dsimp only [List.set]) ?_
      refine at_split 85 rfl (fun hb4 env' he => ?_) (fun hb4 env' he => ?_)
      · dsimp only [List.set] at he; subst he
        refine at_opN (some 86) rfl rfl rfl (by dsimp only [putD, List.set]) ?_
        refine at_opN (some 87) rfl rfl rfl (by dsimp only [putD, List.set]) ?_
        refine at_opN (some 88) rfl rfl rfl (by dsimp only [putD, List.set]) ?_
        refine at_pkc true 85 89 rfl rfl rfl rfl rfl rfl (by dsimp only [constD]) (by dsimp only [List.set]) ?_
        refine at_mv 89 90 rfl rfl rfl (.inl rfl) rfl (by dsimp only [List.set]) ?_
        refine at_mv 15 91 rfl rfl rfl (.inl rfl) rfl (by dsimp only [List.set]) ?_
        refine at_op (some 92) rfl rfl rfl rfl (op_binI rfl rfl) (by dsimp only [putD, List.set]) ?_
        refine at_mv 92 93 rfl rfl rfl (.inl rfl) rfl (by dsimp only [List.set]) ?_
        refine at_split 93 rfl (fun hb5 env' he => ?_) (fun hb5 env' he => ?_)
        · dsimp only [List.set] at he; subst he
          refine at_opN (some 94) rfl rfl rfl (by dsimp only [putD, List.set]) ?_
          refine at_opN (some 95) rfl rfl rfl (by dsimp only [putD, List.set]) ?_
          refine at_pkc true 93 96 rfl rfl rfl rfl rfl rfl (by dsimp only [constD]) (by dsimp only [List.set]) ?_
          refine at_pk true 90 96 97 rfl rfl rfl rfl rfl rfl rfl (by dsimp only [List.set]) ?_
          refine at_mv 97 2 rfl rfl rfl (.inr rfl) rfl (by dsimp only [List.set]) ?_
          refine at_end rfl ?_
          refine at_ret rfl (ret_one (t := 2) rfl rfl ?_ rfl)
          first | rfl | (simp_all; done)
        · dsimp only [List.set] at he; subst he
          refine at_mv 13 94 rfl rfl rfl (.inl rfl) rfl (by dsimp only [List.set]) ?_
          refine at_op (some 95) rfl rfl rfl rfl (op_binI rfl rfl) (by dsimp only [putD, List.set]) ?_
          refine at_pk false 93 95 96 rfl rfl rfl rfl rfl rfl rfl (by dsimp only [List.set]) ?_
          refine at_pk true 90 96 97 rfl rfl rfl rfl rfl rfl rfl (by dsimp only [List.set]) ?_
          refine at_mv 97 2 rfl rfl rfl (.inr rfl) rfl (by dsimp only [List.set]) ?_
          refine at_end rfl ?_
          refine at_ret rfl (ret_one (t := 2) rfl rfl ?_ rfl)
          first | rfl | (simp_all; done)
      · dsimp only [List.set] at he; subst he
        refine at_mv 12 86 rfl rfl rfl (.inl rfl) rfl (by dsimp only [List.set]) ?_
        refine at_mv 14 87 rfl rfl rfl (.inl rfl) rfl (by dsimp only [List.set]) ?_
        refine at_op (some 88) rfl rfl rfl rfl (op_call0 rfl rfl rfl rfl (leq_spec _ _)) (by dsimp only [putD, List.set]) ?_
        refine at_pk false 85 88 89 rfl rfl rfl rfl rfl rfl rfl (by dsimp only [List.set]) ?_
        refine at_mv 89 90 rfl rfl rfl (.inl rfl) rfl (by dsimp only [List.set]) ?_
        refine at_split 90 rfl (fun hb6 env' he => ?_) (fun hb6 env' he => ?_)
        · dsimp only [List.set] at he; subst he
          refine at_mv 15 91 rfl rfl rfl (.inl rfl) rfl (by dsimp only [List.set]) ?_
          refine at_op (some 92) rfl rfl rfl rfl (op_binI rfl rfl) (by dsimp only [putD, List.set]) ?_
          refine at_mv 92 93 rfl rfl rfl (.inl rfl) rfl (by dsimp only [List.set]) ?_
          refine at_split 93 rfl (fun hb7 env' he => ?_) (fun hb7 env' he => ?_)
          · dsimp only [List.set] at he; subst he
            refine at_opN (some 94) rfl rfl rfl (by dsimp only [putD, List.set]) ?_
            refine at_opN (some 95) rfl rfl rfl (by dsimp only [putD, List.set]) ?_
            refine at_pkc true 93 96 rfl rfl rfl rfl rfl rfl (by dsimp only [constD]) (by dsimp only [List.set]) ?_
            refine at_pk true 90 96 97 rfl rfl rfl rfl rfl rfl rfl (by dsimp only [List.set]) ?_
            refine at_mv 97 2 rfl rfl rfl (.inr rfl) rfl (by dsimp only [List.set]) ?_
            refine at_end rfl ?_
            refine at_ret rfl (ret_one (t := 2) rfl rfl ?_ rfl)
            first | rfl | (simp_all; done)
          · dsimp only [List.set] at he; subst he
            refine at_mv 13 94 rfl rfl rfl (.inl rfl) rfl (by dsimp only [List.set]) ?_
            refine at_op (some 95) rfl rfl rfl rfl (op_binI rfl rfl) (by dsimp only [putD, List.set]) ?_
            refine at_pk false 93 95 96 rfl rfl rfl rfl rfl rfl rfl (by dsimp only [List.set]) ?_
            refine at_pk true 90 96 97 rfl rfl rfl rfl rfl rfl rfl (by dsimp only [List.set]) ?_
            refine at_mv 97 2 rfl rfl rfl (.inr rfl) rfl (by dsimp only [List.set]) ?_
            refine at_end rfl ?_
            refine at_ret rfl (ret_one (t := 2) rfl rfl ?_ rfl)
            first | rfl | (simp_all; done)
        · dsimp only [List.set] at he; subst he
          refine at_opN (some 91) rfl rfl rfl (by dsimp only [putD, List.set]) ?_
          refine at_opN (some 92) rfl rfl rfl (by dsimp only [putD, List.set]) ?_
          refine at_opN (some 93) rfl rfl rfl (by dsimp only [putD, List.set]) ?_
          refine at_opN (some 94) rfl rfl rfl (by dsimp only [putD, List.set]) ?_
          refine at_opN (some 95) rfl rfl rfl (by dsimp only [putD, List.set]) ?_
          refine at_opN (some 96) rfl rfl rfl (by dsimp only [putD, List.set]) ?_
          refine at_pkc false 90 97 rfl rfl rfl rfl rfl rfl (by dsimp only [constD]) (by dsimp only [List.set]) ?_
          refine at_mv 97 2 rfl rfl rfl (.inr rfl) rfl (by dsimp only [List.set]) ?_
          refine at_end rfl ?_
          refine at_ret rfl (ret_one (t := 2) rfl rfl ?_ rfl)
          first | rfl | (simp_all; done)

end Go.Proofs.Ytoofgniepbidnaa
