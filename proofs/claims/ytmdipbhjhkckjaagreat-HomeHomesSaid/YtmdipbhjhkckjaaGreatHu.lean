/-
  The law HomeHomes, walked.
-/
import Derived.Test.YtmdipbhjhkckjaaGreatHy
namespace Go.Proofs.YtmdipbhjhkckjaaGreat
open Go.Dv

noncomputable def cHH : Code := Tryz.f5.body.getD .skip
set_option maxRecDepth 20000 in
theorem hh_a (R : List D → St → Prop) (K : List KI) (n : Nat) (G : List (List Arc)) (hG : GOK n G) (h6 : n ≤ 6) (hs : List Nat) (k : Nat) (hkn : k < n) (T : Bool) (hk : Run PP R K (.undef :: .undef :: .undef :: (.v (.ref (vG n G))) :: (.v (.list (vns hs))) :: (di ↑k) :: (db T) :: .undef :: .undef :: .undef :: .undef :: .undef :: .undef :: .undef :: .undef :: .undef :: .undef :: .undef :: .undef :: .undef :: .undef :: .undef :: .undef :: .undef :: .undef :: (di ↑n) :: (di ↑k) :: .undef :: .undef :: .undef :: .undef :: .undef :: .undef :: .undef :: .undef :: .undef :: .undef :: .undef :: .undef :: .undef :: .undef :: .undef :: .undef :: .undef :: .undef :: .undef :: .undef :: .undef :: .undef :: .undef :: .undef :: .undef :: .undef :: .undef :: .undef :: .undef :: .undef :: .undef :: .undef :: .undef :: .undef :: .undef :: .undef :: .undef :: .undef :: .undef :: .undef :: .undef :: .undef :: .undef :: .undef :: .undef :: .undef :: .undef :: .undef :: .undef :: .undef :: .undef :: .undef :: .undef :: .undef :: .undef :: .undef :: .undef :: .undef :: .undef :: .undef :: .undef :: .undef :: .undef :: .undef :: .undef :: .undef :: .undef :: .undef :: .undef :: .undef :: .undef :: .undef :: .undef :: .undef :: .undef :: .undef :: .undef :: .undef :: .undef :: .undef :: .undef :: .undef :: []) σ1) (m : Nat) : ∀ (i : Nat) (b : Bool), n - i = m → T = (b && ((List.range n).drop i).all (fun i => gb (reachM G n i) k)) → Run PP R (.lp (sub cHH [1, 1, 1, 1, 0, 1, 0, 0, 1, 1, 0, 0, 1, 1, 0, 1, 0, 0]) :: .blk 2 :: K) (.undef :: .undef :: .undef :: (.v (.ref (vG n G))) :: (.v (.list (vns hs))) :: (di ↑k) :: (db b) :: .undef :: .undef :: .undef :: .undef :: .undef :: .undef :: .undef :: .undef :: .undef :: .undef :: .undef :: .undef :: .undef :: .undef :: .undef :: .undef :: .undef :: .undef :: (di ↑n) :: (di ↑k) :: .undef :: .undef :: .undef :: .undef :: (di ↑n) :: (di ↑i) :: .undef :: .undef :: .undef :: .undef :: .undef :: .undef :: .undef :: .undef :: .undef :: .undef :: .undef :: .undef :: .undef :: .undef :: .undef :: .undef :: .undef :: .undef :: .undef :: .undef :: .undef :: .undef :: .undef :: .undef :: .undef :: .undef :: .undef :: .undef :: .undef :: .undef :: .undef :: .undef :: .undef :: .undef :: .undef :: .undef :: .undef :: .undef :: .undef :: .undef :: .undef :: .undef :: .undef :: .undef :: .undef :: .undef :: .undef :: .undef :: .undef :: .undef :: .undef :: .undef :: .undef :: .undef :: .undef :: .undef :: .undef :: .undef :: .undef :: .undef :: .undef :: .undef :: .undef :: .undef :: .undef :: .undef :: .undef :: .undef :: .undef :: .undef :: .undef :: .undef :: .undef :: .undef :: .undef :: .undef :: []) σ1 := by
  induction m using Nat.strongRecOn with
  | _ m ih =>
    intro i b hm hT
    refine run_lp ?_
    refine at_seq [1, 1, 1, 1, 0, 1, 0, 0, 1, 1, 0, 0, 1, 1, 0, 1, 0, 0, 0] [1, 1, 1, 1, 0, 1, 0, 0, 1, 1, 0, 0, 1, 1, 0, 1, 0, 0, 1] rfl ?_
    refine at_region rfl ?_
    refine at_op (some 33) rfl rfl rfl rfl (op_binI rfl rfl) (by dsimp only [putD, List.set]) ?_
    refine at_end rfl ?_
    refine at_seq [1, 1, 1, 1, 0, 1, 0, 0, 1, 1, 0, 0, 1, 1, 0, 1, 0, 0, 1, 0] [1, 1, 1, 1, 0, 1, 0, 0, 1, 1, 0, 0, 1, 1, 0, 1, 0, 0, 1, 1] rfl ?_
    refine at_cond [1, 1, 1, 1, 0, 1, 0, 0, 1, 1, 0, 0, 1, 1, 0, 1, 0, 0, 1, 0, 0] [1, 1, 1, 1, 0, 1, 0, 0, 1, 1, 0, 0, 1, 1, 0, 1, 0, 0, 1, 0, 1] rfl rfl (fun hc1 => ?_) (fun hc1 => ?_)
    · skip
      have hlt : i < n := by simp at hc1; omega
      rw [allq_at (range_get hlt)] at hT
      obtain ⟨w, hw⟩ := way_gb hG h6 hlt hkn
      refine at_skip rfl ?_
      refine at_seq [1, 1, 1, 1, 0, 1, 0, 0, 1, 1, 0, 0, 1, 1, 0, 1, 0, 0, 1, 1, 0] [1, 1, 1, 1, 0, 1, 0, 0, 1, 1, 0, 0, 1, 1, 0, 1, 0, 0, 1, 1, 1] rfl ?_
      refine at_block [1, 1, 1, 1, 0, 1, 0, 0, 1, 1, 0, 0, 1, 1, 0, 1, 0, 0, 1, 1, 0, 0] 3 rfl ?_
      refine at_seq [1, 1, 1, 1, 0, 1, 0, 0, 1, 1, 0, 0, 1, 1, 0, 1, 0, 0, 1, 1, 0, 0, 0] [1, 1, 1, 1, 0, 1, 0, 0, 1, 1, 0, 0, 1, 1, 0, 1, 0, 0, 1, 1, 0, 0, 1] rfl ?_
      refine at_region rfl ?_
      refine at_mv 32 34 rfl rfl rfl (.inl rfl) rfl (by dsimp only [List.set]) ?_
      refine at_mv 34 7 rfl rfl rfl (.inr rfl) rfl (by dsimp only [List.set]) ?_
      refine at_end rfl ?_
      refine at_seq [1, 1, 1, 1, 0, 1, 0, 0, 1, 1, 0, 0, 1, 1, 0, 1, 0, 0, 1, 1, 0, 0, 1, 0] [1, 1, 1, 1, 0, 1, 0, 0, 1, 1, 0, 0, 1, 1, 0, 1, 0, 0, 1, 1, 0, 0, 1, 1] rfl ?_
      refine at_region rfl ?_
      first | (refine at_op (some 36) rfl rfl rfl rfl (op_loadRA rfl fagg_api_Graph) (by dsimp only [putD, List.set]) ?_) | (refine at_op (some 36) rfl rfl rfl rfl (op_loadPA rfl fagg_api_Graph rfl (by first | decide | simp) rfl) (by dsimp only [putD, List.set]) ?_)
      refine at_mv 7 37 rfl rfl rfl (.inl rfl) rfl (by dsimp only [List.set]) ?_
      refine at_mv 5 38 rfl rfl rfl (.inl rfl) rfl (by dsimp only [List.set]) ?_
      refine at_op (some 39) rfl rfl rfl rfl (op_call0 rfl rfl rfl rfl (hw)) (by dsimp only [putD, List.set]) ?_
      refine at_mv 39 35 rfl rfl rfl (.inl rfl) rfl (by dsimp only [List.set]) ?_
      refine at_op (some 40) rfl rfl rfl rfl (op_extract rfl rfl) (by dsimp only [putD, List.set]) ?_
      refine at_op (some 41) rfl rfl rfl rfl (op_extract rfl rfl) (by dsimp only [putD, List.set]) ?_
      refine at_mv 40 8 rfl rfl rfl (.inr rfl) rfl (by dsimp only [List.set]) ?_
      refine at_mv 41 9 rfl rfl rfl (.inr rfl) rfl (by dsimp only [List.set]) ?_
      refine at_end rfl ?_
      refine at_region rfl ?_
      refine at_mv 6 42 rfl rfl rfl (.inl rfl) rfl (by dsimp only [List.set]) ?_
      refine at_mv 42 43 rfl rfl rfl (.inl rfl) rfl (by dsimp only [List.set]) ?_
      refine at_split 43 rfl (fun hb2 env' he => ?_) (fun hb2 env' he => ?_)
      · dsimp only [List.set] at he; subst he
        have hbt : b = true := hb2
        subst hbt
        rw [Bool.true_and] at hT
        refine at_mv 9 44 rfl rfl rfl (.inl rfl) rfl (by dsimp only [List.set]) ?_
        refine at_pk true 43 44 45 rfl rfl rfl rfl rfl rfl rfl (by dsimp only [List.set]) ?_
        refine at_mv 45 6 rfl rfl rfl (.inr rfl) rfl (by dsimp only [List.set]) ?_
        refine at_end rfl ?_
        refine run_blk ?_
        refine at_region rfl ?_
        refine at_op (some 46) rfl rfl rfl rfl (op_binI rfl rfl) (by dsimp only [putD, List.set]) ?_
        rw [wrap_succ (by omega)]
        refine at_mv 46 32 rfl rfl rfl (.inl rfl) rfl (by dsimp only [List.set]) ?_
        refine at_end rfl ?_
        exact run_wk (.drop (.drop (.drop (.keep (.keep (.keep (.keep (.drop (.drop (.drop (.drop (.drop (.drop (.drop (.drop (.drop (.drop (.drop (.drop (.drop (.drop (.drop (.drop (.drop (.drop (.keep (.keep (.drop (.drop (.drop (.drop (.keep (.keep (.drop (.drop (.drop (.drop (.drop (.drop (.drop (.drop (.drop (.drop (.drop (.drop (.drop (.drop (.drop (.drop (.drop (.drop (.drop (.drop (.drop (.drop (.drop (.drop (.drop (.drop (.drop (.drop (.drop (.drop (.drop (.drop (.drop (.drop (.drop (.drop (.drop (.drop (.drop (.drop (.drop (.drop (.drop (.drop (.drop (.drop (.drop (.drop (.drop (.drop (.drop (.drop (.drop (.drop (.drop (.drop (.drop (.drop (.drop (.drop (.drop (.drop (.drop (.drop (.drop (.drop (.drop (.drop (.drop (.drop (.drop (.drop (.drop (.drop (.drop (.drop .nil))))))))))))))))))))))))))))))))))))))))))))))))))))))))))))))))))))))))))))))))))))))))))))))))))))))))))))) (ih _ (by omega) (i + 1) _ rfl hT)
      · dsimp only [List.set] at he; subst he
        have hbt : b = false := hb2
        subst hbt
        rw [Bool.false_and] at hT
        refine at_opN (some 44) rfl rfl rfl (by dsimp only [putD, List.set]) ?_
        refine at_pkc false 43 45 rfl rfl rfl rfl rfl rfl (by dsimp only [constD]) (by dsimp only [List.set]) ?_
        refine at_mv 45 6 rfl rfl rfl (.inr rfl) rfl (by dsimp only [List.set]) ?_
        refine at_end rfl ?_
        refine run_blk ?_
        refine at_region rfl ?_
        refine at_op (some 46) rfl rfl rfl rfl (op_binI rfl rfl) (by dsimp only [putD, List.set]) ?_
        rw [wrap_succ (by omega)]
        refine at_mv 46 32 rfl rfl rfl (.inl rfl) rfl (by dsimp only [List.set]) ?_
        refine at_end rfl ?_
        exact run_wk (.drop (.drop (.drop (.keep (.keep (.keep (.keep (.drop (.drop (.drop (.drop (.drop (.drop (.drop (.drop (.drop (.drop (.drop (.drop (.drop (.drop (.drop (.drop (.drop (.drop (.keep (.keep (.drop (.drop (.drop (.drop (.keep (.keep (.drop (.drop (.drop (.drop (.drop (.drop (.drop (.drop (.drop (.drop (.drop (.drop (.drop (.drop (.drop (.drop (.drop (.drop (.drop (.drop (.drop (.drop (.drop (.drop (.drop (.drop (.drop (.drop (.drop (.drop (.drop (.drop (.drop (.drop (.drop (.drop (.drop (.drop (.drop (.drop (.drop (.drop (.drop (.drop (.drop (.drop (.drop (.drop (.drop (.drop (.drop (.drop (.drop (.drop (.drop (.drop (.drop (.drop (.drop (.drop (.drop (.drop (.drop (.drop (.drop (.drop (.drop (.drop (.drop (.drop (.drop (.drop (.drop (.drop (.drop (.drop .nil))))))))))))))))))))))))))))))))))))))))))))))))))))))))))))))))))))))))))))))))))))))))))))))))))))))))))))) (ih _ (by omega) (i + 1) _ rfl hT)
    · skip
      have hge : n ≤ i := by simp at hc1; omega
      rw [allq_end (by simp; omega)] at hT
      subst hT
      refine at_exit rfl rfl ?_
      exact run_wk (.drop (.drop (.drop (.keep (.keep (.keep (.keep (.drop (.drop (.drop (.drop (.drop (.drop (.drop (.drop (.drop (.drop (.drop (.drop (.drop (.drop (.drop (.drop (.drop (.drop (.keep (.keep (.drop (.drop (.drop (.drop (.drop (.drop (.drop (.drop (.drop (.drop (.drop (.drop (.drop (.drop (.drop (.drop (.drop (.drop (.drop (.drop (.drop (.drop (.drop (.drop (.drop (.drop (.drop (.drop (.drop (.drop (.drop (.drop (.drop (.drop (.drop (.drop (.drop (.drop (.drop (.drop (.drop (.drop (.drop (.drop (.drop (.drop (.drop (.drop (.drop (.drop (.drop (.drop (.drop (.drop (.drop (.drop (.drop (.drop (.drop (.drop (.drop (.drop (.drop (.drop (.drop (.drop (.drop (.drop (.drop (.drop (.drop (.drop (.drop (.drop (.drop (.drop (.drop (.drop (.drop (.drop (.drop (.drop .nil))))))))))))))))))))))))))))))))))))))))))))))))))))))))))))))))))))))))))))))))))))))))))))))))))))))))))))) hk

set_option maxRecDepth 20000 in
theorem hh_b (R : List D → St → Prop) (K : List KI) (n : Nat) (G : List (List Arc)) (hs : List Nat) (hl : hs.length ≤ 100) (k : Nat) (A T : Bool) (hk : Run PP R K (.undef :: .undef :: .undef :: (.v (.ref (vG n G))) :: (.v (.list (vns hs))) :: (di ↑k) :: (db A) :: .undef :: .undef :: .undef :: (db T) :: .undef :: .undef :: .undef :: .undef :: .undef :: .undef :: .undef :: .undef :: .undef :: .undef :: .undef :: .undef :: .undef :: .undef :: (di ↑n) :: (di ↑k) :: .undef :: .undef :: .undef :: .undef :: .undef :: .undef :: .undef :: .undef :: .undef :: .undef :: .undef :: .undef :: .undef :: .undef :: .undef :: .undef :: .undef :: .undef :: .undef :: .undef :: .undef :: .undef :: .undef :: .undef :: .undef :: .undef :: .undef :: .undef :: .undef :: .undef :: .undef :: .undef :: .undef :: .undef :: .undef :: .undef :: .undef :: .undef :: .undef :: .undef :: .undef :: .undef :: .undef :: .undef :: .undef :: .undef :: .undef :: .undef :: .undef :: .undef :: .undef :: .undef :: .undef :: .undef :: .undef :: .undef :: .undef :: .undef :: .undef :: .undef :: .undef :: .undef :: .undef :: .undef :: .undef :: .undef :: .undef :: .undef :: .undef :: .undef :: .undef :: .undef :: .undef :: .undef :: .undef :: .undef :: .undef :: .undef :: .undef :: .undef :: .undef :: .undef :: []) σ1) (m : Nat) : ∀ (i : Nat) (b : Bool), hs.length - i = m → T = (b || (hs.drop i).any (fun h => h == k)) → Run PP R (.lp (sub cHH [1, 1, 1, 1, 0, 1, 0, 0, 1, 1, 0, 0, 1, 1, 1, 1, 0, 1, 0, 0]) :: .blk 4 :: K) (.undef :: .undef :: .undef :: (.v (.ref (vG n G))) :: (.v (.list (vns hs))) :: (di ↑k) :: (db A) :: .undef :: .undef :: .undef :: (db b) :: .undef :: .undef :: .undef :: .undef :: .undef :: .undef :: .undef :: .undef :: .undef :: .undef :: .undef :: .undef :: .undef :: .undef :: (di ↑n) :: (di ↑k) :: .undef :: .undef :: .undef :: .undef :: .undef :: .undef :: .undef :: .undef :: .undef :: .undef :: .undef :: .undef :: .undef :: .undef :: .undef :: .undef :: .undef :: .undef :: .undef :: .undef :: (.v (.list (vns hs))) :: (di ↑hs.length) :: (di ↑i) :: .undef :: .undef :: .undef :: .undef :: .undef :: .undef :: .undef :: .undef :: .undef :: .undef :: .undef :: .undef :: .undef :: .undef :: .undef :: .undef :: .undef :: .undef :: .undef :: .undef :: .undef :: .undef :: .undef :: .undef :: .undef :: .undef :: .undef :: .undef :: .undef :: .undef :: .undef :: .undef :: .undef :: .undef :: .undef :: .undef :: .undef :: .undef :: .undef :: .undef :: .undef :: .undef :: .undef :: .undef :: .undef :: .undef :: .undef :: .undef :: .undef :: .undef :: .undef :: .undef :: .undef :: .undef :: .undef :: .undef :: .undef :: .undef :: .undef :: []) σ1 := by
  induction m using Nat.strongRecOn with
  | _ m ih =>
    intro i b hm hT
    refine run_lp ?_
    refine at_seq [1, 1, 1, 1, 0, 1, 0, 0, 1, 1, 0, 0, 1, 1, 1, 1, 0, 1, 0, 0, 0] [1, 1, 1, 1, 0, 1, 0, 0, 1, 1, 0, 0, 1, 1, 1, 1, 0, 1, 0, 0, 1] rfl ?_
    refine at_region rfl ?_
    refine at_op (some 50) rfl rfl rfl rfl (op_binI rfl rfl) (by dsimp only [putD, List.set]) ?_
    refine at_end rfl ?_
    refine at_seq [1, 1, 1, 1, 0, 1, 0, 0, 1, 1, 0, 0, 1, 1, 1, 1, 0, 1, 0, 0, 1, 0] [1, 1, 1, 1, 0, 1, 0, 0, 1, 1, 0, 0, 1, 1, 1, 1, 0, 1, 0, 0, 1, 1] rfl ?_
    refine at_cond [1, 1, 1, 1, 0, 1, 0, 0, 1, 1, 0, 0, 1, 1, 1, 1, 0, 1, 0, 0, 1, 0, 0] [1, 1, 1, 1, 0, 1, 0, 0, 1, 1, 0, 0, 1, 1, 1, 1, 0, 1, 0, 0, 1, 0, 1] rfl rfl (fun hc1 => ?_) (fun hc1 => ?_)
    · skip
      have hlt : i < hs.length := by simpa using hc1
      obtain ⟨j, hj⟩ := get_ex hlt
      have hj2 := idx_some (f := vn) hj
      rw [any_at hj] at hT
      refine at_skip rfl ?_
      refine at_seq [1, 1, 1, 1, 0, 1, 0, 0, 1, 1, 0, 0, 1, 1, 1, 1, 0, 1, 0, 0, 1, 1, 0] [1, 1, 1, 1, 0, 1, 0, 0, 1, 1, 0, 0, 1, 1, 1, 1, 0, 1, 0, 0, 1, 1, 1] rfl ?_
      refine at_block [1, 1, 1, 1, 0, 1, 0, 0, 1, 1, 0, 0, 1, 1, 1, 1, 0, 1, 0, 0, 1, 1, 0, 0] 5 rfl ?_
      refine at_seq [1, 1, 1, 1, 0, 1, 0, 0, 1, 1, 0, 0, 1, 1, 1, 1, 0, 1, 0, 0, 1, 1, 0, 0, 0] [1, 1, 1, 1, 0, 1, 0, 0, 1, 1, 0, 0, 1, 1, 1, 1, 0, 1, 0, 0, 1, 1, 0, 0, 1] rfl ?_
      refine at_region rfl ?_
      first | (refine at_op (some 51) rfl rfl rfl rfl (op_idxL rfl fsl_Sint (by first | decide | omega) (by first | assumption | exact idx_some (by assumption) | rfl) (by first | rfl | (simp [V.size]; done))) (by dsimp only [putD, List.set]) ?_) | (refine at_op (some 51) rfl rfl rfl rfl (opOK_un (op_idxL rfl fsl_Sint (by first | decide | omega) (by first | assumption | exact idx_some (by assumption) | rfl) (by first | rfl | (simp [V.size]; done)))) (by dsimp only [putD, List.set]) ?_) | (refine at_op (some 51) rfl rfl rfl rfl (op_idxA rfl fsl_Sint (by first | decide | omega) (by first | decide | omega)) (by dsimp only [putD, List.set]) ?_)
      first | (refine at_op (some 52) rfl rfl rfl rfl (op_loadR1 rfl fone_int rfl) (by dsimp only [putD, List.set]) ?_) | (refine at_op (some 52) rfl rfl rfl rfl (op_loadP1 rfl fone_int rfl rfl) (by dsimp only [putD, List.set]) ?_)
      refine at_mv 52 12 rfl rfl rfl (.inr rfl) rfl (by dsimp only [List.set]) ?_
      refine at_end rfl ?_
      refine at_region rfl ?_
      refine at_mv 10 53 rfl rfl rfl (.inl rfl) rfl (by dsimp only [List.set]) ?_
      refine at_mv 53 54 rfl rfl rfl (.inl rfl) rfl (by dsimp only [List.set]) ?_
      refine at_split 54 rfl (fun hb2 env' he => ?_) (fun hb2 env' he => ?_)
      · dsimp only [List.set] at he; subst he
        have hbt : b = true := hb2
        subst hbt
        rw [Bool.true_or] at hT
        refine at_opN (some 55) rfl rfl rfl (by dsimp only [putD, List.set]) ?_
        refine at_opN (some 56) rfl rfl rfl (by dsimp only [putD, List.set]) ?_
        refine at_opN (some 57) rfl rfl rfl (by dsimp only [putD, List.set]) ?_
        refine at_pkc true 54 58 rfl rfl rfl rfl rfl rfl (by dsimp only [constD]) (by dsimp only [List.set]) ?_
        refine at_mv 58 10 rfl rfl rfl (.inr rfl) rfl (by dsimp only [List.set]) ?_
        refine at_end rfl ?_
        refine run_blk ?_
        refine at_region rfl ?_
        refine at_op (some 59) rfl rfl rfl rfl (op_binI rfl rfl) (by dsimp only [putD, List.set]) ?_
        rw [wrap_succ (by omega)]
        refine at_mv 59 49 rfl rfl rfl (.inl rfl) rfl (by dsimp only [List.set]) ?_
        refine at_end rfl ?_
        exact run_wk (.drop (.drop (.drop (.keep (.keep (.keep (.keep (.drop (.drop (.drop (.keep (.drop (.drop (.drop (.drop (.drop (.drop (.drop (.drop (.drop (.drop (.drop (.drop (.drop (.drop (.keep (.keep (.drop (.drop (.drop (.drop (.drop (.drop (.drop (.drop (.drop (.drop (.drop (.drop (.drop (.drop (.drop (.drop (.drop (.drop (.drop (.drop (.keep (.keep (.keep (.drop (.drop (.drop (.drop (.drop (.drop (.drop (.drop (.drop (.drop (.drop (.drop (.drop (.drop (.drop (.drop (.drop (.drop (.drop (.drop (.drop (.drop (.drop (.drop (.drop (.drop (.drop (.drop (.drop (.drop (.drop (.drop (.drop (.drop (.drop (.drop (.drop (.drop (.drop (.drop (.drop (.drop (.drop (.drop (.drop (.drop (.drop (.drop (.drop (.drop (.drop (.drop (.drop (.drop (.drop (.drop (.drop (.drop (.drop .nil))))))))))))))))))))))))))))))))))))))))))))))))))))))))))))))))))))))))))))))))))))))))))))))))))))))))))))) (ih _ (by omega) (i + 1) _ rfl hT)
      · dsimp only [List.set] at he; subst he
        have hbt : b = false := hb2
        subst hbt
        rw [Bool.false_or] at hT
        refine at_mv 12 55 rfl rfl rfl (.inl rfl) rfl (by dsimp only [List.set]) ?_
        refine at_mv 5 56 rfl rfl rfl (.inl rfl) rfl (by dsimp only [List.set]) ?_
        refine at_op (some 57) rfl rfl rfl rfl (op_binI rfl rfl) (by dsimp only [putD, List.set]) ?_
        rw [eq_cast]
        refine at_pk false 54 57 58 rfl rfl rfl rfl rfl rfl rfl (by dsimp only [List.set]) ?_
        refine at_mv 58 10 rfl rfl rfl (.inr rfl) rfl (by dsimp only [List.set]) ?_
        refine at_end rfl ?_
        refine run_blk ?_
        refine at_region rfl ?_
        refine at_op (some 59) rfl rfl rfl rfl (op_binI rfl rfl) (by dsimp only [putD, List.set]) ?_
        rw [wrap_succ (by omega)]
        refine at_mv 59 49 rfl rfl rfl (.inl rfl) rfl (by dsimp only [List.set]) ?_
        refine at_end rfl ?_
        exact run_wk (.drop (.drop (.drop (.keep (.keep (.keep (.keep (.drop (.drop (.drop (.keep (.drop (.drop (.drop (.drop (.drop (.drop (.drop (.drop (.drop (.drop (.drop (.drop (.drop (.drop (.keep (.keep (.drop (.drop (.drop (.drop (.drop (.drop (.drop (.drop (.drop (.drop (.drop (.drop (.drop (.drop (.drop (.drop (.drop (.drop (.drop (.drop (.keep (.keep (.keep (.drop (.drop (.drop (.drop (.drop (.drop (.drop (.drop (.drop (.drop (.drop (.drop (.drop (.drop (.drop (.drop (.drop (.drop (.drop (.drop (.drop (.drop (.drop (.drop (.drop (.drop (.drop (.drop (.drop (.drop (.drop (.drop (.drop (.drop (.drop (.drop (.drop (.drop (.drop (.drop (.drop (.drop (.drop (.drop (.drop (.drop (.drop (.drop (.drop (.drop (.drop (.drop (.drop (.drop (.drop (.drop (.drop (.drop (.drop .nil))))))))))))))))))))))))))))))))))))))))))))))))))))))))))))))))))))))))))))))))))))))))))))))))))))))))))))) (ih _ (by omega) (i + 1) _ rfl hT)
    · skip
      have hge : hs.length ≤ i := by simpa using hc1
      rw [any_end hge] at hT
      subst hT
      refine at_exit rfl rfl ?_
      exact run_wk (.drop (.drop (.drop (.keep (.keep (.keep (.keep (.drop (.drop (.drop (.keep (.drop (.drop (.drop (.drop (.drop (.drop (.drop (.drop (.drop (.drop (.drop (.drop (.drop (.drop (.keep (.keep (.drop (.drop (.drop (.drop (.drop (.drop (.drop (.drop (.drop (.drop (.drop (.drop (.drop (.drop (.drop (.drop (.drop (.drop (.drop (.drop (.drop (.drop (.drop (.drop (.drop (.drop (.drop (.drop (.drop (.drop (.drop (.drop (.drop (.drop (.drop (.drop (.drop (.drop (.drop (.drop (.drop (.drop (.drop (.drop (.drop (.drop (.drop (.drop (.drop (.drop (.drop (.drop (.drop (.drop (.drop (.drop (.drop (.drop (.drop (.drop (.drop (.drop (.drop (.drop (.drop (.drop (.drop (.drop (.drop (.drop (.drop (.drop (.drop (.drop (.drop (.drop (.drop (.drop (.drop (.drop (.drop (.drop .nil))))))))))))))))))))))))))))))))))))))))))))))))))))))))))))))))))))))))))))))))))))))))))))))))))))))))))))) hk

set_option maxRecDepth 20000 in
theorem hh_0 (R : List D → St → Prop) (K : List KI) (n : Nat) (G : List (List Arc)) (hG : GOK n G) (h6 : n ≤ 6) (hs : List Nat) (hl : hs.length ≤ 100) (hq : ∀ k, k < n → hs.any (fun h => h == k) = (List.range n).all (fun i => gb (reachM G n i) k)) (hk : Run PP R K (.undef :: .undef :: .undef :: (.v (.ref (vG n G))) :: (.v (.list (vns hs))) :: .undef :: .undef :: .undef :: .undef :: .undef :: .undef :: .undef :: .undef :: .undef :: .undef :: .undef :: .undef :: .undef :: .undef :: .undef :: .undef :: .undef :: .undef :: .undef :: .undef :: .undef :: .undef :: .undef :: .undef :: .undef :: .undef :: .undef :: .undef :: .undef :: .undef :: .undef :: .undef :: .undef :: .undef :: .undef :: .undef :: .undef :: .undef :: .undef :: .undef :: .undef :: .undef :: .undef :: .undef :: .undef :: .undef :: .undef :: .undef :: .undef :: .undef :: .undef :: .undef :: .undef :: .undef :: .undef :: .undef :: .undef :: .undef :: .undef :: .undef :: .undef :: .undef :: .undef :: .undef :: .undef :: .undef :: .undef :: .undef :: .undef :: .undef :: .undef :: .undef :: .undef :: .undef :: .undef :: .undef :: .undef :: .undef :: .undef :: .undef :: .undef :: .undef :: .undef :: .undef :: .undef :: .undef :: .undef :: .undef :: .undef :: .undef :: .undef :: .undef :: .undef :: .undef :: .undef :: .undef :: .undef :: .undef :: .undef :: .undef :: .undef :: .undef :: .undef :: .undef :: []) σ1) (m : Nat) : ∀ (k : Nat), n - k = m → Run PP R (.lp (sub cHH [1, 1, 1, 1, 0, 1, 0, 0]) :: .blk 0 :: K) (.undef :: .undef :: .undef :: (.v (.ref (vG n G))) :: (.v (.list (vns hs))) :: .undef :: .undef :: .undef :: .undef :: .undef :: .undef :: .undef :: .undef :: .undef :: .undef :: .undef :: .undef :: .undef :: .undef :: .undef :: .undef :: .undef :: .undef :: .undef :: .undef :: (di ↑n) :: (di ↑k) :: .undef :: .undef :: .undef :: .undef :: .undef :: .undef :: .undef :: .undef :: .undef :: .undef :: .undef :: .undef :: .undef :: .undef :: .undef :: .undef :: .undef :: .undef :: .undef :: .undef :: .undef :: .undef :: .undef :: .undef :: .undef :: .undef :: .undef :: .undef :: .undef :: .undef :: .undef :: .undef :: .undef :: .undef :: .undef :: .undef :: .undef :: .undef :: .undef :: .undef :: .undef :: .undef :: .undef :: .undef :: .undef :: .undef :: .undef :: .undef :: .undef :: .undef :: .undef :: .undef :: .undef :: .undef :: .undef :: .undef :: .undef :: .undef :: .undef :: .undef :: .undef :: .undef :: .undef :: .undef :: .undef :: .undef :: .undef :: .undef :: .undef :: .undef :: .undef :: .undef :: .undef :: .undef :: .undef :: .undef :: .undef :: .undef :: .undef :: .undef :: .undef :: .undef :: []) σ1 := by
  induction m using Nat.strongRecOn with
  | _ m ih =>
    intro k hm
    refine run_lp ?_
    refine at_seq [1, 1, 1, 1, 0, 1, 0, 0, 0] [1, 1, 1, 1, 0, 1, 0, 0, 1] rfl ?_
    refine at_region rfl ?_
    refine at_op (some 27) rfl rfl rfl rfl (op_binI rfl rfl) (by dsimp only [putD, List.set]) ?_
    refine at_end rfl ?_
    refine at_seq [1, 1, 1, 1, 0, 1, 0, 0, 1, 0] [1, 1, 1, 1, 0, 1, 0, 0, 1, 1] rfl ?_
    refine at_cond [1, 1, 1, 1, 0, 1, 0, 0, 1, 0, 0] [1, 1, 1, 1, 0, 1, 0, 0, 1, 0, 1] rfl rfl (fun hc1 => ?_) (fun hc1 => ?_)
    · skip
      have hlt : k < n := by simp at hc1; omega
      refine at_skip rfl ?_
      refine at_seq [1, 1, 1, 1, 0, 1, 0, 0, 1, 1, 0] [1, 1, 1, 1, 0, 1, 0, 0, 1, 1, 1] rfl ?_
      refine at_block [1, 1, 1, 1, 0, 1, 0, 0, 1, 1, 0, 0] 1 rfl ?_
      refine at_seq [1, 1, 1, 1, 0, 1, 0, 0, 1, 1, 0, 0, 0] [1, 1, 1, 1, 0, 1, 0, 0, 1, 1, 0, 0, 1] rfl ?_
      refine at_region rfl ?_
      refine at_mv 26 28 rfl rfl rfl (.inl rfl) rfl (by dsimp only [List.set]) ?_
      refine at_mv 28 5 rfl rfl rfl (.inr rfl) rfl (by dsimp only [List.set]) ?_
      refine at_end rfl ?_
      refine at_seq [1, 1, 1, 1, 0, 1, 0, 0, 1, 1, 0, 0, 1, 0] [1, 1, 1, 1, 0, 1, 0, 0, 1, 1, 0, 0, 1, 1] rfl ?_
      refine at_region rfl ?_
      refine at_mc 6 rfl rfl rfl (.inr rfl) (by dsimp only [constD]) (by dsimp only [List.set]) ?_
      refine at_end rfl ?_
      refine at_seq [1, 1, 1, 1, 0, 1, 0, 0, 1, 1, 0, 0, 1, 1, 0] [1, 1, 1, 1, 0, 1, 0, 0, 1, 1, 0, 0, 1, 1, 1] rfl ?_
      refine at_seq [1, 1, 1, 1, 0, 1, 0, 0, 1, 1, 0, 0, 1, 1, 0, 0] [1, 1, 1, 1, 0, 1, 0, 0, 1, 1, 0, 0, 1, 1, 0, 1] rfl ?_
      refine at_region rfl ?_
      first | (refine at_op (some 29) rfl rfl rfl rfl (op_fieldP rfl ffld0_api_Graph (by decide)) (by dsimp only [putD, List.set]) ?_) | (refine at_op (some 29) rfl rfl rfl rfl (op_fieldR rfl ffld0_api_Graph (by decide) (by decide) rfl) (by dsimp only [putD, List.set]) ?_)
      first | (refine at_op (some 30) rfl rfl rfl rfl (op_loadR1 rfl fone_Sapi_Value rfl) (by dsimp only [putD, List.set]) ?_) | (refine at_op (some 30) rfl rfl rfl rfl (op_loadP1 rfl fone_Sapi_Value rfl rfl) (by dsimp only [putD, List.set]) ?_)
      first | (refine at_op (some 31) rfl rfl rfl rfl (op_lenL rfl fu_Sapi_Value) (by dsimp only [putD, List.set]) ?_) | (refine at_op (some 31) rfl rfl rfl rfl (opOK_un (op_lenL rfl fu_Sapi_Value)) (by dsimp only [putD, List.set]) ?_) | (refine at_op (some 31) rfl rfl rfl rfl (op_lenA rfl fu_Sapi_Value) (by dsimp only [putD, List.set]) ?_)
      simp only [List.length_map, List.length_range]
      refine at_mc 32 rfl rfl rfl (.inl rfl) (by dsimp only [constD]) (by dsimp only [List.set]) ?_
      refine at_end rfl ?_
      refine at_block [1, 1, 1, 1, 0, 1, 0, 0, 1, 1, 0, 0, 1, 1, 0, 1, 0] 2 rfl ?_
      refine at_loop [1, 1, 1, 1, 0, 1, 0, 0, 1, 1, 0, 0, 1, 1, 0, 1, 0, 0] rfl ?_
      try simp only [List.length_map, List.length_nil, Int.toNat_natCast]
      refine run_wk (.drop (.drop (.drop (.keep (.keep (.keep (.keep (.drop (.drop (.drop (.drop (.drop (.drop (.drop (.drop (.drop (.drop (.drop (.drop (.drop (.drop (.drop (.drop (.drop (.drop (.keep (.keep (.drop (.drop (.drop (.drop (.keep (.keep (.drop (.drop (.drop (.drop (.drop (.drop (.drop (.drop (.drop (.drop (.drop (.drop (.drop (.drop (.drop (.drop (.drop (.drop (.drop (.drop (.drop (.drop (.drop (.drop (.drop (.drop (.drop (.drop (.drop (.drop (.drop (.drop (.drop (.drop (.drop (.drop (.drop (.drop (.drop (.drop (.drop (.drop (.drop (.drop (.drop (.drop (.drop (.drop (.drop (.drop (.drop (.drop (.drop (.drop (.drop (.drop (.drop (.drop (.drop (.drop (.drop (.drop (.drop (.drop (.drop (.drop (.drop (.drop (.drop (.drop (.drop (.drop (.drop (.drop (.drop (.drop .nil))))))))))))))))))))))))))))))))))))))))))))))))))))))))))))))))))))))))))))))))))))))))))))))))))))))))))))) (hh_a _ _ n G hG h6 hs k hlt _ ?_ _ 0 true rfl (by rw [List.drop_zero, Bool.true_and]))
      refine at_seq [1, 1, 1, 1, 0, 1, 0, 0, 1, 1, 0, 0, 1, 1, 1, 0] [1, 1, 1, 1, 0, 1, 0, 0, 1, 1, 0, 0, 1, 1, 1, 1] rfl ?_
      refine at_region rfl ?_
      refine at_mc 10 rfl rfl rfl (.inr rfl) (by dsimp only [constD]) (by dsimp only [List.set]) ?_
      refine at_end rfl ?_
      refine at_seq [1, 1, 1, 1, 0, 1, 0, 0, 1, 1, 0, 0, 1, 1, 1, 1, 0] [1, 1, 1, 1, 0, 1, 0, 0, 1, 1, 0, 0, 1, 1, 1, 1, 1] rfl ?_
      refine at_seq [1, 1, 1, 1, 0, 1, 0, 0, 1, 1, 0, 0, 1, 1, 1, 1, 0, 0] [1, 1, 1, 1, 0, 1, 0, 0, 1, 1, 0, 0, 1, 1, 1, 1, 0, 1] rfl ?_
      refine at_region rfl ?_
      refine at_mv 4 47 rfl rfl rfl (.inl rfl) rfl (by dsimp only [List.set]) ?_
      first | (refine at_op (some 48) rfl rfl rfl rfl (op_lenL rfl fu_Sint) (by dsimp only [putD, List.set]) ?_) | (refine at_op (some 48) rfl rfl rfl rfl (opOK_un (op_lenL rfl fu_Sint)) (by dsimp only [putD, List.set]) ?_) | (refine at_op (some 48) rfl rfl rfl rfl (op_lenA rfl fu_Sint) (by dsimp only [putD, List.set]) ?_)
      refine at_mc 49 rfl rfl rfl (.inl rfl) (by dsimp only [constD]) (by dsimp only [List.set]) ?_
      refine at_end rfl ?_
      refine at_block [1, 1, 1, 1, 0, 1, 0, 0, 1, 1, 0, 0, 1, 1, 1, 1, 0, 1, 0] 4 rfl ?_
      refine at_loop [1, 1, 1, 1, 0, 1, 0, 0, 1, 1, 0, 0, 1, 1, 1, 1, 0, 1, 0, 0] rfl ?_
      try simp only [List.length_map]
      refine run_wk (.drop (.drop (.drop (.keep (.keep (.keep (.keep (.drop (.drop (.drop (.keep (.drop (.drop (.drop (.drop (.drop (.drop (.drop (.drop (.drop (.drop (.drop (.drop (.drop (.drop (.keep (.keep (.drop (.drop (.drop (.drop (.drop (.drop (.drop (.drop (.drop (.drop (.drop (.drop (.drop (.drop (.drop (.drop (.drop (.drop (.drop (.drop (.keep (.keep (.keep (.drop (.drop (.drop (.drop (.drop (.drop (.drop (.drop (.drop (.drop (.drop (.drop (.drop (.drop (.drop (.drop (.drop (.drop (.drop (.drop (.drop (.drop (.drop (.drop (.drop (.drop (.drop (.drop (.drop (.drop (.drop (.drop (.drop (.drop (.drop (.drop (.drop (.drop (.drop (.drop (.drop (.drop (.drop (.drop (.drop (.drop (.drop (.drop (.drop (.drop (.drop (.drop (.drop (.drop (.drop (.drop (.drop (.drop (.drop .nil))))))))))))))))))))))))))))))))))))))))))))))))))))))))))))))))))))))))))))))))))))))))))))))))))))))))))))) (hh_b _ _ n G hs hl k _ _ ?_ _ 0 false rfl (by rw [List.drop_zero, Bool.false_or]))
      rw [hq k hlt]
      refine at_seq [1, 1, 1, 1, 0, 1, 0, 0, 1, 1, 0, 0, 1, 1, 1, 1, 1, 0] [1, 1, 1, 1, 0, 1, 0, 0, 1, 1, 0, 0, 1, 1, 1, 1, 1, 1] rfl ?_
      refine at_region rfl ?_
      refine at_mv 10 60 rfl rfl rfl (.inl rfl) rfl (by dsimp only [List.set]) ?_
      refine at_mv 6 61 rfl rfl rfl (.inl rfl) rfl (by dsimp only [List.set]) ?_
      refine at_op (some 62) rfl rfl rfl rfl (op_eqlB rfl uBool (.inr rfl)) (by dsimp only [putD, List.set]) ?_
      refine at_end rfl ?_
      refine at_cond [1, 1, 1, 1, 0, 1, 0, 0, 1, 1, 0, 0, 1, 1, 1, 1, 1, 1, 0] [1, 1, 1, 1, 0, 1, 0, 0, 1, 1, 0, 0, 1, 1, 1, 1, 1, 1, 1] rfl rfl (fun hc2 => ?_) (fun hc2 => ?_)
      · skip
        exact absurd hc2 (by simp)
      · skip
        refine at_skip rfl ?_
        refine run_blk ?_
        refine at_region rfl ?_
        refine at_op (some 63) rfl rfl rfl rfl (op_binI rfl rfl) (by dsimp only [putD, List.set]) ?_
        rw [wrap_succ (by omega)]
        refine at_mv 63 26 rfl rfl rfl (.inl rfl) rfl (by dsimp only [List.set]) ?_
        refine at_end rfl ?_
        exact run_wk (.drop (.drop (.drop (.keep (.keep (.drop (.drop (.drop (.drop (.drop (.drop (.drop (.drop (.drop (.drop (.drop (.drop (.drop (.drop (.drop (.drop (.drop (.drop (.drop (.drop (.keep (.keep (.drop (.drop (.drop (.drop (.drop (.drop (.drop (.drop (.drop (.drop (.drop (.drop (.drop (.drop (.drop (.drop (.drop (.drop (.drop (.drop (.drop (.drop (.drop (.drop (.drop (.drop (.drop (.drop (.drop (.drop (.drop (.drop (.drop (.drop (.drop (.drop (.drop (.drop (.drop (.drop (.drop (.drop (.drop (.drop (.drop (.drop (.drop (.drop (.drop (.drop (.drop (.drop (.drop (.drop (.drop (.drop (.drop (.drop (.drop (.drop (.drop (.drop (.drop (.drop (.drop (.drop (.drop (.drop (.drop (.drop (.drop (.drop (.drop (.drop (.drop (.drop (.drop (.drop (.drop (.drop (.drop (.drop .nil))))))))))))))))))))))))))))))))))))))))))))))))))))))))))))))))))))))))))))))))))))))))))))))))))))))))))))) (ih _ (by omega) (k + 1) rfl)
    · skip
      have hge : n ≤ k := by simp at hc1; omega
      refine at_exit rfl rfl ?_
      exact run_wk (.drop (.drop (.drop (.keep (.keep (.drop (.drop (.drop (.drop (.drop (.drop (.drop (.drop (.drop (.drop (.drop (.drop (.drop (.drop (.drop (.drop (.drop (.drop (.drop (.drop (.drop (.drop (.drop (.drop (.drop (.drop (.drop (.drop (.drop (.drop (.drop (.drop (.drop (.drop (.drop (.drop (.drop (.drop (.drop (.drop (.drop (.drop (.drop (.drop (.drop (.drop (.drop (.drop (.drop (.drop (.drop (.drop (.drop (.drop (.drop (.drop (.drop (.drop (.drop (.drop (.drop (.drop (.drop (.drop (.drop (.drop (.drop (.drop (.drop (.drop (.drop (.drop (.drop (.drop (.drop (.drop (.drop (.drop (.drop (.drop (.drop (.drop (.drop (.drop (.drop (.drop (.drop (.drop (.drop (.drop (.drop (.drop (.drop (.drop (.drop (.drop (.drop (.drop (.drop (.drop (.drop (.drop (.drop (.drop .nil))))))))))))))))))))))))))))))))))))))))))))))))))))))))))))))))))))))))))))))))))))))))))))))))))))))))))))) hk

set_option maxRecDepth 20000 in
theorem hh_c (h0 : Nat) (hl : List Nat) (hll : hl.length ≤ 100) (C : List (List Nat)) (hC : C.length ≤ 100) (hcc : ∀ c ∈ C, (∃ x l, c = x :: l) ∧ c.length ≤ 100) (m : Nat) : ∀ (i : Nat), C.length - i = m → findC (h0 :: hl) (C.drop i) = true → Run PP (fun env σ1 => ResOK PP Tryz.f5 env σ1 (db true) σ0) [.lp (sub cHH [1, 1, 1, 1, 1, 1, 1, 1, 0, 1, 0, 0]), .blk 6, .code (sub cHH [1, 1, 1, 1, 1, 1, 1, 1, 1])] (.undef :: .undef :: .undef :: .undef :: (.v (.list (vns (h0 :: hl)))) :: .undef :: .undef :: .undef :: .undef :: .undef :: .undef :: .undef :: .undef :: .undef :: .undef :: .undef :: .undef :: .undef :: .undef :: .undef :: .undef :: .undef :: .undef :: .undef :: .undef :: .undef :: .undef :: .undef :: .undef :: .undef :: .undef :: .undef :: .undef :: .undef :: .undef :: .undef :: .undef :: .undef :: .undef :: .undef :: .undef :: .undef :: .undef :: .undef :: .undef :: .undef :: .undef :: .undef :: .undef :: .undef :: .undef :: .undef :: .undef :: .undef :: .undef :: .undef :: .undef :: .undef :: .undef :: .undef :: .undef :: .undef :: .undef :: .undef :: .undef :: .undef :: .undef :: .undef :: .undef :: .undef :: .undef :: .undef :: .undef :: .undef :: .undef :: .undef :: .undef :: .undef :: .undef :: .undef :: .undef :: .undef :: .undef :: .undef :: .undef :: .undef :: .undef :: .undef :: .undef :: .undef :: .undef :: .undef :: (.v (.list (vnn C))) :: (di ↑C.length) :: (di ↑i) :: .undef :: .undef :: .undef :: .undef :: .undef :: .undef :: .undef :: .undef :: .undef :: .undef :: .undef :: .undef :: .undef :: .undef :: []) σ1 := by
  induction m using Nat.strongRecOn with
  | _ m ih =>
    intro i hm hf
    refine run_lp ?_
    refine at_seq [1, 1, 1, 1, 1, 1, 1, 1, 0, 1, 0, 0, 0] [1, 1, 1, 1, 1, 1, 1, 1, 0, 1, 0, 0, 1] rfl ?_
    refine at_region rfl ?_
    refine at_op (some 95) rfl rfl rfl rfl (op_binI rfl rfl) (by dsimp only [putD, List.set]) ?_
    refine at_end rfl ?_
    refine at_seq [1, 1, 1, 1, 1, 1, 1, 1, 0, 1, 0, 0, 1, 0] [1, 1, 1, 1, 1, 1, 1, 1, 0, 1, 0, 0, 1, 1] rfl ?_
    refine at_cond [1, 1, 1, 1, 1, 1, 1, 1, 0, 1, 0, 0, 1, 0, 0] [1, 1, 1, 1, 1, 1, 1, 1, 0, 1, 0, 0, 1, 0, 1] rfl rfl (fun hc1 => ?_) (fun hc1 => ?_)
    · skip
      have hlt : i < C.length := by simpa using hc1
      obtain ⟨c, hc⟩ := get_ex hlt
      have hc2 := idx_some (f := fun c => V.list (vns c)) hc
      obtain ⟨⟨c0, cl, rfl⟩, hcl⟩ := hcc c (List.mem_of_getElem? hc)
      rw [List.drop_eq_getElem_cons hlt, (List.getElem?_eq_some_iff.1 hc).2] at hf
      refine at_skip rfl ?_
      refine at_seq [1, 1, 1, 1, 1, 1, 1, 1, 0, 1, 0, 0, 1, 1, 0] [1, 1, 1, 1, 1, 1, 1, 1, 0, 1, 0, 0, 1, 1, 1] rfl ?_
      refine at_block [1, 1, 1, 1, 1, 1, 1, 1, 0, 1, 0, 0, 1, 1, 0, 0] 7 rfl ?_
      refine at_seq [1, 1, 1, 1, 1, 1, 1, 1, 0, 1, 0, 0, 1, 1, 0, 0, 0] [1, 1, 1, 1, 1, 1, 1, 1, 0, 1, 0, 0, 1, 1, 0, 0, 1] rfl ?_
      refine at_region rfl ?_
      first | (refine at_op (some 96) rfl rfl rfl rfl (op_idxL rfl fsl__5b5d5b5d_int (by first | decide | omega) (by first | assumption | exact idx_some (by assumption) | rfl) (by first | rfl | (simp [V.size]; done))) (by dsimp only [putD, List.set]) ?_) | (refine at_op (some 96) rfl rfl rfl rfl (opOK_un (op_idxL rfl fsl__5b5d5b5d_int (by first | decide | omega) (by first | assumption | exact idx_some (by assumption) | rfl) (by first | rfl | (simp [V.size]; done)))) (by dsimp only [putD, List.set]) ?_) | (refine at_op (some 96) rfl rfl rfl rfl (op_idxA rfl fsl__5b5d5b5d_int (by first | decide | omega) (by first | decide | omega)) (by dsimp only [putD, List.set]) ?_)
      first | (refine at_op (some 97) rfl rfl rfl rfl (op_loadR1 rfl fone_Sint rfl) (by dsimp only [putD, List.set]) ?_) | (refine at_op (some 97) rfl rfl rfl rfl (op_loadP1 rfl fone_Sint rfl rfl) (by dsimp only [putD, List.set]) ?_)
      refine at_mv 97 15 rfl rfl rfl (.inr rfl) rfl (by dsimp only [List.set]) ?_
      refine at_end rfl ?_
      refine at_seq [1, 1, 1, 1, 1, 1, 1, 1, 0, 1, 0, 0, 1, 1, 0, 0, 1, 0] [1, 1, 1, 1, 1, 1, 1, 1, 0, 1, 0, 0, 1, 1, 0, 0, 1, 1] rfl ?_
      refine at_draw mixed rfl [σ1] rfl ?_
      refine da_mv 15 98 rfl rfl rfl (.inl rfl) rfl (by dsimp only [List.set]) ?_
      first | (refine da_quiet (some 99) rfl rfl rfl rfl (fun s hs => op_idxL rfl fsl_Sint (by first | decide | omega) (by first | assumption | exact idx_some (by assumption) | rfl) (by first | rfl | (simp [V.size]; done))) (by dsimp only [putD, List.set]) ?_) | (refine da_quiet (some 99) rfl rfl rfl rfl (fun s hs => opOK_un (op_idxL rfl fsl_Sint (by first | decide | omega) (by first | assumption | exact idx_some (by assumption) | rfl) (by first | rfl | (simp [V.size]; done)))) (by dsimp only [putD, List.set]) ?_) | (refine da_quiet (some 99) rfl rfl rfl rfl (fun s hs => op_idxA rfl fsl_Sint (by first | decide | omega) (by first | decide | omega)) (by dsimp only [putD, List.set]) ?_)
      first | (refine da_quiet (some 100) rfl rfl rfl rfl (fun s hs => op_loadR1 rfl fone_int rfl) (by dsimp only [putD, List.set]) ?_) | (refine da_quiet (some 100) rfl rfl rfl rfl (by intro s hs; simp only [List.mem_cons, List.not_mem_nil, or_false] at hs; rcases hs with rfl <;> exact op_loadP1 rfl fone_int rfl rfl) (by dsimp only [putD, List.set]) ?_)
      refine da_mv 4 101 rfl rfl rfl (.inl rfl) rfl (by dsimp only [List.set]) ?_
      first | (refine da_quiet (some 102) rfl rfl rfl rfl (fun s hs => op_idxL rfl fsl_Sint (by first | decide | omega) (by first | assumption | exact idx_some (by assumption) | rfl) (by first | rfl | (simp [V.size]; done))) (by dsimp only [putD, List.set]) ?_) | (refine da_quiet (some 102) rfl rfl rfl rfl (fun s hs => opOK_un (op_idxL rfl fsl_Sint (by first | decide | omega) (by first | assumption | exact idx_some (by assumption) | rfl) (by first | rfl | (simp [V.size]; done)))) (by dsimp only [putD, List.set]) ?_) | (refine da_quiet (some 102) rfl rfl rfl rfl (fun s hs => op_idxA rfl fsl_Sint (by first | decide | omega) (by first | decide | omega)) (by dsimp only [putD, List.set]) ?_)
      first | (refine da_quiet (some 103) rfl rfl rfl rfl (fun s hs => op_loadR1 rfl fone_int rfl) (by dsimp only [putD, List.set]) ?_) | (refine da_quiet (some 103) rfl rfl rfl rfl (by intro s hs; simp only [List.mem_cons, List.not_mem_nil, or_false] at hs; rcases hs with rfl <;> exact op_loadP1 rfl fone_int rfl rfl) (by dsimp only [putD, List.set]) ?_)
      refine da_quiet (some 104) rfl rfl rfl rfl (fun s hs => op_binI rfl rfl) (by dsimp only [putD, List.set]) ?_
      refine da_end rfl ⟨by decide +kernel, _, rfl, ?_⟩
      refine at_cond [1, 1, 1, 1, 1, 1, 1, 1, 0, 1, 0, 0, 1, 1, 0, 0, 1, 1, 0] [1, 1, 1, 1, 1, 1, 1, 1, 0, 1, 0, 0, 1, 1, 0, 0, 1, 1, 1] rfl rfl (fun hc2 => ?_) (fun hc2 => ?_)
      · skip
        have he : c0 = h0 := by simp at hc2; omega
        replace hf := findC_yes hf he
        refine at_seq [1, 1, 1, 1, 1, 1, 1, 1, 0, 1, 0, 0, 1, 1, 0, 0, 1, 1, 0, 0] [1, 1, 1, 1, 1, 1, 1, 1, 0, 1, 0, 0, 1, 1, 0, 0, 1, 1, 0, 1] rfl ?_
        refine at_region rfl ?_
        refine at_mv 15 105 rfl rfl rfl (.inl rfl) rfl (by dsimp only [List.set]) ?_
        refine at_mv 4 106 rfl rfl rfl (.inl rfl) rfl (by dsimp only [List.set]) ?_
        refine at_op (some 107) rfl rfl rfl rfl (op_call0 rfl rfl rfl rfl (ints_spec (c0 :: cl) (h0 :: hl) (by omega) (by simp; omega))) (by dsimp only [putD, List.set]) ?_
        rw [hf]
        refine at_mv 107 2 rfl rfl rfl (.inr rfl) rfl (by dsimp only [List.set]) ?_
        refine at_end rfl ?_
        refine at_ret rfl (ret_one (t := 2) rfl rfl ?_ rfl)
        rfl
      · skip
        have he : ¬ c0 = h0 := by intro e; subst e; simp at hc2
        replace hf := findC_no hf he
        refine at_skip rfl ?_
        refine run_blk ?_
        refine at_region rfl ?_
        refine at_op (some 108) rfl rfl rfl rfl (op_binI rfl rfl) (by dsimp only [putD, List.set]) ?_
        rw [wrap_succ (by omega)]
        refine at_mv 108 94 rfl rfl rfl (.inl rfl) rfl (by dsimp only [List.set]) ?_
        refine at_end rfl ?_
        exact run_wk (.drop (.drop (.drop (.drop (.keep (.drop (.drop (.drop (.drop (.drop (.drop (.drop (.drop (.drop (.drop (.drop (.drop (.drop (.drop (.drop (.drop (.drop (.drop (.drop (.drop (.drop (.drop (.drop (.drop (.drop (.drop (.drop (.drop (.drop (.drop (.drop (.drop (.drop (.drop (.drop (.drop (.drop (.drop (.drop (.drop (.drop (.drop (.drop (.drop (.drop (.drop (.drop (.drop (.drop (.drop (.drop (.drop (.drop (.drop (.drop (.drop (.drop (.drop (.drop (.drop (.drop (.drop (.drop (.drop (.drop (.drop (.drop (.drop (.drop (.drop (.drop (.drop (.drop (.drop (.drop (.drop (.drop (.drop (.drop (.drop (.drop (.drop (.drop (.drop (.drop (.drop (.drop (.keep (.keep (.keep (.drop (.drop (.drop (.drop (.drop (.drop (.drop (.drop (.drop (.drop (.drop (.drop (.drop (.drop .nil))))))))))))))))))))))))))))))))))))))))))))))))))))))))))))))))))))))))))))))))))))))))))))))))))))))))))))) (ih _ (by omega) (i + 1) rfl hf)
    · skip
      have hge : C.length ≤ i := by simpa using hc1
      rw [List.drop_of_length_le hge] at hf
      exact absurd hf (by simp [findC])

set_option maxRecDepth 20000 in
theorem hh_spec (s : List Int) (hbs : BytesOK s) : FSpec PP 5 [dus s] σ0 (db true) σ0 := by
  obtain ⟨n, G, kz, hG, h6, hgr⟩ := graph_ex (s.take 200) (bytes_take hbs 200) (by simp; omega)
  have hn := hG.pos
  have hle := homes_le G n
  have hde := dead_le G n
  have hce := comps_le (allM G n) n
  refine spec_at cHH Tryz.func5 rfl (by kernel_rfl) (by first | decide | simp) _ (by dsimp only [Tryz.f5, List.length, Nat.reduceAdd, Nat.reduceSub, List.replicate, List.cons_append, List.nil_append]) ?_
  refine at_seq [0] [1] rfl ?_
  refine at_region rfl ?_
  refine at_mc 2 rfl rfl rfl (.inr rfl) (by dsimp only [constD]) (by dsimp only [List.set]) ?_
  refine at_end rfl ?_
  refine at_seq [1, 0] [1, 1] rfl ?_
  refine at_seq [1, 0, 0] [1, 0, 1] rfl ?_
  refine at_region rfl ?_
  refine at_op (some 16) rfl rfl rfl rfl (op_call0 rfl rfl rfl rfl (sane_spec)) (by dsimp only [putD, List.set]) ?_
  refine at_op (some 17) rfl rfl rfl rfl (op_un rfl rfl) (by dsimp only [putD, List.set]) ?_
  refine at_end rfl ?_
  refine at_false [1, 0, 1, 0] [1, 0, 1, 1] rfl rfl ?_
  refine at_skip rfl ?_
  refine at_seq [1, 1, 0] [1, 1, 1] rfl ?_
  refine at_region rfl ?_
  refine at_mv 0 18 rfl rfl rfl (.inl rfl) rfl (by dsimp only [List.set]) ?_
  refine at_opS (some 19) rfl rfl rfl rfl (op_call0_new rfl rfl rfl rfl (newD_spec s)) (by dsimp only [putD, List.set]) (by dsimp only [List.set, List.append, List.cons_append, List.nil_append, cellsD, List.map, repl, List.length, Nat.reduceAdd, if_true, ↓reduceIte]; first | done | rfl) ?_
  refine at_opS (some 20) rfl rfl rfl rfl (op_call1 rfl rfl rfl rfl rfl (.ptr .nil) rfl hgr) (by dsimp only [putD, List.set]) (by dsimp only [List.set, List.append, List.cons_append, List.nil_append, cellsD, List.map, repl, List.length, Nat.reduceAdd, if_true, ↓reduceIte]; first | done | rfl) ?_
  refine at_new 20 3 rfl rfl rfl rfl fzero_api_Graph rfl rfl rfl rfl (by decide) rfl rfl fagg_api_Graph (by first | rfl | (simp [V.size]; done)) rfl (by simp only [List.length_cons]; omega) (by dsimp only [List.set]) ?_
  refine at_end rfl ?_
  refine run_wk (.keep (.drop (.drop (.keep (.drop (.drop (.drop (.drop (.drop (.drop (.drop (.drop (.drop (.drop (.drop (.drop (.drop (.drop (.drop (.drop (.drop (.drop (.drop (.drop (.drop (.drop (.drop (.drop (.drop (.drop (.drop (.drop (.drop (.drop (.drop (.drop (.drop (.drop (.drop (.drop (.drop (.drop (.drop (.drop (.drop (.drop (.drop (.drop (.drop (.drop (.drop (.drop (.drop (.drop (.drop (.drop (.drop (.drop (.drop (.drop (.drop (.drop (.drop (.drop (.drop (.drop (.drop (.drop (.drop (.drop (.drop (.drop (.drop (.drop (.drop (.drop (.drop (.drop (.drop (.drop (.drop (.drop (.drop (.drop (.drop (.drop (.drop (.drop (.drop (.drop (.drop (.drop (.drop (.drop (.drop (.drop (.drop (.drop (.drop (.drop (.drop (.drop (.drop (.drop (.drop (.drop (.drop (.drop (.drop .nil))))))))))))))))))))))))))))))))))))))))))))))))))))))))))))))))))))))))))))))))))))))))))))))))))))))))))))) ?_
  refine run_cv (cv_frz [0] (.keep (.keep (.keep (.keep (.keep (.keep (.keep (.keep (.keep (.keep (.keep (.keep (.keep (.keep (.keep (.keep (.keep (.keep (.keep (.keep (.keep (.keep (.keep (.keep (.keep (.keep (.keep (.keep (.keep (.keep (.keep (.keep (.keep (.keep (.keep (.keep (.keep (.keep (.keep (.keep (.keep (.keep (.keep (.keep (.keep (.keep (.keep (.keep (.keep (.keep (.keep (.keep (.keep (.keep (.keep (.keep (.keep (.keep (.keep (.keep (.keep (.keep (.keep (.keep (.keep (.keep (.keep (.keep (.keep (.keep (.keep (.keep (.keep (.keep (.keep (.keep (.keep (.keep (.keep (.keep (.keep (.keep (.keep (.keep (.keep (.keep (.keep (.keep (.keep (.keep (.keep (.keep (.keep (.keep (.keep (.keep (.keep (.keep (.keep (.keep (.keep (.keep (.keep (.keep (.keep (.keep (.keep (.keep (.keep .nil)))))))))))))))))))))))))))))))))))))))))))))))))))))))))))))))))))))))))))))))))))))))))))))))))))))))))))))) ?_
  simp only [killH, List.foldl, List.set]
  refine at_seq [1, 1, 1, 0] [1, 1, 1, 1] rfl ?_
  refine at_region rfl ?_
  first | (refine at_op (some 21) rfl rfl rfl rfl (op_loadRA rfl fagg_api_Graph) (by dsimp only [putD, List.set]) ?_) | (refine at_op (some 21) rfl rfl rfl rfl (op_loadPA rfl fagg_api_Graph rfl (by first | decide | simp) rfl) (by dsimp only [putD, List.set]) ?_)
  refine at_op (some 22) rfl rfl rfl rfl (op_call0 rfl rfl rfl rfl (homes_spec n G hG h6)) (by dsimp only [putD, List.set]) ?_
  refine at_mv 22 4 rfl rfl rfl (.inr rfl) rfl (by dsimp only [List.set]) ?_
  refine at_end rfl ?_
  refine at_seq [1, 1, 1, 1, 0] [1, 1, 1, 1, 1] rfl ?_
  refine at_seq [1, 1, 1, 1, 0, 0] [1, 1, 1, 1, 0, 1] rfl ?_
  refine at_region rfl ?_
  first | (refine at_op (some 23) rfl rfl rfl rfl (op_fieldP rfl ffld0_api_Graph (by decide)) (by dsimp only [putD, List.set]) ?_) | (refine at_op (some 23) rfl rfl rfl rfl (op_fieldR rfl ffld0_api_Graph (by decide) (by decide) rfl) (by dsimp only [putD, List.set]) ?_)
  first | (refine at_op (some 24) rfl rfl rfl rfl (op_loadR1 rfl fone_Sapi_Value rfl) (by dsimp only [putD, List.set]) ?_) | (refine at_op (some 24) rfl rfl rfl rfl (op_loadP1 rfl fone_Sapi_Value rfl rfl) (by dsimp only [putD, List.set]) ?_)
  first | (refine at_op (some 25) rfl rfl rfl rfl (op_lenL rfl fu_Sapi_Value) (by dsimp only [putD, List.set]) ?_) | (refine at_op (some 25) rfl rfl rfl rfl (opOK_un (op_lenL rfl fu_Sapi_Value)) (by dsimp only [putD, List.set]) ?_) | (refine at_op (some 25) rfl rfl rfl rfl (op_lenA rfl fu_Sapi_Value) (by dsimp only [putD, List.set]) ?_)
  simp only [List.length_map, List.length_range]
  refine at_mc 26 rfl rfl rfl (.inl rfl) (by dsimp only [constD]) (by dsimp only [List.set]) ?_
  refine at_end rfl ?_
  refine at_block [1, 1, 1, 1, 0, 1, 0] 0 rfl ?_
  refine at_loop [1, 1, 1, 1, 0, 1, 0, 0] rfl ?_
  try simp only [List.length_map, List.length_nil, Int.toNat_natCast]
  refine run_wk (.drop (.drop (.drop (.keep (.keep (.drop (.drop (.drop (.drop (.drop (.drop (.drop (.drop (.drop (.drop (.drop (.drop (.drop (.drop (.drop (.drop (.drop (.drop (.drop (.drop (.keep (.keep (.drop (.drop (.drop (.drop (.drop (.drop (.drop (.drop (.drop (.drop (.drop (.drop (.drop (.drop (.drop (.drop (.drop (.drop (.drop (.drop (.drop (.drop (.drop (.drop (.drop (.drop (.drop (.drop (.drop (.drop (.drop (.drop (.drop (.drop (.drop (.drop (.drop (.drop (.drop (.drop (.drop (.drop (.drop (.drop (.drop (.drop (.drop (.drop (.drop (.drop (.drop (.drop (.drop (.drop (.drop (.drop (.drop (.drop (.drop (.drop (.drop (.drop (.drop (.drop (.drop (.drop (.drop (.drop (.drop (.drop (.drop (.drop (.drop (.drop (.drop (.drop (.drop (.drop (.drop (.drop (.drop (.drop .nil))))))))))))))))))))))))))))))))))))))))))))))))))))))))))))))))))))))))))))))))))))))))))))))))))))))))))))) (hh_0 _ _ n G hG h6 (homesM G n) (by omega) (fun k hk => homes_in hG hk) ?_ _ 0 rfl)
  refine at_seq [1, 1, 1, 1, 1, 0] [1, 1, 1, 1, 1, 1] rfl ?_
  refine at_region rfl ?_
  first | (refine at_op (some 64) rfl rfl rfl rfl (op_loadRA rfl fagg_api_Graph) (by dsimp only [putD, List.set]) ?_) | (refine at_op (some 64) rfl rfl rfl rfl (op_loadPA rfl fagg_api_Graph rfl (by first | decide | simp) rfl) (by dsimp only [putD, List.set]) ?_)
  refine at_op (some 65) rfl rfl rfl rfl (op_call0 rfl rfl rfl rfl (dead_spec n G hG h6)) (by dsimp only [putD, List.set]) ?_
  refine at_mv 65 13 rfl rfl rfl (.inr rfl) rfl (by dsimp only [List.set]) ?_
  refine at_end rfl ?_
  refine at_seq [1, 1, 1, 1, 1, 1, 0] [1, 1, 1, 1, 1, 1, 1] rfl ?_
  refine at_seq [1, 1, 1, 1, 1, 1, 0, 0] [1, 1, 1, 1, 1, 1, 0, 1] rfl ?_
  refine at_draw mixed rfl [σ1] rfl ?_
  refine da_mv 13 66 rfl rfl rfl (.inl rfl) rfl (by dsimp only [List.set]) ?_
  first | (refine da_quiet (some 67) rfl rfl rfl rfl (fun s hs => op_lenL rfl fu_Sint) (by dsimp only [putD, List.set]) ?_) | (refine da_quiet (some 67) rfl rfl rfl rfl (fun s hs => opOK_un (op_lenL rfl fu_Sint)) (by dsimp only [putD, List.set]) ?_) | (refine da_quiet (some 67) rfl rfl rfl rfl (fun s hs => op_lenA rfl fu_Sint) (by dsimp only [putD, List.set]) ?_)
  simp only [List.length_map]
  refine da_quiet (some 68) rfl rfl rfl rfl (fun s hs => op_binI rfl rfl) (by dsimp only [putD, List.set]) ?_
  refine da_mv 68 69 rfl rfl rfl (.inl rfl) rfl (by dsimp only [List.set]) ?_
  refine da_split 69 rfl (fun hb1 env' he => ?_) (fun hb1 env' he => ?_)
  · dsimp only [List.set] at he; subst he
    obtain ⟨d, dl, hd⟩ : ∃ d dl, deadM G n = d :: dl := by cases e : deadM G n with | nil => (rw [e] at hb1; simp at hb1) | cons a l => exact ⟨a, l, rfl⟩
    have hdh := dead_home hG (d := d) (by rw [hd]; simp)
    refine da_mv 4 70 rfl rfl rfl (.inl rfl) rfl (by dsimp only [List.set]) ?_
    first | (refine da_quiet (some 71) rfl rfl rfl rfl (fun s hs => op_lenL rfl fu_Sint) (by dsimp only [putD, List.set]) ?_) | (refine da_quiet (some 71) rfl rfl rfl rfl (fun s hs => opOK_un (op_lenL rfl fu_Sint)) (by dsimp only [putD, List.set]) ?_) | (refine da_quiet (some 71) rfl rfl rfl rfl (fun s hs => op_lenA rfl fu_Sint) (by dsimp only [putD, List.set]) ?_)
    simp only [List.length_map]
    refine da_quiet (some 72) rfl rfl rfl rfl (fun s hs => op_binI rfl rfl) (by dsimp only [putD, List.set]) ?_
    rw [show decide ((((homesM G n).length : Nat) : Int) > 1) = false by rcases hdh with h | h <;> rw [h] <;> rfl]
    refine da_mv 72 73 rfl rfl rfl (.inl rfl) rfl (by dsimp only [List.set]) ?_
    refine da_mv 4 74 rfl rfl rfl (.inl rfl) rfl (by dsimp only [List.set]) ?_
    first | (refine da_quiet (some 75) rfl rfl rfl rfl (fun s hs => op_lenL rfl fu_Sint) (by dsimp only [putD, List.set]) ?_) | (refine da_quiet (some 75) rfl rfl rfl rfl (fun s hs => opOK_un (op_lenL rfl fu_Sint)) (by dsimp only [putD, List.set]) ?_) | (refine da_quiet (some 75) rfl rfl rfl rfl (fun s hs => op_lenA rfl fu_Sint) (by dsimp only [putD, List.set]) ?_)
    simp only [List.length_map]
    refine da_quiet (some 76) rfl rfl rfl rfl (fun s hs => op_binI rfl rfl) (by dsimp only [putD, List.set]) ?_
    refine da_mv 76 77 rfl rfl rfl (.inl rfl) rfl (by dsimp only [List.set]) ?_
    refine da_split 77 rfl (fun hb2 env' he => ?_) (fun hb2 env' he => ?_)
    · dsimp only [List.set] at he; subst he
      have hh1 : homesM G n = [d] := by rcases hdh with h | h; (rw [h] at hb2; simp at hb2); exact h
      have hx1 : (vns (homesM G n))[(0 : Int).toNat]? = some (vn d) := by rw [hh1]; rfl
      have hx2 : (vns (deadM G n))[(0 : Int).toNat]? = some (vn d) := by rw [hd]; rfl
      refine da_mv 4 78 rfl rfl rfl (.inl rfl) rfl (by dsimp only [List.set]) ?_
      first | (refine da_quiet (some 79) rfl rfl rfl rfl (fun s hs => op_idxL rfl fsl_Sint (by first | decide | omega) (by first | assumption | exact idx_some (by assumption) | rfl) (by first | rfl | (simp [V.size]; done))) (by dsimp only [putD, List.set]) ?_) | (refine da_quiet (some 79) rfl rfl rfl rfl (fun s hs => opOK_un (op_idxL rfl fsl_Sint (by first | decide | omega) (by first | assumption | exact idx_some (by assumption) | rfl) (by first | rfl | (simp [V.size]; done)))) (by dsimp only [putD, List.set]) ?_) | (refine da_quiet (some 79) rfl rfl rfl rfl (fun s hs => op_idxA rfl fsl_Sint (by first | decide | omega) (by first | decide | omega)) (by dsimp only [putD, List.set]) ?_)
      first | (refine da_quiet (some 80) rfl rfl rfl rfl (fun s hs => op_loadR1 rfl fone_int rfl) (by dsimp only [putD, List.set]) ?_) | (refine da_quiet (some 80) rfl rfl rfl rfl (by intro s hs; simp only [List.mem_cons, List.not_mem_nil, or_false] at hs; rcases hs with rfl <;> exact op_loadP1 rfl fone_int rfl rfl) (by dsimp only [putD, List.set]) ?_)
      refine da_mv 13 81 rfl rfl rfl (.inl rfl) rfl (by dsimp only [List.set]) ?_
      first | (refine da_quiet (some 82) rfl rfl rfl rfl (fun s hs => op_idxL rfl fsl_Sint (by first | decide | omega) (by first | assumption | exact idx_some (by assumption) | rfl) (by first | rfl | (simp [V.size]; done))) (by dsimp only [putD, List.set]) ?_) | (refine da_quiet (some 82) rfl rfl rfl rfl (fun s hs => opOK_un (op_idxL rfl fsl_Sint (by first | decide | omega) (by first | assumption | exact idx_some (by assumption) | rfl) (by first | rfl | (simp [V.size]; done)))) (by dsimp only [putD, List.set]) ?_) | (refine da_quiet (some 82) rfl rfl rfl rfl (fun s hs => op_idxA rfl fsl_Sint (by first | decide | omega) (by first | decide | omega)) (by dsimp only [putD, List.set]) ?_)
      first | (refine da_quiet (some 83) rfl rfl rfl rfl (fun s hs => op_loadR1 rfl fone_int rfl) (by dsimp only [putD, List.set]) ?_) | (refine da_quiet (some 83) rfl rfl rfl rfl (by intro s hs; simp only [List.mem_cons, List.not_mem_nil, or_false] at hs; rcases hs with rfl <;> exact op_loadP1 rfl fone_int rfl rfl) (by dsimp only [putD, List.set]) ?_)
      refine da_quiet (some 84) rfl rfl rfl rfl (fun s hs => op_binI rfl rfl) (by dsimp only [putD, List.set]) ?_
      refine da_pk true 77 84 85 rfl rfl rfl rfl rfl rfl rfl (by dsimp only [List.set]) ?_
      refine da_pk false 73 85 86 rfl rfl rfl rfl rfl rfl rfl (by dsimp only [List.set]) ?_
      refine da_pk true 69 86 87 rfl rfl rfl rfl rfl rfl rfl (by dsimp only [List.set]) ?_
      refine da_end rfl ⟨by decide +kernel, _, rfl, ?_⟩
      refine at_cond [1, 1, 1, 1, 1, 1, 0, 1, 0] [1, 1, 1, 1, 1, 1, 0, 1, 1] rfl rfl (fun hc3 => ?_) (fun hc3 => ?_)
      · skip
        exact absurd hc3 (by simp)
      · skip
        refine at_skip rfl ?_
        refine at_seq [1, 1, 1, 1, 1, 1, 1, 0] [1, 1, 1, 1, 1, 1, 1, 1] rfl ?_
        refine at_seq [1, 1, 1, 1, 1, 1, 1, 0, 0] [1, 1, 1, 1, 1, 1, 1, 0, 1] rfl ?_
        refine at_region rfl ?_
        refine at_mv 4 88 rfl rfl rfl (.inl rfl) rfl (by dsimp only [List.set]) ?_
        first | (refine at_op (some 89) rfl rfl rfl rfl (op_lenL rfl fu_Sint) (by dsimp only [putD, List.set]) ?_) | (refine at_op (some 89) rfl rfl rfl rfl (opOK_un (op_lenL rfl fu_Sint)) (by dsimp only [putD, List.set]) ?_) | (refine at_op (some 89) rfl rfl rfl rfl (op_lenA rfl fu_Sint) (by dsimp only [putD, List.set]) ?_)
        refine at_op (some 90) rfl rfl rfl rfl (op_binI rfl rfl) (by dsimp only [putD, List.set]) ?_
        refine at_end rfl ?_
        refine at_cond [1, 1, 1, 1, 1, 1, 1, 0, 1, 0] [1, 1, 1, 1, 1, 1, 1, 0, 1, 1] rfl rfl (fun hc4 => ?_) (fun hc4 => ?_)
        · skip
          refine at_seq [1, 1, 1, 1, 1, 1, 1, 0, 1, 0, 0] [1, 1, 1, 1, 1, 1, 1, 0, 1, 0, 1] rfl ?_
          refine at_region rfl ?_
          refine at_mc 2 rfl rfl rfl (.inr rfl) (by dsimp only [constD]) (by dsimp only [List.set]) ?_
          refine at_end rfl ?_
          refine at_ret rfl (ret_one (t := 2) rfl rfl ?_ rfl)
          rfl
        · skip
          obtain ⟨h0, hl, hh⟩ : ∃ h0 hl, homesM G n = h0 :: hl := by cases e : homesM G n with | nil => (rw [e] at hc4; simp at hc4) | cons a l => exact ⟨a, l, rfl⟩
          rw [hh]
          have hll : hl.length ≤ n := by rw [hh] at hle; simp at hle; omega
          refine at_skip rfl ?_
          refine at_seq [1, 1, 1, 1, 1, 1, 1, 1, 0] [1, 1, 1, 1, 1, 1, 1, 1, 1] rfl ?_
          refine at_seq [1, 1, 1, 1, 1, 1, 1, 1, 0, 0] [1, 1, 1, 1, 1, 1, 1, 1, 0, 1] rfl ?_
          refine at_region rfl ?_
          first | (refine at_op (some 91) rfl rfl rfl rfl (op_loadRA rfl fagg_api_Graph) (by dsimp only [putD, List.set]) ?_) | (refine at_op (some 91) rfl rfl rfl rfl (op_loadPA rfl fagg_api_Graph rfl (by first | decide | simp) rfl) (by dsimp only [putD, List.set]) ?_)
          refine at_op (some 92) rfl rfl rfl rfl (op_call0 rfl rfl rfl rfl (comps_spec n G hG h6)) (by dsimp only [putD, List.set]) ?_
          first | (refine at_op (some 93) rfl rfl rfl rfl (op_lenL rfl fu__5b5d5b5d_int) (by dsimp only [putD, List.set]) ?_) | (refine at_op (some 93) rfl rfl rfl rfl (opOK_un (op_lenL rfl fu__5b5d5b5d_int)) (by dsimp only [putD, List.set]) ?_) | (refine at_op (some 93) rfl rfl rfl rfl (op_lenA rfl fu__5b5d5b5d_int) (by dsimp only [putD, List.set]) ?_)
          refine at_mc 94 rfl rfl rfl (.inl rfl) (by dsimp only [constD]) (by dsimp only [List.set]) ?_
          refine at_end rfl ?_
          refine at_block [1, 1, 1, 1, 1, 1, 1, 1, 0, 1, 0] 6 rfl ?_
          refine at_loop [1, 1, 1, 1, 1, 1, 1, 1, 0, 1, 0, 0] rfl ?_
          try simp only [List.length_map]
          exact run_wk (.drop (.drop (.drop (.drop (.keep (.drop (.drop (.drop (.drop (.drop (.drop (.drop (.drop (.drop (.drop (.drop (.drop (.drop (.drop (.drop (.drop (.drop (.drop (.drop (.drop (.drop (.drop (.drop (.drop (.drop (.drop (.drop (.drop (.drop (.drop (.drop (.drop (.drop (.drop (.drop (.drop (.drop (.drop (.drop (.drop (.drop (.drop (.drop (.drop (.drop (.drop (.drop (.drop (.drop (.drop (.drop (.drop (.drop (.drop (.drop (.drop (.drop (.drop (.drop (.drop (.drop (.drop (.drop (.drop (.drop (.drop (.drop (.drop (.drop (.drop (.drop (.drop (.drop (.drop (.drop (.drop (.drop (.drop (.drop (.drop (.drop (.drop (.drop (.drop (.drop (.drop (.drop (.keep (.keep (.keep (.drop (.drop (.drop (.drop (.drop (.drop (.drop (.drop (.drop (.drop (.drop (.drop (.drop (.drop .nil))))))))))))))))))))))))))))))))))))))))))))))))))))))))))))))))))))))))))))))))))))))))))))))))))))))))))))) (hh_c h0 hl (by omega) _ (by omega) (fun c hc => ⟨comps_cons hc, by obtain ⟨r, _, _, rfl⟩ := comps_of hc; have := comp_le (allM G n) n r; omega⟩) _ 0 rfl (by rw [List.drop_zero, ← hh]; exact find_home hG hh))
    · dsimp only [List.set] at he; subst he
      refine da_skip (some 78) rfl rfl rfl (by dsimp only [putD, List.set]) ?_
      refine da_skip (some 79) rfl rfl rfl (by dsimp only [putD, List.set]) ?_
      refine da_skip (some 80) rfl rfl rfl (by dsimp only [putD, List.set]) ?_
      refine da_skip (some 81) rfl rfl rfl (by dsimp only [putD, List.set]) ?_
      refine da_skip (some 82) rfl rfl rfl (by dsimp only [putD, List.set]) ?_
      refine da_skip (some 83) rfl rfl rfl (by dsimp only [putD, List.set]) ?_
      refine da_skip (some 84) rfl rfl rfl (by dsimp only [putD, List.set]) ?_
      refine da_pkc false 77 85 rfl rfl rfl rfl rfl rfl (by dsimp only [constD]) (by dsimp only [List.set]) ?_
      refine da_pk false 73 85 86 rfl rfl rfl rfl rfl rfl rfl (by dsimp only [List.set]) ?_
      refine da_pk true 69 86 87 rfl rfl rfl rfl rfl rfl rfl (by dsimp only [List.set]) ?_
      refine da_end rfl ⟨by decide +kernel, _, rfl, ?_⟩
      refine at_false [1, 1, 1, 1, 1, 1, 0, 1, 0] [1, 1, 1, 1, 1, 1, 0, 1, 1] rfl rfl ?_
      refine at_skip rfl ?_
      refine at_seq [1, 1, 1, 1, 1, 1, 1, 0] [1, 1, 1, 1, 1, 1, 1, 1] rfl ?_
      refine at_seq [1, 1, 1, 1, 1, 1, 1, 0, 0] [1, 1, 1, 1, 1, 1, 1, 0, 1] rfl ?_
      refine at_region rfl ?_
      refine at_mv 4 88 rfl rfl rfl (.inl rfl) rfl (by dsimp only [List.set]) ?_
      first | (refine at_op (some 89) rfl rfl rfl rfl (op_lenL rfl fu_Sint) (by dsimp only [putD, List.set]) ?_) | (refine at_op (some 89) rfl rfl rfl rfl (opOK_un (op_lenL rfl fu_Sint)) (by dsimp only [putD, List.set]) ?_) | (refine at_op (some 89) rfl rfl rfl rfl (op_lenA rfl fu_Sint) (by dsimp only [putD, List.set]) ?_)
      refine at_op (some 90) rfl rfl rfl rfl (op_binI rfl rfl) (by dsimp only [putD, List.set]) ?_
      refine at_end rfl ?_
      refine at_cond [1, 1, 1, 1, 1, 1, 1, 0, 1, 0] [1, 1, 1, 1, 1, 1, 1, 0, 1, 1] rfl rfl (fun hc5 => ?_) (fun hc5 => ?_)
      · skip
        refine at_seq [1, 1, 1, 1, 1, 1, 1, 0, 1, 0, 0] [1, 1, 1, 1, 1, 1, 1, 0, 1, 0, 1] rfl ?_
        refine at_region rfl ?_
        refine at_mc 2 rfl rfl rfl (.inr rfl) (by dsimp only [constD]) (by dsimp only [List.set]) ?_
        refine at_end rfl ?_
        refine at_ret rfl (ret_one (t := 2) rfl rfl ?_ rfl)
        rfl
      · skip
        obtain ⟨h0, hl, hh⟩ : ∃ h0 hl, homesM G n = h0 :: hl := by cases e : homesM G n with | nil => (rw [e] at hc5; simp at hc5) | cons a l => exact ⟨a, l, rfl⟩
        rw [hh]
        have hll : hl.length ≤ n := by rw [hh] at hle; simp at hle; omega
        refine at_skip rfl ?_
        refine at_seq [1, 1, 1, 1, 1, 1, 1, 1, 0] [1, 1, 1, 1, 1, 1, 1, 1, 1] rfl ?_
        refine at_seq [1, 1, 1, 1, 1, 1, 1, 1, 0, 0] [1, 1, 1, 1, 1, 1, 1, 1, 0, 1] rfl ?_
        refine at_region rfl ?_
        first | (refine at_op (some 91) rfl rfl rfl rfl (op_loadRA rfl fagg_api_Graph) (by dsimp only [putD, List.set]) ?_) | (refine at_op (some 91) rfl rfl rfl rfl (op_loadPA rfl fagg_api_Graph rfl (by first | decide | simp) rfl) (by dsimp only [putD, List.set]) ?_)
        refine at_op (some 92) rfl rfl rfl rfl (op_call0 rfl rfl rfl rfl (comps_spec n G hG h6)) (by dsimp only [putD, List.set]) ?_
        first | (refine at_op (some 93) rfl rfl rfl rfl (op_lenL rfl fu__5b5d5b5d_int) (by dsimp only [putD, List.set]) ?_) | (refine at_op (some 93) rfl rfl rfl rfl (opOK_un (op_lenL rfl fu__5b5d5b5d_int)) (by dsimp only [putD, List.set]) ?_) | (refine at_op (some 93) rfl rfl rfl rfl (op_lenA rfl fu__5b5d5b5d_int) (by dsimp only [putD, List.set]) ?_)
        refine at_mc 94 rfl rfl rfl (.inl rfl) (by dsimp only [constD]) (by dsimp only [List.set]) ?_
        refine at_end rfl ?_
        refine at_block [1, 1, 1, 1, 1, 1, 1, 1, 0, 1, 0] 6 rfl ?_
        refine at_loop [1, 1, 1, 1, 1, 1, 1, 1, 0, 1, 0, 0] rfl ?_
        try simp only [List.length_map]
        exact run_wk (.drop (.drop (.drop (.drop (.keep (.drop (.drop (.drop (.drop (.drop (.drop (.drop (.drop (.drop (.drop (.drop (.drop (.drop (.drop (.drop (.drop (.drop (.drop (.drop (.drop (.drop (.drop (.drop (.drop (.drop (.drop (.drop (.drop (.drop (.drop (.drop (.drop (.drop (.drop (.drop (.drop (.drop (.drop (.drop (.drop (.drop (.drop (.drop (.drop (.drop (.drop (.drop (.drop (.drop (.drop (.drop (.drop (.drop (.drop (.drop (.drop (.drop (.drop (.drop (.drop (.drop (.drop (.drop (.drop (.drop (.drop (.drop (.drop (.drop (.drop (.drop (.drop (.drop (.drop (.drop (.drop (.drop (.drop (.drop (.drop (.drop (.drop (.drop (.drop (.drop (.drop (.drop (.keep (.keep (.keep (.drop (.drop (.drop (.drop (.drop (.drop (.drop (.drop (.drop (.drop (.drop (.drop (.drop (.drop .nil))))))))))))))))))))))))))))))))))))))))))))))))))))))))))))))))))))))))))))))))))))))))))))))))))))))))))))) (hh_c h0 hl (by omega) _ (by omega) (fun c hc => ⟨comps_cons hc, by obtain ⟨r, _, _, rfl⟩ := comps_of hc; have := comp_le (allM G n) n r; omega⟩) _ 0 rfl (by rw [List.drop_zero, ← hh]; exact find_home hG hh))
  · dsimp only [List.set] at he; subst he
    refine da_skip (some 70) rfl rfl rfl (by dsimp only [putD, List.set]) ?_
    refine da_skip (some 71) rfl rfl rfl (by dsimp only [putD, List.set]) ?_
    refine da_skip (some 72) rfl rfl rfl (by dsimp only [putD, List.set]) ?_
    refine da_skip (some 73) rfl rfl rfl (by dsimp only [putD, List.set]) ?_
    refine da_skip (some 74) rfl rfl rfl (by dsimp only [putD, List.set]) ?_
    refine da_skip (some 75) rfl rfl rfl (by dsimp only [putD, List.set]) ?_
    refine da_skip (some 76) rfl rfl rfl (by dsimp only [putD, List.set]) ?_
    refine da_skip (some 77) rfl rfl rfl (by dsimp only [putD, List.set]) ?_
    refine da_skip (some 78) rfl rfl rfl (by dsimp only [putD, List.set]) ?_
    refine da_skip (some 79) rfl rfl rfl (by dsimp only [putD, List.set]) ?_
    refine da_skip (some 80) rfl rfl rfl (by dsimp only [putD, List.set]) ?_
    refine da_skip (some 81) rfl rfl rfl (by dsimp only [putD, List.set]) ?_
    refine da_skip (some 82) rfl rfl rfl (by dsimp only [putD, List.set]) ?_
    refine da_skip (some 83) rfl rfl rfl (by dsimp only [putD, List.set]) ?_
    refine da_skip (some 84) rfl rfl rfl (by dsimp only [putD, List.set]) ?_
    refine da_skip (some 85) rfl rfl rfl (by dsimp only [putD, List.set]) ?_
    refine da_skip (some 86) rfl rfl rfl (by dsimp only [putD, List.set]) ?_
    refine da_pkc false 69 87 rfl rfl rfl rfl rfl rfl (by dsimp only [constD]) (by dsimp only [List.set]) ?_
    refine da_end rfl ⟨by decide +kernel, _, rfl, ?_⟩
    refine at_false [1, 1, 1, 1, 1, 1, 0, 1, 0] [1, 1, 1, 1, 1, 1, 0, 1, 1] rfl rfl ?_
    refine at_skip rfl ?_
    refine at_seq [1, 1, 1, 1, 1, 1, 1, 0] [1, 1, 1, 1, 1, 1, 1, 1] rfl ?_
    refine at_seq [1, 1, 1, 1, 1, 1, 1, 0, 0] [1, 1, 1, 1, 1, 1, 1, 0, 1] rfl ?_
    refine at_region rfl ?_
    refine at_mv 4 88 rfl rfl rfl (.inl rfl) rfl (by dsimp only [List.set]) ?_
    first | (refine at_op (some 89) rfl rfl rfl rfl (op_lenL rfl fu_Sint) (by dsimp only [putD, List.set]) ?_) | (refine at_op (some 89) rfl rfl rfl rfl (opOK_un (op_lenL rfl fu_Sint)) (by dsimp only [putD, List.set]) ?_) | (refine at_op (some 89) rfl rfl rfl rfl (op_lenA rfl fu_Sint) (by dsimp only [putD, List.set]) ?_)
    refine at_op (some 90) rfl rfl rfl rfl (op_binI rfl rfl) (by dsimp only [putD, List.set]) ?_
    refine at_end rfl ?_
    refine at_cond [1, 1, 1, 1, 1, 1, 1, 0, 1, 0] [1, 1, 1, 1, 1, 1, 1, 0, 1, 1] rfl rfl (fun hc6 => ?_) (fun hc6 => ?_)
    · skip
      refine at_seq [1, 1, 1, 1, 1, 1, 1, 0, 1, 0, 0] [1, 1, 1, 1, 1, 1, 1, 0, 1, 0, 1] rfl ?_
      refine at_region rfl ?_
      refine at_mc 2 rfl rfl rfl (.inr rfl) (by dsimp only [constD]) (by dsimp only [List.set]) ?_
      refine at_end rfl ?_
      refine at_ret rfl (ret_one (t := 2) rfl rfl ?_ rfl)
      rfl
    · skip
      obtain ⟨h0, hl, hh⟩ : ∃ h0 hl, homesM G n = h0 :: hl := by cases e : homesM G n with | nil => (rw [e] at hc6; simp at hc6) | cons a l => exact ⟨a, l, rfl⟩
      rw [hh]
      have hll : hl.length ≤ n := by rw [hh] at hle; simp at hle; omega
      refine at_skip rfl ?_
      refine at_seq [1, 1, 1, 1, 1, 1, 1, 1, 0] [1, 1, 1, 1, 1, 1, 1, 1, 1] rfl ?_
      refine at_seq [1, 1, 1, 1, 1, 1, 1, 1, 0, 0] [1, 1, 1, 1, 1, 1, 1, 1, 0, 1] rfl ?_
      refine at_region rfl ?_
      first | (refine at_op (some 91) rfl rfl rfl rfl (op_loadRA rfl fagg_api_Graph) (by dsimp only [putD, List.set]) ?_) | (refine at_op (some 91) rfl rfl rfl rfl (op_loadPA rfl fagg_api_Graph rfl (by first | decide | simp) rfl) (by dsimp only [putD, List.set]) ?_)
      refine at_op (some 92) rfl rfl rfl rfl (op_call0 rfl rfl rfl rfl (comps_spec n G hG h6)) (by dsimp only [putD, List.set]) ?_
      first | (refine at_op (some 93) rfl rfl rfl rfl (op_lenL rfl fu__5b5d5b5d_int) (by dsimp only [putD, List.set]) ?_) | (refine at_op (some 93) rfl rfl rfl rfl (opOK_un (op_lenL rfl fu__5b5d5b5d_int)) (by dsimp only [putD, List.set]) ?_) | (refine at_op (some 93) rfl rfl rfl rfl (op_lenA rfl fu__5b5d5b5d_int) (by dsimp only [putD, List.set]) ?_)
      refine at_mc 94 rfl rfl rfl (.inl rfl) (by dsimp only [constD]) (by dsimp only [List.set]) ?_
      refine at_end rfl ?_
      refine at_block [1, 1, 1, 1, 1, 1, 1, 1, 0, 1, 0] 6 rfl ?_
      refine at_loop [1, 1, 1, 1, 1, 1, 1, 1, 0, 1, 0, 0] rfl ?_
      try simp only [List.length_map]
      exact run_wk (.drop (.drop (.drop (.drop (.keep (.drop (.drop (.drop (.drop (.drop (.drop (.drop (.drop (.drop (.drop (.drop (.drop (.drop (.drop (.drop (.drop (.drop (.drop (.drop (.drop (.drop (.drop (.drop (.drop (.drop (.drop (.drop (.drop (.drop (.drop (.drop (.drop (.drop (.drop (.drop (.drop (.drop (.drop (.drop (.drop (.drop (.drop (.drop (.drop (.drop (.drop (.drop (.drop (.drop (.drop (.drop (.drop (.drop (.drop (.drop (.drop (.drop (.drop (.drop (.drop (.drop (.drop (.drop (.drop (.drop (.drop (.drop (.drop (.drop (.drop (.drop (.drop (.drop (.drop (.drop (.drop (.drop (.drop (.drop (.drop (.drop (.drop (.drop (.drop (.drop (.drop (.drop (.keep (.keep (.keep (.drop (.drop (.drop (.drop (.drop (.drop (.drop (.drop (.drop (.drop (.drop (.drop (.drop (.drop .nil))))))))))))))))))))))))))))))))))))))))))))))))))))))))))))))))))))))))))))))))))))))))))))))))))))))))))))) (hh_c h0 hl (by omega) _ (by omega) (fun c hc => ⟨comps_cons hc, by obtain ⟨r, _, _, rfl⟩ := comps_of hc; have := comp_le (allM G n) n r; omega⟩) _ 0 rfl (by rw [List.drop_zero, ← hh]; exact find_home hG hh))

end Go.Proofs.YtmdipbhjhkckjaaGreat
