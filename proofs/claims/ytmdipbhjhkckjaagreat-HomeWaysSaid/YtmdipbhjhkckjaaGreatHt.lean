/-
  The law HomeWays, walked.
-/
import Derived.Test.YtmdipbhjhkckjaaGreatHy
namespace Go.Proofs.YtmdipbhjhkckjaaGreat
open Go.Dv

theorem graph_ex (s : List Int) (hb : BytesOK s) (hs : s.length ≤ 200) : ∃ (n : Nat) (G : List (List Arc)) (k : Nat), GOK n G ∧ n ≤ 6 ∧ FSpec PP 18 [.ptr 0 0] (dice s 0) (.v (vG n G)) (dice s k) :=
  ⟨_, _, _, graph_ok hb 0, (nM_range hb 0).2, graph_spec s hb hs 0 (by omega)⟩
theorem bytes_take {s : List Int} (hb : BytesOK s) (n : Nat) : BytesOK (s.take n) := fun x hx => hb x (List.mem_of_mem_take hx)
abbrev σ1 : St := ⟨[none], []⟩
theorem mod_ex {a : Int} (ha : 0 ≤ a ∧ a < 256) {n : Nat} (hn : 1 ≤ n) : ∃ k : Nat, a.tmod n = (k : Int) ∧ k < n := by
  rw [Int.tmod_eq_emod_of_nonneg ha.1]
  have h1 := Int.emod_nonneg a (b := n) (by omega)
  have h2 := Int.emod_lt_of_pos a (b := n) (by omega)
  exact ⟨(a % n).toNat, by omega, by omega⟩
theorem wrapu {a : Int} (ha : 0 ≤ a ∧ a < 256) : IntKind.i64.wrap a = a := wrap_id (by omega) (by omega)
theorem any_at {α : Type} {p : α → Bool} {l : List α} {i : Nat} {x : α} (h : l[i]? = some x) (b : Bool) : (b || (l.drop i).any p) = ((b || p x) || (l.drop (i + 1)).any p) := by
  rw [List.drop_eq_getElem_cons (List.getElem?_eq_some_iff.1 h).1, List.any_cons, (List.getElem?_eq_some_iff.1 h).2, Bool.or_assoc]
theorem any_end {α : Type} {p : α → Bool} {l : List α} {i : Nat} (h : l.length ≤ i) (b : Bool) : (b || (l.drop i).any p) = b := by
  rw [List.drop_of_length_le h]; simp
theorem eq_cast (j k : Nat) : ((j : Int) == (k : Int)) = (j == k) := by
  rw [Bool.eq_iff_iff]; simp; omega

noncomputable def cWays : Code := Tryz.f4.body.getD .skip
set_option maxRecDepth 20000 in
theorem ways_l1 (R : List D → St → Prop) (K : List KI) (n : Nat) (G : List (List Arc)) (fr to : Nat) (w : List Arc) (ok : Bool) (l : List Nat) (hl : l.length ≤ 1000) (T : Bool) (hk : Run PP R K (.undef :: .undef :: .undef :: .undef :: .undef :: .undef :: .undef :: (.v (.ref (vG n G))) :: (di ↑fr) :: (di ↑to) :: (.v (vArcs w)) :: (db ok) :: (db T) :: .undef :: .undef :: .undef :: .undef :: .undef :: .undef :: .undef :: .undef :: .undef :: .undef :: .undef :: .undef :: .undef :: .undef :: .undef :: .undef :: .undef :: .undef :: .undef :: .undef :: .undef :: .undef :: .undef :: .undef :: .undef :: .undef :: .undef :: .undef :: .undef :: .undef :: .undef :: .undef :: .undef :: .undef :: .undef :: .undef :: .undef :: .undef :: .undef :: .undef :: .undef :: .undef :: .undef :: .undef :: .undef :: .undef :: .undef :: .undef :: .undef :: .undef :: .undef :: .undef :: .undef :: .undef :: .undef :: .undef :: .undef :: .undef :: .undef :: .undef :: .undef :: .undef :: .undef :: .undef :: .undef :: .undef :: .undef :: .undef :: .undef :: .undef :: .undef :: .undef :: .undef :: .undef :: .undef :: .undef :: .undef :: .undef :: .undef :: .undef :: .undef :: .undef :: .undef :: .undef :: .undef :: .undef :: .undef :: .undef :: .undef :: .undef :: .undef :: .undef :: .undef :: .undef :: .undef :: .undef :: .undef :: .undef :: .undef :: .undef :: .undef :: .undef :: .undef :: .undef :: .undef :: .undef :: .undef :: .undef :: .undef :: .undef :: .undef :: .undef :: .undef :: .undef :: .undef :: .undef :: .undef :: .undef :: .undef :: .undef :: .undef :: .undef :: .undef :: .undef :: .undef :: .undef :: .undef :: .undef :: .undef :: .undef :: .undef :: .undef :: .undef :: .undef :: .undef :: .undef :: .undef :: .undef :: .undef :: .undef :: []) σ1) (m : Nat) : ∀ (i : Nat) (b : Bool), l.length - i = m → T = (b || (l.drop i).any (fun j => j == to)) → Run PP R (.lp (sub cWays [1, 1, 1, 1, 1, 1, 0, 1, 0, 0]) :: .blk 0 :: K) (.undef :: .undef :: .undef :: .undef :: .undef :: .undef :: .undef :: (.v (.ref (vG n G))) :: (di ↑fr) :: (di ↑to) :: (.v (vArcs w)) :: (db ok) :: (db b) :: .undef :: .undef :: .undef :: .undef :: .undef :: .undef :: .undef :: .undef :: .undef :: .undef :: .undef :: .undef :: .undef :: .undef :: .undef :: .undef :: .undef :: .undef :: .undef :: .undef :: .undef :: .undef :: .undef :: .undef :: .undef :: .undef :: .undef :: .undef :: .undef :: .undef :: .undef :: .undef :: .undef :: .undef :: .undef :: .undef :: .undef :: .undef :: (.v (.list (vns l))) :: (di ↑l.length) :: (di ↑i) :: .undef :: .undef :: .undef :: .undef :: .undef :: .undef :: .undef :: .undef :: .undef :: .undef :: .undef :: .undef :: .undef :: .undef :: .undef :: .undef :: .undef :: .undef :: .undef :: .undef :: .undef :: .undef :: .undef :: .undef :: .undef :: .undef :: .undef :: .undef :: .undef :: .undef :: .undef :: .undef :: .undef :: .undef :: .undef :: .undef :: .undef :: .undef :: .undef :: .undef :: .undef :: .undef :: .undef :: .undef :: .undef :: .undef :: .undef :: .undef :: .undef :: .undef :: .undef :: .undef :: .undef :: .undef :: .undef :: .undef :: .undef :: .undef :: .undef :: .undef :: .undef :: .undef :: .undef :: .undef :: .undef :: .undef :: .undef :: .undef :: .undef :: .undef :: .undef :: .undef :: .undef :: .undef :: .undef :: .undef :: .undef :: .undef :: .undef :: .undef :: .undef :: .undef :: .undef :: .undef :: .undef :: .undef :: .undef :: .undef :: .undef :: .undef :: .undef :: .undef :: .undef :: .undef :: .undef :: .undef :: .undef :: .undef :: .undef :: []) σ1 := by
  induction m using Nat.strongRecOn with
  | _ m ih =>
    intro i b hm hT
    refine run_lp ?_
    refine at_seq [1, 1, 1, 1, 1, 1, 0, 1, 0, 0, 0] [1, 1, 1, 1, 1, 1, 0, 1, 0, 0, 1] rfl ?_
    refine at_region rfl ?_
    refine at_op (some 54) rfl rfl rfl rfl (op_binI rfl rfl) (by dsimp only [putD, List.set]) ?_
    refine at_end rfl ?_
    refine at_seq [1, 1, 1, 1, 1, 1, 0, 1, 0, 0, 1, 0] [1, 1, 1, 1, 1, 1, 0, 1, 0, 0, 1, 1] rfl ?_
    refine at_cond [1, 1, 1, 1, 1, 1, 0, 1, 0, 0, 1, 0, 0] [1, 1, 1, 1, 1, 1, 0, 1, 0, 0, 1, 0, 1] rfl rfl (fun hc1 => ?_) (fun hc1 => ?_)
    · skip
      have hlt : i < l.length := by simpa using hc1
      obtain ⟨j, hj⟩ := get_ex hlt
      have hj2 := idx_some (f := vn) hj
      rw [any_at hj] at hT
      refine at_skip rfl ?_
      refine at_seq [1, 1, 1, 1, 1, 1, 0, 1, 0, 0, 1, 1, 0] [1, 1, 1, 1, 1, 1, 0, 1, 0, 0, 1, 1, 1] rfl ?_
      refine at_block [1, 1, 1, 1, 1, 1, 0, 1, 0, 0, 1, 1, 0, 0] 1 rfl ?_
      refine at_seq [1, 1, 1, 1, 1, 1, 0, 1, 0, 0, 1, 1, 0, 0, 0] [1, 1, 1, 1, 1, 1, 0, 1, 0, 0, 1, 1, 0, 0, 1] rfl ?_
      refine at_region rfl ?_
      first | (refine at_op (some 55) rfl rfl rfl rfl (op_idxL rfl fsl_Sint (by first | decide | omega) (by first | assumption | exact idx_some (by assumption) | rfl) (by first | rfl | (simp [V.size]; done))) (by dsimp only [putD, List.set]) ?_) | (refine at_op (some 55) rfl rfl rfl rfl (opOK_un (op_idxL rfl fsl_Sint (by first | decide | omega) (by first | assumption | exact idx_some (by assumption) | rfl) (by first | rfl | (simp [V.size]; done)))) (by dsimp only [putD, List.set]) ?_) | (refine at_op (some 55) rfl rfl rfl rfl (op_idxA rfl fsl_Sint (by first | decide | omega) (by first | decide | omega)) (by dsimp only [putD, List.set]) ?_)
      first | (refine at_op (some 56) rfl rfl rfl rfl (op_loadR1 rfl fone_int rfl) (by dsimp only [putD, List.set]) ?_) | (refine at_op (some 56) rfl rfl rfl rfl (op_loadP1 rfl fone_int rfl rfl) (by dsimp only [putD, List.set]) ?_)
      refine at_mv 56 14 rfl rfl rfl (.inr rfl) rfl (by dsimp only [List.set]) ?_
      refine at_end rfl ?_
      refine at_region rfl ?_
      refine at_mv 12 57 rfl rfl rfl (.inl rfl) rfl (by dsimp only [List.set]) ?_
      refine at_mv 57 58 rfl rfl rfl (.inl rfl) rfl (by dsimp only [List.set]) ?_
      refine at_split 58 rfl (fun hb2 env' he => ?_) (fun hb2 env' he => ?_)
      · dsimp only [List.set] at he; subst he
        have hbt : b = true := hb2
        subst hbt
        rw [Bool.true_or] at hT
        refine at_opN (some 59) rfl rfl rfl (by dsimp only [putD, List.set]) ?_
        refine at_opN (some 60) rfl rfl rfl (by dsimp only [putD, List.set]) ?_
        refine at_opN (some 61) rfl rfl rfl (by dsimp only [putD, List.set]) ?_
        refine at_pkc true 58 62 rfl rfl rfl rfl rfl rfl (by dsimp only [constD]) (by dsimp only [List.set]) ?_
        refine at_mv 62 12 rfl rfl rfl (.inr rfl) rfl (by dsimp only [List.set]) ?_
        refine at_end rfl ?_
        refine run_blk ?_
        refine at_region rfl ?_
        refine at_op (some 63) rfl rfl rfl rfl (op_binI rfl rfl) (by dsimp only [putD, List.set]) ?_
        rw [wrap_succ (by omega)]
        refine at_mv 63 53 rfl rfl rfl (.inl rfl) rfl (by dsimp only [List.set]) ?_
        refine at_end rfl ?_
        exact run_wk (.drop (.drop (.drop (.drop (.drop (.drop (.drop (.keep (.keep (.keep (.keep (.keep (.keep (.drop (.drop (.drop (.drop (.drop (.drop (.drop (.drop (.drop (.drop (.drop (.drop (.drop (.drop (.drop (.drop (.drop (.drop (.drop (.drop (.drop (.drop (.drop (.drop (.drop (.drop (.drop (.drop (.drop (.drop (.drop (.drop (.drop (.drop (.drop (.drop (.drop (.drop (.keep (.keep (.keep (.drop (.drop (.drop (.drop (.drop (.drop (.drop (.drop (.drop (.drop (.drop (.drop (.drop (.drop (.drop (.drop (.drop (.drop (.drop (.drop (.drop (.drop (.drop (.drop (.drop (.drop (.drop (.drop (.drop (.drop (.drop (.drop (.drop (.drop (.drop (.drop (.drop (.drop (.drop (.drop (.drop (.drop (.drop (.drop (.drop (.drop (.drop (.drop (.drop (.drop (.drop (.drop (.drop (.drop (.drop (.drop (.drop (.drop (.drop (.drop (.drop (.drop (.drop (.drop (.drop (.drop (.drop (.drop (.drop (.drop (.drop (.drop (.drop (.drop (.drop (.drop (.drop (.drop (.drop (.drop (.drop (.drop (.drop (.drop (.drop (.drop (.drop (.drop (.drop (.drop (.drop (.drop (.drop (.drop (.drop (.drop (.drop (.drop (.drop .nil))))))))))))))))))))))))))))))))))))))))))))))))))))))))))))))))))))))))))))))))))))))))))))))))))))))))))))))))))))))))))))))))))))))))))))))))))))))))) (ih _ (by omega) (i + 1) _ rfl hT)
      · dsimp only [List.set] at he; subst he
        have hbt : b = false := hb2
        subst hbt
        rw [Bool.false_or] at hT
        refine at_mv 14 59 rfl rfl rfl (.inl rfl) rfl (by dsimp only [List.set]) ?_
        refine at_mv 9 60 rfl rfl rfl (.inl rfl) rfl (by dsimp only [List.set]) ?_
        refine at_op (some 61) rfl rfl rfl rfl (op_binI rfl rfl) (by dsimp only [putD, List.set]) ?_
        rw [eq_cast]
        refine at_pk false 58 61 62 rfl rfl rfl rfl rfl rfl rfl (by dsimp only [List.set]) ?_
        refine at_mv 62 12 rfl rfl rfl (.inr rfl) rfl (by dsimp only [List.set]) ?_
        refine at_end rfl ?_
        refine run_blk ?_
        refine at_region rfl ?_
        refine at_op (some 63) rfl rfl rfl rfl (op_binI rfl rfl) (by dsimp only [putD, List.set]) ?_
        rw [wrap_succ (by omega)]
        refine at_mv 63 53 rfl rfl rfl (.inl rfl) rfl (by dsimp only [List.set]) ?_
        refine at_end rfl ?_
        exact run_wk (.drop (.drop (.drop (.drop (.drop (.drop (.drop (.keep (.keep (.keep (.keep (.keep (.keep (.drop (.drop (.drop (.drop (.drop (.drop (.drop (.drop (.drop (.drop (.drop (.drop (.drop (.drop (.drop (.drop (.drop (.drop (.drop (.drop (.drop (.drop (.drop (.drop (.drop (.drop (.drop (.drop (.drop (.drop (.drop (.drop (.drop (.drop (.drop (.drop (.drop (.drop (.keep (.keep (.keep (.drop (.drop (.drop (.drop (.drop (.drop (.drop (.drop (.drop (.drop (.drop (.drop (.drop (.drop (.drop (.drop (.drop (.drop (.drop (.drop (.drop (.drop (.drop (.drop (.drop (.drop (.drop (.drop (.drop (.drop (.drop (.drop (.drop (.drop (.drop (.drop (.drop (.drop (.drop (.drop (.drop (.drop (.drop (.drop (.drop (.drop (.drop (.drop (.drop (.drop (.drop (.drop (.drop (.drop (.drop (.drop (.drop (.drop (.drop (.drop (.drop (.drop (.drop (.drop (.drop (.drop (.drop (.drop (.drop (.drop (.drop (.drop (.drop (.drop (.drop (.drop (.drop (.drop (.drop (.drop (.drop (.drop (.drop (.drop (.drop (.drop (.drop (.drop (.drop (.drop (.drop (.drop (.drop (.drop (.drop (.drop (.drop (.drop (.drop .nil))))))))))))))))))))))))))))))))))))))))))))))))))))))))))))))))))))))))))))))))))))))))))))))))))))))))))))))))))))))))))))))))))))))))))))))))))))))))) (ih _ (by omega) (i + 1) _ rfl hT)
    · skip
      have hge : l.length ≤ i := by simpa using hc1
      rw [any_end hge] at hT
      subst hT
      refine at_exit rfl rfl ?_
      exact run_wk (.drop (.drop (.drop (.drop (.drop (.drop (.drop (.keep (.keep (.keep (.keep (.keep (.keep (.drop (.drop (.drop (.drop (.drop (.drop (.drop (.drop (.drop (.drop (.drop (.drop (.drop (.drop (.drop (.drop (.drop (.drop (.drop (.drop (.drop (.drop (.drop (.drop (.drop (.drop (.drop (.drop (.drop (.drop (.drop (.drop (.drop (.drop (.drop (.drop (.drop (.drop (.drop (.drop (.drop (.drop (.drop (.drop (.drop (.drop (.drop (.drop (.drop (.drop (.drop (.drop (.drop (.drop (.drop (.drop (.drop (.drop (.drop (.drop (.drop (.drop (.drop (.drop (.drop (.drop (.drop (.drop (.drop (.drop (.drop (.drop (.drop (.drop (.drop (.drop (.drop (.drop (.drop (.drop (.drop (.drop (.drop (.drop (.drop (.drop (.drop (.drop (.drop (.drop (.drop (.drop (.drop (.drop (.drop (.drop (.drop (.drop (.drop (.drop (.drop (.drop (.drop (.drop (.drop (.drop (.drop (.drop (.drop (.drop (.drop (.drop (.drop (.drop (.drop (.drop (.drop (.drop (.drop (.drop (.drop (.drop (.drop (.drop (.drop (.drop (.drop (.drop (.drop (.drop (.drop (.drop (.drop (.drop (.drop (.drop (.drop (.drop (.drop (.drop .nil))))))))))))))))))))))))))))))))))))))))))))))))))))))))))))))))))))))))))))))))))))))))))))))))))))))))))))))))))))))))))))))))))))))))))))))))))))))))) hk

set_option maxRecDepth 20000 in
theorem ways_l3 (R : List D → St → Prop) (K : List KI) (n : Nat) (G : List (List Arc)) (fr to : Nat) (w : List Arc) (at_ i : Nat) (x : Arc) (row : List Arc) (hl : row.length ≤ 100) (T : Bool) (hk : Run PP R K (.undef :: .undef :: .undef :: .undef :: .undef :: .undef :: .undef :: (.v (.ref (vG n G))) :: (di ↑fr) :: (di ↑to) :: (.v (vArcs w)) :: .undef :: .undef :: .undef :: .undef :: (di ↑at_) :: .undef :: (.v (.ref (vArc x))) :: (db T) :: .undef :: .undef :: .undef :: .undef :: .undef :: .undef :: .undef :: .undef :: .undef :: .undef :: .undef :: .undef :: .undef :: .undef :: .undef :: .undef :: .undef :: .undef :: .undef :: .undef :: .undef :: .undef :: .undef :: .undef :: .undef :: .undef :: .undef :: .undef :: .undef :: .undef :: .undef :: .undef :: .undef :: .undef :: .undef :: .undef :: .undef :: .undef :: .undef :: .undef :: .undef :: .undef :: .undef :: .undef :: .undef :: .undef :: .undef :: .undef :: .undef :: .undef :: .undef :: .undef :: .undef :: .undef :: (.v (vArcs w)) :: (di ↑w.length) :: (di ↑i) :: .undef :: .undef :: .undef :: .undef :: .undef :: .undef :: .undef :: .undef :: .undef :: .undef :: .undef :: .undef :: .undef :: .undef :: .undef :: .undef :: .undef :: .undef :: .undef :: .undef :: .undef :: .undef :: .undef :: .undef :: .undef :: .undef :: .undef :: .undef :: .undef :: .undef :: .undef :: .undef :: .undef :: .undef :: .undef :: .undef :: .undef :: .undef :: .undef :: .undef :: .undef :: .undef :: .undef :: .undef :: .undef :: .undef :: .undef :: .undef :: .undef :: .undef :: .undef :: .undef :: .undef :: .undef :: .undef :: .undef :: .undef :: .undef :: .undef :: .undef :: .undef :: .undef :: .undef :: .undef :: .undef :: .undef :: .undef :: .undef :: .undef :: .undef :: .undef :: .undef :: .undef :: .undef :: .undef :: .undef :: .undef :: []) σ1) (m : Nat) : ∀ (j : Nat) (b : Bool), row.length - j = m → T = (b || (row.drop j).any (fun y => decide (x = y))) → Run PP R (.lp (sub cWays [1, 1, 1, 1, 1, 1, 1, 1, 1, 1, 0, 1, 0, 0, 1, 1, 0, 0, 1, 1, 0, 1, 0, 0]) :: .blk 4 :: K) (.undef :: .undef :: .undef :: .undef :: .undef :: .undef :: .undef :: (.v (.ref (vG n G))) :: (di ↑fr) :: (di ↑to) :: (.v (vArcs w)) :: .undef :: .undef :: .undef :: .undef :: (di ↑at_) :: .undef :: (.v (.ref (vArc x))) :: (db b) :: .undef :: .undef :: .undef :: .undef :: .undef :: .undef :: .undef :: .undef :: .undef :: .undef :: .undef :: .undef :: .undef :: .undef :: .undef :: .undef :: .undef :: .undef :: .undef :: .undef :: .undef :: .undef :: .undef :: .undef :: .undef :: .undef :: .undef :: .undef :: .undef :: .undef :: .undef :: .undef :: .undef :: .undef :: .undef :: .undef :: .undef :: .undef :: .undef :: .undef :: .undef :: .undef :: .undef :: .undef :: .undef :: .undef :: .undef :: .undef :: .undef :: .undef :: .undef :: .undef :: .undef :: .undef :: (.v (vArcs w)) :: (di ↑w.length) :: (di ↑i) :: .undef :: .undef :: .undef :: .undef :: .undef :: .undef :: .undef :: (.v (vArcs row)) :: (di ↑row.length) :: (di ↑j) :: .undef :: .undef :: .undef :: .undef :: .undef :: .undef :: .undef :: .undef :: .undef :: .undef :: .undef :: .undef :: .undef :: .undef :: .undef :: .undef :: .undef :: .undef :: .undef :: .undef :: .undef :: .undef :: .undef :: .undef :: .undef :: .undef :: .undef :: .undef :: .undef :: .undef :: .undef :: .undef :: .undef :: .undef :: .undef :: .undef :: .undef :: .undef :: .undef :: .undef :: .undef :: .undef :: .undef :: .undef :: .undef :: .undef :: .undef :: .undef :: .undef :: .undef :: .undef :: .undef :: .undef :: .undef :: .undef :: .undef :: .undef :: .undef :: .undef :: .undef :: .undef :: .undef :: .undef :: .undef :: .undef :: .undef :: .undef :: []) σ1 := by
  induction m using Nat.strongRecOn with
  | _ m ih =>
    intro j b hm hT
    refine run_lp ?_
    refine at_seq [1, 1, 1, 1, 1, 1, 1, 1, 1, 1, 0, 1, 0, 0, 1, 1, 0, 0, 1, 1, 0, 1, 0, 0, 0] [1, 1, 1, 1, 1, 1, 1, 1, 1, 1, 0, 1, 0, 0, 1, 1, 0, 0, 1, 1, 0, 1, 0, 0, 1] rfl ?_
    refine at_region rfl ?_
    refine at_op (some 86) rfl rfl rfl rfl (op_binI rfl rfl) (by dsimp only [putD, List.set]) ?_
    refine at_end rfl ?_
    refine at_seq [1, 1, 1, 1, 1, 1, 1, 1, 1, 1, 0, 1, 0, 0, 1, 1, 0, 0, 1, 1, 0, 1, 0, 0, 1, 0] [1, 1, 1, 1, 1, 1, 1, 1, 1, 1, 0, 1, 0, 0, 1, 1, 0, 0, 1, 1, 0, 1, 0, 0, 1, 1] rfl ?_
    refine at_cond [1, 1, 1, 1, 1, 1, 1, 1, 1, 1, 0, 1, 0, 0, 1, 1, 0, 0, 1, 1, 0, 1, 0, 0, 1, 0, 0] [1, 1, 1, 1, 1, 1, 1, 1, 1, 1, 0, 1, 0, 0, 1, 1, 0, 0, 1, 1, 0, 1, 0, 0, 1, 0, 1] rfl rfl (fun hc1 => ?_) (fun hc1 => ?_)
    · skip
      have hlt : j < row.length := by simpa using hc1
      obtain ⟨y, hy⟩ := get_ex hlt
      have hy2 := idx_some (f := vArc) hy
      rw [any_at hy] at hT
      refine at_skip rfl ?_
      refine at_seq [1, 1, 1, 1, 1, 1, 1, 1, 1, 1, 0, 1, 0, 0, 1, 1, 0, 0, 1, 1, 0, 1, 0, 0, 1, 1, 0] [1, 1, 1, 1, 1, 1, 1, 1, 1, 1, 0, 1, 0, 0, 1, 1, 0, 0, 1, 1, 0, 1, 0, 0, 1, 1, 1] rfl ?_
      refine at_block [1, 1, 1, 1, 1, 1, 1, 1, 1, 1, 0, 1, 0, 0, 1, 1, 0, 0, 1, 1, 0, 1, 0, 0, 1, 1, 0, 0] 5 rfl ?_
      refine at_seq [1, 1, 1, 1, 1, 1, 1, 1, 1, 1, 0, 1, 0, 0, 1, 1, 0, 0, 1, 1, 0, 1, 0, 0, 1, 1, 0, 0, 0] [1, 1, 1, 1, 1, 1, 1, 1, 1, 1, 0, 1, 0, 0, 1, 1, 0, 0, 1, 1, 0, 1, 0, 0, 1, 1, 0, 0, 1] rfl ?_
      refine at_region rfl ?_
      first | (refine at_op (some 87) rfl rfl rfl rfl (op_idxL rfl fsl_Sapi_Arc (by first | decide | omega) (by first | assumption | exact idx_some (by assumption) | rfl) (by first | rfl | (simp [V.size]; done))) (by dsimp only [putD, List.set]) ?_) | (refine at_op (some 87) rfl rfl rfl rfl (opOK_un (op_idxL rfl fsl_Sapi_Arc (by first | decide | omega) (by first | assumption | exact idx_some (by assumption) | rfl) (by first | rfl | (simp [V.size]; done)))) (by dsimp only [putD, List.set]) ?_) | (refine at_op (some 87) rfl rfl rfl rfl (op_idxA rfl fsl_Sapi_Arc (by first | decide | omega) (by first | decide | omega)) (by dsimp only [putD, List.set]) ?_)
      first | (refine at_op (some 88) rfl rfl rfl rfl (op_loadRA rfl fagg_api_Arc) (by dsimp only [putD, List.set]) ?_) | (refine at_op (some 88) rfl rfl rfl rfl (op_loadPA rfl fagg_api_Arc rfl (by first | decide | simp) rfl) (by dsimp only [putD, List.set]) ?_)
      refine at_new 88 20 rfl rfl rfl rfl fzero_api_Arc rfl rfl rfl rfl (by decide) rfl rfl fagg_api_Arc (by first | rfl | (simp [V.size]; done)) rfl (by simp only [List.length_cons]; omega) (by dsimp only [List.set]) ?_
      refine at_end rfl ?_
      refine at_region rfl ?_
      refine at_mv 18 89 rfl rfl rfl (.inl rfl) rfl (by dsimp only [List.set]) ?_
      refine at_mv 89 90 rfl rfl rfl (.inl rfl) rfl (by dsimp only [List.set]) ?_
      refine at_split 90 rfl (fun hb2 env' he => ?_) (fun hb2 env' he => ?_)
      · dsimp only [List.set] at he; subst he
        have hbt : b = true := hb2
        subst hbt
        rw [Bool.true_or] at hT
        refine at_opN (some 91) rfl rfl rfl (by dsimp only [putD, List.set]) ?_
        refine at_opN (some 92) rfl rfl rfl (by dsimp only [putD, List.set]) ?_
        refine at_opN (some 93) rfl rfl rfl (by dsimp only [putD, List.set]) ?_
        refine at_pkc true 90 94 rfl rfl rfl rfl rfl rfl (by dsimp only [constD]) (by dsimp only [List.set]) ?_
        refine at_mv 94 18 rfl rfl rfl (.inr rfl) rfl (by dsimp only [List.set]) ?_
        refine at_end rfl ?_
        refine run_blk ?_
        refine at_region rfl ?_
        refine at_op (some 95) rfl rfl rfl rfl (op_binI rfl rfl) (by dsimp only [putD, List.set]) ?_
        rw [wrap_succ (by omega)]
        refine at_mv 95 85 rfl rfl rfl (.inl rfl) rfl (by dsimp only [List.set]) ?_
        refine at_end rfl ?_
        exact run_wk (.drop (.drop (.drop (.drop (.drop (.drop (.drop (.keep (.keep (.keep (.keep (.drop (.drop (.drop (.drop (.keep (.drop (.keep (.keep (.drop (.drop (.drop (.drop (.drop (.drop (.drop (.drop (.drop (.drop (.drop (.drop (.drop (.drop (.drop (.drop (.drop (.drop (.drop (.drop (.drop (.drop (.drop (.drop (.drop (.drop (.drop (.drop (.drop (.drop (.drop (.drop (.drop (.drop (.drop (.drop (.drop (.drop (.drop (.drop (.drop (.drop (.drop (.drop (.drop (.drop (.drop (.drop (.drop (.drop (.drop (.drop (.drop (.drop (.keep (.keep (.keep (.drop (.drop (.drop (.drop (.drop (.drop (.drop (.keep (.keep (.keep (.drop (.drop (.drop (.drop (.drop (.drop (.drop (.drop (.drop (.drop (.drop (.drop (.drop (.drop (.drop (.drop (.drop (.drop (.drop (.drop (.drop (.drop (.drop (.drop (.drop (.drop (.drop (.drop (.drop (.drop (.drop (.drop (.drop (.drop (.drop (.drop (.drop (.drop (.drop (.drop (.drop (.drop (.drop (.drop (.drop (.drop (.drop (.drop (.drop (.drop (.drop (.drop (.drop (.drop (.drop (.drop (.drop (.drop (.drop (.drop (.drop (.drop (.drop (.drop (.drop (.drop (.drop .nil))))))))))))))))))))))))))))))))))))))))))))))))))))))))))))))))))))))))))))))))))))))))))))))))))))))))))))))))))))))))))))))))))))))))))))))))))))))))) (ih _ (by omega) (j + 1) _ rfl hT)
      · dsimp only [List.set] at he; subst he
        have hbt : b = false := hb2
        subst hbt
        rw [Bool.false_or] at hT
        first | (refine at_op (some 91) rfl rfl rfl rfl (op_loadRA rfl fagg_api_Arc) (by dsimp only [putD, List.set]) ?_) | (refine at_op (some 91) rfl rfl rfl rfl (op_loadPA rfl fagg_api_Arc rfl (by first | decide | simp) rfl) (by dsimp only [putD, List.set]) ?_)
        first | (refine at_op (some 92) rfl rfl rfl rfl (op_loadRA rfl fagg_api_Arc) (by dsimp only [putD, List.set]) ?_) | (refine at_op (some 92) rfl rfl rfl rfl (op_loadPA rfl fagg_api_Arc rfl (by first | decide | simp) rfl) (by dsimp only [putD, List.set]) ?_)
        refine at_op (some 93) rfl rfl rfl rfl (op_eqArc rfl arc_two arc_st arc_held arc_guard x y) (by dsimp only [putD, List.set]) ?_
        refine at_pk false 90 93 94 rfl rfl rfl rfl rfl rfl rfl (by dsimp only [List.set]) ?_
        refine at_mv 94 18 rfl rfl rfl (.inr rfl) rfl (by dsimp only [List.set]) ?_
        refine at_end rfl ?_
        refine run_blk ?_
        refine at_region rfl ?_
        refine at_op (some 95) rfl rfl rfl rfl (op_binI rfl rfl) (by dsimp only [putD, List.set]) ?_
        rw [wrap_succ (by omega)]
        refine at_mv 95 85 rfl rfl rfl (.inl rfl) rfl (by dsimp only [List.set]) ?_
        refine at_end rfl ?_
        exact run_wk (.drop (.drop (.drop (.drop (.drop (.drop (.drop (.keep (.keep (.keep (.keep (.drop (.drop (.drop (.drop (.keep (.drop (.keep (.keep (.drop (.drop (.drop (.drop (.drop (.drop (.drop (.drop (.drop (.drop (.drop (.drop (.drop (.drop (.drop (.drop (.drop (.drop (.drop (.drop (.drop (.drop (.drop (.drop (.drop (.drop (.drop (.drop (.drop (.drop (.drop (.drop (.drop (.drop (.drop (.drop (.drop (.drop (.drop (.drop (.drop (.drop (.drop (.drop (.drop (.drop (.drop (.drop (.drop (.drop (.drop (.drop (.drop (.drop (.keep (.keep (.keep (.drop (.drop (.drop (.drop (.drop (.drop (.drop (.keep (.keep (.keep (.drop (.drop (.drop (.drop (.drop (.drop (.drop (.drop (.drop (.drop (.drop (.drop (.drop (.drop (.drop (.drop (.drop (.drop (.drop (.drop (.drop (.drop (.drop (.drop (.drop (.drop (.drop (.drop (.drop (.drop (.drop (.drop (.drop (.drop (.drop (.drop (.drop (.drop (.drop (.drop (.drop (.drop (.drop (.drop (.drop (.drop (.drop (.drop (.drop (.drop (.drop (.drop (.drop (.drop (.drop (.drop (.drop (.drop (.drop (.drop (.drop (.drop (.drop (.drop (.drop (.drop (.drop .nil))))))))))))))))))))))))))))))))))))))))))))))))))))))))))))))))))))))))))))))))))))))))))))))))))))))))))))))))))))))))))))))))))))))))))))))))))))))))) (ih _ (by omega) (j + 1) _ rfl hT)
    · skip
      have hge : row.length ≤ j := by simpa using hc1
      rw [any_end hge] at hT
      subst hT
      refine at_exit rfl rfl ?_
      exact run_wk (.drop (.drop (.drop (.drop (.drop (.drop (.drop (.keep (.keep (.keep (.keep (.drop (.drop (.drop (.drop (.keep (.drop (.keep (.keep (.drop (.drop (.drop (.drop (.drop (.drop (.drop (.drop (.drop (.drop (.drop (.drop (.drop (.drop (.drop (.drop (.drop (.drop (.drop (.drop (.drop (.drop (.drop (.drop (.drop (.drop (.drop (.drop (.drop (.drop (.drop (.drop (.drop (.drop (.drop (.drop (.drop (.drop (.drop (.drop (.drop (.drop (.drop (.drop (.drop (.drop (.drop (.drop (.drop (.drop (.drop (.drop (.drop (.drop (.keep (.keep (.keep (.drop (.drop (.drop (.drop (.drop (.drop (.drop (.drop (.drop (.drop (.drop (.drop (.drop (.drop (.drop (.drop (.drop (.drop (.drop (.drop (.drop (.drop (.drop (.drop (.drop (.drop (.drop (.drop (.drop (.drop (.drop (.drop (.drop (.drop (.drop (.drop (.drop (.drop (.drop (.drop (.drop (.drop (.drop (.drop (.drop (.drop (.drop (.drop (.drop (.drop (.drop (.drop (.drop (.drop (.drop (.drop (.drop (.drop (.drop (.drop (.drop (.drop (.drop (.drop (.drop (.drop (.drop (.drop (.drop (.drop (.drop (.drop (.drop (.drop (.drop (.drop (.drop .nil))))))))))))))))))))))))))))))))))))))))))))))))))))))))))))))))))))))))))))))))))))))))))))))))))))))))))))))))))))))))))))))))))))))))))))))))))))))))) hk

set_option maxRecDepth 20000 in
theorem ways_l2 (R : List D → St → Prop) (K : List KI) (n : Nat) (G : List (List Arc)) (hG : GOK n G) (fr to : Nat) (w : List Arc) (hl : w.length ≤ 100) (hk : Run PP R K (.undef :: .undef :: .undef :: .undef :: .undef :: .undef :: .undef :: (.v (.ref (vG n G))) :: (di ↑fr) :: (di ↑to) :: (.v (vArcs w)) :: .undef :: .undef :: .undef :: .undef :: (di ↑to) :: .undef :: .undef :: .undef :: .undef :: .undef :: .undef :: .undef :: .undef :: .undef :: .undef :: .undef :: .undef :: .undef :: .undef :: .undef :: .undef :: .undef :: .undef :: .undef :: .undef :: .undef :: .undef :: .undef :: .undef :: .undef :: .undef :: .undef :: .undef :: .undef :: .undef :: .undef :: .undef :: .undef :: .undef :: .undef :: .undef :: .undef :: .undef :: .undef :: .undef :: .undef :: .undef :: .undef :: .undef :: .undef :: .undef :: .undef :: .undef :: .undef :: .undef :: .undef :: .undef :: .undef :: .undef :: .undef :: .undef :: .undef :: .undef :: .undef :: .undef :: .undef :: .undef :: .undef :: .undef :: .undef :: .undef :: .undef :: .undef :: .undef :: .undef :: .undef :: .undef :: .undef :: .undef :: .undef :: .undef :: .undef :: .undef :: .undef :: .undef :: .undef :: .undef :: .undef :: .undef :: .undef :: .undef :: .undef :: .undef :: .undef :: .undef :: .undef :: .undef :: .undef :: .undef :: .undef :: .undef :: .undef :: .undef :: .undef :: .undef :: .undef :: .undef :: .undef :: .undef :: .undef :: .undef :: .undef :: .undef :: .undef :: .undef :: .undef :: .undef :: .undef :: .undef :: .undef :: .undef :: .undef :: .undef :: .undef :: .undef :: .undef :: .undef :: .undef :: .undef :: .undef :: .undef :: .undef :: .undef :: .undef :: .undef :: .undef :: .undef :: .undef :: .undef :: .undef :: .undef :: .undef :: []) σ1) (m : Nat) : ∀ (i at_ : Nat), w.length - i = m → at_ < n → Walk G at_ (w.drop i) to → Run PP R (.lp (sub cWays [1, 1, 1, 1, 1, 1, 1, 1, 1, 1, 0, 1, 0, 0]) :: .blk 2 :: K) (.undef :: .undef :: .undef :: .undef :: .undef :: .undef :: .undef :: (.v (.ref (vG n G))) :: (di ↑fr) :: (di ↑to) :: (.v (vArcs w)) :: .undef :: .undef :: .undef :: .undef :: (di ↑at_) :: .undef :: .undef :: .undef :: .undef :: .undef :: .undef :: .undef :: .undef :: .undef :: .undef :: .undef :: .undef :: .undef :: .undef :: .undef :: .undef :: .undef :: .undef :: .undef :: .undef :: .undef :: .undef :: .undef :: .undef :: .undef :: .undef :: .undef :: .undef :: .undef :: .undef :: .undef :: .undef :: .undef :: .undef :: .undef :: .undef :: .undef :: .undef :: .undef :: .undef :: .undef :: .undef :: .undef :: .undef :: .undef :: .undef :: .undef :: .undef :: .undef :: .undef :: .undef :: .undef :: .undef :: .undef :: .undef :: .undef :: .undef :: (.v (vArcs w)) :: (di ↑w.length) :: (di ↑i) :: .undef :: .undef :: .undef :: .undef :: .undef :: .undef :: .undef :: .undef :: .undef :: .undef :: .undef :: .undef :: .undef :: .undef :: .undef :: .undef :: .undef :: .undef :: .undef :: .undef :: .undef :: .undef :: .undef :: .undef :: .undef :: .undef :: .undef :: .undef :: .undef :: .undef :: .undef :: .undef :: .undef :: .undef :: .undef :: .undef :: .undef :: .undef :: .undef :: .undef :: .undef :: .undef :: .undef :: .undef :: .undef :: .undef :: .undef :: .undef :: .undef :: .undef :: .undef :: .undef :: .undef :: .undef :: .undef :: .undef :: .undef :: .undef :: .undef :: .undef :: .undef :: .undef :: .undef :: .undef :: .undef :: .undef :: .undef :: .undef :: .undef :: .undef :: .undef :: .undef :: .undef :: .undef :: .undef :: .undef :: .undef :: []) σ1 := by
  induction m using Nat.strongRecOn with
  | _ m ih =>
    intro i at_ hm hat hw
    have hgl := hG.len
    refine run_lp ?_
    refine at_seq [1, 1, 1, 1, 1, 1, 1, 1, 1, 1, 0, 1, 0, 0, 0] [1, 1, 1, 1, 1, 1, 1, 1, 1, 1, 0, 1, 0, 0, 1] rfl ?_
    refine at_region rfl ?_
    refine at_op (some 76) rfl rfl rfl rfl (op_binI rfl rfl) (by dsimp only [putD, List.set]) ?_
    refine at_end rfl ?_
    refine at_seq [1, 1, 1, 1, 1, 1, 1, 1, 1, 1, 0, 1, 0, 0, 1, 0] [1, 1, 1, 1, 1, 1, 1, 1, 1, 1, 0, 1, 0, 0, 1, 1] rfl ?_
    refine at_cond [1, 1, 1, 1, 1, 1, 1, 1, 1, 1, 0, 1, 0, 0, 1, 0, 0] [1, 1, 1, 1, 1, 1, 1, 1, 1, 1, 0, 1, 0, 0, 1, 0, 1] rfl rfl (fun hc1 => ?_) (fun hc1 => ?_)
    · skip
      have hlt : i < w.length := by simpa using hc1
      obtain ⟨x, hx⟩ := get_ex hlt
      have hx2 := idx_some (f := vArc) hx
      rw [List.drop_eq_getElem_cons hlt, (List.getElem?_eq_some_iff.1 hx).2] at hw
      obtain ⟨hxm, hw2⟩ : x ∈ G.getD at_ [] ∧ Walk G x.2.toNat (w.drop (i + 1)) to := by cases hw with | cons h p => exact ⟨h, p⟩
      have hxt := arc_lt hG hxm
      obtain ⟨row, hr⟩ := get_ex (a := G) (i := at_) (by omega)
      have hr2 := idx_some (f := vArcs) hr
      obtain ⟨hrl, hrow⟩ := hG.row row (List.mem_of_getElem? hr)
      have hxr : x ∈ row := by rw [stepM_get hr] at hxm; exact hxm
      refine at_skip rfl ?_
      refine at_seq [1, 1, 1, 1, 1, 1, 1, 1, 1, 1, 0, 1, 0, 0, 1, 1, 0] [1, 1, 1, 1, 1, 1, 1, 1, 1, 1, 0, 1, 0, 0, 1, 1, 1] rfl ?_
      refine at_block [1, 1, 1, 1, 1, 1, 1, 1, 1, 1, 0, 1, 0, 0, 1, 1, 0, 0] 3 rfl ?_
      refine at_seq [1, 1, 1, 1, 1, 1, 1, 1, 1, 1, 0, 1, 0, 0, 1, 1, 0, 0, 0] [1, 1, 1, 1, 1, 1, 1, 1, 1, 1, 0, 1, 0, 0, 1, 1, 0, 0, 1] rfl ?_
      refine at_region rfl ?_
      first | (refine at_op (some 77) rfl rfl rfl rfl (op_idxL rfl fsl_Sapi_Arc (by first | decide | omega) (by first | assumption | exact idx_some (by assumption) | rfl) (by first | rfl | (simp [V.size]; done))) (by dsimp only [putD, List.set]) ?_) | (refine at_op (some 77) rfl rfl rfl rfl (opOK_un (op_idxL rfl fsl_Sapi_Arc (by first | decide | omega) (by first | assumption | exact idx_some (by assumption) | rfl) (by first | rfl | (simp [V.size]; done)))) (by dsimp only [putD, List.set]) ?_) | (refine at_op (some 77) rfl rfl rfl rfl (op_idxA rfl fsl_Sapi_Arc (by first | decide | omega) (by first | decide | omega)) (by dsimp only [putD, List.set]) ?_)
      first | (refine at_op (some 78) rfl rfl rfl rfl (op_loadRA rfl fagg_api_Arc) (by dsimp only [putD, List.set]) ?_) | (refine at_op (some 78) rfl rfl rfl rfl (op_loadPA rfl fagg_api_Arc rfl (by first | decide | simp) rfl) (by dsimp only [putD, List.set]) ?_)
      refine at_new 78 17 rfl rfl rfl rfl fzero_api_Arc rfl rfl rfl rfl (by decide) rfl rfl fagg_api_Arc (by first | rfl | (simp [V.size]; done)) rfl (by simp only [List.length_cons]; omega) (by dsimp only [List.set]) ?_
      refine at_end rfl ?_
      refine at_seq [1, 1, 1, 1, 1, 1, 1, 1, 1, 1, 0, 1, 0, 0, 1, 1, 0, 0, 1, 0] [1, 1, 1, 1, 1, 1, 1, 1, 1, 1, 0, 1, 0, 0, 1, 1, 0, 0, 1, 1] rfl ?_
      refine at_region rfl ?_
      refine at_mc 18 rfl rfl rfl (.inr rfl) (by dsimp only [constD]) (by dsimp only [List.set]) ?_
      refine at_end rfl ?_
      refine at_seq [1, 1, 1, 1, 1, 1, 1, 1, 1, 1, 0, 1, 0, 0, 1, 1, 0, 0, 1, 1, 0] [1, 1, 1, 1, 1, 1, 1, 1, 1, 1, 0, 1, 0, 0, 1, 1, 0, 0, 1, 1, 1] rfl ?_
      refine at_seq [1, 1, 1, 1, 1, 1, 1, 1, 1, 1, 0, 1, 0, 0, 1, 1, 0, 0, 1, 1, 0, 0] [1, 1, 1, 1, 1, 1, 1, 1, 1, 1, 0, 1, 0, 0, 1, 1, 0, 0, 1, 1, 0, 1] rfl ?_
      refine at_region rfl ?_
      first | (refine at_op (some 79) rfl rfl rfl rfl (op_fieldP rfl ffld1_api_Graph (by decide)) (by dsimp only [putD, List.set]) ?_) | (refine at_op (some 79) rfl rfl rfl rfl (op_fieldR rfl ffld1_api_Graph (by decide) (by decide) rfl) (by dsimp only [putD, List.set]) ?_)
      first | (refine at_op (some 80) rfl rfl rfl rfl (op_loadR1 rfl fone__5b5d5b5d_api_Arc rfl) (by dsimp only [putD, List.set]) ?_) | (refine at_op (some 80) rfl rfl rfl rfl (op_loadP1 rfl fone__5b5d5b5d_api_Arc rfl rfl) (by dsimp only [putD, List.set]) ?_)
      refine at_mv 15 81 rfl rfl rfl (.inl rfl) rfl (by dsimp only [List.set]) ?_
      first | (refine at_op (some 82) rfl rfl rfl rfl (op_idxL rfl fsl__5b5d5b5d_api_Arc (by first | decide | omega) (by first | assumption | exact idx_some (by assumption) | rfl) (by first | rfl | (simp [V.size]; done))) (by dsimp only [putD, List.set]) ?_) | (refine at_op (some 82) rfl rfl rfl rfl (opOK_un (op_idxL rfl fsl__5b5d5b5d_api_Arc (by first | decide | omega) (by first | assumption | exact idx_some (by assumption) | rfl) (by first | rfl | (simp [V.size]; done)))) (by dsimp only [putD, List.set]) ?_) | (refine at_op (some 82) rfl rfl rfl rfl (op_idxA rfl fsl__5b5d5b5d_api_Arc (by first | decide | omega) (by first | decide | omega)) (by dsimp only [putD, List.set]) ?_)
      first | (refine at_op (some 83) rfl rfl rfl rfl (op_loadR1 rfl fone_Sapi_Arc rfl) (by dsimp only [putD, List.set]) ?_) | (refine at_op (some 83) rfl rfl rfl rfl (op_loadP1 rfl fone_Sapi_Arc rfl rfl) (by dsimp only [putD, List.set]) ?_)
      first | (refine at_op (some 84) rfl rfl rfl rfl (op_lenL rfl fu_Sapi_Arc) (by dsimp only [putD, List.set]) ?_) | (refine at_op (some 84) rfl rfl rfl rfl (opOK_un (op_lenL rfl fu_Sapi_Arc)) (by dsimp only [putD, List.set]) ?_) | (refine at_op (some 84) rfl rfl rfl rfl (op_lenA rfl fu_Sapi_Arc) (by dsimp only [putD, List.set]) ?_)
      refine at_mc 85 rfl rfl rfl (.inl rfl) (by dsimp only [constD]) (by dsimp only [List.set]) ?_
      refine at_end rfl ?_
      refine at_block [1, 1, 1, 1, 1, 1, 1, 1, 1, 1, 0, 1, 0, 0, 1, 1, 0, 0, 1, 1, 0, 1, 0] 4 rfl ?_
      refine at_loop [1, 1, 1, 1, 1, 1, 1, 1, 1, 1, 0, 1, 0, 0, 1, 1, 0, 0, 1, 1, 0, 1, 0, 0] rfl ?_
      try simp only [List.length_map, List.length_nil, Int.toNat_natCast]
      refine run_wk (.drop (.drop (.drop (.drop (.drop (.drop (.drop (.keep (.keep (.keep (.keep (.drop (.drop (.drop (.drop (.keep (.drop (.keep (.keep (.drop (.drop (.drop (.drop (.drop (.drop (.drop (.drop (.drop (.drop (.drop (.drop (.drop (.drop (.drop (.drop (.drop (.drop (.drop (.drop (.drop (.drop (.drop (.drop (.drop (.drop (.drop (.drop (.drop (.drop (.drop (.drop (.drop (.drop (.drop (.drop (.drop (.drop (.drop (.drop (.drop (.drop (.drop (.drop (.drop (.drop (.drop (.drop (.drop (.drop (.drop (.drop (.drop (.drop (.keep (.keep (.keep (.drop (.drop (.drop (.drop (.drop (.drop (.drop (.keep (.keep (.keep (.drop (.drop (.drop (.drop (.drop (.drop (.drop (.drop (.drop (.drop (.drop (.drop (.drop (.drop (.drop (.drop (.drop (.drop (.drop (.drop (.drop (.drop (.drop (.drop (.drop (.drop (.drop (.drop (.drop (.drop (.drop (.drop (.drop (.drop (.drop (.drop (.drop (.drop (.drop (.drop (.drop (.drop (.drop (.drop (.drop (.drop (.drop (.drop (.drop (.drop (.drop (.drop (.drop (.drop (.drop (.drop (.drop (.drop (.drop (.drop (.drop (.drop (.drop (.drop (.drop (.drop (.drop .nil))))))))))))))))))))))))))))))))))))))))))))))))))))))))))))))))))))))))))))))))))))))))))))))))))))))))))))))))))))))))))))))))))))))))))))))))))))))))) (ways_l3 _ _ n G fr to w at_ i x row hrl true ?_ _ 0 false rfl (by rw [List.drop_zero, Bool.false_or]; symm; rw [List.any_eq_true]; exact ⟨x, hxr, by simp⟩))
      refine at_seq [1, 1, 1, 1, 1, 1, 1, 1, 1, 1, 0, 1, 0, 0, 1, 1, 0, 0, 1, 1, 1, 0] [1, 1, 1, 1, 1, 1, 1, 1, 1, 1, 0, 1, 0, 0, 1, 1, 0, 0, 1, 1, 1, 1] rfl ?_
      refine at_seq [1, 1, 1, 1, 1, 1, 1, 1, 1, 1, 0, 1, 0, 0, 1, 1, 0, 0, 1, 1, 1, 0, 0] [1, 1, 1, 1, 1, 1, 1, 1, 1, 1, 0, 1, 0, 0, 1, 1, 0, 0, 1, 1, 1, 0, 1] rfl ?_
      refine at_region rfl ?_
      refine at_mv 18 96 rfl rfl rfl (.inl rfl) rfl (by dsimp only [List.set]) ?_
      refine at_op (some 97) rfl rfl rfl rfl (op_un rfl rfl) (by dsimp only [putD, List.set]) ?_
      refine at_end rfl ?_
      refine at_false [1, 1, 1, 1, 1, 1, 1, 1, 1, 1, 0, 1, 0, 0, 1, 1, 0, 0, 1, 1, 1, 0, 1, 0] [1, 1, 1, 1, 1, 1, 1, 1, 1, 1, 0, 1, 0, 0, 1, 1, 0, 0, 1, 1, 1, 0, 1, 1] rfl rfl ?_
      refine at_skip rfl ?_
      refine at_region rfl ?_
      first | (refine at_op (some 98) rfl rfl rfl rfl (op_fieldP rfl ffld1_api_Arc (by decide)) (by dsimp only [putD, List.set]) ?_) | (refine at_op (some 98) rfl rfl rfl rfl (op_fieldR rfl ffld1_api_Arc (by decide) (by decide) rfl) (by dsimp only [putD, List.set]) ?_)
      first | (refine at_op (some 99) rfl rfl rfl rfl (op_loadR1 rfl fone_int rfl) (by dsimp only [putD, List.set]) ?_) | (refine at_op (some 99) rfl rfl rfl rfl (op_loadP1 rfl fone_int rfl rfl) (by dsimp only [putD, List.set]) ?_)
      rw [show x.2 = ((x.2.toNat : Nat) : Int) by omega]
      refine at_mv 99 15 rfl rfl rfl (.inr rfl) rfl (by dsimp only [List.set]) ?_
      refine at_end rfl ?_
      refine run_blk ?_
      refine at_region rfl ?_
      refine at_op (some 100) rfl rfl rfl rfl (op_binI rfl rfl) (by dsimp only [putD, List.set]) ?_
      rw [wrap_succ (by omega)]
      refine at_mv 100 75 rfl rfl rfl (.inl rfl) rfl (by dsimp only [List.set]) ?_
      refine at_end rfl ?_
      exact run_wk (.drop (.drop (.drop (.drop (.drop (.drop (.drop (.keep (.keep (.keep (.keep (.drop (.drop (.drop (.drop (.keep (.drop (.drop (.drop (.drop (.drop (.drop (.drop (.drop (.drop (.drop (.drop (.drop (.drop (.drop (.drop (.drop (.drop (.drop (.drop (.drop (.drop (.drop (.drop (.drop (.drop (.drop (.drop (.drop (.drop (.drop (.drop (.drop (.drop (.drop (.drop (.drop (.drop (.drop (.drop (.drop (.drop (.drop (.drop (.drop (.drop (.drop (.drop (.drop (.drop (.drop (.drop (.drop (.drop (.drop (.drop (.drop (.drop (.keep (.keep (.keep (.drop (.drop (.drop (.drop (.drop (.drop (.drop (.drop (.drop (.drop (.drop (.drop (.drop (.drop (.drop (.drop (.drop (.drop (.drop (.drop (.drop (.drop (.drop (.drop (.drop (.drop (.drop (.drop (.drop (.drop (.drop (.drop (.drop (.drop (.drop (.drop (.drop (.drop (.drop (.drop (.drop (.drop (.drop (.drop (.drop (.drop (.drop (.drop (.drop (.drop (.drop (.drop (.drop (.drop (.drop (.drop (.drop (.drop (.drop (.drop (.drop (.drop (.drop (.drop (.drop (.drop (.drop (.drop (.drop (.drop (.drop (.drop (.drop (.drop (.drop (.drop (.drop .nil))))))))))))))))))))))))))))))))))))))))))))))))))))))))))))))))))))))))))))))))))))))))))))))))))))))))))))))))))))))))))))))))))))))))))))))))))))))))) (ih _ (by omega) (i + 1) x.2.toNat rfl hxt.1 hw2)
    · skip
      have hge : w.length ≤ i := by simpa using hc1
      rw [List.drop_of_length_le hge] at hw
      obtain rfl : at_ = to := by cases hw; rfl
      refine at_exit rfl rfl ?_
      exact run_wk (.drop (.drop (.drop (.drop (.drop (.drop (.drop (.keep (.keep (.keep (.keep (.drop (.drop (.drop (.drop (.keep (.drop (.drop (.drop (.drop (.drop (.drop (.drop (.drop (.drop (.drop (.drop (.drop (.drop (.drop (.drop (.drop (.drop (.drop (.drop (.drop (.drop (.drop (.drop (.drop (.drop (.drop (.drop (.drop (.drop (.drop (.drop (.drop (.drop (.drop (.drop (.drop (.drop (.drop (.drop (.drop (.drop (.drop (.drop (.drop (.drop (.drop (.drop (.drop (.drop (.drop (.drop (.drop (.drop (.drop (.drop (.drop (.drop (.drop (.drop (.drop (.drop (.drop (.drop (.drop (.drop (.drop (.drop (.drop (.drop (.drop (.drop (.drop (.drop (.drop (.drop (.drop (.drop (.drop (.drop (.drop (.drop (.drop (.drop (.drop (.drop (.drop (.drop (.drop (.drop (.drop (.drop (.drop (.drop (.drop (.drop (.drop (.drop (.drop (.drop (.drop (.drop (.drop (.drop (.drop (.drop (.drop (.drop (.drop (.drop (.drop (.drop (.drop (.drop (.drop (.drop (.drop (.drop (.drop (.drop (.drop (.drop (.drop (.drop (.drop (.drop (.drop (.drop (.drop (.drop (.drop (.drop (.drop (.drop (.drop (.drop (.drop (.drop .nil))))))))))))))))))))))))))))))))))))))))))))))))))))))))))))))))))))))))))))))))))))))))))))))))))))))))))))))))))))))))))))))))))))))))))))))))))))))))) hk

set_option maxRecDepth 20000 in
theorem ways_l4 (K : List KI) (R : List D → St → Prop) (n : Nat) (G : List (List Arc)) (hG : GOK n G) (h6 : n ≤ 6) (fr to : Nat) (hto : to < n) (w : List Arc) (hwl : w.length ≤ 100) (row : List Arc) (hrl : row.length ≤ 100) (hrow : ∀ a ∈ row, a.2.toNat < n ∧ 0 ≤ a.2 ∧ (Path G a.2.toNat to → w.length ≤ (wayL G n a.2.toNat to).length + 1 ∧ (wayL G n a.2.toNat to).length ≤ 100)) (hk : Run PP R K (.undef :: .undef :: .undef :: .undef :: .undef :: .undef :: .undef :: (.v (.ref (vG n G))) :: (di ↑fr) :: (di ↑to) :: (.v (vArcs w)) :: .undef :: .undef :: .undef :: .undef :: .undef :: .undef :: .undef :: .undef :: .undef :: .undef :: .undef :: .undef :: .undef :: .undef :: .undef :: .undef :: .undef :: .undef :: .undef :: .undef :: .undef :: .undef :: .undef :: .undef :: .undef :: .undef :: .undef :: .undef :: .undef :: .undef :: .undef :: .undef :: .undef :: .undef :: .undef :: .undef :: .undef :: .undef :: .undef :: .undef :: .undef :: .undef :: .undef :: .undef :: .undef :: .undef :: .undef :: .undef :: .undef :: .undef :: .undef :: .undef :: .undef :: .undef :: .undef :: .undef :: .undef :: .undef :: .undef :: .undef :: .undef :: .undef :: .undef :: .undef :: .undef :: .undef :: .undef :: .undef :: .undef :: .undef :: .undef :: .undef :: .undef :: .undef :: .undef :: .undef :: .undef :: .undef :: .undef :: .undef :: .undef :: .undef :: .undef :: .undef :: .undef :: .undef :: .undef :: .undef :: .undef :: .undef :: .undef :: .undef :: .undef :: .undef :: .undef :: .undef :: .undef :: .undef :: .undef :: .undef :: .undef :: .undef :: .undef :: .undef :: .undef :: .undef :: .undef :: .undef :: .undef :: .undef :: .undef :: .undef :: .undef :: .undef :: .undef :: .undef :: .undef :: .undef :: .undef :: .undef :: .undef :: .undef :: .undef :: .undef :: .undef :: .undef :: .undef :: .undef :: .undef :: .undef :: .undef :: .undef :: .undef :: .undef :: .undef :: .undef :: .undef :: .undef :: .undef :: .undef :: .undef :: .undef :: []) σ1) (m : Nat) : ∀ (j : Nat), row.length - j = m → Run PP R (.lp (sub cWays [1, 1, 1, 1, 1, 1, 1, 1, 1, 1, 1, 1, 0, 1, 0, 0]) :: .blk 6 :: K) (.undef :: .undef :: .undef :: .undef :: .undef :: .undef :: .undef :: (.v (.ref (vG n G))) :: (di ↑fr) :: (di ↑to) :: (.v (vArcs w)) :: .undef :: .undef :: .undef :: .undef :: .undef :: .undef :: .undef :: .undef :: .undef :: .undef :: .undef :: .undef :: .undef :: .undef :: .undef :: .undef :: .undef :: .undef :: .undef :: .undef :: .undef :: .undef :: .undef :: .undef :: .undef :: .undef :: .undef :: .undef :: .undef :: .undef :: .undef :: .undef :: .undef :: .undef :: .undef :: .undef :: .undef :: .undef :: .undef :: .undef :: .undef :: .undef :: .undef :: .undef :: .undef :: .undef :: .undef :: .undef :: .undef :: .undef :: .undef :: .undef :: .undef :: .undef :: .undef :: .undef :: .undef :: .undef :: .undef :: .undef :: .undef :: .undef :: .undef :: .undef :: .undef :: .undef :: .undef :: .undef :: .undef :: .undef :: .undef :: .undef :: .undef :: .undef :: .undef :: .undef :: .undef :: .undef :: .undef :: .undef :: .undef :: .undef :: .undef :: .undef :: .undef :: .undef :: .undef :: .undef :: .undef :: .undef :: .undef :: .undef :: .undef :: .undef :: .undef :: .undef :: .undef :: .undef :: .undef :: .undef :: .undef :: .undef :: .undef :: .undef :: .undef :: (.v (vArcs row)) :: (di ↑row.length) :: (di ↑j) :: .undef :: .undef :: .undef :: .undef :: .undef :: .undef :: .undef :: .undef :: .undef :: .undef :: .undef :: .undef :: .undef :: .undef :: .undef :: .undef :: .undef :: .undef :: .undef :: .undef :: .undef :: .undef :: .undef :: .undef :: .undef :: .undef :: .undef :: .undef :: .undef :: .undef :: .undef :: .undef :: .undef :: .undef :: []) σ1 := by
  induction m using Nat.strongRecOn with
  | _ m ih =>
    intro j hm
    refine run_lp ?_
    refine at_seq [1, 1, 1, 1, 1, 1, 1, 1, 1, 1, 1, 1, 0, 1, 0, 0, 0] [1, 1, 1, 1, 1, 1, 1, 1, 1, 1, 1, 1, 0, 1, 0, 0, 1] rfl ?_
    refine at_region rfl ?_
    refine at_op (some 119) rfl rfl rfl rfl (op_binI rfl rfl) (by dsimp only [putD, List.set]) ?_
    refine at_end rfl ?_
    refine at_seq [1, 1, 1, 1, 1, 1, 1, 1, 1, 1, 1, 1, 0, 1, 0, 0, 1, 0] [1, 1, 1, 1, 1, 1, 1, 1, 1, 1, 1, 1, 0, 1, 0, 0, 1, 1] rfl ?_
    refine at_cond [1, 1, 1, 1, 1, 1, 1, 1, 1, 1, 1, 1, 0, 1, 0, 0, 1, 0, 0] [1, 1, 1, 1, 1, 1, 1, 1, 1, 1, 1, 1, 0, 1, 0, 0, 1, 0, 1] rfl rfl (fun hc1 => ?_) (fun hc1 => ?_)
    · skip
      have hlt : j < row.length := by simpa using hc1
      obtain ⟨y, hy⟩ := get_ex hlt
      have hy2 := idx_some (f := vArc) hy
      obtain ⟨hy3, hy4, hy5⟩ := hrow y (List.mem_of_getElem? hy)
      obtain ⟨v, also, hv1, hv2, hv3, hv4⟩ := way_ex hG h6 hy3 hto
      refine at_skip rfl ?_
      refine at_seq [1, 1, 1, 1, 1, 1, 1, 1, 1, 1, 1, 1, 0, 1, 0, 0, 1, 1, 0] [1, 1, 1, 1, 1, 1, 1, 1, 1, 1, 1, 1, 0, 1, 0, 0, 1, 1, 1] rfl ?_
      refine at_block [1, 1, 1, 1, 1, 1, 1, 1, 1, 1, 1, 1, 0, 1, 0, 0, 1, 1, 0, 0] 7 rfl ?_
      refine at_seq [1, 1, 1, 1, 1, 1, 1, 1, 1, 1, 1, 1, 0, 1, 0, 0, 1, 1, 0, 0, 0] [1, 1, 1, 1, 1, 1, 1, 1, 1, 1, 1, 1, 0, 1, 0, 0, 1, 1, 0, 0, 1] rfl ?_
      refine at_region rfl ?_
      first | (refine at_op (some 120) rfl rfl rfl rfl (op_idxL rfl fsl_Sapi_Arc (by first | decide | omega) (by first | assumption | exact idx_some (by assumption) | rfl) (by first | rfl | (simp [V.size]; done))) (by dsimp only [putD, List.set]) ?_) | (refine at_op (some 120) rfl rfl rfl rfl (opOK_un (op_idxL rfl fsl_Sapi_Arc (by first | decide | omega) (by first | assumption | exact idx_some (by assumption) | rfl) (by first | rfl | (simp [V.size]; done)))) (by dsimp only [putD, List.set]) ?_) | (refine at_op (some 120) rfl rfl rfl rfl (op_idxA rfl fsl_Sapi_Arc (by first | decide | omega) (by first | decide | omega)) (by dsimp only [putD, List.set]) ?_)
      first | (refine at_op (some 121) rfl rfl rfl rfl (op_loadRA rfl fagg_api_Arc) (by dsimp only [putD, List.set]) ?_) | (refine at_op (some 121) rfl rfl rfl rfl (op_loadPA rfl fagg_api_Arc rfl (by first | decide | simp) rfl) (by dsimp only [putD, List.set]) ?_)
      refine at_new 121 22 rfl rfl rfl rfl fzero_api_Arc rfl rfl rfl rfl (by decide) rfl rfl fagg_api_Arc (by first | rfl | (simp [V.size]; done)) rfl (by simp only [List.length_cons]; omega) (by dsimp only [List.set]) ?_
      refine at_end rfl ?_
      refine at_seq [1, 1, 1, 1, 1, 1, 1, 1, 1, 1, 1, 1, 0, 1, 0, 0, 1, 1, 0, 0, 1, 0] [1, 1, 1, 1, 1, 1, 1, 1, 1, 1, 1, 1, 0, 1, 0, 0, 1, 1, 0, 0, 1, 1] rfl ?_
      refine at_region rfl ?_
      first | (refine at_op (some 123) rfl rfl rfl rfl (op_loadRA rfl fagg_api_Graph) (by dsimp only [putD, List.set]) ?_) | (refine at_op (some 123) rfl rfl rfl rfl (op_loadPA rfl fagg_api_Graph rfl (by first | decide | simp) rfl) (by dsimp only [putD, List.set]) ?_)
      first | (refine at_op (some 124) rfl rfl rfl rfl (op_fieldP rfl ffld1_api_Arc (by decide)) (by dsimp only [putD, List.set]) ?_) | (refine at_op (some 124) rfl rfl rfl rfl (op_fieldR rfl ffld1_api_Arc (by decide) (by decide) rfl) (by dsimp only [putD, List.set]) ?_)
      first | (refine at_op (some 125) rfl rfl rfl rfl (op_loadR1 rfl fone_int rfl) (by dsimp only [putD, List.set]) ?_) | (refine at_op (some 125) rfl rfl rfl rfl (op_loadP1 rfl fone_int rfl rfl) (by dsimp only [putD, List.set]) ?_)
      refine at_mv 9 126 rfl rfl rfl (.inl rfl) rfl (by dsimp only [List.set]) ?_
      rw [show y.2 = ((y.2.toNat : Nat) : Int) by omega]
      refine at_op (some 127) rfl rfl rfl rfl (op_call0 rfl rfl rfl rfl (hv1)) (by dsimp only [putD, List.set]) ?_
      refine at_mv 127 122 rfl rfl rfl (.inl rfl) rfl (by dsimp only [List.set]) ?_
      refine at_op (some 128) rfl rfl rfl rfl (op_extract rfl rfl) (by dsimp only [putD, List.set]) ?_
      refine at_op (some 129) rfl rfl rfl rfl (op_extract rfl rfl) (by dsimp only [putD, List.set]) ?_
      refine at_mv 128 23 rfl rfl rfl (.inr rfl) rfl (by dsimp only [List.set]) ?_
      refine at_mv 129 24 rfl rfl rfl (.inr rfl) rfl (by dsimp only [List.set]) ?_
      refine at_end rfl ?_
      refine at_seq [1, 1, 1, 1, 1, 1, 1, 1, 1, 1, 1, 1, 0, 1, 0, 0, 1, 1, 0, 0, 1, 1, 0] [1, 1, 1, 1, 1, 1, 1, 1, 1, 1, 1, 1, 0, 1, 0, 0, 1, 1, 0, 0, 1, 1, 1] rfl ?_
      refine at_region rfl ?_
      refine at_mv 24 130 rfl rfl rfl (.inl rfl) rfl (by dsimp only [List.set]) ?_
      refine at_mv 130 131 rfl rfl rfl (.inl rfl) rfl (by dsimp only [List.set]) ?_
      refine at_split 131 rfl (fun hb2 env' he => ?_) (fun hb2 env' he => ?_)
      · dsimp only [List.set] at he; subst he
        have hat : also = true := hb2
        obtain ⟨hb1, hb2⟩ := hy5 (hv2.1 hat)
        have hv5 := hv4 hat
        have hb : w.length ≤ v.length + 1 := by rw [hv5]; exact hb1
        have hvl : v.length ≤ 100 := by rw [hv5]; exact hb2
        refine at_mv 8 132 rfl rfl rfl (.inl rfl) rfl (by dsimp only [List.set]) ?_
        refine at_mv 9 133 rfl rfl rfl (.inl rfl) rfl (by dsimp only [List.set]) ?_
        refine at_op (some 134) rfl rfl rfl rfl (op_binI rfl rfl) (by dsimp only [putD, List.set]) ?_
        refine at_pk true 131 134 135 rfl rfl rfl rfl rfl rfl rfl (by dsimp only [List.set]) ?_
        refine at_mv 135 136 rfl rfl rfl (.inl rfl) rfl (by dsimp only [List.set]) ?_
        refine at_split 136 rfl (fun hb3 env' he => ?_) (fun hb3 env' he => ?_)
        · dsimp only [List.set] at he; subst he
          refine at_mv 23 137 rfl rfl rfl (.inl rfl) rfl (by dsimp only [List.set]) ?_
          first | (refine at_op (some 138) rfl rfl rfl rfl (op_lenL rfl fu_Sapi_Arc) (by dsimp only [putD, List.set]) ?_) | (refine at_op (some 138) rfl rfl rfl rfl (opOK_un (op_lenL rfl fu_Sapi_Arc)) (by dsimp only [putD, List.set]) ?_) | (refine at_op (some 138) rfl rfl rfl rfl (op_lenA rfl fu_Sapi_Arc) (by dsimp only [putD, List.set]) ?_)
          refine at_op (some 139) rfl rfl rfl rfl (op_binI rfl rfl) (by dsimp only [putD, List.set]) ?_
          simp only [List.length_map]
          rw [wrap_succ (by omega)]
          refine at_mv 10 140 rfl rfl rfl (.inl rfl) rfl (by dsimp only [List.set]) ?_
          first | (refine at_op (some 141) rfl rfl rfl rfl (op_lenL rfl fu_Sapi_Arc) (by dsimp only [putD, List.set]) ?_) | (refine at_op (some 141) rfl rfl rfl rfl (opOK_un (op_lenL rfl fu_Sapi_Arc)) (by dsimp only [putD, List.set]) ?_) | (refine at_op (some 141) rfl rfl rfl rfl (op_lenA rfl fu_Sapi_Arc) (by dsimp only [putD, List.set]) ?_)
          refine at_op (some 142) rfl rfl rfl rfl (op_binI rfl rfl) (by dsimp only [putD, List.set]) ?_
          simp only [List.length_map]
          rw [show decide (((v.length + 1 : Nat) : Int) < (w.length : Int)) = false by simp; omega]
          refine at_pk true 136 142 143 rfl rfl rfl rfl rfl rfl rfl (by dsimp only [List.set]) ?_
          refine at_end rfl ?_
          refine at_false [1, 1, 1, 1, 1, 1, 1, 1, 1, 1, 1, 1, 0, 1, 0, 0, 1, 1, 0, 0, 1, 1, 1, 0] [1, 1, 1, 1, 1, 1, 1, 1, 1, 1, 1, 1, 0, 1, 0, 0, 1, 1, 0, 0, 1, 1, 1, 1] rfl rfl ?_
          refine at_skip rfl ?_
          refine run_blk ?_
          refine at_region rfl ?_
          refine at_op (some 144) rfl rfl rfl rfl (op_binI rfl rfl) (by dsimp only [putD, List.set]) ?_
          rw [wrap_succ (by omega)]
          refine at_mv 144 118 rfl rfl rfl (.inl rfl) rfl (by dsimp only [List.set]) ?_
          refine at_end rfl ?_
          exact run_wk (.drop (.drop (.drop (.drop (.drop (.drop (.drop (.keep (.keep (.keep (.keep (.drop (.drop (.drop (.drop (.drop (.drop (.drop (.drop (.drop (.drop (.drop (.drop (.drop (.drop (.drop (.drop (.drop (.drop (.drop (.drop (.drop (.drop (.drop (.drop (.drop (.drop (.drop (.drop (.drop (.drop (.drop (.drop (.drop (.drop (.drop (.drop (.drop (.drop (.drop (.drop (.drop (.drop (.drop (.drop (.drop (.drop (.drop (.drop (.drop (.drop (.drop (.drop (.drop (.drop (.drop (.drop (.drop (.drop (.drop (.drop (.drop (.drop (.drop (.drop (.drop (.drop (.drop (.drop (.drop (.drop (.drop (.drop (.drop (.drop (.drop (.drop (.drop (.drop (.drop (.drop (.drop (.drop (.drop (.drop (.drop (.drop (.drop (.drop (.drop (.drop (.drop (.drop (.drop (.drop (.drop (.drop (.drop (.drop (.drop (.drop (.drop (.drop (.drop (.drop (.drop (.keep (.keep (.keep (.drop (.drop (.drop (.drop (.drop (.drop (.drop (.drop (.drop (.drop (.drop (.drop (.drop (.drop (.drop (.drop (.drop (.drop (.drop (.drop (.drop (.drop (.drop (.drop (.drop (.drop (.drop (.drop (.drop (.drop (.drop (.drop (.drop (.drop .nil))))))))))))))))))))))))))))))))))))))))))))))))))))))))))))))))))))))))))))))))))))))))))))))))))))))))))))))))))))))))))))))))))))))))))))))))))))))))) (ih _ (by omega) (j + 1) rfl)
        · dsimp only [List.set] at he; subst he
          refine at_opN (some 137) rfl rfl rfl (by dsimp only [putD, List.set]) ?_
          refine at_opN (some 138) rfl rfl rfl (by dsimp only [putD, List.set]) ?_
          refine at_opN (some 139) rfl rfl rfl (by dsimp only [putD, List.set]) ?_
          refine at_opN (some 140) rfl rfl rfl (by dsimp only [putD, List.set]) ?_
          refine at_opN (some 141) rfl rfl rfl (by dsimp only [putD, List.set]) ?_
          refine at_opN (some 142) rfl rfl rfl (by dsimp only [putD, List.set]) ?_
          refine at_pkc false 136 143 rfl rfl rfl rfl rfl rfl (by dsimp only [constD]) (by dsimp only [List.set]) ?_
          refine at_end rfl ?_
          refine at_false [1, 1, 1, 1, 1, 1, 1, 1, 1, 1, 1, 1, 0, 1, 0, 0, 1, 1, 0, 0, 1, 1, 1, 0] [1, 1, 1, 1, 1, 1, 1, 1, 1, 1, 1, 1, 0, 1, 0, 0, 1, 1, 0, 0, 1, 1, 1, 1] rfl rfl ?_
          refine at_skip rfl ?_
          refine run_blk ?_
          refine at_region rfl ?_
          refine at_op (some 144) rfl rfl rfl rfl (op_binI rfl rfl) (by dsimp only [putD, List.set]) ?_
          rw [wrap_succ (by omega)]
          refine at_mv 144 118 rfl rfl rfl (.inl rfl) rfl (by dsimp only [List.set]) ?_
          refine at_end rfl ?_
          exact run_wk (.drop (.drop (.drop (.drop (.drop (.drop (.drop (.keep (.keep (.keep (.keep (.drop (.drop (.drop (.drop (.drop (.drop (.drop (.drop (.drop (.drop (.drop (.drop (.drop (.drop (.drop (.drop (.drop (.drop (.drop (.drop (.drop (.drop (.drop (.drop (.drop (.drop (.drop (.drop (.drop (.drop (.drop (.drop (.drop (.drop (.drop (.drop (.drop (.drop (.drop (.drop (.drop (.drop (.drop (.drop (.drop (.drop (.drop (.drop (.drop (.drop (.drop (.drop (.drop (.drop (.drop (.drop (.drop (.drop (.drop (.drop (.drop (.drop (.drop (.drop (.drop (.drop (.drop (.drop (.drop (.drop (.drop (.drop (.drop (.drop (.drop (.drop (.drop (.drop (.drop (.drop (.drop (.drop (.drop (.drop (.drop (.drop (.drop (.drop (.drop (.drop (.drop (.drop (.drop (.drop (.drop (.drop (.drop (.drop (.drop (.drop (.drop (.drop (.drop (.drop (.drop (.keep (.keep (.keep (.drop (.drop (.drop (.drop (.drop (.drop (.drop (.drop (.drop (.drop (.drop (.drop (.drop (.drop (.drop (.drop (.drop (.drop (.drop (.drop (.drop (.drop (.drop (.drop (.drop (.drop (.drop (.drop (.drop (.drop (.drop (.drop (.drop (.drop .nil))))))))))))))))))))))))))))))))))))))))))))))))))))))))))))))))))))))))))))))))))))))))))))))))))))))))))))))))))))))))))))))))))))))))))))))))))))))))) (ih _ (by omega) (j + 1) rfl)
      · dsimp only [List.set] at he; subst he
        refine at_opN (some 132) rfl rfl rfl (by dsimp only [putD, List.set]) ?_
        refine at_opN (some 133) rfl rfl rfl (by dsimp only [putD, List.set]) ?_
        refine at_opN (some 134) rfl rfl rfl (by dsimp only [putD, List.set]) ?_
        refine at_pkc false 131 135 rfl rfl rfl rfl rfl rfl (by dsimp only [constD]) (by dsimp only [List.set]) ?_
        refine at_mv 135 136 rfl rfl rfl (.inl rfl) rfl (by dsimp only [List.set]) ?_
        refine at_opN (some 137) rfl rfl rfl (by dsimp only [putD, List.set]) ?_
        refine at_opN (some 138) rfl rfl rfl (by dsimp only [putD, List.set]) ?_
        refine at_opN (some 139) rfl rfl rfl (by dsimp only [putD, List.set]) ?_
        refine at_opN (some 140) rfl rfl rfl (by dsimp only [putD, List.set]) ?_
        refine at_opN (some 141) rfl rfl rfl (by dsimp only [putD, List.set]) ?_
        refine at_opN (some 142) rfl rfl rfl (by dsimp only [putD, List.set]) ?_
        refine at_pkc false 136 143 rfl rfl rfl rfl rfl rfl (by dsimp only [constD]) (by dsimp only [List.set]) ?_
        refine at_end rfl ?_
        refine at_false [1, 1, 1, 1, 1, 1, 1, 1, 1, 1, 1, 1, 0, 1, 0, 0, 1, 1, 0, 0, 1, 1, 1, 0] [1, 1, 1, 1, 1, 1, 1, 1, 1, 1, 1, 1, 0, 1, 0, 0, 1, 1, 0, 0, 1, 1, 1, 1] rfl rfl ?_
        refine at_skip rfl ?_
        refine run_blk ?_
        refine at_region rfl ?_
        refine at_op (some 144) rfl rfl rfl rfl (op_binI rfl rfl) (by dsimp only [putD, List.set]) ?_
        rw [wrap_succ (by omega)]
        refine at_mv 144 118 rfl rfl rfl (.inl rfl) rfl (by dsimp only [List.set]) ?_
        refine at_end rfl ?_
        exact run_wk (.drop (.drop (.drop (.drop (.drop (.drop (.drop (.keep (.keep (.keep (.keep (.drop (.drop (.drop (.drop (.drop (.drop (.drop (.drop (.drop (.drop (.drop (.drop (.drop (.drop (.drop (.drop (.drop (.drop (.drop (.drop (.drop (.drop (.drop (.drop (.drop (.drop (.drop (.drop (.drop (.drop (.drop (.drop (.drop (.drop (.drop (.drop (.drop (.drop (.drop (.drop (.drop (.drop (.drop (.drop (.drop (.drop (.drop (.drop (.drop (.drop (.drop (.drop (.drop (.drop (.drop (.drop (.drop (.drop (.drop (.drop (.drop (.drop (.drop (.drop (.drop (.drop (.drop (.drop (.drop (.drop (.drop (.drop (.drop (.drop (.drop (.drop (.drop (.drop (.drop (.drop (.drop (.drop (.drop (.drop (.drop (.drop (.drop (.drop (.drop (.drop (.drop (.drop (.drop (.drop (.drop (.drop (.drop (.drop (.drop (.drop (.drop (.drop (.drop (.drop (.drop (.keep (.keep (.keep (.drop (.drop (.drop (.drop (.drop (.drop (.drop (.drop (.drop (.drop (.drop (.drop (.drop (.drop (.drop (.drop (.drop (.drop (.drop (.drop (.drop (.drop (.drop (.drop (.drop (.drop (.drop (.drop (.drop (.drop (.drop (.drop (.drop (.drop .nil))))))))))))))))))))))))))))))))))))))))))))))))))))))))))))))))))))))))))))))))))))))))))))))))))))))))))))))))))))))))))))))))))))))))))))))))))))))))) (ih _ (by omega) (j + 1) rfl)
    · skip
      have hge : row.length ≤ j := by simpa using hc1
      refine at_exit rfl rfl ?_
      exact run_wk (.drop (.drop (.drop (.drop (.drop (.drop (.drop (.keep (.keep (.keep (.keep (.drop (.drop (.drop (.drop (.drop (.drop (.drop (.drop (.drop (.drop (.drop (.drop (.drop (.drop (.drop (.drop (.drop (.drop (.drop (.drop (.drop (.drop (.drop (.drop (.drop (.drop (.drop (.drop (.drop (.drop (.drop (.drop (.drop (.drop (.drop (.drop (.drop (.drop (.drop (.drop (.drop (.drop (.drop (.drop (.drop (.drop (.drop (.drop (.drop (.drop (.drop (.drop (.drop (.drop (.drop (.drop (.drop (.drop (.drop (.drop (.drop (.drop (.drop (.drop (.drop (.drop (.drop (.drop (.drop (.drop (.drop (.drop (.drop (.drop (.drop (.drop (.drop (.drop (.drop (.drop (.drop (.drop (.drop (.drop (.drop (.drop (.drop (.drop (.drop (.drop (.drop (.drop (.drop (.drop (.drop (.drop (.drop (.drop (.drop (.drop (.drop (.drop (.drop (.drop (.drop (.drop (.drop (.drop (.drop (.drop (.drop (.drop (.drop (.drop (.drop (.drop (.drop (.drop (.drop (.drop (.drop (.drop (.drop (.drop (.drop (.drop (.drop (.drop (.drop (.drop (.drop (.drop (.drop (.drop (.drop (.drop (.drop (.drop (.drop (.drop (.drop (.drop .nil))))))))))))))))))))))))))))))))))))))))))))))))))))))))))))))))))))))))))))))))))))))))))))))))))))))))))))))))))))))))))))))))))))))))))))))))))))))))) hk

theorem reachL_le (G : List (List Arc)) (n x : Nat) : (reachL G n x).length ≤ n := by
  have := List.length_filter_le (gb (reachM G n x)) (List.range n)
  simpa [reachL] using this
theorem reached_is {n : Nat} {G : List (List Arc)} (hG : GOK n G) {x y : Nat} (hx : x < n) (hy : y < n) {ok : Bool} (h : ok = true ↔ Path G x y) : (reachL G n x).any (fun j => j == y) = ok := by
  rw [Bool.eq_iff_iff, h, ← reachM_iff hG hx]
  simp [reachL, hy]
theorem wayL_self {n : Nat} {G : List (List Arc)} (hG : GOK n G) {x : Nat} (hx : x < n) : (wayL G n x x).length = 0 := by
  rw [wayL, wayM_length, ((dist_ok hG hx).zero x hx).2 rfl]; rfl

set_option maxRecDepth 20000 in
theorem ways_spec (s : List Int) (hbs : BytesOK s) (a b : Int) (ha : 0 ≤ a ∧ a < 256) (hb : 0 ≤ b ∧ b < 256) : FSpec PP 4 [dus s, .v (vu a), .v (vu b)] σ0 (db true) σ0 := by
  obtain ⟨n, G, kz, hG, h6, hgr⟩ := graph_ex (s.take 200) (bytes_take hbs 200) (by simp; omega)
  have hn := hG.pos
  obtain ⟨fr, hfr0, hfr⟩ := mod_ex ha hn
  obtain ⟨to, hto0, hto⟩ := mod_ex hb hn
  obtain ⟨w, ok, hw1, hw2, hw3, hw4⟩ := way_ex hG h6 hfr hto
  have hre := reached_is hG hfr hto hw2
  refine spec_at cWays Tryz.func4 rfl (by kernel_rfl) (by first | decide | simp) _ (by dsimp only [Tryz.f4, List.length, Nat.reduceAdd, Nat.reduceSub, List.replicate, List.cons_append, List.nil_append]) ?_
  refine at_seq [0] [1] rfl ?_
  refine at_region rfl ?_
  refine at_mc 6 rfl rfl rfl (.inr rfl) (by dsimp only [constD]) (by dsimp only [List.set]) ?_
  refine at_end rfl ?_
  refine at_seq [1, 0] [1, 1] rfl ?_
  refine at_seq [1, 0, 0] [1, 0, 1] rfl ?_
  refine at_region rfl ?_
  refine at_op (some 25) rfl rfl rfl rfl (op_call0 rfl rfl rfl rfl (sane_spec)) (by dsimp only [putD, List.set]) ?_
  refine at_op (some 26) rfl rfl rfl rfl (op_un rfl rfl) (by dsimp only [putD, List.set]) ?_
  refine at_end rfl ?_
  refine at_false [1, 0, 1, 0] [1, 0, 1, 1] rfl rfl ?_
  refine at_skip rfl ?_
  refine at_seq [1, 1, 0] [1, 1, 1] rfl ?_
  refine at_region rfl ?_
  refine at_mv 0 27 rfl rfl rfl (.inl rfl) rfl (by dsimp only [List.set]) ?_
  refine at_opS (some 28) rfl rfl rfl rfl (op_call0_new rfl rfl rfl rfl (newD_spec s)) (by dsimp only [putD, List.set]) (by dsimp only [List.set, List.append, List.cons_append, List.nil_append, cellsD, List.map, repl, List.length, Nat.reduceAdd, if_true, ↓reduceIte]; first | done | rfl) ?_
  refine at_opS (some 29) rfl rfl rfl rfl (op_call1 rfl rfl rfl rfl rfl (.ptr .nil) rfl hgr) (by dsimp only [putD, List.set]) (by dsimp only [List.set, List.append, List.cons_append, List.nil_append, cellsD, List.map, repl, List.length, Nat.reduceAdd, if_true, ↓reduceIte]; first | done | rfl) ?_
  refine at_new 29 7 rfl rfl rfl rfl fzero_api_Graph rfl rfl rfl rfl (by decide) rfl rfl fagg_api_Graph (by first | rfl | (simp [V.size]; done)) rfl (by simp only [List.length_cons]; omega) (by dsimp only [List.set]) ?_
  refine at_end rfl ?_
  refine run_wk (.keep (.keep (.keep (.drop (.drop (.drop (.drop (.keep (.drop (.drop (.drop (.drop (.drop (.drop (.drop (.drop (.drop (.drop (.drop (.drop (.drop (.drop (.drop (.drop (.drop (.drop (.drop (.drop (.drop (.drop (.drop (.drop (.drop (.drop (.drop (.drop (.drop (.drop (.drop (.drop (.drop (.drop (.drop (.drop (.drop (.drop (.drop (.drop (.drop (.drop (.drop (.drop (.drop (.drop (.drop (.drop (.drop (.drop (.drop (.drop (.drop (.drop (.drop (.drop (.drop (.drop (.drop (.drop (.drop (.drop (.drop (.drop (.drop (.drop (.drop (.drop (.drop (.drop (.drop (.drop (.drop (.drop (.drop (.drop (.drop (.drop (.drop (.drop (.drop (.drop (.drop (.drop (.drop (.drop (.drop (.drop (.drop (.drop (.drop (.drop (.drop (.drop (.drop (.drop (.drop (.drop (.drop (.drop (.drop (.drop (.drop (.drop (.drop (.drop (.drop (.drop (.drop (.drop (.drop (.drop (.drop (.drop (.drop (.drop (.drop (.drop (.drop (.drop (.drop (.drop (.drop (.drop (.drop (.drop (.drop (.drop (.drop (.drop (.drop (.drop (.drop (.drop (.drop (.drop (.drop (.drop (.drop (.drop (.drop (.drop (.drop (.drop (.drop .nil))))))))))))))))))))))))))))))))))))))))))))))))))))))))))))))))))))))))))))))))))))))))))))))))))))))))))))))))))))))))))))))))))))))))))))))))))))))))) ?_
  refine run_cv (cv_frz [0] (.keep (.keep (.keep (.keep (.keep (.keep (.keep (.keep (.keep (.keep (.keep (.keep (.keep (.keep (.keep (.keep (.keep (.keep (.keep (.keep (.keep (.keep (.keep (.keep (.keep (.keep (.keep (.keep (.keep (.keep (.keep (.keep (.keep (.keep (.keep (.keep (.keep (.keep (.keep (.keep (.keep (.keep (.keep (.keep (.keep (.keep (.keep (.keep (.keep (.keep (.keep (.keep (.keep (.keep (.keep (.keep (.keep (.keep (.keep (.keep (.keep (.keep (.keep (.keep (.keep (.keep (.keep (.keep (.keep (.keep (.keep (.keep (.keep (.keep (.keep (.keep (.keep (.keep (.keep (.keep (.keep (.keep (.keep (.keep (.keep (.keep (.keep (.keep (.keep (.keep (.keep (.keep (.keep (.keep (.keep (.keep (.keep (.keep (.keep (.keep (.keep (.keep (.keep (.keep (.keep (.keep (.keep (.keep (.keep (.keep (.keep (.keep (.keep (.keep (.keep (.keep (.keep (.keep (.keep (.keep (.keep (.keep (.keep (.keep (.keep (.keep (.keep (.keep (.keep (.keep (.keep (.keep (.keep (.keep (.keep (.keep (.keep (.keep (.keep (.keep (.keep (.keep (.keep (.keep (.keep (.keep (.keep (.keep (.keep (.keep (.keep (.keep (.keep .nil)))))))))))))))))))))))))))))))))))))))))))))))))))))))))))))))))))))))))))))))))))))))))))))))))))))))))))))))))))))))))))))))))))))))))))))))))))))))))) ?_
  simp only [killH, List.foldl, List.set]
  refine at_seq [1, 1, 1, 0] [1, 1, 1, 1] rfl ?_
  refine at_draw mixed rfl [σ1] rfl ?_
  refine da_mv 1 30 rfl rfl rfl (.inl rfl) rfl (by dsimp only [List.set]) ?_
  refine da_quiet (some 31) rfl rfl rfl rfl (fun s hs => op_convI rfl fu_uint8 fu_int) (by dsimp only [putD, List.set]) ?_
  rw [wrapu ha]
  first | (refine da_quiet (some 32) rfl rfl rfl rfl (fun s hs => op_fieldP rfl ffld0_api_Graph (by decide)) (by dsimp only [putD, List.set]) ?_) | (refine da_quiet (some 32) rfl rfl rfl rfl (fun s hs => op_fieldR rfl ffld0_api_Graph (by decide) (by decide) rfl) (by dsimp only [putD, List.set]) ?_)
  first | (refine da_quiet (some 33) rfl rfl rfl rfl (fun s hs => op_loadR1 rfl fone_Sapi_Value rfl) (by dsimp only [putD, List.set]) ?_) | (refine da_quiet (some 33) rfl rfl rfl rfl (by intro s hs; simp only [List.mem_cons, List.not_mem_nil, or_false] at hs; rcases hs with rfl <;> exact op_loadP1 rfl fone_Sapi_Value rfl rfl) (by dsimp only [putD, List.set]) ?_)
  first | (refine da_quiet (some 34) rfl rfl rfl rfl (fun s hs => op_lenL rfl fu_Sapi_Value) (by dsimp only [putD, List.set]) ?_) | (refine da_quiet (some 34) rfl rfl rfl rfl (fun s hs => opOK_un (op_lenL rfl fu_Sapi_Value)) (by dsimp only [putD, List.set]) ?_) | (refine da_quiet (some 34) rfl rfl rfl rfl (fun s hs => op_lenA rfl fu_Sapi_Value) (by dsimp only [putD, List.set]) ?_)
  simp only [List.length_map, List.length_range]
  refine da_quiet (some 35) rfl rfl rfl rfl (fun s hs => op_quoI rfl rfl (by first | decide | omega | assumption)) (by dsimp only [putD, List.set]) ?_
  rw [hfr0]
  refine da_mv 2 36 rfl rfl rfl (.inl rfl) rfl (by dsimp only [List.set]) ?_
  refine da_quiet (some 37) rfl rfl rfl rfl (fun s hs => op_convI rfl fu_uint8 fu_int) (by dsimp only [putD, List.set]) ?_
  rw [wrapu hb]
  first | (refine da_quiet (some 38) rfl rfl rfl rfl (fun s hs => op_fieldP rfl ffld0_api_Graph (by decide)) (by dsimp only [putD, List.set]) ?_) | (refine da_quiet (some 38) rfl rfl rfl rfl (fun s hs => op_fieldR rfl ffld0_api_Graph (by decide) (by decide) rfl) (by dsimp only [putD, List.set]) ?_)
  first | (refine da_quiet (some 39) rfl rfl rfl rfl (fun s hs => op_loadR1 rfl fone_Sapi_Value rfl) (by dsimp only [putD, List.set]) ?_) | (refine da_quiet (some 39) rfl rfl rfl rfl (by intro s hs; simp only [List.mem_cons, List.not_mem_nil, or_false] at hs; rcases hs with rfl <;> exact op_loadP1 rfl fone_Sapi_Value rfl rfl) (by dsimp only [putD, List.set]) ?_)
  first | (refine da_quiet (some 40) rfl rfl rfl rfl (fun s hs => op_lenL rfl fu_Sapi_Value) (by dsimp only [putD, List.set]) ?_) | (refine da_quiet (some 40) rfl rfl rfl rfl (fun s hs => opOK_un (op_lenL rfl fu_Sapi_Value)) (by dsimp only [putD, List.set]) ?_) | (refine da_quiet (some 40) rfl rfl rfl rfl (fun s hs => op_lenA rfl fu_Sapi_Value) (by dsimp only [putD, List.set]) ?_)
  simp only [List.length_map, List.length_range]
  refine da_quiet (some 41) rfl rfl rfl rfl (fun s hs => op_quoI rfl rfl (by first | decide | omega | assumption)) (by dsimp only [putD, List.set]) ?_
  rw [hto0]
  refine da_mv 35 8 rfl rfl rfl (.inr rfl) rfl (by dsimp only [List.set]) ?_
  refine da_mv 41 9 rfl rfl rfl (.inr rfl) rfl (by dsimp only [List.set]) ?_
  refine da_end rfl ⟨by decide +kernel, _, rfl, ?_⟩
  refine at_seq [1, 1, 1, 1, 0] [1, 1, 1, 1, 1] rfl ?_
  refine at_region rfl ?_
  first | (refine at_op (some 43) rfl rfl rfl rfl (op_loadRA rfl fagg_api_Graph) (by dsimp only [putD, List.set]) ?_) | (refine at_op (some 43) rfl rfl rfl rfl (op_loadPA rfl fagg_api_Graph rfl (by first | decide | simp) rfl) (by dsimp only [putD, List.set]) ?_)
  refine at_mv 8 44 rfl rfl rfl (.inl rfl) rfl (by dsimp only [List.set]) ?_
  refine at_mv 9 45 rfl rfl rfl (.inl rfl) rfl (by dsimp only [List.set]) ?_
  refine at_op (some 46) rfl rfl rfl rfl (op_call0 rfl rfl rfl rfl (hw1)) (by dsimp only [putD, List.set]) ?_
  refine at_mv 46 42 rfl rfl rfl (.inl rfl) rfl (by dsimp only [List.set]) ?_
  refine at_op (some 47) rfl rfl rfl rfl (op_extract rfl rfl) (by dsimp only [putD, List.set]) ?_
  refine at_op (some 48) rfl rfl rfl rfl (op_extract rfl rfl) (by dsimp only [putD, List.set]) ?_
  refine at_mv 47 10 rfl rfl rfl (.inr rfl) rfl (by dsimp only [List.set]) ?_
  refine at_mv 48 11 rfl rfl rfl (.inr rfl) rfl (by dsimp only [List.set]) ?_
  refine at_end rfl ?_
  refine at_seq [1, 1, 1, 1, 1, 0] [1, 1, 1, 1, 1, 1] rfl ?_
  refine at_region rfl ?_
  refine at_mc 12 rfl rfl rfl (.inr rfl) (by dsimp only [constD]) (by dsimp only [List.set]) ?_
  refine at_end rfl ?_
  refine at_seq [1, 1, 1, 1, 1, 1, 0] [1, 1, 1, 1, 1, 1, 1] rfl ?_
  refine at_seq [1, 1, 1, 1, 1, 1, 0, 0] [1, 1, 1, 1, 1, 1, 0, 1] rfl ?_
  refine at_region rfl ?_
  first | (refine at_op (some 49) rfl rfl rfl rfl (op_loadRA rfl fagg_api_Graph) (by dsimp only [putD, List.set]) ?_) | (refine at_op (some 49) rfl rfl rfl rfl (op_loadPA rfl fagg_api_Graph rfl (by first | decide | simp) rfl) (by dsimp only [putD, List.set]) ?_)
  refine at_mv 8 50 rfl rfl rfl (.inl rfl) rfl (by dsimp only [List.set]) ?_
  refine at_op (some 51) rfl rfl rfl rfl (op_call0 rfl rfl rfl rfl (reachP_spec n G hG h6 fr hfr)) (by dsimp only [putD, List.set]) ?_
  first | (refine at_op (some 52) rfl rfl rfl rfl (op_lenL rfl fu_Sint) (by dsimp only [putD, List.set]) ?_) | (refine at_op (some 52) rfl rfl rfl rfl (opOK_un (op_lenL rfl fu_Sint)) (by dsimp only [putD, List.set]) ?_) | (refine at_op (some 52) rfl rfl rfl rfl (op_lenA rfl fu_Sint) (by dsimp only [putD, List.set]) ?_)
  refine at_mc 53 rfl rfl rfl (.inl rfl) (by dsimp only [constD]) (by dsimp only [List.set]) ?_
  refine at_end rfl ?_
  refine at_block [1, 1, 1, 1, 1, 1, 0, 1, 0] 0 rfl ?_
  refine at_loop [1, 1, 1, 1, 1, 1, 0, 1, 0, 0] rfl ?_
  try simp only [List.length_map, List.length_nil, Int.toNat_natCast]
  refine run_wk (.drop (.drop (.drop (.drop (.drop (.drop (.drop (.keep (.keep (.keep (.keep (.keep (.keep (.drop (.drop (.drop (.drop (.drop (.drop (.drop (.drop (.drop (.drop (.drop (.drop (.drop (.drop (.drop (.drop (.drop (.drop (.drop (.drop (.drop (.drop (.drop (.drop (.drop (.drop (.drop (.drop (.drop (.drop (.drop (.drop (.drop (.drop (.drop (.drop (.drop (.drop (.keep (.keep (.keep (.drop (.drop (.drop (.drop (.drop (.drop (.drop (.drop (.drop (.drop (.drop (.drop (.drop (.drop (.drop (.drop (.drop (.drop (.drop (.drop (.drop (.drop (.drop (.drop (.drop (.drop (.drop (.drop (.drop (.drop (.drop (.drop (.drop (.drop (.drop (.drop (.drop (.drop (.drop (.drop (.drop (.drop (.drop (.drop (.drop (.drop (.drop (.drop (.drop (.drop (.drop (.drop (.drop (.drop (.drop (.drop (.drop (.drop (.drop (.drop (.drop (.drop (.drop (.drop (.drop (.drop (.drop (.drop (.drop (.drop (.drop (.drop (.drop (.drop (.drop (.drop (.drop (.drop (.drop (.drop (.drop (.drop (.drop (.drop (.drop (.drop (.drop (.drop (.drop (.drop (.drop (.drop (.drop (.drop (.drop (.drop (.drop (.drop (.drop .nil))))))))))))))))))))))))))))))))))))))))))))))))))))))))))))))))))))))))))))))))))))))))))))))))))))))))))))))))))))))))))))))))))))))))))))))))))))))))) (ways_l1 _ _ n G fr to w ok (reachL G n fr) (by have := reachL_le G n fr; omega) ok ?_ _ 0 false rfl (by rw [List.drop_zero, Bool.false_or]; exact hre.symm))
  refine at_seq [1, 1, 1, 1, 1, 1, 1, 0] [1, 1, 1, 1, 1, 1, 1, 1] rfl ?_
  refine at_seq [1, 1, 1, 1, 1, 1, 1, 0, 0] [1, 1, 1, 1, 1, 1, 1, 0, 1] rfl ?_
  refine at_region rfl ?_
  refine at_mv 11 64 rfl rfl rfl (.inl rfl) rfl (by dsimp only [List.set]) ?_
  refine at_mv 12 65 rfl rfl rfl (.inl rfl) rfl (by dsimp only [List.set]) ?_
  refine at_op (some 66) rfl rfl rfl rfl (op_eqlB rfl uBool (.inr rfl)) (by dsimp only [putD, List.set]) ?_
  refine at_end rfl ?_
  refine at_cond [1, 1, 1, 1, 1, 1, 1, 0, 1, 0] [1, 1, 1, 1, 1, 1, 1, 0, 1, 1] rfl rfl (fun hc1 => ?_) (fun hc1 => ?_)
  · skip
    exact absurd hc1 (by simp)
  · skip
    refine at_skip rfl ?_
    refine at_seq [1, 1, 1, 1, 1, 1, 1, 1, 0] [1, 1, 1, 1, 1, 1, 1, 1, 1] rfl ?_
    refine at_seq [1, 1, 1, 1, 1, 1, 1, 1, 0, 0] [1, 1, 1, 1, 1, 1, 1, 1, 0, 1] rfl ?_
    refine at_region rfl ?_
    refine at_mv 11 67 rfl rfl rfl (.inl rfl) rfl (by dsimp only [List.set]) ?_
    refine at_op (some 68) rfl rfl rfl rfl (op_un rfl rfl) (by dsimp only [putD, List.set]) ?_
    refine at_end rfl ?_
    refine at_cond [1, 1, 1, 1, 1, 1, 1, 1, 0, 1, 0] [1, 1, 1, 1, 1, 1, 1, 1, 0, 1, 1] rfl rfl (fun hc2 => ?_) (fun hc2 => ?_)
    · skip
      have hok : ok = false := by simpa using hc2
      have hwn := hw3 hok
      subst hwn
      refine at_seq [1, 1, 1, 1, 1, 1, 1, 1, 0, 1, 0, 0] [1, 1, 1, 1, 1, 1, 1, 1, 0, 1, 0, 1] rfl ?_
      refine at_region rfl ?_
      refine at_mv 10 69 rfl rfl rfl (.inl rfl) rfl (by dsimp only [List.set]) ?_
      first | (refine at_op (some 70) rfl rfl rfl rfl (op_lenL rfl fu_Sapi_Arc) (by dsimp only [putD, List.set]) ?_) | (refine at_op (some 70) rfl rfl rfl rfl (opOK_un (op_lenL rfl fu_Sapi_Arc)) (by dsimp only [putD, List.set]) ?_) | (refine at_op (some 70) rfl rfl rfl rfl (op_lenA rfl fu_Sapi_Arc) (by dsimp only [putD, List.set]) ?_)
      refine at_op (some 71) rfl rfl rfl rfl (op_binI rfl rfl) (by dsimp only [putD, List.set]) ?_
      refine at_mv 71 6 rfl rfl rfl (.inr rfl) rfl (by dsimp only [List.set]) ?_
      refine at_end rfl ?_
      refine at_ret rfl (ret_one (t := 6) rfl rfl ?_ rfl)
      first | rfl | (simp; done) | (simp [hw0]; done) | (simp_all; done)
    · skip
      have hok : ok = true := by simpa using hc2
      obtain ⟨hww, hwl⟩ := wayL_walk hG hfr hto (hw2.1 hok)
      rw [← hw4 hok] at hww hwl
      obtain ⟨row, hr⟩ := get_ex (a := G) (i := fr) (by rw [hG.len]; exact hfr)
      have hr2 := idx_some (f := vArcs) hr
      obtain ⟨hrl, hrr⟩ := hG.row row (List.mem_of_getElem? hr)
      have hrow : ∀ a ∈ row, a.2.toNat < n ∧ 0 ≤ a.2 ∧ (Path G a.2.toNat to → w.length ≤ (wayL G n a.2.toNat to).length + 1 ∧ (wayL G n a.2.toNat to).length ≤ 100) := fun a ha => (by have h1 := hrr a ha; have ha2 : a ∈ G.getD fr [] := (by rw [stepM_get hr]; exact ha); have h2 := (arc_lt hG ha2).1; exact ⟨h2, h1.1, fun p => ⟨(by rw [hw4 hok]; exact wayL_least hG hfr hto ha2 p), (by have := (wayL_walk hG h2 hto p).2; omega)⟩⟩)
      refine at_skip rfl ?_
      refine at_seq [1, 1, 1, 1, 1, 1, 1, 1, 1, 0] [1, 1, 1, 1, 1, 1, 1, 1, 1, 1] rfl ?_
      refine at_region rfl ?_
      refine at_mv 8 72 rfl rfl rfl (.inl rfl) rfl (by dsimp only [List.set]) ?_
      refine at_mv 72 15 rfl rfl rfl (.inr rfl) rfl (by dsimp only [List.set]) ?_
      refine at_end rfl ?_
      refine at_seq [1, 1, 1, 1, 1, 1, 1, 1, 1, 1, 0] [1, 1, 1, 1, 1, 1, 1, 1, 1, 1, 1] rfl ?_
      refine at_seq [1, 1, 1, 1, 1, 1, 1, 1, 1, 1, 0, 0] [1, 1, 1, 1, 1, 1, 1, 1, 1, 1, 0, 1] rfl ?_
      refine at_region rfl ?_
      refine at_mv 10 73 rfl rfl rfl (.inl rfl) rfl (by dsimp only [List.set]) ?_
      first | (refine at_op (some 74) rfl rfl rfl rfl (op_lenL rfl fu_Sapi_Arc) (by dsimp only [putD, List.set]) ?_) | (refine at_op (some 74) rfl rfl rfl rfl (opOK_un (op_lenL rfl fu_Sapi_Arc)) (by dsimp only [putD, List.set]) ?_) | (refine at_op (some 74) rfl rfl rfl rfl (op_lenA rfl fu_Sapi_Arc) (by dsimp only [putD, List.set]) ?_)
      refine at_mc 75 rfl rfl rfl (.inl rfl) (by dsimp only [constD]) (by dsimp only [List.set]) ?_
      refine at_end rfl ?_
      refine at_block [1, 1, 1, 1, 1, 1, 1, 1, 1, 1, 0, 1, 0] 2 rfl ?_
      refine at_loop [1, 1, 1, 1, 1, 1, 1, 1, 1, 1, 0, 1, 0, 0] rfl ?_
      try simp only [List.length_map, List.length_nil, Int.toNat_natCast]
      refine run_wk (.drop (.drop (.drop (.drop (.drop (.drop (.drop (.keep (.keep (.keep (.keep (.drop (.drop (.drop (.drop (.keep (.drop (.drop (.drop (.drop (.drop (.drop (.drop (.drop (.drop (.drop (.drop (.drop (.drop (.drop (.drop (.drop (.drop (.drop (.drop (.drop (.drop (.drop (.drop (.drop (.drop (.drop (.drop (.drop (.drop (.drop (.drop (.drop (.drop (.drop (.drop (.drop (.drop (.drop (.drop (.drop (.drop (.drop (.drop (.drop (.drop (.drop (.drop (.drop (.drop (.drop (.drop (.drop (.drop (.drop (.drop (.drop (.drop (.keep (.keep (.keep (.drop (.drop (.drop (.drop (.drop (.drop (.drop (.drop (.drop (.drop (.drop (.drop (.drop (.drop (.drop (.drop (.drop (.drop (.drop (.drop (.drop (.drop (.drop (.drop (.drop (.drop (.drop (.drop (.drop (.drop (.drop (.drop (.drop (.drop (.drop (.drop (.drop (.drop (.drop (.drop (.drop (.drop (.drop (.drop (.drop (.drop (.drop (.drop (.drop (.drop (.drop (.drop (.drop (.drop (.drop (.drop (.drop (.drop (.drop (.drop (.drop (.drop (.drop (.drop (.drop (.drop (.drop (.drop (.drop (.drop (.drop (.drop (.drop (.drop (.drop (.drop (.drop .nil))))))))))))))))))))))))))))))))))))))))))))))))))))))))))))))))))))))))))))))))))))))))))))))))))))))))))))))))))))))))))))))))))))))))))))))))))))))))) (ways_l2 _ _ n G hG fr to w (by omega) ?_ _ 0 fr rfl hfr (by rw [List.drop_zero]; exact hww))
      refine at_seq [1, 1, 1, 1, 1, 1, 1, 1, 1, 1, 1, 0] [1, 1, 1, 1, 1, 1, 1, 1, 1, 1, 1, 1] rfl ?_
      refine at_seq [1, 1, 1, 1, 1, 1, 1, 1, 1, 1, 1, 0, 0] [1, 1, 1, 1, 1, 1, 1, 1, 1, 1, 1, 0, 1] rfl ?_
      refine at_region rfl ?_
      refine at_mv 15 101 rfl rfl rfl (.inl rfl) rfl (by dsimp only [List.set]) ?_
      refine at_mv 9 102 rfl rfl rfl (.inl rfl) rfl (by dsimp only [List.set]) ?_
      refine at_op (some 103) rfl rfl rfl rfl (op_binI rfl rfl) (by dsimp only [putD, List.set]) ?_
      refine at_mv 103 104 rfl rfl rfl (.inl rfl) rfl (by dsimp only [List.set]) ?_
      refine at_split 104 rfl (fun hb3 env' he => ?_) (fun hb3 env' he => ?_)
      · dsimp only [List.set] at he; subst he
        refine at_opN (some 105) rfl rfl rfl (by dsimp only [putD, List.set]) ?_
        refine at_opN (some 106) rfl rfl rfl (by dsimp only [putD, List.set]) ?_
        refine at_opN (some 107) rfl rfl rfl (by dsimp only [putD, List.set]) ?_
        refine at_opN (some 108) rfl rfl rfl (by dsimp only [putD, List.set]) ?_
        refine at_opN (some 109) rfl rfl rfl (by dsimp only [putD, List.set]) ?_
        refine at_opN (some 110) rfl rfl rfl (by dsimp only [putD, List.set]) ?_
        refine at_pkc true 104 111 rfl rfl rfl rfl rfl rfl (by dsimp only [constD]) (by dsimp only [List.set]) ?_
        refine at_end rfl ?_
        refine at_true [1, 1, 1, 1, 1, 1, 1, 1, 1, 1, 1, 0, 1, 0] [1, 1, 1, 1, 1, 1, 1, 1, 1, 1, 1, 0, 1, 1] rfl rfl ?_
        refine at_seq [1, 1, 1, 1, 1, 1, 1, 1, 1, 1, 1, 0, 1, 0, 0] [1, 1, 1, 1, 1, 1, 1, 1, 1, 1, 1, 0, 1, 0, 1] rfl ?_
        refine at_region rfl ?_
        refine at_mc 6 rfl rfl rfl (.inr rfl) (by dsimp only [constD]) (by dsimp only [List.set]) ?_
        refine at_end rfl ?_
        refine at_ret rfl (ret_one (t := 6) rfl rfl ?_ rfl)
        first | rfl | (simp; done) | (simp [hw0]; done) | (simp_all; done)
      · dsimp only [List.set] at he; subst he
        refine at_mv 10 105 rfl rfl rfl (.inl rfl) rfl (by dsimp only [List.set]) ?_
        first | (refine at_op (some 106) rfl rfl rfl rfl (op_lenL rfl fu_Sapi_Arc) (by dsimp only [putD, List.set]) ?_) | (refine at_op (some 106) rfl rfl rfl rfl (opOK_un (op_lenL rfl fu_Sapi_Arc)) (by dsimp only [putD, List.set]) ?_) | (refine at_op (some 106) rfl rfl rfl rfl (op_lenA rfl fu_Sapi_Arc) (by dsimp only [putD, List.set]) ?_)
        first | (refine at_op (some 107) rfl rfl rfl rfl (op_fieldP rfl ffld0_api_Graph (by decide)) (by dsimp only [putD, List.set]) ?_) | (refine at_op (some 107) rfl rfl rfl rfl (op_fieldR rfl ffld0_api_Graph (by decide) (by decide) rfl) (by dsimp only [putD, List.set]) ?_)
        first | (refine at_op (some 108) rfl rfl rfl rfl (op_loadR1 rfl fone_Sapi_Value rfl) (by dsimp only [putD, List.set]) ?_) | (refine at_op (some 108) rfl rfl rfl rfl (op_loadP1 rfl fone_Sapi_Value rfl rfl) (by dsimp only [putD, List.set]) ?_)
        first | (refine at_op (some 109) rfl rfl rfl rfl (op_lenL rfl fu_Sapi_Value) (by dsimp only [putD, List.set]) ?_) | (refine at_op (some 109) rfl rfl rfl rfl (opOK_un (op_lenL rfl fu_Sapi_Value)) (by dsimp only [putD, List.set]) ?_) | (refine at_op (some 109) rfl rfl rfl rfl (op_lenA rfl fu_Sapi_Value) (by dsimp only [putD, List.set]) ?_)
        refine at_op (some 110) rfl rfl rfl rfl (op_binI rfl rfl) (by dsimp only [putD, List.set]) ?_
        refine at_pk false 104 110 111 rfl rfl rfl rfl rfl rfl rfl (by dsimp only [List.set]) ?_
        refine at_end rfl ?_
        refine at_cond [1, 1, 1, 1, 1, 1, 1, 1, 1, 1, 1, 0, 1, 0] [1, 1, 1, 1, 1, 1, 1, 1, 1, 1, 1, 0, 1, 1] rfl rfl (fun hc4 => ?_) (fun hc4 => ?_)
        · skip
          exact absurd hc4 (by simp; omega)
        · skip
          refine at_skip rfl ?_
          refine at_seq [1, 1, 1, 1, 1, 1, 1, 1, 1, 1, 1, 1, 0] [1, 1, 1, 1, 1, 1, 1, 1, 1, 1, 1, 1, 1] rfl ?_
          refine at_seq [1, 1, 1, 1, 1, 1, 1, 1, 1, 1, 1, 1, 0, 0] [1, 1, 1, 1, 1, 1, 1, 1, 1, 1, 1, 1, 0, 1] rfl ?_
          refine at_region rfl ?_
          first | (refine at_op (some 112) rfl rfl rfl rfl (op_fieldP rfl ffld1_api_Graph (by decide)) (by dsimp only [putD, List.set]) ?_) | (refine at_op (some 112) rfl rfl rfl rfl (op_fieldR rfl ffld1_api_Graph (by decide) (by decide) rfl) (by dsimp only [putD, List.set]) ?_)
          first | (refine at_op (some 113) rfl rfl rfl rfl (op_loadR1 rfl fone__5b5d5b5d_api_Arc rfl) (by dsimp only [putD, List.set]) ?_) | (refine at_op (some 113) rfl rfl rfl rfl (op_loadP1 rfl fone__5b5d5b5d_api_Arc rfl rfl) (by dsimp only [putD, List.set]) ?_)
          refine at_mv 8 114 rfl rfl rfl (.inl rfl) rfl (by dsimp only [List.set]) ?_
          first | (refine at_op (some 115) rfl rfl rfl rfl (op_idxL rfl fsl__5b5d5b5d_api_Arc (by first | decide | omega) (by first | assumption | exact idx_some (by assumption) | rfl) (by first | rfl | (simp [V.size]; done))) (by dsimp only [putD, List.set]) ?_) | (refine at_op (some 115) rfl rfl rfl rfl (opOK_un (op_idxL rfl fsl__5b5d5b5d_api_Arc (by first | decide | omega) (by first | assumption | exact idx_some (by assumption) | rfl) (by first | rfl | (simp [V.size]; done)))) (by dsimp only [putD, List.set]) ?_) | (refine at_op (some 115) rfl rfl rfl rfl (op_idxA rfl fsl__5b5d5b5d_api_Arc (by first | decide | omega) (by first | decide | omega)) (by dsimp only [putD, List.set]) ?_)
          first | (refine at_op (some 116) rfl rfl rfl rfl (op_loadR1 rfl fone_Sapi_Arc rfl) (by dsimp only [putD, List.set]) ?_) | (refine at_op (some 116) rfl rfl rfl rfl (op_loadP1 rfl fone_Sapi_Arc rfl rfl) (by dsimp only [putD, List.set]) ?_)
          first | (refine at_op (some 117) rfl rfl rfl rfl (op_lenL rfl fu_Sapi_Arc) (by dsimp only [putD, List.set]) ?_) | (refine at_op (some 117) rfl rfl rfl rfl (opOK_un (op_lenL rfl fu_Sapi_Arc)) (by dsimp only [putD, List.set]) ?_) | (refine at_op (some 117) rfl rfl rfl rfl (op_lenA rfl fu_Sapi_Arc) (by dsimp only [putD, List.set]) ?_)
          refine at_mc 118 rfl rfl rfl (.inl rfl) (by dsimp only [constD]) (by dsimp only [List.set]) ?_
          refine at_end rfl ?_
          refine at_block [1, 1, 1, 1, 1, 1, 1, 1, 1, 1, 1, 1, 0, 1, 0] 6 rfl ?_
          refine at_loop [1, 1, 1, 1, 1, 1, 1, 1, 1, 1, 1, 1, 0, 1, 0, 0] rfl ?_
          try simp only [List.length_map, List.length_nil, Int.toNat_natCast]
          refine run_wk (.drop (.drop (.drop (.drop (.drop (.drop (.drop (.keep (.keep (.keep (.keep (.drop (.drop (.drop (.drop (.drop (.drop (.drop (.drop (.drop (.drop (.drop (.drop (.drop (.drop (.drop (.drop (.drop (.drop (.drop (.drop (.drop (.drop (.drop (.drop (.drop (.drop (.drop (.drop (.drop (.drop (.drop (.drop (.drop (.drop (.drop (.drop (.drop (.drop (.drop (.drop (.drop (.drop (.drop (.drop (.drop (.drop (.drop (.drop (.drop (.drop (.drop (.drop (.drop (.drop (.drop (.drop (.drop (.drop (.drop (.drop (.drop (.drop (.drop (.drop (.drop (.drop (.drop (.drop (.drop (.drop (.drop (.drop (.drop (.drop (.drop (.drop (.drop (.drop (.drop (.drop (.drop (.drop (.drop (.drop (.drop (.drop (.drop (.drop (.drop (.drop (.drop (.drop (.drop (.drop (.drop (.drop (.drop (.drop (.drop (.drop (.drop (.drop (.drop (.drop (.drop (.keep (.keep (.keep (.drop (.drop (.drop (.drop (.drop (.drop (.drop (.drop (.drop (.drop (.drop (.drop (.drop (.drop (.drop (.drop (.drop (.drop (.drop (.drop (.drop (.drop (.drop (.drop (.drop (.drop (.drop (.drop (.drop (.drop (.drop (.drop (.drop (.drop .nil))))))))))))))))))))))))))))))))))))))))))))))))))))))))))))))))))))))))))))))))))))))))))))))))))))))))))))))))))))))))))))))))))))))))))))))))))))))))) (ways_l4 _ _ n G hG h6 fr to hto w (by omega) row hrl hrow ?_ _ 0 rfl)
          refine at_seq [1, 1, 1, 1, 1, 1, 1, 1, 1, 1, 1, 1, 1, 0] [1, 1, 1, 1, 1, 1, 1, 1, 1, 1, 1, 1, 1, 1] rfl ?_
          refine at_region rfl ?_
          refine at_mv 8 145 rfl rfl rfl (.inl rfl) rfl (by dsimp only [List.set]) ?_
          refine at_mv 9 146 rfl rfl rfl (.inl rfl) rfl (by dsimp only [List.set]) ?_
          refine at_op (some 147) rfl rfl rfl rfl (op_binI rfl rfl) (by dsimp only [putD, List.set]) ?_
          refine at_mv 147 148 rfl rfl rfl (.inl rfl) rfl (by dsimp only [List.set]) ?_
          refine at_split 148 rfl (fun hb5 env' he => ?_) (fun hb5 env' he => ?_)
          · dsimp only [List.set] at he; subst he
            refine at_opN (some 149) rfl rfl rfl (by dsimp only [putD, List.set]) ?_
            refine at_opN (some 150) rfl rfl rfl (by dsimp only [putD, List.set]) ?_
            refine at_opN (some 151) rfl rfl rfl (by dsimp only [putD, List.set]) ?_
            refine at_pkc true 148 152 rfl rfl rfl rfl rfl rfl (by dsimp only [constD]) (by dsimp only [List.set]) ?_
            refine at_mv 152 6 rfl rfl rfl (.inr rfl) rfl (by dsimp only [List.set]) ?_
            refine at_end rfl ?_
            refine at_ret rfl (ret_one (t := 6) rfl rfl ?_ rfl)
            first | rfl | (simp; done) | (simp [hw0]; done) | (simp_all; done)
          · dsimp only [List.set] at he; subst he
            have hft : fr = to := by simp at hb5; omega
            subst hft
            have hw0 := wayL_self hG hfr
            rw [← hw4 hok] at hw0
            refine at_mv 10 149 rfl rfl rfl (.inl rfl) rfl (by dsimp only [List.set]) ?_
            first | (refine at_op (some 150) rfl rfl rfl rfl (op_lenL rfl fu_Sapi_Arc) (by dsimp only [putD, List.set]) ?_) | (refine at_op (some 150) rfl rfl rfl rfl (opOK_un (op_lenL rfl fu_Sapi_Arc)) (by dsimp only [putD, List.set]) ?_) | (refine at_op (some 150) rfl rfl rfl rfl (op_lenA rfl fu_Sapi_Arc) (by dsimp only [putD, List.set]) ?_)
            refine at_op (some 151) rfl rfl rfl rfl (op_binI rfl rfl) (by dsimp only [putD, List.set]) ?_
            refine at_pk false 148 151 152 rfl rfl rfl rfl rfl rfl rfl (by dsimp only [List.set]) ?_
            refine at_mv 152 6 rfl rfl rfl (.inr rfl) rfl (by dsimp only [List.set]) ?_
            refine at_end rfl ?_
            refine at_ret rfl (ret_one (t := 6) rfl rfl ?_ rfl)
            first | rfl | (simp; done) | (simp [hw0]; done) | (simp_all; done)

end Go.Proofs.YtmdipbhjhkckjaaGreat
