/-
  Package tree, walked: where all nodes can go.
-/
import Derived.Test.YtaceggcohmmfhaaFb
namespace Go.Proofs.Ytaceggcohmmfhaa
open Go.Dv Tr

def rowOK (A B : List Nd) (to : List (List Nat)) (i j : Nat) : Bool :=
  match A[i]?, B[j]? with
  | some na, some nb => na.lab == nb.lab && (plM (intoT B to) na.kids nb.kids).isSome
  | _, _ => false
def rowM (A B : List Nd) (to : List (List Nat)) (i : Nat) : List Nat := (List.range B.length).filter (rowOK A B to i)
def solD (A B : List Nd) : Nat → List (List Nat)
  | 0 => []
  | k + 1 => rowM A B (List.replicate (A.length - (k + 1)) [] ++ [] :: solD A B k) (A.length - (k + 1)) :: solD A B k
theorem solD_length (A B : List Nd) : ∀ k, (solD A B k).length = k
  | 0 => rfl
  | k + 1 => by simp [solD, solD_length A B k]
theorem rowM_length (A B : List Nd) (to : List (List Nat)) (i : Nat) : (rowM A B to i).length ≤ B.length := by
  unfold rowM; exact Nat.le_trans (List.length_filter_le _ _) (by simp)

/-- children come behind, within the tree -/
structure Wf (A : List Nd) : Prop where
  len : A.length ≤ 1000
  kids : ∀ i na, A[i]? = some na → na.kids.length ≤ 1000 ∧ ∀ k ∈ na.kids, i < k ∧ k < A.length

theorem plM_congr {f f' : Nat → Nat → Int} : ∀ (ks rest : List Nat), (∀ k ∈ ks, ∀ r, f k r = f' k r) → plM f ks rest = plM f' ks rest
  | [], rest, _ => by cases rest <;> rfl
  | k :: ks, [], _ => rfl
  | k :: ks, r :: rest, h => by
    simp only [plM]
    rw [h k List.mem_cons_self r, plM_congr ks rest (fun k' hk' => h k' (List.mem_cons_of_mem _ hk')), plM_congr (k :: ks) rest h]
theorem gt_other {i k : Nat} {x y : List Nat} {d : List (List Nat)} (h : i < k) : gt (List.replicate i [] ++ x :: d) k = gt (List.replicate i [] ++ y :: d) k := by
  unfold gt
  rw [List.getElem?_append_right (by simp; omega), List.getElem?_append_right (by simp; omega), List.length_replicate]
  obtain ⟨m, hm⟩ : ∃ m, k - i = m + 1 := ⟨k - i - 1, by omega⟩
  rw [hm]; rfl
theorem rowOK_acc {A B : List Nd} (hA : Wf A) {i : Nat} {x y : List Nat} {d : List (List Nat)} (j : Nat) : rowOK A B (List.replicate i [] ++ x :: d) i j = rowOK A B (List.replicate i [] ++ y :: d) i j := by
  unfold rowOK
  cases ha : A[i]? with
  | none => rfl
  | some na =>
    cases hb : B[j]? with
    | none => rfl
    | some nb =>
      simp only
      rw [plM_congr na.kids nb.kids (f := intoT B (List.replicate i [] ++ x :: d)) (f' := intoT B (List.replicate i [] ++ y :: d))]
      intro k hk r
      unfold intoT
      rw [gt_other ((hA.kids i na ha).2 k hk).1]

abbrev toCells (i : Nat) (acc : List Nat) (d : List (List Nat)) : List D := List.replicate i (.v .nils) ++ .acc 1 (pv acc) :: d.map fun l => dl (il l)
abbrev seObj (A B : List Nd) : Option (List D) := some [dnl A, dnl B, .arr 1 0 A.length]
abbrev solSt (A B : List Nd) (i : Nat) (acc : List Nat) (d : List (List Nat)) : St := ⟨[seObj A B, some (toCells i acc d)], [(1, 1, pv acc)]⟩
theorem toCells_get (i : Nat) (acc : List Nat) (d : List (List Nat)) : (toCells i acc d)[i]? = some (.acc 1 (pv acc)) := by
  rw [List.getElem?_append_right (by simp), List.length_replicate, Nat.sub_self]; rfl
theorem repl_set {α : Type} (i : Nat) (z x y : α) (d : List α) : (List.replicate i z ++ x :: d).set i y = List.replicate i z ++ y :: d := by
  rw [List.set_append_right _ _ (by simp), List.length_replicate, Nat.sub_self]; rfl
theorem repl_get {α : Type} (i : Nat) (z x : α) (d : List α) : (List.replicate i z ++ x :: d)[i]? = some x := by
  rw [List.getElem?_append_right (by simp), List.length_replicate, Nat.sub_self]; rfl
theorem repl_snoc {α : Type} (i : Nat) (z : α) (d : List α) : List.replicate (i + 1) z ++ d = List.replicate i z ++ z :: d := by
  rw [List.replicate_succ', List.append_assoc]; rfl

theorem lend_arr {L : Nat → Option (List D)} {q : Nat} {cs : List D} {to : List (List Nat)} {len : Nat} (hL : L q = some cs) (hlen : len = to.length) (hcs : ∀ (j : Nat) (l : List Nat), to[j]? = some l → ∃ c, cs[j]? = some c ∧ ∃ d', See1 c d' ∧ d'.toV = some (vl (il l))) : lends L 1 (.arr q 0 len) (vll to) := by
  subst hlen
  refine .inr (.inr ⟨q, 0, 1, cs, to.map fun l => vl (il l), .inl (by simp), rfl, by decide, by simp [V.size], hL, fun j y hj => ?_⟩)
  have hf : (to.map fun l => vl (il l)).flatMap V.cellsV = to.map fun l => vl (il l) := by
    clear hj hcs
    induction to with
    | nil => rfl
    | cons l to ih => simp only [List.map_cons, List.flatMap_cons, V.cellsV, ih]; rfl
  rw [hf, List.getElem?_map] at hj
  cases hl : to[j]? with
  | none => simp [hl] at hj
  | some l =>
    simp [hl] at hj
    subst hj
    obtain ⟨c, h1, h2⟩ := hcs j l hl
    exact ⟨rfl, c, by simpa using h1, h2⟩
theorem lend_se {L : Nat → Option (List D)} {A B : List Nd} {o : Nat} {d : D} {to : List (List Nat)} (h0 : L o = some [dnl A, dnl B, d]) (h1 : lends L 1 d (vll to)) : lends L 2 (.ptr o 0) (.ref (vse A B to)) := by
  refine .inr (.inl ⟨o, 0, [dnl A, dnl B, d], vse A B to, rfl, rfl, h0, fun j y hj => ?_⟩)
  simp only [V.cellsV] at hj
  match j, hj with
  | 0, hj => simp at hj; subst hj; exact ⟨rfl, dnl A, rfl, .inl ⟨dnl A, .same, rfl⟩⟩
  | 1, hj => simp at hj; subst hj; exact ⟨rfl, dnl B, rfl, .inl ⟨dnl B, .same, rfl⟩⟩
  | 2, hj => simp at hj; subst hj; exact ⟨rfl, d, rfl, h1⟩
  | j + 3, hj => simp at hj
theorem lend_sol (A B : List Nd) (i : Nat) (acc : List Nat) (d : List (List Nat)) (hl : A.length = i + 1 + d.length) : lends (fun o => ((solSt A B i acc d).H[o]?).join) 2 (.ptr 0 0) (.ref (vse A B (List.replicate i [] ++ acc :: d))) := by
  refine lend_se (d := .arr 1 0 A.length) rfl (lend_arr (cs := toCells i acc d) rfl (by simp; omega) (fun j l hj => ?_))
  by_cases h1 : j < i
  · rw [List.getElem?_append_left (by simpa using h1)] at hj
    simp [List.getElem?_replicate, h1] at hj
    subst hj
    exact ⟨.v .nils, by rw [List.getElem?_append_left (by simpa using h1)]; simp [List.getElem?_replicate, h1], _, .nils, rfl⟩
  · rw [List.getElem?_append_right (by simp; omega), List.length_replicate] at hj
    cases hm : j - i with
    | zero =>
      rw [hm] at hj; simp at hj; subst hj
      exact ⟨.acc 1 (pv acc), by rw [List.getElem?_append_right (by simp; omega), List.length_replicate, hm]; rfl, _, .acc, rfl⟩
    | succ m =>
      rw [hm] at hj; simp at hj
      exact ⟨dl (il l), by rw [List.getElem?_append_right (by simp; omega), List.length_replicate, hm]; simp [hj], _, .same, rfl⟩
theorem all_to {n i : Nat} {acc : List Nat} {d : List (List Nat)} (ha : acc.length ≤ n) (hd : ∀ l ∈ d, l.length ≤ n) : ∀ l ∈ List.replicate i [] ++ acc :: d, l.length ≤ n := by
  intro l hl
  rcases List.mem_append.1 hl with h | h
  · rw [List.mem_replicate] at h; simp [h.2]
  · rcases List.mem_cons.1 h with rfl | h
    · exact ha
    · exact hd l h
theorem range_at {n j : Nat} (h : j < n) : (List.range n).drop j = j :: (List.range n).drop (j + 1) := by
  rw [List.drop_eq_getElem_cons (by simpa using h)]; simp
theorem range_end {n j : Nat} (h : n ≤ j) : (List.range n).drop j = [] := List.drop_of_length_le (by simpa using h)

theorem ret_keep {P : Program} {fn : Func} {env : List D} {σ : St} (hr : fn.results.toList = []) (ho : σ.own = []) : ResOK P fn env σ (.tup []) ⟨σ.H, []⟩ := by
  intro E g a w hf hE
  refine ⟨.tuple #[], g, ?_, ?_, by simp only [repD]; exact ⟨[], rfl, by simp [repDs]⟩⟩
  · rw [results_eq, Array.mapM_eq_mapM_toList, hr]
    simp
  · have : σ = ⟨σ.H, []⟩ := by cases σ; simp_all
    rw [← this]; exact hf.wi
abbrev doneCells (r : Nat) (d : List (List Nat)) : List D := List.replicate r (.v .nils) ++ d.map fun l => dl (il l)
theorem noTag_cells {A B : List Nd} {r : Nat} {d : List (List Nat)} : ∀ (i : Nat) (cs : List D), [seObj A B, some (doneCells r d)][i]? = some (some cs) → ∀ x ∈ cs, x.noTag 1 = true := by
  intro i cs hi x hx
  match i, hi with
  | 0, hi => simp at hi; subst hi; simp at hx; rcases hx with rfl | rfl | rfl <;> rfl
  | 1, hi =>
    simp at hi; subst hi
    rcases List.mem_append.1 hx with h | h
    · rw [List.mem_replicate] at h; rw [h.2]; rfl
    · obtain ⟨l, _, rfl⟩ := List.mem_map.1 h; rfl
  | i + 2, hi => simp at hi

theorem solD_len {A B : List Nd} : ∀ {k : Nat} {l : List Nat}, l ∈ solD A B k → l.length ≤ B.length
  | 0, l, h => by simp [solD] at h
  | k + 1, l, h => by
    simp only [solD] at h
    rcases List.mem_cons.1 h with rfl | h
    · exact rowM_length A B _ _
    · exact solD_len h

noncomputable def cSolve : Code := Try.f36.body.getD .skip
set_option maxRecDepth 20000 in
theorem solve_inner (R : List D → St → Prop) (K : List KI) (A B : List Nd) (hA : Wf A) (hB : Wf B) (i : Nat) (na : Nd) (ha : A[i]? = some na) (d : List (List Nat)) (hl : A.length = i + 1 + d.length) (hd : ∀ l ∈ d, l.length ≤ 1000000) (T : List Nat) (hk : Run PP R K ((.ptr 0 0) :: .undef :: (di ↑i) :: .undef :: .undef :: .undef :: .undef :: .undef :: .undef :: .undef :: .undef :: .undef :: .undef :: .undef :: .undef :: .undef :: .undef :: .undef :: .undef :: .undef :: .undef :: .undef :: .undef :: .undef :: .undef :: .undef :: .undef :: .undef :: .undef :: .undef :: .undef :: .undef :: .undef :: .undef :: .undef :: .undef :: .undef :: .undef :: .undef :: .undef :: .undef :: .undef :: .undef :: .undef :: .undef :: .undef :: .undef :: .undef :: .undef :: .undef :: .undef :: .undef :: .undef :: .undef :: .undef :: .undef :: .undef :: .undef :: .undef :: .undef :: .undef :: .undef :: .undef :: .undef :: .undef :: .undef :: .undef :: .undef :: .undef :: .undef :: .undef :: .undef :: []) (solSt A B i T d)) (m : Nat) : ∀ (j : Nat) (acc : List Nat), B.length - j = m → acc.length ≤ j → T = acc ++ ((List.range B.length).drop j).filter (rowOK A B (List.replicate i [] ++ [] :: d) i) → Run PP R (.lp (sub cSolve [1, 1, 0, 0, 1, 0, 0, 1, 0, 0]) :: .blk 2 :: K) ((.ptr 0 0) :: .undef :: (di ↑i) :: .undef :: .undef :: .undef :: .undef :: .undef :: .undef :: .undef :: .undef :: .undef :: .undef :: .undef :: .undef :: .undef :: .undef :: .undef :: .undef :: .undef :: .undef :: .undef :: .undef :: .undef :: .undef :: .undef :: .undef :: .undef :: .undef :: (dnl B) :: (di ↑B.length) :: (di ↑j) :: .undef :: .undef :: .undef :: .undef :: .undef :: .undef :: .undef :: .undef :: .undef :: .undef :: .undef :: .undef :: .undef :: .undef :: .undef :: .undef :: .undef :: .undef :: .undef :: .undef :: .undef :: .undef :: .undef :: .undef :: .undef :: .undef :: .undef :: .undef :: .undef :: .undef :: .undef :: .undef :: .undef :: .undef :: .undef :: .undef :: .undef :: .undef :: .undef :: .undef :: []) (solSt A B i acc d) := by
  induction m using Nat.strongRecOn with
  | _ m ih =>
    intro j acc hm hac hT
    have hAl := hA.len
    have hBl := hB.len
    have ha2 := idx_node ha
    obtain ⟨hn1, hn2⟩ := hA.kids i na ha
    refine run_lp ?_
    refine at_seq [1, 1, 0, 0, 1, 0, 0, 1, 0, 0, 0] [1, 1, 0, 0, 1, 0, 0, 1, 0, 0, 1] rfl ?_
    refine at_region rfl ?_
    refine at_op (some 32) rfl rfl rfl rfl (op_binI rfl rfl) (by dsimp only [putD, List.set]) ?_
    refine at_end rfl ?_
    refine at_seq [1, 1, 0, 0, 1, 0, 0, 1, 0, 0, 1, 0] [1, 1, 0, 0, 1, 0, 0, 1, 0, 0, 1, 1] rfl ?_
    refine at_cond [1, 1, 0, 0, 1, 0, 0, 1, 0, 0, 1, 0, 0] [1, 1, 0, 0, 1, 0, 0, 1, 0, 0, 1, 0, 1] rfl rfl (fun hc1 => ?_) (fun hc1 => ?_)
    · skip
      have hlt : j < B.length := by simpa using hc1
      obtain ⟨nb, hb⟩ := get_ex hlt
      have hb2 := idx_node hb
      obtain ⟨hb3, hb4⟩ := hB.kids j nb hb
      rw [range_at hlt, List.filter_cons] at hT
      have hrow : rowOK A B (List.replicate i [] ++ [] :: d) i j = (na.lab == nb.lab && (plM (intoT B (List.replicate i [] ++ acc :: d)) na.kids nb.kids).isSome) := by rw [rowOK_acc hA (y := acc)]; simp [rowOK, ha, hb]
      refine at_skip rfl ?_
      refine at_seq [1, 1, 0, 0, 1, 0, 0, 1, 0, 0, 1, 1, 0] [1, 1, 0, 0, 1, 0, 0, 1, 0, 0, 1, 1, 1] rfl ?_
      refine at_block [1, 1, 0, 0, 1, 0, 0, 1, 0, 0, 1, 1, 0, 0] 3 rfl ?_
      refine at_seq [1, 1, 0, 0, 1, 0, 0, 1, 0, 0, 1, 1, 0, 0, 0] [1, 1, 0, 0, 1, 0, 0, 1, 0, 0, 1, 1, 0, 0, 1] rfl ?_
      refine at_region rfl ?_
      refine at_mv 31 33 rfl rfl rfl (.inl rfl) rfl (by dsimp only [List.set]) ?_
      first | (refine at_op (some 34) rfl rfl rfl rfl (op_idxL rfl fsl_Stree_node (by first | decide | omega) (by first | assumption | exact idx_some (by assumption) | rfl) (by first | rfl | (simp [V.size]; done))) (by dsimp only [putD, List.set]) ?_) | (refine at_op (some 34) rfl rfl rfl rfl (opOK_un (op_idxL rfl fsl_Stree_node (by first | decide | omega) (by first | assumption | exact idx_some (by assumption) | rfl) (by first | rfl | (simp [V.size]; done)))) (by dsimp only [putD, List.set]) ?_) | (refine at_op (some 34) rfl rfl rfl rfl (op_idxA rfl fsl_Stree_node (by first | decide | omega) (by first | decide | omega)) (by dsimp only [putD, List.set]) ?_)
      first | (refine at_op (some 35) rfl rfl rfl rfl (op_loadRA rfl fagg_tree_node) (by dsimp only [putD, List.set]) ?_) | (refine at_op (some 35) rfl rfl rfl rfl (op_loadPA rfl fagg_tree_node rfl (by decide) rfl) (by dsimp only [putD, List.set]) ?_)
      refine at_new1 35 4 33 3 rfl rfl rfl rfl fzero_tree_node rfl rfl rfl (.inr rfl) rfl (by decide) (by decide) (by decide) rfl rfl rfl rfl (by decide) rfl rfl fagg_tree_node (by first | rfl | (simp [V.size]; done)) rfl (by simp only [List.length_cons]; omega) (by dsimp only [List.set]) ?_
      refine at_end rfl ?_
      refine at_seq [1, 1, 0, 0, 1, 0, 0, 1, 0, 0, 1, 1, 0, 0, 1, 0] [1, 1, 0, 0, 1, 0, 0, 1, 0, 0, 1, 1, 0, 0, 1, 1] rfl ?_
      refine at_seq [1, 1, 0, 0, 1, 0, 0, 1, 0, 0, 1, 1, 0, 0, 1, 0, 0] [1, 1, 0, 0, 1, 0, 0, 1, 0, 0, 1, 1, 0, 0, 1, 0, 1] rfl ?_
      refine at_draw mixed rfl [solSt A B i acc d] rfl ?_
      first | (refine da_quiet (some 36) rfl rfl rfl rfl (fun s hs => op_fieldP rfl ffld0_tree_node (by decide)) (by dsimp only [putD, List.set]) ?_) | (refine da_quiet (some 36) rfl rfl rfl rfl (fun s hs => op_fieldR rfl ffld0_tree_node (by decide) (by decide) rfl) (by dsimp only [putD, List.set]) ?_)
      first | (refine da_quiet (some 37) rfl rfl rfl rfl (fun s hs => op_loadR1 rfl fone_int rfl) (by dsimp only [putD, List.set]) ?_) | (refine da_quiet (some 37) rfl rfl rfl rfl (by intro s hs; simp only [List.mem_cons, List.not_mem_nil, or_false] at hs; rcases hs with rfl <;> exact op_loadP1 rfl fone_int rfl rfl) (by dsimp only [putD, List.set]) ?_)
      refine da_mv 0 38 rfl rfl rfl (.inl rfl) rfl (by dsimp only [List.set]) ?_
      first | (refine da_quiet (some 39) rfl rfl rfl rfl (fun s hs => op_nilCheck_ptr rfl) (by dsimp only [putD, List.set]) ?_) | (refine da_quiet (some 39) rfl rfl rfl rfl (fun s hs => op_nilCheck_ref rfl) (by dsimp only [putD, List.set]) ?_)
      first | (refine da_quiet (some 40) rfl rfl rfl rfl (fun s hs => op_fieldP rfl ffld0_tree_search (by decide)) (by dsimp only [putD, List.set]) ?_) | (refine da_quiet (some 40) rfl rfl rfl rfl (fun s hs => op_fieldR rfl ffld0_tree_search (by decide) (by decide) rfl) (by dsimp only [putD, List.set]) ?_)
      first | (refine da_quiet (some 41) rfl rfl rfl rfl (fun s hs => op_loadR1 rfl fone_Stree_node rfl) (by dsimp only [putD, List.set]) ?_) | (refine da_quiet (some 41) rfl rfl rfl rfl (by intro s hs; simp only [List.mem_cons, List.not_mem_nil, or_false] at hs; rcases hs with rfl <;> exact op_loadP1 rfl fone_Stree_node rfl rfl) (by dsimp only [putD, List.set]) ?_)
      refine da_mv 2 42 rfl rfl rfl (.inl rfl) rfl (by dsimp only [List.set]) ?_
      first | (refine da_quiet (some 43) rfl rfl rfl rfl (fun s hs => op_idxL rfl fsl_Stree_node (by first | decide | omega) (by first | assumption | exact idx_some (by assumption) | rfl) (by first | rfl | (simp [V.size]; done))) (by dsimp only [putD, List.set]) ?_) | (refine da_quiet (some 43) rfl rfl rfl rfl (fun s hs => opOK_un (op_idxL rfl fsl_Stree_node (by first | decide | omega) (by first | assumption | exact idx_some (by assumption) | rfl) (by first | rfl | (simp [V.size]; done)))) (by dsimp only [putD, List.set]) ?_) | (refine da_quiet (some 43) rfl rfl rfl rfl (fun s hs => op_idxA rfl fsl_Stree_node (by first | decide | omega) (by first | decide | omega)) (by dsimp only [putD, List.set]) ?_)
      first | (refine da_quiet (some 44) rfl rfl rfl rfl (fun s hs => op_fieldP rfl ffld0_tree_node (by decide)) (by dsimp only [putD, List.set]) ?_) | (refine da_quiet (some 44) rfl rfl rfl rfl (fun s hs => op_fieldR rfl ffld0_tree_node (by decide) (by decide) rfl) (by dsimp only [putD, List.set]) ?_)
      first | (refine da_quiet (some 45) rfl rfl rfl rfl (fun s hs => op_loadR1 rfl fone_int rfl) (by dsimp only [putD, List.set]) ?_) | (refine da_quiet (some 45) rfl rfl rfl rfl (by intro s hs; simp only [List.mem_cons, List.not_mem_nil, or_false] at hs; rcases hs with rfl <;> exact op_loadP1 rfl fone_int rfl rfl) (by dsimp only [putD, List.set]) ?_)
      refine da_quiet (some 46) rfl rfl rfl rfl (fun s hs => op_binI rfl rfl) (by dsimp only [putD, List.set]) ?_
      refine da_end rfl ⟨by decide +kernel, _, rfl, ?_⟩
      refine at_cond [1, 1, 0, 0, 1, 0, 0, 1, 0, 0, 1, 1, 0, 0, 1, 0, 1, 0] [1, 1, 0, 0, 1, 0, 0, 1, 0, 0, 1, 1, 0, 0, 1, 0, 1, 1] rfl rfl (fun hc2 => ?_) (fun hc2 => ?_)
      · skip
        have hne : rowOK A B (List.replicate i [] ++ [] :: d) i j = false := by rw [hrow]; simp at hc2; simp; intro e; exact absurd e.symm hc2
        rw [hne] at hT
        refine at_exit rfl rfl ?_
        refine at_region rfl ?_
        refine at_op (some 71) rfl rfl rfl rfl (op_binI rfl rfl) (by dsimp only [putD, List.set]) ?_
        refine at_mv 71 31 rfl rfl rfl (.inl rfl) rfl (by dsimp only [List.set]) ?_
        refine at_end rfl ?_
        rw [wrap_succ (by omega)]
        first | exact run_wk (.keep (.drop (.keep (.drop (.drop (.drop (.drop (.drop (.drop (.drop (.drop (.drop (.drop (.drop (.drop (.drop (.drop (.drop (.drop (.drop (.drop (.drop (.drop (.drop (.drop (.drop (.drop (.drop (.drop (.keep (.keep (.keep (.drop (.drop (.drop (.drop (.drop (.drop (.drop (.drop (.drop (.drop (.drop (.drop (.drop (.drop (.drop (.drop (.drop (.drop (.drop (.drop (.drop (.drop (.drop (.drop (.drop (.drop (.drop (.drop (.drop (.drop (.drop (.drop (.drop (.drop (.drop (.drop (.drop (.drop (.drop (.drop .nil)))))))))))))))))))))))))))))))))))))))))))))))))))))))))))))))))))))))) (ih _ (by omega) (j + 1) _ rfl (by omega) (by simpa using hT)) | exact run_wk (.keep (.drop (.keep (.drop (.drop (.drop (.drop (.drop (.drop (.drop (.drop (.drop (.drop (.drop (.drop (.drop (.drop (.drop (.drop (.drop (.drop (.drop (.drop (.drop (.drop (.drop (.drop (.drop (.drop (.keep (.keep (.keep (.drop (.drop (.drop (.drop (.drop (.drop (.drop (.drop (.drop (.drop (.drop (.drop (.drop (.drop (.drop (.drop (.drop (.drop (.drop (.drop (.drop (.drop (.drop (.drop (.drop (.drop (.drop (.drop (.drop (.drop (.drop (.drop (.drop (.drop (.drop (.drop (.drop (.drop (.drop (.drop .nil)))))))))))))))))))))))))))))))))))))))))))))))))))))))))))))))))))))))) (ih _ (by omega) (j + 1) (acc ++ [j]) rfl (by simp; omega) (by simpa using hT))
      · skip
        have heq : (na.lab == nb.lab) = true := by simp at hc2; simp [hc2]
        rw [heq, Bool.true_and] at hrow
        refine at_skip rfl ?_
        refine at_seq [1, 1, 0, 0, 1, 0, 0, 1, 0, 0, 1, 1, 0, 0, 1, 1, 0] [1, 1, 0, 0, 1, 0, 0, 1, 0, 0, 1, 1, 0, 0, 1, 1, 1] rfl ?_
        refine at_region rfl ?_
        refine at_mv 0 48 rfl rfl rfl (.inl rfl) rfl (by dsimp only [List.set]) ?_
        refine at_mv 2 49 rfl rfl rfl (.inl rfl) rfl (by dsimp only [List.set]) ?_
        refine at_mv 3 50 rfl rfl rfl (.inl rfl) rfl (by dsimp only [List.set]) ?_
        refine at_op (some 51) rfl rfl rfl rfl (op_callB rfl rfl (.cons (n := 2) (lend_sol A B i acc d hl) (.cons (n := 0) ⟨_, .same, rfl⟩ (.cons (n := 0) ⟨_, .same, rfl⟩ .nil))) rfl (place_spec A B (List.replicate i [] ++ acc :: d) (all_to (by omega) hd) i j na nb ha hb (fun k hk => by have := (hn2 k hk).2; simp; omega) (by omega) (fun r hr => (hb4 r hr).2) (by omega))) (by dsimp only [putD, List.set]) ?_
        refine at_mv 51 47 rfl rfl rfl (.inl rfl) rfl (by dsimp only [List.set]) ?_
        refine at_op (some 52) rfl rfl rfl rfl (op_extract rfl rfl) (by dsimp only [putD, List.set]) ?_
        refine at_op (some 53) rfl rfl rfl rfl (op_extract rfl rfl) (by dsimp only [putD, List.set]) ?_
        refine at_mv 52 5 rfl rfl rfl (.inr rfl) rfl (by dsimp only [List.set]) ?_
        refine at_mv 53 6 rfl rfl rfl (.inr rfl) rfl (by dsimp only [List.set]) ?_
        refine at_end rfl ?_
        refine at_seq [1, 1, 0, 0, 1, 0, 0, 1, 0, 0, 1, 1, 0, 0, 1, 1, 1, 0] [1, 1, 0, 0, 1, 0, 0, 1, 0, 0, 1, 1, 0, 0, 1, 1, 1, 1] rfl ?_
        refine at_region rfl ?_
        refine at_mv 6 54 rfl rfl rfl (.inl rfl) rfl (by dsimp only [List.set]) ?_
        refine at_end rfl ?_
        refine at_cond [1, 1, 0, 0, 1, 0, 0, 1, 0, 0, 1, 1, 0, 0, 1, 1, 1, 1, 0] [1, 1, 0, 0, 1, 0, 0, 1, 0, 0, 1, 1, 0, 0, 1, 1, 1, 1, 1] rfl rfl (fun hc3 => ?_) (fun hc3 => ?_)
        · skip
          rw [hc3] at hrow
          rw [hrow] at hT
          refine at_draw mixed rfl [solSt A B i acc d, solSt A B i acc d, ⟨[seObj A B, some (toCells i acc d)], [(1, 1, pv acc ++ [vi ↑j])]⟩, ⟨[seObj A B, some ((toCells i acc d).set i (.acc 1 (pv acc ++ [vi ↑j])))], [(1, 1, pv acc ++ [vi ↑j])]⟩] rfl ?_
          refine da_mv 0 55 rfl rfl rfl (.inl rfl) rfl (by dsimp only [List.set]) ?_
          first | (refine da_quiet (some 56) rfl rfl rfl rfl (fun s hs => op_nilCheck_ptr rfl) (by dsimp only [putD, List.set]) ?_) | (refine da_quiet (some 56) rfl rfl rfl rfl (fun s hs => op_nilCheck_ref rfl) (by dsimp only [putD, List.set]) ?_)
          first | (refine da_quiet (some 57) rfl rfl rfl rfl (fun s hs => op_fieldP rfl ffld2_tree_search (by decide)) (by dsimp only [putD, List.set]) ?_) | (refine da_quiet (some 57) rfl rfl rfl rfl (fun s hs => op_fieldR rfl ffld2_tree_search (by decide) (by decide) rfl) (by dsimp only [putD, List.set]) ?_)
          first | (refine da_quiet (some 58) rfl rfl rfl rfl (fun s hs => op_loadR1 rfl fone__5b5d5b5d_int rfl) (by dsimp only [putD, List.set]) ?_) | (refine da_quiet (some 58) rfl rfl rfl rfl (by intro s hs; simp only [List.mem_cons, List.not_mem_nil, or_false] at hs; rcases hs with rfl | rfl | rfl | rfl <;> exact op_loadP1 rfl fone__5b5d5b5d_int rfl rfl) (by dsimp only [putD, List.set]) ?_)
          refine da_mv 2 59 rfl rfl rfl (.inl rfl) rfl (by dsimp only [List.set]) ?_
          refine da_mv 0 60 rfl rfl rfl (.inl rfl) rfl (by dsimp only [List.set]) ?_
          first | (refine da_quiet (some 61) rfl rfl rfl rfl (fun s hs => op_nilCheck_ptr rfl) (by dsimp only [putD, List.set]) ?_) | (refine da_quiet (some 61) rfl rfl rfl rfl (fun s hs => op_nilCheck_ref rfl) (by dsimp only [putD, List.set]) ?_)
          first | (refine da_quiet (some 62) rfl rfl rfl rfl (fun s hs => op_fieldP rfl ffld2_tree_search (by decide)) (by dsimp only [putD, List.set]) ?_) | (refine da_quiet (some 62) rfl rfl rfl rfl (fun s hs => op_fieldR rfl ffld2_tree_search (by decide) (by decide) rfl) (by dsimp only [putD, List.set]) ?_)
          first | (refine da_quiet (some 63) rfl rfl rfl rfl (fun s hs => op_loadR1 rfl fone__5b5d5b5d_int rfl) (by dsimp only [putD, List.set]) ?_) | (refine da_quiet (some 63) rfl rfl rfl rfl (by intro s hs; simp only [List.mem_cons, List.not_mem_nil, or_false] at hs; rcases hs with rfl | rfl | rfl | rfl <;> exact op_loadP1 rfl fone__5b5d5b5d_int rfl rfl) (by dsimp only [putD, List.set]) ?_)
          refine da_mv 2 64 rfl rfl rfl (.inl rfl) rfl (by dsimp only [List.set]) ?_
          first | (refine da_quiet (some 65) rfl rfl rfl rfl (fun s hs => op_idxL rfl fsl__5b5d5b5d_int (by first | decide | omega) (by first | assumption | exact idx_some (by assumption) | rfl) (by first | rfl | (simp [V.size]; done))) (by dsimp only [putD, List.set]) ?_) | (refine da_quiet (some 65) rfl rfl rfl rfl (fun s hs => opOK_un (op_idxL rfl fsl__5b5d5b5d_int (by first | decide | omega) (by first | assumption | exact idx_some (by assumption) | rfl) (by first | rfl | (simp [V.size]; done)))) (by dsimp only [putD, List.set]) ?_) | (refine da_quiet (some 65) rfl rfl rfl rfl (fun s hs => op_idxA rfl fsl__5b5d5b5d_int (by first | decide | omega) (by first | decide | omega)) (by dsimp only [putD, List.set]) ?_)
          simp only [Int.toNat_natCast, Nat.zero_add, Nat.mul_one]
          refine da_eff (some 66) rfl rfl rfl rfl rfl rfl (op_loadP1 rfl fone_Sint rfl (toCells_get i acc d)) (by dsimp only [putD, List.set]) ?_
          refine da_mv 3 67 rfl rfl rfl (.inl rfl) rfl (by dsimp only [List.set]) ?_
          refine da_quiet (some 68) rfl rfl rfl rfl (fun s hs => op_buildSlice rfl (by rfl) (by rfl) fsl_Sint rfl rfl (by simp [V.size]) (by decide) (by decide) (by decide)) (by dsimp only [putD, List.set]) ?_
          refine da_eff (some 69) rfl rfl rfl rfl rfl rfl (op_append rfl fsl_Sint rfl (by simp) (by simp [V.size]) (by simp; omega) (by simp; omega)) (by dsimp only [putD, List.set]) ?_
          first | (refine da_quiet (some 70) rfl rfl rfl rfl (fun s hs => op_idxL rfl fsl__5b5d5b5d_int (by first | decide | omega) (by first | assumption | exact idx_some (by assumption) | rfl) (by first | rfl | (simp [V.size]; done))) (by dsimp only [putD, List.set]) ?_) | (refine da_quiet (some 70) rfl rfl rfl rfl (fun s hs => opOK_un (op_idxL rfl fsl__5b5d5b5d_int (by first | decide | omega) (by first | assumption | exact idx_some (by assumption) | rfl) (by first | rfl | (simp [V.size]; done)))) (by dsimp only [putD, List.set]) ?_) | (refine da_quiet (some 70) rfl rfl rfl rfl (fun s hs => op_idxA rfl fsl__5b5d5b5d_int (by first | decide | omega) (by first | decide | omega)) (by dsimp only [putD, List.set]) ?_)
          simp only [Int.toNat_natCast, Nat.zero_add, Nat.mul_one]
          refine da_st1 70 (.tmp 69) rfl rfl rfl rfl rfl rfl rfl (ev_tmp rfl) rfl fone_Sint rfl (by simp) (by first | rfl | (dsimp only [List.set, List.append, List.cons_append, List.nil_append, cellsD, List.map, repl, List.length, Nat.reduceAdd, if_true, ↓reduceIte]; first | done | rfl)) ?_
          refine da_end rfl ⟨by decide +kernel, _, rfl, ?_⟩
          rw [repl_set, show pv acc ++ [vi ↑j] = pv (acc ++ [j]) from by simp]
          refine run_blk ?_
          refine at_region rfl ?_
          refine at_op (some 71) rfl rfl rfl rfl (op_binI rfl rfl) (by dsimp only [putD, List.set]) ?_
          refine at_mv 71 31 rfl rfl rfl (.inl rfl) rfl (by dsimp only [List.set]) ?_
          refine at_end rfl ?_
          rw [wrap_succ (by omega)]
          first | exact run_wk (.keep (.drop (.keep (.drop (.drop (.drop (.drop (.drop (.drop (.drop (.drop (.drop (.drop (.drop (.drop (.drop (.drop (.drop (.drop (.drop (.drop (.drop (.drop (.drop (.drop (.drop (.drop (.drop (.drop (.keep (.keep (.keep (.drop (.drop (.drop (.drop (.drop (.drop (.drop (.drop (.drop (.drop (.drop (.drop (.drop (.drop (.drop (.drop (.drop (.drop (.drop (.drop (.drop (.drop (.drop (.drop (.drop (.drop (.drop (.drop (.drop (.drop (.drop (.drop (.drop (.drop (.drop (.drop (.drop (.drop (.drop (.drop .nil)))))))))))))))))))))))))))))))))))))))))))))))))))))))))))))))))))))))) (ih _ (by omega) (j + 1) _ rfl (by omega) (by simpa using hT)) | exact run_wk (.keep (.drop (.keep (.drop (.drop (.drop (.drop (.drop (.drop (.drop (.drop (.drop (.drop (.drop (.drop (.drop (.drop (.drop (.drop (.drop (.drop (.drop (.drop (.drop (.drop (.drop (.drop (.drop (.drop (.keep (.keep (.keep (.drop (.drop (.drop (.drop (.drop (.drop (.drop (.drop (.drop (.drop (.drop (.drop (.drop (.drop (.drop (.drop (.drop (.drop (.drop (.drop (.drop (.drop (.drop (.drop (.drop (.drop (.drop (.drop (.drop (.drop (.drop (.drop (.drop (.drop (.drop (.drop (.drop (.drop (.drop (.drop .nil)))))))))))))))))))))))))))))))))))))))))))))))))))))))))))))))))))))))) (ih _ (by omega) (j + 1) (acc ++ [j]) rfl (by simp; omega) (by simpa using hT))
        · skip
          rw [hc3] at hrow
          rw [hrow] at hT
          refine at_skip rfl ?_
          refine run_blk ?_
          refine at_region rfl ?_
          refine at_op (some 71) rfl rfl rfl rfl (op_binI rfl rfl) (by dsimp only [putD, List.set]) ?_
          refine at_mv 71 31 rfl rfl rfl (.inl rfl) rfl (by dsimp only [List.set]) ?_
          refine at_end rfl ?_
          rw [wrap_succ (by omega)]
          first | exact run_wk (.keep (.drop (.keep (.drop (.drop (.drop (.drop (.drop (.drop (.drop (.drop (.drop (.drop (.drop (.drop (.drop (.drop (.drop (.drop (.drop (.drop (.drop (.drop (.drop (.drop (.drop (.drop (.drop (.drop (.keep (.keep (.keep (.drop (.drop (.drop (.drop (.drop (.drop (.drop (.drop (.drop (.drop (.drop (.drop (.drop (.drop (.drop (.drop (.drop (.drop (.drop (.drop (.drop (.drop (.drop (.drop (.drop (.drop (.drop (.drop (.drop (.drop (.drop (.drop (.drop (.drop (.drop (.drop (.drop (.drop (.drop (.drop .nil)))))))))))))))))))))))))))))))))))))))))))))))))))))))))))))))))))))))) (ih _ (by omega) (j + 1) _ rfl (by omega) (by simpa using hT)) | exact run_wk (.keep (.drop (.keep (.drop (.drop (.drop (.drop (.drop (.drop (.drop (.drop (.drop (.drop (.drop (.drop (.drop (.drop (.drop (.drop (.drop (.drop (.drop (.drop (.drop (.drop (.drop (.drop (.drop (.drop (.keep (.keep (.keep (.drop (.drop (.drop (.drop (.drop (.drop (.drop (.drop (.drop (.drop (.drop (.drop (.drop (.drop (.drop (.drop (.drop (.drop (.drop (.drop (.drop (.drop (.drop (.drop (.drop (.drop (.drop (.drop (.drop (.drop (.drop (.drop (.drop (.drop (.drop (.drop (.drop (.drop (.drop (.drop .nil)))))))))))))))))))))))))))))))))))))))))))))))))))))))))))))))))))))))) (ih _ (by omega) (j + 1) (acc ++ [j]) rfl (by simp; omega) (by simpa using hT))
    · skip
      have hge : B.length ≤ j := by simpa using hc1
      rw [range_end hge] at hT
      simp only [List.filter_nil, List.append_nil] at hT
      rw [hT] at hk
      refine at_exit rfl rfl ?_
      exact run_wk (.keep (.drop (.keep (.drop (.drop (.drop (.drop (.drop (.drop (.drop (.drop (.drop (.drop (.drop (.drop (.drop (.drop (.drop (.drop (.drop (.drop (.drop (.drop (.drop (.drop (.drop (.drop (.drop (.drop (.drop (.drop (.drop (.drop (.drop (.drop (.drop (.drop (.drop (.drop (.drop (.drop (.drop (.drop (.drop (.drop (.drop (.drop (.drop (.drop (.drop (.drop (.drop (.drop (.drop (.drop (.drop (.drop (.drop (.drop (.drop (.drop (.drop (.drop (.drop (.drop (.drop (.drop (.drop (.drop (.drop (.drop (.drop .nil)))))))))))))))))))))))))))))))))))))))))))))))))))))))))))))))))))))))) hk

set_option maxRecDepth 20000 in
theorem solve_outer (A B : List Nd) (hA : Wf A) (hB : Wf B) (m : Nat) : ∀ (r : Nat) (d : List (List Nat)), r = m → A.length = r + d.length → d = solD A B d.length → Run PP (fun env σ1 => ResOK PP Try.f36 env σ1 (.tup []) ⟨[seObj A B, some ((solD A B A.length).map fun l => dl (il l))], []⟩) [.lp (sub cSolve [1, 1, 0, 0]), .blk 0] ((.ptr 0 0) :: .undef :: (di (↑r - 1)) :: .undef :: .undef :: .undef :: .undef :: .undef :: .undef :: .undef :: .undef :: .undef :: .undef :: .undef :: .undef :: .undef :: .undef :: .undef :: .undef :: .undef :: .undef :: .undef :: .undef :: .undef :: .undef :: .undef :: .undef :: .undef :: .undef :: .undef :: .undef :: .undef :: .undef :: .undef :: .undef :: .undef :: .undef :: .undef :: .undef :: .undef :: .undef :: .undef :: .undef :: .undef :: .undef :: .undef :: .undef :: .undef :: .undef :: .undef :: .undef :: .undef :: .undef :: .undef :: .undef :: .undef :: .undef :: .undef :: .undef :: .undef :: .undef :: .undef :: .undef :: .undef :: .undef :: .undef :: .undef :: .undef :: .undef :: .undef :: .undef :: .undef :: []) ⟨[seObj A B, some (doneCells r d)], []⟩ := by
  induction m using Nat.strongRecOn with
  | _ m ih =>
    intro r d hm hl hd0
    have hAl := hA.len
    have hBl := hB.len
    have hd : ∀ l ∈ d, l.length ≤ 1000000 := by
      rw [hd0]; intro l hl2; exact Nat.le_trans (solD_len hl2) (by omega)
    refine run_lp ?_
    refine at_seq [1, 1, 0, 0, 0] [1, 1, 0, 0, 1] rfl ?_
    refine at_seq [1, 1, 0, 0, 0, 0] [1, 1, 0, 0, 0, 1] rfl ?_
    refine at_region rfl ?_
    refine at_mv 2 22 rfl rfl rfl (.inl rfl) rfl (by dsimp only [List.set]) ?_
    refine at_op (some 23) rfl rfl rfl rfl (op_binI rfl rfl) (by dsimp only [putD, List.set]) ?_
    refine at_end rfl ?_
    refine at_cond [1, 1, 0, 0, 0, 1, 0] [1, 1, 0, 0, 0, 1, 1] rfl rfl (fun hc1 => ?_) (fun hc1 => ?_)
    · skip
      obtain ⟨i, rfl⟩ : ∃ i, r = i + 1 := ⟨r - 1, by simp at hc1; omega⟩
      rw [show (((i + 1 : Nat) : Int) - 1) = (i : Int) by omega, show doneCells (i + 1) d = List.replicate i (D.v .nils) ++ .v .nils :: d.map (fun l => dl (il l)) from repl_snoc _ _ _]
      obtain ⟨na, ha⟩ := get_ex (a := A) (i := i) (by omega)
      refine run_cv (cv_claim 1 i 1 1 rfl (repl_get _ _ _ _) (by simp) (by decide)) ?_
      simp only [List.set_cons_succ, List.set_cons_zero, repl_set]
      refine at_skip rfl ?_
      refine at_seq [1, 1, 0, 0, 1, 0] [1, 1, 0, 0, 1, 1] rfl ?_
      refine at_block [1, 1, 0, 0, 1, 0, 0] 1 rfl ?_
      refine at_seq [1, 1, 0, 0, 1, 0, 0, 0] [1, 1, 0, 0, 1, 0, 0, 1] rfl ?_
      refine at_region rfl ?_
      refine at_mv 0 26 rfl rfl rfl (.inl rfl) rfl (by dsimp only [List.set]) ?_
      first | (refine at_op (some 27) rfl rfl rfl rfl (op_nilCheck_ptr rfl) (by dsimp only [putD, List.set]) ?_) | (refine at_op (some 27) rfl rfl rfl rfl (op_nilCheck_ref rfl) (by dsimp only [putD, List.set]) ?_)
      first | (refine at_op (some 28) rfl rfl rfl rfl (op_fieldP rfl ffld1_tree_search (by decide)) (by dsimp only [putD, List.set]) ?_) | (refine at_op (some 28) rfl rfl rfl rfl (op_fieldR rfl ffld1_tree_search (by decide) (by decide) rfl) (by dsimp only [putD, List.set]) ?_)
      first | (refine at_op (some 29) rfl rfl rfl rfl (op_loadR1 rfl fone_Stree_node rfl) (by dsimp only [putD, List.set]) ?_) | (refine at_op (some 29) rfl rfl rfl rfl (op_loadP1 rfl fone_Stree_node rfl rfl) (by dsimp only [putD, List.set]) ?_)
      first | (refine at_op (some 30) rfl rfl rfl rfl (op_lenL rfl fu_Stree_node) (by dsimp only [putD, List.set]) ?_) | (refine at_op (some 30) rfl rfl rfl rfl (opOK_un (op_lenL rfl fu_Stree_node)) (by dsimp only [putD, List.set]) ?_) | (refine at_op (some 30) rfl rfl rfl rfl (op_lenA rfl fu_Stree_node) (by dsimp only [putD, List.set]) ?_)
      refine at_mc 31 rfl rfl rfl (.inl rfl) (by dsimp only [constD]) (by dsimp only [List.set]) ?_
      refine at_end rfl ?_
      refine at_block [1, 1, 0, 0, 1, 0, 0, 1, 0] 2 rfl ?_
      refine at_loop [1, 1, 0, 0, 1, 0, 0, 1, 0, 0] rfl ?_
      try simp only [List.length_map, List.length_nil, Int.toNat_natCast]
      refine run_wk (.keep (.drop (.keep (.drop (.drop (.drop (.drop (.drop (.drop (.drop (.drop (.drop (.drop (.drop (.drop (.drop (.drop (.drop (.drop (.drop (.drop (.drop (.drop (.drop (.drop (.drop (.drop (.drop (.drop (.keep (.keep (.keep (.drop (.drop (.drop (.drop (.drop (.drop (.drop (.drop (.drop (.drop (.drop (.drop (.drop (.drop (.drop (.drop (.drop (.drop (.drop (.drop (.drop (.drop (.drop (.drop (.drop (.drop (.drop (.drop (.drop (.drop (.drop (.drop (.drop (.drop (.drop (.drop (.drop (.drop (.drop (.drop .nil)))))))))))))))))))))))))))))))))))))))))))))))))))))))))))))))))))))))) (solve_inner _ _ A B hA hB i na ha d (by omega) hd (rowM A B (List.replicate i [] ++ [] :: d) i) ?_ _ 0 [] rfl (by simp) (by rw [List.drop_zero, List.nil_append]; rfl))
      refine run_cv (cv_see (q := 1) (cs := toCells i (rowM A B (List.replicate i [] ++ [] :: d) i) d) rfl (SeeL.set .acc (toCells_get i _ d)).sees) ?_
      simp only [List.set_cons_succ, List.set_cons_zero, toCells, repl_set]
      have e1 : List.replicate i (D.v .nils) ++ D.v (.list (pv (rowM A B (List.replicate i [] ++ [] :: d) i))) :: d.map (fun l => dl (il l)) = doneCells i (rowM A B (List.replicate i [] ++ [] :: d) i :: d) := rfl
      rw [e1]
      refine run_drop 1 (by simp [D.noTag]) noTag_cells ?_
      simp only [List.filter_cons, List.filter_nil, bne_self_eq_false, Bool.false_eq_true, if_false]
      refine run_blk ?_
      refine at_region rfl ?_
      refine at_mv 2 24 rfl rfl rfl (.inl rfl) rfl (by dsimp only [List.set]) ?_
      refine at_op (some 25) rfl rfl rfl rfl (op_binI rfl rfl) (by dsimp only [putD, List.set]) ?_
      refine at_mv 25 2 rfl rfl rfl (.inr rfl) rfl (by dsimp only [List.set]) ?_
      refine at_end rfl ?_
      rw [wrap_id (by omega) (by omega)]
      exact run_wk (.keep (.drop (.keep (.drop (.drop (.drop (.drop (.drop (.drop (.drop (.drop (.drop (.drop (.drop (.drop (.drop (.drop (.drop (.drop (.drop (.drop (.drop (.drop (.drop (.drop (.drop (.drop (.drop (.drop (.drop (.drop (.drop (.drop (.drop (.drop (.drop (.drop (.drop (.drop (.drop (.drop (.drop (.drop (.drop (.drop (.drop (.drop (.drop (.drop (.drop (.drop (.drop (.drop (.drop (.drop (.drop (.drop (.drop (.drop (.drop (.drop (.drop (.drop (.drop (.drop (.drop (.drop (.drop (.drop (.drop (.drop (.drop .nil)))))))))))))))))))))))))))))))))))))))))))))))))))))))))))))))))))))))) (ih i (by omega) i _ rfl (by simp; omega) (by simp only [List.length_cons, solD]; rw [← hd0, show A.length - (d.length + 1) = i by omega]))
    · skip
      have hr0 : r = 0 := by simp at hc1; omega
      refine at_exit rfl rfl ?_
      refine run_nil ?_
      have e : doneCells r d = (solD A B A.length).map (fun l => dl (il l)) := by rw [hr0, hd0, show d.length = A.length by omega]; simp
      rw [e]; exact ret_keep rfl rfl

set_option maxRecDepth 20000 in
theorem solve_spec (A B : List Nd) (hA : Wf A) (hB : Wf B) : FSpec PP 36 [.ptr 0 0] ⟨[some [dnl A, dnl B, .v (.list [])]], []⟩ (.tup []) ⟨[seObj A B, some ((solD A B A.length).map fun l => dl (il l))], []⟩ := by
  have hAl := hA.len
  refine spec_at cSolve Try.func36 rfl (by kernel_rfl) (by first | decide | simp) _ (by dsimp only [Try.f36, List.length, Nat.reduceAdd, Nat.reduceSub, List.replicate, List.cons_append, List.nil_append]) ?_
  refine at_seq [0] [1] rfl ?_
  refine at_region rfl ?_
  refine at_mv 0 7 rfl rfl rfl (.inl rfl) rfl (by dsimp only [List.set]) ?_
  refine at_mv 0 8 rfl rfl rfl (.inl rfl) rfl (by dsimp only [List.set]) ?_
  first | (refine at_op (some 9) rfl rfl rfl rfl (op_nilCheck_ptr rfl) (by dsimp only [putD, List.set]) ?_) | (refine at_op (some 9) rfl rfl rfl rfl (op_nilCheck_ref rfl) (by dsimp only [putD, List.set]) ?_)
  first | (refine at_op (some 10) rfl rfl rfl rfl (op_fieldP rfl ffld0_tree_search (by decide)) (by dsimp only [putD, List.set]) ?_) | (refine at_op (some 10) rfl rfl rfl rfl (op_fieldR rfl ffld0_tree_search (by decide) (by decide) rfl) (by dsimp only [putD, List.set]) ?_)
  first | (refine at_op (some 11) rfl rfl rfl rfl (op_loadR1 rfl fone_Stree_node rfl) (by dsimp only [putD, List.set]) ?_) | (refine at_op (some 11) rfl rfl rfl rfl (op_loadP1 rfl fone_Stree_node rfl rfl) (by dsimp only [putD, List.set]) ?_)
  first | (refine at_op (some 12) rfl rfl rfl rfl (op_lenL rfl fu_Stree_node) (by dsimp only [putD, List.set]) ?_) | (refine at_op (some 12) rfl rfl rfl rfl (opOK_un (op_lenL rfl fu_Stree_node)) (by dsimp only [putD, List.set]) ?_) | (refine at_op (some 12) rfl rfl rfl rfl (op_lenA rfl fu_Stree_node) (by dsimp only [putD, List.set]) ?_)
  simp only [List.length_map]
  refine at_opS (some 13) rfl rfl rfl rfl (op_makeN rfl fsl__5b5d5b5d_int rfl (by omega) (by omega) (by omega)) (by dsimp only [putD, List.set]) (by dsimp only [List.set, List.append, List.cons_append, List.nil_append, cellsD, List.map, repl, List.length, Nat.reduceAdd, if_true, ↓reduceIte]; first | done | rfl) ?_
  first | (refine at_op (some 14) rfl rfl rfl rfl (op_nilCheck_ptr rfl) (by dsimp only [putD, List.set]) ?_) | (refine at_op (some 14) rfl rfl rfl rfl (op_nilCheck_ref rfl) (by dsimp only [putD, List.set]) ?_)
  first | (refine at_op (some 15) rfl rfl rfl rfl (op_fieldP rfl ffld2_tree_search (by decide)) (by dsimp only [putD, List.set]) ?_) | (refine at_op (some 15) rfl rfl rfl rfl (op_fieldR rfl ffld2_tree_search (by decide) (by decide) rfl) (by dsimp only [putD, List.set]) ?_)
  refine at_st1 15 (.tmp 13) rfl rfl rfl rfl rfl (ev_tmp rfl) rfl fone__5b5d5b5d_int rfl (by first | decide | simp | (simp; omega)) (by dsimp only [List.set, List.append, List.cons_append, List.nil_append, cellsD, List.map, repl, List.length, Nat.reduceAdd, if_true, ↓reduceIte]; first | done | rfl) ?_
  refine at_end rfl ?_
  rw [Int.toNat_natCast]
  refine at_seq [1, 0] [1, 1] rfl ?_
  refine at_region rfl ?_
  refine at_mv 0 16 rfl rfl rfl (.inl rfl) rfl (by dsimp only [List.set]) ?_
  first | (refine at_op (some 17) rfl rfl rfl rfl (op_nilCheck_ptr rfl) (by dsimp only [putD, List.set]) ?_) | (refine at_op (some 17) rfl rfl rfl rfl (op_nilCheck_ref rfl) (by dsimp only [putD, List.set]) ?_)
  first | (refine at_op (some 18) rfl rfl rfl rfl (op_fieldP rfl ffld0_tree_search (by decide)) (by dsimp only [putD, List.set]) ?_) | (refine at_op (some 18) rfl rfl rfl rfl (op_fieldR rfl ffld0_tree_search (by decide) (by decide) rfl) (by dsimp only [putD, List.set]) ?_)
  first | (refine at_op (some 19) rfl rfl rfl rfl (op_loadR1 rfl fone_Stree_node rfl) (by dsimp only [putD, List.set]) ?_) | (refine at_op (some 19) rfl rfl rfl rfl (op_loadP1 rfl fone_Stree_node rfl rfl) (by dsimp only [putD, List.set]) ?_)
  first | (refine at_op (some 20) rfl rfl rfl rfl (op_lenL rfl fu_Stree_node) (by dsimp only [putD, List.set]) ?_) | (refine at_op (some 20) rfl rfl rfl rfl (opOK_un (op_lenL rfl fu_Stree_node)) (by dsimp only [putD, List.set]) ?_) | (refine at_op (some 20) rfl rfl rfl rfl (op_lenA rfl fu_Stree_node) (by dsimp only [putD, List.set]) ?_)
  simp only [List.length_map]
  refine at_op (some 21) rfl rfl rfl rfl (op_binI rfl rfl) (by dsimp only [putD, List.set]) ?_
  refine at_mv 21 2 rfl rfl rfl (.inr rfl) rfl (by dsimp only [List.set]) ?_
  refine at_end rfl ?_
  rw [wrap_id (by omega) (by omega)]
  refine at_block [1, 1, 0] 0 rfl ?_
  refine at_loop [1, 1, 0, 0] rfl ?_
  try simp only [List.length_map, List.length_nil, Int.toNat_natCast]
  have := solve_outer A B hA hB _ A.length [] rfl (by simp) rfl
  simp only [doneCells, List.map_nil, List.append_nil] at this
  exact run_wk (.keep (.drop (.keep (.drop (.drop (.drop (.drop (.drop (.drop (.drop (.drop (.drop (.drop (.drop (.drop (.drop (.drop (.drop (.drop (.drop (.drop (.drop (.drop (.drop (.drop (.drop (.drop (.drop (.drop (.drop (.drop (.drop (.drop (.drop (.drop (.drop (.drop (.drop (.drop (.drop (.drop (.drop (.drop (.drop (.drop (.drop (.drop (.drop (.drop (.drop (.drop (.drop (.drop (.drop (.drop (.drop (.drop (.drop (.drop (.drop (.drop (.drop (.drop (.drop (.drop (.drop (.drop (.drop (.drop (.drop (.drop (.drop .nil)))))))))))))))))))))))))))))))))))))))))))))))))))))))))))))))))))))))) this

end Go.Proofs.Ytaceggcohmmfhaa

namespace Go.Proofs.Ytaceggcohmmfhaa
open Go.Dv Tr

/- nodes are well formed -/
theorem posL_range : ∀ (a : Nat) (ks : List Tr) (k : Nat), k ∈ posL a ks → a ≤ k ∧ k < a + szl ks
  | a, [], k, h => by simp [posL] at h
  | a, t :: ks, k, h => by
    simp only [posL] at h
    have := size_pos t
    rw [szl_cons]
    rcases List.mem_cons.1 h with rfl | h
    · omega
    · have := posL_range (a + t.size) ks k h; omega
mutual
theorem nodesM_wf : ∀ (t : Tr) (a x : Nat) (na : Nd), (nodesM a t)[x]? = some na → na.kids.length ≤ t.size ∧ ∀ k ∈ na.kids, a + x < k ∧ k < a + t.size
  | .mk l ks, a, x, na, h => by
    simp only [nodesM] at h
    simp only [size]
    cases x with
    | zero =>
      simp at h; subst h
      refine ⟨by simp only [posL_length]; have := szl_len ks; omega, fun k hk => ?_⟩
      have := posL_range _ _ _ hk; omega
    | succ x =>
      simp at h
      have := nodesL_wf ks (a + 1) x na h
      refine ⟨by omega, fun k hk => ?_⟩
      have := this.2 k hk; omega
theorem nodesL_wf : ∀ (ks : List Tr) (a x : Nat) (na : Nd), (nodesL a ks)[x]? = some na → na.kids.length ≤ szl ks ∧ ∀ k ∈ na.kids, a + x < k ∧ k < a + szl ks
  | [], a, x, na, h => by simp [nodesL] at h
  | t :: ks, a, x, na, h => by
    simp only [nodesL] at h
    simp only [szl]
    by_cases hx : x < t.size
    · rw [List.getElem?_append_left (by rw [nodesM_length]; exact hx)] at h
      have := nodesM_wf t a x na h
      refine ⟨by omega, fun k hk => ?_⟩
      have := this.2 k hk; omega
    · rw [List.getElem?_append_right (by rw [nodesM_length]; omega), nodesM_length] at h
      have := nodesL_wf ks (a + t.size) (x - t.size) na h
      refine ⟨by omega, fun k hk => ?_⟩
      have := this.2 k hk; omega
end
theorem nodesT_wf (t : Tr) : Wf (nodesT t) := by
  refine ⟨by have := nodesT_small t; omega, fun i na h => ?_⟩
  have h12 := nodesT_small t
  have hl := nodesT_length t
  unfold nodesT at h h12 hl
  cases hv : validT t with
  | false => simp [hv] at h
  | true =>
    simp only [hv, if_true] at h h12 hl
    have := nodesM_wf t 0 i na h
    unfold nodesT
    simp only [hv, if_true]
    refine ⟨by omega, fun k hk => ?_⟩
    have := this.2 k hk; omega

/- what solving comes to -/
theorem solD_drop (A B : List Nd) : ∀ (k x : Nat), x ≤ k → (solD A B k).drop x = solD A B (k - x)
  | k, 0, _ => by simp
  | 0, x + 1, h => by omega
  | k + 1, x + 1, h => by
    simp only [solD, List.drop_succ_cons]
    rw [solD_drop A B k x (by omega), Nat.add_sub_add_right]
theorem sol_row {A B : List Nd} (hA : Wf A) {i : Nat} (hi : i < A.length) : gt (solD A B A.length) i = rowM A B (solD A B A.length) i := by
  have h1 : (solD A B A.length)[i]? = (solD A B (A.length - i))[0]? := by rw [← solD_drop A B A.length i (by omega), List.getElem?_drop, Nat.add_zero]
  obtain ⟨k, hk⟩ : ∃ k, A.length - i = k + 1 := ⟨A.length - i - 1, by omega⟩
  unfold gt
  rw [h1, hk]
  simp only [solD, List.getElem?_cons_zero, Option.getD_some]
  rw [show A.length - (k + 1) = i by omega]
  unfold rowM
  congr 1
  funext j
  unfold rowOK
  cases ha : A[i]? with
  | none => rfl
  | some na =>
    cases hb : B[j]? with
    | none => rfl
    | some nb =>
      simp only
      rw [plM_congr na.kids nb.kids]
      intro x hx r
      have hxi := (hA.kids i na ha).2 x hx
      unfold intoT
      congr 1
      unfold gt
      rw [List.getElem?_append_right (by simp; omega), List.length_replicate]
      obtain ⟨y, hy⟩ : ∃ y, x - i = y + 1 := ⟨x - i - 1, by omega⟩
      rw [hy, List.getElem?_cons_succ]
      congr 1
      rw [show k = A.length - (i + 1) by omega, ← solD_drop A B A.length (i + 1) (by omega), List.getElem?_drop]
      congr 1; omega

theorem intoM_mem {l : List Nat} {j e : Nat} (h : 0 ≤ intoM l j e) : ∃ w ∈ l, intoM l j e = (w : Int) ∧ j ≤ w ∧ w < e := by
  unfold intoM at h ⊢
  by_cases hn : idxP (inP j e) (il l) 0 < 0
  · rw [if_pos hn] at h; omega
  · rw [if_neg hn]
    obtain ⟨x, h1, h2⟩ := idxP_get0 (p := inP j e) (xs := il l) (by omega)
    rw [List.getD_eq_getElem?_getD, h1]
    have := List.mem_of_getElem? h1
    obtain ⟨w, hw, rfl⟩ := List.mem_map.1 this
    simp [inP] at h2
    exact ⟨w, hw, rfl, by omega, by omega⟩
theorem plM_mem {f : Nat → Nat → Int} : ∀ {ks rest : List Nat} {l : List Int}, plM f ks rest = some l → l.length = ks.length ∧ ∀ (x kid : Nat) (v : Int), ks[x]? = some kid → l[x]? = some v → ∃ r ∈ rest, v = f kid r ∧ 0 ≤ v
  | [], rest, l, h => by simp [plM] at h; subst h; simp
  | k :: ks, [], l, h => by simp [plM] at h
  | k :: ks, r :: rest, l, h => by
    simp only [plM] at h
    split at h
    · rename_i hk
      cases hp : plM f ks rest with
      | none => simp [hp] at h
      | some l' =>
        simp [hp] at h; subst h
        obtain ⟨h1, h2⟩ := plM_mem hp
        refine ⟨by simp [h1], fun x kid v hx hv => ?_⟩
        cases x with
        | zero => simp at hx hv; subst hx hv; exact ⟨r, by simp, rfl, hk⟩
        | succ x =>
          simp at hx hv
          obtain ⟨r', h3, h4⟩ := h2 x kid v hx hv
          exact ⟨r', List.mem_cons_of_mem _ h3, h4⟩
    · obtain ⟨h1, h2⟩ := plM_mem h
      refine ⟨h1, fun x kid v hx hv => ?_⟩
      obtain ⟨r', h3, h4⟩ := h2 x kid v hx hv
      exact ⟨r', List.mem_cons_of_mem _ h3, h4⟩

/-- every way that is noted can be gone -/
structure Good (A B : List Nd) (to : List (List Nat)) : Prop where
  wa : Wf A
  wb : Wf B
  len : to.length = A.length
  lens : ∀ l ∈ to, l.length ≤ 1000000
  go : ∀ i j, j ∈ gt to i → ∃ na nb l, A[i]? = some na ∧ B[j]? = some nb ∧ plM (intoT B to) na.kids nb.kids = some l
theorem sol_good {A B : List Nd} (hA : Wf A) (hB : Wf B) : Good A B (solD A B A.length) := by
  refine ⟨hA, hB, solD_length A B _, fun l hl => ?_, fun i j hj => ?_⟩
  · have := solD_len hl; have := hB.len; omega
  · by_cases hi : i < A.length
    · rw [sol_row hA hi] at hj
      have := (List.mem_filter.1 hj).2
      unfold rowOK at this
      cases ha : A[i]? with
      | none => simp [ha] at this
      | some na =>
        cases hb : B[j]? with
        | none => simp [ha, hb] at this
        | some nb =>
          simp only [ha, hb, Bool.and_eq_true] at this
          obtain ⟨l, hl⟩ := Option.isSome_iff_exists.1 this.2
          exact ⟨na, nb, l, rfl, rfl, hl⟩
    · unfold gt at hj
      rw [List.getElem?_eq_none (by rw [solD_length]; omega)] at hj
      simp at hj

def kidsOf (A : List Nd) (i : Nat) : List Nat := ((A[i]?).map Nd.kids).getD []
def putM (f : Nat → Nat → Int) (A B : List Nd) : Nat → List Int → Nat → Int → List Int
  | 0, out, _, _ => out
  | n + 1, out, i, j => ((kidsOf A i).zip ((plM f (kidsOf A i) (kidsOf B j.toNat)).getD [])).foldl (fun out p => putM f A B n out p.1 p.2) (out.set i j)
theorem putM_length {f : Nat → Nat → Int} {A B : List Nd} : ∀ (n : Nat) (out : List Int) (i : Nat) (j : Int), (putM f A B n out i j).length = out.length
  | 0, out, i, j => rfl
  | n + 1, out, i, j => by
    simp only [putM]
    have : ∀ (l : List (Nat × Int)) (out : List Int), (l.foldl (fun out p => putM f A B n out p.1 p.2) out).length = out.length := by
      intro l
      induction l with
      | nil => intro out; rfl
      | cons p l ih => intro out; simp only [List.foldl_cons]; rw [ih, putM_length n]
    rw [this]; simp
abbrev dli (out : List Int) : List D := (out.map vi).map .v
theorem zip_drop {α β : Type} {a : List α} {b : List β} {i : Nat} {x : α} {y : β} (ha : a[i]? = some x) (hb : b[i]? = some y) : (a.zip b).drop i = (x, y) :: (a.zip b).drop (i + 1) := by
  have h : (a.zip b)[i]? = some (x, y) := by simp [List.getElem?_zip_eq_some, ha, hb]
  obtain ⟨h1, h2⟩ := List.getElem?_eq_some_iff.1 h
  rw [List.drop_eq_getElem_cons h1, h2]
theorem dli_set (out : List Int) (i : Nat) (v : Int) : (dli out).set i (.v (vi v)) = dli (out.set i v) := by simp [List.map_set]
theorem dli_zero (n : Nat) : List.replicate n (D.v (.int .i64 0)) = dli (List.replicate n 0) := by simp
theorem dli_len (out : List Int) : (dli out).length = out.length := by simp
theorem lend_ints {L : Nat → Option (List D)} {q n : Nat} {out : List Int} (hL : L q = some (dli out)) (hn : n = out.length) : lends L 1 (.arr q 0 n) (vl out) := by
  subst hn
  refine .inr (.inr ⟨q, 0, 1, dli out, out.map vi, .inl (by simp), rfl, by decide, by simp [V.size], hL, fun j y hj => ?_⟩)
  have hf : (out.map vi).flatMap V.cellsV = out.map vi := by
    clear hj hL
    induction out with
    | nil => rfl
    | cons l to ih => simp only [List.map_cons, List.flatMap_cons, V.cellsV, ih]; rfl
  rw [hf] at hj
  have hj2 := hj
  rw [List.getElem?_map] at hj
  cases hl : out[j]? with
  | none => simp [hl] at hj
  | some l =>
    simp [hl] at hj
    subst hj
    exact ⟨rfl, .v (vi l), by simp [hl], _, .same, rfl⟩

def embG (A B : List Nd) (to : List (List Nat)) : List Nat → Option (List Int)
  | [] => none
  | j :: _ => some (putM (intoT B to) A B A.length (List.replicate A.length 0) 0 j)
def embT (a b : Tr) : Option (List Int) := embG (nodesT a) (nodesT b) (solD (nodesT a) (nodesT b) (nodesT a).length) (gt (solD (nodesT a) (nodesT b) (nodesT a).length) 0)
abbrev solveF : FuncId := 36
theorem solve_call {o : Oper} {c : Call} {fo : Operand} (ho : o.op = .call c) (hc : c.callee = .value fo) {A B : List Nd} (hA : Wf A) (hB : Wf B) :
    OpOK PP o [dfn solveF, .ptr 0 0] ⟨[some [dnl A, dnl B, .v (.list [])]], []⟩ (.tup []) ⟨[seObj A B, some ((solD A B A.length).map fun l => dl (il l))], []⟩ := by
  have hm : (solD A B A.length).map (fun l => dl (il l)) = ((solD A B A.length).map fun l => vl (il l)).map .v := by simp
  have h := op_callG (σ := ⟨[some [dnl A, dnl B, .v (.list [])]], []⟩) ho hc (fD := dfn solveF) rfl (ds := [.ptr 0 0]) [0] id (solve_spec A B hA hB) (.cons (.ren (dc := .ptr 0 0) rfl) .nil) (.cons rfl (.cons (.ren (dc := dnl A) rfl) (.cons (.ren (dc := dnl B) rfl) (.cons (.ren (dc := .v (.list [])) rfl) .nil))) rfl .nil) (by simp) rfl (by simp) (by simp)
    rfl (by simp only [okH, D.okNs, D.okN, hm, okNs_vs, List.length_cons, List.length_nil]; rfl)
  simp only [hm, renH, List.map_cons, List.map_nil, Option.map_some, rens_vs, backH, D.rens, D.ren, renOwn, List.nil_append, List.set_cons_zero, List.cons_append] at h
  rw [hm]
  exact h
theorem gt_get {to : List (List Nat)} {i : Nat} {l : List Nat} (h : to[i]? = some l) : gt to i = l := by simp [gt, h]

noncomputable def cPut : Code := Try.f37.body.getD .skip
set_option maxRecDepth 20000 in
theorem put_loop (A B : List Nd) (to : List (List Nat)) (hG : Good A B to) (N : Nat) (ih : ∀ (i j : Nat) (out : List Int), A.length - i ≤ N → j ∈ gt to i → out.length = A.length → FSpec PP 37 [.v (.ref (vse A B to)), .arr 0 0 A.length, di ↑i, di ↑j] ⟨[some (dli out)], []⟩ (.tup []) ⟨[some (dli (putM (intoT B to) A B N out i ↑j))], []⟩) (i : Nat) (hi : A.length - i ≤ N + 1) (ks : List Nat) (hkl : ks.length ≤ 1000) (hks : ∀ k ∈ ks, i < k ∧ k < A.length) (l : List Int) (hlk : l.length = ks.length) (hl : ∀ (x kid : Nat) (v : Int), ks[x]? = some kid → l[x]? = some v → ∃ w ∈ gt to kid, v = (w : Int)) (T : List Int) (m : Nat) : ∀ (ix : Nat) (out : List Int), ks.length - ix = m → out.length = A.length → T = ((ks.zip l).drop ix).foldl (fun out p => putM (intoT B to) A B N out p.1 p.2) out → Run PP (fun env σ1 => ResOK PP Try.f37 env σ1 (.tup []) ⟨[some (dli T)], []⟩) [.lp (sub cPut [1, 1, 1, 0, 0]), .blk 0] ((.v (.ref (vse A B to))) :: (.arr 0 0 A.length) :: .undef :: .undef :: .undef :: .undef :: .undef :: .undef :: (dl l) :: .undef :: .undef :: .undef :: .undef :: .undef :: .undef :: .undef :: .undef :: .undef :: .undef :: .undef :: .undef :: .undef :: .undef :: .undef :: .undef :: .undef :: .undef :: .undef :: .undef :: .undef :: (dl (il ks)) :: (di ↑ks.length) :: (di ↑ix) :: .undef :: .undef :: .undef :: .undef :: .undef :: .undef :: .undef :: .undef :: .undef :: .undef :: .undef :: .undef :: .undef :: []) ⟨[some (dli out)], []⟩ := by
  induction m using Nat.strongRecOn with
  | _ m ih2 =>
    intro ix out hm ho hT
    refine run_lp ?_
    refine at_seq [1, 1, 1, 0, 0, 0] [1, 1, 1, 0, 0, 1] rfl ?_
    refine at_region rfl ?_
    refine at_op (some 33) rfl rfl rfl rfl (op_binI rfl rfl) (by dsimp only [putD, List.set]) ?_
    refine at_end rfl ?_
    refine at_seq [1, 1, 1, 0, 0, 1, 0] [1, 1, 1, 0, 0, 1, 1] rfl ?_
    refine at_cond [1, 1, 1, 0, 0, 1, 0, 0] [1, 1, 1, 0, 0, 1, 0, 1] rfl rfl (fun hc1 => ?_) (fun hc1 => ?_)
    · skip
      have hlt : ix < ks.length := by simpa using hc1
      obtain ⟨kid, hk⟩ := get_ex hlt
      obtain ⟨v, hv⟩ := get_ex (a := l) (i := ix) (by omega)
      obtain ⟨w, hw, rfl⟩ := hl ix kid v hk hv
      have hk2 := idx_il hk
      have hv2 : (l.map vi)[((ix : Nat) : Int).toNat]? = some (vi (w : Int)) := by simp [hv]
      rw [zip_drop hk hv, List.foldl_cons] at hT
      have hkk := hks kid (List.mem_of_getElem? hk)
      refine at_skip rfl ?_
      refine at_seq [1, 1, 1, 0, 0, 1, 1, 0] [1, 1, 1, 0, 0, 1, 1, 1] rfl ?_
      refine at_block [1, 1, 1, 0, 0, 1, 1, 0, 0] 1 rfl ?_
      refine at_seq [1, 1, 1, 0, 0, 1, 1, 0, 0, 0] [1, 1, 1, 0, 0, 1, 1, 0, 0, 1] rfl ?_
      refine at_region rfl ?_
      refine at_mv 32 34 rfl rfl rfl (.inl rfl) rfl (by dsimp only [List.set]) ?_
      first | (refine at_op (some 35) rfl rfl rfl rfl (op_idxL rfl fsl_Sint (by first | decide | omega) (by first | assumption | exact idx_some (by assumption) | rfl) (by first | rfl | (simp [V.size]; done))) (by dsimp only [putD, List.set]) ?_) | (refine at_op (some 35) rfl rfl rfl rfl (opOK_un (op_idxL rfl fsl_Sint (by first | decide | omega) (by first | assumption | exact idx_some (by assumption) | rfl) (by first | rfl | (simp [V.size]; done)))) (by dsimp only [putD, List.set]) ?_) | (refine at_op (some 35) rfl rfl rfl rfl (op_idxA rfl fsl_Sint (by first | decide | omega) (by first | decide | omega)) (by dsimp only [putD, List.set]) ?_)
      first | (refine at_op (some 36) rfl rfl rfl rfl (op_loadR1 rfl fone_int rfl) (by dsimp only [putD, List.set]) ?_) | (refine at_op (some 36) rfl rfl rfl rfl (op_loadP1 rfl fone_int rfl rfl) (by dsimp only [putD, List.set]) ?_)
      refine at_mv 34 10 rfl rfl rfl (.inr rfl) rfl (by dsimp only [List.set]) ?_
      refine at_mv 36 11 rfl rfl rfl (.inr rfl) rfl (by dsimp only [List.set]) ?_
      refine at_end rfl ?_
      refine at_region rfl ?_
      refine at_mv 0 37 rfl rfl rfl (.inl rfl) rfl (by dsimp only [List.set]) ?_
      refine at_mv 1 38 rfl rfl rfl (.inl rfl) rfl (by dsimp only [List.set]) ?_
      refine at_mv 11 39 rfl rfl rfl (.inl rfl) rfl (by dsimp only [List.set]) ?_
      refine at_mv 8 40 rfl rfl rfl (.inl rfl) rfl (by dsimp only [List.set]) ?_
      refine at_mv 10 41 rfl rfl rfl (.inl rfl) rfl (by dsimp only [List.set]) ?_
      first | (refine at_op (some 42) rfl rfl rfl rfl (op_idxL rfl fsl_Sint (by first | decide | omega) (by first | assumption | exact idx_some (by assumption) | rfl) (by first | rfl | (simp [V.size]; done))) (by dsimp only [putD, List.set]) ?_) | (refine at_op (some 42) rfl rfl rfl rfl (opOK_un (op_idxL rfl fsl_Sint (by first | decide | omega) (by first | assumption | exact idx_some (by assumption) | rfl) (by first | rfl | (simp [V.size]; done)))) (by dsimp only [putD, List.set]) ?_) | (refine at_op (some 42) rfl rfl rfl rfl (op_idxA rfl fsl_Sint (by first | decide | omega) (by first | decide | omega)) (by dsimp only [putD, List.set]) ?_)
      first | (refine at_op (some 43) rfl rfl rfl rfl (op_loadR1 rfl fone_int rfl) (by dsimp only [putD, List.set]) ?_) | (refine at_op (some 43) rfl rfl rfl rfl (op_loadP1 rfl fone_int rfl rfl) (by dsimp only [putD, List.set]) ?_)
      refine at_opS (some 44) rfl rfl rfl rfl (op_call1 rfl rfl rfl (pls_map _) (pls_map _) (.pl rfl (.arr (.pl rfl (.pl rfl .nil)))) rfl (ih kid w out (by omega) hw ho)) (by dsimp only [putD, List.set]) (by dsimp only [List.set, List.append, List.cons_append, List.nil_append, cellsD, List.map, repl, List.length, Nat.reduceAdd, if_true, ↓reduceIte]; first | done | rfl) ?_
      refine at_end rfl ?_
      refine run_blk ?_
      refine at_region rfl ?_
      refine at_op (some 45) rfl rfl rfl rfl (op_binI rfl rfl) (by dsimp only [putD, List.set]) ?_
      refine at_mv 45 32 rfl rfl rfl (.inl rfl) rfl (by dsimp only [List.set]) ?_
      refine at_end rfl ?_
      rw [wrap_succ (by omega)]
      exact run_wk (.keep (.keep (.drop (.drop (.drop (.drop (.drop (.drop (.keep (.drop (.drop (.drop (.drop (.drop (.drop (.drop (.drop (.drop (.drop (.drop (.drop (.drop (.drop (.drop (.drop (.drop (.drop (.drop (.drop (.drop (.keep (.keep (.keep (.drop (.drop (.drop (.drop (.drop (.drop (.drop (.drop (.drop (.drop (.drop (.drop (.drop .nil)))))))))))))))))))))))))))))))))))))))))))))) (ih2 _ (by omega) (ix + 1) _ rfl (by rw [putM_length]; exact ho) hT)
    · skip
      have hge : ks.length ≤ ix := by simpa using hc1
      rw [List.drop_of_length_le (by simp; omega), List.foldl_nil] at hT
      refine at_exit rfl rfl ?_
      refine run_nil ?_
      rw [hT]; exact ret_keep rfl rfl

set_option maxRecDepth 20000 in
theorem put_spec (A B : List Nd) (to : List (List Nat)) (hG : Good A B to) (N : Nat) : ∀ (i j : Nat) (out : List Int), A.length - i ≤ N → j ∈ gt to i → out.length = A.length → FSpec PP 37 [.v (.ref (vse A B to)), .arr 0 0 A.length, di ↑i, di ↑j] ⟨[some (dli out)], []⟩ (.tup []) ⟨[some (dli (putM (intoT B to) A B N out i ↑j))], []⟩ := by
  induction N with
  | zero => intro i j out hN hj ho; obtain ⟨na, nb, l, ha, _⟩ := hG.go i j hj; have := (List.getElem?_eq_some_iff.1 ha).1; omega
  | succ N ih =>
  intro i j out hN hj ho
  obtain ⟨na, nb, l, ha, hb, hpl⟩ := hG.go i j hj
  have hil := (List.getElem?_eq_some_iff.1 ha).1
  obtain ⟨hn1, hn2⟩ := hG.wa.kids i na ha
  obtain ⟨hb3, hb4⟩ := hG.wb.kids j nb hb
  obtain ⟨hp1, hp2⟩ := plM_mem hpl
  have ha2 := idx_node ha
  refine spec_at cPut Try.func37 rfl (by kernel_rfl) (by first | decide | simp) _ (by dsimp only [Try.f37, List.length, Nat.reduceAdd, Nat.reduceSub, List.replicate, List.cons_append, List.nil_append]) ?_
  refine at_seq [0] [1] rfl ?_
  refine at_region rfl ?_
  refine at_mv 1 12 rfl rfl rfl (.inl rfl) rfl (by dsimp only [List.set]) ?_
  refine at_mv 2 13 rfl rfl rfl (.inl rfl) rfl (by dsimp only [List.set]) ?_
  refine at_mv 3 14 rfl rfl rfl (.inl rfl) rfl (by dsimp only [List.set]) ?_
  first | (refine at_op (some 15) rfl rfl rfl rfl (op_idxL rfl fsl_Sint (by first | decide | omega) (by first | assumption | exact idx_some (by assumption) | rfl) (by first | rfl | (simp [V.size]; done))) (by dsimp only [putD, List.set]) ?_) | (refine at_op (some 15) rfl rfl rfl rfl (opOK_un (op_idxL rfl fsl_Sint (by first | decide | omega) (by first | assumption | exact idx_some (by assumption) | rfl) (by first | rfl | (simp [V.size]; done)))) (by dsimp only [putD, List.set]) ?_) | (refine at_op (some 15) rfl rfl rfl rfl (op_idxA rfl fsl_Sint (by first | decide | omega) (by first | decide | omega)) (by dsimp only [putD, List.set]) ?_)
  simp only [Int.toNat_natCast, Nat.zero_add, Nat.mul_one]
  refine at_st1 15 (.tmp 14) rfl rfl rfl rfl rfl (ev_tmp rfl) rfl fone_int rfl (by rw [dli_len]; omega) (by dsimp only [List.set, List.append, List.cons_append, List.nil_append, cellsD, List.map, repl, List.length, Nat.reduceAdd, if_true, ↓reduceIte]; first | done | rfl) ?_
  rw [dli_set]
  refine at_end rfl ?_
  refine at_seq [1, 0] [1, 1] rfl ?_
  refine at_region rfl ?_
  refine at_mv 0 17 rfl rfl rfl (.inl rfl) rfl (by dsimp only [List.set]) ?_
  refine at_mv 2 18 rfl rfl rfl (.inl rfl) rfl (by dsimp only [List.set]) ?_
  refine at_mv 3 19 rfl rfl rfl (.inl rfl) rfl (by dsimp only [List.set]) ?_
  refine at_op (some 20) rfl rfl rfl rfl (op_call0 rfl rfl rfl rfl (place_spec A B to hG.lens i j na nb ha hb (fun k hk => by rw [hG.len]; exact (hn2 k hk).2) (by omega) (fun r hr => (hb4 r hr).2) (by omega))) (by dsimp only [putD, List.set]) ?_
  rw [hpl]
  simp only [Option.getD_some, Option.isSome_some]
  refine at_mv 20 16 rfl rfl rfl (.inl rfl) rfl (by dsimp only [List.set]) ?_
  refine at_op (some 21) rfl rfl rfl rfl (op_extract rfl rfl) (by dsimp only [putD, List.set]) ?_
  refine at_op (some 22) rfl rfl rfl rfl (op_extract rfl rfl) (by dsimp only [putD, List.set]) ?_
  refine at_mv 21 8 rfl rfl rfl (.inr rfl) rfl (by dsimp only [List.set]) ?_
  refine at_mv 22 9 rfl rfl rfl (.inr rfl) rfl (by dsimp only [List.set]) ?_
  refine at_end rfl ?_
  refine at_seq [1, 1, 0] [1, 1, 1] rfl ?_
  refine at_region rfl ?_
  refine at_mv 0 23 rfl rfl rfl (.inl rfl) rfl (by dsimp only [List.set]) ?_
  first | (refine at_op (some 24) rfl rfl rfl rfl (op_nilCheck_ptr rfl) (by dsimp only [putD, List.set]) ?_) | (refine at_op (some 24) rfl rfl rfl rfl (op_nilCheck_ref rfl) (by dsimp only [putD, List.set]) ?_)
  first | (refine at_op (some 25) rfl rfl rfl rfl (op_fieldP rfl ffld0_tree_search (by decide)) (by dsimp only [putD, List.set]) ?_) | (refine at_op (some 25) rfl rfl rfl rfl (op_fieldR rfl ffld0_tree_search (by decide) (by decide) rfl) (by dsimp only [putD, List.set]) ?_)
  first | (refine at_op (some 26) rfl rfl rfl rfl (op_loadR1 rfl fone_Stree_node rfl) (by dsimp only [putD, List.set]) ?_) | (refine at_op (some 26) rfl rfl rfl rfl (op_loadP1 rfl fone_Stree_node rfl rfl) (by dsimp only [putD, List.set]) ?_)
  refine at_mv 2 27 rfl rfl rfl (.inl rfl) rfl (by dsimp only [List.set]) ?_
  first | (refine at_op (some 28) rfl rfl rfl rfl (op_idxL rfl fsl_Stree_node (by first | decide | omega) (by first | assumption | exact idx_some (by assumption) | rfl) (by first | rfl | (simp [V.size]; done))) (by dsimp only [putD, List.set]) ?_) | (refine at_op (some 28) rfl rfl rfl rfl (opOK_un (op_idxL rfl fsl_Stree_node (by first | decide | omega) (by first | assumption | exact idx_some (by assumption) | rfl) (by first | rfl | (simp [V.size]; done)))) (by dsimp only [putD, List.set]) ?_) | (refine at_op (some 28) rfl rfl rfl rfl (op_idxA rfl fsl_Stree_node (by first | decide | omega) (by first | decide | omega)) (by dsimp only [putD, List.set]) ?_)
  first | (refine at_op (some 29) rfl rfl rfl rfl (op_fieldP rfl ffld2_tree_node (by decide)) (by dsimp only [putD, List.set]) ?_) | (refine at_op (some 29) rfl rfl rfl rfl (op_fieldR rfl ffld2_tree_node (by decide) (by decide) rfl) (by dsimp only [putD, List.set]) ?_)
  first | (refine at_op (some 30) rfl rfl rfl rfl (op_loadR1 rfl fone_Sint rfl) (by dsimp only [putD, List.set]) ?_) | (refine at_op (some 30) rfl rfl rfl rfl (op_loadP1 rfl fone_Sint rfl rfl) (by dsimp only [putD, List.set]) ?_)
  first | (refine at_op (some 31) rfl rfl rfl rfl (op_lenL rfl fu_Sint) (by dsimp only [putD, List.set]) ?_) | (refine at_op (some 31) rfl rfl rfl rfl (opOK_un (op_lenL rfl fu_Sint)) (by dsimp only [putD, List.set]) ?_) | (refine at_op (some 31) rfl rfl rfl rfl (op_lenA rfl fu_Sint) (by dsimp only [putD, List.set]) ?_)
  refine at_mc 32 rfl rfl rfl (.inl rfl) (by dsimp only [constD]) (by dsimp only [List.set]) ?_
  refine at_end rfl ?_
  refine at_block [1, 1, 1, 0] 0 rfl ?_
  refine at_loop [1, 1, 1, 0, 0] rfl ?_
  try simp only [List.length_map, List.length_nil, Int.toNat_natCast]
  exact run_wk (.keep (.keep (.drop (.drop (.drop (.drop (.drop (.drop (.keep (.drop (.drop (.drop (.drop (.drop (.drop (.drop (.drop (.drop (.drop (.drop (.drop (.drop (.drop (.drop (.drop (.drop (.drop (.drop (.drop (.drop (.keep (.keep (.keep (.drop (.drop (.drop (.drop (.drop (.drop (.drop (.drop (.drop (.drop (.drop (.drop (.drop .nil)))))))))))))))))))))))))))))))))))))))))))))) (put_loop A B to hG N ih i hN na.kids (by omega) hn2 l hp1 (fun x kid v hx hv => by obtain ⟨r, hr, h1, h2⟩ := hp2 x kid v hx hv; rw [h1] at h2 ⊢; obtain ⟨w, hw, h3, _⟩ := intoM_mem h2; exact ⟨w, hw, h3⟩) _ _ 0 _ rfl (by simpa using ho) (by simp [putM, kidsOf, ha, hb, hpl]))

noncomputable def cEmbed : Code := Try.f21.body.getD .skip
set_option maxRecDepth 20000 in
theorem embed_spec (a b : Tr) (ha : a.size ≤ 1000000) (hb : b.size ≤ 1000000) : FSpec PP 21 [dt a, dt b] σ0 (.tup [dl ((embT a b).getD []), db (embT a b).isSome]) σ0 := by
  have wa := nodesT_wf a
  have wb := nodesT_wf b
  have hG := sol_good wa wb
  have h12 := nodesT_small a
  generalize hTO : (solD (nodesT a) (nodesT b) (nodesT a).length) = to at hG
  refine spec_at cEmbed Try.func21 rfl (by kernel_rfl) (by first | decide | simp) _ (by dsimp only [Try.f21, List.length, Nat.reduceAdd, Nat.reduceSub, List.replicate, List.cons_append, List.nil_append]) ?_
  refine at_seq [0] [1] rfl ?_
  refine at_region rfl ?_
  refine at_op (some 2) rfl rfl rfl rfl (op_boxI rfl rfl) (by dsimp only [putD, List.set]) ?_
  refine at_op (some 3) rfl rfl rfl rfl (op_boxI rfl rfl) (by dsimp only [putD, List.set]) ?_
  refine at_mc 4 rfl rfl rfl (.inr rfl) (by dsimp only [constD]) (by dsimp only [List.set]) ?_
  refine at_mc 5 rfl rfl rfl (.inr rfl) (by dsimp only [constD]) (by dsimp only [List.set]) ?_
  refine at_end rfl ?_
  refine at_seq [1, 0] [1, 1] rfl ?_
  refine at_draw mixed rfl [σ0, ⟨[some [dnl (nodesT a), dnl (nodesT b), .v (.list [])]], []⟩] rfl ?_
  first | (refine da_quiet (some 8) rfl rfl rfl rfl (fun s hs => op_loadRA rfl fagg_api_Tree) (by dsimp only [putD, List.set]) ?_) | (refine da_quiet (some 8) rfl rfl rfl rfl (by intro s hs; simp only [List.mem_cons, List.not_mem_nil, or_false] at hs; rcases hs with rfl | rfl <;> exact op_loadPA rfl fagg_api_Tree rfl (by decide) rfl) (by dsimp only [putD, List.set]) ?_)
  refine da_quiet (some 9) rfl rfl rfl rfl (fun s hs => op_call0 rfl rfl rfl rfl (nodes_spec a ha)) (by dsimp only [putD, List.set]) ?_
  first | (refine da_quiet (some 10) rfl rfl rfl rfl (fun s hs => op_loadRA rfl fagg_api_Tree) (by dsimp only [putD, List.set]) ?_) | (refine da_quiet (some 10) rfl rfl rfl rfl (by intro s hs; simp only [List.mem_cons, List.not_mem_nil, or_false] at hs; rcases hs with rfl | rfl <;> exact op_loadPA rfl fagg_api_Tree rfl (by decide) rfl) (by dsimp only [putD, List.set]) ?_)
  refine da_quiet (some 11) rfl rfl rfl rfl (fun s hs => op_call0 rfl rfl rfl rfl (nodes_spec b hb)) (by dsimp only [putD, List.set]) ?_
  refine da_quiet (some 12) rfl rfl rfl rfl (fun s hs => op_build rfl fbld_tree_search rfl rfl) (by dsimp only [putD, List.set]) ?_
  try dsimp only [V.cellsV, List.take, List.drop, List.cons_append, List.nil_append, List.length]
  refine da_eff (some 13) rfl rfl rfl rfl rfl rfl (op_box rfl rfl) (by dsimp only [putD, List.set]) ?_
  refine da_mv 13 6 rfl rfl rfl (.inr rfl) rfl (by dsimp only [List.set]) ?_
  refine da_end rfl ⟨by decide +kernel, _, rfl, ?_⟩
  refine at_seq [1, 1, 0] [1, 1, 1] rfl ?_
  refine at_region rfl ?_
  refine at_mv 6 14 rfl rfl rfl (.inl rfl) rfl (by dsimp only [List.set]) ?_
  refine at_opS (some 15) rfl rfl rfl rfl (solve_call rfl rfl wa wb) (by dsimp only [putD, List.set]) (by dsimp only [List.set, List.append, List.cons_append, List.nil_append, cellsD, List.map, repl, List.length, Nat.reduceAdd, if_true, ↓reduceIte]; first | done | rfl) ?_
  rw [hTO]
  refine at_end rfl ?_
  refine run_cv (cv_frz [0, 1] (.keep (.keep (.keep (.keep (.keep (.keep (.view (lend_se (A := (nodesT a)) (B := (nodesT b)) (to := to) (d := .arr 1 0 (nodesT a).length) rfl (lend_arr (cs := to.map fun l => dl (il l)) rfl hG.len.symm (fun j l hj => ⟨dl (il l), by simp [hj], _, .same, rfl⟩))) (.keep (.keep (.keep (.keep (.keep (.keep (.keep (.keep (.keep (.keep (.keep (.keep (.keep (.keep (.keep (.keep (.keep (.keep (.keep (.keep (.keep (.keep (.keep (.keep (.keep (.keep (.keep (.keep (.keep (.keep (.keep (.keep (.keep (.keep (.keep (.keep (.keep (.keep (.keep (.keep (.keep (.keep (.keep .nil))))))))))))))))))))))))))))))))))))))))))))))))))) ?_
  simp only [killH, List.foldl, List.set]
  refine at_seq [1, 1, 1, 0] [1, 1, 1, 1] rfl ?_
  refine at_seq [1, 1, 1, 0, 0] [1, 1, 1, 0, 1] rfl ?_
  refine at_region rfl ?_
  refine at_mv 6 16 rfl rfl rfl (.inl rfl) rfl (by dsimp only [List.set]) ?_
  first | (refine at_op (some 17) rfl rfl rfl rfl (op_nilCheck_ptr rfl) (by dsimp only [putD, List.set]) ?_) | (refine at_op (some 17) rfl rfl rfl rfl (op_nilCheck_ref rfl) (by dsimp only [putD, List.set]) ?_)
  first | (refine at_op (some 18) rfl rfl rfl rfl (op_fieldP rfl ffld0_tree_search (by decide)) (by dsimp only [putD, List.set]) ?_) | (refine at_op (some 18) rfl rfl rfl rfl (op_fieldR rfl ffld0_tree_search (by decide) (by decide) rfl) (by dsimp only [putD, List.set]) ?_)
  first | (refine at_op (some 19) rfl rfl rfl rfl (op_loadR1 rfl fone_Stree_node rfl) (by dsimp only [putD, List.set]) ?_) | (refine at_op (some 19) rfl rfl rfl rfl (op_loadP1 rfl fone_Stree_node rfl rfl) (by dsimp only [putD, List.set]) ?_)
  first | (refine at_op (some 20) rfl rfl rfl rfl (op_lenL rfl fu_Stree_node) (by dsimp only [putD, List.set]) ?_) | (refine at_op (some 20) rfl rfl rfl rfl (opOK_un (op_lenL rfl fu_Stree_node)) (by dsimp only [putD, List.set]) ?_) | (refine at_op (some 20) rfl rfl rfl rfl (op_lenA rfl fu_Stree_node) (by dsimp only [putD, List.set]) ?_)
  simp only [List.length_map]
  refine at_op (some 21) rfl rfl rfl rfl (op_binI rfl rfl) (by dsimp only [putD, List.set]) ?_
  refine at_mv 21 22 rfl rfl rfl (.inl rfl) rfl (by dsimp only [List.set]) ?_
  refine at_split 22 rfl (fun hb1 env' he => ?_) (fun hb1 env' he => ?_)
  · dsimp only [List.set] at he; subst he
    have hz : (nodesT a).length = 0 := by simpa using hb1
    have hE : embT a b = none := by unfold embT; rw [hz]; rfl
    refine at_opN (some 23) rfl rfl rfl (by dsimp only [putD, List.set]) ?_
    refine at_opN (some 24) rfl rfl rfl (by dsimp only [putD, List.set]) ?_
    refine at_opN (some 25) rfl rfl rfl (by dsimp only [putD, List.set]) ?_
    refine at_opN (some 26) rfl rfl rfl (by dsimp only [putD, List.set]) ?_
    refine at_opN (some 27) rfl rfl rfl (by dsimp only [putD, List.set]) ?_
    refine at_opN (some 28) rfl rfl rfl (by dsimp only [putD, List.set]) ?_
    refine at_opN (some 29) rfl rfl rfl (by dsimp only [putD, List.set]) ?_
    refine at_opN (some 30) rfl rfl rfl (by dsimp only [putD, List.set]) ?_
    refine at_pkc true 22 31 rfl rfl rfl rfl rfl rfl (by dsimp only [constD]) (by dsimp only [List.set]) ?_
    refine at_end rfl ?_
    refine at_true [1, 1, 1, 0, 1, 0] [1, 1, 1, 0, 1, 1] rfl rfl ?_
    refine at_seq [1, 1, 1, 0, 1, 0, 0] [1, 1, 1, 0, 1, 0, 1] rfl ?_
    refine at_region rfl ?_
    refine at_mc 4 rfl rfl rfl (.inr rfl) (by dsimp only [constD]) (by dsimp only [List.set]) ?_
    refine at_mc 5 rfl rfl rfl (.inr rfl) (by dsimp only [constD]) (by dsimp only [List.set]) ?_
    refine at_end rfl ?_
    refine at_ret rfl (ret_two (t := 4) (t2 := 5) rfl rfl rfl ?_ ?_ rfl rfl)
    all_goals (first | (rw [hE2]; rfl) | (rw [hE]; rfl))
  · dsimp only [List.set] at he; subst he
    have hpos : 0 < (nodesT a).length := by have h3 : (((nodesT a).length : Nat) : Int) ≠ 0 := beq_eq_false_iff_ne.1 hb1; omega
    obtain ⟨l0, hl0⟩ := get_ex (a := to) (i := 0) (by rw [hG.len]; exact hpos)
    have hl2 : (to.map fun l => vl (il l))[(0 : Int).toNat]? = some (vl (il l0)) := by simp [hl0]
    have hE : embT a b = embG (nodesT a) (nodesT b) to l0 := by unfold embT; rw [hTO, gt_get hl0]
    refine at_mv 6 23 rfl rfl rfl (.inl rfl) rfl (by dsimp only [List.set]) ?_
    first | (refine at_op (some 24) rfl rfl rfl rfl (op_nilCheck_ptr rfl) (by dsimp only [putD, List.set]) ?_) | (refine at_op (some 24) rfl rfl rfl rfl (op_nilCheck_ref rfl) (by dsimp only [putD, List.set]) ?_)
    first | (refine at_op (some 25) rfl rfl rfl rfl (op_fieldP rfl ffld2_tree_search (by decide)) (by dsimp only [putD, List.set]) ?_) | (refine at_op (some 25) rfl rfl rfl rfl (op_fieldR rfl ffld2_tree_search (by decide) (by decide) rfl) (by dsimp only [putD, List.set]) ?_)
    first | (refine at_op (some 26) rfl rfl rfl rfl (op_loadR1 rfl fone__5b5d5b5d_int rfl) (by dsimp only [putD, List.set]) ?_) | (refine at_op (some 26) rfl rfl rfl rfl (op_loadP1 rfl fone__5b5d5b5d_int rfl rfl) (by dsimp only [putD, List.set]) ?_)
    first | (refine at_op (some 27) rfl rfl rfl rfl (op_idxL rfl fsl__5b5d5b5d_int (by first | decide | omega) (by first | assumption | exact idx_some (by assumption) | rfl) (by first | rfl | (simp [V.size]; done))) (by dsimp only [putD, List.set]) ?_) | (refine at_op (some 27) rfl rfl rfl rfl (opOK_un (op_idxL rfl fsl__5b5d5b5d_int (by first | decide | omega) (by first | assumption | exact idx_some (by assumption) | rfl) (by first | rfl | (simp [V.size]; done)))) (by dsimp only [putD, List.set]) ?_) | (refine at_op (some 27) rfl rfl rfl rfl (op_idxA rfl fsl__5b5d5b5d_int (by first | decide | omega) (by first | decide | omega)) (by dsimp only [putD, List.set]) ?_)
    first | (refine at_op (some 28) rfl rfl rfl rfl (op_loadR1 rfl fone_Sint rfl) (by dsimp only [putD, List.set]) ?_) | (refine at_op (some 28) rfl rfl rfl rfl (op_loadP1 rfl fone_Sint rfl rfl) (by dsimp only [putD, List.set]) ?_)
    first | (refine at_op (some 29) rfl rfl rfl rfl (op_lenL rfl fu_Sint) (by dsimp only [putD, List.set]) ?_) | (refine at_op (some 29) rfl rfl rfl rfl (opOK_un (op_lenL rfl fu_Sint)) (by dsimp only [putD, List.set]) ?_) | (refine at_op (some 29) rfl rfl rfl rfl (op_lenA rfl fu_Sint) (by dsimp only [putD, List.set]) ?_)
    refine at_op (some 30) rfl rfl rfl rfl (op_binI rfl rfl) (by dsimp only [putD, List.set]) ?_
    refine at_pk false 22 30 31 rfl rfl rfl rfl rfl rfl rfl (by dsimp only [List.set]) ?_
    refine at_end rfl ?_
    refine at_cond [1, 1, 1, 0, 1, 0] [1, 1, 1, 0, 1, 1] rfl rfl (fun hc2 => ?_) (fun hc2 => ?_)
    · skip
      first | (have hE2 : embT a b = none := hE; skip) | (have hn : l0 = [] := (by cases l0 with | nil => rfl | cons x l => simp at hc2; omega); have hE2 : embT a b = none := (by rw [hE, hn]; rfl))
      refine at_seq [1, 1, 1, 0, 1, 0, 0] [1, 1, 1, 0, 1, 0, 1] rfl ?_
      refine at_region rfl ?_
      refine at_mc 4 rfl rfl rfl (.inr rfl) (by dsimp only [constD]) (by dsimp only [List.set]) ?_
      refine at_mc 5 rfl rfl rfl (.inr rfl) (by dsimp only [constD]) (by dsimp only [List.set]) ?_
      refine at_end rfl ?_
      refine at_ret rfl (ret_two (t := 4) (t2 := 5) rfl rfl rfl ?_ ?_ rfl rfl)
      all_goals (first | (rw [hE2]; rfl) | (rw [hE]; rfl))
    · skip
      obtain ⟨j0, l1, rfl⟩ : ∃ j0 l1, l0 = j0 :: l1 := by cases l0 with | nil => simp at hc2 | cons x l => exact ⟨x, l, rfl⟩
      have hj2 : ((il (j0 :: l1)).map vi)[(0 : Int).toNat]? = some (vi (j0 : Int)) := rfl
      refine at_skip rfl ?_
      refine at_seq [1, 1, 1, 1, 0] [1, 1, 1, 1, 1] rfl ?_
      refine at_region rfl ?_
      refine at_mv 6 32 rfl rfl rfl (.inl rfl) rfl (by dsimp only [List.set]) ?_
      first | (refine at_op (some 33) rfl rfl rfl rfl (op_nilCheck_ptr rfl) (by dsimp only [putD, List.set]) ?_) | (refine at_op (some 33) rfl rfl rfl rfl (op_nilCheck_ref rfl) (by dsimp only [putD, List.set]) ?_)
      first | (refine at_op (some 34) rfl rfl rfl rfl (op_fieldP rfl ffld0_tree_search (by decide)) (by dsimp only [putD, List.set]) ?_) | (refine at_op (some 34) rfl rfl rfl rfl (op_fieldR rfl ffld0_tree_search (by decide) (by decide) rfl) (by dsimp only [putD, List.set]) ?_)
      first | (refine at_op (some 35) rfl rfl rfl rfl (op_loadR1 rfl fone_Stree_node rfl) (by dsimp only [putD, List.set]) ?_) | (refine at_op (some 35) rfl rfl rfl rfl (op_loadP1 rfl fone_Stree_node rfl rfl) (by dsimp only [putD, List.set]) ?_)
      first | (refine at_op (some 36) rfl rfl rfl rfl (op_lenL rfl fu_Stree_node) (by dsimp only [putD, List.set]) ?_) | (refine at_op (some 36) rfl rfl rfl rfl (opOK_un (op_lenL rfl fu_Stree_node)) (by dsimp only [putD, List.set]) ?_) | (refine at_op (some 36) rfl rfl rfl rfl (op_lenA rfl fu_Stree_node) (by dsimp only [putD, List.set]) ?_)
      simp only [List.length_map]
      refine at_opS (some 37) rfl rfl rfl rfl (op_make rfl fsl_Sint rfl (by omega) (by omega) (by omega)) (by dsimp only [putD, List.set]) (by dsimp only [List.set, List.append, List.cons_append, List.nil_append, cellsD, List.map, repl, List.length, Nat.reduceAdd, if_true, ↓reduceIte]; first | done | rfl) ?_
      rw [Int.toNat_natCast, dli_zero]
      refine at_mv 37 7 rfl rfl rfl (.inr rfl) rfl (by dsimp only [List.set]) ?_
      refine at_end rfl ?_
      refine at_seq [1, 1, 1, 1, 1, 0] [1, 1, 1, 1, 1, 1] rfl ?_
      refine at_region rfl ?_
      refine at_mv 6 38 rfl rfl rfl (.inl rfl) rfl (by dsimp only [List.set]) ?_
      refine at_mv 7 39 rfl rfl rfl (.inl rfl) rfl (by dsimp only [List.set]) ?_
      refine at_mv 6 40 rfl rfl rfl (.inl rfl) rfl (by dsimp only [List.set]) ?_
      first | (refine at_op (some 41) rfl rfl rfl rfl (op_nilCheck_ptr rfl) (by dsimp only [putD, List.set]) ?_) | (refine at_op (some 41) rfl rfl rfl rfl (op_nilCheck_ref rfl) (by dsimp only [putD, List.set]) ?_)
      first | (refine at_op (some 42) rfl rfl rfl rfl (op_fieldP rfl ffld2_tree_search (by decide)) (by dsimp only [putD, List.set]) ?_) | (refine at_op (some 42) rfl rfl rfl rfl (op_fieldR rfl ffld2_tree_search (by decide) (by decide) rfl) (by dsimp only [putD, List.set]) ?_)
      first | (refine at_op (some 43) rfl rfl rfl rfl (op_loadR1 rfl fone__5b5d5b5d_int rfl) (by dsimp only [putD, List.set]) ?_) | (refine at_op (some 43) rfl rfl rfl rfl (op_loadP1 rfl fone__5b5d5b5d_int rfl rfl) (by dsimp only [putD, List.set]) ?_)
      first | (refine at_op (some 44) rfl rfl rfl rfl (op_idxL rfl fsl__5b5d5b5d_int (by first | decide | omega) (by first | assumption | exact idx_some (by assumption) | rfl) (by first | rfl | (simp [V.size]; done))) (by dsimp only [putD, List.set]) ?_) | (refine at_op (some 44) rfl rfl rfl rfl (opOK_un (op_idxL rfl fsl__5b5d5b5d_int (by first | decide | omega) (by first | assumption | exact idx_some (by assumption) | rfl) (by first | rfl | (simp [V.size]; done)))) (by dsimp only [putD, List.set]) ?_) | (refine at_op (some 44) rfl rfl rfl rfl (op_idxA rfl fsl__5b5d5b5d_int (by first | decide | omega) (by first | decide | omega)) (by dsimp only [putD, List.set]) ?_)
      first | (refine at_op (some 45) rfl rfl rfl rfl (op_loadR1 rfl fone_Sint rfl) (by dsimp only [putD, List.set]) ?_) | (refine at_op (some 45) rfl rfl rfl rfl (op_loadP1 rfl fone_Sint rfl rfl) (by dsimp only [putD, List.set]) ?_)
      first | (refine at_op (some 46) rfl rfl rfl rfl (op_idxL rfl fsl_Sint (by first | decide | omega) (by first | assumption | exact idx_some (by assumption) | rfl) (by first | rfl | (simp [V.size]; done))) (by dsimp only [putD, List.set]) ?_) | (refine at_op (some 46) rfl rfl rfl rfl (opOK_un (op_idxL rfl fsl_Sint (by first | decide | omega) (by first | assumption | exact idx_some (by assumption) | rfl) (by first | rfl | (simp [V.size]; done)))) (by dsimp only [putD, List.set]) ?_) | (refine at_op (some 46) rfl rfl rfl rfl (op_idxA rfl fsl_Sint (by first | decide | omega) (by first | decide | omega)) (by dsimp only [putD, List.set]) ?_)
      first | (refine at_op (some 47) rfl rfl rfl rfl (op_loadR1 rfl fone_int rfl) (by dsimp only [putD, List.set]) ?_) | (refine at_op (some 47) rfl rfl rfl rfl (op_loadP1 rfl fone_int rfl rfl) (by dsimp only [putD, List.set]) ?_)
      refine at_opS (some 48) rfl rfl rfl rfl (op_call1 rfl rfl rfl (pls_map _) (pls_map _) (.pl rfl (.arr (.pl rfl (.pl rfl .nil)))) rfl (put_spec (nodesT a) (nodesT b) to hG (nodesT a).length 0 j0 _ (by omega) (by rw [gt_get hl0]; simp) (by simp))) (by dsimp only [putD, List.set]) (by dsimp only [List.set, List.append, List.cons_append, List.nil_append, cellsD, List.map, repl, List.length, Nat.reduceAdd, if_true, ↓reduceIte]; first | done | rfl) ?_
      refine at_end rfl ?_
      refine run_cv (cv_frz [2] (.keep (.keep (.keep (.keep (.keep (.keep (.keep (.view (lend_ints (out := putM (intoT (nodesT b) to) (nodesT a) (nodesT b) (nodesT a).length (List.replicate (nodesT a).length 0) 0 ↑j0) rfl (by rw [putM_length]; simp)) (.keep (.keep (.keep (.keep (.keep (.keep (.keep (.keep (.keep (.keep (.keep (.keep (.keep (.keep (.keep (.keep (.keep (.keep (.keep (.keep (.keep (.keep (.keep (.keep (.keep (.keep (.keep (.keep (.keep (.keep (.keep (.keep (.keep (.keep (.keep (.keep (.keep (.keep (.keep (.keep (.keep (.keep .nil))))))))))))))))))))))))))))))))))))))))))))))))))) ?_
      refine at_seq [1, 1, 1, 1, 1, 1, 0] [1, 1, 1, 1, 1, 1, 1] rfl ?_
      refine at_region rfl ?_
      refine at_mv 7 49 rfl rfl rfl (.inl rfl) rfl (by dsimp only [List.set]) ?_
      refine at_mv 49 4 rfl rfl rfl (.inr rfl) rfl (by dsimp only [List.set]) ?_
      refine at_mc 5 rfl rfl rfl (.inr rfl) (by dsimp only [constD]) (by dsimp only [List.set]) ?_
      refine at_end rfl ?_
      refine at_ret rfl (ret_two (t := 4) (t2 := 5) rfl rfl rfl ?_ ?_ rfl rfl)
      all_goals (first | (rw [hE2]; rfl) | (rw [hE]; rfl))

noncomputable def cLeqT : Code := Try.f13.body.getD .skip
set_option maxRecDepth 20000 in
theorem tleq_spec (a b : Tr) (ha : a.size ≤ 1000000) (hb : b.size ≤ 1000000) : FSpec PP 13 [dt a, dt b] σ0 (db (embT a b).isSome) σ0 := by
  refine spec_at cLeqT Try.func13 rfl (by kernel_rfl) (by first | decide | simp) _ (by dsimp only [Try.f13, List.length, Nat.reduceAdd, Nat.reduceSub, List.replicate, List.cons_append, List.nil_append]) ?_
  refine at_seq [0] [1] rfl ?_
  refine at_region rfl ?_
  refine at_op (some 2) rfl rfl rfl rfl (op_boxI rfl rfl) (by dsimp only [putD, List.set]) ?_
  refine at_op (some 3) rfl rfl rfl rfl (op_boxI rfl rfl) (by dsimp only [putD, List.set]) ?_
  refine at_mc 4 rfl rfl rfl (.inr rfl) (by dsimp only [constD]) (by dsimp only [List.set]) ?_
  refine at_end rfl ?_
  refine at_seq [1, 0] [1, 1] rfl ?_
  refine at_region rfl ?_
  first | (refine at_op (some 8) rfl rfl rfl rfl (op_loadRA rfl fagg_api_Tree) (by dsimp only [putD, List.set]) ?_) | (refine at_op (some 8) rfl rfl rfl rfl (op_loadPA rfl fagg_api_Tree rfl (by decide) rfl) (by dsimp only [putD, List.set]) ?_)
  first | (refine at_op (some 9) rfl rfl rfl rfl (op_loadRA rfl fagg_api_Tree) (by dsimp only [putD, List.set]) ?_) | (refine at_op (some 9) rfl rfl rfl rfl (op_loadPA rfl fagg_api_Tree rfl (by decide) rfl) (by dsimp only [putD, List.set]) ?_)
  refine at_op (some 10) rfl rfl rfl rfl (op_call0 rfl rfl rfl rfl (embed_spec a b ha hb)) (by dsimp only [putD, List.set]) ?_
  refine at_mv 10 7 rfl rfl rfl (.inl rfl) rfl (by dsimp only [List.set]) ?_
  refine at_op (some 11) rfl rfl rfl rfl (op_extract rfl rfl) (by dsimp only [putD, List.set]) ?_
  refine at_op (some 12) rfl rfl rfl rfl (op_extract rfl rfl) (by dsimp only [putD, List.set]) ?_
  refine at_mv 11 5 rfl rfl rfl (.inr rfl) rfl (by dsimp only [List.set]) ?_
  refine at_mv 12 6 rfl rfl rfl (.inr rfl) rfl (by dsimp only [List.set]) ?_
  refine at_end rfl ?_
  refine at_seq [1, 1, 0] [1, 1, 1] rfl ?_
  refine at_region rfl ?_
  refine at_mv 6 13 rfl rfl rfl (.inl rfl) rfl (by dsimp only [List.set]) ?_
  refine at_mv 13 4 rfl rfl rfl (.inr rfl) rfl (by dsimp only [List.set]) ?_
  refine at_end rfl ?_
  refine at_ret rfl (ret_one (t := 4) rfl rfl ?_ rfl)
  rfl

end Go.Proofs.Ytaceggcohmmfhaa

namespace Go.Proofs.Ytaceggcohmmfhaa
open Go.Dv Tr

def labOK (X Y : List Nd) (at' : List Int) (i : Nat) : Bool :=
  match X[i]?, at'[i]? with
  | some n, some v => decide (0 ≤ v) && decide (v < Y.length) && (match Y[v.toNat]? with | some m => m.lab == n.lab | none => false)
  | _, _ => false
def wayF (Y : List Nd) (at' : List Int) (kid r : Nat) : Int := if (r : Int) ≤ at'.getD kid 0 ∧ at'.getD kid 0 < (ge Y r : Int) then 0 else -1
def wayOK (X Y : List Nd) (at' : List Int) (i : Nat) : Bool :=
  match X[i]?, at'[i]? with
  | some n, some v => (plM (wayF Y at') n.kids (kidsOf Y v.toNat)).isSome
  | _, _ => false
def provX (X Y : List Nd) (at' : List Int) : Bool := !(X.length == 0) && !(Y.length == 0) && (at'.length == X.length) && (List.range X.length).all (labOK X Y at') && (List.range X.length).all (wayOK X Y at')
theorem lend_cell1 {L : Nat → Option (List D)} {o : Nat} {x : V} (hx : x.isAgg = false) (h : L o = some [.v x]) : lends L 1 (.ptr o 0) (.ref x) := by
  refine .inr (.inl ⟨o, 0, [.v x], x, rfl, rfl, h, fun j y hj => ?_⟩)
  have e : x.cellsV = [x] := by cases x <;> simp_all [V.cellsV, V.isAgg]
  rw [e] at hj
  cases j with
  | zero => simp at hj; subst hj; exact ⟨hx, .v x, rfl, _, .same, rfl⟩
  | succ j => simp at hj
theorem all_range_at {n j : Nat} {p : Nat → Bool} (h : j < n) : ((List.range n).drop j).all p = (p j && ((List.range n).drop (j + 1)).all p) := by rw [range_at h]; rfl
theorem all_range_end {n j : Nat} {p : Nat → Bool} (h : n ≤ j) : ((List.range n).drop j).all p = true := by rw [range_end h]; rfl
theorem wayF_p (Y : List Nd) (at' : List Int) (kid : Nat) {r : Nat} {v : Int} {nb : Nd} (hv : at'[kid]? = some v) (hr : Y[r]? = some nb) : fP (wayF Y at') kid (r : Int) = (decide ((r : Int) ≤ v) && decide (v < nb.fin)) := by
  have h1 : at'.getD kid 0 = v := by rw [List.getD_eq_getElem?_getD, hv]; rfl
  have h2 : ge Y r = nb.fin := by simp [ge, hr]
  unfold fP wayF
  rw [Int.toNat_natCast, h1, h2]
  by_cases h : (r : Int) ≤ v ∧ v < nb.fin
  · rw [if_pos h]; simp [h.1, h.2]
  · rw [if_neg h]
    by_cases h3 : (r : Int) ≤ v
    · have h4 : ¬ v < nb.fin := fun h4 => h ⟨h3, h4⟩
      simp [h4]
    · simp [h3]

noncomputable def cProves1 : Code := Try.f41.body.getD .skip
set_option maxRecDepth 20000 in
theorem proves1_spec (Y : List Nd) (at' : List Int) (kid r : Nat) (v : Int) (nb : Nd) (hv : at'[kid]? = some v) (hr : Y[r]? = some nb) : FSpec PP 41 [di ↑r, .v (.ref (vl at')), .v (.ref (vi ↑kid)), .v (.ref (vnl Y))] σ0 (db (fP (wayF Y at') kid ↑r)) σ0 := by
  have hv2 := idx_some (f := vi) hv
  have hr2 := idx_node hr
  rw [wayF_p Y at' kid hv hr]
  refine spec_at cProves1 Try.func41 rfl (by kernel_rfl) (by first | decide | simp) _ (by dsimp only [Try.f41, List.length, Nat.reduceAdd, Nat.reduceSub, List.replicate, List.cons_append, List.nil_append]) ?_
  refine at_seq [0] [1] rfl ?_
  refine at_region rfl ?_
  refine at_mc 5 rfl rfl rfl (.inr rfl) (by dsimp only [constD]) (by dsimp only [List.set]) ?_
  refine at_end rfl ?_
  refine at_seq [1, 0] [1, 1] rfl ?_
  refine at_draw mixed rfl [σ0] rfl ?_
  first | (refine da_quiet (some 6) rfl rfl rfl rfl (fun s hs => op_loadR1 rfl fone_Sint rfl) (by dsimp only [putD, List.set]) ?_) | (refine da_quiet (some 6) rfl rfl rfl rfl (by intro s hs; simp only [List.mem_cons, List.not_mem_nil, or_false] at hs; rcases hs with rfl <;> exact op_loadP1 rfl fone_Sint rfl rfl) (by dsimp only [putD, List.set]) ?_)
  first | (refine da_quiet (some 7) rfl rfl rfl rfl (fun s hs => op_loadR1 rfl fone_int rfl) (by dsimp only [putD, List.set]) ?_) | (refine da_quiet (some 7) rfl rfl rfl rfl (by intro s hs; simp only [List.mem_cons, List.not_mem_nil, or_false] at hs; rcases hs with rfl <;> exact op_loadP1 rfl fone_int rfl rfl) (by dsimp only [putD, List.set]) ?_)
  first | (refine da_quiet (some 8) rfl rfl rfl rfl (fun s hs => op_idxL rfl fsl_Sint (by first | decide | omega) (by first | assumption | exact idx_some (by assumption) | rfl) (by first | rfl | (simp [V.size]; done))) (by dsimp only [putD, List.set]) ?_) | (refine da_quiet (some 8) rfl rfl rfl rfl (fun s hs => opOK_un (op_idxL rfl fsl_Sint (by first | decide | omega) (by first | assumption | exact idx_some (by assumption) | rfl) (by first | rfl | (simp [V.size]; done)))) (by dsimp only [putD, List.set]) ?_) | (refine da_quiet (some 8) rfl rfl rfl rfl (fun s hs => op_idxA rfl fsl_Sint (by first | decide | omega) (by first | decide | omega)) (by dsimp only [putD, List.set]) ?_)
  first | (refine da_quiet (some 9) rfl rfl rfl rfl (fun s hs => op_loadR1 rfl fone_int rfl) (by dsimp only [putD, List.set]) ?_) | (refine da_quiet (some 9) rfl rfl rfl rfl (by intro s hs; simp only [List.mem_cons, List.not_mem_nil, or_false] at hs; rcases hs with rfl <;> exact op_loadP1 rfl fone_int rfl rfl) (by dsimp only [putD, List.set]) ?_)
  refine da_mv 0 10 rfl rfl rfl (.inl rfl) rfl (by dsimp only [List.set]) ?_
  refine da_quiet (some 11) rfl rfl rfl rfl (fun s hs => op_binI rfl rfl) (by dsimp only [putD, List.set]) ?_
  refine da_mv 11 12 rfl rfl rfl (.inl rfl) rfl (by dsimp only [List.set]) ?_
  refine da_split 12 rfl (fun hb1 env' he => ?_) (fun hb1 env' he => ?_)
  · dsimp only [List.set] at he; subst he
    first | (refine da_quiet (some 13) rfl rfl rfl rfl (fun s hs => op_loadR1 rfl fone_Sint rfl) (by dsimp only [putD, List.set]) ?_) | (refine da_quiet (some 13) rfl rfl rfl rfl (by intro s hs; simp only [List.mem_cons, List.not_mem_nil, or_false] at hs; rcases hs with rfl <;> exact op_loadP1 rfl fone_Sint rfl rfl) (by dsimp only [putD, List.set]) ?_)
    first | (refine da_quiet (some 14) rfl rfl rfl rfl (fun s hs => op_loadR1 rfl fone_int rfl) (by dsimp only [putD, List.set]) ?_) | (refine da_quiet (some 14) rfl rfl rfl rfl (by intro s hs; simp only [List.mem_cons, List.not_mem_nil, or_false] at hs; rcases hs with rfl <;> exact op_loadP1 rfl fone_int rfl rfl) (by dsimp only [putD, List.set]) ?_)
    first | (refine da_quiet (some 15) rfl rfl rfl rfl (fun s hs => op_idxL rfl fsl_Sint (by first | decide | omega) (by first | assumption | exact idx_some (by assumption) | rfl) (by first | rfl | (simp [V.size]; done))) (by dsimp only [putD, List.set]) ?_) | (refine da_quiet (some 15) rfl rfl rfl rfl (fun s hs => opOK_un (op_idxL rfl fsl_Sint (by first | decide | omega) (by first | assumption | exact idx_some (by assumption) | rfl) (by first | rfl | (simp [V.size]; done)))) (by dsimp only [putD, List.set]) ?_) | (refine da_quiet (some 15) rfl rfl rfl rfl (fun s hs => op_idxA rfl fsl_Sint (by first | decide | omega) (by first | decide | omega)) (by dsimp only [putD, List.set]) ?_)
    first | (refine da_quiet (some 16) rfl rfl rfl rfl (fun s hs => op_loadR1 rfl fone_int rfl) (by dsimp only [putD, List.set]) ?_) | (refine da_quiet (some 16) rfl rfl rfl rfl (by intro s hs; simp only [List.mem_cons, List.not_mem_nil, or_false] at hs; rcases hs with rfl <;> exact op_loadP1 rfl fone_int rfl rfl) (by dsimp only [putD, List.set]) ?_)
    first | (refine da_quiet (some 17) rfl rfl rfl rfl (fun s hs => op_loadR1 rfl fone_Stree_node rfl) (by dsimp only [putD, List.set]) ?_) | (refine da_quiet (some 17) rfl rfl rfl rfl (by intro s hs; simp only [List.mem_cons, List.not_mem_nil, or_false] at hs; rcases hs with rfl <;> exact op_loadP1 rfl fone_Stree_node rfl rfl) (by dsimp only [putD, List.set]) ?_)
    refine da_mv 0 18 rfl rfl rfl (.inl rfl) rfl (by dsimp only [List.set]) ?_
    first | (refine da_quiet (some 19) rfl rfl rfl rfl (fun s hs => op_idxL rfl fsl_Stree_node (by first | decide | omega) (by first | assumption | exact idx_some (by assumption) | rfl) (by first | rfl | (simp [V.size]; done))) (by dsimp only [putD, List.set]) ?_) | (refine da_quiet (some 19) rfl rfl rfl rfl (fun s hs => opOK_un (op_idxL rfl fsl_Stree_node (by first | decide | omega) (by first | assumption | exact idx_some (by assumption) | rfl) (by first | rfl | (simp [V.size]; done)))) (by dsimp only [putD, List.set]) ?_) | (refine da_quiet (some 19) rfl rfl rfl rfl (fun s hs => op_idxA rfl fsl_Stree_node (by first | decide | omega) (by first | decide | omega)) (by dsimp only [putD, List.set]) ?_)
    first | (refine da_quiet (some 20) rfl rfl rfl rfl (fun s hs => op_fieldP rfl ffld1_tree_node (by decide)) (by dsimp only [putD, List.set]) ?_) | (refine da_quiet (some 20) rfl rfl rfl rfl (fun s hs => op_fieldR rfl ffld1_tree_node (by decide) (by decide) rfl) (by dsimp only [putD, List.set]) ?_)
    first | (refine da_quiet (some 21) rfl rfl rfl rfl (fun s hs => op_loadR1 rfl fone_int rfl) (by dsimp only [putD, List.set]) ?_) | (refine da_quiet (some 21) rfl rfl rfl rfl (by intro s hs; simp only [List.mem_cons, List.not_mem_nil, or_false] at hs; rcases hs with rfl <;> exact op_loadP1 rfl fone_int rfl rfl) (by dsimp only [putD, List.set]) ?_)
    refine da_quiet (some 22) rfl rfl rfl rfl (fun s hs => op_binI rfl rfl) (by dsimp only [putD, List.set]) ?_
    refine da_pk true 12 22 23 rfl rfl rfl rfl rfl rfl rfl (by dsimp only [List.set]) ?_
    refine da_mv 23 5 rfl rfl rfl (.inr rfl) rfl (by dsimp only [List.set]) ?_
    refine da_end rfl ⟨by decide +kernel, _, rfl, ?_⟩
    refine at_ret rfl (ret_one (t := 5) rfl rfl ?_ rfl)
    first | (simp_all; done) | (simp_all; omega)
  · dsimp only [List.set] at he; subst he
    refine da_skip (some 13) rfl rfl rfl (by dsimp only [putD, List.set]) ?_
    refine da_skip (some 14) rfl rfl rfl (by dsimp only [putD, List.set]) ?_
    refine da_skip (some 15) rfl rfl rfl (by dsimp only [putD, List.set]) ?_
    refine da_skip (some 16) rfl rfl rfl (by dsimp only [putD, List.set]) ?_
    refine da_skip (some 17) rfl rfl rfl (by dsimp only [putD, List.set]) ?_
    refine da_skip (some 18) rfl rfl rfl (by dsimp only [putD, List.set]) ?_
    refine da_skip (some 19) rfl rfl rfl (by dsimp only [putD, List.set]) ?_
    refine da_skip (some 20) rfl rfl rfl (by dsimp only [putD, List.set]) ?_
    refine da_skip (some 21) rfl rfl rfl (by dsimp only [putD, List.set]) ?_
    refine da_skip (some 22) rfl rfl rfl (by dsimp only [putD, List.set]) ?_
    refine da_pkc false 12 23 rfl rfl rfl rfl rfl rfl (by dsimp only [constD]) (by dsimp only [List.set]) ?_
    refine da_mv 23 5 rfl rfl rfl (.inr rfl) rfl (by dsimp only [List.set]) ?_
    refine da_end rfl ⟨by decide +kernel, _, rfl, ?_⟩
    refine at_ret rfl (ret_one (t := 5) rfl rfl ?_ rfl)
    first | (simp_all; done) | (simp_all; omega)

noncomputable def cProves : Code := Try.f24.body.getD .skip
set_option maxRecDepth 20000 in
theorem proves_inner (X Y : List Nd) (hX : Wf X) (hY : Wf Y) (at' : List Int) (hat : at'.length = X.length) (T : Bool) (K : List KI) (i : Nat) (ks : List Nat) (hkl : ks.length ≤ 1000) (hks : ∀ k ∈ ks, k < X.length) (ok : Bool) (hk : ok = true → Run PP (fun env σ1 => ResOK PP Try.f24 env σ1 (db T) σ0) K (.undef :: .undef :: .undef :: .undef :: .undef :: (.v (.ref (vl at'))) :: .undef :: .undef :: (.v (.ref (vnl Y))) :: .undef :: .undef :: .undef :: .undef :: .undef :: .undef :: .undef :: .undef :: .undef :: .undef :: .undef :: .undef :: .undef :: .undef :: .undef :: .undef :: .undef :: .undef :: .undef :: .undef :: .undef :: .undef :: .undef :: .undef :: .undef :: .undef :: .undef :: .undef :: .undef :: .undef :: .undef :: .undef :: .undef :: .undef :: .undef :: .undef :: .undef :: .undef :: .undef :: .undef :: .undef :: .undef :: .undef :: .undef :: .undef :: .undef :: .undef :: .undef :: .undef :: .undef :: .undef :: .undef :: .undef :: .undef :: .undef :: .undef :: .undef :: .undef :: .undef :: .undef :: .undef :: .undef :: (dnl X) :: (di ↑X.length) :: (di ↑i) :: .undef :: .undef :: .undef :: .undef :: .undef :: .undef :: .undef :: .undef :: .undef :: .undef :: .undef :: .undef :: .undef :: .undef :: .undef :: .undef :: .undef :: .undef :: .undef :: .undef :: .undef :: .undef :: .undef :: .undef :: .undef :: .undef :: .undef :: .undef :: .undef :: .undef :: []) ⟨[none], []⟩) (hF : ok = false → T = false) (m : Nat) : ∀ (ix : Nat) (rest : List Nat), ks.length - ix = m → (∀ r ∈ rest, r < Y.length) → rest.length ≤ 1000 → ok = (plM (wayF Y at') (ks.drop ix) rest).isSome → Run PP (fun env σ1 => ResOK PP Try.f24 env σ1 (db T) σ0) (.lp (sub cProves [1, 1, 1, 1, 0, 1, 0, 0, 1, 1, 0, 0, 1, 1, 1, 0, 0]) :: .blk 4 :: K) (.undef :: .undef :: .undef :: .undef :: .undef :: (.v (.ref (vl at'))) :: .undef :: .undef :: (.v (.ref (vnl Y))) :: .undef :: .undef :: .undef :: .undef :: (dl (il rest)) :: .undef :: .undef :: .undef :: .undef :: .undef :: .undef :: .undef :: .undef :: .undef :: .undef :: .undef :: .undef :: .undef :: .undef :: .undef :: .undef :: .undef :: .undef :: .undef :: .undef :: .undef :: .undef :: .undef :: .undef :: .undef :: .undef :: .undef :: .undef :: .undef :: .undef :: .undef :: .undef :: .undef :: .undef :: .undef :: .undef :: .undef :: .undef :: .undef :: .undef :: .undef :: .undef :: .undef :: .undef :: .undef :: .undef :: .undef :: .undef :: .undef :: .undef :: .undef :: .undef :: .undef :: .undef :: .undef :: .undef :: .undef :: (dnl X) :: (di ↑X.length) :: (di ↑i) :: .undef :: .undef :: .undef :: .undef :: .undef :: .undef :: .undef :: .undef :: .undef :: .undef :: .undef :: .undef :: .undef :: (dl (il ks)) :: (di ↑ks.length) :: (di ↑ix) :: .undef :: .undef :: .undef :: .undef :: .undef :: .undef :: .undef :: .undef :: .undef :: .undef :: .undef :: .undef :: .undef :: .undef :: []) ⟨[none], []⟩ := by
  induction m using Nat.strongRecOn with
  | _ m ih =>
    intro ix rest hm hr hrl hT
    refine run_lp ?_
    refine at_seq [1, 1, 1, 1, 0, 1, 0, 0, 1, 1, 0, 0, 1, 1, 1, 0, 0, 0] [1, 1, 1, 1, 0, 1, 0, 0, 1, 1, 0, 0, 1, 1, 1, 0, 0, 1] rfl ?_
    refine at_region rfl ?_
    refine at_op (some 90) rfl rfl rfl rfl (op_binI rfl rfl) (by dsimp only [putD, List.set]) ?_
    refine at_end rfl ?_
    refine at_seq [1, 1, 1, 1, 0, 1, 0, 0, 1, 1, 0, 0, 1, 1, 1, 0, 0, 1, 0] [1, 1, 1, 1, 0, 1, 0, 0, 1, 1, 0, 0, 1, 1, 1, 0, 0, 1, 1] rfl ?_
    refine at_cond [1, 1, 1, 1, 0, 1, 0, 0, 1, 1, 0, 0, 1, 1, 1, 0, 0, 1, 0, 0] [1, 1, 1, 1, 0, 1, 0, 0, 1, 1, 0, 0, 1, 1, 1, 0, 0, 1, 0, 1] rfl rfl (fun hc1 => ?_) (fun hc1 => ?_)
    · skip
      have hlt : ix < ks.length := by simpa using hc1
      obtain ⟨kid, hkd⟩ := get_ex hlt
      have hk2 := idx_il hkd
      have hd : ks.drop ix = kid :: ks.drop (ix + 1) := by rw [List.drop_eq_getElem_cons hlt]; congr 1; exact (List.getElem?_eq_some_iff.1 hkd).2
      rw [hd, plM_idx0] at hT
      obtain ⟨v, hv⟩ := get_ex (a := at') (i := kid) (by rw [hat]; exact hks kid (List.mem_of_getElem? hkd))
      refine at_skip rfl ?_
      refine at_seq [1, 1, 1, 1, 0, 1, 0, 0, 1, 1, 0, 0, 1, 1, 1, 0, 0, 1, 1, 0] [1, 1, 1, 1, 0, 1, 0, 0, 1, 1, 0, 0, 1, 1, 1, 0, 0, 1, 1, 1] rfl ?_
      refine at_block [1, 1, 1, 1, 0, 1, 0, 0, 1, 1, 0, 0, 1, 1, 1, 0, 0, 1, 1, 0, 0] 5 rfl ?_
      refine at_seq [1, 1, 1, 1, 0, 1, 0, 0, 1, 1, 0, 0, 1, 1, 1, 0, 0, 1, 1, 0, 0, 0] [1, 1, 1, 1, 0, 1, 0, 0, 1, 1, 0, 0, 1, 1, 1, 0, 0, 1, 1, 0, 0, 1] rfl ?_
      refine at_region rfl ?_
      first | (refine at_op (some 91) rfl rfl rfl rfl (op_idxL rfl fsl_Sint (by first | decide | omega) (by first | assumption | exact idx_some (by assumption) | rfl) (by first | rfl | (simp [V.size]; done))) (by dsimp only [putD, List.set]) ?_) | (refine at_op (some 91) rfl rfl rfl rfl (opOK_un (op_idxL rfl fsl_Sint (by first | decide | omega) (by first | assumption | exact idx_some (by assumption) | rfl) (by first | rfl | (simp [V.size]; done)))) (by dsimp only [putD, List.set]) ?_) | (refine at_op (some 91) rfl rfl rfl rfl (op_idxA rfl fsl_Sint (by first | decide | omega) (by first | decide | omega)) (by dsimp only [putD, List.set]) ?_)
      first | (refine at_op (some 92) rfl rfl rfl rfl (op_loadR1 rfl fone_int rfl) (by dsimp only [putD, List.set]) ?_) | (refine at_op (some 92) rfl rfl rfl rfl (op_loadP1 rfl fone_int rfl rfl) (by dsimp only [putD, List.set]) ?_)
      refine at_new 92 15 rfl rfl rfl rfl fzero_int rfl rfl rfl rfl (by decide) rfl rfl fone_int (by first | rfl | (simp [V.size]; done)) rfl (by simp only [List.length_cons]; omega) (by dsimp only [List.set]) ?_
      refine at_end rfl ?_
      refine at_seq [1, 1, 1, 1, 0, 1, 0, 0, 1, 1, 0, 0, 1, 1, 1, 0, 0, 1, 1, 0, 0, 1, 0] [1, 1, 1, 1, 0, 1, 0, 0, 1, 1, 0, 0, 1, 1, 1, 0, 0, 1, 1, 0, 0, 1, 1] rfl ?_
      refine at_region rfl ?_
      refine at_mv 13 93 rfl rfl rfl (.inl rfl) rfl (by dsimp only [List.set]) ?_
      refine at_op (some 94) rfl rfl rfl rfl (op_makeFunc0 rfl rfl rfl) (by dsimp only [putD, List.set]) ?_
      refine at_op (some 95) rfl rfl rfl rfl (op_call0 rfl rfl rfl rfl (indexFunc_spec 41 [] [.ref (vl at'), .ref (vi ↑kid), .ref (vnl Y)] (il rest) (fP (wayF Y at') kid) (fun x hx => by obtain ⟨r, hrm, rfl⟩ := List.mem_map.1 hx; obtain ⟨nb, hnb⟩ := get_ex (hr r hrm); exact proves1_spec Y at' kid r v nb hv hnb) (by simp; omega))) (by dsimp only [putD, List.set]) ?_
      refine at_mv 95 16 rfl rfl rfl (.inr rfl) rfl (by dsimp only [List.set]) ?_
      refine at_end rfl ?_
      refine at_seq [1, 1, 1, 1, 0, 1, 0, 0, 1, 1, 0, 0, 1, 1, 1, 0, 0, 1, 1, 0, 0, 1, 1, 0] [1, 1, 1, 1, 0, 1, 0, 0, 1, 1, 0, 0, 1, 1, 1, 0, 0, 1, 1, 0, 0, 1, 1, 1] rfl ?_
      refine at_seq [1, 1, 1, 1, 0, 1, 0, 0, 1, 1, 0, 0, 1, 1, 1, 0, 0, 1, 1, 0, 0, 1, 1, 0, 0] [1, 1, 1, 1, 0, 1, 0, 0, 1, 1, 0, 0, 1, 1, 1, 0, 0, 1, 1, 0, 0, 1, 1, 0, 1] rfl ?_
      refine at_region rfl ?_
      refine at_mv 16 96 rfl rfl rfl (.inl rfl) rfl (by dsimp only [List.set]) ?_
      refine at_op (some 97) rfl rfl rfl rfl (op_binI rfl rfl) (by dsimp only [putD, List.set]) ?_
      refine at_end rfl ?_
      refine at_cond [1, 1, 1, 1, 0, 1, 0, 0, 1, 1, 0, 0, 1, 1, 1, 0, 0, 1, 1, 0, 0, 1, 1, 0, 1, 0] [1, 1, 1, 1, 0, 1, 0, 0, 1, 1, 0, 0, 1, 1, 1, 0, 0, 1, 1, 0, 0, 1, 1, 0, 1, 1] rfl rfl (fun hc2 => ?_) (fun hc2 => ?_)
      · skip
        have hneg : idxP (fP (wayF Y at') kid) (il rest) 0 < 0 := by simpa using hc2
        rw [if_pos hneg] at hT
        have hT2 := hF hT
        refine at_seq [1, 1, 1, 1, 0, 1, 0, 0, 1, 1, 0, 0, 1, 1, 1, 0, 0, 1, 1, 0, 0, 1, 1, 0, 1, 0, 0] [1, 1, 1, 1, 0, 1, 0, 0, 1, 1, 0, 0, 1, 1, 1, 0, 0, 1, 1, 0, 0, 1, 1, 0, 1, 0, 1] rfl ?_
        refine at_region rfl ?_
        refine at_mc 6 rfl rfl rfl (.inr rfl) (by dsimp only [constD]) (by dsimp only [List.set]) ?_
        refine at_end rfl ?_
        refine at_ret rfl (ret_one (t := 6) rfl rfl ?_ rfl)
        rw [hT2]
      · skip
        have hge : 0 ≤ idxP (fP (wayF Y at') kid) (il rest) 0 := by simp at hc2; omega
        rw [if_neg (by omega)] at hT
        obtain ⟨kx, hkx⟩ := Int.eq_ofNat_of_zero_le hge
        rw [hkx] at hT ⊢
        have hkl2 : kx < rest.length := by have := idxP_len0 (p := fP (wayF Y at') kid) (il rest); rw [hkx] at this; simpa using this
        rw [Int.toNat_natCast, Option.isSome_map] at hT
        refine at_skip rfl ?_
        refine at_region rfl ?_
        refine at_mv 13 98 rfl rfl rfl (.inl rfl) rfl (by dsimp only [List.set]) ?_
        refine at_mv 16 99 rfl rfl rfl (.inl rfl) rfl (by dsimp only [List.set]) ?_
        refine at_op (some 100) rfl rfl rfl rfl (op_binI rfl rfl) (by dsimp only [putD, List.set]) ?_
        rw [wrap_succ (by omega)]
        refine at_op (some 101) rfl rfl rfl rfl (op_sliceL rfl fsl_Sint (by simp [V.size]) (by decide) (some (_, _)) none rfl rfl (l' := kx + 1) (h' := rest.length) (by simp [sliceI]; omega)) (by dsimp only [putD, List.set]) ?_
        rw [show (((il rest).map vi).take rest.length).drop (kx + 1) = (il (rest.drop (kx + 1))).map vi from by rw [List.take_of_length_le (by simp)]; simp [List.map_drop]]
        refine at_mv 101 13 rfl rfl rfl (.inr rfl) rfl (by dsimp only [List.set]) ?_
        refine at_end rfl ?_
        refine run_blk ?_
        refine at_region rfl ?_
        refine at_op (some 102) rfl rfl rfl rfl (op_binI rfl rfl) (by dsimp only [putD, List.set]) ?_
        refine at_mv 102 89 rfl rfl rfl (.inl rfl) rfl (by dsimp only [List.set]) ?_
        refine at_end rfl ?_
        rw [wrap_succ (by omega)]
        exact run_wk (.drop (.drop (.drop (.drop (.drop (.keep (.drop (.drop (.keep (.drop (.drop (.drop (.drop (.keep (.drop (.drop (.drop (.drop (.drop (.drop (.drop (.drop (.drop (.drop (.drop (.drop (.drop (.drop (.drop (.drop (.drop (.drop (.drop (.drop (.drop (.drop (.drop (.drop (.drop (.drop (.drop (.drop (.drop (.drop (.drop (.drop (.drop (.drop (.drop (.drop (.drop (.drop (.drop (.drop (.drop (.drop (.drop (.drop (.drop (.drop (.drop (.drop (.drop (.drop (.drop (.drop (.drop (.drop (.drop (.drop (.drop (.keep (.keep (.keep (.drop (.drop (.drop (.drop (.drop (.drop (.drop (.drop (.drop (.drop (.drop (.drop (.drop (.keep (.keep (.keep (.drop (.drop (.drop (.drop (.drop (.drop (.drop (.drop (.drop (.drop (.drop (.drop (.drop (.drop .nil)))))))))))))))))))))))))))))))))))))))))))))))))))))))))))))))))))))))))))))))))))))))))))))))))))))))) (ih _ (by omega) (ix + 1) (rest.drop (kx + 1)) rfl (fun r hr3 => hr r (List.mem_of_mem_drop hr3)) (by simp; omega) hT)
    · skip
      have hge : ks.length ≤ ix := by simpa using hc1
      rw [List.drop_of_length_le hge] at hT
      simp only [plM, Option.isSome_some] at hT
      refine at_exit rfl rfl ?_
      exact run_wk (.drop (.drop (.drop (.drop (.drop (.keep (.drop (.drop (.keep (.drop (.drop (.drop (.drop (.drop (.drop (.drop (.drop (.drop (.drop (.drop (.drop (.drop (.drop (.drop (.drop (.drop (.drop (.drop (.drop (.drop (.drop (.drop (.drop (.drop (.drop (.drop (.drop (.drop (.drop (.drop (.drop (.drop (.drop (.drop (.drop (.drop (.drop (.drop (.drop (.drop (.drop (.drop (.drop (.drop (.drop (.drop (.drop (.drop (.drop (.drop (.drop (.drop (.drop (.drop (.drop (.drop (.drop (.drop (.drop (.drop (.drop (.keep (.keep (.keep (.drop (.drop (.drop (.drop (.drop (.drop (.drop (.drop (.drop (.drop (.drop (.drop (.drop (.drop (.drop (.drop (.drop (.drop (.drop (.drop (.drop (.drop (.drop (.drop (.drop (.drop (.drop (.drop (.drop (.drop .nil)))))))))))))))))))))))))))))))))))))))))))))))))))))))))))))))))))))))))))))))))))))))))))))))))))))))) (hk hT)

set_option maxRecDepth 20000 in
theorem proves_two (X Y : List Nd) (hX : Wf X) (hY : Wf Y) (at' : List Int) (hat : at'.length = X.length) (hlab : (List.range X.length).all (labOK X Y at') = true) (T : Bool) (m : Nat) : ∀ i : Nat, X.length - i = m → T = ((List.range X.length).drop i).all (wayOK X Y at') → Run PP (fun env σ1 => ResOK PP Try.f24 env σ1 (db T) σ0) [.lp (sub cProves [1, 1, 1, 1, 0, 1, 0, 0]), .blk 2, .code (sub cProves [1, 1, 1, 1, 1])] (.undef :: .undef :: .undef :: .undef :: .undef :: (.v (.ref (vl at'))) :: .undef :: .undef :: (.v (.ref (vnl Y))) :: .undef :: .undef :: .undef :: .undef :: .undef :: .undef :: .undef :: .undef :: .undef :: .undef :: .undef :: .undef :: .undef :: .undef :: .undef :: .undef :: .undef :: .undef :: .undef :: .undef :: .undef :: .undef :: .undef :: .undef :: .undef :: .undef :: .undef :: .undef :: .undef :: .undef :: .undef :: .undef :: .undef :: .undef :: .undef :: .undef :: .undef :: .undef :: .undef :: .undef :: .undef :: .undef :: .undef :: .undef :: .undef :: .undef :: .undef :: .undef :: .undef :: .undef :: .undef :: .undef :: .undef :: .undef :: .undef :: .undef :: .undef :: .undef :: .undef :: .undef :: .undef :: .undef :: (dnl X) :: (di ↑X.length) :: (di ↑i) :: .undef :: .undef :: .undef :: .undef :: .undef :: .undef :: .undef :: .undef :: .undef :: .undef :: .undef :: .undef :: .undef :: .undef :: .undef :: .undef :: .undef :: .undef :: .undef :: .undef :: .undef :: .undef :: .undef :: .undef :: .undef :: .undef :: .undef :: .undef :: .undef :: .undef :: []) ⟨[none], []⟩ := by
  induction m using Nat.strongRecOn with
  | _ m ih =>
    intro i hm hT
    have hXl := hX.len
    have hYl := hY.len
    refine run_lp ?_
    refine at_seq [1, 1, 1, 1, 0, 1, 0, 0, 0] [1, 1, 1, 1, 0, 1, 0, 0, 1] rfl ?_
    refine at_region rfl ?_
    refine at_op (some 74) rfl rfl rfl rfl (op_binI rfl rfl) (by dsimp only [putD, List.set]) ?_
    refine at_end rfl ?_
    refine at_seq [1, 1, 1, 1, 0, 1, 0, 0, 1, 0] [1, 1, 1, 1, 0, 1, 0, 0, 1, 1] rfl ?_
    refine at_cond [1, 1, 1, 1, 0, 1, 0, 0, 1, 0, 0] [1, 1, 1, 1, 0, 1, 0, 0, 1, 0, 1] rfl rfl (fun hc1 => ?_) (fun hc1 => ?_)
    · skip
      have hlt : i < X.length := by simpa using hc1
      obtain ⟨n, hn⟩ := get_ex hlt
      have hn3 := idx_node hn
      obtain ⟨v, hv⟩ := get_ex (a := at') (i := i) (by omega)
      have hv2 := idx_some (f := vi) hv
      rw [all_range_at hlt] at hT
      obtain ⟨hn1, hn2⟩ := hX.kids i n hn
      have hlo : labOK X Y at' i = true := List.all_eq_true.1 hlab i (by simpa using hlt)
      obtain ⟨h0v, hvY⟩ : 0 ≤ v ∧ v < Y.length := by simp only [labOK, hn, hv, Bool.and_eq_true, decide_eq_true_eq] at hlo; exact hlo.1
      obtain ⟨nb, hnb⟩ := get_ex (a := Y) (i := v.toNat) (by omega)
      have hnb2 : (Y.map vn)[v.toNat]? = some (vn nb) := by simp [hnb]
      obtain ⟨hb3, hb4⟩ := hY.kids _ nb hnb
      have hway : wayOK X Y at' i = (plM (wayF Y at') (n.kids.drop 0) nb.kids).isSome := by simp [wayOK, hn, hv, kidsOf, hnb]
      refine at_skip rfl ?_
      refine at_seq [1, 1, 1, 1, 0, 1, 0, 0, 1, 1, 0] [1, 1, 1, 1, 0, 1, 0, 0, 1, 1, 1] rfl ?_
      refine at_block [1, 1, 1, 1, 0, 1, 0, 0, 1, 1, 0, 0] 3 rfl ?_
      refine at_seq [1, 1, 1, 1, 0, 1, 0, 0, 1, 1, 0, 0, 0] [1, 1, 1, 1, 0, 1, 0, 0, 1, 1, 0, 0, 1] rfl ?_
      refine at_region rfl ?_
      refine at_mv 73 75 rfl rfl rfl (.inl rfl) rfl (by dsimp only [List.set]) ?_
      first | (refine at_op (some 76) rfl rfl rfl rfl (op_idxL rfl fsl_Stree_node (by first | decide | omega) (by first | assumption | exact idx_some (by assumption) | rfl) (by first | rfl | (simp [V.size]; done))) (by dsimp only [putD, List.set]) ?_) | (refine at_op (some 76) rfl rfl rfl rfl (opOK_un (op_idxL rfl fsl_Stree_node (by first | decide | omega) (by first | assumption | exact idx_some (by assumption) | rfl) (by first | rfl | (simp [V.size]; done)))) (by dsimp only [putD, List.set]) ?_) | (refine at_op (some 76) rfl rfl rfl rfl (op_idxA rfl fsl_Stree_node (by first | decide | omega) (by first | decide | omega)) (by dsimp only [putD, List.set]) ?_)
      first | (refine at_op (some 77) rfl rfl rfl rfl (op_loadRA rfl fagg_tree_node) (by dsimp only [putD, List.set]) ?_) | (refine at_op (some 77) rfl rfl rfl rfl (op_loadPA rfl fagg_tree_node rfl (by decide) rfl) (by dsimp only [putD, List.set]) ?_)
      refine at_new1 77 12 75 11 rfl rfl rfl rfl fzero_tree_node rfl rfl rfl (.inr rfl) rfl (by decide) (by decide) (by decide) rfl rfl rfl rfl (by decide) rfl rfl fagg_tree_node (by first | rfl | (simp [V.size]; done)) rfl (by simp only [List.length_cons]; omega) (by dsimp only [List.set]) ?_
      refine at_end rfl ?_
      refine at_seq [1, 1, 1, 1, 0, 1, 0, 0, 1, 1, 0, 0, 1, 0] [1, 1, 1, 1, 0, 1, 0, 0, 1, 1, 0, 0, 1, 1] rfl ?_
      refine at_draw mixed rfl [⟨[none], []⟩] rfl ?_
      first | (refine da_quiet (some 78) rfl rfl rfl rfl (fun s hs => op_loadR1 rfl fone_Stree_node rfl) (by dsimp only [putD, List.set]) ?_) | (refine da_quiet (some 78) rfl rfl rfl rfl (by intro s hs; simp only [List.mem_cons, List.not_mem_nil, or_false] at hs; rcases hs with rfl <;> exact op_loadP1 rfl fone_Stree_node rfl rfl) (by dsimp only [putD, List.set]) ?_)
      first | (refine da_quiet (some 79) rfl rfl rfl rfl (fun s hs => op_loadR1 rfl fone_Sint rfl) (by dsimp only [putD, List.set]) ?_) | (refine da_quiet (some 79) rfl rfl rfl rfl (by intro s hs; simp only [List.mem_cons, List.not_mem_nil, or_false] at hs; rcases hs with rfl <;> exact op_loadP1 rfl fone_Sint rfl rfl) (by dsimp only [putD, List.set]) ?_)
      refine da_mv 11 80 rfl rfl rfl (.inl rfl) rfl (by dsimp only [List.set]) ?_
      first | (refine da_quiet (some 81) rfl rfl rfl rfl (fun s hs => op_idxL rfl fsl_Sint (by first | decide | omega) (by first | assumption | exact idx_some (by assumption) | rfl) (by first | rfl | (simp [V.size]; done))) (by dsimp only [putD, List.set]) ?_) | (refine da_quiet (some 81) rfl rfl rfl rfl (fun s hs => opOK_un (op_idxL rfl fsl_Sint (by first | decide | omega) (by first | assumption | exact idx_some (by assumption) | rfl) (by first | rfl | (simp [V.size]; done)))) (by dsimp only [putD, List.set]) ?_) | (refine da_quiet (some 81) rfl rfl rfl rfl (fun s hs => op_idxA rfl fsl_Sint (by first | decide | omega) (by first | decide | omega)) (by dsimp only [putD, List.set]) ?_)
      first | (refine da_quiet (some 82) rfl rfl rfl rfl (fun s hs => op_loadR1 rfl fone_int rfl) (by dsimp only [putD, List.set]) ?_) | (refine da_quiet (some 82) rfl rfl rfl rfl (by intro s hs; simp only [List.mem_cons, List.not_mem_nil, or_false] at hs; rcases hs with rfl <;> exact op_loadP1 rfl fone_int rfl rfl) (by dsimp only [putD, List.set]) ?_)
      refine da_quiet (some 83) rfl rfl rfl rfl (fun s hs => op_idxL rfl fsl_Stree_node h0v hnb2 rfl) (by dsimp only [putD, List.set]) ?_
      first | (refine da_quiet (some 84) rfl rfl rfl rfl (fun s hs => op_fieldP rfl ffld2_tree_node (by decide)) (by dsimp only [putD, List.set]) ?_) | (refine da_quiet (some 84) rfl rfl rfl rfl (fun s hs => op_fieldR rfl ffld2_tree_node (by decide) (by decide) rfl) (by dsimp only [putD, List.set]) ?_)
      first | (refine da_quiet (some 85) rfl rfl rfl rfl (fun s hs => op_loadR1 rfl fone_Sint rfl) (by dsimp only [putD, List.set]) ?_) | (refine da_quiet (some 85) rfl rfl rfl rfl (by intro s hs; simp only [List.mem_cons, List.not_mem_nil, or_false] at hs; rcases hs with rfl <;> exact op_loadP1 rfl fone_Sint rfl rfl) (by dsimp only [putD, List.set]) ?_)
      refine da_mv 85 13 rfl rfl rfl (.inr rfl) rfl (by dsimp only [List.set]) ?_
      refine da_end rfl ⟨by decide +kernel, _, rfl, ?_⟩
      refine at_seq [1, 1, 1, 1, 0, 1, 0, 0, 1, 1, 0, 0, 1, 1, 0] [1, 1, 1, 1, 0, 1, 0, 0, 1, 1, 0, 0, 1, 1, 1] rfl ?_
      refine at_region rfl ?_
      first | (refine at_op (some 86) rfl rfl rfl rfl (op_fieldP rfl ffld2_tree_node (by decide)) (by dsimp only [putD, List.set]) ?_) | (refine at_op (some 86) rfl rfl rfl rfl (op_fieldR rfl ffld2_tree_node (by decide) (by decide) rfl) (by dsimp only [putD, List.set]) ?_)
      first | (refine at_op (some 87) rfl rfl rfl rfl (op_loadR1 rfl fone_Sint rfl) (by dsimp only [putD, List.set]) ?_) | (refine at_op (some 87) rfl rfl rfl rfl (op_loadP1 rfl fone_Sint rfl rfl) (by dsimp only [putD, List.set]) ?_)
      first | (refine at_op (some 88) rfl rfl rfl rfl (op_lenL rfl fu_Sint) (by dsimp only [putD, List.set]) ?_) | (refine at_op (some 88) rfl rfl rfl rfl (opOK_un (op_lenL rfl fu_Sint)) (by dsimp only [putD, List.set]) ?_) | (refine at_op (some 88) rfl rfl rfl rfl (op_lenA rfl fu_Sint) (by dsimp only [putD, List.set]) ?_)
      refine at_mc 89 rfl rfl rfl (.inl rfl) (by dsimp only [constD]) (by dsimp only [List.set]) ?_
      refine at_end rfl ?_
      refine at_block [1, 1, 1, 1, 0, 1, 0, 0, 1, 1, 0, 0, 1, 1, 1, 0] 4 rfl ?_
      refine at_loop [1, 1, 1, 1, 0, 1, 0, 0, 1, 1, 0, 0, 1, 1, 1, 0, 0] rfl ?_
      try simp only [List.length_map, List.length_nil, Int.toNat_natCast]
      refine run_wk (.drop (.drop (.drop (.drop (.drop (.keep (.drop (.drop (.keep (.drop (.drop (.drop (.drop (.keep (.drop (.drop (.drop (.drop (.drop (.drop (.drop (.drop (.drop (.drop (.drop (.drop (.drop (.drop (.drop (.drop (.drop (.drop (.drop (.drop (.drop (.drop (.drop (.drop (.drop (.drop (.drop (.drop (.drop (.drop (.drop (.drop (.drop (.drop (.drop (.drop (.drop (.drop (.drop (.drop (.drop (.drop (.drop (.drop (.drop (.drop (.drop (.drop (.drop (.drop (.drop (.drop (.drop (.drop (.drop (.drop (.drop (.keep (.keep (.keep (.drop (.drop (.drop (.drop (.drop (.drop (.drop (.drop (.drop (.drop (.drop (.drop (.drop (.keep (.keep (.keep (.drop (.drop (.drop (.drop (.drop (.drop (.drop (.drop (.drop (.drop (.drop (.drop (.drop (.drop .nil)))))))))))))))))))))))))))))))))))))))))))))))))))))))))))))))))))))))))))))))))))))))))))))))))))))))) (proves_inner X Y hX hY at' hat T _ i n.kids (by omega) (fun k hk => (hn2 k hk).2) (wayOK X Y at' i) (fun hok => ?_) (fun hno => ?_) _ 0 nb.kids rfl (fun r hr => (hb4 r hr).2) (by omega) hway)
      · rw [hok, Bool.true_and] at hT
        refine run_blk ?_
        refine at_region rfl ?_
        refine at_op (some 103) rfl rfl rfl rfl (op_binI rfl rfl) (by dsimp only [putD, List.set]) ?_
        refine at_mv 103 73 rfl rfl rfl (.inl rfl) rfl (by dsimp only [List.set]) ?_
        refine at_end rfl ?_
        rw [wrap_succ (by omega)]
        exact run_wk (.drop (.drop (.drop (.drop (.drop (.keep (.drop (.drop (.keep (.drop (.drop (.drop (.drop (.drop (.drop (.drop (.drop (.drop (.drop (.drop (.drop (.drop (.drop (.drop (.drop (.drop (.drop (.drop (.drop (.drop (.drop (.drop (.drop (.drop (.drop (.drop (.drop (.drop (.drop (.drop (.drop (.drop (.drop (.drop (.drop (.drop (.drop (.drop (.drop (.drop (.drop (.drop (.drop (.drop (.drop (.drop (.drop (.drop (.drop (.drop (.drop (.drop (.drop (.drop (.drop (.drop (.drop (.drop (.drop (.drop (.drop (.keep (.keep (.keep (.drop (.drop (.drop (.drop (.drop (.drop (.drop (.drop (.drop (.drop (.drop (.drop (.drop (.drop (.drop (.drop (.drop (.drop (.drop (.drop (.drop (.drop (.drop (.drop (.drop (.drop (.drop (.drop (.drop (.drop .nil)))))))))))))))))))))))))))))))))))))))))))))))))))))))))))))))))))))))))))))))))))))))))))))))))))))))) (ih _ (by omega) (i + 1) rfl hT)
      · rw [hT, hno]; rfl
    · skip
      have hge : X.length ≤ i := by simpa using hc1
      rw [all_range_end hge] at hT
      refine at_exit rfl rfl ?_
      refine at_seq [1, 1, 1, 1, 1, 0] [1, 1, 1, 1, 1, 1] rfl ?_
      refine at_region rfl ?_
      refine at_mc 6 rfl rfl rfl (.inr rfl) (by dsimp only [constD]) (by dsimp only [List.set]) ?_
      refine at_end rfl ?_
      refine at_ret rfl (ret_one (t := 6) rfl rfl ?_ rfl)
      rw [hT]

set_option maxRecDepth 20000 in
theorem proves_one (X Y : List Nd) (hX : Wf X) (hY : Wf Y) (at' : List Int) (hat : at'.length = X.length) (T : Bool) (hT : T = ((List.range X.length).all (labOK X Y at') && (List.range X.length).all (wayOK X Y at'))) (m : Nat) : ∀ i : Nat, X.length - i = m → (List.range X.length).all (labOK X Y at') = ((List.range X.length).drop i).all (labOK X Y at') → Run PP (fun env σ1 => ResOK PP Try.f24 env σ1 (db T) σ0) [.lp (sub cProves [1, 1, 1, 0, 1, 0, 0]), .blk 0, .code (sub cProves [1, 1, 1, 1])] (.undef :: .undef :: .undef :: .undef :: .undef :: (.v (.ref (vl at'))) :: .undef :: (dnl X) :: (.v (.ref (vnl Y))) :: .undef :: .undef :: .undef :: .undef :: .undef :: .undef :: .undef :: .undef :: .undef :: .undef :: .undef :: .undef :: .undef :: .undef :: .undef :: .undef :: .undef :: .undef :: .undef :: .undef :: .undef :: .undef :: .undef :: .undef :: .undef :: .undef :: .undef :: (dnl X) :: (di ↑X.length) :: (di ↑i) :: .undef :: .undef :: .undef :: .undef :: .undef :: .undef :: .undef :: .undef :: .undef :: .undef :: .undef :: .undef :: .undef :: .undef :: .undef :: .undef :: .undef :: .undef :: .undef :: .undef :: .undef :: .undef :: .undef :: .undef :: .undef :: .undef :: .undef :: .undef :: .undef :: .undef :: .undef :: .undef :: .undef :: .undef :: .undef :: .undef :: .undef :: .undef :: .undef :: .undef :: .undef :: .undef :: .undef :: .undef :: .undef :: .undef :: .undef :: .undef :: .undef :: .undef :: .undef :: .undef :: .undef :: .undef :: .undef :: .undef :: .undef :: .undef :: .undef :: .undef :: .undef :: .undef :: .undef :: .undef :: .undef :: []) ⟨[none], []⟩ := by
  induction m using Nat.strongRecOn with
  | _ m ih =>
    intro i hm hb
    have hXl := hX.len
    have hYl := hY.len
    refine run_lp ?_
    refine at_seq [1, 1, 1, 0, 1, 0, 0, 0] [1, 1, 1, 0, 1, 0, 0, 1] rfl ?_
    refine at_region rfl ?_
    refine at_op (some 39) rfl rfl rfl rfl (op_binI rfl rfl) (by dsimp only [putD, List.set]) ?_
    refine at_end rfl ?_
    refine at_seq [1, 1, 1, 0, 1, 0, 0, 1, 0] [1, 1, 1, 0, 1, 0, 0, 1, 1] rfl ?_
    refine at_cond [1, 1, 1, 0, 1, 0, 0, 1, 0, 0] [1, 1, 1, 0, 1, 0, 0, 1, 0, 1] rfl rfl (fun hc1 => ?_) (fun hc1 => ?_)
    · skip
      have hlt : i < X.length := by simpa using hc1
      obtain ⟨n, hn⟩ := get_ex hlt
      have hn3 := idx_node hn
      obtain ⟨v, hv⟩ := get_ex (a := at') (i := i) (by omega)
      have hv2 := idx_some (f := vi) hv
      rw [all_range_at hlt] at hb
      refine at_skip rfl ?_
      refine at_seq [1, 1, 1, 0, 1, 0, 0, 1, 1, 0] [1, 1, 1, 0, 1, 0, 0, 1, 1, 1] rfl ?_
      refine at_block [1, 1, 1, 0, 1, 0, 0, 1, 1, 0, 0] 1 rfl ?_
      refine at_seq [1, 1, 1, 0, 1, 0, 0, 1, 1, 0, 0, 0] [1, 1, 1, 0, 1, 0, 0, 1, 1, 0, 0, 1] rfl ?_
      refine at_region rfl ?_
      refine at_mv 38 40 rfl rfl rfl (.inl rfl) rfl (by dsimp only [List.set]) ?_
      first | (refine at_op (some 41) rfl rfl rfl rfl (op_idxL rfl fsl_Stree_node (by first | decide | omega) (by first | assumption | exact idx_some (by assumption) | rfl) (by first | rfl | (simp [V.size]; done))) (by dsimp only [putD, List.set]) ?_) | (refine at_op (some 41) rfl rfl rfl rfl (opOK_un (op_idxL rfl fsl_Stree_node (by first | decide | omega) (by first | assumption | exact idx_some (by assumption) | rfl) (by first | rfl | (simp [V.size]; done)))) (by dsimp only [putD, List.set]) ?_) | (refine at_op (some 41) rfl rfl rfl rfl (op_idxA rfl fsl_Stree_node (by first | decide | omega) (by first | decide | omega)) (by dsimp only [putD, List.set]) ?_)
      first | (refine at_op (some 42) rfl rfl rfl rfl (op_loadRA rfl fagg_tree_node) (by dsimp only [putD, List.set]) ?_) | (refine at_op (some 42) rfl rfl rfl rfl (op_loadPA rfl fagg_tree_node rfl (by decide) rfl) (by dsimp only [putD, List.set]) ?_)
      refine at_new1 42 10 40 9 rfl rfl rfl rfl fzero_tree_node rfl rfl rfl (.inr rfl) rfl (by decide) (by decide) (by decide) rfl rfl rfl rfl (by decide) rfl rfl fagg_tree_node (by first | rfl | (simp [V.size]; done)) rfl (by simp only [List.length_cons]; omega) (by dsimp only [List.set]) ?_
      refine at_end rfl ?_
      refine at_seq [1, 1, 1, 0, 1, 0, 0, 1, 1, 0, 0, 1, 0] [1, 1, 1, 0, 1, 0, 0, 1, 1, 0, 0, 1, 1] rfl ?_
      refine at_draw mixed rfl [⟨[none], []⟩] rfl ?_
      first | (refine da_quiet (some 43) rfl rfl rfl rfl (fun s hs => op_loadR1 rfl fone_Sint rfl) (by dsimp only [putD, List.set]) ?_) | (refine da_quiet (some 43) rfl rfl rfl rfl (by intro s hs; simp only [List.mem_cons, List.not_mem_nil, or_false] at hs; rcases hs with rfl <;> exact op_loadP1 rfl fone_Sint rfl rfl) (by dsimp only [putD, List.set]) ?_)
      refine da_mv 9 44 rfl rfl rfl (.inl rfl) rfl (by dsimp only [List.set]) ?_
      first | (refine da_quiet (some 45) rfl rfl rfl rfl (fun s hs => op_idxL rfl fsl_Sint (by first | decide | omega) (by first | assumption | exact idx_some (by assumption) | rfl) (by first | rfl | (simp [V.size]; done))) (by dsimp only [putD, List.set]) ?_) | (refine da_quiet (some 45) rfl rfl rfl rfl (fun s hs => opOK_un (op_idxL rfl fsl_Sint (by first | decide | omega) (by first | assumption | exact idx_some (by assumption) | rfl) (by first | rfl | (simp [V.size]; done)))) (by dsimp only [putD, List.set]) ?_) | (refine da_quiet (some 45) rfl rfl rfl rfl (fun s hs => op_idxA rfl fsl_Sint (by first | decide | omega) (by first | decide | omega)) (by dsimp only [putD, List.set]) ?_)
      first | (refine da_quiet (some 46) rfl rfl rfl rfl (fun s hs => op_loadR1 rfl fone_int rfl) (by dsimp only [putD, List.set]) ?_) | (refine da_quiet (some 46) rfl rfl rfl rfl (by intro s hs; simp only [List.mem_cons, List.not_mem_nil, or_false] at hs; rcases hs with rfl <;> exact op_loadP1 rfl fone_int rfl rfl) (by dsimp only [putD, List.set]) ?_)
      refine da_quiet (some 47) rfl rfl rfl rfl (fun s hs => op_binI rfl rfl) (by dsimp only [putD, List.set]) ?_
      refine da_mv 47 48 rfl rfl rfl (.inl rfl) rfl (by dsimp only [List.set]) ?_
      refine da_split 48 rfl (fun hb2 env' he => ?_) (fun hb2 env' he => ?_)
      · dsimp only [List.set] at he; subst he
        have hneg : v < 0 := by simpa using hb2
        have hlo : labOK X Y at' i = false := by simp only [labOK, hn, hv]; rw [decide_eq_false (by omega : ¬ 0 ≤ v)]; rfl
        have hT2 : T = false := by rw [hT, hb, hlo]; rfl
        refine da_skip (some 49) rfl rfl rfl (by dsimp only [putD, List.set]) ?_
        refine da_skip (some 50) rfl rfl rfl (by dsimp only [putD, List.set]) ?_
        refine da_skip (some 51) rfl rfl rfl (by dsimp only [putD, List.set]) ?_
        refine da_skip (some 52) rfl rfl rfl (by dsimp only [putD, List.set]) ?_
        refine da_skip (some 53) rfl rfl rfl (by dsimp only [putD, List.set]) ?_
        refine da_skip (some 54) rfl rfl rfl (by dsimp only [putD, List.set]) ?_
        refine da_skip (some 55) rfl rfl rfl (by dsimp only [putD, List.set]) ?_
        refine da_pkc true 48 56 rfl rfl rfl rfl rfl rfl (by dsimp only [constD]) (by dsimp only [List.set]) ?_
        refine da_mv 56 57 rfl rfl rfl (.inl rfl) rfl (by dsimp only [List.set]) ?_
        refine da_skip (some 58) rfl rfl rfl (by dsimp only [putD, List.set]) ?_
        refine da_skip (some 59) rfl rfl rfl (by dsimp only [putD, List.set]) ?_
        refine da_skip (some 60) rfl rfl rfl (by dsimp only [putD, List.set]) ?_
        refine da_skip (some 61) rfl rfl rfl (by dsimp only [putD, List.set]) ?_
        refine da_skip (some 62) rfl rfl rfl (by dsimp only [putD, List.set]) ?_
        refine da_skip (some 63) rfl rfl rfl (by dsimp only [putD, List.set]) ?_
        refine da_skip (some 64) rfl rfl rfl (by dsimp only [putD, List.set]) ?_
        refine da_skip (some 65) rfl rfl rfl (by dsimp only [putD, List.set]) ?_
        refine da_skip (some 66) rfl rfl rfl (by dsimp only [putD, List.set]) ?_
        refine da_skip (some 67) rfl rfl rfl (by dsimp only [putD, List.set]) ?_
        refine da_skip (some 68) rfl rfl rfl (by dsimp only [putD, List.set]) ?_
        refine da_pkc true 57 69 rfl rfl rfl rfl rfl rfl (by dsimp only [constD]) (by dsimp only [List.set]) ?_
        refine da_end rfl ⟨by decide +kernel, _, rfl, ?_⟩
        refine at_true [1, 1, 1, 0, 1, 0, 0, 1, 1, 0, 0, 1, 1, 0] [1, 1, 1, 0, 1, 0, 0, 1, 1, 0, 0, 1, 1, 1] rfl rfl ?_
        refine at_seq [1, 1, 1, 0, 1, 0, 0, 1, 1, 0, 0, 1, 1, 0, 0] [1, 1, 1, 0, 1, 0, 0, 1, 1, 0, 0, 1, 1, 0, 1] rfl ?_
        refine at_region rfl ?_
        refine at_mc 6 rfl rfl rfl (.inr rfl) (by dsimp only [constD]) (by dsimp only [List.set]) ?_
        refine at_end rfl ?_
        refine at_ret rfl (ret_one (t := 6) rfl rfl ?_ rfl)
        rw [hT2]
      · dsimp only [List.set] at he; subst he
        have h0v : 0 ≤ v := by simp at hb2; omega
        first | (refine da_quiet (some 49) rfl rfl rfl rfl (fun s hs => op_loadR1 rfl fone_Sint rfl) (by dsimp only [putD, List.set]) ?_) | (refine da_quiet (some 49) rfl rfl rfl rfl (by intro s hs; simp only [List.mem_cons, List.not_mem_nil, or_false] at hs; rcases hs with rfl <;> exact op_loadP1 rfl fone_Sint rfl rfl) (by dsimp only [putD, List.set]) ?_)
        refine da_mv 9 50 rfl rfl rfl (.inl rfl) rfl (by dsimp only [List.set]) ?_
        first | (refine da_quiet (some 51) rfl rfl rfl rfl (fun s hs => op_idxL rfl fsl_Sint (by first | decide | omega) (by first | assumption | exact idx_some (by assumption) | rfl) (by first | rfl | (simp [V.size]; done))) (by dsimp only [putD, List.set]) ?_) | (refine da_quiet (some 51) rfl rfl rfl rfl (fun s hs => opOK_un (op_idxL rfl fsl_Sint (by first | decide | omega) (by first | assumption | exact idx_some (by assumption) | rfl) (by first | rfl | (simp [V.size]; done)))) (by dsimp only [putD, List.set]) ?_) | (refine da_quiet (some 51) rfl rfl rfl rfl (fun s hs => op_idxA rfl fsl_Sint (by first | decide | omega) (by first | decide | omega)) (by dsimp only [putD, List.set]) ?_)
        first | (refine da_quiet (some 52) rfl rfl rfl rfl (fun s hs => op_loadR1 rfl fone_int rfl) (by dsimp only [putD, List.set]) ?_) | (refine da_quiet (some 52) rfl rfl rfl rfl (by intro s hs; simp only [List.mem_cons, List.not_mem_nil, or_false] at hs; rcases hs with rfl <;> exact op_loadP1 rfl fone_int rfl rfl) (by dsimp only [putD, List.set]) ?_)
        first | (refine da_quiet (some 53) rfl rfl rfl rfl (fun s hs => op_loadR1 rfl fone_Stree_node rfl) (by dsimp only [putD, List.set]) ?_) | (refine da_quiet (some 53) rfl rfl rfl rfl (by intro s hs; simp only [List.mem_cons, List.not_mem_nil, or_false] at hs; rcases hs with rfl <;> exact op_loadP1 rfl fone_Stree_node rfl rfl) (by dsimp only [putD, List.set]) ?_)
        first | (refine da_quiet (some 54) rfl rfl rfl rfl (fun s hs => op_lenL rfl fu_Stree_node) (by dsimp only [putD, List.set]) ?_) | (refine da_quiet (some 54) rfl rfl rfl rfl (fun s hs => opOK_un (op_lenL rfl fu_Stree_node)) (by dsimp only [putD, List.set]) ?_) | (refine da_quiet (some 54) rfl rfl rfl rfl (fun s hs => op_lenA rfl fu_Stree_node) (by dsimp only [putD, List.set]) ?_)
        refine da_quiet (some 55) rfl rfl rfl rfl (fun s hs => op_binI rfl rfl) (by dsimp only [putD, List.set]) ?_
        refine da_pk false 48 55 56 rfl rfl rfl rfl rfl rfl rfl (by dsimp only [List.set]) ?_
        refine da_mv 56 57 rfl rfl rfl (.inl rfl) rfl (by dsimp only [List.set]) ?_
        refine da_split 57 rfl (fun hb3 env' he => ?_) (fun hb3 env' he => ?_)
        · dsimp only [List.set] at he; subst he
          have hbig : ¬ v < (Y.length : Int) := by simp at hb3; omega
          have hlo : labOK X Y at' i = false := by simp only [labOK, hn, hv]; rw [decide_eq_false hbig]; simp
          have hT2 : T = false := by rw [hT, hb, hlo]; rfl
          refine da_skip (some 58) rfl rfl rfl (by dsimp only [putD, List.set]) ?_
          refine da_skip (some 59) rfl rfl rfl (by dsimp only [putD, List.set]) ?_
          refine da_skip (some 60) rfl rfl rfl (by dsimp only [putD, List.set]) ?_
          refine da_skip (some 61) rfl rfl rfl (by dsimp only [putD, List.set]) ?_
          refine da_skip (some 62) rfl rfl rfl (by dsimp only [putD, List.set]) ?_
          refine da_skip (some 63) rfl rfl rfl (by dsimp only [putD, List.set]) ?_
          refine da_skip (some 64) rfl rfl rfl (by dsimp only [putD, List.set]) ?_
          refine da_skip (some 65) rfl rfl rfl (by dsimp only [putD, List.set]) ?_
          refine da_skip (some 66) rfl rfl rfl (by dsimp only [putD, List.set]) ?_
          refine da_skip (some 67) rfl rfl rfl (by dsimp only [putD, List.set]) ?_
          refine da_skip (some 68) rfl rfl rfl (by dsimp only [putD, List.set]) ?_
          refine da_pkc true 57 69 rfl rfl rfl rfl rfl rfl (by dsimp only [constD]) (by dsimp only [List.set]) ?_
          refine da_end rfl ⟨by decide +kernel, _, rfl, ?_⟩
          refine at_true [1, 1, 1, 0, 1, 0, 0, 1, 1, 0, 0, 1, 1, 0] [1, 1, 1, 0, 1, 0, 0, 1, 1, 0, 0, 1, 1, 1] rfl rfl ?_
          refine at_seq [1, 1, 1, 0, 1, 0, 0, 1, 1, 0, 0, 1, 1, 0, 0] [1, 1, 1, 0, 1, 0, 0, 1, 1, 0, 0, 1, 1, 0, 1] rfl ?_
          refine at_region rfl ?_
          refine at_mc 6 rfl rfl rfl (.inr rfl) (by dsimp only [constD]) (by dsimp only [List.set]) ?_
          refine at_end rfl ?_
          refine at_ret rfl (ret_one (t := 6) rfl rfl ?_ rfl)
          rw [hT2]
        · dsimp only [List.set] at he; subst he
          have hvY : v < (Y.length : Int) := by simp at hb3; omega
          obtain ⟨nb, hnb⟩ := get_ex (a := Y) (i := v.toNat) (by omega)
          have hnb2 : (Y.map vn)[v.toNat]? = some (vn nb) := by simp [hnb]
          first | (refine da_quiet (some 58) rfl rfl rfl rfl (fun s hs => op_loadR1 rfl fone_Stree_node rfl) (by dsimp only [putD, List.set]) ?_) | (refine da_quiet (some 58) rfl rfl rfl rfl (by intro s hs; simp only [List.mem_cons, List.not_mem_nil, or_false] at hs; rcases hs with rfl <;> exact op_loadP1 rfl fone_Stree_node rfl rfl) (by dsimp only [putD, List.set]) ?_)
          first | (refine da_quiet (some 59) rfl rfl rfl rfl (fun s hs => op_loadR1 rfl fone_Sint rfl) (by dsimp only [putD, List.set]) ?_) | (refine da_quiet (some 59) rfl rfl rfl rfl (by intro s hs; simp only [List.mem_cons, List.not_mem_nil, or_false] at hs; rcases hs with rfl <;> exact op_loadP1 rfl fone_Sint rfl rfl) (by dsimp only [putD, List.set]) ?_)
          refine da_mv 9 60 rfl rfl rfl (.inl rfl) rfl (by dsimp only [List.set]) ?_
          first | (refine da_quiet (some 61) rfl rfl rfl rfl (fun s hs => op_idxL rfl fsl_Sint (by first | decide | omega) (by first | assumption | exact idx_some (by assumption) | rfl) (by first | rfl | (simp [V.size]; done))) (by dsimp only [putD, List.set]) ?_) | (refine da_quiet (some 61) rfl rfl rfl rfl (fun s hs => opOK_un (op_idxL rfl fsl_Sint (by first | decide | omega) (by first | assumption | exact idx_some (by assumption) | rfl) (by first | rfl | (simp [V.size]; done)))) (by dsimp only [putD, List.set]) ?_) | (refine da_quiet (some 61) rfl rfl rfl rfl (fun s hs => op_idxA rfl fsl_Sint (by first | decide | omega) (by first | decide | omega)) (by dsimp only [putD, List.set]) ?_)
          first | (refine da_quiet (some 62) rfl rfl rfl rfl (fun s hs => op_loadR1 rfl fone_int rfl) (by dsimp only [putD, List.set]) ?_) | (refine da_quiet (some 62) rfl rfl rfl rfl (by intro s hs; simp only [List.mem_cons, List.not_mem_nil, or_false] at hs; rcases hs with rfl <;> exact op_loadP1 rfl fone_int rfl rfl) (by dsimp only [putD, List.set]) ?_)
          refine da_quiet (some 63) rfl rfl rfl rfl (fun s hs => op_idxL rfl fsl_Stree_node h0v hnb2 rfl) (by dsimp only [putD, List.set]) ?_
          first | (refine da_quiet (some 64) rfl rfl rfl rfl (fun s hs => op_fieldP rfl ffld0_tree_node (by decide)) (by dsimp only [putD, List.set]) ?_) | (refine da_quiet (some 64) rfl rfl rfl rfl (fun s hs => op_fieldR rfl ffld0_tree_node (by decide) (by decide) rfl) (by dsimp only [putD, List.set]) ?_)
          first | (refine da_quiet (some 65) rfl rfl rfl rfl (fun s hs => op_loadR1 rfl fone_int rfl) (by dsimp only [putD, List.set]) ?_) | (refine da_quiet (some 65) rfl rfl rfl rfl (by intro s hs; simp only [List.mem_cons, List.not_mem_nil, or_false] at hs; rcases hs with rfl <;> exact op_loadP1 rfl fone_int rfl rfl) (by dsimp only [putD, List.set]) ?_)
          first | (refine da_quiet (some 66) rfl rfl rfl rfl (fun s hs => op_fieldP rfl ffld0_tree_node (by decide)) (by dsimp only [putD, List.set]) ?_) | (refine da_quiet (some 66) rfl rfl rfl rfl (fun s hs => op_fieldR rfl ffld0_tree_node (by decide) (by decide) rfl) (by dsimp only [putD, List.set]) ?_)
          first | (refine da_quiet (some 67) rfl rfl rfl rfl (fun s hs => op_loadR1 rfl fone_int rfl) (by dsimp only [putD, List.set]) ?_) | (refine da_quiet (some 67) rfl rfl rfl rfl (by intro s hs; simp only [List.mem_cons, List.not_mem_nil, or_false] at hs; rcases hs with rfl <;> exact op_loadP1 rfl fone_int rfl rfl) (by dsimp only [putD, List.set]) ?_)
          refine da_quiet (some 68) rfl rfl rfl rfl (fun s hs => op_binI rfl rfl) (by dsimp only [putD, List.set]) ?_
          refine da_pk false 57 68 69 rfl rfl rfl rfl rfl rfl rfl (by dsimp only [List.set]) ?_
          refine da_end rfl ⟨by decide +kernel, _, rfl, ?_⟩
          refine at_cond [1, 1, 1, 0, 1, 0, 0, 1, 1, 0, 0, 1, 1, 0] [1, 1, 1, 0, 1, 0, 0, 1, 1, 0, 0, 1, 1, 1] rfl rfl (fun hc4 => ?_) (fun hc4 => ?_)
          · skip
            try have hT2 : T = false := by rw [hT, hb, hlo]; rfl
            try have hT2 : T = false := by rw [hT, hb, show labOK X Y at' i = false from by simp only [labOK, hn, hv, hnb]; simp at hc4; simp [hc4]]; rfl
            refine at_seq [1, 1, 1, 0, 1, 0, 0, 1, 1, 0, 0, 1, 1, 0, 0] [1, 1, 1, 0, 1, 0, 0, 1, 1, 0, 0, 1, 1, 0, 1] rfl ?_
            refine at_region rfl ?_
            refine at_mc 6 rfl rfl rfl (.inr rfl) (by dsimp only [constD]) (by dsimp only [List.set]) ?_
            refine at_end rfl ?_
            refine at_ret rfl (ret_one (t := 6) rfl rfl ?_ rfl)
            rw [hT2]
          · skip
            try simp at hc4
            try have hlo : labOK X Y at' i = true := by simp only [labOK, hn, hv, hnb, h0v, hvY]; simp [hc4]
            try rw [hlo, Bool.true_and] at hb
            refine at_skip rfl ?_
            refine run_blk ?_
            refine at_region rfl ?_
            refine at_op (some 70) rfl rfl rfl rfl (op_binI rfl rfl) (by dsimp only [putD, List.set]) ?_
            refine at_mv 70 38 rfl rfl rfl (.inl rfl) rfl (by dsimp only [List.set]) ?_
            refine at_end rfl ?_
            rw [wrap_succ (by omega)]
            exact run_wk (.drop (.drop (.drop (.drop (.drop (.keep (.drop (.keep (.keep (.drop (.drop (.drop (.drop (.drop (.drop (.drop (.drop (.drop (.drop (.drop (.drop (.drop (.drop (.drop (.drop (.drop (.drop (.drop (.drop (.drop (.drop (.drop (.drop (.drop (.drop (.drop (.keep (.keep (.keep (.drop (.drop (.drop (.drop (.drop (.drop (.drop (.drop (.drop (.drop (.drop (.drop (.drop (.drop (.drop (.drop (.drop (.drop (.drop (.drop (.drop (.drop (.drop (.drop (.drop (.drop (.drop (.drop (.drop (.drop (.drop (.drop (.drop (.drop (.drop (.drop (.drop (.drop (.drop (.drop (.drop (.drop (.drop (.drop (.drop (.drop (.drop (.drop (.drop (.drop (.drop (.drop (.drop (.drop (.drop (.drop (.drop (.drop (.drop (.drop (.drop (.drop (.drop (.drop (.drop .nil)))))))))))))))))))))))))))))))))))))))))))))))))))))))))))))))))))))))))))))))))))))))))))))))))))))))) (ih _ (by omega) (i + 1) rfl hb)
    · skip
      have hge : X.length ≤ i := by simpa using hc1
      rw [all_range_end hge] at hb
      have hlab := hb
      rw [hb, Bool.true_and] at hT
      refine at_exit rfl rfl ?_
      refine at_seq [1, 1, 1, 1, 0] [1, 1, 1, 1, 1] rfl ?_
      refine at_seq [1, 1, 1, 1, 0, 0] [1, 1, 1, 1, 0, 1] rfl ?_
      refine at_region rfl ?_
      refine at_mv 7 71 rfl rfl rfl (.inl rfl) rfl (by dsimp only [List.set]) ?_
      first | (refine at_op (some 72) rfl rfl rfl rfl (op_lenL rfl fu_Stree_node) (by dsimp only [putD, List.set]) ?_) | (refine at_op (some 72) rfl rfl rfl rfl (opOK_un (op_lenL rfl fu_Stree_node)) (by dsimp only [putD, List.set]) ?_) | (refine at_op (some 72) rfl rfl rfl rfl (op_lenA rfl fu_Stree_node) (by dsimp only [putD, List.set]) ?_)
      refine at_mc 73 rfl rfl rfl (.inl rfl) (by dsimp only [constD]) (by dsimp only [List.set]) ?_
      refine at_end rfl ?_
      refine at_block [1, 1, 1, 1, 0, 1, 0] 2 rfl ?_
      refine at_loop [1, 1, 1, 1, 0, 1, 0, 0] rfl ?_
      try simp only [List.length_map, List.length_nil, Int.toNat_natCast]
      exact run_wk (.drop (.drop (.drop (.drop (.drop (.keep (.drop (.drop (.keep (.drop (.drop (.drop (.drop (.drop (.drop (.drop (.drop (.drop (.drop (.drop (.drop (.drop (.drop (.drop (.drop (.drop (.drop (.drop (.drop (.drop (.drop (.drop (.drop (.drop (.drop (.drop (.drop (.drop (.drop (.drop (.drop (.drop (.drop (.drop (.drop (.drop (.drop (.drop (.drop (.drop (.drop (.drop (.drop (.drop (.drop (.drop (.drop (.drop (.drop (.drop (.drop (.drop (.drop (.drop (.drop (.drop (.drop (.drop (.drop (.drop (.drop (.keep (.keep (.keep (.drop (.drop (.drop (.drop (.drop (.drop (.drop (.drop (.drop (.drop (.drop (.drop (.drop (.drop (.drop (.drop (.drop (.drop (.drop (.drop (.drop (.drop (.drop (.drop (.drop (.drop (.drop (.drop (.drop (.drop .nil)))))))))))))))))))))))))))))))))))))))))))))))))))))))))))))))))))))))))))))))))))))))))))))))))))))))) (proves_two X Y hX hY at' hat hlab T _ 0 rfl (by rw [List.drop_zero]; exact hT))

set_option maxRecDepth 20000 in
theorem proves_spec (a b : Tr) (at' : List Int) (ha : a.size ≤ 1000000) (hb : b.size ≤ 1000000) : FSpec PP 24 [dt a, dt b, dl at'] σ0 (db (provX (nodesT a) (nodesT b) at')) σ0 := by
  refine spec_at cProves Try.func24 rfl (by kernel_rfl) (by first | decide | simp) _ (by dsimp only [Try.f24, List.length, Nat.reduceAdd, Nat.reduceSub, List.replicate, List.cons_append, List.nil_append]) ?_
  refine at_seq [0] [1] rfl ?_
  refine at_region rfl ?_
  refine at_op (some 3) rfl rfl rfl rfl (op_boxI rfl rfl) (by dsimp only [putD, List.set]) ?_
  refine at_op (some 4) rfl rfl rfl rfl (op_boxI rfl rfl) (by dsimp only [putD, List.set]) ?_
  refine at_op (some 5) rfl rfl rfl rfl (op_boxI rfl rfl) (by dsimp only [putD, List.set]) ?_
  refine at_mc 6 rfl rfl rfl (.inr rfl) (by dsimp only [constD]) (by dsimp only [List.set]) ?_
  refine at_end rfl ?_
  refine at_seq [1, 0] [1, 1] rfl ?_
  refine at_draw mixed rfl [σ0, ⟨[some [.v (.list [])]], []⟩, ⟨[some [dnl (nodesT b)]], []⟩] rfl ?_
  first | (refine da_quiet (some 17) rfl rfl rfl rfl (fun s hs => op_loadRA rfl fagg_api_Tree) (by dsimp only [putD, List.set]) ?_) | (refine da_quiet (some 17) rfl rfl rfl rfl (by intro s hs; simp only [List.mem_cons, List.not_mem_nil, or_false] at hs; rcases hs with rfl | rfl | rfl <;> exact op_loadPA rfl fagg_api_Tree rfl (by decide) rfl) (by dsimp only [putD, List.set]) ?_)
  refine da_quiet (some 18) rfl rfl rfl rfl (fun s hs => op_call0 rfl rfl rfl rfl (nodes_spec a ha)) (by dsimp only [putD, List.set]) ?_
  first | (refine da_quiet (some 19) rfl rfl rfl rfl (fun s hs => op_loadRA rfl fagg_api_Tree) (by dsimp only [putD, List.set]) ?_) | (refine da_quiet (some 19) rfl rfl rfl rfl (by intro s hs; simp only [List.mem_cons, List.not_mem_nil, or_false] at hs; rcases hs with rfl | rfl | rfl <;> exact op_loadPA rfl fagg_api_Tree rfl (by decide) rfl) (by dsimp only [putD, List.set]) ?_)
  refine da_quiet (some 20) rfl rfl rfl rfl (fun s hs => op_call0 rfl rfl rfl rfl (nodes_spec b hb)) (by dsimp only [putD, List.set]) ?_
  refine da_eff (some 8) rfl rfl rfl rfl rfl rfl (op_alloc rfl fzero_Stree_node) (by dsimp only [putD, List.set]) ?_
  refine da_mv 18 7 rfl rfl rfl (.inr rfl) rfl (by dsimp only [List.set]) ?_
  refine da_st1 8 (.tmp 20) rfl rfl rfl rfl rfl rfl rfl (ev_tmp rfl) rfl fone_Stree_node rfl (by first | decide | simp | (simp; omega)) (by first | rfl | (dsimp only [List.set, List.append, List.cons_append, List.nil_append, cellsD, List.map, repl, List.length, Nat.reduceAdd, if_true, ↓reduceIte]; first | done | rfl)) ?_
  refine da_end rfl ⟨by decide +kernel, _, rfl, ?_⟩
  refine run_cv (cv_frz [0] (.keep (.keep (.keep (.keep (.keep (.keep (.keep (.keep (.view (lend_cell1 (x := vnl (nodesT b)) rfl rfl) (.keep (.keep (.keep (.keep (.keep (.keep (.keep (.keep (.keep (.keep (.keep (.keep (.keep (.keep (.keep (.keep (.keep (.keep (.keep (.keep (.keep (.keep (.keep (.keep (.keep (.keep (.keep (.keep (.keep (.keep (.keep (.keep (.keep (.keep (.keep (.keep (.keep (.keep (.keep (.keep (.keep (.keep (.keep (.keep (.keep (.keep (.keep (.keep (.keep (.keep (.keep (.keep (.keep (.keep (.keep (.keep (.keep (.keep (.keep (.keep (.keep (.keep (.keep (.keep (.keep (.keep (.keep (.keep (.keep (.keep (.keep (.keep (.keep (.keep (.keep (.keep (.keep (.keep (.keep (.keep (.keep (.keep (.keep (.keep (.keep (.keep (.keep (.keep (.keep (.keep (.keep (.keep (.keep (.keep (.keep .nil))))))))))))))))))))))))))))))))))))))))))))))))))))))))))))))))))))))))))))))))))))))))))))))))))))))))) ?_
  simp only [killH, List.foldl, List.set]
  refine at_seq [1, 1, 0] [1, 1, 1] rfl ?_
  refine at_seq [1, 1, 0, 0] [1, 1, 0, 1] rfl ?_
  refine at_region rfl ?_
  refine at_mv 7 21 rfl rfl rfl (.inl rfl) rfl (by dsimp only [List.set]) ?_
  first | (refine at_op (some 22) rfl rfl rfl rfl (op_lenL rfl fu_Stree_node) (by dsimp only [putD, List.set]) ?_) | (refine at_op (some 22) rfl rfl rfl rfl (opOK_un (op_lenL rfl fu_Stree_node)) (by dsimp only [putD, List.set]) ?_) | (refine at_op (some 22) rfl rfl rfl rfl (op_lenA rfl fu_Stree_node) (by dsimp only [putD, List.set]) ?_)
  refine at_op (some 23) rfl rfl rfl rfl (op_binI rfl rfl) (by dsimp only [putD, List.set]) ?_
  refine at_mv 23 24 rfl rfl rfl (.inl rfl) rfl (by dsimp only [List.set]) ?_
  refine at_split 24 rfl (fun hb1 env' he => ?_) (fun hb1 env' he => ?_)
  · dsimp only [List.set] at he; subst he
    refine at_opN (some 25) rfl rfl rfl (by dsimp only [putD, List.set]) ?_
    refine at_opN (some 26) rfl rfl rfl (by dsimp only [putD, List.set]) ?_
    refine at_opN (some 27) rfl rfl rfl (by dsimp only [putD, List.set]) ?_
    refine at_pkc true 24 28 rfl rfl rfl rfl rfl rfl (by dsimp only [constD]) (by dsimp only [List.set]) ?_
    refine at_mv 28 29 rfl rfl rfl (.inl rfl) rfl (by dsimp only [List.set]) ?_
    refine at_opN (some 30) rfl rfl rfl (by dsimp only [putD, List.set]) ?_
    refine at_opN (some 31) rfl rfl rfl (by dsimp only [putD, List.set]) ?_
    refine at_opN (some 32) rfl rfl rfl (by dsimp only [putD, List.set]) ?_
    refine at_opN (some 33) rfl rfl rfl (by dsimp only [putD, List.set]) ?_
    refine at_opN (some 34) rfl rfl rfl (by dsimp only [putD, List.set]) ?_
    refine at_pkc true 29 35 rfl rfl rfl rfl rfl rfl (by dsimp only [constD]) (by dsimp only [List.set]) ?_
    refine at_end rfl ?_
    refine at_true [1, 1, 0, 1, 0] [1, 1, 0, 1, 1] rfl rfl ?_
    refine at_seq [1, 1, 0, 1, 0, 0] [1, 1, 0, 1, 0, 1] rfl ?_
    refine at_region rfl ?_
    refine at_mc 6 rfl rfl rfl (.inr rfl) (by dsimp only [constD]) (by dsimp only [List.set]) ?_
    refine at_end rfl ?_
    refine at_ret rfl (ret_one (t := 6) rfl rfl ?_ rfl)
    first | (unfold provX; simp_all; done) | (unfold provX; simp_all; omega)
  · dsimp only [List.set] at he; subst he
    first | (refine at_op (some 25) rfl rfl rfl rfl (op_loadR1 rfl fone_Stree_node rfl) (by dsimp only [putD, List.set]) ?_) | (refine at_op (some 25) rfl rfl rfl rfl (op_loadP1 rfl fone_Stree_node rfl rfl) (by dsimp only [putD, List.set]) ?_)
    first | (refine at_op (some 26) rfl rfl rfl rfl (op_lenL rfl fu_Stree_node) (by dsimp only [putD, List.set]) ?_) | (refine at_op (some 26) rfl rfl rfl rfl (opOK_un (op_lenL rfl fu_Stree_node)) (by dsimp only [putD, List.set]) ?_) | (refine at_op (some 26) rfl rfl rfl rfl (op_lenA rfl fu_Stree_node) (by dsimp only [putD, List.set]) ?_)
    refine at_op (some 27) rfl rfl rfl rfl (op_binI rfl rfl) (by dsimp only [putD, List.set]) ?_
    refine at_pk false 24 27 28 rfl rfl rfl rfl rfl rfl rfl (by dsimp only [List.set]) ?_
    refine at_mv 28 29 rfl rfl rfl (.inl rfl) rfl (by dsimp only [List.set]) ?_
    refine at_split 29 rfl (fun hb2 env' he => ?_) (fun hb2 env' he => ?_)
    · dsimp only [List.set] at he; subst he
      refine at_opN (some 30) rfl rfl rfl (by dsimp only [putD, List.set]) ?_
      refine at_opN (some 31) rfl rfl rfl (by dsimp only [putD, List.set]) ?_
      refine at_opN (some 32) rfl rfl rfl (by dsimp only [putD, List.set]) ?_
      refine at_opN (some 33) rfl rfl rfl (by dsimp only [putD, List.set]) ?_
      refine at_opN (some 34) rfl rfl rfl (by dsimp only [putD, List.set]) ?_
      refine at_pkc true 29 35 rfl rfl rfl rfl rfl rfl (by dsimp only [constD]) (by dsimp only [List.set]) ?_
      refine at_end rfl ?_
      refine at_true [1, 1, 0, 1, 0] [1, 1, 0, 1, 1] rfl rfl ?_
      refine at_seq [1, 1, 0, 1, 0, 0] [1, 1, 0, 1, 0, 1] rfl ?_
      refine at_region rfl ?_
      refine at_mc 6 rfl rfl rfl (.inr rfl) (by dsimp only [constD]) (by dsimp only [List.set]) ?_
      refine at_end rfl ?_
      refine at_ret rfl (ret_one (t := 6) rfl rfl ?_ rfl)
      first | (unfold provX; simp_all; done) | (unfold provX; simp_all; omega)
    · dsimp only [List.set] at he; subst he
      first | (refine at_op (some 30) rfl rfl rfl rfl (op_loadR1 rfl fone_Sint rfl) (by dsimp only [putD, List.set]) ?_) | (refine at_op (some 30) rfl rfl rfl rfl (op_loadP1 rfl fone_Sint rfl rfl) (by dsimp only [putD, List.set]) ?_)
      first | (refine at_op (some 31) rfl rfl rfl rfl (op_lenL rfl fu_Sint) (by dsimp only [putD, List.set]) ?_) | (refine at_op (some 31) rfl rfl rfl rfl (opOK_un (op_lenL rfl fu_Sint)) (by dsimp only [putD, List.set]) ?_) | (refine at_op (some 31) rfl rfl rfl rfl (op_lenA rfl fu_Sint) (by dsimp only [putD, List.set]) ?_)
      refine at_mv 7 32 rfl rfl rfl (.inl rfl) rfl (by dsimp only [List.set]) ?_
      first | (refine at_op (some 33) rfl rfl rfl rfl (op_lenL rfl fu_Stree_node) (by dsimp only [putD, List.set]) ?_) | (refine at_op (some 33) rfl rfl rfl rfl (opOK_un (op_lenL rfl fu_Stree_node)) (by dsimp only [putD, List.set]) ?_) | (refine at_op (some 33) rfl rfl rfl rfl (op_lenA rfl fu_Stree_node) (by dsimp only [putD, List.set]) ?_)
      refine at_op (some 34) rfl rfl rfl rfl (op_binI rfl rfl) (by dsimp only [putD, List.set]) ?_
      refine at_pk false 29 34 35 rfl rfl rfl rfl rfl rfl rfl (by dsimp only [List.set]) ?_
      refine at_end rfl ?_
      refine at_cond [1, 1, 0, 1, 0] [1, 1, 0, 1, 1] rfl rfl (fun hc3 => ?_) (fun hc3 => ?_)
      · skip
        refine at_seq [1, 1, 0, 1, 0, 0] [1, 1, 0, 1, 0, 1] rfl ?_
        refine at_region rfl ?_
        refine at_mc 6 rfl rfl rfl (.inr rfl) (by dsimp only [constD]) (by dsimp only [List.set]) ?_
        refine at_end rfl ?_
        refine at_ret rfl (ret_one (t := 6) rfl rfl ?_ rfl)
        first | (unfold provX; simp_all; done) | (unfold provX; simp_all; omega)
      · skip
        have h1 : ((nodesT a).length == 0) = false := by simp_all
        have h2 : ((nodesT b).length == 0) = false := by simp_all
        have hl : at'.length = (nodesT a).length := by simp_all; omega
        refine at_skip rfl ?_
        refine at_seq [1, 1, 1, 0] [1, 1, 1, 1] rfl ?_
        refine at_seq [1, 1, 1, 0, 0] [1, 1, 1, 0, 1] rfl ?_
        refine at_region rfl ?_
        refine at_mv 7 36 rfl rfl rfl (.inl rfl) rfl (by dsimp only [List.set]) ?_
        first | (refine at_op (some 37) rfl rfl rfl rfl (op_lenL rfl fu_Stree_node) (by dsimp only [putD, List.set]) ?_) | (refine at_op (some 37) rfl rfl rfl rfl (opOK_un (op_lenL rfl fu_Stree_node)) (by dsimp only [putD, List.set]) ?_) | (refine at_op (some 37) rfl rfl rfl rfl (op_lenA rfl fu_Stree_node) (by dsimp only [putD, List.set]) ?_)
        refine at_mc 38 rfl rfl rfl (.inl rfl) (by dsimp only [constD]) (by dsimp only [List.set]) ?_
        refine at_end rfl ?_
        refine at_block [1, 1, 1, 0, 1, 0] 0 rfl ?_
        refine at_loop [1, 1, 1, 0, 1, 0, 0] rfl ?_
        try simp only [List.length_map, List.length_nil, Int.toNat_natCast]
        exact run_wk (.drop (.drop (.drop (.drop (.drop (.keep (.drop (.keep (.keep (.drop (.drop (.drop (.drop (.drop (.drop (.drop (.drop (.drop (.drop (.drop (.drop (.drop (.drop (.drop (.drop (.drop (.drop (.drop (.drop (.drop (.drop (.drop (.drop (.drop (.drop (.drop (.keep (.keep (.keep (.drop (.drop (.drop (.drop (.drop (.drop (.drop (.drop (.drop (.drop (.drop (.drop (.drop (.drop (.drop (.drop (.drop (.drop (.drop (.drop (.drop (.drop (.drop (.drop (.drop (.drop (.drop (.drop (.drop (.drop (.drop (.drop (.drop (.drop (.drop (.drop (.drop (.drop (.drop (.drop (.drop (.drop (.drop (.drop (.drop (.drop (.drop (.drop (.drop (.drop (.drop (.drop (.drop (.drop (.drop (.drop (.drop (.drop (.drop (.drop (.drop (.drop (.drop (.drop (.drop .nil)))))))))))))))))))))))))))))))))))))))))))))))))))))))))))))))))))))))))))))))))))))))))))))))))))))))) (proves_one (nodesT a) (nodesT b) (nodesT_wf a) (nodesT_wf b) at' hl _ (by unfold provX; simp only [hl, h1, h2]; simp) _ 0 rfl (by rw [List.drop_zero]))

end Go.Proofs.Ytaceggcohmmfhaa
