/-
  Package tree, walked: where all nodes can go.
-/
import Derived.Test.YtoofgniepbidnaaWj
namespace Go.Proofs.Ytoofgniepbidnaa
open Go.Dv Tr

def rowOK (A B : List Nd) (to : List (List Nat)) (i j : Nat) : Bool :=
  match A[i]?, B[j]? with
  | some na, some nb => na.lab == nb.lab && (plM (intoT B to) na.kids nb.kids).isSome
  | _, _ => false
def rowM (A B : List Nd) (to : List (List Nat)) (i : Nat) : List Nat := (List.range B.length).filter (rowOK A B to i)
def solD (A B : List Nd) : Nat → List (List Nat)
  | 0 => []
  | k + 1 => rowM A B (List.replicate (A.length - (k + 1)) [] ++ [] :: solD A B k) (A.length - (k + 1)) :: solD A B k
theorem solD_length (A B : List Nd) : ∀ k, (solD A B k).length = k
  | 0 => rfl
  | k + 1 => by simp [solD, solD_length A B k]
theorem rowM_length (A B : List Nd) (to : List (List Nat)) (i : Nat) : (rowM A B to i).length ≤ B.length := by
  unfold rowM; exact Nat.le_trans (List.length_filter_le _ _) (by simp)

/-- children come behind, within the tree -/
structure Wf (A : List Nd) : Prop where
  len : A.length ≤ 1000
  kids : ∀ i na, A[i]? = some na → na.kids.length ≤ 1000 ∧ ∀ k ∈ na.kids, i < k ∧ k < A.length

theorem plM_congr {f f' : Nat → Nat → Int} : ∀ (ks rest : List Nat), (∀ k ∈ ks, ∀ r, f k r = f' k r) → plM f ks rest = plM f' ks rest
  | [], rest, _ => by cases rest <;> rfl
  | k :: ks, [], _ => rfl
  | k :: ks, r :: rest, h => by
    simp only [plM]
    rw [h k List.mem_cons_self r, plM_congr ks rest (fun k' hk' => h k' (List.mem_cons_of_mem _ hk')), plM_congr (k :: ks) rest h]
theorem gt_other {i k : Nat} {x y : List Nat} {d : List (List Nat)} (h : i < k) : gt (List.replicate i [] ++ x :: d) k = gt (List.replicate i [] ++ y :: d) k := by
  unfold gt
  rw [List.getElem?_append_right (by simp; omega), List.getElem?_append_right (by simp; omega), List.length_replicate]
  obtain ⟨m, hm⟩ : ∃ m, k - i = m + 1 := ⟨k - i - 1, by omega⟩
  rw [hm]; rfl
theorem rowOK_acc {A B : List Nd} (hA : Wf A) {i : Nat} {x y : List Nat} {d : List (List Nat)} (j : Nat) : rowOK A B (List.replicate i [] ++ x :: d) i j = rowOK A B (List.replicate i [] ++ y :: d) i j := by
  unfold rowOK
  cases ha : A[i]? with
  | none => rfl
  | some na =>
    cases hb : B[j]? with
    | none => rfl
    | some nb =>
      simp only
      rw [plM_congr na.kids nb.kids (f := intoT B (List.replicate i [] ++ x :: d)) (f' := intoT B (List.replicate i [] ++ y :: d))]
      intro k hk r
      unfold intoT
      rw [gt_other ((hA.kids i na ha).2 k hk).1]

abbrev toCells (i : Nat) (acc : List Nat) (d : List (List Nat)) : List D := List.replicate i (.v .nils) ++ .acc 1 (pv acc) :: d.map fun l => dl (il l)
abbrev seObj (A B : List Nd) : Option (List D) := some [dnl A, dnl B, .arr 1 0 A.length]
abbrev solSt (A B : List Nd) (i : Nat) (acc : List Nat) (d : List (List Nat)) : St := ⟨[seObj A B, some (toCells i acc d)], [(1, 1, pv acc)]⟩
theorem toCells_get (i : Nat) (acc : List Nat) (d : List (List Nat)) : (toCells i acc d)[i]? = some (.acc 1 (pv acc)) := by
  rw [List.getElem?_append_right (by simp), List.length_replicate, Nat.sub_self]; rfl
theorem repl_set {α : Type} (i : Nat) (z x y : α) (d : List α) : (List.replicate i z ++ x :: d).set i y = List.replicate i z ++ y :: d := by
  rw [List.set_append_right _ _ (by simp), List.length_replicate, Nat.sub_self]; rfl
theorem repl_get {α : Type} (i : Nat) (z x : α) (d : List α) : (List.replicate i z ++ x :: d)[i]? = some x := by
  rw [List.getElem?_append_right (by simp), List.length_replicate, Nat.sub_self]; rfl
theorem repl_snoc {α : Type} (i : Nat) (z : α) (d : List α) : List.replicate (i + 1) z ++ d = List.replicate i z ++ z :: d := by
  rw [List.replicate_succ', List.append_assoc]; rfl

theorem lend_arr {L : Nat → Option (List D)} {q : Nat} {cs : List D} {to : List (List Nat)} {len : Nat} (hL : L q = some cs) (hlen : len = to.length) (hcs : ∀ (j : Nat) (l : List Nat), to[j]? = some l → ∃ c, cs[j]? = some c ∧ ∃ d', See1 c d' ∧ d'.toV = some (vl (il l))) : lends L 1 (.arr q 0 len) (vll to) := by
  subst hlen
  refine .inr (.inr ⟨q, 0, 1, cs, to.map fun l => vl (il l), .inl (by simp), rfl, by decide, by simp [V.size], hL, fun j y hj => ?_⟩)
  have hf : (to.map fun l => vl (il l)).flatMap V.cellsV = to.map fun l => vl (il l) := by
    clear hj hcs
    induction to with
    | nil => rfl
    | cons l to ih => simp only [List.map_cons, List.flatMap_cons, V.cellsV, ih]; rfl
  rw [hf, List.getElem?_map] at hj
  cases hl : to[j]? with
  | none => simp [hl] at hj
  | some l =>
    simp [hl] at hj
    subst hj
    obtain ⟨c, h1, h2⟩ := hcs j l hl
    exact ⟨rfl, c, by simpa using h1, h2⟩
theorem lend_se {L : Nat → Option (List D)} {A B : List Nd} {o : Nat} {d : D} {to : List (List Nat)} (h0 : L o = some [dnl A, dnl B, d]) (h1 : lends L 1 d (vll to)) : lends L 2 (.ptr o 0) (.ref (vse A B to)) := by
  refine .inr (.inl ⟨o, 0, [dnl A, dnl B, d], vse A B to, rfl, rfl, h0, fun j y hj => ?_⟩)
  simp only [V.cellsV] at hj
  match j, hj with
  | 0, hj => simp at hj; subst hj; exact ⟨rfl, dnl A, rfl, .inl ⟨dnl A, .same, rfl⟩⟩
  | 1, hj => simp at hj; subst hj; exact ⟨rfl, dnl B, rfl, .inl ⟨dnl B, .same, rfl⟩⟩
  | 2, hj => simp at hj; subst hj; exact ⟨rfl, d, rfl, h1⟩
  | j + 3, hj => simp at hj
theorem lend_sol (A B : List Nd) (i : Nat) (acc : List Nat) (d : List (List Nat)) (hl : A.length = i + 1 + d.length) : lends (fun o => ((solSt A B i acc d).H[o]?).join) 2 (.ptr 0 0) (.ref (vse A B (List.replicate i [] ++ acc :: d))) := by
  refine lend_se (d := .arr 1 0 A.length) rfl (lend_arr (cs := toCells i acc d) rfl (by simp; omega) (fun j l hj => ?_))
  by_cases h1 : j < i
  · rw [List.getElem?_append_left (by simpa using h1)] at hj
    simp [List.getElem?_replicate, h1] at hj
    subst hj
    exact ⟨.v .nils, by rw [List.getElem?_append_left (by simpa using h1)]; simp [List.getElem?_replicate, h1], _, .nils, rfl⟩
  · rw [List.getElem?_append_right (by simp; omega), List.length_replicate] at hj
    cases hm : j - i with
    | zero =>
      rw [hm] at hj; simp at hj; subst hj
      exact ⟨.acc 1 (pv acc), by rw [List.getElem?_append_right (by simp; omega), List.length_replicate, hm]; rfl, _, .acc, rfl⟩
    | succ m =>
      rw [hm] at hj; simp at hj
      exact ⟨dl (il l), by rw [List.getElem?_append_right (by simp; omega), List.length_replicate, hm]; simp [hj], _, .same, rfl⟩
theorem all_to {n i : Nat} {acc : List Nat} {d : List (List Nat)} (ha : acc.length ≤ n) (hd : ∀ l ∈ d, l.length ≤ n) : ∀ l ∈ List.replicate i [] ++ acc :: d, l.length ≤ n := by
  intro l hl
  rcases List.mem_append.1 hl with h | h
  · rw [List.mem_replicate] at h; simp [h.2]
  · rcases List.mem_cons.1 h with rfl | h
    · exact ha
    · exact hd l h
theorem range_at {n j : Nat} (h : j < n) : (List.range n).drop j = j :: (List.range n).drop (j + 1) := by
  rw [List.drop_eq_getElem_cons (by simpa using h)]; simp
theorem range_end {n j : Nat} (h : n ≤ j) : (List.range n).drop j = [] := List.drop_of_length_le (by simpa using h)

theorem ret_keep {P : Program} {fn : Func} {env : List D} {σ : St} (hr : fn.results.toList = []) (ho : σ.own = []) : ResOK P fn env σ (.tup []) ⟨σ.H, []⟩ := by
  intro E g a w hf hE
  refine ⟨.tuple #[], g, ?_, ?_, by simp only [repD]; exact ⟨[], rfl, by simp [repDs]⟩⟩
  · rw [results_eq, Array.mapM_eq_mapM_toList, hr]
    simp
  · have : σ = ⟨σ.H, []⟩ := by cases σ; simp_all
    rw [← this]; exact hf.wi
abbrev doneCells (r : Nat) (d : List (List Nat)) : List D := List.replicate r (.v .nils) ++ d.map fun l => dl (il l)
theorem noTag_cells {A B : List Nd} {r : Nat} {d : List (List Nat)} : ∀ (i : Nat) (cs : List D), [seObj A B, some (doneCells r d)][i]? = some (some cs) → ∀ x ∈ cs, x.noTag 1 = true := by
  intro i cs hi x hx
  match i, hi with
  | 0, hi => simp at hi; subst hi; simp at hx; rcases hx with rfl | rfl | rfl <;> rfl
  | 1, hi =>
    simp at hi; subst hi
    rcases List.mem_append.1 hx with h | h
    · rw [List.mem_replicate] at h; rw [h.2]; rfl
    · obtain ⟨l, _, rfl⟩ := List.mem_map.1 h; rfl
  | i + 2, hi => simp at hi

theorem solD_len {A B : List Nd} : ∀ {k : Nat} {l : List Nat}, l ∈ solD A B k → l.length ≤ B.length
  | 0, l, h => by simp [solD] at h
  | k + 1, l, h => by
    simp only [solD] at h
    rcases List.mem_cons.1 h with rfl | h
    · exact rowM_length A B _ _
    · exact solD_len h

noncomputable def cSolve : Code := Try.f80.body.getD .skip
set_option maxRecDepth 20000 in
theorem solve_inner (R : List D → St → Prop) (K : List KI) (A B : List Nd) (hA : Wf A) (hB : Wf B) (i : Nat) (na : Nd) (ha : A[i]? = some na) (d : List (List Nat)) (hl : A.length = i + 1 + d.length) (hd : ∀ l ∈ d, l.length ≤ 1000000) (T : List Nat) (hk : Run PP R K ((.ptr 0 0) :: .undef :: (di ↑i) :: .undef :: .undef :: .undef :: .undef :: .undef :: .undef :: .undef :: .undef :: .undef :: .undef :: .undef :: .undef :: .undef :: .undef :: .undef :: .undef :: .undef :: .undef :: .undef :: .undef :: .undef :: .undef :: .undef :: .undef :: .undef :: .undef :: .undef :: .undef :: .undef :: .undef :: .undef :: .undef :: .undef :: .undef :: .undef :: .undef :: .undef :: .undef :: .undef :: .undef :: .undef :: .undef :: .undef :: .undef :: .undef :: .undef :: .undef :: .undef :: .undef :: .undef :: .undef :: .undef :: .undef :: .undef :: .undef :: .undef :: .undef :: .undef :: .undef :: .undef :: .undef :: .undef :: .undef :: .undef :: .undef :: .undef :: .undef :: .undef :: .undef :: []) (solSt A B i T d)) (m : Nat) : ∀ (j : Nat) (acc : List Nat), B.length - j = m → acc.length ≤ j → T = acc ++ ((List.range B.length).drop j).filter (rowOK A B (List.replicate i [] ++ [] :: d) i) → Run PP R (.lp (sub cSolve [1, 1, 0, 0, 1, 0, 0, 1, 0, 0]) :: .blk 2 :: K) ((.ptr 0 0) :: .undef :: (di ↑i) :: .undef :: .undef :: .undef :: .undef :: .undef :: .undef :: .undef :: .undef :: .undef :: .undef :: .undef :: .undef :: .undef :: .undef :: .undef :: .undef :: .undef :: .undef :: .undef :: .undef :: .undef :: .undef :: .undef :: .undef :: .undef :: .undef :: (dnl B) :: (di ↑B.length) :: (di ↑j) :: .undef :: .undef :: .undef :: .undef :: .undef :: .undef :: .undef :: .undef :: .undef :: .undef :: .undef :: .undef :: .undef :: .undef :: .undef :: .undef :: .undef :: .undef :: .undef :: .undef :: .undef :: .undef :: .undef :: .undef :: .undef :: .undef :: .undef :: .undef :: .undef :: .undef :: .undef :: .undef :: .undef :: .undef :: .undef :: .undef :: .undef :: .undef :: .undef :: .undef :: []) (solSt A B i acc d) := by
  induction m using Nat.strongRecOn with
  | _ m ih =>
    intro j acc hm hac hT
    have hAl := hA.len
    have hBl := hB.len
    have ha2 := idx_node ha
    obtain ⟨hn1, hn2⟩ := hA.kids i na ha
    refine run_lp ?_
    refine at_seq [1, 1, 0, 0, 1, 0, 0, 1, 0, 0, 0] [1, 1, 0, 0, 1, 0, 0, 1, 0, 0, 1] rfl ?_
    refine at_region rfl ?_
    refine at_op (some 32) rfl rfl rfl rfl (op_binI rfl rfl) (by dsimp only [putD, List.set]) ?_
    refine at_end rfl ?_
    refine at_seq [1, 1, 0, 0, 1, 0, 0, 1, 0, 0, 1, 0] [1, 1, 0, 0, 1, 0, 0, 1, 0, 0, 1, 1] rfl ?_
    refine at_cond [1, 1, 0, 0, 1, 0, 0, 1, 0, 0, 1, 0, 0] [1, 1, 0, 0, 1, 0, 0, 1, 0, 0, 1, 0, 1] rfl rfl (fun hc1 => ?_) (fun hc1 => ?_)
    · skip
      have hlt : j < B.length := by simpa using hc1
      obtain ⟨nb, hb⟩ := get_ex hlt
      have hb2 := idx_node hb
      obtain ⟨hb3, hb4⟩ := hB.kids j nb hb
      rw [range_at hlt, List.filter_cons] at hT
      have hrow : rowOK A B (List.replicate i [] ++ [] :: d) i j = (na.lab == nb.lab && (plM (intoT B (List.replicate i [] ++ acc :: d)) na.kids nb.kids).isSome) := by rw [rowOK_acc hA (y := acc)]; simp [rowOK, ha, hb]
      refine at_skip rfl ?_
      refine at_seq [1, 1, 0, 0, 1, 0, 0, 1, 0, 0, 1, 1, 0] [1, 1, 0, 0, 1, 0, 0, 1, 0, 0, 1, 1, 1] rfl ?_
      refine at_block [1, 1, 0, 0, 1, 0, 0, 1, 0, 0, 1, 1, 0, 0] 3 rfl ?_
      refine at_seq [1, 1, 0, 0, 1, 0, 0, 1, 0, 0, 1, 1, 0, 0, 0] [1, 1, 0, 0, 1, 0, 0, 1, 0, 0, 1, 1, 0, 0, 1] rfl ?_
      refine at_region rfl ?_
      refine at_mv 31 33 rfl rfl rfl (.inl rfl) rfl (by dsimp only [List.set]) ?_
      first | (refine at_op (some 34) rfl rfl rfl rfl (op_idxL rfl fsl_Stree_node (by first | decide | omega) (by first | assumption | exact idx_some (by assumption) | rfl) (by first | rfl | (simp [V.size]; done))) (by dsimp only [putD, List.set]) ?_) | (refine at_op (some 34) rfl rfl rfl rfl (opOK_un (op_idxL rfl fsl_Stree_node (by first | decide | omega) (by first | assumption | exact idx_some (by assumption) | rfl) (by first | rfl | (simp [V.size]; done)))) (by dsimp only [putD, List.set]) ?_) | (refine at_op (some 34) rfl rfl rfl rfl (op_idxA rfl fsl_Stree_node (by first | decide | omega) (by first | decide | omega)) (by dsimp only [putD, List.set]) ?_)
      first | (refine at_op (some 35) rfl rfl rfl rfl (op_loadRA rfl fagg_tree_node) (by dsimp only [putD, List.set]) ?_) | (refine at_op (some 35) rfl rfl rfl rfl (op_loadPA rfl fagg_tree_node rfl (by decide) rfl) (by dsimp only [putD, List.set]) ?_)
      refine at_new1 35 4 33 3 rfl rfl rfl rfl fzero_tree_node rfl rfl rfl (.inr rfl) rfl (by decide) (by decide) (by decide) rfl rfl rfl rfl (by decide) rfl rfl fagg_tree_node (by first | rfl | (simp [V.size]; done)) rfl (by simp only [List.length_cons]; omega) (by dsimp only [List.set]) ?_
      refine at_end rfl ?_
      refine at_seq [1, 1, 0, 0, 1, 0, 0, 1, 0, 0, 1, 1, 0, 0, 1, 0] [1, 1, 0, 0, 1, 0, 0, 1, 0, 0, 1, 1, 0, 0, 1, 1] rfl ?_
      refine at_seq [1, 1, 0, 0, 1, 0, 0, 1, 0, 0, 1, 1, 0, 0, 1, 0, 0] [1, 1, 0, 0, 1, 0, 0, 1, 0, 0, 1, 1, 0, 0, 1, 0, 1] rfl ?_
      refine at_draw mixed rfl [solSt A B i acc d] rfl ?_
      first | (refine da_quiet (some 36) rfl rfl rfl rfl (fun s hs => op_fieldP rfl ffld0_tree_node (by decide)) (by dsimp only [putD, List.set]) ?_) | (refine da_quiet (some 36) rfl rfl rfl rfl (fun s hs => op_fieldR rfl ffld0_tree_node (by decide) (by decide) rfl) (by dsimp only [putD, List.set]) ?_)
      first | (refine da_quiet (some 37) rfl rfl rfl rfl (fun s hs => op_loadR1 rfl fone_int rfl) (by dsimp only [putD, List.set]) ?_) | (refine da_quiet (some 37) rfl rfl rfl rfl (by intro s hs; simp only [List.mem_cons, List.not_mem_nil, or_false] at hs; rcases hs with rfl <;> exact op_loadP1 rfl fone_int rfl rfl) (by dsimp only [putD, List.set]) ?_)
      refine da_mv 0 38 rfl rfl rfl (.inl rfl) rfl (by dsimp only [List.set]) ?_
      first | (refine da_quiet (some 39) rfl rfl rfl rfl (fun s hs => op_nilCheck_ptr rfl) (by dsimp only [putD, List.set]) ?_) | (refine da_quiet (some 39) rfl rfl rfl rfl (fun s hs => op_nilCheck_ref rfl) (by dsimp only [putD, List.set]) ?_)
      first | (refine da_quiet (some 40) rfl rfl rfl rfl (fun s hs => op_fieldP rfl ffld0_tree_search (by decide)) (by dsimp only [putD, List.set]) ?_) | (refine da_quiet (some 40) rfl rfl rfl rfl (fun s hs => op_fieldR rfl ffld0_tree_search (by decide) (by decide) rfl) (by dsimp only [putD, List.set]) ?_)
      first | (refine da_quiet (some 41) rfl rfl rfl rfl (fun s hs => op_loadR1 rfl fone_Stree_node rfl) (by dsimp only [putD, List.set]) ?_) | (refine da_quiet (some 41) rfl rfl rfl rfl (by intro s hs; simp only [List.mem_cons, List.not_mem_nil, or_false] at hs; rcases hs with rfl <;> exact op_loadP1 rfl fone_Stree_node rfl rfl) (by dsimp only [putD, List.set]) ?_)
      refine da_mv 2 42 rfl rfl rfl (.inl rfl) rfl (by dsimp only [List.set]) ?_
      first | (refine da_quiet (some 43) rfl rfl rfl rfl (fun s hs => op_idxL rfl fsl_Stree_node (by first | decide | omega) (by first | assumption | exact idx_some (by assumption) | rfl) (by first | rfl | (simp [V.size]; done))) (by dsimp only [putD, List.set]) ?_) | (refine da_quiet (some 43) rfl rfl rfl rfl (fun s hs => opOK_un (op_idxL rfl fsl_Stree_node (by first | decide | omega) (by first | assumption | exact idx_some (by assumption) | rfl) (by first | rfl | (simp [V.size]; done)))) (by dsimp only [putD, List.set]) ?_) | (refine da_quiet (some 43) rfl rfl rfl rfl (fun s hs => op_idxA rfl fsl_Stree_node (by first | decide | omega) (by first | decide | omega)) (by dsimp only [putD, List.set]) ?_)
      first | (refine da_quiet (some 44) rfl rfl rfl rfl (fun s hs => op_fieldP rfl ffld0_tree_node (by decide)) (by dsimp only [putD, List.set]) ?_) | (refine da_quiet (some 44) rfl rfl rfl rfl (fun s hs => op_fieldR rfl ffld0_tree_node (by decide) (by decide) rfl) (by dsimp only [putD, List.set]) ?_)
      first | (refine da_quiet (some 45) rfl rfl rfl rfl (fun s hs => op_loadR1 rfl fone_int rfl) (by dsimp only [putD, List.set]) ?_) | (refine da_quiet (some 45) rfl rfl rfl rfl (by intro s hs; simp only [List.mem_cons, List.not_mem_nil, or_false] at hs; rcases hs with rfl <;> exact op_loadP1 rfl fone_int rfl rfl) (by dsimp only [putD, List.set]) ?_)
      refine da_quiet (some 46) rfl rfl rfl rfl (fun s hs => op_binI rfl rfl) (by dsimp only [putD, List.set]) ?_
      refine da_end rfl ⟨by decide +kernel, _, rfl, ?_⟩
      refine at_cond [1, 1, 0, 0, 1, 0, 0, 1, 0, 0, 1, 1, 0, 0, 1, 0, 1, 0] [1, 1, 0, 0, 1, 0, 0, 1, 0, 0, 1, 1, 0, 0, 1, 0, 1, 1] rfl rfl (fun hc2 => ?_) (fun hc2 => ?_)
      · skip
        have hne : rowOK A B (List.replicate i [] ++ [] :: d) i j = false := by rw [hrow]; simp at hc2; simp; intro e; exact absurd e.symm hc2
        rw [hne] at hT
        refine at_exit rfl rfl ?_
        refine at_region rfl ?_
        refine at_op (some 71) rfl rfl rfl rfl (op_binI rfl rfl) (by dsimp only [putD, List.set]) ?_
        refine at_mv 71 31 rfl rfl rfl (.inl rfl) rfl (by dsimp only [List.set]) ?_
        refine at_end rfl ?_
        rw [wrap_succ (by omega)]
        first | exact run_wk (.keep (.drop (.keep (.drop (.drop (.drop (.drop (.drop (.drop (.drop (.drop (.drop (.drop (.drop (.drop (.drop (.drop (.drop (.drop (.drop (.drop (.drop (.drop (.drop (.drop (.drop (.drop (.drop (.drop (.keep (.keep (.keep (.drop (.drop (.drop (.drop (.drop (.drop (.drop (.drop (.drop (.drop (.drop (.drop (.drop (.drop (.drop (.drop (.drop (.drop (.drop (.drop (.drop (.drop (.drop (.drop (.drop (.drop (.drop (.drop (.drop (.drop (.drop (.drop (.drop (.drop (.drop (.drop (.drop (.drop (.drop (.drop .nil)))))))))))))))))))))))))))))))))))))))))))))))))))))))))))))))))))))))) (ih _ (by omega) (j + 1) _ rfl (by omega) (by simpa using hT)) | exact run_wk (.keep (.drop (.keep (.drop (.drop (.drop (.drop (.drop (.drop (.drop (.drop (.drop (.drop (.drop (.drop (.drop (.drop (.drop (.drop (.drop (.drop (.drop (.drop (.drop (.drop (.drop (.drop (.drop (.drop (.keep (.keep (.keep (.drop (.drop (.drop (.drop (.drop (.drop (.drop (.drop (.drop (.drop (.drop (.drop (.drop (.drop (.drop (.drop (.drop (.drop (.drop (.drop (.drop (.drop (.drop (.drop (.drop (.drop (.drop (.drop (.drop (.drop (.drop (.drop (.drop (.drop (.drop (.drop (.drop (.drop (.drop (.drop .nil)))))))))))))))))))))))))))))))))))))))))))))))))))))))))))))))))))))))) (ih _ (by omega) (j + 1) (acc ++ [j]) rfl (by simp; omega) (by simpa using hT))
      · skip
        have heq : (na.lab == nb.lab) = true := by simp at hc2; simp [hc2]
        rw [heq, Bool.true_and] at hrow
        refine at_skip rfl ?_
        refine at_seq [1, 1, 0, 0, 1, 0, 0, 1, 0, 0, 1, 1, 0, 0, 1, 1, 0] [1, 1, 0, 0, 1, 0, 0, 1, 0, 0, 1, 1, 0, 0, 1, 1, 1] rfl ?_
        refine at_region rfl ?_
        refine at_mv 0 48 rfl rfl rfl (.inl rfl) rfl (by dsimp only [List.set]) ?_
        refine at_mv 2 49 rfl rfl rfl (.inl rfl) rfl (by dsimp only [List.set]) ?_
        refine at_mv 3 50 rfl rfl rfl (.inl rfl) rfl (by dsimp only [List.set]) ?_
        refine at_op (some 51) rfl rfl rfl rfl (op_callB rfl rfl (.cons (n := 2) (lend_sol A B i acc d hl) (.cons (n := 0) ⟨_, .same, rfl⟩ (.cons (n := 0) ⟨_, .same, rfl⟩ .nil))) rfl (place_spec A B (List.replicate i [] ++ acc :: d) (all_to (by omega) hd) i j na nb ha hb (fun k hk => by have := (hn2 k hk).2; simp; omega) (by omega) (fun r hr => (hb4 r hr).2) (by omega))) (by dsimp only [putD, List.set]) ?_
        refine at_mv 51 47 rfl rfl rfl (.inl rfl) rfl (by dsimp only [List.set]) ?_
        refine at_op (some 52) rfl rfl rfl rfl (op_extract rfl rfl) (by dsimp only [putD, List.set]) ?_
        refine at_op (some 53) rfl rfl rfl rfl (op_extract rfl rfl) (by dsimp only [putD, List.set]) ?_
        refine at_mv 52 5 rfl rfl rfl (.inr rfl) rfl (by dsimp only [List.set]) ?_
        refine at_mv 53 6 rfl rfl rfl (.inr rfl) rfl (by dsimp only [List.set]) ?_
        refine at_end rfl ?_
        refine at_seq [1, 1, 0, 0, 1, 0, 0, 1, 0, 0, 1, 1, 0, 0, 1, 1, 1, 0] [1, 1, 0, 0, 1, 0, 0, 1, 0, 0, 1, 1, 0, 0, 1, 1, 1, 1] rfl ?_
        refine at_region rfl ?_
        refine at_mv 6 54 rfl rfl rfl (.inl rfl) rfl (by dsimp only [List.set]) ?_
        refine at_end rfl ?_
        refine at_cond [1, 1, 0, 0, 1, 0, 0, 1, 0, 0, 1, 1, 0, 0, 1, 1, 1, 1, 0] [1, 1, 0, 0, 1, 0, 0, 1, 0, 0, 1, 1, 0, 0, 1, 1, 1, 1, 1] rfl rfl (fun hc3 => ?_) (fun hc3 => ?_)
        · skip
          rw [hc3] at hrow
          rw [hrow] at hT
          refine at_draw mixed rfl [solSt A B i acc d, solSt A B i acc d, ⟨[seObj A B, some (toCells i acc d)], [(1, 1, pv acc ++ [vi ↑j])]⟩, ⟨[seObj A B, some ((toCells i acc d).set i (.acc 1 (pv acc ++ [vi ↑j])))], [(1, 1, pv acc ++ [vi ↑j])]⟩] rfl ?_
          refine da_mv 0 55 rfl rfl rfl (.inl rfl) rfl (by dsimp only [List.set]) ?_
          first | (refine da_quiet (some 56) rfl rfl rfl rfl (fun s hs => op_nilCheck_ptr rfl) (by dsimp only [putD, List.set]) ?_) | (refine da_quiet (some 56) rfl rfl rfl rfl (fun s hs => op_nilCheck_ref rfl) (by dsimp only [putD, List.set]) ?_)
          first | (refine da_quiet (some 57) rfl rfl rfl rfl (fun s hs => op_fieldP rfl ffld2_tree_search (by decide)) (by dsimp only [putD, List.set]) ?_) | (refine da_quiet (some 57) rfl rfl rfl rfl (fun s hs => op_fieldR rfl ffld2_tree_search (by decide) (by decide) rfl) (by dsimp only [putD, List.set]) ?_)
          first | (refine da_quiet (some 58) rfl rfl rfl rfl (fun s hs => op_loadR1 rfl fone__5b5d5b5d_int rfl) (by dsimp only [putD, List.set]) ?_) | (refine da_quiet (some 58) rfl rfl rfl rfl (by intro s hs; simp only [List.mem_cons, List.not_mem_nil, or_false] at hs; rcases hs with rfl | rfl | rfl | rfl <;> exact op_loadP1 rfl fone__5b5d5b5d_int rfl rfl) (by dsimp only [putD, List.set]) ?_)
          refine da_mv 2 59 rfl rfl rfl (.inl rfl) rfl (by dsimp only [List.set]) ?_
          refine da_mv 0 60 rfl rfl rfl (.inl rfl) rfl (by dsimp only [List.set]) ?_
          first | (refine da_quiet (some 61) rfl rfl rfl rfl (fun s hs => op_nilCheck_ptr rfl) (by dsimp only [putD, List.set]) ?_) | (refine da_quiet (some 61) rfl rfl rfl rfl (fun s hs => op_nilCheck_ref rfl) (by dsimp only [putD, List.set]) ?_)
          first | (refine da_quiet (some 62) rfl rfl rfl rfl (fun s hs => op_fieldP rfl ffld2_tree_search (by decide)) (by dsimp only [putD, List.set]) ?_) | (refine da_quiet (some 62) rfl rfl rfl rfl (fun s hs => op_fieldR rfl ffld2_tree_search (by decide) (by decide) rfl) (by dsimp only [putD, List.set]) ?_)
          first | (refine da_quiet (some 63) rfl rfl rfl rfl (fun s hs => op_loadR1 rfl fone__5b5d5b5d_int rfl) (by dsimp only [putD, List.set]) ?_) | (refine da_quiet (some 63) rfl rfl rfl rfl (by intro s hs; simp only [List.mem_cons, List.not_mem_nil, or_false] at hs; rcases hs with rfl | rfl | rfl | rfl <;> exact op_loadP1 rfl fone__5b5d5b5d_int rfl rfl) (by dsimp only [putD, List.set]) ?_)
          refine da_mv 2 64 rfl rfl rfl (.inl rfl) rfl (by dsimp only [List.set]) ?_
          first | (refine da_quiet (some 65) rfl rfl rfl rfl (fun s hs => op_idxL rfl fsl__5b5d5b5d_int (by first | decide | omega) (by first | assumption | exact idx_some (by assumption) | rfl) (by first | rfl | (simp [V.size]; done))) (by dsimp only [putD, List.set]) ?_) | (refine da_quiet (some 65) rfl rfl rfl rfl (fun s hs => opOK_un (op_idxL rfl fsl__5b5d5b5d_int (by first | decide | omega) (by first | assumption | exact idx_some (by assumption) | rfl) (by first | rfl | (simp [V.size]; done)))) (by dsimp only [putD, List.set]) ?_) | (refine da_quiet (some 65) rfl rfl rfl rfl (fun s hs => op_idxA rfl fsl__5b5d5b5d_int (by first | decide | omega) (by first | decide | omega)) (by dsimp only [putD, List.set]) ?_)
          simp only [Int.toNat_natCast, Nat.zero_add, Nat.mul_one]
          refine da_eff (some 66) rfl rfl rfl rfl rfl rfl (op_loadP1 rfl fone_Sint rfl (toCells_get i acc d)) (by dsimp only [putD, List.set]) ?_
          refine da_mv 3 67 rfl rfl rfl (.inl rfl) rfl (by dsimp only [List.set]) ?_
          refine da_quiet (some 68) rfl rfl rfl rfl (fun s hs => op_buildSlice rfl (by rfl) (by rfl) fsl_Sint rfl rfl (by simp [V.size]) (by decide) (by decide) (by decide)) (by dsimp only [putD, List.set]) ?_
          refine da_eff (some 69) rfl rfl rfl rfl rfl rfl (op_append rfl fsl_Sint rfl (by simp) (by simp [V.size]) (by simp; omega) (by simp; omega)) (by dsimp only [putD, List.set]) ?_
          first | (refine da_quiet (some 70) rfl rfl rfl rfl (fun s hs => op_idxL rfl fsl__5b5d5b5d_int (by first | decide | omega) (by first | assumption | exact idx_some (by assumption) | rfl) (by first | rfl | (simp [V.size]; done))) (by dsimp only [putD, List.set]) ?_) | (refine da_quiet (some 70) rfl rfl rfl rfl (fun s hs => opOK_un (op_idxL rfl fsl__5b5d5b5d_int (by first | decide | omega) (by first | assumption | exact idx_some (by assumption) | rfl) (by first | rfl | (simp [V.size]; done)))) (by dsimp only [putD, List.set]) ?_) | (refine da_quiet (some 70) rfl rfl rfl rfl (fun s hs => op_idxA rfl fsl__5b5d5b5d_int (by first | decide | omega) (by first | decide | omega)) (by dsimp only [putD, List.set]) ?_)
          simp only [Int.toNat_natCast, Nat.zero_add, Nat.mul_one]
          refine da_st1 70 (.tmp 69) rfl rfl rfl rfl rfl rfl rfl (ev_tmp rfl) rfl fone_Sint rfl (by simp) (by first | rfl | (dsimp only [List.set, List.append, List.cons_append, List.nil_append, cellsD, List.map, repl, List.length, Nat.reduceAdd, if_true, ↓reduceIte]; first | done | rfl)) ?_
          refine da_end rfl ⟨by decide +kernel, _, rfl, ?_⟩
          rw [repl_set, show pv acc ++ [vi ↑j] = pv (acc ++ [j]) from by simp]
          refine run_blk ?_
          refine at_region rfl ?_
          refine at_op (some 71) rfl rfl rfl rfl (op_binI rfl rfl) (by dsimp only [putD, List.set]) ?_
          refine at_mv 71 31 rfl rfl rfl (.inl rfl) rfl (by dsimp only [List.set]) ?_
          refine at_end rfl ?_
          rw [wrap_succ (by omega)]
          first | exact run_wk (.keep (.drop (.keep (.drop (.drop (.drop (.drop (.drop (.drop (.drop (.drop (.drop (.drop (.drop (.drop (.drop (.drop (.drop (.drop (.drop (.drop (.drop (.drop (.drop (.drop (.drop (.drop (.drop (.drop (.keep (.keep (.keep (.drop (.drop (.drop (.drop (.drop (.drop (.drop (.drop (.drop (.drop (.drop (.drop (.drop (.drop (.drop (.drop (.drop (.drop (.drop (.drop (.drop (.drop (.drop (.drop (.drop (.drop (.drop (.drop (.drop (.drop (.drop (.drop (.drop (.drop (.drop (.drop (.drop (.drop (.drop (.drop .nil)))))))))))))))))))))))))))))))))))))))))))))))))))))))))))))))))))))))) (ih _ (by omega) (j + 1) _ rfl (by omega) (by simpa using hT)) | exact run_wk (.keep (.drop (.keep (.drop (.drop (.drop (.drop (.drop (.drop (.drop (.drop (.drop (.drop (.drop (.drop (.drop (.drop (.drop (.drop (.drop (.drop (.drop (.drop (.drop (.drop (.drop (.drop (.drop (.drop (.keep (.keep (.keep (.drop (.drop (.drop (.drop (.drop (.drop (.drop (.drop (.drop (.drop (.drop (.drop (.drop (.drop (.drop (.drop (.drop (.drop (.drop (.drop (.drop (.drop (.drop (.drop (.drop (.drop (.drop (.drop (.drop (.drop (.drop (.drop (.drop (.drop (.drop (.drop (.drop (.drop (.drop (.drop .nil)))))))))))))))))))))))))))))))))))))))))))))))))))))))))))))))))))))))) (ih _ (by omega) (j + 1) (acc ++ [j]) rfl (by simp; omega) (by simpa using hT))
        · skip
          rw [hc3] at hrow
          rw [hrow] at hT
          refine at_skip rfl ?_
          refine run_blk ?_
          refine at_region rfl ?_
          refine at_op (some 71) rfl rfl rfl rfl (op_binI rfl rfl) (by dsimp only [putD, List.set]) ?_
          refine at_mv 71 31 rfl rfl rfl (.inl rfl) rfl (by dsimp only [List.set]) ?_
          refine at_end rfl ?_
          rw [wrap_succ (by omega)]
          first | exact run_wk (.keep (.drop (.keep (.drop (.drop (.drop (.drop (.drop (.drop (.drop (.drop (.drop (.drop (.drop (.drop (.drop (.drop (.drop (.drop (.drop (.drop (.drop (.drop (.drop (.drop (.drop (.drop (.drop (.drop (.keep (.keep (.keep (.drop (.drop (.drop (.drop (.drop (.drop (.drop (.drop (.drop (.drop (.drop (.drop (.drop (.drop (.drop (.drop (.drop (.drop (.drop (.drop (.drop (.drop (.drop (.drop (.drop (.drop (.drop (.drop (.drop (.drop (.drop (.drop (.drop (.drop (.drop (.drop (.drop (.drop (.drop (.drop .nil)))))))))))))))))))))))))))))))))))))))))))))))))))))))))))))))))))))))) (ih _ (by omega) (j + 1) _ rfl (by omega) (by simpa using hT)) | exact run_wk (.keep (.drop (.keep (.drop (.drop (.drop (.drop (.drop (.drop (.drop (.drop (.drop (.drop (.drop (.drop (.drop (.drop (.drop (.drop (.drop (.drop (.drop (.drop (.drop (.drop (.drop (.drop (.drop (.drop (.keep (.keep (.keep (.drop (.drop (.drop (.drop (.drop (.drop (.drop (.drop (.drop (.drop (.drop (.drop (.drop (.drop (.drop (.drop (.drop (.drop (.drop (.drop (.drop (.drop (.drop (.drop (.drop (.drop (.drop (.drop (.drop (.drop (.drop (.drop (.drop (.drop (.drop (.drop (.drop (.drop (.drop (.drop .nil)))))))))))))))))))))))))))))))))))))))))))))))))))))))))))))))))))))))) (ih _ (by omega) (j + 1) (acc ++ [j]) rfl (by simp; omega) (by simpa using hT))
    · skip
      have hge : B.length ≤ j := by simpa using hc1
      rw [range_end hge] at hT
      simp only [List.filter_nil, List.append_nil] at hT
      rw [hT] at hk
      refine at_exit rfl rfl ?_
      exact run_wk (.keep (.drop (.keep (.drop (.drop (.drop (.drop (.drop (.drop (.drop (.drop (.drop (.drop (.drop (.drop (.drop (.drop (.drop (.drop (.drop (.drop (.drop (.drop (.drop (.drop (.drop (.drop (.drop (.drop (.drop (.drop (.drop (.drop (.drop (.drop (.drop (.drop (.drop (.drop (.drop (.drop (.drop (.drop (.drop (.drop (.drop (.drop (.drop (.drop (.drop (.drop (.drop (.drop (.drop (.drop (.drop (.drop (.drop (.drop (.drop (.drop (.drop (.drop (.drop (.drop (.drop (.drop (.drop (.drop (.drop (.drop (.drop .nil)))))))))))))))))))))))))))))))))))))))))))))))))))))))))))))))))))))))) hk

set_option maxRecDepth 20000 in
theorem solve_outer (A B : List Nd) (hA : Wf A) (hB : Wf B) (m : Nat) : ∀ (r : Nat) (d : List (List Nat)), r = m → A.length = r + d.length → d = solD A B d.length → Run PP (fun env σ1 => ResOK PP Try.f80 env σ1 (.tup []) ⟨[seObj A B, some ((solD A B A.length).map fun l => dl (il l))], []⟩) [.lp (sub cSolve [1, 1, 0, 0]), .blk 0] ((.ptr 0 0) :: .undef :: (di (↑r - 1)) :: .undef :: .undef :: .undef :: .undef :: .undef :: .undef :: .undef :: .undef :: .undef :: .undef :: .undef :: .undef :: .undef :: .undef :: .undef :: .undef :: .undef :: .undef :: .undef :: .undef :: .undef :: .undef :: .undef :: .undef :: .undef :: .undef :: .undef :: .undef :: .undef :: .undef :: .undef :: .undef :: .undef :: .undef :: .undef :: .undef :: .undef :: .undef :: .undef :: .undef :: .undef :: .undef :: .undef :: .undef :: .undef :: .undef :: .undef :: .undef :: .undef :: .undef :: .undef :: .undef :: .undef :: .undef :: .undef :: .undef :: .undef :: .undef :: .undef :: .undef :: .undef :: .undef :: .undef :: .undef :: .undef :: .undef :: .undef :: .undef :: .undef :: []) ⟨[seObj A B, some (doneCells r d)], []⟩ := by
  induction m using Nat.strongRecOn with
  | _ m ih =>
    intro r d hm hl hd0
    have hAl := hA.len
    have hBl := hB.len
    have hd : ∀ l ∈ d, l.length ≤ 1000000 := by
      rw [hd0]; intro l hl2; exact Nat.le_trans (solD_len hl2) (by omega)
    refine run_lp ?_
    refine at_seq [1, 1, 0, 0, 0] [1, 1, 0, 0, 1] rfl ?_
    refine at_seq [1, 1, 0, 0, 0, 0] [1, 1, 0, 0, 0, 1] rfl ?_
    refine at_region rfl ?_
    refine at_mv 2 22 rfl rfl rfl (.inl rfl) rfl (by dsimp only [List.set]) ?_
    refine at_op (some 23) rfl rfl rfl rfl (op_binI rfl rfl) (by dsimp only [putD, List.set]) ?_
    refine at_end rfl ?_
    refine at_cond [1, 1, 0, 0, 0, 1, 0] [1, 1, 0, 0, 0, 1, 1] rfl rfl (fun hc1 => ?_) (fun hc1 => ?_)
    · skip
      obtain ⟨i, rfl⟩ : ∃ i, r = i + 1 := ⟨r - 1, by simp at hc1; omega⟩
      rw [show (((i + 1 : Nat) : Int) - 1) = (i : Int) by omega, show doneCells (i + 1) d = List.replicate i (D.v .nils) ++ .v .nils :: d.map (fun l => dl (il l)) from repl_snoc _ _ _]
      obtain ⟨na, ha⟩ := get_ex (a := A) (i := i) (by omega)
      refine run_cv (cv_claim 1 i 1 1 rfl (repl_get _ _ _ _) (by simp) (by decide)) ?_
      simp only [List.set_cons_succ, List.set_cons_zero, repl_set]
      refine at_skip rfl ?_
      refine at_seq [1, 1, 0, 0, 1, 0] [1, 1, 0, 0, 1, 1] rfl ?_
      refine at_block [1, 1, 0, 0, 1, 0, 0] 1 rfl ?_
      refine at_seq [1, 1, 0, 0, 1, 0, 0, 0] [1, 1, 0, 0, 1, 0, 0, 1] rfl ?_
      refine at_region rfl ?_
      refine at_mv 0 26 rfl rfl rfl (.inl rfl) rfl (by dsimp only [List.set]) ?_
      first | (refine at_op (some 27) rfl rfl rfl rfl (op_nilCheck_ptr rfl) (by dsimp only [putD, List.set]) ?_) | (refine at_op (some 27) rfl rfl rfl rfl (op_nilCheck_ref rfl) (by dsimp only [putD, List.set]) ?_)
      first | (refine at_op (some 28) rfl rfl rfl rfl (op_fieldP rfl ffld1_tree_search (by decide)) (by dsimp only [putD, List.set]) ?_) | (refine at_op (some 28) rfl rfl rfl rfl (op_fieldR rfl ffld1_tree_search (by decide) (by decide) rfl) (by dsimp only [putD, List.set]) ?_)
      first | (refine at_op (some 29) rfl rfl rfl rfl (op_loadR1 rfl fone_Stree_node rfl) (by dsimp only [putD, List.set]) ?_) | (refine at_op (some 29) rfl rfl rfl rfl (op_loadP1 rfl fone_Stree_node rfl rfl) (by dsimp only [putD, List.set]) ?_)
      first | (refine at_op (some 30) rfl rfl rfl rfl (op_lenL rfl fu_Stree_node) (by dsimp only [putD, List.set]) ?_) | (refine at_op (some 30) rfl rfl rfl rfl (opOK_un (op_lenL rfl fu_Stree_node)) (by dsimp only [putD, List.set]) ?_) | (refine at_op (some 30) rfl rfl rfl rfl (op_lenA rfl fu_Stree_node) (by dsimp only [putD, List.set]) ?_)
      refine at_mc 31 rfl rfl rfl (.inl rfl) (by dsimp only [constD]) (by dsimp only [List.set]) ?_
      refine at_end rfl ?_
      refine at_block [1, 1, 0, 0, 1, 0, 0, 1, 0] 2 rfl ?_
      refine at_loop [1, 1, 0, 0, 1, 0, 0, 1, 0, 0] rfl ?_
      try simp only [List.length_map, List.length_nil, Int.toNat_natCast]
      refine run_wk (.keep (.drop (.keep (.drop (.drop (.drop (.drop (.drop (.drop (.drop (.drop (.drop (.drop (.drop (.drop (.drop (.drop (.drop (.drop (.drop (.drop (.drop (.drop (.drop (.drop (.drop (.drop (.drop (.drop (.keep (.keep (.keep (.drop (.drop (.drop (.drop (.drop (.drop (.drop (.drop (.drop (.drop (.drop (.drop (.drop (.drop (.drop (.drop (.drop (.drop (.drop (.drop (.drop (.drop (.drop (.drop (.drop (.drop (.drop (.drop (.drop (.drop (.drop (.drop (.drop (.drop (.drop (.drop (.drop (.drop (.drop (.drop .nil)))))))))))))))))))))))))))))))))))))))))))))))))))))))))))))))))))))))) (solve_inner _ _ A B hA hB i na ha d (by omega) hd (rowM A B (List.replicate i [] ++ [] :: d) i) ?_ _ 0 [] rfl (by simp) (by rw [List.drop_zero, List.nil_append]; rfl))
      refine run_cv (cv_see (q := 1) (cs := toCells i (rowM A B (List.replicate i [] ++ [] :: d) i) d) rfl (SeeL.set .acc (toCells_get i _ d)).sees) ?_
      simp only [List.set_cons_succ, List.set_cons_zero, toCells, repl_set]
      have e1 : List.replicate i (D.v .nils) ++ D.v (.list (pv (rowM A B (List.replicate i [] ++ [] :: d) i))) :: d.map (fun l => dl (il l)) = doneCells i (rowM A B (List.replicate i [] ++ [] :: d) i :: d) := rfl
      rw [e1]
      refine run_drop 1 (by simp [D.noTag]) noTag_cells ?_
      simp only [List.filter_cons, List.filter_nil, bne_self_eq_false, Bool.false_eq_true, if_false]
      refine run_blk ?_
      refine at_region rfl ?_
      refine at_mv 2 24 rfl rfl rfl (.inl rfl) rfl (by dsimp only [List.set]) ?_
      refine at_op (some 25) rfl rfl rfl rfl (op_binI rfl rfl) (by dsimp only [putD, List.set]) ?_
      refine at_mv 25 2 rfl rfl rfl (.inr rfl) rfl (by dsimp only [List.set]) ?_
      refine at_end rfl ?_
      rw [wrap_id (by omega) (by omega)]
      exact run_wk (.keep (.drop (.keep (.drop (.drop (.drop (.drop (.drop (.drop (.drop (.drop (.drop (.drop (.drop (.drop (.drop (.drop (.drop (.drop (.drop (.drop (.drop (.drop (.drop (.drop (.drop (.drop (.drop (.drop (.drop (.drop (.drop (.drop (.drop (.drop (.drop (.drop (.drop (.drop (.drop (.drop (.drop (.drop (.drop (.drop (.drop (.drop (.drop (.drop (.drop (.drop (.drop (.drop (.drop (.drop (.drop (.drop (.drop (.drop (.drop (.drop (.drop (.drop (.drop (.drop (.drop (.drop (.drop (.drop (.drop (.drop (.drop .nil)))))))))))))))))))))))))))))))))))))))))))))))))))))))))))))))))))))))) (ih i (by omega) i _ rfl (by simp; omega) (by simp only [List.length_cons, solD]; rw [← hd0, show A.length - (d.length + 1) = i by omega]))
    · skip
      have hr0 : r = 0 := by simp at hc1; omega
      refine at_exit rfl rfl ?_
      refine run_nil ?_
      have e : doneCells r d = (solD A B A.length).map (fun l => dl (il l)) := by rw [hr0, hd0, show d.length = A.length by omega]; simp
      rw [e]; exact ret_keep rfl rfl

set_option maxRecDepth 20000 in
theorem solve_spec (A B : List Nd) (hA : Wf A) (hB : Wf B) : FSpec PP 80 [.ptr 0 0] ⟨[some [dnl A, dnl B, .v (.list [])]], []⟩ (.tup []) ⟨[seObj A B, some ((solD A B A.length).map fun l => dl (il l))], []⟩ := by
  have hAl := hA.len
  refine spec_at cSolve Try.func80 rfl (by kernel_rfl) (by first | decide | simp) _ (by dsimp only [Try.f80, List.length, Nat.reduceAdd, Nat.reduceSub, List.replicate, List.cons_append, List.nil_append]) ?_
  refine at_seq [0] [1] rfl ?_
  refine at_region rfl ?_
  refine at_mv 0 7 rfl rfl rfl (.inl rfl) rfl (by dsimp only [List.set]) ?_
  refine at_mv 0 8 rfl rfl rfl (.inl rfl) rfl (by dsimp only [List.set]) ?_
  first | (refine at_op (some 9) rfl rfl rfl rfl (op_nilCheck_ptr rfl) (by dsimp only [putD, List.set]) ?_) | (refine at_op (some 9) rfl rfl rfl rfl (op_nilCheck_ref rfl) (by dsimp only [putD, List.set]) ?_)
  first | (refine at_op (some 10) rfl rfl rfl rfl (op_fieldP rfl ffld0_tree_search (by decide)) (by dsimp only [putD, List.set]) ?_) | (refine at_op (some 10) rfl rfl rfl rfl (op_fieldR rfl ffld0_tree_search (by decide) (by decide) rfl) (by dsimp only [putD, List.set]) ?_)
  first | (refine at_op (some 11) rfl rfl rfl rfl (op_loadR1 rfl fone_Stree_node rfl) (by dsimp only [putD, List.set]) ?_) | (refine at_op (some 11) rfl rfl rfl rfl (op_loadP1 rfl fone_Stree_node rfl rfl) (by dsimp only [putD, List.set]) ?_)
  first | (refine at_op (some 12) rfl rfl rfl rfl (op_lenL rfl fu_Stree_node) (by dsimp only [putD, List.set]) ?_) | (refine at_op (some 12) rfl rfl rfl rfl (opOK_un (op_lenL rfl fu_Stree_node)) (by dsimp only [putD, List.set]) ?_) | (refine at_op (some 12) rfl rfl rfl rfl (op_lenA rfl fu_Stree_node) (by dsimp only [putD, List.set]) ?_)
  simp only [List.length_map]
  refine at_opS (some 13) rfl rfl rfl rfl (op_makeN rfl fsl__5b5d5b5d_int rfl (by omega) (by omega) (by omega)) (by dsimp only [putD, List.set]) (by dsimp only [List.set, List.append, List.cons_append, List.nil_append, cellsD, List.map, repl, List.length, Nat.reduceAdd, if_true, ↓reduceIte]; first | done | rfl) ?_
  first | (refine at_op (some 14) rfl rfl rfl rfl (op_nilCheck_ptr rfl) (by dsimp only [putD, List.set]) ?_) | (refine at_op (some 14) rfl rfl rfl rfl (op_nilCheck_ref rfl) (by dsimp only [putD, List.set]) ?_)
  first | (refine at_op (some 15) rfl rfl rfl rfl (op_fieldP rfl ffld2_tree_search (by decide)) (by dsimp only [putD, List.set]) ?_) | (refine at_op (some 15) rfl rfl rfl rfl (op_fieldR rfl ffld2_tree_search (by decide) (by decide) rfl) (by dsimp only [putD, List.set]) ?_)
  refine at_st1 15 (.tmp 13) rfl rfl rfl rfl rfl (ev_tmp rfl) rfl fone__5b5d5b5d_int rfl (by first | decide | simp | (simp; omega)) (by dsimp only [List.set, List.append, List.cons_append, List.nil_append, cellsD, List.map, repl, List.length, Nat.reduceAdd, if_true, ↓reduceIte]; first | done | rfl) ?_
  refine at_end rfl ?_
  rw [Int.toNat_natCast]
  refine at_seq [1, 0] [1, 1] rfl ?_
  refine at_region rfl ?_
  refine at_mv 0 16 rfl rfl rfl (.inl rfl) rfl (by dsimp only [List.set]) ?_
  first | (refine at_op (some 17) rfl rfl rfl rfl (op_nilCheck_ptr rfl) (by dsimp only [putD, List.set]) ?_) | (refine at_op (some 17) rfl rfl rfl rfl (op_nilCheck_ref rfl) (by dsimp only [putD, List.set]) ?_)
  first | (refine at_op (some 18) rfl rfl rfl rfl (op_fieldP rfl ffld0_tree_search (by decide)) (by dsimp only [putD, List.set]) ?_) | (refine at_op (some 18) rfl rfl rfl rfl (op_fieldR rfl ffld0_tree_search (by decide) (by decide) rfl) (by dsimp only [putD, List.set]) ?_)
  first | (refine at_op (some 19) rfl rfl rfl rfl (op_loadR1 rfl fone_Stree_node rfl) (by dsimp only [putD, List.set]) ?_) | (refine at_op (some 19) rfl rfl rfl rfl (op_loadP1 rfl fone_Stree_node rfl rfl) (by dsimp only [putD, List.set]) ?_)
  first | (refine at_op (some 20) rfl rfl rfl rfl (op_lenL rfl fu_Stree_node) (by dsimp only [putD, List.set]) ?_) | (refine at_op (some 20) rfl rfl rfl rfl (opOK_un (op_lenL rfl fu_Stree_node)) (by dsimp only [putD, List.set]) ?_) | (refine at_op (some 20) rfl rfl rfl rfl (op_lenA rfl fu_Stree_node) (by dsimp only [putD, List.set]) ?_)
  simp only [List.length_map]
  refine at_op (some 21) rfl rfl rfl rfl (op_binI rfl rfl) (by dsimp only [putD, List.set]) ?_
  refine at_mv 21 2 rfl rfl rfl (.inr rfl) rfl (by dsimp only [List.set]) ?_
  refine at_end rfl ?_
  rw [wrap_id (by omega) (by omega)]
  refine at_block [1, 1, 0] 0 rfl ?_
  refine at_loop [1, 1, 0, 0] rfl ?_
  try simp only [List.length_map, List.length_nil, Int.toNat_natCast]
  have := solve_outer A B hA hB _ A.length [] rfl (by simp) rfl
  simp only [doneCells, List.map_nil, List.append_nil] at this
  exact run_wk (.keep (.drop (.keep (.drop (.drop (.drop (.drop (.drop (.drop (.drop (.drop (.drop (.drop (.drop (.drop (.drop (.drop (.drop (.drop (.drop (.drop (.drop (.drop (.drop (.drop (.drop (.drop (.drop (.drop (.drop (.drop (.drop (.drop (.drop (.drop (.drop (.drop (.drop (.drop (.drop (.drop (.drop (.drop (.drop (.drop (.drop (.drop (.drop (.drop (.drop (.drop (.drop (.drop (.drop (.drop (.drop (.drop (.drop (.drop (.drop (.drop (.drop (.drop (.drop (.drop (.drop (.drop (.drop (.drop (.drop (.drop (.drop .nil)))))))))))))))))))))))))))))))))))))))))))))))))))))))))))))))))))))))) this

end Go.Proofs.Ytoofgniepbidnaa
