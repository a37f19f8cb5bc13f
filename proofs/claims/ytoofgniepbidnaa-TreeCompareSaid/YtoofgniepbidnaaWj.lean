/-
  Package tree, walked: where nodes can go.
-/
import Derived.Test.YtoofgniepbidnaaWi
namespace Go.Proofs.Ytoofgniepbidnaa
open Go.Dv Tr

abbrev vll (to : List (List Nat)) : V := .list (to.map fun l => vl (il l))
abbrev vse (A B : List Nd) (to : List (List Nat)) : V := .agg [vnl A, vnl B, vll to]

theorem idx_ll {to : List (List Nat)} {i : Nat} {l : List Nat} (h : to[i]? = some l) : (to.map fun l => vl (il l))[((i : Nat) : Int).toNat]? = some (vl (il l)) := by simp [h]
theorem idx_il {l : List Nat} {i : Nat} {x : Nat} (h : l[i]? = some x) : ((il l).map vi)[((i : Nat) : Int).toNat]? = some (vi (x : Int)) := by simp [h]
theorem idx_vi {l : List Int} {i : Int} {x : Int} (h : l[i.toNat]? = some x) : (l.map vi)[i.toNat]? = some (vi x) := by simp [h]

def inP (j e : Int) (a : Int) : Bool := decide (j ≤ a) && decide (a < e)
def intoM (l : List Nat) (j e : Nat) : Int := if idxP (inP j e) (il l) 0 < 0 then -1 else (il l).getD (idxP (inP j e) (il l) 0).toNat 0
theorem idxP_get {p : Int → Bool} : ∀ (xs : List Int) (i : Nat), 0 ≤ idxP p xs i → ∃ x, (i : Int) ≤ idxP p xs i ∧ xs[(idxP p xs i).toNat - i]? = some x ∧ p x = true
  | [], i, h => by simp [idxP] at h
  | x :: xs, i, h => by
    have key : idxP p (x :: xs) i = if p x = true then (i : Int) else idxP p xs (i + 1) := rfl
    rw [key] at h ⊢
    by_cases hx : p x = true
    · rw [if_pos hx]; exact ⟨x, by omega, by simp, hx⟩
    · rw [if_neg hx] at h ⊢
      obtain ⟨y, h1, h2, h3⟩ := idxP_get xs (i + 1) h
      refine ⟨y, by omega, ?_, h3⟩
      rw [show (idxP p xs (i + 1)).toNat - i = (idxP p xs (i + 1)).toNat - (i + 1) + 1 by omega]
      simpa using h2
theorem idxP_get0 {p : Int → Bool} {xs : List Int} (h : 0 ≤ idxP p xs 0) : ∃ x, xs[(idxP p xs 0).toNat]? = some x ∧ p x = true := by
  obtain ⟨x, _, h2, h3⟩ := idxP_get xs 0 h
  exact ⟨x, by simpa using h2, h3⟩
theorem idxP_len {p : Int → Bool} : ∀ (xs : List Int) (i : Nat), idxP p xs i < (i : Int) + xs.length ∧ -1 ≤ idxP p xs i
  | [], i => by simp [idxP]; omega
  | x :: xs, i => by
    simp only [idxP]
    have := idxP_len (p := p) xs (i + 1)
    split
    · simp; omega
    · simp only [List.length_cons]; omega
theorem idxP_len0 {p : Int → Bool} (xs : List Int) : idxP p xs 0 < xs.length := by have := (idxP_len (p := p) xs 0).1; simpa using this

def gt (to : List (List Nat)) (i : Nat) : List Nat := (to[i]?).getD []
def ge (B : List Nd) (j : Nat) : Nat := ((B[j]?).map Nd.fin).getD 0
/-- where the subtree of a node goes within the subtree of a node of the other tree -/
def intoT (B : List Nd) (to : List (List Nat)) (i j : Nat) : Int := intoM (gt to i) j (ge B j)

/-- where the children go -/
def plM (f : Nat → Nat → Int) : List Nat → List Nat → Option (List Int)
  | [], _ => some []
  | _ :: _, [] => none
  | kid :: ks, r :: rest => if 0 ≤ f kid r then (plM f ks rest).map (f kid r :: ·) else plM f (kid :: ks) rest

abbrev fP (f : Nat → Nat → Int) (kid : Nat) (a : Int) : Bool := decide (0 ≤ f kid a.toNat)
theorem plM_idx (f : Nat → Nat → Int) (kid : Nat) (ks : List Nat) : ∀ (rest : List Nat) (n : Nat), plM f (kid :: ks) rest =
    if idxP (fP f kid) (il rest) n < 0 then none else (plM f ks (rest.drop ((idxP (fP f kid) (il rest) n).toNat - n + 1))).map (f kid (rest.getD ((idxP (fP f kid) (il rest) n).toNat - n) 0) :: ·)
  | [], n => by simp [plM, idxP]
  | r :: rest, n => by
    have key : idxP (fP f kid) (il (r :: rest)) n = if 0 ≤ f kid r then (n : Int) else idxP (fP f kid) (il rest) (n + 1) := by simp [idxP, fP, il]
    rw [key]
    simp only [plM]
    by_cases h : 0 ≤ f kid r
    · simp only [h, if_true]
      rw [if_neg (by omega)]
      simp
    · simp only [h, if_false]
      rw [plM_idx f kid ks rest (n + 1)]
      by_cases h2 : idxP (fP f kid) (il rest) (n + 1) < 0
      · simp only [h2, if_true]
      · simp only [h2, if_false]
        obtain ⟨x, h3, _⟩ := idxP_get (p := fP f kid) (il rest) (n + 1) (by omega)
        rw [show (idxP (fP f kid) (il rest) (n + 1)).toNat - n = (idxP (fP f kid) (il rest) (n + 1)).toNat - (n + 1) + 1 by omega]
        simp
theorem plM_idx0 (f : Nat → Nat → Int) (kid : Nat) (ks rest : List Nat) : plM f (kid :: ks) rest =
    if idxP (fP f kid) (il rest) 0 < 0 then none else (plM f ks (rest.drop ((idxP (fP f kid) (il rest) 0).toNat + 1))).map (f kid (rest.getD (idxP (fP f kid) (il rest) 0).toNat 0) :: ·) := by
  rw [plM_idx f kid ks rest 0]; simp
theorem mviT (acc : List Int) (x : Int) : acc.map vi ++ [V.int .i64 x] = (acc ++ [x]).map vi := by simp

noncomputable def cInto1 : Code := Try.f98.body.getD .skip
set_option maxRecDepth 20000 in
theorem into1_spec (A B : List Nd) (to : List (List Nat)) (j : Nat) (nb : Nd) (hj : B[j]? = some nb) (x : Int) : FSpec PP 98 [di x, .v (.ref (vi ↑j)), .v (.ref (.ref (vse A B to)))] σ0 (db (inP ↑j ↑nb.fin x)) σ0 := by
  have hj2 := idx_node hj
  refine spec_at cInto1 Try.func98 rfl (by kernel_rfl) (by first | decide | simp) _ (by dsimp only [Try.f98, List.length, Nat.reduceAdd, Nat.reduceSub, List.replicate, List.cons_append, List.nil_append]) ?_
  refine at_seq [0] [1] rfl ?_
  refine at_region rfl ?_
  refine at_mc 4 rfl rfl rfl (.inr rfl) (by dsimp only [constD]) (by dsimp only [List.set]) ?_
  refine at_end rfl ?_
  refine at_seq [1, 0] [1, 1] rfl ?_
  refine at_draw mixed rfl [σ0] rfl ?_
  refine da_mv 0 5 rfl rfl rfl (.inl rfl) rfl (by dsimp only [List.set]) ?_
  first | (refine da_quiet (some 6) rfl rfl rfl rfl (fun s hs => op_loadR1 rfl fone_int rfl) (by dsimp only [putD, List.set]) ?_) | (refine da_quiet (some 6) rfl rfl rfl rfl (by intro s hs; simp only [List.mem_cons, List.not_mem_nil, or_false] at hs; rcases hs with rfl <;> exact op_loadP1 rfl fone_int rfl rfl) (by dsimp only [putD, List.set]) ?_)
  refine da_quiet (some 7) rfl rfl rfl rfl (fun s hs => op_binI rfl rfl) (by dsimp only [putD, List.set]) ?_
  refine da_mv 7 8 rfl rfl rfl (.inl rfl) rfl (by dsimp only [List.set]) ?_
  refine da_split 8 rfl (fun hb1 env' he => ?_) (fun hb1 env' he => ?_)
  · dsimp only [List.set] at he; subst he
    refine da_mv 0 9 rfl rfl rfl (.inl rfl) rfl (by dsimp only [List.set]) ?_
    first | (refine da_quiet (some 10) rfl rfl rfl rfl (fun s hs => op_loadR1 rfl fone_Ptree_search rfl) (by dsimp only [putD, List.set]) ?_) | (refine da_quiet (some 10) rfl rfl rfl rfl (by intro s hs; simp only [List.mem_cons, List.not_mem_nil, or_false] at hs; rcases hs with rfl <;> exact op_loadP1 rfl fone_Ptree_search rfl rfl) (by dsimp only [putD, List.set]) ?_)
    first | (refine da_quiet (some 11) rfl rfl rfl rfl (fun s hs => op_nilCheck_ptr rfl) (by dsimp only [putD, List.set]) ?_) | (refine da_quiet (some 11) rfl rfl rfl rfl (fun s hs => op_nilCheck_ref rfl) (by dsimp only [putD, List.set]) ?_)
    first | (refine da_quiet (some 12) rfl rfl rfl rfl (fun s hs => op_fieldP rfl ffld1_tree_search (by decide)) (by dsimp only [putD, List.set]) ?_) | (refine da_quiet (some 12) rfl rfl rfl rfl (fun s hs => op_fieldR rfl ffld1_tree_search (by decide) (by decide) rfl) (by dsimp only [putD, List.set]) ?_)
    first | (refine da_quiet (some 13) rfl rfl rfl rfl (fun s hs => op_loadR1 rfl fone_Stree_node rfl) (by dsimp only [putD, List.set]) ?_) | (refine da_quiet (some 13) rfl rfl rfl rfl (by intro s hs; simp only [List.mem_cons, List.not_mem_nil, or_false] at hs; rcases hs with rfl <;> exact op_loadP1 rfl fone_Stree_node rfl rfl) (by dsimp only [putD, List.set]) ?_)
    first | (refine da_quiet (some 14) rfl rfl rfl rfl (fun s hs => op_loadR1 rfl fone_int rfl) (by dsimp only [putD, List.set]) ?_) | (refine da_quiet (some 14) rfl rfl rfl rfl (by intro s hs; simp only [List.mem_cons, List.not_mem_nil, or_false] at hs; rcases hs with rfl <;> exact op_loadP1 rfl fone_int rfl rfl) (by dsimp only [putD, List.set]) ?_)
    first | (refine da_quiet (some 15) rfl rfl rfl rfl (fun s hs => op_idxL rfl fsl_Stree_node (by first | decide | omega) (by first | assumption | exact idx_some (by assumption) | rfl) (by first | rfl | (simp [V.size]; done))) (by dsimp only [putD, List.set]) ?_) | (refine da_quiet (some 15) rfl rfl rfl rfl (fun s hs => opOK_un (op_idxL rfl fsl_Stree_node (by first | decide | omega) (by first | assumption | exact idx_some (by assumption) | rfl) (by first | rfl | (simp [V.size]; done)))) (by dsimp only [putD, List.set]) ?_) | (refine da_quiet (some 15) rfl rfl rfl rfl (fun s hs => op_idxA rfl fsl_Stree_node (by first | decide | omega) (by first | decide | omega)) (by dsimp only [putD, List.set]) ?_)
    first | (refine da_quiet (some 16) rfl rfl rfl rfl (fun s hs => op_fieldP rfl ffld1_tree_node (by decide)) (by dsimp only [putD, List.set]) ?_) | (refine da_quiet (some 16) rfl rfl rfl rfl (fun s hs => op_fieldR rfl ffld1_tree_node (by decide) (by decide) rfl) (by dsimp only [putD, List.set]) ?_)
    first | (refine da_quiet (some 17) rfl rfl rfl rfl (fun s hs => op_loadR1 rfl fone_int rfl) (by dsimp only [putD, List.set]) ?_) | (refine da_quiet (some 17) rfl rfl rfl rfl (by intro s hs; simp only [List.mem_cons, List.not_mem_nil, or_false] at hs; rcases hs with rfl <;> exact op_loadP1 rfl fone_int rfl rfl) (by dsimp only [putD, List.set]) ?_)
    refine da_quiet (some 18) rfl rfl rfl rfl (fun s hs => op_binI rfl rfl) (by dsimp only [putD, List.set]) ?_
    refine da_pk true 8 18 19 rfl rfl rfl rfl rfl rfl rfl (by dsimp only [List.set]) ?_
    refine da_mv 19 4 rfl rfl rfl (.inr rfl) rfl (by dsimp only [List.set]) ?_
    refine da_end rfl ⟨by decide +kernel, _, rfl, ?_⟩
    refine at_ret rfl (ret_one (t := 4) rfl rfl ?_ rfl)
    first | (simp_all [inP]; done) | (simp_all [inP]; omega)
  · dsimp only [List.set] at he; subst he
    refine da_skip (some 9) rfl rfl rfl (by dsimp only [putD, List.set]) ?_
    refine da_skip (some 10) rfl rfl rfl (by dsimp only [putD, List.set]) ?_
    refine da_skip (some 11) rfl rfl rfl (by dsimp only [putD, List.set]) ?_
    refine da_skip (some 12) rfl rfl rfl (by dsimp only [putD, List.set]) ?_
    refine da_skip (some 13) rfl rfl rfl (by dsimp only [putD, List.set]) ?_
    refine da_skip (some 14) rfl rfl rfl (by dsimp only [putD, List.set]) ?_
    refine da_skip (some 15) rfl rfl rfl (by dsimp only [putD, List.set]) ?_
    refine da_skip (some 16) rfl rfl rfl (by dsimp only [putD, List.set]) ?_
    refine da_skip (some 17) rfl rfl rfl (by dsimp only [putD, List.set]) ?_
    refine da_skip (some 18) rfl rfl rfl (by dsimp only [putD, List.set]) ?_
    refine da_pkc false 8 19 rfl rfl rfl rfl rfl rfl (by dsimp only [constD]) (by dsimp only [List.set]) ?_
    refine da_mv 19 4 rfl rfl rfl (.inr rfl) rfl (by dsimp only [List.set]) ?_
    refine da_end rfl ⟨by decide +kernel, _, rfl, ?_⟩
    refine at_ret rfl (ret_one (t := 4) rfl rfl ?_ rfl)
    first | (simp_all [inP]; done) | (simp_all [inP]; omega)

noncomputable def cInto : Code := Try.f97.body.getD .skip
set_option maxRecDepth 20000 in
theorem into_spec (A B : List Nd) (to : List (List Nat)) (i j : Nat) (l : List Nat) (nb : Nd) (hi : to[i]? = some l) (hj : B[j]? = some nb) (hs : l.length ≤ 1000000) : FSpec PP 97 [.v (.ref (vse A B to)), di ↑i, di ↑j] σ0 (di (intoT B to i j)) σ0 := by
  have hi2 := idx_ll hi
  have hT : intoT B to i j = intoM l j nb.fin := by simp [intoT, gt, ge, hi, hj]
  rw [hT]
  refine spec_at cInto Try.func97 rfl (by kernel_rfl) (by first | decide | simp) _ (by dsimp only [Try.f97, List.length, Nat.reduceAdd, Nat.reduceSub, List.replicate, List.cons_append, List.nil_append]) ?_
  refine at_seq [0] [1] rfl ?_
  refine at_region rfl ?_
  refine at_op (some 3) rfl rfl rfl rfl (op_boxI rfl rfl) (by dsimp only [putD, List.set]) ?_
  refine at_op (some 5) rfl rfl rfl rfl (op_boxI rfl rfl) (by dsimp only [putD, List.set]) ?_
  refine at_mc 6 rfl rfl rfl (.inr rfl) (by dsimp only [constD]) (by dsimp only [List.set]) ?_
  refine at_end rfl ?_
  refine at_seq [1, 0] [1, 1] rfl ?_
  refine at_region rfl ?_
  first | (refine at_op (some 8) rfl rfl rfl rfl (op_loadR1 rfl fone_Ptree_search rfl) (by dsimp only [putD, List.set]) ?_) | (refine at_op (some 8) rfl rfl rfl rfl (op_loadP1 rfl fone_Ptree_search rfl rfl) (by dsimp only [putD, List.set]) ?_)
  first | (refine at_op (some 9) rfl rfl rfl rfl (op_nilCheck_ptr rfl) (by dsimp only [putD, List.set]) ?_) | (refine at_op (some 9) rfl rfl rfl rfl (op_nilCheck_ref rfl) (by dsimp only [putD, List.set]) ?_)
  first | (refine at_op (some 10) rfl rfl rfl rfl (op_fieldP rfl ffld2_tree_search (by decide)) (by dsimp only [putD, List.set]) ?_) | (refine at_op (some 10) rfl rfl rfl rfl (op_fieldR rfl ffld2_tree_search (by decide) (by decide) rfl) (by dsimp only [putD, List.set]) ?_)
  first | (refine at_op (some 11) rfl rfl rfl rfl (op_loadR1 rfl fone__5b5d5b5d_int rfl) (by dsimp only [putD, List.set]) ?_) | (refine at_op (some 11) rfl rfl rfl rfl (op_loadP1 rfl fone__5b5d5b5d_int rfl rfl) (by dsimp only [putD, List.set]) ?_)
  refine at_mv 1 12 rfl rfl rfl (.inl rfl) rfl (by dsimp only [List.set]) ?_
  first | (refine at_op (some 13) rfl rfl rfl rfl (op_idxL rfl fsl__5b5d5b5d_int (by first | decide | omega) (by first | assumption | exact idx_some (by assumption) | rfl) (by first | rfl | (simp [V.size]; done))) (by dsimp only [putD, List.set]) ?_) | (refine at_op (some 13) rfl rfl rfl rfl (opOK_un (op_idxL rfl fsl__5b5d5b5d_int (by first | decide | omega) (by first | assumption | exact idx_some (by assumption) | rfl) (by first | rfl | (simp [V.size]; done)))) (by dsimp only [putD, List.set]) ?_) | (refine at_op (some 13) rfl rfl rfl rfl (op_idxA rfl fsl__5b5d5b5d_int (by first | decide | omega) (by first | decide | omega)) (by dsimp only [putD, List.set]) ?_)
  first | (refine at_op (some 14) rfl rfl rfl rfl (op_loadR1 rfl fone_Sint rfl) (by dsimp only [putD, List.set]) ?_) | (refine at_op (some 14) rfl rfl rfl rfl (op_loadP1 rfl fone_Sint rfl rfl) (by dsimp only [putD, List.set]) ?_)
  refine at_op (some 15) rfl rfl rfl rfl (op_makeFunc0 rfl rfl rfl) (by dsimp only [putD, List.set]) ?_
  refine at_op (some 16) rfl rfl rfl rfl (op_call0 rfl rfl rfl rfl (indexFunc_spec 98 [] [.ref (vi ↑j), .ref (.ref (vse A B to))] (il l) (inP ↑j ↑nb.fin) (fun x _ => into1_spec A B to j nb hj x) (by simpa using hs))) (by dsimp only [putD, List.set]) ?_
  refine at_mv 16 7 rfl rfl rfl (.inr rfl) rfl (by dsimp only [List.set]) ?_
  refine at_end rfl ?_
  refine at_seq [1, 1, 0] [1, 1, 1] rfl ?_
  refine at_seq [1, 1, 0, 0] [1, 1, 0, 1] rfl ?_
  refine at_region rfl ?_
  refine at_mv 7 17 rfl rfl rfl (.inl rfl) rfl (by dsimp only [List.set]) ?_
  refine at_op (some 18) rfl rfl rfl rfl (op_binI rfl rfl) (by dsimp only [putD, List.set]) ?_
  refine at_end rfl ?_
  refine at_cond [1, 1, 0, 1, 0] [1, 1, 0, 1, 1] rfl rfl (fun hc1 => ?_) (fun hc1 => ?_)
  · skip
    refine at_seq [1, 1, 0, 1, 0, 0] [1, 1, 0, 1, 0, 1] rfl ?_
    refine at_region rfl ?_
    refine at_mc 6 rfl rfl rfl (.inr rfl) (by dsimp only [constD]) (by dsimp only [List.set]) ?_
    refine at_end rfl ?_
    refine at_ret rfl (ret_one (t := 6) rfl rfl ?_ rfl)
    unfold intoM
    first | (have hlt : idxP (inP ↑j ↑nb.fin) (il l) 0 < 0 := (by simpa using hc1); rw [if_pos hlt]; done) | (rw [if_neg (by omega), List.getD_eq_getElem?_getD, hy]; rfl)
  · skip
    have hge : 0 ≤ idxP (inP ↑j ↑nb.fin) (il l) 0 := by simp at hc1; omega
    obtain ⟨y, hy, _⟩ := idxP_get0 hge
    have hy2 := idx_vi hy
    refine at_skip rfl ?_
    refine at_seq [1, 1, 1, 0] [1, 1, 1, 1] rfl ?_
    refine at_region rfl ?_
    first | (refine at_op (some 19) rfl rfl rfl rfl (op_loadR1 rfl fone_Ptree_search rfl) (by dsimp only [putD, List.set]) ?_) | (refine at_op (some 19) rfl rfl rfl rfl (op_loadP1 rfl fone_Ptree_search rfl rfl) (by dsimp only [putD, List.set]) ?_)
    first | (refine at_op (some 20) rfl rfl rfl rfl (op_nilCheck_ptr rfl) (by dsimp only [putD, List.set]) ?_) | (refine at_op (some 20) rfl rfl rfl rfl (op_nilCheck_ref rfl) (by dsimp only [putD, List.set]) ?_)
    first | (refine at_op (some 21) rfl rfl rfl rfl (op_fieldP rfl ffld2_tree_search (by decide)) (by dsimp only [putD, List.set]) ?_) | (refine at_op (some 21) rfl rfl rfl rfl (op_fieldR rfl ffld2_tree_search (by decide) (by decide) rfl) (by dsimp only [putD, List.set]) ?_)
    first | (refine at_op (some 22) rfl rfl rfl rfl (op_loadR1 rfl fone__5b5d5b5d_int rfl) (by dsimp only [putD, List.set]) ?_) | (refine at_op (some 22) rfl rfl rfl rfl (op_loadP1 rfl fone__5b5d5b5d_int rfl rfl) (by dsimp only [putD, List.set]) ?_)
    refine at_mv 1 23 rfl rfl rfl (.inl rfl) rfl (by dsimp only [List.set]) ?_
    first | (refine at_op (some 24) rfl rfl rfl rfl (op_idxL rfl fsl__5b5d5b5d_int (by first | decide | omega) (by first | assumption | exact idx_some (by assumption) | rfl) (by first | rfl | (simp [V.size]; done))) (by dsimp only [putD, List.set]) ?_) | (refine at_op (some 24) rfl rfl rfl rfl (opOK_un (op_idxL rfl fsl__5b5d5b5d_int (by first | decide | omega) (by first | assumption | exact idx_some (by assumption) | rfl) (by first | rfl | (simp [V.size]; done)))) (by dsimp only [putD, List.set]) ?_) | (refine at_op (some 24) rfl rfl rfl rfl (op_idxA rfl fsl__5b5d5b5d_int (by first | decide | omega) (by first | decide | omega)) (by dsimp only [putD, List.set]) ?_)
    first | (refine at_op (some 25) rfl rfl rfl rfl (op_loadR1 rfl fone_Sint rfl) (by dsimp only [putD, List.set]) ?_) | (refine at_op (some 25) rfl rfl rfl rfl (op_loadP1 rfl fone_Sint rfl rfl) (by dsimp only [putD, List.set]) ?_)
    refine at_mv 7 26 rfl rfl rfl (.inl rfl) rfl (by dsimp only [List.set]) ?_
    refine at_op (some 27) rfl rfl rfl rfl (op_idxL rfl fsl_Sint hge hy2 rfl) (by dsimp only [putD, List.set]) ?_
    first | (refine at_op (some 28) rfl rfl rfl rfl (op_loadR1 rfl fone_int rfl) (by dsimp only [putD, List.set]) ?_) | (refine at_op (some 28) rfl rfl rfl rfl (op_loadP1 rfl fone_int rfl rfl) (by dsimp only [putD, List.set]) ?_)
    refine at_mv 28 6 rfl rfl rfl (.inr rfl) rfl (by dsimp only [List.set]) ?_
    refine at_end rfl ?_
    refine at_ret rfl (ret_one (t := 6) rfl rfl ?_ rfl)
    unfold intoM
    first | (have hlt : idxP (inP ↑j ↑nb.fin) (il l) 0 < 0 := (by simpa using hc1); rw [if_pos hlt]; done) | (rw [if_neg (by omega), List.getD_eq_getElem?_getD, hy]; rfl)

noncomputable def cPlace1 : Code := Try.f96.body.getD .skip
set_option maxRecDepth 20000 in
theorem place1_spec (A B : List Nd) (to : List (List Nat)) (kid : Nat) (l : List Nat) (hk : to[kid]? = some l) (hs : l.length ≤ 1000000) (r : Nat) (nb : Nd) (hr : B[r]? = some nb) : FSpec PP 96 [di ↑r, .v (.ref (.ref (vse A B to))), .v (.ref (vi ↑kid))] σ0 (db (fP (intoT B to) kid ↑r)) σ0 := by
  refine spec_at cPlace1 Try.func96 rfl (by kernel_rfl) (by first | decide | simp) _ (by dsimp only [Try.f96, List.length, Nat.reduceAdd, Nat.reduceSub, List.replicate, List.cons_append, List.nil_append]) ?_
  refine at_seq [0] [1] rfl ?_
  refine at_region rfl ?_
  refine at_mc 4 rfl rfl rfl (.inr rfl) (by dsimp only [constD]) (by dsimp only [List.set]) ?_
  refine at_end rfl ?_
  refine at_seq [1, 0] [1, 1] rfl ?_
  refine at_region rfl ?_
  first | (refine at_op (some 5) rfl rfl rfl rfl (op_loadR1 rfl fone_Ptree_search rfl) (by dsimp only [putD, List.set]) ?_) | (refine at_op (some 5) rfl rfl rfl rfl (op_loadP1 rfl fone_Ptree_search rfl rfl) (by dsimp only [putD, List.set]) ?_)
  first | (refine at_op (some 6) rfl rfl rfl rfl (op_loadR1 rfl fone_int rfl) (by dsimp only [putD, List.set]) ?_) | (refine at_op (some 6) rfl rfl rfl rfl (op_loadP1 rfl fone_int rfl rfl) (by dsimp only [putD, List.set]) ?_)
  refine at_mv 0 7 rfl rfl rfl (.inl rfl) rfl (by dsimp only [List.set]) ?_
  refine at_op (some 8) rfl rfl rfl rfl (op_call0 rfl rfl rfl rfl (into_spec A B to kid r l nb hk hr hs)) (by dsimp only [putD, List.set]) ?_
  refine at_op (some 9) rfl rfl rfl rfl (op_binI rfl rfl) (by dsimp only [putD, List.set]) ?_
  refine at_mv 9 4 rfl rfl rfl (.inr rfl) rfl (by dsimp only [List.set]) ?_
  refine at_end rfl ?_
  refine at_ret rfl (ret_one (t := 4) rfl rfl ?_ rfl)
  simp [fP]

noncomputable def cPlace : Code := Try.f92.body.getD .skip
set_option maxRecDepth 20000 in
theorem place_loop (A B : List Nd) (to : List (List Nat)) (hA : ∀ l ∈ to, l.length ≤ 1000000) (ks : List Nat) (hks : ∀ k ∈ ks, k < to.length) (hkl : ks.length ≤ 1000000) (T : Option (List Int)) (m : Nat) : ∀ (ix : Nat) (rest : List Nat) (acc : List Int), ks.length - ix = m → acc.length = ix → (∀ r ∈ rest, r < B.length) → rest.length ≤ 1000000 → T = (plM (intoT B to) (ks.drop ix) rest).map (acc ++ ·) → Run PP (fun env σ1 => ResOK PP Try.f92 env σ1 (.tup [dl ((T).getD []), db (T).isSome]) σ0) [.lp (sub cPlace [1, 1, 1, 0, 1, 0, 0]), .blk 0, .code (sub cPlace [1, 1, 1, 1])] (.undef :: .undef :: .undef :: (.v (.ref (.ref (vse A B to)))) :: .undef :: .undef :: .undef :: .undef :: (.acc 1 (acc.map vi)) :: (dl (il rest)) :: .undef :: .undef :: .undef :: .undef :: .undef :: .undef :: .undef :: .undef :: .undef :: .undef :: .undef :: .undef :: .undef :: .undef :: .undef :: .undef :: .undef :: .undef :: (dl (il ks)) :: (di ↑ks.length) :: (di ↑ix) :: .undef :: .undef :: .undef :: .undef :: .undef :: .undef :: .undef :: .undef :: .undef :: .undef :: .undef :: .undef :: .undef :: .undef :: .undef :: .undef :: .undef :: .undef :: .undef :: .undef :: .undef :: .undef :: .undef :: .undef :: []) ⟨[], [(1, 1, acc.map vi)]⟩ := by
  induction m using Nat.strongRecOn with
  | _ m ih =>
    intro ix rest acc hm ha hr hrl hT
    refine run_lp ?_
    refine at_seq [1, 1, 1, 0, 1, 0, 0, 0] [1, 1, 1, 0, 1, 0, 0, 1] rfl ?_
    refine at_region rfl ?_
    refine at_op (some 31) rfl rfl rfl rfl (op_binI rfl rfl) (by dsimp only [putD, List.set]) ?_
    refine at_end rfl ?_
    refine at_seq [1, 1, 1, 0, 1, 0, 0, 1, 0] [1, 1, 1, 0, 1, 0, 0, 1, 1] rfl ?_
    refine at_cond [1, 1, 1, 0, 1, 0, 0, 1, 0, 0] [1, 1, 1, 0, 1, 0, 0, 1, 0, 1] rfl rfl (fun hc1 => ?_) (fun hc1 => ?_)
    · skip
      have hlt : ix < ks.length := by simpa using hc1
      obtain ⟨kid, hk⟩ := get_ex hlt
      have hk2 := idx_il hk
      have hd : ks.drop ix = kid :: ks.drop (ix + 1) := by rw [List.drop_eq_getElem_cons hlt]; congr 1; exact (List.getElem?_eq_some_iff.1 hk).2
      rw [hd, plM_idx0] at hT
      obtain ⟨l, hl⟩ := get_ex (hks kid (List.mem_of_getElem? hk))
      have hll := hA l (List.mem_of_getElem? hl)
      refine at_skip rfl ?_
      refine at_seq [1, 1, 1, 0, 1, 0, 0, 1, 1, 0] [1, 1, 1, 0, 1, 0, 0, 1, 1, 1] rfl ?_
      refine at_block [1, 1, 1, 0, 1, 0, 0, 1, 1, 0, 0] 1 rfl ?_
      refine at_seq [1, 1, 1, 0, 1, 0, 0, 1, 1, 0, 0, 0] [1, 1, 1, 0, 1, 0, 0, 1, 1, 0, 0, 1] rfl ?_
      refine at_region rfl ?_
      first | (refine at_op (some 32) rfl rfl rfl rfl (op_idxL rfl fsl_Sint (by first | decide | omega) (by first | assumption | exact idx_some (by assumption) | rfl) (by first | rfl | (simp [V.size]; done))) (by dsimp only [putD, List.set]) ?_) | (refine at_op (some 32) rfl rfl rfl rfl (opOK_un (op_idxL rfl fsl_Sint (by first | decide | omega) (by first | assumption | exact idx_some (by assumption) | rfl) (by first | rfl | (simp [V.size]; done)))) (by dsimp only [putD, List.set]) ?_) | (refine at_op (some 32) rfl rfl rfl rfl (op_idxA rfl fsl_Sint (by first | decide | omega) (by first | decide | omega)) (by dsimp only [putD, List.set]) ?_)
      first | (refine at_op (some 33) rfl rfl rfl rfl (op_loadR1 rfl fone_int rfl) (by dsimp only [putD, List.set]) ?_) | (refine at_op (some 33) rfl rfl rfl rfl (op_loadP1 rfl fone_int rfl rfl) (by dsimp only [putD, List.set]) ?_)
      refine at_new 33 11 rfl rfl rfl rfl fzero_int rfl rfl rfl rfl (by decide) rfl rfl fone_int (by first | rfl | (simp [V.size]; done)) rfl (by simp only [List.length_cons]; omega) (by dsimp only [List.set]) ?_
      refine at_end rfl ?_
      refine at_seq [1, 1, 1, 0, 1, 0, 0, 1, 1, 0, 0, 1, 0] [1, 1, 1, 0, 1, 0, 0, 1, 1, 0, 0, 1, 1] rfl ?_
      refine at_region rfl ?_
      refine at_mv 9 34 rfl rfl rfl (.inl rfl) rfl (by dsimp only [List.set]) ?_
      refine at_op (some 35) rfl rfl rfl rfl (op_makeFunc0 rfl rfl rfl) (by dsimp only [putD, List.set]) ?_
      refine at_op (some 36) rfl rfl rfl rfl (op_call0 rfl rfl rfl rfl (indexFunc_spec 96 [] [.ref (.ref (vse A B to)), .ref (vi ↑kid)] (il rest) (fP (intoT B to) kid) (fun x hx => by obtain ⟨r, hrm, rfl⟩ := List.mem_map.1 hx; obtain ⟨nb, hnb⟩ := get_ex (hr r hrm); exact place1_spec A B to kid l hl hll r nb hnb) (by simpa using hrl))) (by dsimp only [putD, List.set]) ?_
      refine at_mv 36 12 rfl rfl rfl (.inr rfl) rfl (by dsimp only [List.set]) ?_
      refine at_end rfl ?_
      refine at_seq [1, 1, 1, 0, 1, 0, 0, 1, 1, 0, 0, 1, 1, 0] [1, 1, 1, 0, 1, 0, 0, 1, 1, 0, 0, 1, 1, 1] rfl ?_
      refine at_seq [1, 1, 1, 0, 1, 0, 0, 1, 1, 0, 0, 1, 1, 0, 0] [1, 1, 1, 0, 1, 0, 0, 1, 1, 0, 0, 1, 1, 0, 1] rfl ?_
      refine at_region rfl ?_
      refine at_mv 12 37 rfl rfl rfl (.inl rfl) rfl (by dsimp only [List.set]) ?_
      refine at_op (some 38) rfl rfl rfl rfl (op_binI rfl rfl) (by dsimp only [putD, List.set]) ?_
      refine at_end rfl ?_
      refine at_cond [1, 1, 1, 0, 1, 0, 0, 1, 1, 0, 0, 1, 1, 0, 1, 0] [1, 1, 1, 0, 1, 0, 0, 1, 1, 0, 0, 1, 1, 0, 1, 1] rfl rfl (fun hc2 => ?_) (fun hc2 => ?_)
      · skip
        have hneg : idxP (fP (intoT B to) kid) (il rest) 0 < 0 := by simpa using hc2
        rw [if_pos hneg] at hT
        refine at_seq [1, 1, 1, 0, 1, 0, 0, 1, 1, 0, 0, 1, 1, 0, 1, 0, 0] [1, 1, 1, 0, 1, 0, 0, 1, 1, 0, 0, 1, 1, 0, 1, 0, 1] rfl ?_
        refine at_region rfl ?_
        refine at_mc 6 rfl rfl rfl (.inr rfl) (by dsimp only [constD]) (by dsimp only [List.set]) ?_
        refine at_mc 7 rfl rfl rfl (.inr rfl) (by dsimp only [constD]) (by dsimp only [List.set]) ?_
        refine at_end rfl ?_
        refine at_ret rfl (ret_two (t := 6) (t2 := 7) rfl rfl rfl ?_ ?_ rfl rfl)
        all_goals (first | (rw [hT2]; rfl) | (rw [hT]; rfl))
      · skip
        have hge : 0 ≤ idxP (fP (intoT B to) kid) (il rest) 0 := by simp at hc2; omega
        rw [if_neg (by omega)] at hT
        obtain ⟨y, hy, _⟩ := idxP_get0 hge
        obtain ⟨kx, hkx⟩ := Int.eq_ofNat_of_zero_le hge
        rw [hkx] at hT hy ⊢
        have hkl2 : kx < rest.length := by have := idxP_len0 (p := fP (intoT B to) kid) (il rest); rw [hkx] at this; simpa using this
        obtain ⟨r, hrx⟩ := get_ex hkl2
        have hr2 := idx_il hrx
        obtain ⟨nb, hnb⟩ := get_ex (hr r (List.mem_of_getElem? hrx))
        have hgd : rest.getD kx 0 = r := by rw [List.getD_eq_getElem?_getD, hrx]; rfl
        rw [Int.toNat_natCast, hgd] at hT
        refine at_skip rfl ?_
        refine at_seq [1, 1, 1, 0, 1, 0, 0, 1, 1, 0, 0, 1, 1, 1, 0] [1, 1, 1, 0, 1, 0, 0, 1, 1, 0, 0, 1, 1, 1, 1] rfl ?_
        refine at_draw mixed rfl [⟨[], [(1, 1, acc.map vi)]⟩, ⟨[], [(1, 1, acc.map vi ++ [vi ((intoT B to) kid r)])]⟩] rfl ?_
        refine da_mv 8 39 rfl rfl rfl (.inl rfl) rfl (by dsimp only [List.set]) ?_
        first | (refine da_quiet (some 40) rfl rfl rfl rfl (fun s hs => op_loadR1 rfl fone_Ptree_search rfl) (by dsimp only [putD, List.set]) ?_) | (refine da_quiet (some 40) rfl rfl rfl rfl (by intro s hs; simp only [List.mem_cons, List.not_mem_nil, or_false] at hs; rcases hs with rfl | rfl <;> exact op_loadP1 rfl fone_Ptree_search rfl rfl) (by dsimp only [putD, List.set]) ?_)
        first | (refine da_quiet (some 41) rfl rfl rfl rfl (fun s hs => op_loadR1 rfl fone_int rfl) (by dsimp only [putD, List.set]) ?_) | (refine da_quiet (some 41) rfl rfl rfl rfl (by intro s hs; simp only [List.mem_cons, List.not_mem_nil, or_false] at hs; rcases hs with rfl | rfl <;> exact op_loadP1 rfl fone_int rfl rfl) (by dsimp only [putD, List.set]) ?_)
        refine da_mv 9 42 rfl rfl rfl (.inl rfl) rfl (by dsimp only [List.set]) ?_
        refine da_mv 12 43 rfl rfl rfl (.inl rfl) rfl (by dsimp only [List.set]) ?_
        first | (refine da_quiet (some 44) rfl rfl rfl rfl (fun s hs => op_idxL rfl fsl_Sint (by first | decide | omega) (by first | assumption | exact idx_some (by assumption) | rfl) (by first | rfl | (simp [V.size]; done))) (by dsimp only [putD, List.set]) ?_) | (refine da_quiet (some 44) rfl rfl rfl rfl (fun s hs => opOK_un (op_idxL rfl fsl_Sint (by first | decide | omega) (by first | assumption | exact idx_some (by assumption) | rfl) (by first | rfl | (simp [V.size]; done)))) (by dsimp only [putD, List.set]) ?_) | (refine da_quiet (some 44) rfl rfl rfl rfl (fun s hs => op_idxA rfl fsl_Sint (by first | decide | omega) (by first | decide | omega)) (by dsimp only [putD, List.set]) ?_)
        first | (refine da_quiet (some 45) rfl rfl rfl rfl (fun s hs => op_loadR1 rfl fone_int rfl) (by dsimp only [putD, List.set]) ?_) | (refine da_quiet (some 45) rfl rfl rfl rfl (by intro s hs; simp only [List.mem_cons, List.not_mem_nil, or_false] at hs; rcases hs with rfl | rfl <;> exact op_loadP1 rfl fone_int rfl rfl) (by dsimp only [putD, List.set]) ?_)
        refine da_quiet (some 46) rfl rfl rfl rfl (fun s hs => op_call0 rfl rfl rfl rfl (into_spec A B to kid r l nb hl hnb hll)) (by dsimp only [putD, List.set]) ?_
        refine da_quiet (some 47) rfl rfl rfl rfl (fun s hs => op_buildSlice rfl (by rfl) (by rfl) fsl_Sint rfl rfl (by simp [V.size]) (by decide) (by decide) (by decide)) (by dsimp only [putD, List.set]) ?_
        refine da_eff (some 48) rfl rfl rfl rfl rfl rfl (op_append rfl fsl_Sint rfl (by simp) (by simp [V.size]) (by simp; omega) (by simp; omega)) (by dsimp only [putD, List.set]) ?_
        refine da_mv 48 8 rfl rfl rfl (.inr rfl) rfl (by dsimp only [List.set]) ?_
        refine da_end rfl ⟨by decide +kernel, _, rfl, ?_⟩
        refine at_region rfl ?_
        refine at_mv 9 49 rfl rfl rfl (.inl rfl) rfl (by dsimp only [List.set]) ?_
        refine at_mv 12 50 rfl rfl rfl (.inl rfl) rfl (by dsimp only [List.set]) ?_
        refine at_op (some 51) rfl rfl rfl rfl (op_binI rfl rfl) (by dsimp only [putD, List.set]) ?_
        rw [wrap_succ (by omega)]
        refine at_op (some 52) rfl rfl rfl rfl (op_sliceL rfl fsl_Sint (by simp [V.size]) (by decide) (some (_, _)) none rfl rfl (l' := kx + 1) (h' := rest.length) (by simp [sliceI]; omega)) (by dsimp only [putD, List.set]) ?_
        rw [show (((il rest).map vi).take rest.length).drop (kx + 1) = (il (rest.drop (kx + 1))).map vi from by rw [List.take_of_length_le (by simp)]; simp [List.map_drop]]
        refine at_mv 52 9 rfl rfl rfl (.inr rfl) rfl (by dsimp only [List.set]) ?_
        refine at_end rfl ?_
        refine run_blk ?_
        refine at_region rfl ?_
        refine at_op (some 53) rfl rfl rfl rfl (op_binI rfl rfl) (by dsimp only [putD, List.set]) ?_
        refine at_mv 53 30 rfl rfl rfl (.inl rfl) rfl (by dsimp only [List.set]) ?_
        refine at_end rfl ?_
        rw [wrap_succ (by omega)]
        simp only [mviT]
        exact run_wk (.drop (.drop (.drop (.keep (.drop (.drop (.drop (.drop (.keep (.keep (.drop (.drop (.drop (.drop (.drop (.drop (.drop (.drop (.drop (.drop (.drop (.drop (.drop (.drop (.drop (.drop (.drop (.drop (.keep (.keep (.keep (.drop (.drop (.drop (.drop (.drop (.drop (.drop (.drop (.drop (.drop (.drop (.drop (.drop (.drop (.drop (.drop (.drop (.drop (.drop (.drop (.drop (.drop (.drop (.drop .nil))))))))))))))))))))))))))))))))))))))))))))))))))))))) (ih _ (by omega) (ix + 1) (rest.drop (kx + 1)) (acc ++ [(intoT B to) kid r]) rfl (by simp [ha]) (fun r hr3 => hr r (List.mem_of_mem_drop hr3)) (by simp; omega) (by rw [hT]; cases plM (intoT B to) (ks.drop (ix + 1)) (rest.drop (kx + 1)) <;> simp))
    · skip
      have hge : ks.length ≤ ix := by simpa using hc1
      rw [List.drop_of_length_le hge] at hT
      have hT2 : T = some acc := by rw [hT]; simp [plM]
      refine at_exit rfl rfl ?_
      refine at_seq [1, 1, 1, 1, 0] [1, 1, 1, 1, 1] rfl ?_
      refine at_region rfl ?_
      refine at_mv 8 54 rfl rfl rfl (.inl rfl) rfl (by dsimp only [List.set]) ?_
      refine at_mv 54 6 rfl rfl rfl (.inr rfl) rfl (by dsimp only [List.set]) ?_
      refine at_mc 7 rfl rfl rfl (.inr rfl) (by dsimp only [constD]) (by dsimp only [List.set]) ?_
      refine at_end rfl ?_
      refine at_ret rfl (ret_two (t := 6) (t2 := 7) rfl rfl rfl ?_ ?_ rfl rfl)
      all_goals (first | (rw [hT2]; rfl) | (rw [hT]; rfl))

set_option maxRecDepth 20000 in
theorem place_spec (A B : List Nd) (to : List (List Nat)) (hA : ∀ l ∈ to, l.length ≤ 1000000) (i j : Nat) (na nb : Nd) (hi : A[i]? = some na) (hj : B[j]? = some nb) (h1 : ∀ k ∈ na.kids, k < to.length) (h2 : na.kids.length ≤ 1000000) (h3 : ∀ r ∈ nb.kids, r < B.length) (h4 : nb.kids.length ≤ 1000000) : FSpec PP 92 [.v (.ref (vse A B to)), di ↑i, di ↑j] σ0 (.tup [dl ((plM (intoT B to) na.kids nb.kids).getD []), db (plM (intoT B to) na.kids nb.kids).isSome]) σ0 := by
  have hi2 := idx_node hi
  have hj2 := idx_node hj
  refine spec_at cPlace Try.func92 rfl (by kernel_rfl) (by first | decide | simp) _ (by dsimp only [Try.f92, List.length, Nat.reduceAdd, Nat.reduceSub, List.replicate, List.cons_append, List.nil_append]) ?_
  refine at_seq [0] [1] rfl ?_
  refine at_region rfl ?_
  refine at_op (some 3) rfl rfl rfl rfl (op_boxI rfl rfl) (by dsimp only [putD, List.set]) ?_
  refine at_mc 6 rfl rfl rfl (.inr rfl) (by dsimp only [constD]) (by dsimp only [List.set]) ?_
  refine at_mc 7 rfl rfl rfl (.inr rfl) (by dsimp only [constD]) (by dsimp only [List.set]) ?_
  refine at_end rfl ?_
  refine at_seq [1, 0] [1, 1] rfl ?_
  refine at_region rfl ?_
  refine at_opS (some 8) rfl rfl rfl rfl (op_nilOwn (.inl rfl) 1 1 (by simp) (by decide)) (by dsimp only [putD, List.set]) (by dsimp only [List.set, List.append, List.cons_append, List.nil_append, cellsD, List.map, repl, List.length, Nat.reduceAdd, if_true, ↓reduceIte]; first | done | rfl) ?_
  refine at_end rfl ?_
  refine at_seq [1, 1, 0] [1, 1, 1] rfl ?_
  refine at_region rfl ?_
  first | (refine at_op (some 13) rfl rfl rfl rfl (op_loadR1 rfl fone_Ptree_search rfl) (by dsimp only [putD, List.set]) ?_) | (refine at_op (some 13) rfl rfl rfl rfl (op_loadP1 rfl fone_Ptree_search rfl rfl) (by dsimp only [putD, List.set]) ?_)
  first | (refine at_op (some 14) rfl rfl rfl rfl (op_nilCheck_ptr rfl) (by dsimp only [putD, List.set]) ?_) | (refine at_op (some 14) rfl rfl rfl rfl (op_nilCheck_ref rfl) (by dsimp only [putD, List.set]) ?_)
  first | (refine at_op (some 15) rfl rfl rfl rfl (op_fieldP rfl ffld1_tree_search (by decide)) (by dsimp only [putD, List.set]) ?_) | (refine at_op (some 15) rfl rfl rfl rfl (op_fieldR rfl ffld1_tree_search (by decide) (by decide) rfl) (by dsimp only [putD, List.set]) ?_)
  first | (refine at_op (some 16) rfl rfl rfl rfl (op_loadR1 rfl fone_Stree_node rfl) (by dsimp only [putD, List.set]) ?_) | (refine at_op (some 16) rfl rfl rfl rfl (op_loadP1 rfl fone_Stree_node rfl rfl) (by dsimp only [putD, List.set]) ?_)
  refine at_mv 2 17 rfl rfl rfl (.inl rfl) rfl (by dsimp only [List.set]) ?_
  first | (refine at_op (some 18) rfl rfl rfl rfl (op_idxL rfl fsl_Stree_node (by first | decide | omega) (by first | assumption | exact idx_some (by assumption) | rfl) (by first | rfl | (simp [V.size]; done))) (by dsimp only [putD, List.set]) ?_) | (refine at_op (some 18) rfl rfl rfl rfl (opOK_un (op_idxL rfl fsl_Stree_node (by first | decide | omega) (by first | assumption | exact idx_some (by assumption) | rfl) (by first | rfl | (simp [V.size]; done)))) (by dsimp only [putD, List.set]) ?_) | (refine at_op (some 18) rfl rfl rfl rfl (op_idxA rfl fsl_Stree_node (by first | decide | omega) (by first | decide | omega)) (by dsimp only [putD, List.set]) ?_)
  first | (refine at_op (some 19) rfl rfl rfl rfl (op_fieldP rfl ffld2_tree_node (by decide)) (by dsimp only [putD, List.set]) ?_) | (refine at_op (some 19) rfl rfl rfl rfl (op_fieldR rfl ffld2_tree_node (by decide) (by decide) rfl) (by dsimp only [putD, List.set]) ?_)
  first | (refine at_op (some 20) rfl rfl rfl rfl (op_loadR1 rfl fone_Sint rfl) (by dsimp only [putD, List.set]) ?_) | (refine at_op (some 20) rfl rfl rfl rfl (op_loadP1 rfl fone_Sint rfl rfl) (by dsimp only [putD, List.set]) ?_)
  refine at_mv 20 9 rfl rfl rfl (.inr rfl) rfl (by dsimp only [List.set]) ?_
  refine at_end rfl ?_
  refine at_seq [1, 1, 1, 0] [1, 1, 1, 1] rfl ?_
  refine at_seq [1, 1, 1, 0, 0] [1, 1, 1, 0, 1] rfl ?_
  refine at_region rfl ?_
  first | (refine at_op (some 21) rfl rfl rfl rfl (op_loadR1 rfl fone_Ptree_search rfl) (by dsimp only [putD, List.set]) ?_) | (refine at_op (some 21) rfl rfl rfl rfl (op_loadP1 rfl fone_Ptree_search rfl rfl) (by dsimp only [putD, List.set]) ?_)
  first | (refine at_op (some 22) rfl rfl rfl rfl (op_nilCheck_ptr rfl) (by dsimp only [putD, List.set]) ?_) | (refine at_op (some 22) rfl rfl rfl rfl (op_nilCheck_ref rfl) (by dsimp only [putD, List.set]) ?_)
  first | (refine at_op (some 23) rfl rfl rfl rfl (op_fieldP rfl ffld0_tree_search (by decide)) (by dsimp only [putD, List.set]) ?_) | (refine at_op (some 23) rfl rfl rfl rfl (op_fieldR rfl ffld0_tree_search (by decide) (by decide) rfl) (by dsimp only [putD, List.set]) ?_)
  first | (refine at_op (some 24) rfl rfl rfl rfl (op_loadR1 rfl fone_Stree_node rfl) (by dsimp only [putD, List.set]) ?_) | (refine at_op (some 24) rfl rfl rfl rfl (op_loadP1 rfl fone_Stree_node rfl rfl) (by dsimp only [putD, List.set]) ?_)
  refine at_mv 1 25 rfl rfl rfl (.inl rfl) rfl (by dsimp only [List.set]) ?_
  first | (refine at_op (some 26) rfl rfl rfl rfl (op_idxL rfl fsl_Stree_node (by first | decide | omega) (by first | assumption | exact idx_some (by assumption) | rfl) (by first | rfl | (simp [V.size]; done))) (by dsimp only [putD, List.set]) ?_) | (refine at_op (some 26) rfl rfl rfl rfl (opOK_un (op_idxL rfl fsl_Stree_node (by first | decide | omega) (by first | assumption | exact idx_some (by assumption) | rfl) (by first | rfl | (simp [V.size]; done)))) (by dsimp only [putD, List.set]) ?_) | (refine at_op (some 26) rfl rfl rfl rfl (op_idxA rfl fsl_Stree_node (by first | decide | omega) (by first | decide | omega)) (by dsimp only [putD, List.set]) ?_)
  first | (refine at_op (some 27) rfl rfl rfl rfl (op_fieldP rfl ffld2_tree_node (by decide)) (by dsimp only [putD, List.set]) ?_) | (refine at_op (some 27) rfl rfl rfl rfl (op_fieldR rfl ffld2_tree_node (by decide) (by decide) rfl) (by dsimp only [putD, List.set]) ?_)
  first | (refine at_op (some 28) rfl rfl rfl rfl (op_loadR1 rfl fone_Sint rfl) (by dsimp only [putD, List.set]) ?_) | (refine at_op (some 28) rfl rfl rfl rfl (op_loadP1 rfl fone_Sint rfl rfl) (by dsimp only [putD, List.set]) ?_)
  first | (refine at_op (some 29) rfl rfl rfl rfl (op_lenL rfl fu_Sint) (by dsimp only [putD, List.set]) ?_) | (refine at_op (some 29) rfl rfl rfl rfl (opOK_un (op_lenL rfl fu_Sint)) (by dsimp only [putD, List.set]) ?_) | (refine at_op (some 29) rfl rfl rfl rfl (op_lenA rfl fu_Sint) (by dsimp only [putD, List.set]) ?_)
  refine at_mc 30 rfl rfl rfl (.inl rfl) (by dsimp only [constD]) (by dsimp only [List.set]) ?_
  refine at_end rfl ?_
  refine at_block [1, 1, 1, 0, 1, 0] 0 rfl ?_
  refine at_loop [1, 1, 1, 0, 1, 0, 0] rfl ?_
  try simp only [List.length_map, List.length_nil, Int.toNat_natCast]
  exact run_wk (.drop (.drop (.drop (.keep (.drop (.drop (.drop (.drop (.keep (.keep (.drop (.drop (.drop (.drop (.drop (.drop (.drop (.drop (.drop (.drop (.drop (.drop (.drop (.drop (.drop (.drop (.drop (.drop (.keep (.keep (.keep (.drop (.drop (.drop (.drop (.drop (.drop (.drop (.drop (.drop (.drop (.drop (.drop (.drop (.drop (.drop (.drop (.drop (.drop (.drop (.drop (.drop (.drop (.drop (.drop .nil))))))))))))))))))))))))))))))))))))))))))))))))))))))) (place_loop A B to hA na.kids h1 h2 _ _ 0 nb.kids [] rfl rfl h3 h4 (by simp))

end Go.Proofs.Ytoofgniepbidnaa
