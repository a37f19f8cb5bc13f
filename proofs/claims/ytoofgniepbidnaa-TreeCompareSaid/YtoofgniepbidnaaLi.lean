/-
  The laws of trees, walked: a partial order, and a total one.
-/
import Derived.Test.YtoofgniepbidnaaWo
namespace Go.Proofs.Ytoofgniepbidnaa
open Go.Dv Tr

theorem ord_range (x y : Int) : -1 ≤ ord x y ∧ ord x y ≤ 1 := by have := ord_lt x y; omega
theorem cmpBy_range {c : Tr → Tr → Int} : ∀ {a b : List Tr}, (∀ x ∈ a, ∀ y, -1 ≤ c x y ∧ c x y ≤ 1) → -1 ≤ cmpBy c a b ∧ cmpBy c a b ≤ 1
  | [], [], _ => by simp [cmpBy]
  | [], _ :: _, _ => by simp [cmpBy]
  | _ :: _, [], _ => by simp [cmpBy]
  | x :: a, y :: b, h => by
    have h1 := h x List.mem_cons_self y
    have h2 := cmpBy_range (c := c) (a := a) (b := b) (fun z hz => h z (List.mem_cons_of_mem _ hz))
    simp only [cmpBy]; split <;> assumption
theorem cmpT_range_n : ∀ (n : Nat) {a b : Tr}, a.size ≤ n → -1 ≤ cmpT a b ∧ cmpT a b ≤ 1
  | 0, a, b, h => by have := size_pos a; omega
  | n + 1, a, b, h => by
    have hk := cmpBy_range (c := cmpT) (a := a.kids) (b := b.kids) (fun x hx y => cmpT_range_n n (by have := szl_mem hx; have := size_eq a; omega))
    have h1 := ord_range a.lab b.lab
    have h2 := ord_range a.kids.length b.kids.length
    rw [cmpT_eq]
    split
    · split <;> assumption
    · assumption
theorem cmpT_range (a b : Tr) : -1 ≤ cmpT a b ∧ cmpT a b ≤ 1 := cmpT_range_n a.size (Nat.le_refl _)
theorem cmp_neg (a b : Tr) : (cmpT a b != IntKind.i64.wrap (0 - cmpT b a)) = false := by
  have := cmpT_range b a
  rw [wrap_id (by omega) (by omega), cmpT_anti a b]
  simp

noncomputable def cTOrder : Code := Try.f11.body.getD .skip
set_option maxRecDepth 20000 in
theorem torder_spec (l : List Int) : FSpec PP 11 [dl l] σ0 (db true) σ0 := by
  refine spec_at cTOrder Try.func11 rfl (by kernel_rfl) (by first | decide | simp) _ (by dsimp only [Try.f11, List.length, Nat.reduceAdd, Nat.reduceSub, List.replicate, List.cons_append, List.nil_append]) ?_
  refine at_seq [0] [1] rfl ?_
  refine at_region rfl ?_
  refine at_mc 2 rfl rfl rfl (.inr rfl) (by dsimp only [constD]) (by dsimp only [List.set]) ?_
  refine at_end rfl ?_
  refine at_seq [1, 0] [1, 1] rfl ?_
  refine at_seq [1, 0, 0] [1, 0, 1] rfl ?_
  refine at_region rfl ?_
  refine at_op (some 8) rfl rfl rfl rfl (op_call0 rfl rfl rfl rfl (awakeT_spec)) (by dsimp only [putD, List.set]) ?_
  refine at_op (some 9) rfl rfl rfl rfl (op_un rfl rfl) (by dsimp only [putD, List.set]) ?_
  refine at_mv 9 10 rfl rfl rfl (.inl rfl) rfl (by dsimp only [List.set]) ?_
  refine at_mv 0 11 rfl rfl rfl (.inl rfl) rfl (by dsimp only [List.set]) ?_
  refine at_op (some 12) rfl rfl rfl rfl (op_call0 rfl rfl rfl rfl (few_spec l)) (by dsimp only [putD, List.set]) ?_
  refine at_op (some 13) rfl rfl rfl rfl (op_un rfl rfl) (by dsimp only [putD, List.set]) ?_
  refine at_pk false 10 13 14 rfl rfl rfl rfl rfl rfl rfl (by dsimp only [List.set]) ?_
  refine at_end rfl ?_
  refine at_cond [1, 0, 1, 0] [1, 0, 1, 1] rfl rfl (fun hc1 => ?_) (fun hc1 => ?_)
  · skip
    refine at_seq [1, 0, 1, 0, 0] [1, 0, 1, 0, 1] rfl ?_
    refine at_region rfl ?_
    refine at_op (some 15) rfl rfl rfl rfl (op_call0 rfl rfl rfl rfl (awakeT_spec)) (by dsimp only [putD, List.set]) ?_
    refine at_mv 15 2 rfl rfl rfl (.inr rfl) rfl (by dsimp only [List.set]) ?_
    refine at_end rfl ?_
    refine at_ret rfl (ret_one (t := 2) rfl rfl ?_ rfl)
    rfl
  · skip
    have hs : l.length ≤ 1000000 := by simp_all; omega
    refine at_skip rfl ?_
    refine at_seq [1, 1, 0] [1, 1, 1] rfl ?_
    refine at_region rfl ?_
    refine at_mv 0 16 rfl rfl rfl (.inl rfl) rfl (by dsimp only [List.set]) ?_
    refine at_opS (some 17) rfl rfl rfl rfl (op_call0_new rfl rfl rfl rfl (new_spec l)) (by dsimp only [putD, List.set]) (by dsimp only [List.set, List.append, List.cons_append, List.nil_append, cellsD, List.map, repl, List.length, Nat.reduceAdd, if_true, ↓reduceIte]; first | done | rfl) ?_
    refine at_mv 17 3 rfl rfl rfl (.inr rfl) rfl (by dsimp only [List.set]) ?_
    refine at_end rfl ?_
    refine at_seq [1, 1, 1, 0] [1, 1, 1, 1] rfl ?_
    refine at_region rfl ?_
    refine at_mv 3 18 rfl rfl rfl (.inl rfl) rfl (by dsimp only [List.set]) ?_
    obtain ⟨a, sa, za, la, pa⟩ := tree_spec l hs 2 (by omega) 3 (by omega) (by omega) (0, 11400714819323198485)
    refine at_opS (some 19) rfl rfl rfl rfl (op_call1 rfl rfl rfl rfl rfl (.ptr (.pl rfl (.pl rfl .nil))) rfl pa) (by dsimp only [putD, List.set]) (by dsimp only [List.set, List.append, List.cons_append, List.nil_append, cellsD, List.map, repl, List.length, Nat.reduceAdd, if_true, ↓reduceIte]; first | done | rfl) ?_
    refine at_mv 3 20 rfl rfl rfl (.inl rfl) rfl (by dsimp only [List.set]) ?_
    obtain ⟨b, sb, zb, lb, pb⟩ := tree_spec l hs 2 (by omega) 6 (by omega) (by omega) sa
    refine at_opS (some 21) rfl rfl rfl rfl (op_call1 rfl rfl rfl rfl rfl (.ptr (.pl rfl (.pl rfl .nil))) rfl pb) (by dsimp only [putD, List.set]) (by dsimp only [List.set, List.append, List.cons_append, List.nil_append, cellsD, List.map, repl, List.length, Nat.reduceAdd, if_true, ↓reduceIte]; first | done | rfl) ?_
    refine at_mv 3 22 rfl rfl rfl (.inl rfl) rfl (by dsimp only [List.set]) ?_
    obtain ⟨c, sc, zc, lc, pc⟩ := tree_spec l hs 2 (by omega) 10 (by omega) (by omega) sb
    refine at_opS (some 23) rfl rfl rfl rfl (op_call1 rfl rfl rfl rfl rfl (.ptr (.pl rfl (.pl rfl .nil))) rfl pc) (by dsimp only [putD, List.set]) (by dsimp only [List.set, List.append, List.cons_append, List.nil_append, cellsD, List.map, repl, List.length, Nat.reduceAdd, if_true, ↓reduceIte]; first | done | rfl) ?_
    refine at_opS (some 4) rfl rfl rfl rfl (op_alloc rfl fzero_api_Tree) (by dsimp only [putD, List.set]) (by dsimp only [List.set, List.append, List.cons_append, List.nil_append, cellsD, List.map, repl, List.length, Nat.reduceAdd, if_true, ↓reduceIte]; first | done | rfl) ?_
    refine at_opS (some 5) rfl rfl rfl rfl (op_alloc rfl fzero_api_Tree) (by dsimp only [putD, List.set]) (by dsimp only [List.set, List.append, List.cons_append, List.nil_append, cellsD, List.map, repl, List.length, Nat.reduceAdd, if_true, ↓reduceIte]; first | done | rfl) ?_
    refine at_opS (some 6) rfl rfl rfl rfl (op_alloc rfl fzero_api_Tree) (by dsimp only [putD, List.set]) (by dsimp only [List.set, List.append, List.cons_append, List.nil_append, cellsD, List.map, repl, List.length, Nat.reduceAdd, if_true, ↓reduceIte]; first | done | rfl) ?_
    refine at_stA 4 (.tmp 19) rfl rfl rfl rfl rfl (ev_tmp rfl) rfl fagg_api_Tree rfl rfl (by first | decide | simp | (simp; omega)) (by dsimp only [List.set, List.append, List.cons_append, List.nil_append, cellsD, List.map, repl, List.length, Nat.reduceAdd, if_true, ↓reduceIte]; first | done | rfl) ?_
    refine at_stA 5 (.tmp 21) rfl rfl rfl rfl rfl (ev_tmp rfl) rfl fagg_api_Tree rfl rfl (by first | decide | simp | (simp; omega)) (by dsimp only [List.set, List.append, List.cons_append, List.nil_append, cellsD, List.map, repl, List.length, Nat.reduceAdd, if_true, ↓reduceIte]; first | done | rfl) ?_
    refine at_stA 6 (.tmp 23) rfl rfl rfl rfl rfl (ev_tmp rfl) rfl fagg_api_Tree rfl rfl (by first | decide | simp | (simp; omega)) (by dsimp only [List.set, List.append, List.cons_append, List.nil_append, cellsD, List.map, repl, List.length, Nat.reduceAdd, if_true, ↓reduceIte]; first | done | rfl) ?_
    refine at_end rfl ?_
    refine run_cv (cv_frz [1, 2, 3] (.keep (.keep (.keep (.keep (.view (lend_pair (x := vi a.lab) (y := vtl a.kids) rfl rfl rfl) (.view (lend_pair (x := vi b.lab) (y := vtl b.kids) rfl rfl rfl) (.view (lend_pair (x := vi c.lab) (y := vtl c.kids) rfl rfl rfl) (.keep (.keep (.keep (.keep (.keep (.keep (.keep (.keep (.keep (.keep (.keep (.keep (.keep (.keep (.keep (.keep (.keep (.keep (.keep (.keep (.keep (.keep (.keep (.keep (.keep (.keep (.keep (.keep (.keep (.keep (.keep (.keep (.keep (.keep (.keep (.keep (.keep (.keep (.keep (.keep (.keep (.keep (.keep (.keep (.keep (.keep (.keep (.keep (.keep (.keep (.keep (.keep (.keep (.keep .nil)))))))))))))))))))))))))))))))))))))))))))))))))))))))))))))) ?_
    simp only [killH, List.foldl, List.set]
    have va := valid_of (t := a) (by omega) (by omega) la
    have vb := valid_of (t := b) (by omega) (by omega) lb
    have vc := valid_of (t := c) (by omega) (by omega) lc
    refine at_seq [1, 1, 1, 1, 0] [1, 1, 1, 1, 1] rfl ?_
    refine at_seq [1, 1, 1, 1, 0, 0] [1, 1, 1, 1, 0, 1] rfl ?_
    refine at_region rfl ?_
    first | (refine at_op (some 24) rfl rfl rfl rfl (op_loadRA rfl fagg_api_Tree) (by dsimp only [putD, List.set]) ?_) | (refine at_op (some 24) rfl rfl rfl rfl (op_loadPA rfl fagg_api_Tree rfl (by first | decide | simp) rfl) (by dsimp only [putD, List.set]) ?_)
    first | (refine at_op (some 25) rfl rfl rfl rfl (op_loadRA rfl fagg_api_Tree) (by dsimp only [putD, List.set]) ?_) | (refine at_op (some 25) rfl rfl rfl rfl (op_loadPA rfl fagg_api_Tree rfl (by first | decide | simp) rfl) (by dsimp only [putD, List.set]) ?_)
    refine at_op (some 26) rfl rfl rfl rfl (op_call0 rfl rfl rfl rfl (tleq_spec b b (by omega) (by omega))) (by dsimp only [putD, List.set]) ?_
    rw [leq_true vb vb (emb_refl b)]
    refine at_op (some 27) rfl rfl rfl rfl (op_un rfl rfl) (by dsimp only [putD, List.set]) ?_
    refine at_mv 27 28 rfl rfl rfl (.inl rfl) rfl (by dsimp only [List.set]) ?_
    first | (refine at_op (some 29) rfl rfl rfl rfl (op_loadRA rfl fagg_api_Tree) (by dsimp only [putD, List.set]) ?_) | (refine at_op (some 29) rfl rfl rfl rfl (op_loadPA rfl fagg_api_Tree rfl (by first | decide | simp) rfl) (by dsimp only [putD, List.set]) ?_)
    first | (refine at_op (some 30) rfl rfl rfl rfl (op_loadRA rfl fagg_api_Tree) (by dsimp only [putD, List.set]) ?_) | (refine at_op (some 30) rfl rfl rfl rfl (op_loadPA rfl fagg_api_Tree rfl (by first | decide | simp) rfl) (by dsimp only [putD, List.set]) ?_)
    refine at_op (some 31) rfl rfl rfl rfl (op_call0 rfl rfl rfl rfl (tleq_spec a b (by omega) (by omega))) (by dsimp only [putD, List.set]) ?_
    refine at_mv 31 32 rfl rfl rfl (.inl rfl) rfl (by dsimp only [List.set]) ?_
    refine at_split 32 rfl (fun hb2 env' he => ?_) (fun hb2 env' he => ?_)
    · dsimp only [List.set] at he; subst he
      have hab : (embT a b).isSome = true := hb2
      first | (refine at_op (some 33) rfl rfl rfl rfl (op_loadRA rfl fagg_api_Tree) (by dsimp only [putD, List.set]) ?_) | (refine at_op (some 33) rfl rfl rfl rfl (op_loadPA rfl fagg_api_Tree rfl (by first | decide | simp) rfl) (by dsimp only [putD, List.set]) ?_)
      first | (refine at_op (some 34) rfl rfl rfl rfl (op_loadRA rfl fagg_api_Tree) (by dsimp only [putD, List.set]) ?_) | (refine at_op (some 34) rfl rfl rfl rfl (op_loadPA rfl fagg_api_Tree rfl (by first | decide | simp) rfl) (by dsimp only [putD, List.set]) ?_)
      refine at_op (some 35) rfl rfl rfl rfl (op_call0 rfl rfl rfl rfl (tleq_spec b c (by omega) (by omega))) (by dsimp only [putD, List.set]) ?_
      refine at_pk true 32 35 36 rfl rfl rfl rfl rfl rfl rfl (by dsimp only [List.set]) ?_
      refine at_mv 36 37 rfl rfl rfl (.inl rfl) rfl (by dsimp only [List.set]) ?_
      refine at_split 37 rfl (fun hb3 env' he => ?_) (fun hb3 env' he => ?_)
      · dsimp only [List.set] at he; subst he
        have hbc : (embT b c).isSome = true := hb3
        have gac := leq_true va vc (emb_trans ((leqT_iff a b).1 hab).2.2 ((leqT_iff b c).1 hbc).2.2)
        first | (refine at_op (some 38) rfl rfl rfl rfl (op_loadRA rfl fagg_api_Tree) (by dsimp only [putD, List.set]) ?_) | (refine at_op (some 38) rfl rfl rfl rfl (op_loadPA rfl fagg_api_Tree rfl (by first | decide | simp) rfl) (by dsimp only [putD, List.set]) ?_)
        first | (refine at_op (some 39) rfl rfl rfl rfl (op_loadRA rfl fagg_api_Tree) (by dsimp only [putD, List.set]) ?_) | (refine at_op (some 39) rfl rfl rfl rfl (op_loadPA rfl fagg_api_Tree rfl (by first | decide | simp) rfl) (by dsimp only [putD, List.set]) ?_)
        refine at_op (some 40) rfl rfl rfl rfl (op_call0 rfl rfl rfl rfl (tleq_spec a c (by omega) (by omega))) (by dsimp only [putD, List.set]) ?_
        rw [gac]
        refine at_op (some 41) rfl rfl rfl rfl (op_un rfl rfl) (by dsimp only [putD, List.set]) ?_
        refine at_pk true 37 41 42 rfl rfl rfl rfl rfl rfl rfl (by dsimp only [List.set]) ?_
        refine at_pk false 28 42 43 rfl rfl rfl rfl rfl rfl rfl (by dsimp only [List.set]) ?_
        refine at_end rfl ?_
        refine at_false [1, 1, 1, 1, 0, 1, 0] [1, 1, 1, 1, 0, 1, 1] rfl rfl ?_
        refine at_skip rfl ?_
        refine at_seq [1, 1, 1, 1, 1, 0] [1, 1, 1, 1, 1, 1] rfl ?_
        refine at_region rfl ?_
        refine at_mv 3 44 rfl rfl rfl (.inl rfl) rfl (by dsimp only [List.set]) ?_
        obtain ⟨x, sx, zx, lx, px⟩ := tree_spec l hs 2 (by omega) 4 (by omega) (by omega) sc
        refine at_opS (some 45) rfl rfl rfl rfl (op_call1 rfl rfl rfl rfl rfl (.ptr (.pl rfl (.pl rfl .nil))) rfl px) (by dsimp only [putD, List.set]) (by dsimp only [List.set, List.append, List.cons_append, List.nil_append, cellsD, List.map, repl, List.length, Nat.reduceAdd, if_true, ↓reduceIte]; first | done | rfl) ?_
        refine at_new 45 7 rfl rfl rfl rfl fzero_api_Tree rfl rfl rfl rfl (by decide) rfl rfl fagg_api_Tree (by first | rfl | (simp [V.size]; done)) rfl (by simp only [List.length_cons]; omega) (by dsimp only [List.set]) ?_
        refine at_end rfl ?_
        refine at_seq [1, 1, 1, 1, 1, 1, 0] [1, 1, 1, 1, 1, 1, 1] rfl ?_
        refine at_region rfl ?_
        first | (refine at_op (some 46) rfl rfl rfl rfl (op_loadRA rfl fagg_api_Tree) (by dsimp only [putD, List.set]) ?_) | (refine at_op (some 46) rfl rfl rfl rfl (op_loadPA rfl fagg_api_Tree rfl (by first | decide | simp) rfl) (by dsimp only [putD, List.set]) ?_)
        first | (refine at_op (some 47) rfl rfl rfl rfl (op_loadRA rfl fagg_api_Tree) (by dsimp only [putD, List.set]) ?_) | (refine at_op (some 47) rfl rfl rfl rfl (op_loadPA rfl fagg_api_Tree rfl (by first | decide | simp) rfl) (by dsimp only [putD, List.set]) ?_)
        refine at_op (some 48) rfl rfl rfl rfl (op_call0 rfl rfl rfl rfl (tleq_spec a x (by omega) (by omega))) (by dsimp only [putD, List.set]) ?_
        refine at_mv 48 49 rfl rfl rfl (.inl rfl) rfl (by dsimp only [List.set]) ?_
        refine at_split 49 rfl (fun hb4 env' he => ?_) (fun hb4 env' he => ?_)
        · dsimp only [List.set] at he; subst he
          have hax : (embT a x).isSome = true := hb4
          first | (refine at_op (some 50) rfl rfl rfl rfl (op_loadRA rfl fagg_api_Tree) (by dsimp only [putD, List.set]) ?_) | (refine at_op (some 50) rfl rfl rfl rfl (op_loadPA rfl fagg_api_Tree rfl (by first | decide | simp) rfl) (by dsimp only [putD, List.set]) ?_)
          first | (refine at_op (some 51) rfl rfl rfl rfl (op_loadRA rfl fagg_api_Tree) (by dsimp only [putD, List.set]) ?_) | (refine at_op (some 51) rfl rfl rfl rfl (op_loadPA rfl fagg_api_Tree rfl (by first | decide | simp) rfl) (by dsimp only [putD, List.set]) ?_)
          refine at_op (some 52) rfl rfl rfl rfl (op_call0 rfl rfl rfl rfl (tleq_spec x a (by omega) (by omega))) (by dsimp only [putD, List.set]) ?_
          refine at_pk true 49 52 53 rfl rfl rfl rfl rfl rfl rfl (by dsimp only [List.set]) ?_
          refine at_op (some 54) rfl rfl rfl rfl (op_un rfl rfl) (by dsimp only [putD, List.set]) ?_
          refine at_mv 54 55 rfl rfl rfl (.inl rfl) rfl (by dsimp only [List.set]) ?_
          refine at_split 55 rfl (fun hb5 env' he => ?_) (fun hb5 env' he => ?_)
          · dsimp only [List.set] at he; subst he
            refine at_opN (some 56) rfl rfl rfl (by dsimp only [putD, List.set]) ?_
            refine at_opN (some 57) rfl rfl rfl (by dsimp only [putD, List.set]) ?_
            refine at_opN (some 58) rfl rfl rfl (by dsimp only [putD, List.set]) ?_
            refine at_opN (some 59) rfl rfl rfl (by dsimp only [putD, List.set]) ?_
            refine at_pkc true 55 60 rfl rfl rfl rfl rfl rfl (by dsimp only [constD]) (by dsimp only [List.set]) ?_
            refine at_mv 60 2 rfl rfl rfl (.inr rfl) rfl (by dsimp only [List.set]) ?_
            refine at_end rfl ?_
            refine at_ret rfl (ret_one (t := 2) rfl rfl ?_ rfl)
            rfl
          · dsimp only [List.set] at he; subst he
            have hxa : (embT x a).isSome = true := by simpa using hb5
            have e := ((leqT_iff a x).1 hax).2.2.anti ((leqT_iff x a).1 hxa).2.2.size_le
            have gax : cmpX a x = 0 := by rw [cmpX_small (by omega) (by omega)]; exact cmpT_zero.2 e
            first | (refine at_op (some 56) rfl rfl rfl rfl (op_loadRA rfl fagg_api_Tree) (by dsimp only [putD, List.set]) ?_) | (refine at_op (some 56) rfl rfl rfl rfl (op_loadPA rfl fagg_api_Tree rfl (by first | decide | simp) rfl) (by dsimp only [putD, List.set]) ?_)
            first | (refine at_op (some 57) rfl rfl rfl rfl (op_loadRA rfl fagg_api_Tree) (by dsimp only [putD, List.set]) ?_) | (refine at_op (some 57) rfl rfl rfl rfl (op_loadPA rfl fagg_api_Tree rfl (by first | decide | simp) rfl) (by dsimp only [putD, List.set]) ?_)
            refine at_op (some 58) rfl rfl rfl rfl (op_call0 rfl rfl rfl rfl (tcompareX_spec a x (by omega) (by omega))) (by dsimp only [putD, List.set]) ?_
            rw [gax]
            refine at_op (some 59) rfl rfl rfl rfl (op_binI rfl rfl) (by dsimp only [putD, List.set]) ?_
            refine at_pk false 55 59 60 rfl rfl rfl rfl rfl rfl rfl (by dsimp only [List.set]) ?_
            refine at_mv 60 2 rfl rfl rfl (.inr rfl) rfl (by dsimp only [List.set]) ?_
            refine at_end rfl ?_
            refine at_ret rfl (ret_one (t := 2) rfl rfl ?_ rfl)
            rfl
        · dsimp only [List.set] at he; subst he
          refine at_opN (some 50) rfl rfl rfl (by dsimp only [putD, List.set]) ?_
          refine at_opN (some 51) rfl rfl rfl (by dsimp only [putD, List.set]) ?_
          refine at_opN (some 52) rfl rfl rfl (by dsimp only [putD, List.set]) ?_
          refine at_pkc false 49 53 rfl rfl rfl rfl rfl rfl (by dsimp only [constD]) (by dsimp only [List.set]) ?_
          refine at_op (some 54) rfl rfl rfl rfl (op_un rfl rfl) (by dsimp only [putD, List.set]) ?_
          refine at_mv 54 55 rfl rfl rfl (.inl rfl) rfl (by dsimp only [List.set]) ?_
          refine at_opN (some 56) rfl rfl rfl (by dsimp only [putD, List.set]) ?_
          refine at_opN (some 57) rfl rfl rfl (by dsimp only [putD, List.set]) ?_
          refine at_opN (some 58) rfl rfl rfl (by dsimp only [putD, List.set]) ?_
          refine at_opN (some 59) rfl rfl rfl (by dsimp only [putD, List.set]) ?_
          refine at_pkc true 55 60 rfl rfl rfl rfl rfl rfl (by dsimp only [constD]) (by dsimp only [List.set]) ?_
          refine at_mv 60 2 rfl rfl rfl (.inr rfl) rfl (by dsimp only [List.set]) ?_
          refine at_end rfl ?_
          refine at_ret rfl (ret_one (t := 2) rfl rfl ?_ rfl)
          rfl
      · dsimp only [List.set] at he; subst he
        refine at_opN (some 38) rfl rfl rfl (by dsimp only [putD, List.set]) ?_
        refine at_opN (some 39) rfl rfl rfl (by dsimp only [putD, List.set]) ?_
        refine at_opN (some 40) rfl rfl rfl (by dsimp only [putD, List.set]) ?_
        refine at_opN (some 41) rfl rfl rfl (by dsimp only [putD, List.set]) ?_
        refine at_pkc false 37 42 rfl rfl rfl rfl rfl rfl (by dsimp only [constD]) (by dsimp only [List.set]) ?_
        refine at_pk false 28 42 43 rfl rfl rfl rfl rfl rfl rfl (by dsimp only [List.set]) ?_
        refine at_end rfl ?_
        refine at_false [1, 1, 1, 1, 0, 1, 0] [1, 1, 1, 1, 0, 1, 1] rfl rfl ?_
        refine at_skip rfl ?_
        refine at_seq [1, 1, 1, 1, 1, 0] [1, 1, 1, 1, 1, 1] rfl ?_
        refine at_region rfl ?_
        refine at_mv 3 44 rfl rfl rfl (.inl rfl) rfl (by dsimp only [List.set]) ?_
        obtain ⟨x, sx, zx, lx, px⟩ := tree_spec l hs 2 (by omega) 4 (by omega) (by omega) sc
        refine at_opS (some 45) rfl rfl rfl rfl (op_call1 rfl rfl rfl rfl rfl (.ptr (.pl rfl (.pl rfl .nil))) rfl px) (by dsimp only [putD, List.set]) (by dsimp only [List.set, List.append, List.cons_append, List.nil_append, cellsD, List.map, repl, List.length, Nat.reduceAdd, if_true, ↓reduceIte]; first | done | rfl) ?_
        refine at_new 45 7 rfl rfl rfl rfl fzero_api_Tree rfl rfl rfl rfl (by decide) rfl rfl fagg_api_Tree (by first | rfl | (simp [V.size]; done)) rfl (by simp only [List.length_cons]; omega) (by dsimp only [List.set]) ?_
        refine at_end rfl ?_
        refine at_seq [1, 1, 1, 1, 1, 1, 0] [1, 1, 1, 1, 1, 1, 1] rfl ?_
        refine at_region rfl ?_
        first | (refine at_op (some 46) rfl rfl rfl rfl (op_loadRA rfl fagg_api_Tree) (by dsimp only [putD, List.set]) ?_) | (refine at_op (some 46) rfl rfl rfl rfl (op_loadPA rfl fagg_api_Tree rfl (by first | decide | simp) rfl) (by dsimp only [putD, List.set]) ?_)
        first | (refine at_op (some 47) rfl rfl rfl rfl (op_loadRA rfl fagg_api_Tree) (by dsimp only [putD, List.set]) ?_) | (refine at_op (some 47) rfl rfl rfl rfl (op_loadPA rfl fagg_api_Tree rfl (by first | decide | simp) rfl) (by dsimp only [putD, List.set]) ?_)
        refine at_op (some 48) rfl rfl rfl rfl (op_call0 rfl rfl rfl rfl (tleq_spec a x (by omega) (by omega))) (by dsimp only [putD, List.set]) ?_
        refine at_mv 48 49 rfl rfl rfl (.inl rfl) rfl (by dsimp only [List.set]) ?_
        refine at_split 49 rfl (fun hb6 env' he => ?_) (fun hb6 env' he => ?_)
        · dsimp only [List.set] at he; subst he
          have hax : (embT a x).isSome = true := hb6
          first | (refine at_op (some 50) rfl rfl rfl rfl (op_loadRA rfl fagg_api_Tree) (by dsimp only [putD, List.set]) ?_) | (refine at_op (some 50) rfl rfl rfl rfl (op_loadPA rfl fagg_api_Tree rfl (by first | decide | simp) rfl) (by dsimp only [putD, List.set]) ?_)
          first | (refine at_op (some 51) rfl rfl rfl rfl (op_loadRA rfl fagg_api_Tree) (by dsimp only [putD, List.set]) ?_) | (refine at_op (some 51) rfl rfl rfl rfl (op_loadPA rfl fagg_api_Tree rfl (by first | decide | simp) rfl) (by dsimp only [putD, List.set]) ?_)
          refine at_op (some 52) rfl rfl rfl rfl (op_call0 rfl rfl rfl rfl (tleq_spec x a (by omega) (by omega))) (by dsimp only [putD, List.set]) ?_
          refine at_pk true 49 52 53 rfl rfl rfl rfl rfl rfl rfl (by dsimp only [List.set]) ?_
          refine at_op (some 54) rfl rfl rfl rfl (op_un rfl rfl) (by dsimp only [putD, List.set]) ?_
          refine at_mv 54 55 rfl rfl rfl (.inl rfl) rfl (by dsimp only [List.set]) ?_
          refine at_split 55 rfl (fun hb7 env' he => ?_) (fun hb7 env' he => ?_)
          · dsimp only [List.set] at he; subst he
            refine at_opN (some 56) rfl rfl rfl (by dsimp only [putD, List.set]) ?_
            refine at_opN (some 57) rfl rfl rfl (by dsimp only [putD, List.set]) ?_
            refine at_opN (some 58) rfl rfl rfl (by dsimp only [putD, List.set]) ?_
            refine at_opN (some 59) rfl rfl rfl (by dsimp only [putD, List.set]) ?_
            refine at_pkc true 55 60 rfl rfl rfl rfl rfl rfl (by dsimp only [constD]) (by dsimp only [List.set]) ?_
            refine at_mv 60 2 rfl rfl rfl (.inr rfl) rfl (by dsimp only [List.set]) ?_
            refine at_end rfl ?_
            refine at_ret rfl (ret_one (t := 2) rfl rfl ?_ rfl)
            rfl
          · dsimp only [List.set] at he; subst he
            have hxa : (embT x a).isSome = true := by simpa using hb7
            have e := ((leqT_iff a x).1 hax).2.2.anti ((leqT_iff x a).1 hxa).2.2.size_le
            have gax : cmpX a x = 0 := by rw [cmpX_small (by omega) (by omega)]; exact cmpT_zero.2 e
            first | (refine at_op (some 56) rfl rfl rfl rfl (op_loadRA rfl fagg_api_Tree) (by dsimp only [putD, List.set]) ?_) | (refine at_op (some 56) rfl rfl rfl rfl (op_loadPA rfl fagg_api_Tree rfl (by first | decide | simp) rfl) (by dsimp only [putD, List.set]) ?_)
            first | (refine at_op (some 57) rfl rfl rfl rfl (op_loadRA rfl fagg_api_Tree) (by dsimp only [putD, List.set]) ?_) | (refine at_op (some 57) rfl rfl rfl rfl (op_loadPA rfl fagg_api_Tree rfl (by first | decide | simp) rfl) (by dsimp only [putD, List.set]) ?_)
            refine at_op (some 58) rfl rfl rfl rfl (op_call0 rfl rfl rfl rfl (tcompareX_spec a x (by omega) (by omega))) (by dsimp only [putD, List.set]) ?_
            rw [gax]
            refine at_op (some 59) rfl rfl rfl rfl (op_binI rfl rfl) (by dsimp only [putD, List.set]) ?_
            refine at_pk false 55 59 60 rfl rfl rfl rfl rfl rfl rfl (by dsimp only [List.set]) ?_
            refine at_mv 60 2 rfl rfl rfl (.inr rfl) rfl (by dsimp only [List.set]) ?_
            refine at_end rfl ?_
            refine at_ret rfl (ret_one (t := 2) rfl rfl ?_ rfl)
            rfl
        · dsimp only [List.set] at he; subst he
          refine at_opN (some 50) rfl rfl rfl (by dsimp only [putD, List.set]) ?_
          refine at_opN (some 51) rfl rfl rfl (by dsimp only [putD, List.set]) ?_
          refine at_opN (some 52) rfl rfl rfl (by dsimp only [putD, List.set]) ?_
          refine at_pkc false 49 53 rfl rfl rfl rfl rfl rfl (by dsimp only [constD]) (by dsimp only [List.set]) ?_
          refine at_op (some 54) rfl rfl rfl rfl (op_un rfl rfl) (by dsimp only [putD, List.set]) ?_
          refine at_mv 54 55 rfl rfl rfl (.inl rfl) rfl (by dsimp only [List.set]) ?_
          refine at_opN (some 56) rfl rfl rfl (by dsimp only [putD, List.set]) ?_
          refine at_opN (some 57) rfl rfl rfl (by dsimp only [putD, List.set]) ?_
          refine at_opN (some 58) rfl rfl rfl (by dsimp only [putD, List.set]) ?_
          refine at_opN (some 59) rfl rfl rfl (by dsimp only [putD, List.set]) ?_
          refine at_pkc true 55 60 rfl rfl rfl rfl rfl rfl (by dsimp only [constD]) (by dsimp only [List.set]) ?_
          refine at_mv 60 2 rfl rfl rfl (.inr rfl) rfl (by dsimp only [List.set]) ?_
          refine at_end rfl ?_
          refine at_ret rfl (ret_one (t := 2) rfl rfl ?_ rfl)
          rfl
    · dsimp only [List.set] at he; subst he
      refine at_opN (some 33) rfl rfl rfl (by dsimp only [putD, List.set]) ?_
      refine at_opN (some 34) rfl rfl rfl (by dsimp only [putD, List.set]) ?_
      refine at_opN (some 35) rfl rfl rfl (by dsimp only [putD, List.set]) ?_
      refine at_pkc false 32 36 rfl rfl rfl rfl rfl rfl (by dsimp only [constD]) (by dsimp only [List.set]) ?_
      refine at_mv 36 37 rfl rfl rfl (.inl rfl) rfl (by dsimp only [List.set]) ?_
      refine at_opN (some 38) rfl rfl rfl (by dsimp only [putD, List.set]) ?_
      refine at_opN (some 39) rfl rfl rfl (by dsimp only [putD, List.set]) ?_
      refine at_opN (some 40) rfl rfl rfl (by dsimp only [putD, List.set]) ?_
      refine at_opN (some 41) rfl rfl rfl (by dsimp only [putD, List.set]) ?_
      refine at_pkc false 37 42 rfl rfl rfl rfl rfl rfl (by dsimp only [constD]) (by dsimp only [List.set]) ?_
      refine at_pk false 28 42 43 rfl rfl rfl rfl rfl rfl rfl (by dsimp only [List.set]) ?_
      refine at_end rfl ?_
      refine at_false [1, 1, 1, 1, 0, 1, 0] [1, 1, 1, 1, 0, 1, 1] rfl rfl ?_
      refine at_skip rfl ?_
      refine at_seq [1, 1, 1, 1, 1, 0] [1, 1, 1, 1, 1, 1] rfl ?_
      refine at_region rfl ?_
      refine at_mv 3 44 rfl rfl rfl (.inl rfl) rfl (by dsimp only [List.set]) ?_
      obtain ⟨x, sx, zx, lx, px⟩ := tree_spec l hs 2 (by omega) 4 (by omega) (by omega) sc
      refine at_opS (some 45) rfl rfl rfl rfl (op_call1 rfl rfl rfl rfl rfl (.ptr (.pl rfl (.pl rfl .nil))) rfl px) (by dsimp only [putD, List.set]) (by dsimp only [List.set, List.append, List.cons_append, List.nil_append, cellsD, List.map, repl, List.length, Nat.reduceAdd, if_true, ↓reduceIte]; first | done | rfl) ?_
      refine at_new 45 7 rfl rfl rfl rfl fzero_api_Tree rfl rfl rfl rfl (by decide) rfl rfl fagg_api_Tree (by first | rfl | (simp [V.size]; done)) rfl (by simp only [List.length_cons]; omega) (by dsimp only [List.set]) ?_
      refine at_end rfl ?_
      refine at_seq [1, 1, 1, 1, 1, 1, 0] [1, 1, 1, 1, 1, 1, 1] rfl ?_
      refine at_region rfl ?_
      first | (refine at_op (some 46) rfl rfl rfl rfl (op_loadRA rfl fagg_api_Tree) (by dsimp only [putD, List.set]) ?_) | (refine at_op (some 46) rfl rfl rfl rfl (op_loadPA rfl fagg_api_Tree rfl (by first | decide | simp) rfl) (by dsimp only [putD, List.set]) ?_)
      first | (refine at_op (some 47) rfl rfl rfl rfl (op_loadRA rfl fagg_api_Tree) (by dsimp only [putD, List.set]) ?_) | (refine at_op (some 47) rfl rfl rfl rfl (op_loadPA rfl fagg_api_Tree rfl (by first | decide | simp) rfl) (by dsimp only [putD, List.set]) ?_)
      refine at_op (some 48) rfl rfl rfl rfl (op_call0 rfl rfl rfl rfl (tleq_spec a x (by omega) (by omega))) (by dsimp only [putD, List.set]) ?_
      refine at_mv 48 49 rfl rfl rfl (.inl rfl) rfl (by dsimp only [List.set]) ?_
      refine at_split 49 rfl (fun hb8 env' he => ?_) (fun hb8 env' he => ?_)
      · dsimp only [List.set] at he; subst he
        have hax : (embT a x).isSome = true := hb8
        first | (refine at_op (some 50) rfl rfl rfl rfl (op_loadRA rfl fagg_api_Tree) (by dsimp only [putD, List.set]) ?_) | (refine at_op (some 50) rfl rfl rfl rfl (op_loadPA rfl fagg_api_Tree rfl (by first | decide | simp) rfl) (by dsimp only [putD, List.set]) ?_)
        first | (refine at_op (some 51) rfl rfl rfl rfl (op_loadRA rfl fagg_api_Tree) (by dsimp only [putD, List.set]) ?_) | (refine at_op (some 51) rfl rfl rfl rfl (op_loadPA rfl fagg_api_Tree rfl (by first | decide | simp) rfl) (by dsimp only [putD, List.set]) ?_)
        refine at_op (some 52) rfl rfl rfl rfl (op_call0 rfl rfl rfl rfl (tleq_spec x a (by omega) (by omega))) (by dsimp only [putD, List.set]) ?_
        refine at_pk true 49 52 53 rfl rfl rfl rfl rfl rfl rfl (by dsimp only [List.set]) ?_
        refine at_op (some 54) rfl rfl rfl rfl (op_un rfl rfl) (by dsimp only [putD, List.set]) ?_
        refine at_mv 54 55 rfl rfl rfl (.inl rfl) rfl (by dsimp only [List.set]) ?_
        refine at_split 55 rfl (fun hb9 env' he => ?_) (fun hb9 env' he => ?_)
        · dsimp only [List.set] at he; subst he
          refine at_opN (some 56) rfl rfl rfl (by dsimp only [putD, List.set]) ?_
          refine at_opN (some 57) rfl rfl rfl (by dsimp only [putD, List.set]) ?_
          refine at_opN (some 58) rfl rfl rfl (by dsimp only [putD, List.set]) ?_
          refine at_opN (some 59) rfl rfl rfl (by dsimp only [putD, List.set]) ?_
          refine at_pkc true 55 60 rfl rfl rfl rfl rfl rfl (by dsimp only [constD]) (by dsimp only [List.set]) ?_
          refine at_mv 60 2 rfl rfl rfl (.inr rfl) rfl (by dsimp only [List.set]) ?_
          refine at_end rfl ?_
          refine at_ret rfl (ret_one (t := 2) rfl rfl ?_ rfl)
          rfl
        · dsimp only [List.set] at he; subst he
          have hxa : (embT x a).isSome = true := by simpa using hb9
          have e := ((leqT_iff a x).1 hax).2.2.anti ((leqT_iff x a).1 hxa).2.2.size_le
          have gax : cmpX a x = 0 := by rw [cmpX_small (by omega) (by omega)]; exact cmpT_zero.2 e
          first | (refine at_op (some 56) rfl rfl rfl rfl (op_loadRA rfl fagg_api_Tree) (by dsimp only [putD, List.set]) ?_) | (refine at_op (some 56) rfl rfl rfl rfl (op_loadPA rfl fagg_api_Tree rfl (by first | decide | simp) rfl) (by dsimp only [putD, List.set]) ?_)
          first | (refine at_op (some 57) rfl rfl rfl rfl (op_loadRA rfl fagg_api_Tree) (by dsimp only [putD, List.set]) ?_) | (refine at_op (some 57) rfl rfl rfl rfl (op_loadPA rfl fagg_api_Tree rfl (by first | decide | simp) rfl) (by dsimp only [putD, List.set]) ?_)
          refine at_op (some 58) rfl rfl rfl rfl (op_call0 rfl rfl rfl rfl (tcompareX_spec a x (by omega) (by omega))) (by dsimp only [putD, List.set]) ?_
          rw [gax]
          refine at_op (some 59) rfl rfl rfl rfl (op_binI rfl rfl) (by dsimp only [putD, List.set]) ?_
          refine at_pk false 55 59 60 rfl rfl rfl rfl rfl rfl rfl (by dsimp only [List.set]) ?_
          refine at_mv 60 2 rfl rfl rfl (.inr rfl) rfl (by dsimp only [List.set]) ?_
          refine at_end rfl ?_
          refine at_ret rfl (ret_one (t := 2) rfl rfl ?_ rfl)
          rfl
      · dsimp only [List.set] at he; subst he
        refine at_opN (some 50) rfl rfl rfl (by dsimp only [putD, List.set]) ?_
        refine at_opN (some 51) rfl rfl rfl (by dsimp only [putD, List.set]) ?_
        refine at_opN (some 52) rfl rfl rfl (by dsimp only [putD, List.set]) ?_
        refine at_pkc false 49 53 rfl rfl rfl rfl rfl rfl (by dsimp only [constD]) (by dsimp only [List.set]) ?_
        refine at_op (some 54) rfl rfl rfl rfl (op_un rfl rfl) (by dsimp only [putD, List.set]) ?_
        refine at_mv 54 55 rfl rfl rfl (.inl rfl) rfl (by dsimp only [List.set]) ?_
        refine at_opN (some 56) rfl rfl rfl (by dsimp only [putD, List.set]) ?_
        refine at_opN (some 57) rfl rfl rfl (by dsimp only [putD, List.set]) ?_
        refine at_opN (some 58) rfl rfl rfl (by dsimp only [putD, List.set]) ?_
        refine at_opN (some 59) rfl rfl rfl (by dsimp only [putD, List.set]) ?_
        refine at_pkc true 55 60 rfl rfl rfl rfl rfl rfl (by dsimp only [constD]) (by dsimp only [List.set]) ?_
        refine at_mv 60 2 rfl rfl rfl (.inr rfl) rfl (by dsimp only [List.set]) ?_
        refine at_end rfl ?_
        refine at_ret rfl (ret_one (t := 2) rfl rfl ?_ rfl)
        rfl

noncomputable def cTCmp : Code := Try.f12.body.getD .skip
set_option maxRecDepth 20000 in
theorem ttotal_spec (l : List Int) : FSpec PP 12 [dl l] σ0 (db true) σ0 := by
  refine spec_at cTCmp Try.func12 rfl (by kernel_rfl) (by first | decide | simp) _ (by dsimp only [Try.f12, List.length, Nat.reduceAdd, Nat.reduceSub, List.replicate, List.cons_append, List.nil_append]) ?_
  refine at_seq [0] [1] rfl ?_
  refine at_region rfl ?_
  refine at_mc 2 rfl rfl rfl (.inr rfl) (by dsimp only [constD]) (by dsimp only [List.set]) ?_
  refine at_end rfl ?_
  refine at_seq [1, 0] [1, 1] rfl ?_
  refine at_seq [1, 0, 0] [1, 0, 1] rfl ?_
  refine at_region rfl ?_
  refine at_op (some 9) rfl rfl rfl rfl (op_call0 rfl rfl rfl rfl (awakeT_spec)) (by dsimp only [putD, List.set]) ?_
  refine at_op (some 10) rfl rfl rfl rfl (op_un rfl rfl) (by dsimp only [putD, List.set]) ?_
  refine at_mv 10 11 rfl rfl rfl (.inl rfl) rfl (by dsimp only [List.set]) ?_
  refine at_mv 0 12 rfl rfl rfl (.inl rfl) rfl (by dsimp only [List.set]) ?_
  refine at_op (some 13) rfl rfl rfl rfl (op_call0 rfl rfl rfl rfl (few_spec l)) (by dsimp only [putD, List.set]) ?_
  refine at_op (some 14) rfl rfl rfl rfl (op_un rfl rfl) (by dsimp only [putD, List.set]) ?_
  refine at_pk false 11 14 15 rfl rfl rfl rfl rfl rfl rfl (by dsimp only [List.set]) ?_
  refine at_end rfl ?_
  refine at_cond [1, 0, 1, 0] [1, 0, 1, 1] rfl rfl (fun hc1 => ?_) (fun hc1 => ?_)
  · skip
    refine at_seq [1, 0, 1, 0, 0] [1, 0, 1, 0, 1] rfl ?_
    refine at_region rfl ?_
    refine at_op (some 16) rfl rfl rfl rfl (op_call0 rfl rfl rfl rfl (awakeT_spec)) (by dsimp only [putD, List.set]) ?_
    refine at_mv 16 2 rfl rfl rfl (.inr rfl) rfl (by dsimp only [List.set]) ?_
    refine at_end rfl ?_
    refine at_ret rfl (ret_one (t := 2) rfl rfl ?_ rfl)
    rfl
  · skip
    have hs : l.length ≤ 1000000 := by simp_all; omega
    refine at_skip rfl ?_
    refine at_seq [1, 1, 0] [1, 1, 1] rfl ?_
    refine at_region rfl ?_
    refine at_mv 0 17 rfl rfl rfl (.inl rfl) rfl (by dsimp only [List.set]) ?_
    refine at_opS (some 18) rfl rfl rfl rfl (op_call0_new rfl rfl rfl rfl (new_spec l)) (by dsimp only [putD, List.set]) (by dsimp only [List.set, List.append, List.cons_append, List.nil_append, cellsD, List.map, repl, List.length, Nat.reduceAdd, if_true, ↓reduceIte]; first | done | rfl) ?_
    refine at_mv 18 3 rfl rfl rfl (.inr rfl) rfl (by dsimp only [List.set]) ?_
    refine at_end rfl ?_
    refine at_seq [1, 1, 1, 0] [1, 1, 1, 1] rfl ?_
    refine at_region rfl ?_
    refine at_mv 3 19 rfl rfl rfl (.inl rfl) rfl (by dsimp only [List.set]) ?_
    obtain ⟨a, sa, za, la, pa⟩ := tree_spec l hs 2 (by omega) 4 (by omega) (by omega) (0, 11400714819323198485)
    refine at_opS (some 20) rfl rfl rfl rfl (op_call1 rfl rfl rfl rfl rfl (.ptr (.pl rfl (.pl rfl .nil))) rfl pa) (by dsimp only [putD, List.set]) (by dsimp only [List.set, List.append, List.cons_append, List.nil_append, cellsD, List.map, repl, List.length, Nat.reduceAdd, if_true, ↓reduceIte]; first | done | rfl) ?_
    refine at_mv 3 21 rfl rfl rfl (.inl rfl) rfl (by dsimp only [List.set]) ?_
    obtain ⟨b, sb, zb, lb, pb⟩ := tree_spec l hs 2 (by omega) 4 (by omega) (by omega) sa
    refine at_opS (some 22) rfl rfl rfl rfl (op_call1 rfl rfl rfl rfl rfl (.ptr (.pl rfl (.pl rfl .nil))) rfl pb) (by dsimp only [putD, List.set]) (by dsimp only [List.set, List.append, List.cons_append, List.nil_append, cellsD, List.map, repl, List.length, Nat.reduceAdd, if_true, ↓reduceIte]; first | done | rfl) ?_
    refine at_mv 3 23 rfl rfl rfl (.inl rfl) rfl (by dsimp only [List.set]) ?_
    obtain ⟨c, sc, zc, lc, pc⟩ := tree_spec l hs 2 (by omega) 6 (by omega) (by omega) sb
    refine at_opS (some 24) rfl rfl rfl rfl (op_call1 rfl rfl rfl rfl rfl (.ptr (.pl rfl (.pl rfl .nil))) rfl pc) (by dsimp only [putD, List.set]) (by dsimp only [List.set, List.append, List.cons_append, List.nil_append, cellsD, List.map, repl, List.length, Nat.reduceAdd, if_true, ↓reduceIte]; first | done | rfl) ?_
    refine at_opS (some 4) rfl rfl rfl rfl (op_alloc rfl fzero_api_Tree) (by dsimp only [putD, List.set]) (by dsimp only [List.set, List.append, List.cons_append, List.nil_append, cellsD, List.map, repl, List.length, Nat.reduceAdd, if_true, ↓reduceIte]; first | done | rfl) ?_
    refine at_opS (some 5) rfl rfl rfl rfl (op_alloc rfl fzero_api_Tree) (by dsimp only [putD, List.set]) (by dsimp only [List.set, List.append, List.cons_append, List.nil_append, cellsD, List.map, repl, List.length, Nat.reduceAdd, if_true, ↓reduceIte]; first | done | rfl) ?_
    refine at_opS (some 6) rfl rfl rfl rfl (op_alloc rfl fzero_api_Tree) (by dsimp only [putD, List.set]) (by dsimp only [List.set, List.append, List.cons_append, List.nil_append, cellsD, List.map, repl, List.length, Nat.reduceAdd, if_true, ↓reduceIte]; first | done | rfl) ?_
    refine at_stA 4 (.tmp 20) rfl rfl rfl rfl rfl (ev_tmp rfl) rfl fagg_api_Tree rfl rfl (by first | decide | simp | (simp; omega)) (by dsimp only [List.set, List.append, List.cons_append, List.nil_append, cellsD, List.map, repl, List.length, Nat.reduceAdd, if_true, ↓reduceIte]; first | done | rfl) ?_
    refine at_stA 5 (.tmp 22) rfl rfl rfl rfl rfl (ev_tmp rfl) rfl fagg_api_Tree rfl rfl (by first | decide | simp | (simp; omega)) (by dsimp only [List.set, List.append, List.cons_append, List.nil_append, cellsD, List.map, repl, List.length, Nat.reduceAdd, if_true, ↓reduceIte]; first | done | rfl) ?_
    refine at_stA 6 (.tmp 24) rfl rfl rfl rfl rfl (ev_tmp rfl) rfl fagg_api_Tree rfl rfl (by first | decide | simp | (simp; omega)) (by dsimp only [List.set, List.append, List.cons_append, List.nil_append, cellsD, List.map, repl, List.length, Nat.reduceAdd, if_true, ↓reduceIte]; first | done | rfl) ?_
    refine at_end rfl ?_
    refine run_cv (cv_frz [1, 2, 3] (.keep (.keep (.keep (.keep (.view (lend_pair (x := vi a.lab) (y := vtl a.kids) rfl rfl rfl) (.view (lend_pair (x := vi b.lab) (y := vtl b.kids) rfl rfl rfl) (.view (lend_pair (x := vi c.lab) (y := vtl c.kids) rfl rfl rfl) (.keep (.keep (.keep (.keep (.keep (.keep (.keep (.keep (.keep (.keep (.keep (.keep (.keep (.keep (.keep (.keep (.keep (.keep (.keep (.keep (.keep (.keep (.keep (.keep (.keep (.keep (.keep (.keep (.keep (.keep (.keep (.keep (.keep (.keep (.keep (.keep (.keep (.keep (.keep (.keep (.keep (.keep (.keep (.keep (.keep (.keep (.keep (.keep (.keep (.keep (.keep (.keep (.keep (.keep (.keep (.keep (.keep (.keep (.keep (.keep (.keep (.keep (.keep (.keep (.keep (.keep (.keep (.keep (.keep (.keep (.keep (.keep (.keep (.keep (.keep .nil))))))))))))))))))))))))))))))))))))))))))))))))))))))))))))))))))))))))))))))))))) ?_
    simp only [killH, List.foldl, List.set]
    have va := valid_of (t := a) (by omega) (by omega) la
    have vb := valid_of (t := b) (by omega) (by omega) lb
    have vc := valid_of (t := c) (by omega) (by omega) lc
    refine at_seq [1, 1, 1, 1, 0] [1, 1, 1, 1, 1] rfl ?_
    refine at_draw mixed rfl [⟨[some (dk l sc.1 sc.2), none, none, none], []⟩] rfl ?_
    first | (refine da_quiet (some 25) rfl rfl rfl rfl (fun s hs => op_loadRA rfl fagg_api_Tree) (by dsimp only [putD, List.set]) ?_) | (refine da_quiet (some 25) rfl rfl rfl rfl (by intro s hs; simp only [List.mem_cons, List.not_mem_nil, or_false] at hs; rcases hs with rfl <;> exact op_loadPA rfl fagg_api_Tree rfl (by first | decide | simp) rfl) (by dsimp only [putD, List.set]) ?_)
    first | (refine da_quiet (some 26) rfl rfl rfl rfl (fun s hs => op_loadRA rfl fagg_api_Tree) (by dsimp only [putD, List.set]) ?_) | (refine da_quiet (some 26) rfl rfl rfl rfl (by intro s hs; simp only [List.mem_cons, List.not_mem_nil, or_false] at hs; rcases hs with rfl <;> exact op_loadPA rfl fagg_api_Tree rfl (by first | decide | simp) rfl) (by dsimp only [putD, List.set]) ?_)
    refine da_quiet (some 27) rfl rfl rfl rfl (fun s hs => op_call0 rfl rfl rfl rfl (tcompareX_spec a b (by omega) (by omega))) (by dsimp only [putD, List.set]) ?_
    rw [cmpX_small (by omega) (by omega)]
    first | (refine da_quiet (some 28) rfl rfl rfl rfl (fun s hs => op_loadRA rfl fagg_api_Tree) (by dsimp only [putD, List.set]) ?_) | (refine da_quiet (some 28) rfl rfl rfl rfl (by intro s hs; simp only [List.mem_cons, List.not_mem_nil, or_false] at hs; rcases hs with rfl <;> exact op_loadPA rfl fagg_api_Tree rfl (by first | decide | simp) rfl) (by dsimp only [putD, List.set]) ?_)
    first | (refine da_quiet (some 29) rfl rfl rfl rfl (fun s hs => op_loadRA rfl fagg_api_Tree) (by dsimp only [putD, List.set]) ?_) | (refine da_quiet (some 29) rfl rfl rfl rfl (by intro s hs; simp only [List.mem_cons, List.not_mem_nil, or_false] at hs; rcases hs with rfl <;> exact op_loadPA rfl fagg_api_Tree rfl (by first | decide | simp) rfl) (by dsimp only [putD, List.set]) ?_)
    refine da_quiet (some 30) rfl rfl rfl rfl (fun s hs => op_call0 rfl rfl rfl rfl (tcompareX_spec b a (by omega) (by omega))) (by dsimp only [putD, List.set]) ?_
    rw [cmpX_small (by omega) (by omega)]
    refine da_mv 27 7 rfl rfl rfl (.inr rfl) rfl (by dsimp only [List.set]) ?_
    refine da_mv 30 8 rfl rfl rfl (.inr rfl) rfl (by dsimp only [List.set]) ?_
    refine da_end rfl ⟨by decide +kernel, _, rfl, ?_⟩
    refine at_seq [1, 1, 1, 1, 1, 0] [1, 1, 1, 1, 1, 1] rfl ?_
    refine at_seq [1, 1, 1, 1, 1, 0, 0] [1, 1, 1, 1, 1, 0, 1] rfl ?_
    refine at_region rfl ?_
    refine at_mv 7 31 rfl rfl rfl (.inl rfl) rfl (by dsimp only [List.set]) ?_
    refine at_mv 8 32 rfl rfl rfl (.inl rfl) rfl (by dsimp only [List.set]) ?_
    refine at_op (some 33) rfl rfl rfl rfl (op_un rfl rfl) (by dsimp only [putD, List.set]) ?_
    refine at_op (some 34) rfl rfl rfl rfl (op_binI rfl rfl) (by dsimp only [putD, List.set]) ?_
    rw [cmp_neg]
    refine at_mv 34 35 rfl rfl rfl (.inl rfl) rfl (by dsimp only [List.set]) ?_
    first | (refine at_op (some 36) rfl rfl rfl rfl (op_loadRA rfl fagg_api_Tree) (by dsimp only [putD, List.set]) ?_) | (refine at_op (some 36) rfl rfl rfl rfl (op_loadPA rfl fagg_api_Tree rfl (by first | decide | simp) rfl) (by dsimp only [putD, List.set]) ?_)
    first | (refine at_op (some 37) rfl rfl rfl rfl (op_loadRA rfl fagg_api_Tree) (by dsimp only [putD, List.set]) ?_) | (refine at_op (some 37) rfl rfl rfl rfl (op_loadPA rfl fagg_api_Tree rfl (by first | decide | simp) rfl) (by dsimp only [putD, List.set]) ?_)
    refine at_op (some 38) rfl rfl rfl rfl (op_call0 rfl rfl rfl rfl (tcompareX_spec c c (by omega) (by omega))) (by dsimp only [putD, List.set]) ?_
    rw [cmpX_small (by omega) (by omega), cmpT_zero.2 rfl]
    refine at_op (some 39) rfl rfl rfl rfl (op_binI rfl rfl) (by dsimp only [putD, List.set]) ?_
    refine at_pk false 35 39 40 rfl rfl rfl rfl rfl rfl rfl (by dsimp only [List.set]) ?_
    refine at_mv 40 41 rfl rfl rfl (.inl rfl) rfl (by dsimp only [List.set]) ?_
    first | (refine at_op (some 42) rfl rfl rfl rfl (op_fieldP rfl ffld0_api_Tree (by decide)) (by dsimp only [putD, List.set]) ?_) | (refine at_op (some 42) rfl rfl rfl rfl (op_fieldR rfl ffld0_api_Tree (by decide) (by decide) rfl) (by dsimp only [putD, List.set]) ?_)
    first | (refine at_op (some 43) rfl rfl rfl rfl (op_loadR1 rfl fone_int rfl) (by dsimp only [putD, List.set]) ?_) | (refine at_op (some 43) rfl rfl rfl rfl (op_loadP1 rfl fone_int rfl rfl) (by dsimp only [putD, List.set]) ?_)
    first | (refine at_op (some 44) rfl rfl rfl rfl (op_fieldP rfl ffld0_api_Tree (by decide)) (by dsimp only [putD, List.set]) ?_) | (refine at_op (some 44) rfl rfl rfl rfl (op_fieldR rfl ffld0_api_Tree (by decide) (by decide) rfl) (by dsimp only [putD, List.set]) ?_)
    first | (refine at_op (some 45) rfl rfl rfl rfl (op_loadR1 rfl fone_int rfl) (by dsimp only [putD, List.set]) ?_) | (refine at_op (some 45) rfl rfl rfl rfl (op_loadP1 rfl fone_int rfl rfl) (by dsimp only [putD, List.set]) ?_)
    refine at_op (some 46) rfl rfl rfl rfl (op_binI rfl rfl) (by dsimp only [putD, List.set]) ?_
    refine at_mv 46 47 rfl rfl rfl (.inl rfl) rfl (by dsimp only [List.set]) ?_
    refine at_split 47 rfl (fun hb2 env' he => ?_) (fun hb2 env' he => ?_)
    · dsimp only [List.set] at he; subst he
      have hlab : a.lab < b.lab := by simpa using hb2
      refine at_mv 7 48 rfl rfl rfl (.inl rfl) rfl (by dsimp only [List.set]) ?_
      refine at_op (some 49) rfl rfl rfl rfl (op_binI rfl rfl) (by dsimp only [putD, List.set]) ?_
      rw [show (cmpT a b != -1) = false from by rw [cmpT_lab hlab]; rfl]
      refine at_pk true 47 49 50 rfl rfl rfl rfl rfl rfl rfl (by dsimp only [List.set]) ?_
      refine at_pk false 41 50 51 rfl rfl rfl rfl rfl rfl rfl (by dsimp only [List.set]) ?_
      refine at_mv 51 52 rfl rfl rfl (.inl rfl) rfl (by dsimp only [List.set]) ?_
      refine at_mv 7 53 rfl rfl rfl (.inl rfl) rfl (by dsimp only [List.set]) ?_
      refine at_op (some 54) rfl rfl rfl rfl (op_binI rfl rfl) (by dsimp only [putD, List.set]) ?_
      refine at_mv 54 55 rfl rfl rfl (.inl rfl) rfl (by dsimp only [List.set]) ?_
      refine at_split 55 rfl (fun hb3 env' he => ?_) (fun hb3 env' he => ?_)
      · dsimp only [List.set] at he; subst he
        have hz : cmpT a b = 0 := by simpa using hb3
        have e := cmpT_zero.1 hz
        have g1 := leq_true va vb (by rw [e]; exact emb_refl b)
        have g2 := leq_true vb va (by rw [e]; exact emb_refl b)
        first | (refine at_op (some 56) rfl rfl rfl rfl (op_loadRA rfl fagg_api_Tree) (by dsimp only [putD, List.set]) ?_) | (refine at_op (some 56) rfl rfl rfl rfl (op_loadPA rfl fagg_api_Tree rfl (by first | decide | simp) rfl) (by dsimp only [putD, List.set]) ?_)
        first | (refine at_op (some 57) rfl rfl rfl rfl (op_loadRA rfl fagg_api_Tree) (by dsimp only [putD, List.set]) ?_) | (refine at_op (some 57) rfl rfl rfl rfl (op_loadPA rfl fagg_api_Tree rfl (by first | decide | simp) rfl) (by dsimp only [putD, List.set]) ?_)
        refine at_op (some 58) rfl rfl rfl rfl (op_call0 rfl rfl rfl rfl (tleq_spec a b (by omega) (by omega))) (by dsimp only [putD, List.set]) ?_
        rw [g1]
        refine at_mv 58 59 rfl rfl rfl (.inl rfl) rfl (by dsimp only [List.set]) ?_
        first | (refine at_op (some 60) rfl rfl rfl rfl (op_loadRA rfl fagg_api_Tree) (by dsimp only [putD, List.set]) ?_) | (refine at_op (some 60) rfl rfl rfl rfl (op_loadPA rfl fagg_api_Tree rfl (by first | decide | simp) rfl) (by dsimp only [putD, List.set]) ?_)
        first | (refine at_op (some 61) rfl rfl rfl rfl (op_loadRA rfl fagg_api_Tree) (by dsimp only [putD, List.set]) ?_) | (refine at_op (some 61) rfl rfl rfl rfl (op_loadPA rfl fagg_api_Tree rfl (by first | decide | simp) rfl) (by dsimp only [putD, List.set]) ?_)
        refine at_op (some 62) rfl rfl rfl rfl (op_call0 rfl rfl rfl rfl (tleq_spec b a (by omega) (by omega))) (by dsimp only [putD, List.set]) ?_
        rw [g2]
        refine at_pk true 59 62 63 rfl rfl rfl rfl rfl rfl rfl (by dsimp only [List.set]) ?_
        refine at_op (some 64) rfl rfl rfl rfl (op_un rfl rfl) (by dsimp only [putD, List.set]) ?_
        refine at_pk true 55 64 65 rfl rfl rfl rfl rfl rfl rfl (by dsimp only [List.set]) ?_
        refine at_pk false 52 65 66 rfl rfl rfl rfl rfl rfl rfl (by dsimp only [List.set]) ?_
        refine at_end rfl ?_
        refine at_false [1, 1, 1, 1, 1, 0, 1, 0] [1, 1, 1, 1, 1, 0, 1, 1] rfl rfl ?_
        refine at_skip rfl ?_
        refine at_seq [1, 1, 1, 1, 1, 1, 0] [1, 1, 1, 1, 1, 1, 1] rfl ?_
        refine at_region rfl ?_
        refine at_mv 7 67 rfl rfl rfl (.inl rfl) rfl (by dsimp only [List.set]) ?_
        refine at_op (some 68) rfl rfl rfl rfl (op_binI rfl rfl) (by dsimp only [putD, List.set]) ?_
        refine at_mv 68 69 rfl rfl rfl (.inl rfl) rfl (by dsimp only [List.set]) ?_
        refine at_split 69 rfl (fun hb4 env' he => ?_) (fun hb4 env' he => ?_)
        · dsimp only [List.set] at he; subst he
          have h1 : cmpT a b ≤ 0 := by simpa using hb4
          first | (refine at_op (some 70) rfl rfl rfl rfl (op_loadRA rfl fagg_api_Tree) (by dsimp only [putD, List.set]) ?_) | (refine at_op (some 70) rfl rfl rfl rfl (op_loadPA rfl fagg_api_Tree rfl (by first | decide | simp) rfl) (by dsimp only [putD, List.set]) ?_)
          first | (refine at_op (some 71) rfl rfl rfl rfl (op_loadRA rfl fagg_api_Tree) (by dsimp only [putD, List.set]) ?_) | (refine at_op (some 71) rfl rfl rfl rfl (op_loadPA rfl fagg_api_Tree rfl (by first | decide | simp) rfl) (by dsimp only [putD, List.set]) ?_)
          refine at_op (some 72) rfl rfl rfl rfl (op_call0 rfl rfl rfl rfl (tcompareX_spec b c (by omega) (by omega))) (by dsimp only [putD, List.set]) ?_
          rw [cmpX_small (by omega) (by omega)]
          refine at_op (some 73) rfl rfl rfl rfl (op_binI rfl rfl) (by dsimp only [putD, List.set]) ?_
          refine at_pk true 69 73 74 rfl rfl rfl rfl rfl rfl rfl (by dsimp only [List.set]) ?_
          refine at_op (some 75) rfl rfl rfl rfl (op_un rfl rfl) (by dsimp only [putD, List.set]) ?_
          refine at_mv 75 76 rfl rfl rfl (.inl rfl) rfl (by dsimp only [List.set]) ?_
          refine at_split 76 rfl (fun hb5 env' he => ?_) (fun hb5 env' he => ?_)
          · dsimp only [List.set] at he; subst he
            refine at_opN (some 77) rfl rfl rfl (by dsimp only [putD, List.set]) ?_
            refine at_opN (some 78) rfl rfl rfl (by dsimp only [putD, List.set]) ?_
            refine at_opN (some 79) rfl rfl rfl (by dsimp only [putD, List.set]) ?_
            refine at_opN (some 80) rfl rfl rfl (by dsimp only [putD, List.set]) ?_
            refine at_pkc true 76 81 rfl rfl rfl rfl rfl rfl (by dsimp only [constD]) (by dsimp only [List.set]) ?_
            refine at_mv 81 2 rfl rfl rfl (.inr rfl) rfl (by dsimp only [List.set]) ?_
            refine at_end rfl ?_
            refine at_ret rfl (ret_one (t := 2) rfl rfl ?_ rfl)
            rfl
          · dsimp only [List.set] at he; subst he
            have h2 : cmpT b c ≤ 0 := by simpa using hb5
            have gle : decide (cmpT a c ≤ 0) = true := by simpa using cmpT_trans h1 h2
            first | (refine at_op (some 77) rfl rfl rfl rfl (op_loadRA rfl fagg_api_Tree) (by dsimp only [putD, List.set]) ?_) | (refine at_op (some 77) rfl rfl rfl rfl (op_loadPA rfl fagg_api_Tree rfl (by first | decide | simp) rfl) (by dsimp only [putD, List.set]) ?_)
            first | (refine at_op (some 78) rfl rfl rfl rfl (op_loadRA rfl fagg_api_Tree) (by dsimp only [putD, List.set]) ?_) | (refine at_op (some 78) rfl rfl rfl rfl (op_loadPA rfl fagg_api_Tree rfl (by first | decide | simp) rfl) (by dsimp only [putD, List.set]) ?_)
            refine at_op (some 79) rfl rfl rfl rfl (op_call0 rfl rfl rfl rfl (tcompareX_spec a c (by omega) (by omega))) (by dsimp only [putD, List.set]) ?_
            rw [cmpX_small (by omega) (by omega)]
            refine at_op (some 80) rfl rfl rfl rfl (op_binI rfl rfl) (by dsimp only [putD, List.set]) ?_
            rw [gle]
            refine at_pk false 76 80 81 rfl rfl rfl rfl rfl rfl rfl (by dsimp only [List.set]) ?_
            refine at_mv 81 2 rfl rfl rfl (.inr rfl) rfl (by dsimp only [List.set]) ?_
            refine at_end rfl ?_
            refine at_ret rfl (ret_one (t := 2) rfl rfl ?_ rfl)
            rfl
        · dsimp only [List.set] at he; subst he
          refine at_opN (some 70) rfl rfl rfl (by dsimp only [putD, List.set]) ?_
          refine at_opN (some 71) rfl rfl rfl (by dsimp only [putD, List.set]) ?_
          refine at_opN (some 72) rfl rfl rfl (by dsimp only [putD, List.set]) ?_
          refine at_opN (some 73) rfl rfl rfl (by dsimp only [putD, List.set]) ?_
          refine at_pkc false 69 74 rfl rfl rfl rfl rfl rfl (by dsimp only [constD]) (by dsimp only [List.set]) ?_
          refine at_op (some 75) rfl rfl rfl rfl (op_un rfl rfl) (by dsimp only [putD, List.set]) ?_
          refine at_mv 75 76 rfl rfl rfl (.inl rfl) rfl (by dsimp only [List.set]) ?_
          refine at_opN (some 77) rfl rfl rfl (by dsimp only [putD, List.set]) ?_
          refine at_opN (some 78) rfl rfl rfl (by dsimp only [putD, List.set]) ?_
          refine at_opN (some 79) rfl rfl rfl (by dsimp only [putD, List.set]) ?_
          refine at_opN (some 80) rfl rfl rfl (by dsimp only [putD, List.set]) ?_
          refine at_pkc true 76 81 rfl rfl rfl rfl rfl rfl (by dsimp only [constD]) (by dsimp only [List.set]) ?_
          refine at_mv 81 2 rfl rfl rfl (.inr rfl) rfl (by dsimp only [List.set]) ?_
          refine at_end rfl ?_
          refine at_ret rfl (ret_one (t := 2) rfl rfl ?_ rfl)
          rfl
      · dsimp only [List.set] at he; subst he
        refine at_opN (some 56) rfl rfl rfl (by dsimp only [putD, List.set]) ?_
        refine at_opN (some 57) rfl rfl rfl (by dsimp only [putD, List.set]) ?_
        refine at_opN (some 58) rfl rfl rfl (by dsimp only [putD, List.set]) ?_
        refine at_opN (some 59) rfl rfl rfl (by dsimp only [putD, List.set]) ?_
        refine at_opN (some 60) rfl rfl rfl (by dsimp only [putD, List.set]) ?_
        refine at_opN (some 61) rfl rfl rfl (by dsimp only [putD, List.set]) ?_
        refine at_opN (some 62) rfl rfl rfl (by dsimp only [putD, List.set]) ?_
        refine at_opN (some 63) rfl rfl rfl (by dsimp only [putD, List.set]) ?_
        refine at_opN (some 64) rfl rfl rfl (by dsimp only [putD, List.set]) ?_
        refine at_pkc false 55 65 rfl rfl rfl rfl rfl rfl (by dsimp only [constD]) (by dsimp only [List.set]) ?_
        refine at_pk false 52 65 66 rfl rfl rfl rfl rfl rfl rfl (by dsimp only [List.set]) ?_
        refine at_end rfl ?_
        refine at_false [1, 1, 1, 1, 1, 0, 1, 0] [1, 1, 1, 1, 1, 0, 1, 1] rfl rfl ?_
        refine at_skip rfl ?_
        refine at_seq [1, 1, 1, 1, 1, 1, 0] [1, 1, 1, 1, 1, 1, 1] rfl ?_
        refine at_region rfl ?_
        refine at_mv 7 67 rfl rfl rfl (.inl rfl) rfl (by dsimp only [List.set]) ?_
        refine at_op (some 68) rfl rfl rfl rfl (op_binI rfl rfl) (by dsimp only [putD, List.set]) ?_
        refine at_mv 68 69 rfl rfl rfl (.inl rfl) rfl (by dsimp only [List.set]) ?_
        refine at_split 69 rfl (fun hb6 env' he => ?_) (fun hb6 env' he => ?_)
        · dsimp only [List.set] at he; subst he
          have h1 : cmpT a b ≤ 0 := by simpa using hb6
          first | (refine at_op (some 70) rfl rfl rfl rfl (op_loadRA rfl fagg_api_Tree) (by dsimp only [putD, List.set]) ?_) | (refine at_op (some 70) rfl rfl rfl rfl (op_loadPA rfl fagg_api_Tree rfl (by first | decide | simp) rfl) (by dsimp only [putD, List.set]) ?_)
          first | (refine at_op (some 71) rfl rfl rfl rfl (op_loadRA rfl fagg_api_Tree) (by dsimp only [putD, List.set]) ?_) | (refine at_op (some 71) rfl rfl rfl rfl (op_loadPA rfl fagg_api_Tree rfl (by first | decide | simp) rfl) (by dsimp only [putD, List.set]) ?_)
          refine at_op (some 72) rfl rfl rfl rfl (op_call0 rfl rfl rfl rfl (tcompareX_spec b c (by omega) (by omega))) (by dsimp only [putD, List.set]) ?_
          rw [cmpX_small (by omega) (by omega)]
          refine at_op (some 73) rfl rfl rfl rfl (op_binI rfl rfl) (by dsimp only [putD, List.set]) ?_
          refine at_pk true 69 73 74 rfl rfl rfl rfl rfl rfl rfl (by dsimp only [List.set]) ?_
          refine at_op (some 75) rfl rfl rfl rfl (op_un rfl rfl) (by dsimp only [putD, List.set]) ?_
          refine at_mv 75 76 rfl rfl rfl (.inl rfl) rfl (by dsimp only [List.set]) ?_
          refine at_split 76 rfl (fun hb7 env' he => ?_) (fun hb7 env' he => ?_)
          · dsimp only [List.set] at he; subst he
            refine at_opN (some 77) rfl rfl rfl (by dsimp only [putD, List.set]) ?_
            refine at_opN (some 78) rfl rfl rfl (by dsimp only [putD, List.set]) ?_
            refine at_opN (some 79) rfl rfl rfl (by dsimp only [putD, List.set]) ?_
            refine at_opN (some 80) rfl rfl rfl (by dsimp only [putD, List.set]) ?_
            refine at_pkc true 76 81 rfl rfl rfl rfl rfl rfl (by dsimp only [constD]) (by dsimp only [List.set]) ?_
            refine at_mv 81 2 rfl rfl rfl (.inr rfl) rfl (by dsimp only [List.set]) ?_
            refine at_end rfl ?_
            refine at_ret rfl (ret_one (t := 2) rfl rfl ?_ rfl)
            rfl
          · dsimp only [List.set] at he; subst he
            have h2 : cmpT b c ≤ 0 := by simpa using hb7
            have gle : decide (cmpT a c ≤ 0) = true := by simpa using cmpT_trans h1 h2
            first | (refine at_op (some 77) rfl rfl rfl rfl (op_loadRA rfl fagg_api_Tree) (by dsimp only [putD, List.set]) ?_) | (refine at_op (some 77) rfl rfl rfl rfl (op_loadPA rfl fagg_api_Tree rfl (by first | decide | simp) rfl) (by dsimp only [putD, List.set]) ?_)
            first | (refine at_op (some 78) rfl rfl rfl rfl (op_loadRA rfl fagg_api_Tree) (by dsimp only [putD, List.set]) ?_) | (refine at_op (some 78) rfl rfl rfl rfl (op_loadPA rfl fagg_api_Tree rfl (by first | decide | simp) rfl) (by dsimp only [putD, List.set]) ?_)
            refine at_op (some 79) rfl rfl rfl rfl (op_call0 rfl rfl rfl rfl (tcompareX_spec a c (by omega) (by omega))) (by dsimp only [putD, List.set]) ?_
            rw [cmpX_small (by omega) (by omega)]
            refine at_op (some 80) rfl rfl rfl rfl (op_binI rfl rfl) (by dsimp only [putD, List.set]) ?_
            rw [gle]
            refine at_pk false 76 80 81 rfl rfl rfl rfl rfl rfl rfl (by dsimp only [List.set]) ?_
            refine at_mv 81 2 rfl rfl rfl (.inr rfl) rfl (by dsimp only [List.set]) ?_
            refine at_end rfl ?_
            refine at_ret rfl (ret_one (t := 2) rfl rfl ?_ rfl)
            rfl
        · dsimp only [List.set] at he; subst he
          refine at_opN (some 70) rfl rfl rfl (by dsimp only [putD, List.set]) ?_
          refine at_opN (some 71) rfl rfl rfl (by dsimp only [putD, List.set]) ?_
          refine at_opN (some 72) rfl rfl rfl (by dsimp only [putD, List.set]) ?_
          refine at_opN (some 73) rfl rfl rfl (by dsimp only [putD, List.set]) ?_
          refine at_pkc false 69 74 rfl rfl rfl rfl rfl rfl (by dsimp only [constD]) (by dsimp only [List.set]) ?_
          refine at_op (some 75) rfl rfl rfl rfl (op_un rfl rfl) (by dsimp only [putD, List.set]) ?_
          refine at_mv 75 76 rfl rfl rfl (.inl rfl) rfl (by dsimp only [List.set]) ?_
          refine at_opN (some 77) rfl rfl rfl (by dsimp only [putD, List.set]) ?_
          refine at_opN (some 78) rfl rfl rfl (by dsimp only [putD, List.set]) ?_
          refine at_opN (some 79) rfl rfl rfl (by dsimp only [putD, List.set]) ?_
          refine at_opN (some 80) rfl rfl rfl (by dsimp only [putD, List.set]) ?_
          refine at_pkc true 76 81 rfl rfl rfl rfl rfl rfl (by dsimp only [constD]) (by dsimp only [List.set]) ?_
          refine at_mv 81 2 rfl rfl rfl (.inr rfl) rfl (by dsimp only [List.set]) ?_
          refine at_end rfl ?_
          refine at_ret rfl (ret_one (t := 2) rfl rfl ?_ rfl)
          rfl
    · dsimp only [List.set] at he; subst he
      refine at_opN (some 48) rfl rfl rfl (by dsimp only [putD, List.set]) ?_
      refine at_opN (some 49) rfl rfl rfl (by dsimp only [putD, List.set]) ?_
      refine at_pkc false 47 50 rfl rfl rfl rfl rfl rfl (by dsimp only [constD]) (by dsimp only [List.set]) ?_
      refine at_pk false 41 50 51 rfl rfl rfl rfl rfl rfl rfl (by dsimp only [List.set]) ?_
      refine at_mv 51 52 rfl rfl rfl (.inl rfl) rfl (by dsimp only [List.set]) ?_
      refine at_mv 7 53 rfl rfl rfl (.inl rfl) rfl (by dsimp only [List.set]) ?_
      refine at_op (some 54) rfl rfl rfl rfl (op_binI rfl rfl) (by dsimp only [putD, List.set]) ?_
      refine at_mv 54 55 rfl rfl rfl (.inl rfl) rfl (by dsimp only [List.set]) ?_
      refine at_split 55 rfl (fun hb8 env' he => ?_) (fun hb8 env' he => ?_)
      · dsimp only [List.set] at he; subst he
        have hz : cmpT a b = 0 := by simpa using hb8
        have e := cmpT_zero.1 hz
        have g1 := leq_true va vb (by rw [e]; exact emb_refl b)
        have g2 := leq_true vb va (by rw [e]; exact emb_refl b)
        first | (refine at_op (some 56) rfl rfl rfl rfl (op_loadRA rfl fagg_api_Tree) (by dsimp only [putD, List.set]) ?_) | (refine at_op (some 56) rfl rfl rfl rfl (op_loadPA rfl fagg_api_Tree rfl (by first | decide | simp) rfl) (by dsimp only [putD, List.set]) ?_)
        first | (refine at_op (some 57) rfl rfl rfl rfl (op_loadRA rfl fagg_api_Tree) (by dsimp only [putD, List.set]) ?_) | (refine at_op (some 57) rfl rfl rfl rfl (op_loadPA rfl fagg_api_Tree rfl (by first | decide | simp) rfl) (by dsimp only [putD, List.set]) ?_)
        refine at_op (some 58) rfl rfl rfl rfl (op_call0 rfl rfl rfl rfl (tleq_spec a b (by omega) (by omega))) (by dsimp only [putD, List.set]) ?_
        rw [g1]
        refine at_mv 58 59 rfl rfl rfl (.inl rfl) rfl (by dsimp only [List.set]) ?_
        first | (refine at_op (some 60) rfl rfl rfl rfl (op_loadRA rfl fagg_api_Tree) (by dsimp only [putD, List.set]) ?_) | (refine at_op (some 60) rfl rfl rfl rfl (op_loadPA rfl fagg_api_Tree rfl (by first | decide | simp) rfl) (by dsimp only [putD, List.set]) ?_)
        first | (refine at_op (some 61) rfl rfl rfl rfl (op_loadRA rfl fagg_api_Tree) (by dsimp only [putD, List.set]) ?_) | (refine at_op (some 61) rfl rfl rfl rfl (op_loadPA rfl fagg_api_Tree rfl (by first | decide | simp) rfl) (by dsimp only [putD, List.set]) ?_)
        refine at_op (some 62) rfl rfl rfl rfl (op_call0 rfl rfl rfl rfl (tleq_spec b a (by omega) (by omega))) (by dsimp only [putD, List.set]) ?_
        rw [g2]
        refine at_pk true 59 62 63 rfl rfl rfl rfl rfl rfl rfl (by dsimp only [List.set]) ?_
        refine at_op (some 64) rfl rfl rfl rfl (op_un rfl rfl) (by dsimp only [putD, List.set]) ?_
        refine at_pk true 55 64 65 rfl rfl rfl rfl rfl rfl rfl (by dsimp only [List.set]) ?_
        refine at_pk false 52 65 66 rfl rfl rfl rfl rfl rfl rfl (by dsimp only [List.set]) ?_
        refine at_end rfl ?_
        refine at_false [1, 1, 1, 1, 1, 0, 1, 0] [1, 1, 1, 1, 1, 0, 1, 1] rfl rfl ?_
        refine at_skip rfl ?_
        refine at_seq [1, 1, 1, 1, 1, 1, 0] [1, 1, 1, 1, 1, 1, 1] rfl ?_
        refine at_region rfl ?_
        refine at_mv 7 67 rfl rfl rfl (.inl rfl) rfl (by dsimp only [List.set]) ?_
        refine at_op (some 68) rfl rfl rfl rfl (op_binI rfl rfl) (by dsimp only [putD, List.set]) ?_
        refine at_mv 68 69 rfl rfl rfl (.inl rfl) rfl (by dsimp only [List.set]) ?_
        refine at_split 69 rfl (fun hb9 env' he => ?_) (fun hb9 env' he => ?_)
        · dsimp only [List.set] at he; subst he
          have h1 : cmpT a b ≤ 0 := by simpa using hb9
          first | (refine at_op (some 70) rfl rfl rfl rfl (op_loadRA rfl fagg_api_Tree) (by dsimp only [putD, List.set]) ?_) | (refine at_op (some 70) rfl rfl rfl rfl (op_loadPA rfl fagg_api_Tree rfl (by first | decide | simp) rfl) (by dsimp only [putD, List.set]) ?_)
          first | (refine at_op (some 71) rfl rfl rfl rfl (op_loadRA rfl fagg_api_Tree) (by dsimp only [putD, List.set]) ?_) | (refine at_op (some 71) rfl rfl rfl rfl (op_loadPA rfl fagg_api_Tree rfl (by first | decide | simp) rfl) (by dsimp only [putD, List.set]) ?_)
          refine at_op (some 72) rfl rfl rfl rfl (op_call0 rfl rfl rfl rfl (tcompareX_spec b c (by omega) (by omega))) (by dsimp only [putD, List.set]) ?_
          rw [cmpX_small (by omega) (by omega)]
          refine at_op (some 73) rfl rfl rfl rfl (op_binI rfl rfl) (by dsimp only [putD, List.set]) ?_
          refine at_pk true 69 73 74 rfl rfl rfl rfl rfl rfl rfl (by dsimp only [List.set]) ?_
          refine at_op (some 75) rfl rfl rfl rfl (op_un rfl rfl) (by dsimp only [putD, List.set]) ?_
          refine at_mv 75 76 rfl rfl rfl (.inl rfl) rfl (by dsimp only [List.set]) ?_
          refine at_split 76 rfl (fun hb10 env' he => ?_) (fun hb10 env' he => ?_)
          · dsimp only [List.set] at he; subst he
            refine at_opN (some 77) rfl rfl rfl (by dsimp only [putD, List.set]) ?_
            refine at_opN (some 78) rfl rfl rfl (by dsimp only [putD, List.set]) ?_
            refine at_opN (some 79) rfl rfl rfl (by dsimp only [putD, List.set]) ?_
            refine at_opN (some 80) rfl rfl rfl (by dsimp only [putD, List.set]) ?_
            refine at_pkc true 76 81 rfl rfl rfl rfl rfl rfl (by dsimp only [constD]) (by dsimp only [List.set]) ?_
            refine at_mv 81 2 rfl rfl rfl (.inr rfl) rfl (by dsimp only [List.set]) ?_
            refine at_end rfl ?_
            refine at_ret rfl (ret_one (t := 2) rfl rfl ?_ rfl)
            rfl
          · dsimp only [List.set] at he; subst he
            have h2 : cmpT b c ≤ 0 := by simpa using hb10
            have gle : decide (cmpT a c ≤ 0) = true := by simpa using cmpT_trans h1 h2
            first | (refine at_op (some 77) rfl rfl rfl rfl (op_loadRA rfl fagg_api_Tree) (by dsimp only [putD, List.set]) ?_) | (refine at_op (some 77) rfl rfl rfl rfl (op_loadPA rfl fagg_api_Tree rfl (by first | decide | simp) rfl) (by dsimp only [putD, List.set]) ?_)
            first | (refine at_op (some 78) rfl rfl rfl rfl (op_loadRA rfl fagg_api_Tree) (by dsimp only [putD, List.set]) ?_) | (refine at_op (some 78) rfl rfl rfl rfl (op_loadPA rfl fagg_api_Tree rfl (by first | decide | simp) rfl) (by dsimp only [putD, List.set]) ?_)
            refine at_op (some 79) rfl rfl rfl rfl (op_call0 rfl rfl rfl rfl (tcompareX_spec a c (by omega) (by omega))) (by dsimp only [putD, List.set]) ?_
            rw [cmpX_small (by omega) (by omega)]
            refine at_op (some 80) rfl rfl rfl rfl (op_binI rfl rfl) (by dsimp only [putD, List.set]) ?_
            rw [gle]
            refine at_pk false 76 80 81 rfl rfl rfl rfl rfl rfl rfl (by dsimp only [List.set]) ?_
            refine at_mv 81 2 rfl rfl rfl (.inr rfl) rfl (by dsimp only [List.set]) ?_
            refine at_end rfl ?_
            refine at_ret rfl (ret_one (t := 2) rfl rfl ?_ rfl)
            rfl
        · dsimp only [List.set] at he; subst he
          refine at_opN (some 70) rfl rfl rfl (by dsimp only [putD, List.set]) ?_
          refine at_opN (some 71) rfl rfl rfl (by dsimp only [putD, List.set]) ?_
          refine at_opN (some 72) rfl rfl rfl (by dsimp only [putD, List.set]) ?_
          refine at_opN (some 73) rfl rfl rfl (by dsimp only [putD, List.set]) ?_
          refine at_pkc false 69 74 rfl rfl rfl rfl rfl rfl (by dsimp only [constD]) (by dsimp only [List.set]) ?_
          refine at_op (some 75) rfl rfl rfl rfl (op_un rfl rfl) (by dsimp only [putD, List.set]) ?_
          refine at_mv 75 76 rfl rfl rfl (.inl rfl) rfl (by dsimp only [List.set]) ?_
          refine at_opN (some 77) rfl rfl rfl (by dsimp only [putD, List.set]) ?_
          refine at_opN (some 78) rfl rfl rfl (by dsimp only [putD, List.set]) ?_
          refine at_opN (some 79) rfl rfl rfl (by dsimp only [putD, List.set]) ?_
          refine at_opN (some 80) rfl rfl rfl (by dsimp only [putD, List.set]) ?_
          refine at_pkc true 76 81 rfl rfl rfl rfl rfl rfl (by dsimp only [constD]) (by dsimp only [List.set]) ?_
          refine at_mv 81 2 rfl rfl rfl (.inr rfl) rfl (by dsimp only [List.set]) ?_
          refine at_end rfl ?_
          refine at_ret rfl (ret_one (t := 2) rfl rfl ?_ rfl)
          rfl
      · dsimp only [List.set] at he; subst he
        refine at_opN (some 56) rfl rfl rfl (by dsimp only [putD, List.set]) ?_
        refine at_opN (some 57) rfl rfl rfl (by dsimp only [putD, List.set]) ?_
        refine at_opN (some 58) rfl rfl rfl (by dsimp only [putD, List.set]) ?_
        refine at_opN (some 59) rfl rfl rfl (by dsimp only [putD, List.set]) ?_
        refine at_opN (some 60) rfl rfl rfl (by dsimp only [putD, List.set]) ?_
        refine at_opN (some 61) rfl rfl rfl (by dsimp only [putD, List.set]) ?_
        refine at_opN (some 62) rfl rfl rfl (by dsimp only [putD, List.set]) ?_
        refine at_opN (some 63) rfl rfl rfl (by dsimp only [putD, List.set]) ?_
        refine at_opN (some 64) rfl rfl rfl (by dsimp only [putD, List.set]) ?_
        refine at_pkc false 55 65 rfl rfl rfl rfl rfl rfl (by dsimp only [constD]) (by dsimp only [List.set]) ?_
        refine at_pk false 52 65 66 rfl rfl rfl rfl rfl rfl rfl (by dsimp only [List.set]) ?_
        refine at_end rfl ?_
        refine at_false [1, 1, 1, 1, 1, 0, 1, 0] [1, 1, 1, 1, 1, 0, 1, 1] rfl rfl ?_
        refine at_skip rfl ?_
        refine at_seq [1, 1, 1, 1, 1, 1, 0] [1, 1, 1, 1, 1, 1, 1] rfl ?_
        refine at_region rfl ?_
        refine at_mv 7 67 rfl rfl rfl (.inl rfl) rfl (by dsimp only [List.set]) ?_
        refine at_op (some 68) rfl rfl rfl rfl (op_binI rfl rfl) (by dsimp only [putD, List.set]) ?_
        refine at_mv 68 69 rfl rfl rfl (.inl rfl) rfl (by dsimp only [List.set]) ?_
        refine at_split 69 rfl (fun hb11 env' he => ?_) (fun hb11 env' he => ?_)
        · dsimp only [List.set] at he; subst he
          have h1 : cmpT a b ≤ 0 := by simpa using hb11
          first | (refine at_op (some 70) rfl rfl rfl rfl (op_loadRA rfl fagg_api_Tree) (by dsimp only [putD, List.set]) ?_) | (refine at_op (some 70) rfl rfl rfl rfl (op_loadPA rfl fagg_api_Tree rfl (by first | decide | simp) rfl) (by dsimp only [putD, List.set]) ?_)
          first | (refine at_op (some 71) rfl rfl rfl rfl (op_loadRA rfl fagg_api_Tree) (by dsimp only [putD, List.set]) ?_) | (refine at_op (some 71) rfl rfl rfl rfl (op_loadPA rfl fagg_api_Tree rfl (by first | decide | simp) rfl) (by dsimp only [putD, List.set]) ?_)
          refine at_op (some 72) rfl rfl rfl rfl (op_call0 rfl rfl rfl rfl (tcompareX_spec b c (by omega) (by omega))) (by dsimp only [putD, List.set]) ?_
          rw [cmpX_small (by omega) (by omega)]
          refine at_op (some 73) rfl rfl rfl rfl (op_binI rfl rfl) (by dsimp only [putD, List.set]) ?_
          refine at_pk true 69 73 74 rfl rfl rfl rfl rfl rfl rfl (by dsimp only [List.set]) ?_
          refine at_op (some 75) rfl rfl rfl rfl (op_un rfl rfl) (by dsimp only [putD, List.set]) ?_
          refine at_mv 75 76 rfl rfl rfl (.inl rfl) rfl (by dsimp only [List.set]) ?_
          refine at_split 76 rfl (fun hb12 env' he => ?_) (fun hb12 env' he => ?_)
          · dsimp only [List.set] at he; subst he
            refine at_opN (some 77) rfl rfl rfl (by dsimp only [putD, List.set]) ?_
            refine at_opN (some 78) rfl rfl rfl (by dsimp only [putD, List.set]) ?_
            refine at_opN (some 79) rfl rfl rfl (by dsimp only [putD, List.set]) ?_
            refine at_opN (some 80) rfl rfl rfl (by dsimp only [putD, List.set]) ?_
            refine at_pkc true 76 81 rfl rfl rfl rfl rfl rfl (by dsimp only [constD]) (by dsimp only [List.set]) ?_
            refine at_mv 81 2 rfl rfl rfl (.inr rfl) rfl (by dsimp only [List.set]) ?_
            refine at_end rfl ?_
            refine at_ret rfl (ret_one (t := 2) rfl rfl ?_ rfl)
            rfl
          · dsimp only [List.set] at he; subst he
            have h2 : cmpT b c ≤ 0 := by simpa using hb12
            have gle : decide (cmpT a c ≤ 0) = true := by simpa using cmpT_trans h1 h2
            first | (refine at_op (some 77) rfl rfl rfl rfl (op_loadRA rfl fagg_api_Tree) (by dsimp only [putD, List.set]) ?_) | (refine at_op (some 77) rfl rfl rfl rfl (op_loadPA rfl fagg_api_Tree rfl (by first | decide | simp) rfl) (by dsimp only [putD, List.set]) ?_)
            first | (refine at_op (some 78) rfl rfl rfl rfl (op_loadRA rfl fagg_api_Tree) (by dsimp only [putD, List.set]) ?_) | (refine at_op (some 78) rfl rfl rfl rfl (op_loadPA rfl fagg_api_Tree rfl (by first | decide | simp) rfl) (by dsimp only [putD, List.set]) ?_)
            refine at_op (some 79) rfl rfl rfl rfl (op_call0 rfl rfl rfl rfl (tcompareX_spec a c (by omega) (by omega))) (by dsimp only [putD, List.set]) ?_
            rw [cmpX_small (by omega) (by omega)]
            refine at_op (some 80) rfl rfl rfl rfl (op_binI rfl rfl) (by dsimp only [putD, List.set]) ?_
            rw [gle]
            refine at_pk false 76 80 81 rfl rfl rfl rfl rfl rfl rfl (by dsimp only [List.set]) ?_
            refine at_mv 81 2 rfl rfl rfl (.inr rfl) rfl (by dsimp only [List.set]) ?_
            refine at_end rfl ?_
            refine at_ret rfl (ret_one (t := 2) rfl rfl ?_ rfl)
            rfl
        · dsimp only [List.set] at he; subst he
          refine at_opN (some 70) rfl rfl rfl (by dsimp only [putD, List.set]) ?_
          refine at_opN (some 71) rfl rfl rfl (by dsimp only [putD, List.set]) ?_
          refine at_opN (some 72) rfl rfl rfl (by dsimp only [putD, List.set]) ?_
          refine at_opN (some 73) rfl rfl rfl (by dsimp only [putD, List.set]) ?_
          refine at_pkc false 69 74 rfl rfl rfl rfl rfl rfl (by dsimp only [constD]) (by dsimp only [List.set]) ?_
          refine at_op (some 75) rfl rfl rfl rfl (op_un rfl rfl) (by dsimp only [putD, List.set]) ?_
          refine at_mv 75 76 rfl rfl rfl (.inl rfl) rfl (by dsimp only [List.set]) ?_
          refine at_opN (some 77) rfl rfl rfl (by dsimp only [putD, List.set]) ?_
          refine at_opN (some 78) rfl rfl rfl (by dsimp only [putD, List.set]) ?_
          refine at_opN (some 79) rfl rfl rfl (by dsimp only [putD, List.set]) ?_
          refine at_opN (some 80) rfl rfl rfl (by dsimp only [putD, List.set]) ?_
          refine at_pkc true 76 81 rfl rfl rfl rfl rfl rfl (by dsimp only [constD]) (by dsimp only [List.set]) ?_
          refine at_mv 81 2 rfl rfl rfl (.inr rfl) rfl (by dsimp only [List.set]) ?_
          refine at_end rfl ?_
          refine at_ret rfl (ret_one (t := 2) rfl rfl ?_ rfl)
          rfl

end Go.Proofs.Ytoofgniepbidnaa
