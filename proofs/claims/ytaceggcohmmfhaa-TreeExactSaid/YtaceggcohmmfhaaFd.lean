/-
  The deck deals trees, walked.
-/
import Derived.Test.YtaceggcohmmfhaaFc
import Derived.Test.YtaceggcohmmfhaaFa
import Derived.Below
namespace Go.Proofs.Ytaceggcohmmfhaa
open Go.Dv Tr

mutual
def treeM (l : List Int) (lb : Int) : Nat → Nat → Nat × Int → Tr × (Nat × Int)
  | 0, _, s => (.mk 0 [], s)
  | n + 1, most, s => (.mk (nextV lb (dn l s).2) (kidsM l lb n (most - 1) (dn l s)).1, (kidsM l lb n (most - 1) (dn l s)).2)
def kidsM (l : List Int) (lb : Int) : Nat → Nat → Nat × Int → List Tr × (Nat × Int)
  | 0, _, s => ([], s)
  | n + 1, left, s =>
    if left = 0 then ([], s)
    else if nextV 3 (dn l s).2 == 0 then ([], dn l s)
    else
      let k := 1 + (nextV left (dn l (dn l s)).2).toNat
      let r := treeM l lb n k (dn l (dn l s))
      (r.1 :: (kidsM l lb n (left - k) r.2).1, (kidsM l lb n (left - k) r.2).2)
end
/-- labels within a range -/
inductive LabIn (lb : Int) : Tr → Prop
  | mk {x : Int} {ks : List Tr} (h : 0 ≤ x ∧ x < lb) (hk : ∀ k ∈ ks, LabIn lb k) : LabIn lb (.mk x ks)
theorem treeM_ok (l : List Int) (lb : Int) (hlb : 1 ≤ lb) : ∀ n : Nat, (∀ most s, 1 ≤ most → (treeM l lb n most s).1.size ≤ most ∧ LabIn lb (treeM l lb n most s).1) ∧ (∀ left s, szl (kidsM l lb n left s).1 ≤ left ∧ ∀ k ∈ (kidsM l lb n left s).1, LabIn lb k)
  | 0 => ⟨fun most s h => by simp [treeM, size, szl]; exact ⟨h, .mk ⟨by omega, by omega⟩ (by simp)⟩, fun left s => by simp [kidsM, szl]⟩
  | n + 1 => by
    obtain ⟨ih1, ih2⟩ := treeM_ok l lb hlb n
    refine ⟨fun most s h => ?_, fun left s => ?_⟩
    · simp only [treeM, size]
      have := ih2 (most - 1) (dn l s)
      exact ⟨by omega, .mk (nextV_range hlb) this.2⟩
    · simp only [kidsM]
      split
      · simp [szl]
      · split
        · simp [szl]
        · rename_i h0 _
          have hr := nextV_range (n := (left : Int)) (s := (dn l (dn l s)).2) (by omega)
          have h1 := ih1 (1 + (nextV left (dn l (dn l s)).2).toNat) (dn l (dn l s)) (by omega)
          have h2 := ih2 (left - (1 + (nextV left (dn l (dn l s)).2).toNat)) (treeM l lb n (1 + (nextV left (dn l (dn l s)).2).toNat) (dn l (dn l s))).2
          simp only [szl_cons, List.mem_cons]
          refine ⟨by omega, ?_⟩
          rintro k (rfl | hk)
          · exact h1.2
          · exact h2.2 k hk
abbrev trSt (l : List Int) (s : Nat × Int) (lab : Int) (acc : List Tr) : St := ⟨[some (dk l s.1 s.2), some [di 0, .v (.list [])], some [di lab, .acc 1 (acc.map vt)]], [(1, 2, acc.map vt)]⟩
theorem ret_tree {P : Program} {fn : Func} {env : List D} {l : List Int} {s : Nat × Int} {t : Tr} {c : Option (List D)} {own : List (Nat × Nat × List V)} {ty : TypeId} (hr : fn.results.toList = [.cell 6 ty]) (ht : AggTy P ty 2) (he : env[6]? = some (.ptr 1 0)) :
    ResOK P fn env ⟨[some (dk l s.1 s.2), some [di t.lab, .v (vtl t.kids)], c], own⟩ (dt t) (σd l s.1 s.2) := by
  refine res_ok (ds := [dt t]) ?_ rfl 1 rfl (by simp) (fun i cs hi => ?_) (by simp) rfl
  · rw [hr]; exact .cellA (n := 2) (cs := [di t.lab, .v (vtl t.kids)]) he rfl ht (by simp) rfl .nil
  · match i, hi with
    | 0, hi => simp at hi; subst hi; rfl
    | i + 1, hi => simp at hi

noncomputable def cTree : Code := Try.f8.body.getD .skip
set_option maxRecDepth 20000 in
theorem tree_loop (l : List Int) (hs : l.length ≤ 1000000) (lb : Int) (hlb : 1 ≤ lb) (N : Nat) (ih : ∀ n, n < N → ∀ (m : Nat) (s : Nat × Int), 1 ≤ m → m ≤ 1000000 → 2 * m ≤ n → FSpec PP 8 [.ptr 0 0, di lb, di ↑m] (σd l (s).1 (s).2) (dt (treeM l lb n m s).1) (σd l (treeM l lb n m s).2.1 (treeM l lb n m s).2.2)) (lab : Int) (T : Tr × (Nat × Int)) (n : Nat) : ∀ (left : Nat) (s : Nat × Int) (acc : List Tr), n < N → 2 * left + 1 ≤ n → left ≤ 1000000 → acc.length + left ≤ 1000000 → T = (.mk lab (acc ++ (kidsM l lb n left s).1), (kidsM l lb n left s).2) → Run PP (fun env σ1 => ResOK PP Try.f8 env σ1 (dt T.1) (σd l T.2.1 T.2.2)) [.lp (sub cTree [1, 1, 1, 0, 0, 0]), .blk 0, .code (sub cTree [1, 1, 1, 1])] ((.ptr 0 0) :: (di lb) :: .undef :: .undef :: .undef :: .undef :: (.ptr 1 0) :: (.ptr 2 0) :: (di ↑left) :: .undef :: .undef :: .undef :: .undef :: .undef :: .undef :: .undef :: .undef :: .undef :: .undef :: .undef :: .undef :: .undef :: .undef :: .undef :: .undef :: .undef :: .undef :: .undef :: .undef :: .undef :: .undef :: .undef :: .undef :: .undef :: .undef :: .undef :: .undef :: .undef :: .undef :: .undef :: []) (trSt l s lab acc) := by
  induction n with
  | zero => intro left s acc hN hf; omega
  | succ n ihn =>
    intro left s acc hN hf hl hal hT
    simp only [kidsM] at hT
    refine run_lp ?_
    refine at_seq [1, 1, 1, 0, 0, 0, 0] [1, 1, 1, 0, 0, 0, 1] rfl ?_
    refine at_seq [1, 1, 1, 0, 0, 0, 0, 0] [1, 1, 1, 0, 0, 0, 0, 1] rfl ?_
    refine at_region rfl ?_
    refine at_mv 8 16 rfl rfl rfl (.inl rfl) rfl (by dsimp only [List.set]) ?_
    refine at_op (some 17) rfl rfl rfl rfl (op_binI rfl rfl) (by dsimp only [putD, List.set]) ?_
    refine at_mv 17 18 rfl rfl rfl (.inl rfl) rfl (by dsimp only [List.set]) ?_
    refine at_split 18 rfl (fun hb1 env' he => ?_) (fun hb1 env' he => ?_)
    · dsimp only [List.set] at he; subst he
      have hpos : 1 ≤ left := by simp at hb1; omega
      rw [if_neg (by omega)] at hT
      refine at_mv 0 19 rfl rfl rfl (.inl rfl) rfl (by dsimp only [List.set]) ?_
      refine at_opS (some 20) rfl rfl rfl rfl (op_call1 rfl rfl rfl rfl rfl (.ptr (.pl rfl .nil)) rfl (one_spec l _ _ hs _ (by omega))) (by dsimp only [putD, List.set]) (by dsimp only [List.set, List.append, List.cons_append, List.nil_append, cellsD, List.map, repl, List.length, Nat.reduceAdd, if_true, ↓reduceIte]; first | done | rfl) ?_
      refine at_op (some 21) rfl rfl rfl rfl (op_un rfl rfl) (by dsimp only [putD, List.set]) ?_
      refine at_pk true 18 21 22 rfl rfl rfl rfl rfl rfl rfl (by dsimp only [List.set]) ?_
      refine at_end rfl ?_
      refine at_cond [1, 1, 1, 0, 0, 0, 0, 1, 0] [1, 1, 1, 0, 0, 0, 0, 1, 1] rfl rfl (fun hc2 => ?_) (fun hc2 => ?_)
      · skip
        have h3 : (nextV 3 (dn l s).2 == 0) = false := by simpa [dn] using hc2
        rw [if_neg (by rw [h3]; simp)] at hT
        have hr := nextV_range (n := (left : Int)) (s := (dn l (dn l s)).2) (by omega)
        obtain ⟨k0, hk0⟩ := Int.eq_ofNat_of_zero_le hr.1
        rw [hk0] at hT hr
        rw [Int.toNat_natCast] at hT
        refine at_skip rfl ?_
        refine at_block [1, 1, 1, 0, 0, 0, 1, 0] 1 rfl ?_
        refine at_seq [1, 1, 1, 0, 0, 0, 1, 0, 0] [1, 1, 1, 0, 0, 0, 1, 0, 1] rfl ?_
        refine at_region rfl ?_
        refine at_mv 0 23 rfl rfl rfl (.inl rfl) rfl (by dsimp only [List.set]) ?_
        refine at_mv 8 24 rfl rfl rfl (.inl rfl) rfl (by dsimp only [List.set]) ?_
        refine at_opS (some 25) rfl rfl rfl rfl (op_call1 rfl rfl rfl rfl rfl (.ptr (.pl rfl .nil)) rfl (next_spec l _ _ hs _ (by omega))) (by dsimp only [putD, List.set]) (by dsimp only [List.set, List.append, List.cons_append, List.nil_append, cellsD, List.map, repl, List.length, Nat.reduceAdd, if_true, ↓reduceIte]; first | done | rfl) ?_
        rw [show nextV ↑left (dkSt l (dkAt l s.1) (dkSt l s.1 s.2)) = (k0 : Int) from hk0]
        refine at_op (some 26) rfl rfl rfl rfl (op_binI rfl rfl) (by dsimp only [putD, List.set]) ?_
        rw [wrap_id (by omega) (by omega), show (1 : Int) + (k0 : Int) = ((1 + k0 : Nat) : Int) by omega]
        generalize hkk : 1 + k0 = k at hT ⊢
        have ih1 := ih n (by omega) k (dn l (dn l s)) (by omega) (by omega) (by omega)
        generalize hr1 : treeM l lb n k (dn l (dn l s)) = r at hT ih1
        refine at_mv 26 9 rfl rfl rfl (.inr rfl) rfl (by dsimp only [List.set]) ?_
        refine at_end rfl ?_
        refine at_seq [1, 1, 1, 0, 0, 0, 1, 0, 1, 0] [1, 1, 1, 0, 0, 0, 1, 0, 1, 1] rfl ?_
        refine at_draw mixed rfl [trSt l (dn l (dn l s)) lab acc, trSt l r.2 lab acc, ⟨(trSt l r.2 lab acc).H, [(1, 2, acc.map vt ++ [.agg [vi r.1.lab, vtl r.1.kids]])]⟩, ⟨[some (dk l r.2.1 r.2.2), some [di 0, .v (.list [])], some [di lab, .acc 1 (acc.map vt ++ [.agg [vi r.1.lab, vtl r.1.kids]])]], [(1, 2, acc.map vt ++ [.agg [vi r.1.lab, vtl r.1.kids]])]⟩] rfl ?_
        first | (refine da_quiet (some 27) rfl rfl rfl rfl (fun s hs => op_fieldP rfl ffld1_api_Tree (by decide)) (by dsimp only [putD, List.set]) ?_) | (refine da_quiet (some 27) rfl rfl rfl rfl (fun s hs => op_fieldR rfl ffld1_api_Tree (by decide) (by decide) rfl) (by dsimp only [putD, List.set]) ?_)
        refine da_quietW 2 (some 28) rfl rfl rfl rfl (by intro s hs; simp only [List.take_succ_cons, List.take_zero, List.mem_cons, List.not_mem_nil, or_false] at hs; rcases hs with rfl | rfl | rfl <;> exact op_loadP1 rfl fone_Sapi_Tree rfl rfl) (by dsimp only [putD, List.set]) ?_
        refine da_mv 0 29 rfl rfl rfl (.inl rfl) rfl (by dsimp only [List.set]) ?_
        refine da_mv 1 30 rfl rfl rfl (.inl rfl) rfl (by dsimp only [List.set]) ?_
        refine da_mv 9 31 rfl rfl rfl (.inl rfl) rfl (by dsimp only [List.set]) ?_
        refine da_eff (some 32) rfl rfl rfl rfl rfl rfl (op_call1 rfl rfl rfl rfl rfl (.ptr (.pl rfl (.pl rfl .nil))) rfl ih1) (by dsimp only [putD, List.set]) ?_
        refine da_quiet (some 33) rfl rfl rfl rfl (fun s hs => op_buildSlice rfl (by rfl) (by rfl) fsl_Sapi_Tree rfl rfl (by simp [V.size]) (by decide) (by decide) (by decide)) (by dsimp only [putD, List.set]) ?_
        refine da_eff (some 34) rfl rfl rfl rfl rfl rfl (op_append rfl fsl_Sapi_Tree rfl (by simp) (by simp [V.size, vt_eq]) (by simp; omega) (by simp; omega)) (by dsimp only [putD, List.set]) ?_
        first | (refine da_quiet (some 35) rfl rfl rfl rfl (fun s hs => op_fieldP rfl ffld1_api_Tree (by decide)) (by dsimp only [putD, List.set]) ?_) | (refine da_quiet (some 35) rfl rfl rfl rfl (fun s hs => op_fieldR rfl ffld1_api_Tree (by decide) (by decide) rfl) (by dsimp only [putD, List.set]) ?_)
        refine da_st1 35 (.tmp 34) rfl rfl rfl rfl rfl rfl rfl (ev_tmp rfl) rfl fone_Sapi_Tree rfl (by first | decide | simp | (simp; omega)) (by first | rfl | (dsimp only [List.set, List.append, List.cons_append, List.nil_append, cellsD, List.map, repl, List.length, Nat.reduceAdd, if_true, ↓reduceIte]; first | done | rfl)) ?_
        refine da_end rfl ⟨by decide +kernel, _, rfl, ?_⟩
        rw [← vt_eq, show acc.map vt ++ [vt r.1] = (acc ++ [r.1]).map vt from by simp]
        refine at_region rfl ?_
        refine at_mv 8 36 rfl rfl rfl (.inl rfl) rfl (by dsimp only [List.set]) ?_
        refine at_mv 9 37 rfl rfl rfl (.inl rfl) rfl (by dsimp only [List.set]) ?_
        refine at_op (some 38) rfl rfl rfl rfl (op_binI rfl rfl) (by dsimp only [putD, List.set]) ?_
        rw [wrap_id (by omega) (by omega), show (left : Int) - (k : Int) = ((left - k : Nat) : Int) by omega]
        refine at_mv 38 8 rfl rfl rfl (.inr rfl) rfl (by dsimp only [List.set]) ?_
        refine at_end rfl ?_
        refine run_blk ?_
        exact run_wk (.keep (.keep (.drop (.drop (.drop (.drop (.keep (.keep (.keep (.drop (.drop (.drop (.drop (.drop (.drop (.drop (.drop (.drop (.drop (.drop (.drop (.drop (.drop (.drop (.drop (.drop (.drop (.drop (.drop (.drop (.drop (.drop (.drop (.drop (.drop (.drop (.drop (.drop (.drop (.drop .nil)))))))))))))))))))))))))))))))))))))))) (ihn (left - k) r.2 (acc ++ [r.1]) (by omega) (by omega) (by omega) (by simp; omega) (by rw [hT]; simp))
      · skip
        have h3 : (nextV 3 (dn l s).2 == 0) = true := by simpa [dn] using hc2
        rw [if_pos h3] at hT
        simp only [List.append_nil] at hT
        refine at_exit rfl rfl ?_
        refine at_seq [1, 1, 1, 1, 0] [1, 1, 1, 1, 1] rfl ?_
        refine at_region rfl ?_
        first | (refine at_op (some 39) rfl rfl rfl rfl (op_loadRA rfl fagg_api_Tree) (by dsimp only [putD, List.set]) ?_) | (refine at_op (some 39) rfl rfl rfl rfl (op_loadPA rfl fagg_api_Tree rfl (by first | decide | simp) rfl) (by dsimp only [putD, List.set]) ?_)
        refine at_stA 6 (.tmp 39) rfl rfl rfl rfl rfl (ev_tmp rfl) rfl fagg_api_Tree rfl rfl (by first | decide | simp | (simp; omega)) (by dsimp only [List.set, List.append, List.cons_append, List.nil_append, cellsD, List.map, repl, List.length, Nat.reduceAdd, if_true, ↓reduceIte]; first | done | rfl) ?_
        refine at_end rfl ?_
        refine at_ret rfl ?_
        rw [hT]
        first | (refine ret_tree (l := l) (s := s) (t := .mk lab acc) ?_ fagg_api_Tree ?_ <;> rfl) | (refine ret_tree (l := l) (s := dn l s) (t := .mk lab acc) ?_ fagg_api_Tree ?_ <;> rfl)
    · dsimp only [List.set] at he; subst he
      have hz : left = 0 := by simp at hb1; omega
      rw [if_pos hz] at hT
      simp only [List.append_nil] at hT
      refine at_opN (some 19) rfl rfl rfl (by dsimp only [putD, List.set]) ?_
      refine at_opN (some 20) rfl rfl rfl (by dsimp only [putD, List.set]) ?_
      refine at_opN (some 21) rfl rfl rfl (by dsimp only [putD, List.set]) ?_
      refine at_pkc false 18 22 rfl rfl rfl rfl rfl rfl (by dsimp only [constD]) (by dsimp only [List.set]) ?_
      refine at_end rfl ?_
      refine at_false [1, 1, 1, 0, 0, 0, 0, 1, 0] [1, 1, 1, 0, 0, 0, 0, 1, 1] rfl rfl ?_
      refine at_exit rfl rfl ?_
      refine at_seq [1, 1, 1, 1, 0] [1, 1, 1, 1, 1] rfl ?_
      refine at_region rfl ?_
      first | (refine at_op (some 39) rfl rfl rfl rfl (op_loadRA rfl fagg_api_Tree) (by dsimp only [putD, List.set]) ?_) | (refine at_op (some 39) rfl rfl rfl rfl (op_loadPA rfl fagg_api_Tree rfl (by first | decide | simp) rfl) (by dsimp only [putD, List.set]) ?_)
      refine at_stA 6 (.tmp 39) rfl rfl rfl rfl rfl (ev_tmp rfl) rfl fagg_api_Tree rfl rfl (by first | decide | simp | (simp; omega)) (by dsimp only [List.set, List.append, List.cons_append, List.nil_append, cellsD, List.map, repl, List.length, Nat.reduceAdd, if_true, ↓reduceIte]; first | done | rfl) ?_
      refine at_end rfl ?_
      refine at_ret rfl ?_
      rw [hT]
      first | (refine ret_tree (l := l) (s := s) (t := .mk lab acc) ?_ fagg_api_Tree ?_ <;> rfl) | (refine ret_tree (l := l) (s := dn l s) (t := .mk lab acc) ?_ fagg_api_Tree ?_ <;> rfl)

set_option maxRecDepth 20000 in
theorem tree_ok (l : List Int) (hs : l.length ≤ 1000000) (lb : Int) (hlb : 1 ≤ lb) (N : Nat) : ∀ (m : Nat) (s : Nat × Int), 1 ≤ m → m ≤ 1000000 → 2 * m ≤ N → FSpec PP 8 [.ptr 0 0, di lb, di ↑m] (σd l (s).1 (s).2) (dt (treeM l lb N m s).1) (σd l (treeM l lb N m s).2.1 (treeM l lb N m s).2.2) := by
  induction N using Nat.strongRecOn with
  | _ N ih =>
  intro m s h1 hm hN
  obtain ⟨n, rfl⟩ : ∃ n, N = n + 1 := ⟨N - 1, by omega⟩
  refine spec_at cTree Try.func8 rfl (by kernel_rfl) (by first | decide | simp) _ (by dsimp only [Try.f8, List.length, Nat.reduceAdd, Nat.reduceSub, List.replicate, List.cons_append, List.nil_append]) ?_
  refine at_seq [0] [1] rfl ?_
  refine at_region rfl ?_
  refine at_opS (some 6) rfl rfl rfl rfl (op_alloc rfl fzero_api_Tree) (by dsimp only [putD, List.set]) (by dsimp only [List.set, List.append, List.cons_append, List.nil_append, cellsD, List.map, repl, List.length, Nat.reduceAdd, if_true, ↓reduceIte]; first | done | rfl) ?_
  refine at_end rfl ?_
  refine at_seq [1, 0] [1, 1] rfl ?_
  refine at_region rfl ?_
  refine at_mv 0 10 rfl rfl rfl (.inl rfl) rfl (by dsimp only [List.set]) ?_
  refine at_mv 1 11 rfl rfl rfl (.inl rfl) rfl (by dsimp only [List.set]) ?_
  refine at_opS (some 12) rfl rfl rfl rfl (op_call1 rfl rfl rfl rfl rfl (.ptr (.pl rfl .nil)) rfl (next_spec l _ _ hs _ (by omega))) (by dsimp only [putD, List.set]) (by dsimp only [List.set, List.append, List.cons_append, List.nil_append, cellsD, List.map, repl, List.length, Nat.reduceAdd, if_true, ↓reduceIte]; first | done | rfl) ?_
  refine at_op (some 13) rfl rfl rfl rfl (op_buildN rfl fbldN_api_Tree rfl rfl) (by dsimp only [putD, List.set]) ?_
  try dsimp only [V.cellsV, List.take, List.drop, List.cons_append, List.nil_append, List.length]
  refine at_opS (some 7) rfl rfl rfl rfl (op_alloc rfl fzero_api_Tree) (by dsimp only [putD, List.set]) (by dsimp only [List.set, List.append, List.cons_append, List.nil_append, cellsD, List.map, repl, List.length, Nat.reduceAdd, if_true, ↓reduceIte]; first | done | rfl) ?_
  refine at_stA 7 (.tmp 13) rfl rfl rfl rfl rfl (ev_tmp rfl) rfl fagg_api_Tree rfl rfl (by first | decide | simp | (simp; omega)) (by dsimp only [List.set, List.append, List.cons_append, List.nil_append, cellsD, List.map, repl, List.length, Nat.reduceAdd, if_true, ↓reduceIte]; first | done | rfl) ?_
  refine at_end rfl ?_
  refine run_cv (cv_claim 2 1 1 2 (cs := [di (nextV lb (dkSt l s.1 s.2)), .v .nils]) rfl rfl (by simp) (by decide)) ?_
  simp only [List.set_cons_succ, List.set_cons_zero]
  refine at_seq [1, 1, 0] [1, 1, 1] rfl ?_
  refine at_region rfl ?_
  refine at_mv 2 14 rfl rfl rfl (.inl rfl) rfl (by dsimp only [List.set]) ?_
  refine at_op (some 15) rfl rfl rfl rfl (op_binI rfl rfl) (by dsimp only [putD, List.set]) ?_
  refine at_mv 15 8 rfl rfl rfl (.inr rfl) rfl (by dsimp only [List.set]) ?_
  refine at_end rfl ?_
  rw [wrap_id (by omega) (by omega), show ((m : Int) - 1) = ((m - 1 : Nat) : Int) by omega]
  refine at_seq [1, 1, 1, 0] [1, 1, 1, 1] rfl ?_
  refine at_block [1, 1, 1, 0, 0] 0 rfl ?_
  refine at_loop [1, 1, 1, 0, 0, 0] rfl ?_
  try simp only [List.length_map, List.length_nil, Int.toNat_natCast]
  exact run_wk (.keep (.keep (.drop (.drop (.drop (.drop (.keep (.keep (.keep (.drop (.drop (.drop (.drop (.drop (.drop (.drop (.drop (.drop (.drop (.drop (.drop (.drop (.drop (.drop (.drop (.drop (.drop (.drop (.drop (.drop (.drop (.drop (.drop (.drop (.drop (.drop (.drop (.drop (.drop (.drop .nil)))))))))))))))))))))))))))))))))))))))) (tree_loop l hs lb hlb (n + 1) ih _ _ n (m - 1) (dn l s) [] (by omega) (by omega) (by omega) (by simp; omega) rfl)

theorem tree_spec (l : List Int) (hs : l.length ≤ 1000000) (lb : Int) (hlb : 1 ≤ lb) (m : Nat) (h1 : 1 ≤ m) (hm : m ≤ 1000) (s : Nat × Int) :
    ∃ (t : Tr) (s' : Nat × Int), t.size ≤ m ∧ LabIn lb t ∧ FSpec PP 8 [.ptr 0 0, di lb, di ↑m] (σd l s.1 s.2) (dt t) (σd l s'.1 s'.2) :=
  ⟨_, _, ((treeM_ok l lb hlb (2 * m)).1 m s h1).1, ((treeM_ok l lb hlb (2 * m)).1 m s h1).2, tree_ok l hs lb hlb (2 * m) m s h1 (by omega) (Nat.le_refl _)⟩

end Go.Proofs.Ytaceggcohmmfhaa

namespace Go.Proofs.Ytaceggcohmmfhaa
open Go.Dv Tr

mutual
/-- an embedding: the root goes somewhere -/
inductive Emb : Tr → Tr → Prop
  | here {a b : Tr} (h : a.lab = b.lab) (hk : EmbL a.kids b.kids) : Emb a b
  | deep {a b k : Tr} (h : k ∈ b.kids) (hk : Emb a k) : Emb a b
/-- trees go into others, in their order -/
inductive EmbL : List Tr → List Tr → Prop
  | nil {ys : List Tr} : EmbL [] ys
  | take {a b : Tr} {xs ys : List Tr} (h : Emb a b) (hs : EmbL xs ys) : EmbL (a :: xs) (b :: ys)
  | skip {b : Tr} {xs ys : List Tr} (hs : EmbL xs ys) : EmbL xs (b :: ys)
end
def Rooted (a b : Tr) : Prop := a.lab = b.lab ∧ EmbL a.kids b.kids

mutual
/-- the subtrees, in the order of their numbers -/
def fl : Tr → List Tr
  | .mk l ks => .mk l ks :: fls ks
def fls : List Tr → List Tr
  | [] => []
  | k :: ks => fl k ++ fls ks
end
theorem fl_eq (t : Tr) : fl t = t :: fls t.kids := by cases t; simp [fl, kids]
mutual
theorem fl_length : ∀ t : Tr, (fl t).length = t.size
  | .mk l ks => by simp only [fl, List.length_cons, fls_length ks, size]; omega
theorem fls_length : ∀ ks : List Tr, (fls ks).length = szl ks
  | [] => rfl
  | k :: ks => by simp [fls, szl, fl_length k, fls_length ks]
end
theorem fls_mem : ∀ {ks : List Tr} {s : Tr}, s ∈ fls ks ↔ ∃ k ∈ ks, s ∈ fl k
  | [], s => by simp [fls]
  | k :: ks, s => by simp [fls, fls_mem (ks := ks)]

theorem Emb.subt : ∀ {a b : Tr}, Emb a b → ∃ s ∈ fl b, Rooted a s
  | a, b, .here h hk => ⟨b, by rw [fl_eq]; simp, h, hk⟩
  | a, b, .deep h hk => by
    obtain ⟨s, h1, h2⟩ := hk.subt
    exact ⟨s, by rw [fl_eq]; exact List.mem_cons_of_mem _ (fls_mem.2 ⟨_, h, h1⟩), h2⟩
theorem Emb.of_at {a : Tr} : ∀ (n : Nat) {b s : Tr}, b.size ≤ n → s ∈ fl b → Rooted a s → Emb a b
  | 0, b, s, hn, _, _ => by have := size_pos b; omega
  | n + 1, b, s, hn, h, hr => by
    rw [fl_eq] at h
    rcases List.mem_cons.1 h with rfl | h
    · exact .here hr.1 hr.2
    · obtain ⟨k, hk, h2⟩ := fls_mem.1 h
      have := szl_mem hk
      have := size_eq b
      exact .deep hk (Emb.of_at n (by omega) h2 hr)
theorem emb_iff {a b : Tr} : Emb a b ↔ ∃ s ∈ fl b, Rooted a s := ⟨Emb.subt, fun ⟨_, h1, h2⟩ => Emb.of_at b.size (Nat.le_refl _) h1 h2⟩

/- taking the first that fits is as good -/
theorem EmbL.tail : ∀ {a : Tr} {xs ys : List Tr}, EmbL (a :: xs) ys → EmbL xs ys
  | a, xs, [], h => by cases h
  | a, xs, b :: ys, h => by
    cases h with
    | take h hs => exact .skip hs
    | skip hs => exact .skip hs.tail
theorem embL_cons {a b : Tr} {xs ys : List Tr} : EmbL (a :: xs) (b :: ys) ↔ (Emb a b ∧ EmbL xs ys) ∨ (¬ Emb a b ∧ EmbL (a :: xs) ys) := by
  constructor
  · intro h
    by_cases hab : Emb a b
    · refine .inl ⟨hab, ?_⟩
      cases h with
      | take _ hs => exact hs
      | skip hs => exact hs.tail
    · refine .inr ⟨hab, ?_⟩
      cases h with
      | take h _ => exact absurd h hab
      | skip hs => exact hs
  · rintro (⟨h1, h2⟩ | ⟨_, h2⟩)
    · exact .take h1 h2
    · exact .skip h2

/- nodes by number -/
mutual
theorem nodes_at : ∀ (t : Tr) (a i : Nat), (nodesM a t)[i]? = ((fl t)[i]?).map fun s => ⟨s.lab, a + i + s.size, posL (a + i + 1) s.kids⟩
  | .mk l ks, a, i => by
    simp only [nodesM, fl]
    cases i with
    | zero => simp [size, lab, kids]; omega
    | succ i =>
      simp only [List.getElem?_cons_succ]
      rw [nodesL_at ks (a + 1) i]
      rw [show a + 1 + i = a + (i + 1) by omega]
theorem nodesL_at : ∀ (ks : List Tr) (a i : Nat), (nodesL a ks)[i]? = ((fls ks)[i]?).map fun s => ⟨s.lab, a + i + s.size, posL (a + i + 1) s.kids⟩
  | [], a, i => by simp [nodesL, fls]
  | k :: ks, a, i => by
    simp only [nodesL, fls]
    by_cases hi : i < k.size
    · rw [List.getElem?_append_left (by rw [nodesM_length]; exact hi), List.getElem?_append_left (by rw [fl_length]; exact hi), nodes_at k a i]
    · rw [List.getElem?_append_right (by rw [nodesM_length]; omega), List.getElem?_append_right (by rw [fl_length]; omega), nodesM_length, fl_length, nodesL_at ks (a + k.size) (i - k.size)]
      rw [show a + k.size + (i - k.size) = a + i by omega]
end
/- a subtree's subtrees lie behind it -/
mutual
theorem fl_sub : ∀ (t : Tr) (i : Nat) (s : Tr), (fl t)[i]? = some s → ∃ pre post, fl t = pre ++ fl s ++ post ∧ pre.length = i
  | .mk l ks, i, s, h => by
    simp only [fl] at h ⊢
    cases i with
    | zero => simp at h; subst h; exact ⟨[], [], by simp [fl], rfl⟩
    | succ i =>
      simp at h
      obtain ⟨pre, post, h1, h2⟩ := fls_sub ks i s h
      exact ⟨.mk l ks :: pre, post, by rw [h1]; simp, by simp [h2]⟩
theorem fls_sub : ∀ (ks : List Tr) (i : Nat) (s : Tr), (fls ks)[i]? = some s → ∃ pre post, fls ks = pre ++ fl s ++ post ∧ pre.length = i
  | [], i, s, h => by simp [fls] at h
  | k :: ks, i, s, h => by
    simp only [fls] at h ⊢
    by_cases hi : i < k.size
    · rw [List.getElem?_append_left (by rw [fl_length]; exact hi)] at h
      obtain ⟨pre, post, h1, h2⟩ := fl_sub k i s h
      exact ⟨pre, post ++ fls ks, by rw [h1]; simp, h2⟩
    · rw [List.getElem?_append_right (by rw [fl_length]; omega), fl_length] at h
      obtain ⟨pre, post, h1, h2⟩ := fls_sub ks (i - k.size) s h
      exact ⟨fl k ++ pre, post, by rw [h1]; simp, by simp [h2, fl_length]; omega⟩
end
theorem fl_in {t s : Tr} {i d : Nat} (h : (fl t)[i]? = some s) (hd : d < s.size) : (fl t)[i + d]? = (fl s)[d]? := by
  obtain ⟨pre, post, h1, h2⟩ := fl_sub t i s h
  rw [h1, List.append_assoc, List.getElem?_append_right (by omega), h2, Nat.add_sub_cancel_left, List.getElem?_append_left (by rw [fl_length]; exact hd)]
theorem fls_kid : ∀ (ks : List Tr) (x : Nat) (k : Tr) (a : Nat), ks[x]? = some k → ∃ p, (posL a ks)[x]? = some p ∧ a ≤ p ∧ p + k.size ≤ a + szl ks ∧ (fls ks)[p - a]? = some k
  | [], x, k, a, h => by simp at h
  | k0 :: ks, x, k, a, h => by
    simp only [posL, szl_cons, fls]
    cases x with
    | zero =>
      simp at h; subst h
      refine ⟨a, rfl, Nat.le_refl _, by omega, ?_⟩
      rw [Nat.sub_self, fl_eq]; rfl
    | succ x =>
      simp at h
      obtain ⟨p, h1, h2, h3, h4⟩ := fls_kid ks x k (a + k0.size) h
      refine ⟨p, by simpa using h1, by omega, by omega, ?_⟩
      rw [List.getElem?_append_right (by rw [fl_length]; omega), fl_length, Nat.sub_sub]; exact h4
/-- the number of a child -/
theorem kid_at {t s k : Tr} {i x : Nat} (h : (fl t)[i]? = some s) (hk : s.kids[x]? = some k) : ∃ p, (posL (i + 1) s.kids)[x]? = some p ∧ (fl t)[p]? = some k ∧ i < p := by
  obtain ⟨p, h1, h2, h3, h4⟩ := fls_kid s.kids x k (i + 1) hk
  have hs := size_eq s
  have hp := size_pos k
  refine ⟨p, h1, ?_, by omega⟩
  have : p = i + (p - i) := by omega
  rw [this, fl_in h (by omega), fl_eq, show p - i = (p - (i + 1)) + 1 by omega, List.getElem?_cons_succ]; exact h4

/- the search -/
theorem intoM_iff {l : List Nat} {j e : Nat} : 0 ≤ intoM l j e ↔ ∃ w ∈ l, j ≤ w ∧ w < e := by
  constructor
  · intro h; obtain ⟨w, h1, _, h2⟩ := intoM_mem h; exact ⟨w, h1, h2⟩
  · rintro ⟨w, hw, h1, h2⟩
    have ha : (il l).any (inP j e) = true := List.any_eq_true.2 ⟨(w : Int), List.mem_map.2 ⟨w, hw, rfl⟩, by simp [inP]; omega⟩
    rw [← idxP_any (il l) 0] at ha
    have h0 : 0 ≤ idxP (inP j e) (il l) 0 := by simpa using ha
    unfold intoM
    rw [if_neg (by omega)]
    obtain ⟨x, h3, h4⟩ := idxP_get0 h0
    rw [List.getD_eq_getElem?_getD, h3]
    simp [inP] at h4
    simp; omega

/-- placing children one by one, the first that fits -/
theorem plM_embL {f : Nat → Nat → Int} : ∀ (xs ys : List Tr) (ps rs : List Nat), ps.length = xs.length → rs.length = ys.length →
    (∀ (x y : Nat) (a b : Tr) (p r : Nat), xs[x]? = some a → ps[x]? = some p → ys[y]? = some b → rs[y]? = some r → (0 ≤ f p r ↔ Emb a b)) → ((plM f ps rs).isSome = true ↔ EmbL xs ys)
  | [], ys, ps, rs, h1, h2, h => by
    have : ps = [] := List.eq_nil_of_length_eq_zero (by simpa using h1)
    subst this
    simp [plM, EmbL.nil]
  | a :: xs, [], ps, rs, h1, h2, h => by
    have : rs = [] := List.eq_nil_of_length_eq_zero (by simpa using h2)
    subst this
    cases ps with
    | nil => simp at h1
    | cons p ps => simp only [plM, Option.isSome_none, Bool.false_eq_true, false_iff]; intro h; cases h
  | a :: xs, b :: ys, ps, rs, h1, h2, h => by
    cases ps with
    | nil => simp at h1
    | cons p ps =>
      cases rs with
      | nil => simp at h2
      | cons r rs =>
        have h0 := h 0 0 a b p r rfl rfl rfl rfl
        rw [embL_cons]
        simp only [plM]
        by_cases hf : 0 ≤ f p r
        · have ih := plM_embL xs ys ps rs (by simpa using h1) (by simpa using h2) (fun x y a' b' p' r' ha hp hb hr => h (x + 1) (y + 1) a' b' p' r' (by simpa using ha) (by simpa using hp) (by simpa using hb) (by simpa using hr))
          simp only [hf, if_true, Option.isSome_map, ih, h0.1 hf, true_and, not_true_eq_false, false_and, or_false]
        · have ih := plM_embL (a :: xs) ys (p :: ps) rs h1 (by simpa using h2) (fun x y a' b' p' r' ha hp hb hr => h x (y + 1) a' b' p' r' ha hp (by simpa using hb) (by simpa using hr))
          have hn : ¬ Emb a b := fun he => hf (h0.2 he)
          simp only [hf, if_false, ih, hn, false_and, not_false_eq_true, true_and, false_or]

/-- what the search notes -/
theorem row_iff {a b : Tr} (A B : List Nd) (hA : A = nodesM 0 a) (hB : B = nodesM 0 b) (hwa : Wf A) (n : Nat) : ∀ (i : Nat) (sa : Tr), sa.size ≤ n → (fl a)[i]? = some sa → ∀ (j : Nat) (sb : Tr), (fl b)[j]? = some sb → (j ∈ gt (solD A B A.length) i ↔ Rooted sa sb) := by
  induction n with
  | zero => intro i sa hn; have := size_pos sa; omega
  | succ n ih =>
    intro i sa hn hi j sb hj
    have hil : i < A.length := by rw [hA, nodesM_length, ← fl_length]; exact (List.getElem?_eq_some_iff.1 hi).1
    have hjl : j < B.length := by rw [hB, nodesM_length, ← fl_length]; exact (List.getElem?_eq_some_iff.1 hj).1
    have hai : A[i]? = some ⟨sa.lab, i + sa.size, posL (i + 1) sa.kids⟩ := by rw [hA, nodes_at, hi]; simp
    have hbj : B[j]? = some ⟨sb.lab, j + sb.size, posL (j + 1) sb.kids⟩ := by rw [hB, nodes_at, hj]; simp
    rw [sol_row hwa hil]
    unfold rowM
    rw [List.mem_filter]
    simp only [List.mem_range, hjl, true_and, rowOK, hai, hbj, Bool.and_eq_true, beq_iff_eq]
    unfold Rooted
    refine and_congr_right fun _ => ?_
    refine plM_embL sa.kids sb.kids _ _ (posL_length _ _) (posL_length _ _) (fun x y ka kb p r hka hp hkb hr => ?_)
    obtain ⟨p', hp', hpa, _⟩ := kid_at hi hka
    obtain ⟨r', hr', hrb, _⟩ := kid_at hj hkb
    rw [hp] at hp'; rw [hr] at hr'
    simp only [Option.some.injEq] at hp' hr'
    subst hp' hr'
    have hge : ge B r = r + kb.size := by rw [ge, hB, nodes_at, hrb]; simp
    unfold intoT
    rw [intoM_iff, hge, emb_iff]
    have hka2 : ka.size ≤ n := by
      have := szl_mem (List.mem_of_getElem? hka)
      have := size_eq sa
      omega
    constructor
    · rintro ⟨w, hw, h1, h2⟩
      obtain ⟨d, rfl⟩ : ∃ d, w = r + d := ⟨w - r, by omega⟩
      have hd : d < kb.size := by omega
      have hfd := fl_in hrb hd
      obtain ⟨s, hs⟩ := get_ex (a := fl kb) (i := d) (by rw [fl_length]; exact hd)
      exact ⟨s, List.mem_of_getElem? hs, (ih p ka hka2 hpa (r + d) s (by rw [hfd]; exact hs)).1 hw⟩
    · rintro ⟨s, hs, hroot⟩
      obtain ⟨d, hd⟩ := List.getElem?_of_mem hs
      have hdl : d < kb.size := by rw [← fl_length]; exact (List.getElem?_eq_some_iff.1 hd).1
      exact ⟨r + d, (ih p ka hka2 hpa (r + d) s (by rw [fl_in hrb hdl]; exact hd)).2 hroot, by omega, by omega⟩

theorem embG_some (A B : List Nd) (to : List (List Nat)) (l : List Nat) : (embG A B to l).isSome = true ↔ l ≠ [] := by cases l <;> simp [embG]
theorem nodesT_valid {t : Tr} (h : validT t = true) : nodesT t = nodesM 0 t := by unfold nodesT; rw [h]; rfl
theorem nodesT_bad {t : Tr} (h : validT t = false) : nodesT t = [] := by unfold nodesT; rw [h]; rfl
theorem gt_mem_B {A B : List Nd} (hA : Wf A) {i j : Nat} (h : j ∈ gt (solD A B A.length) i) : j < B.length ∧ i < A.length := by
  by_cases hi : i < A.length
  · rw [sol_row hA hi] at h
    have := (List.mem_filter.1 h).1
    exact ⟨by simpa using this, hi⟩
  · unfold gt at h
    rw [List.getElem?_eq_none (by rw [solD_length]; omega)] at h
    simp at h
/-- Leq is the embedding of valid trees -/
theorem leqT_iff (a b : Tr) : (embT a b).isSome = true ↔ validT a = true ∧ validT b = true ∧ Emb a b := by
  unfold embT
  rw [embG_some]
  have hwf := nodesT_wf a
  cases ha : validT a with
  | false =>
    rw [nodesT_bad ha]
    simp [solD, gt]
  | true =>
    cases hb : validT b with
    | false =>
      simp only [Bool.false_eq_true, false_and, and_false, iff_false, ne_eq, Decidable.not_not]
      apply List.eq_nil_iff_forall_not_mem.2
      intro j hj
      have := (gt_mem_B hwf hj).1
      rw [nodesT_bad hb] at this
      simp at this
    | true =>
      rw [nodesT_valid ha] at hwf ⊢
      rw [nodesT_valid hb]
      simp only [true_and]
      rw [emb_iff]
      have key := row_iff (nodesM 0 a) (nodesM 0 b) rfl rfl hwf a.size 0 a (Nat.le_refl _) (by rw [fl_eq]; rfl)
      constructor
      · intro h
        obtain ⟨j, hj⟩ := List.exists_mem_of_ne_nil _ h
        have hjl := (gt_mem_B hwf hj).1
        obtain ⟨s, hs⟩ := get_ex (a := fl b) (i := j) (by rw [fl_length, ← nodesM_length b 0]; exact hjl)
        exact ⟨s, List.mem_of_getElem? hs, (key j s hs).1 hj⟩
      · rintro ⟨s, hs, hr⟩
        obtain ⟨j, hj⟩ := List.getElem?_of_mem hs
        exact List.ne_nil_of_mem ((key j s hj).2 hr)

end Go.Proofs.Ytaceggcohmmfhaa

namespace Go.Proofs.Ytaceggcohmmfhaa
open Go.Dv Tr

theorem EmbL.refl_of : ∀ {ks : List Tr}, (∀ k ∈ ks, Emb k k) → EmbL ks ks
  | [], _ => .nil
  | k :: ks, h => .take (h k List.mem_cons_self) (EmbL.refl_of fun k' hk => h k' (List.mem_cons_of_mem _ hk))
theorem Emb.refl : ∀ (n : Nat) (t : Tr), t.size ≤ n → Emb t t
  | 0, t, h => by have := size_pos t; omega
  | n + 1, t, h => .here rfl (EmbL.refl_of fun k hk => Emb.refl n k (by have := szl_mem hk; have := size_eq t; omega))


/- transitivity -/
theorem EmbL.mem {xs ys : List Tr} (h : EmbL xs ys) : ∀ x ∈ xs, ∃ y ∈ ys, Emb x y := by
  induction ys generalizing xs with
  | nil => cases h; simp
  | cons y ys ih =>
    cases h with
    | nil => simp
    | take h hs =>
      intro x hx
      rcases List.mem_cons.1 hx with rfl | hx
      · exact ⟨y, List.mem_cons_self, h⟩
      · obtain ⟨z, h1, h2⟩ := ih hs x hx; exact ⟨z, List.mem_cons_of_mem _ h1, h2⟩
    | skip hs => intro x hx; obtain ⟨z, h1, h2⟩ := ih hs x hx; exact ⟨z, List.mem_cons_of_mem _ h1, h2⟩
/- growing -/
/- valid trees -/
theorem LabIn.all {lb : Int} : ∀ (n : Nat) {t : Tr}, t.size ≤ n → LabIn lb t → ∀ s ∈ fl t, 0 ≤ s.lab ∧ s.lab < lb
  | 0, t, hn, _ => by have := size_pos t; omega
  | n + 1, t, hn, h => by
    intro s hs
    rw [fl_eq] at hs
    cases h with
    | mk hx hk =>
      rcases List.mem_cons.1 hs with rfl | hs
      · exact hx
      · obtain ⟨k, h1, h2⟩ := fls_mem.1 hs
        exact LabIn.all n (by have := szl_mem h1; rw [size_eq] at hn; omega) (hk k h1) s h2
theorem LabIn.kid {lb : Int} {t k : Tr} (h : LabIn lb t) (hk : k ∈ t.kids) : LabIn lb k := by cases h with | mk _ h2 => exact h2 k hk
theorem LabIn.lab {lb : Int} {t : Tr} (h : LabIn lb t) : 0 ≤ t.lab ∧ t.lab < lb := by cases h with | mk h2 _ => exact h2
theorem LabIn.mono {lb lb' : Int} (hb : lb ≤ lb') : ∀ (n : Nat) {t : Tr}, t.size ≤ n → LabIn lb t → LabIn lb' t
  | 0, t, hn, _ => by have := size_pos t; omega
  | n + 1, .mk x ks, hn, h => by
    cases h with
    | mk hx hk => exact .mk ⟨hx.1, by omega⟩ (fun k hm => LabIn.mono hb n (by have := szl_mem hm; simp only [size] at hn; omega) (hk k hm))
end Go.Proofs.Ytaceggcohmmfhaa

namespace Go.Proofs.Ytaceggcohmmfhaa
open Go.Dv Tr

def awA : Tr := .mk 0 [.mk 1 []]
def awB : Tr := .mk 0 [.mk 2 [.mk 1 []]]
theorem aw_emb : embT awA awB = some [0, 2] := by decide +kernel
theorem aw_bme : embT awB awA = none := by decide +kernel
theorem aw_valid : validT awB = true := by decide +kernel
theorem aw_size : awB.size = 3 := by decide +kernel
theorem aw_prov : provX (nodesT awA) (nodesT awB) [0, 2] = true := by decide +kernel
theorem aw_labs : (nodesT awB).map Nd.lab = [0, 2, 1] := by decide +kernel
theorem LabIn.of {lb x : Int} {ks : List Tr} (h : 0 ≤ x ∧ x < lb) (hk : ∀ k ∈ ks, LabIn lb k) : LabIn lb (.mk x ks) := .mk h hk
theorem lend_pair {L : Nat → Option (List D)} {o : Nat} {x y : V} (hx : x.isAgg = false) (hy : y.isAgg = false) (h : L o = some [.v x, .v y]) : lends L 1 (.ptr o 0) (.ref (.agg [x, y])) := by
  refine .inr (.inl ⟨o, 0, [.v x, .v y], .agg [x, y], rfl, rfl, h, fun j z hj => ?_⟩)
  simp only [V.cellsV] at hj
  match j, hj with
  | 0, hj => simp at hj; subst hj; exact ⟨hx, .v x, rfl, _, .same, rfl⟩
  | 1, hj => simp at hj; subst hj; exact ⟨hy, .v y, rfl, _, .same, rfl⟩
  | j + 2, hj => simp at hj
theorem next_ex (l : List Int) (hs : l.length ≤ 1000000) (n : Nat) (hn : 1 ≤ n) (s : Nat × Int) :
    ∃ (x : Nat) (s' : Nat × Int), x < n ∧ FSpec PP 23 [.ptr 0 0, di ↑n] (σd l s.1 s.2) (di ↑x) (σd l s'.1 s'.2) := by
  have hr := nextV_range (n := (n : Int)) (s := dkSt l s.1 s.2) (by omega)
  obtain ⟨x, hx⟩ := Int.eq_ofNat_of_zero_le hr.1
  refine ⟨x, (dkAt l s.1, dkSt l s.1 s.2), by omega, ?_⟩
  have := next_spec l s.1 s.2 hs n (by omega)
  rw [hx] at this
  exact this

noncomputable def cAwakeT : Code := Try.f4.body.getD .skip
set_option maxRecDepth 20000 in
theorem awakeT_spec : FSpec PP 4 [] σ0 (db true) σ0 := by
  refine spec_at cAwakeT Try.func4 rfl (by kernel_rfl) (by first | decide | simp) _ (by dsimp only [Try.f4, List.length, Nat.reduceAdd, Nat.reduceSub, List.replicate, List.cons_append, List.nil_append]) ?_
  refine at_seq [0] [1] rfl ?_
  refine at_region rfl ?_
  refine at_mc 0 rfl rfl rfl (.inr rfl) (by dsimp only [constD]) (by dsimp only [List.set]) ?_
  refine at_end rfl ?_
  refine at_seq [1, 0] [1, 1] rfl ?_
  refine at_region rfl ?_
  refine at_op (some 5) rfl rfl rfl rfl (op_build rfl fbld_api_Tree rfl rfl) (by dsimp only [putD, List.set]) ?_
  try dsimp only [V.cellsV, List.take, List.drop, List.cons_append, List.nil_append, List.length]
  refine at_op (some 6) rfl rfl rfl rfl (op_buildSlice rfl (by rfl) (by rfl) fsl_Sapi_Tree rfl rfl (by simp [V.size]) (by decide) (by decide) (by decide)) (by dsimp only [putD, List.set]) ?_
  refine at_op (some 7) rfl rfl rfl rfl (op_build rfl fbld_api_Tree rfl rfl) (by dsimp only [putD, List.set]) ?_
  try dsimp only [V.cellsV, List.take, List.drop, List.cons_append, List.nil_append, List.length]
  refine at_new 7 1 rfl rfl rfl rfl fzero_api_Tree rfl rfl rfl rfl (by decide) rfl rfl fagg_api_Tree (by first | rfl | (simp [V.size]; done)) rfl (by simp only [List.length_cons]; omega) (by dsimp only [List.set]) ?_
  refine at_end rfl ?_
  refine at_seq [1, 1, 0] [1, 1, 1] rfl ?_
  refine at_region rfl ?_
  refine at_op (some 8) rfl rfl rfl rfl (op_build rfl fbld_api_Tree rfl rfl) (by dsimp only [putD, List.set]) ?_
  try dsimp only [V.cellsV, List.take, List.drop, List.cons_append, List.nil_append, List.length]
  refine at_op (some 9) rfl rfl rfl rfl (op_buildSlice rfl (by rfl) (by rfl) fsl_Sapi_Tree rfl rfl (by simp [V.size]) (by decide) (by decide) (by decide)) (by dsimp only [putD, List.set]) ?_
  refine at_op (some 10) rfl rfl rfl rfl (op_build rfl fbld_api_Tree rfl rfl) (by dsimp only [putD, List.set]) ?_
  try dsimp only [V.cellsV, List.take, List.drop, List.cons_append, List.nil_append, List.length]
  refine at_op (some 11) rfl rfl rfl rfl (op_buildSlice rfl (by rfl) (by rfl) fsl_Sapi_Tree rfl rfl (by simp [V.size]) (by decide) (by decide) (by decide)) (by dsimp only [putD, List.set]) ?_
  refine at_op (some 12) rfl rfl rfl rfl (op_build rfl fbld_api_Tree rfl rfl) (by dsimp only [putD, List.set]) ?_
  try dsimp only [V.cellsV, List.take, List.drop, List.cons_append, List.nil_append, List.length]
  refine at_new 12 2 rfl rfl rfl rfl fzero_api_Tree rfl rfl rfl rfl (by decide) rfl rfl fagg_api_Tree (by first | rfl | (simp [V.size]; done)) rfl (by simp only [List.length_cons]; omega) (by dsimp only [List.set]) ?_
  refine at_end rfl ?_
  refine at_seq [1, 1, 1, 0] [1, 1, 1, 1] rfl ?_
  refine at_region rfl ?_
  first | (refine at_op (some 14) rfl rfl rfl rfl (op_loadRA rfl fagg_api_Tree) (by dsimp only [putD, List.set]) ?_) | (refine at_op (some 14) rfl rfl rfl rfl (op_loadPA rfl fagg_api_Tree rfl (by first | decide | simp) rfl) (by dsimp only [putD, List.set]) ?_)
  first | (refine at_op (some 15) rfl rfl rfl rfl (op_loadRA rfl fagg_api_Tree) (by dsimp only [putD, List.set]) ?_) | (refine at_op (some 15) rfl rfl rfl rfl (op_loadPA rfl fagg_api_Tree rfl (by first | decide | simp) rfl) (by dsimp only [putD, List.set]) ?_)
  refine at_op (some 16) rfl rfl rfl rfl (op_call0 rfl rfl rfl rfl (embed_spec awA awB (by decide +kernel) (by decide +kernel))) (by dsimp only [putD, List.set]) ?_
  rw [aw_emb]
  simp only [Option.getD_some, Option.isSome_some]
  refine at_mv 16 13 rfl rfl rfl (.inl rfl) rfl (by dsimp only [List.set]) ?_
  refine at_op (some 17) rfl rfl rfl rfl (op_extract rfl rfl) (by dsimp only [putD, List.set]) ?_
  refine at_op (some 18) rfl rfl rfl rfl (op_extract rfl rfl) (by dsimp only [putD, List.set]) ?_
  refine at_mv 17 3 rfl rfl rfl (.inr rfl) rfl (by dsimp only [List.set]) ?_
  refine at_mv 18 4 rfl rfl rfl (.inr rfl) rfl (by dsimp only [List.set]) ?_
  refine at_end rfl ?_
  refine at_seq [1, 1, 1, 1, 0] [1, 1, 1, 1, 1] rfl ?_
  refine at_region rfl ?_
  refine at_mv 4 19 rfl rfl rfl (.inl rfl) rfl (by dsimp only [List.set]) ?_
  refine at_mv 19 20 rfl rfl rfl (.inl rfl) rfl (by dsimp only [List.set]) ?_
  refine at_mv 3 21 rfl rfl rfl (.inl rfl) rfl (by dsimp only [List.set]) ?_
  first | (refine at_op (some 22) rfl rfl rfl rfl (op_lenL rfl fu_Sint) (by dsimp only [putD, List.set]) ?_) | (refine at_op (some 22) rfl rfl rfl rfl (opOK_un (op_lenL rfl fu_Sint)) (by dsimp only [putD, List.set]) ?_) | (refine at_op (some 22) rfl rfl rfl rfl (op_lenA rfl fu_Sint) (by dsimp only [putD, List.set]) ?_)
  refine at_op (some 23) rfl rfl rfl rfl (op_binI rfl rfl) (by dsimp only [putD, List.set]) ?_
  refine at_pk true 20 23 24 rfl rfl rfl rfl rfl rfl rfl (by dsimp only [List.set]) ?_
  refine at_mv 24 25 rfl rfl rfl (.inl rfl) rfl (by dsimp only [List.set]) ?_
  refine at_mv 3 26 rfl rfl rfl (.inl rfl) rfl (by dsimp only [List.set]) ?_
  refine at_op (some 27) rfl rfl rfl rfl (op_idxL rfl fsl_Sint (by decide) (y := vi 2) rfl rfl) (by dsimp only [putD, List.set]) ?_
  first | (refine at_op (some 28) rfl rfl rfl rfl (op_loadR1 rfl fone_int rfl) (by dsimp only [putD, List.set]) ?_) | (refine at_op (some 28) rfl rfl rfl rfl (op_loadP1 rfl fone_int rfl rfl) (by dsimp only [putD, List.set]) ?_)
  refine at_op (some 29) rfl rfl rfl rfl (op_binI rfl rfl) (by dsimp only [putD, List.set]) ?_
  refine at_pk true 25 29 30 rfl rfl rfl rfl rfl rfl rfl (by dsimp only [List.set]) ?_
  refine at_mv 30 31 rfl rfl rfl (.inl rfl) rfl (by dsimp only [List.set]) ?_
  first | (refine at_op (some 32) rfl rfl rfl rfl (op_loadRA rfl fagg_api_Tree) (by dsimp only [putD, List.set]) ?_) | (refine at_op (some 32) rfl rfl rfl rfl (op_loadPA rfl fagg_api_Tree rfl (by first | decide | simp) rfl) (by dsimp only [putD, List.set]) ?_)
  first | (refine at_op (some 33) rfl rfl rfl rfl (op_loadRA rfl fagg_api_Tree) (by dsimp only [putD, List.set]) ?_) | (refine at_op (some 33) rfl rfl rfl rfl (op_loadPA rfl fagg_api_Tree rfl (by first | decide | simp) rfl) (by dsimp only [putD, List.set]) ?_)
  refine at_op (some 34) rfl rfl rfl rfl (op_call0 rfl rfl rfl rfl (tleq_spec awA awB (by decide +kernel) (by decide +kernel))) (by dsimp only [putD, List.set]) ?_
  rw [aw_emb]
  simp only [Option.isSome_some]
  refine at_pk true 31 34 35 rfl rfl rfl rfl rfl rfl rfl (by dsimp only [List.set]) ?_
  refine at_mv 35 36 rfl rfl rfl (.inl rfl) rfl (by dsimp only [List.set]) ?_
  first | (refine at_op (some 37) rfl rfl rfl rfl (op_loadRA rfl fagg_api_Tree) (by dsimp only [putD, List.set]) ?_) | (refine at_op (some 37) rfl rfl rfl rfl (op_loadPA rfl fagg_api_Tree rfl (by first | decide | simp) rfl) (by dsimp only [putD, List.set]) ?_)
  first | (refine at_op (some 38) rfl rfl rfl rfl (op_loadRA rfl fagg_api_Tree) (by dsimp only [putD, List.set]) ?_) | (refine at_op (some 38) rfl rfl rfl rfl (op_loadPA rfl fagg_api_Tree rfl (by first | decide | simp) rfl) (by dsimp only [putD, List.set]) ?_)
  refine at_op (some 39) rfl rfl rfl rfl (op_call0 rfl rfl rfl rfl (tleq_spec awB awA (by decide +kernel) (by decide +kernel))) (by dsimp only [putD, List.set]) ?_
  rw [aw_bme]
  simp only [Option.isSome_none]
  refine at_op (some 40) rfl rfl rfl rfl (op_un rfl rfl) (by dsimp only [putD, List.set]) ?_
  refine at_pk true 36 40 41 rfl rfl rfl rfl rfl rfl rfl (by dsimp only [List.set]) ?_
  refine at_mv 41 42 rfl rfl rfl (.inl rfl) rfl (by dsimp only [List.set]) ?_
  first | (refine at_op (some 43) rfl rfl rfl rfl (op_loadRA rfl fagg_api_Tree) (by dsimp only [putD, List.set]) ?_) | (refine at_op (some 43) rfl rfl rfl rfl (op_loadPA rfl fagg_api_Tree rfl (by first | decide | simp) rfl) (by dsimp only [putD, List.set]) ?_)
  refine at_op (some 44) rfl rfl rfl rfl (op_call0 rfl rfl rfl rfl (tvalid_spec awB (by decide +kernel))) (by dsimp only [putD, List.set]) ?_
  rw [aw_valid]
  refine at_pk true 42 44 45 rfl rfl rfl rfl rfl rfl rfl (by dsimp only [List.set]) ?_
  refine at_mv 45 46 rfl rfl rfl (.inl rfl) rfl (by dsimp only [List.set]) ?_
  first | (refine at_op (some 47) rfl rfl rfl rfl (op_loadRA rfl fagg_api_Tree) (by dsimp only [putD, List.set]) ?_) | (refine at_op (some 47) rfl rfl rfl rfl (op_loadPA rfl fagg_api_Tree rfl (by first | decide | simp) rfl) (by dsimp only [putD, List.set]) ?_)
  refine at_op (some 48) rfl rfl rfl rfl (op_call0 rfl rfl rfl rfl (tsize_spec awB (by decide +kernel))) (by dsimp only [putD, List.set]) ?_
  rw [aw_valid, aw_size]
  refine at_op (some 49) rfl rfl rfl rfl (op_binI rfl rfl) (by dsimp only [putD, List.set]) ?_
  refine at_pk true 46 49 50 rfl rfl rfl rfl rfl rfl rfl (by dsimp only [List.set]) ?_
  refine at_mv 50 51 rfl rfl rfl (.inl rfl) rfl (by dsimp only [List.set]) ?_
  first | (refine at_op (some 52) rfl rfl rfl rfl (op_loadRA rfl fagg_api_Tree) (by dsimp only [putD, List.set]) ?_) | (refine at_op (some 52) rfl rfl rfl rfl (op_loadPA rfl fagg_api_Tree rfl (by first | decide | simp) rfl) (by dsimp only [putD, List.set]) ?_)
  first | (refine at_op (some 53) rfl rfl rfl rfl (op_loadRA rfl fagg_api_Tree) (by dsimp only [putD, List.set]) ?_) | (refine at_op (some 53) rfl rfl rfl rfl (op_loadPA rfl fagg_api_Tree rfl (by first | decide | simp) rfl) (by dsimp only [putD, List.set]) ?_)
  refine at_mv 3 54 rfl rfl rfl (.inl rfl) rfl (by dsimp only [List.set]) ?_
  refine at_op (some 55) rfl rfl rfl rfl (op_call0 rfl rfl rfl rfl (proves_spec awA awB [0, 2] (by decide +kernel) (by decide +kernel))) (by dsimp only [putD, List.set]) ?_
  rw [aw_prov]
  refine at_pk true 51 55 56 rfl rfl rfl rfl rfl rfl rfl (by dsimp only [List.set]) ?_
  refine at_mv 56 57 rfl rfl rfl (.inl rfl) rfl (by dsimp only [List.set]) ?_
  first | (refine at_op (some 58) rfl rfl rfl rfl (op_loadRA rfl fagg_api_Tree) (by dsimp only [putD, List.set]) ?_) | (refine at_op (some 58) rfl rfl rfl rfl (op_loadPA rfl fagg_api_Tree rfl (by first | decide | simp) rfl) (by dsimp only [putD, List.set]) ?_)
  refine at_op (some 59) rfl rfl rfl rfl (op_call0 rfl rfl rfl rfl (tlabels_spec awB (by decide +kernel))) (by dsimp only [putD, List.set]) ?_
  rw [aw_labs]
  first | (refine at_op (some 60) rfl rfl rfl rfl (op_lenL rfl fu_Sint) (by dsimp only [putD, List.set]) ?_) | (refine at_op (some 60) rfl rfl rfl rfl (opOK_un (op_lenL rfl fu_Sint)) (by dsimp only [putD, List.set]) ?_) | (refine at_op (some 60) rfl rfl rfl rfl (op_lenA rfl fu_Sint) (by dsimp only [putD, List.set]) ?_)
  refine at_op (some 61) rfl rfl rfl rfl (op_binI rfl rfl) (by dsimp only [putD, List.set]) ?_
  refine at_pk true 57 61 62 rfl rfl rfl rfl rfl rfl rfl (by dsimp only [List.set]) ?_
  refine at_mv 62 0 rfl rfl rfl (.inr rfl) rfl (by dsimp only [List.set]) ?_
  refine at_end rfl ?_
  refine at_ret rfl (ret_one (t := 0) rfl rfl ?_ rfl)
  rfl

end Go.Proofs.Ytaceggcohmmfhaa


namespace Go.Proofs.Ytaceggcohmmfhaa
open Go.Dv Tr

/-- the order of lists by an order of their elements -/
def cmpBy {α : Type} (c : α → α → Int) : List α → List α → Int
  | x :: a, y :: b => if c x y = 0 then cmpBy c a b else c x y
  | [], _ :: _ => -1
  | _ :: _, [] => 1
  | [], [] => 0
theorem cmpBy_at {α : Type} {c : α → α → Int} {a b : List α} {i : Nat} {x y : α} (hx : a[i]? = some x) (hy : b[i]? = some y) : cmpBy c (a.drop i) (b.drop i) = if c x y = 0 then cmpBy c (a.drop (i + 1)) (b.drop (i + 1)) else c x y := by
  obtain ⟨ha1, ha2⟩ := List.getElem?_eq_some_iff.1 hx
  obtain ⟨hb1, hb2⟩ := List.getElem?_eq_some_iff.1 hy
  rw [List.drop_eq_getElem_cons ha1, List.drop_eq_getElem_cons hb1, ha2, hb2]
  rfl
theorem cmpBy_long {α : Type} {c : α → α → Int} {a b : List α} {i : Nat} (hx : i < a.length) (hy : b.length ≤ i) : cmpBy c (a.drop i) (b.drop i) = 1 := by
  rw [List.drop_eq_getElem_cons hx, List.drop_of_length_le hy]; rfl
theorem cmpBy_end {α : Type} {c : α → α → Int} {a b : List α} {i : Nat} (hx : i = a.length) : cmpBy c (a.drop i) (b.drop i) = if a.length < b.length then -1 else 0 := by
  subst hx
  rw [List.drop_of_length_le (Nat.le_refl _)]
  by_cases h : a.length < b.length
  · rw [List.drop_eq_getElem_cons h, if_pos h]; rfl
  · rw [List.drop_of_length_le (by omega), if_neg h]; rfl
mutual
def cmpT : Tr → Tr → Int
  | .mk x ks, .mk y ls => if ord x y = 0 then (if ord ks.length ls.length = 0 then cmpTs ks ls else ord ks.length ls.length) else ord x y
def cmpTs : List Tr → List Tr → Int
  | x :: a, y :: b => if cmpT x y = 0 then cmpTs a b else cmpT x y
  | [], _ :: _ => -1
  | _ :: _, [] => 1
  | [], [] => 0
end
theorem cmpTs_by : ∀ a b : List Tr, cmpTs a b = cmpBy cmpT a b
  | [], [] => by simp [cmpTs, cmpBy]
  | [], _ :: _ => by simp [cmpTs, cmpBy]
  | _ :: _, [] => by simp [cmpTs, cmpBy]
  | x :: a, y :: b => by simp [cmpTs, cmpBy, cmpTs_by a b]
theorem cmpT_eq (a b : Tr) : cmpT a b = if ord a.lab b.lab = 0 then (if ord a.kids.length b.kids.length = 0 then cmpBy cmpT a.kids b.kids else ord a.kids.length b.kids.length) else ord a.lab b.lab := by
  cases a; cases b; simp only [cmpT, lab, kids, cmpTs_by]; rfl
theorem orL3 (x y z : Int) : orL [x, y, z] = if x = 0 then (if y = 0 then z else y) else x := by
  simp only [orL]; split <;> (try split) <;> (try split) <;> simp_all
def cmpX (a b : Tr) : Int := if a.size ≤ 12 then (if b.size ≤ 12 then cmpT a b else -1) else (if b.size ≤ 12 then 1 else 0)
/- a total order -/
noncomputable def cCompareF : Code := Try.f48.body.getD .skip
set_option maxRecDepth 20000 in
theorem compareF_loop (fo : FuncId) (fs cs : List V) (a b : List Tr) (c : Tr → Tr → Int) (hf : ∀ x ∈ a, ∀ y ∈ b, FSpec PP fo (fs.map .v ++ [dt x, dt y] ++ cs.map .v) σ0 (di (c x y)) σ0) (hs : a.length ≤ 1000000) (m : Nat) : ∀ i : Nat, a.length - i = m → i ≤ a.length → cmpBy c a b = cmpBy c (a.drop i) (b.drop i) → Run PP (fun env σ1 => ResOK PP Try.f48 env σ1 (di (cmpBy c a b)) σ0) [.lp (sub cCompareF [1, 0, 1, 0, 0]), .blk 0, .code (sub cCompareF [1, 1])] ((.v (vtl a)) :: (.v (vtl b)) :: (.v (.fn fo fs cs)) :: .undef :: .undef :: .undef :: .undef :: .undef :: .undef :: .undef :: .undef :: (.v (vtl a)) :: (di ↑a.length) :: (di ↑i) :: .undef :: .undef :: .undef :: .undef :: .undef :: .undef :: .undef :: .undef :: .undef :: .undef :: .undef :: .undef :: .undef :: .undef :: .undef :: .undef :: .undef :: .undef :: .undef :: .undef :: .undef :: .undef :: .undef :: .undef :: .undef :: []) σ0 := by
  induction m using Nat.strongRecOn with
  | _ m ih =>
    intro i hm hi hb
    refine run_lp ?_
    refine at_seq [1, 0, 1, 0, 0, 0] [1, 0, 1, 0, 0, 1] rfl ?_
    refine at_region rfl ?_
    refine at_op (some 14) rfl rfl rfl rfl (op_binI rfl rfl) (by dsimp only [putD, List.set]) ?_
    refine at_end rfl ?_
    refine at_seq [1, 0, 1, 0, 0, 1, 0] [1, 0, 1, 0, 0, 1, 1] rfl ?_
    refine at_cond [1, 0, 1, 0, 0, 1, 0, 0] [1, 0, 1, 0, 0, 1, 0, 1] rfl rfl (fun hc1 => ?_) (fun hc1 => ?_)
    · skip
      have hlt : i < a.length := by simpa using hc1
      obtain ⟨x, hx⟩ := get_ex hlt
      have hx2 := idx_tree hx
      refine at_skip rfl ?_
      refine at_seq [1, 0, 1, 0, 0, 1, 1, 0] [1, 0, 1, 0, 0, 1, 1, 1] rfl ?_
      refine at_block [1, 0, 1, 0, 0, 1, 1, 0, 0] 1 rfl ?_
      refine at_seq [1, 0, 1, 0, 0, 1, 1, 0, 0, 0] [1, 0, 1, 0, 0, 1, 1, 0, 0, 1] rfl ?_
      refine at_region rfl ?_
      refine at_mv 13 15 rfl rfl rfl (.inl rfl) rfl (by dsimp only [List.set]) ?_
      first | (refine at_op (some 16) rfl rfl rfl rfl (op_idxL rfl fsl_Sapi_Tree (by first | decide | omega) (by first | assumption | exact idx_some (by assumption) | rfl) (by first | rfl | (simp [V.size]; done))) (by dsimp only [putD, List.set]) ?_) | (refine at_op (some 16) rfl rfl rfl rfl (opOK_un (op_idxL rfl fsl_Sapi_Tree (by first | decide | omega) (by first | assumption | exact idx_some (by assumption) | rfl) (by first | rfl | (simp [V.size]; done)))) (by dsimp only [putD, List.set]) ?_) | (refine at_op (some 16) rfl rfl rfl rfl (op_idxA rfl fsl_Sapi_Tree (by first | decide | omega) (by first | decide | omega)) (by dsimp only [putD, List.set]) ?_)
      first | (refine at_op (some 17) rfl rfl rfl rfl (op_loadRA rfl fagg_api_Tree) (by dsimp only [putD, List.set]) ?_) | (refine at_op (some 17) rfl rfl rfl rfl (op_loadPA rfl fagg_api_Tree rfl (by first | decide | simp) rfl) (by dsimp only [putD, List.set]) ?_)
      refine at_new1 17 8 15 7 rfl rfl rfl rfl fzero_api_Tree rfl rfl rfl (.inr rfl) rfl (by decide) (by decide) (by decide) rfl rfl rfl rfl (by decide) rfl rfl fagg_api_Tree (by first | rfl | (simp [V.size]; done)) rfl (by simp only [List.length_cons]; omega) (by dsimp only [List.set]) ?_
      refine at_end rfl ?_
      refine at_seq [1, 0, 1, 0, 0, 1, 1, 0, 0, 1, 0] [1, 0, 1, 0, 0, 1, 1, 0, 0, 1, 1] rfl ?_
      refine at_seq [1, 0, 1, 0, 0, 1, 1, 0, 0, 1, 0, 0] [1, 0, 1, 0, 0, 1, 1, 0, 0, 1, 0, 1] rfl ?_
      refine at_region rfl ?_
      refine at_mv 7 18 rfl rfl rfl (.inl rfl) rfl (by dsimp only [List.set]) ?_
      refine at_mv 1 19 rfl rfl rfl (.inl rfl) rfl (by dsimp only [List.set]) ?_
      first | (refine at_op (some 20) rfl rfl rfl rfl (op_lenL rfl fu_Sapi_Tree) (by dsimp only [putD, List.set]) ?_) | (refine at_op (some 20) rfl rfl rfl rfl (opOK_un (op_lenL rfl fu_Sapi_Tree)) (by dsimp only [putD, List.set]) ?_) | (refine at_op (some 20) rfl rfl rfl rfl (op_lenA rfl fu_Sapi_Tree) (by dsimp only [putD, List.set]) ?_)
      refine at_op (some 21) rfl rfl rfl rfl (op_binI rfl rfl) (by dsimp only [putD, List.set]) ?_
      refine at_end rfl ?_
      refine at_cond [1, 0, 1, 0, 0, 1, 1, 0, 0, 1, 0, 1, 0] [1, 0, 1, 0, 0, 1, 1, 0, 0, 1, 0, 1, 1] rfl rfl (fun hc2 => ?_) (fun hc2 => ?_)
      · skip
        have hge : b.length ≤ i := by simpa using hc2
        rw [cmpBy_long hlt hge] at hb
        refine at_seq [1, 0, 1, 0, 0, 1, 1, 0, 0, 1, 0, 1, 0, 0] [1, 0, 1, 0, 0, 1, 1, 0, 0, 1, 0, 1, 0, 1] rfl ?_
        refine at_region rfl ?_
        refine at_mc 6 rfl rfl rfl (.inr rfl) (by dsimp only [constD]) (by dsimp only [List.set]) ?_
        refine at_end rfl ?_
        refine at_ret rfl (ret_one (t := 6) rfl rfl ?_ rfl)
        first | (rw [hb]; done) | (simp_all; done) | (simp_all; omega)
      · skip
        have hlb : i < b.length := by simpa using hc2
        obtain ⟨y, hy⟩ := get_ex hlb
        rw [cmpBy_at hx hy] at hb
        have hy2 := idx_tree hy
        refine at_skip rfl ?_
        refine at_seq [1, 0, 1, 0, 0, 1, 1, 0, 0, 1, 1, 0] [1, 0, 1, 0, 0, 1, 1, 0, 0, 1, 1, 1] rfl ?_
        refine at_region rfl ?_
        refine at_mv 1 22 rfl rfl rfl (.inl rfl) rfl (by dsimp only [List.set]) ?_
        refine at_mv 7 23 rfl rfl rfl (.inl rfl) rfl (by dsimp only [List.set]) ?_
        first | (refine at_op (some 24) rfl rfl rfl rfl (op_idxL rfl fsl_Sapi_Tree (by first | decide | omega) (by first | assumption | exact idx_some (by assumption) | rfl) (by first | rfl | (simp [V.size]; done))) (by dsimp only [putD, List.set]) ?_) | (refine at_op (some 24) rfl rfl rfl rfl (opOK_un (op_idxL rfl fsl_Sapi_Tree (by first | decide | omega) (by first | assumption | exact idx_some (by assumption) | rfl) (by first | rfl | (simp [V.size]; done)))) (by dsimp only [putD, List.set]) ?_) | (refine at_op (some 24) rfl rfl rfl rfl (op_idxA rfl fsl_Sapi_Tree (by first | decide | omega) (by first | decide | omega)) (by dsimp only [putD, List.set]) ?_)
        first | (refine at_op (some 25) rfl rfl rfl rfl (op_loadRA rfl fagg_api_Tree) (by dsimp only [putD, List.set]) ?_) | (refine at_op (some 25) rfl rfl rfl rfl (op_loadPA rfl fagg_api_Tree rfl (by first | decide | simp) rfl) (by dsimp only [putD, List.set]) ?_)
        refine at_new 25 9 rfl rfl rfl rfl fzero_api_Tree rfl rfl rfl rfl (by decide) rfl rfl fagg_api_Tree (by first | rfl | (simp [V.size]; done)) rfl (by simp only [List.length_cons]; omega) (by dsimp only [List.set]) ?_
        refine at_end rfl ?_
        refine at_seq [1, 0, 1, 0, 0, 1, 1, 0, 0, 1, 1, 1, 0] [1, 0, 1, 0, 0, 1, 1, 0, 0, 1, 1, 1, 1] rfl ?_
        refine at_region rfl ?_
        refine at_mv 2 26 rfl rfl rfl (.inl rfl) rfl (by dsimp only [List.set]) ?_
        first | (refine at_op (some 27) rfl rfl rfl rfl (op_loadRA rfl fagg_api_Tree) (by dsimp only [putD, List.set]) ?_) | (refine at_op (some 27) rfl rfl rfl rfl (op_loadPA rfl fagg_api_Tree rfl (by first | decide | simp) rfl) (by dsimp only [putD, List.set]) ?_)
        first | (refine at_op (some 28) rfl rfl rfl rfl (op_loadRA rfl fagg_api_Tree) (by dsimp only [putD, List.set]) ?_) | (refine at_op (some 28) rfl rfl rfl rfl (op_loadPA rfl fagg_api_Tree rfl (by first | decide | simp) rfl) (by dsimp only [putD, List.set]) ?_)
        refine at_op (some 29) rfl rfl rfl rfl (op_call0 rfl rfl rfl rfl (hf x (List.mem_of_getElem? hx) y (List.mem_of_getElem? hy))) (by dsimp only [putD, List.set]) ?_
        refine at_mv 29 10 rfl rfl rfl (.inr rfl) rfl (by dsimp only [List.set]) ?_
        refine at_end rfl ?_
        refine at_seq [1, 0, 1, 0, 0, 1, 1, 0, 0, 1, 1, 1, 1, 0] [1, 0, 1, 0, 0, 1, 1, 0, 0, 1, 1, 1, 1, 1] rfl ?_
        refine at_region rfl ?_
        refine at_mv 10 30 rfl rfl rfl (.inl rfl) rfl (by dsimp only [List.set]) ?_
        refine at_op (some 31) rfl rfl rfl rfl (op_binI rfl rfl) (by dsimp only [putD, List.set]) ?_
        refine at_end rfl ?_
        refine at_cond [1, 0, 1, 0, 0, 1, 1, 0, 0, 1, 1, 1, 1, 1, 0] [1, 0, 1, 0, 0, 1, 1, 0, 0, 1, 1, 1, 1, 1, 1] rfl rfl (fun hc3 => ?_) (fun hc3 => ?_)
        · skip
          refine at_seq [1, 0, 1, 0, 0, 1, 1, 0, 0, 1, 1, 1, 1, 1, 0, 0] [1, 0, 1, 0, 0, 1, 1, 0, 0, 1, 1, 1, 1, 1, 0, 1] rfl ?_
          refine at_region rfl ?_
          refine at_mv 10 32 rfl rfl rfl (.inl rfl) rfl (by dsimp only [List.set]) ?_
          refine at_mv 32 6 rfl rfl rfl (.inr rfl) rfl (by dsimp only [List.set]) ?_
          refine at_end rfl ?_
          refine at_ret rfl (ret_one (t := 6) rfl rfl ?_ rfl)
          first | (rw [hb]; done) | (simp_all; done) | (simp_all; omega)
        · skip
          refine at_skip rfl ?_
          refine run_blk ?_
          refine at_region rfl ?_
          refine at_op (some 33) rfl rfl rfl rfl (op_binI rfl rfl) (by dsimp only [putD, List.set]) ?_
          refine at_mv 33 13 rfl rfl rfl (.inl rfl) rfl (by dsimp only [List.set]) ?_
          refine at_end rfl ?_
          rw [wrap_succ (by omega)]
          exact run_wk (.keep (.keep (.keep (.drop (.drop (.drop (.drop (.drop (.drop (.drop (.drop (.keep (.keep (.keep (.drop (.drop (.drop (.drop (.drop (.drop (.drop (.drop (.drop (.drop (.drop (.drop (.drop (.drop (.drop (.drop (.drop (.drop (.drop (.drop (.drop (.drop (.drop (.drop (.drop .nil))))))))))))))))))))))))))))))))))))))) (ih _ (by omega) (i + 1) rfl (by omega) (by simp_all))
    · skip
      have hge : a.length ≤ i := by simpa using hc1
      rw [cmpBy_end (by omega)] at hb
      refine at_exit rfl rfl ?_
      refine at_seq [1, 1, 0] [1, 1, 1] rfl ?_
      refine at_seq [1, 1, 0, 0] [1, 1, 0, 1] rfl ?_
      refine at_region rfl ?_
      refine at_mv 0 34 rfl rfl rfl (.inl rfl) rfl (by dsimp only [List.set]) ?_
      first | (refine at_op (some 35) rfl rfl rfl rfl (op_lenL rfl fu_Sapi_Tree) (by dsimp only [putD, List.set]) ?_) | (refine at_op (some 35) rfl rfl rfl rfl (opOK_un (op_lenL rfl fu_Sapi_Tree)) (by dsimp only [putD, List.set]) ?_) | (refine at_op (some 35) rfl rfl rfl rfl (op_lenA rfl fu_Sapi_Tree) (by dsimp only [putD, List.set]) ?_)
      refine at_mv 1 36 rfl rfl rfl (.inl rfl) rfl (by dsimp only [List.set]) ?_
      first | (refine at_op (some 37) rfl rfl rfl rfl (op_lenL rfl fu_Sapi_Tree) (by dsimp only [putD, List.set]) ?_) | (refine at_op (some 37) rfl rfl rfl rfl (opOK_un (op_lenL rfl fu_Sapi_Tree)) (by dsimp only [putD, List.set]) ?_) | (refine at_op (some 37) rfl rfl rfl rfl (op_lenA rfl fu_Sapi_Tree) (by dsimp only [putD, List.set]) ?_)
      refine at_op (some 38) rfl rfl rfl rfl (op_binI rfl rfl) (by dsimp only [putD, List.set]) ?_
      refine at_end rfl ?_
      refine at_cond [1, 1, 0, 1, 0] [1, 1, 0, 1, 1] rfl rfl (fun hc4 => ?_) (fun hc4 => ?_)
      · skip
        refine at_seq [1, 1, 0, 1, 0, 0] [1, 1, 0, 1, 0, 1] rfl ?_
        refine at_region rfl ?_
        refine at_mc 6 rfl rfl rfl (.inr rfl) (by dsimp only [constD]) (by dsimp only [List.set]) ?_
        refine at_end rfl ?_
        refine at_ret rfl (ret_one (t := 6) rfl rfl ?_ rfl)
        first | (rw [hb]; done) | (simp_all; done) | (simp_all; omega)
      · skip
        refine at_skip rfl ?_
        refine at_seq [1, 1, 1, 0] [1, 1, 1, 1] rfl ?_
        refine at_region rfl ?_
        refine at_mc 6 rfl rfl rfl (.inr rfl) (by dsimp only [constD]) (by dsimp only [List.set]) ?_
        refine at_end rfl ?_
        refine at_ret rfl (ret_one (t := 6) rfl rfl ?_ rfl)
        first | (rw [hb]; done) | (simp_all; done) | (simp_all; omega)

set_option maxRecDepth 20000 in
theorem compareF_spec (fo : FuncId) (fs cs : List V) (a b : List Tr) (c : Tr → Tr → Int) (hf : ∀ x ∈ a, ∀ y ∈ b, FSpec PP fo (fs.map .v ++ [dt x, dt y] ++ cs.map .v) σ0 (di (c x y)) σ0) (hs : a.length ≤ 1000000) : FSpec PP 48 [.v (vtl a), .v (vtl b), .v (.fn fo fs cs)] σ0 (di (cmpBy c a b)) σ0 := by
  refine spec_at cCompareF Try.func48 rfl (by kernel_rfl) (by first | decide | simp) _ (by dsimp only [Try.f48, List.length, Nat.reduceAdd, Nat.reduceSub, List.replicate, List.cons_append, List.nil_append]) ?_
  refine at_seq [0] [1] rfl ?_
  refine at_region rfl ?_
  refine at_mc 6 rfl rfl rfl (.inr rfl) (by dsimp only [constD]) (by dsimp only [List.set]) ?_
  refine at_end rfl ?_
  refine at_seq [1, 0] [1, 1] rfl ?_
  refine at_seq [1, 0, 0] [1, 0, 1] rfl ?_
  refine at_region rfl ?_
  refine at_mv 0 11 rfl rfl rfl (.inl rfl) rfl (by dsimp only [List.set]) ?_
  first | (refine at_op (some 12) rfl rfl rfl rfl (op_lenL rfl fu_Sapi_Tree) (by dsimp only [putD, List.set]) ?_) | (refine at_op (some 12) rfl rfl rfl rfl (opOK_un (op_lenL rfl fu_Sapi_Tree)) (by dsimp only [putD, List.set]) ?_) | (refine at_op (some 12) rfl rfl rfl rfl (op_lenA rfl fu_Sapi_Tree) (by dsimp only [putD, List.set]) ?_)
  refine at_mc 13 rfl rfl rfl (.inl rfl) (by dsimp only [constD]) (by dsimp only [List.set]) ?_
  refine at_end rfl ?_
  refine at_block [1, 0, 1, 0] 0 rfl ?_
  refine at_loop [1, 0, 1, 0, 0] rfl ?_
  try simp only [List.length_map, List.length_nil, Int.toNat_natCast]
  exact run_wk (.keep (.keep (.keep (.drop (.drop (.drop (.drop (.drop (.drop (.drop (.drop (.keep (.keep (.keep (.drop (.drop (.drop (.drop (.drop (.drop (.drop (.drop (.drop (.drop (.drop (.drop (.drop (.drop (.drop (.drop (.drop (.drop (.drop (.drop (.drop (.drop (.drop (.drop (.drop .nil))))))))))))))))))))))))))))))))))))))) (compareF_loop fo fs cs a b c hf hs _ 0 rfl (by omega) (by simp))

noncomputable def cTCompare : Code := Try.f31.body.getD .skip
set_option maxRecDepth 20000 in
theorem tcompare_ok (N : Nat) : ∀ (a b : Tr), a.size = N → a.size ≤ 1000000 → FSpec PP 31 [dt a, dt b] σ0 (di (cmpT a b)) σ0 := by
  induction N using Nat.strongRecOn with
  | _ N ih =>
  intro a b hN hs
  have hz := size_eq a
  have hkl := szl_len a.kids
  refine spec_at cTCompare Try.func31 rfl (by kernel_rfl) (by first | decide | simp) _ (by dsimp only [Try.f31, List.length, Nat.reduceAdd, Nat.reduceSub, List.replicate, List.cons_append, List.nil_append]) ?_
  refine at_seq [0] [1] rfl ?_
  refine at_region rfl ?_
  refine at_op (some 2) rfl rfl rfl rfl (op_boxI rfl rfl) (by dsimp only [putD, List.set]) ?_
  refine at_op (some 3) rfl rfl rfl rfl (op_boxI rfl rfl) (by dsimp only [putD, List.set]) ?_
  refine at_mc 4 rfl rfl rfl (.inr rfl) (by dsimp only [constD]) (by dsimp only [List.set]) ?_
  refine at_end rfl ?_
  refine at_seq [1, 0] [1, 1] rfl ?_
  refine at_draw mixed rfl [σ0] rfl ?_
  first | (refine da_quiet (some 5) rfl rfl rfl rfl (fun s hs => op_fieldP rfl ffld0_api_Tree (by decide)) (by dsimp only [putD, List.set]) ?_) | (refine da_quiet (some 5) rfl rfl rfl rfl (fun s hs => op_fieldR rfl ffld0_api_Tree (by decide) (by decide) rfl) (by dsimp only [putD, List.set]) ?_)
  first | (refine da_quiet (some 6) rfl rfl rfl rfl (fun s hs => op_loadR1 rfl fone_int rfl) (by dsimp only [putD, List.set]) ?_) | (refine da_quiet (some 6) rfl rfl rfl rfl (by intro s hs; simp only [List.mem_cons, List.not_mem_nil, or_false] at hs; rcases hs with rfl <;> exact op_loadP1 rfl fone_int rfl rfl) (by dsimp only [putD, List.set]) ?_)
  first | (refine da_quiet (some 7) rfl rfl rfl rfl (fun s hs => op_fieldP rfl ffld0_api_Tree (by decide)) (by dsimp only [putD, List.set]) ?_) | (refine da_quiet (some 7) rfl rfl rfl rfl (fun s hs => op_fieldR rfl ffld0_api_Tree (by decide) (by decide) rfl) (by dsimp only [putD, List.set]) ?_)
  first | (refine da_quiet (some 8) rfl rfl rfl rfl (fun s hs => op_loadR1 rfl fone_int rfl) (by dsimp only [putD, List.set]) ?_) | (refine da_quiet (some 8) rfl rfl rfl rfl (by intro s hs; simp only [List.mem_cons, List.not_mem_nil, or_false] at hs; rcases hs with rfl <;> exact op_loadP1 rfl fone_int rfl rfl) (by dsimp only [putD, List.set]) ?_)
  refine da_quiet (some 9) rfl rfl rfl rfl (fun s hs => op_call0 rfl rfl rfl rfl (compare_spec _ _)) (by dsimp only [putD, List.set]) ?_
  first | (refine da_quiet (some 10) rfl rfl rfl rfl (fun s hs => op_fieldP rfl ffld1_api_Tree (by decide)) (by dsimp only [putD, List.set]) ?_) | (refine da_quiet (some 10) rfl rfl rfl rfl (fun s hs => op_fieldR rfl ffld1_api_Tree (by decide) (by decide) rfl) (by dsimp only [putD, List.set]) ?_)
  first | (refine da_quiet (some 11) rfl rfl rfl rfl (fun s hs => op_loadR1 rfl fone_Sapi_Tree rfl) (by dsimp only [putD, List.set]) ?_) | (refine da_quiet (some 11) rfl rfl rfl rfl (by intro s hs; simp only [List.mem_cons, List.not_mem_nil, or_false] at hs; rcases hs with rfl <;> exact op_loadP1 rfl fone_Sapi_Tree rfl rfl) (by dsimp only [putD, List.set]) ?_)
  first | (refine da_quiet (some 12) rfl rfl rfl rfl (fun s hs => op_lenL rfl fu_Sapi_Tree) (by dsimp only [putD, List.set]) ?_) | (refine da_quiet (some 12) rfl rfl rfl rfl (fun s hs => opOK_un (op_lenL rfl fu_Sapi_Tree)) (by dsimp only [putD, List.set]) ?_) | (refine da_quiet (some 12) rfl rfl rfl rfl (fun s hs => op_lenA rfl fu_Sapi_Tree) (by dsimp only [putD, List.set]) ?_)
  first | (refine da_quiet (some 13) rfl rfl rfl rfl (fun s hs => op_fieldP rfl ffld1_api_Tree (by decide)) (by dsimp only [putD, List.set]) ?_) | (refine da_quiet (some 13) rfl rfl rfl rfl (fun s hs => op_fieldR rfl ffld1_api_Tree (by decide) (by decide) rfl) (by dsimp only [putD, List.set]) ?_)
  first | (refine da_quiet (some 14) rfl rfl rfl rfl (fun s hs => op_loadR1 rfl fone_Sapi_Tree rfl) (by dsimp only [putD, List.set]) ?_) | (refine da_quiet (some 14) rfl rfl rfl rfl (by intro s hs; simp only [List.mem_cons, List.not_mem_nil, or_false] at hs; rcases hs with rfl <;> exact op_loadP1 rfl fone_Sapi_Tree rfl rfl) (by dsimp only [putD, List.set]) ?_)
  first | (refine da_quiet (some 15) rfl rfl rfl rfl (fun s hs => op_lenL rfl fu_Sapi_Tree) (by dsimp only [putD, List.set]) ?_) | (refine da_quiet (some 15) rfl rfl rfl rfl (fun s hs => opOK_un (op_lenL rfl fu_Sapi_Tree)) (by dsimp only [putD, List.set]) ?_) | (refine da_quiet (some 15) rfl rfl rfl rfl (fun s hs => op_lenA rfl fu_Sapi_Tree) (by dsimp only [putD, List.set]) ?_)
  refine da_quiet (some 16) rfl rfl rfl rfl (fun s hs => op_call0 rfl rfl rfl rfl (compare_spec _ _)) (by dsimp only [putD, List.set]) ?_
  simp only [List.length_map]
  first | (refine da_quiet (some 17) rfl rfl rfl rfl (fun s hs => op_fieldP rfl ffld1_api_Tree (by decide)) (by dsimp only [putD, List.set]) ?_) | (refine da_quiet (some 17) rfl rfl rfl rfl (fun s hs => op_fieldR rfl ffld1_api_Tree (by decide) (by decide) rfl) (by dsimp only [putD, List.set]) ?_)
  first | (refine da_quiet (some 18) rfl rfl rfl rfl (fun s hs => op_loadR1 rfl fone_Sapi_Tree rfl) (by dsimp only [putD, List.set]) ?_) | (refine da_quiet (some 18) rfl rfl rfl rfl (by intro s hs; simp only [List.mem_cons, List.not_mem_nil, or_false] at hs; rcases hs with rfl <;> exact op_loadP1 rfl fone_Sapi_Tree rfl rfl) (by dsimp only [putD, List.set]) ?_)
  first | (refine da_quiet (some 19) rfl rfl rfl rfl (fun s hs => op_fieldP rfl ffld1_api_Tree (by decide)) (by dsimp only [putD, List.set]) ?_) | (refine da_quiet (some 19) rfl rfl rfl rfl (fun s hs => op_fieldR rfl ffld1_api_Tree (by decide) (by decide) rfl) (by dsimp only [putD, List.set]) ?_)
  first | (refine da_quiet (some 20) rfl rfl rfl rfl (fun s hs => op_loadR1 rfl fone_Sapi_Tree rfl) (by dsimp only [putD, List.set]) ?_) | (refine da_quiet (some 20) rfl rfl rfl rfl (by intro s hs; simp only [List.mem_cons, List.not_mem_nil, or_false] at hs; rcases hs with rfl <;> exact op_loadP1 rfl fone_Sapi_Tree rfl rfl) (by dsimp only [putD, List.set]) ?_)
  refine da_quiet (some 21) rfl rfl rfl rfl (fun s hs => op_call0 rfl rfl rfl rfl (compareF_spec 31 [] [] a.kids b.kids cmpT (fun x hx y _ => ih x.size (by have := szl_mem hx; omega) x y rfl (by have := szl_mem hx; omega)) (by omega))) (by dsimp only [putD, List.set]) ?_
  refine da_quiet (some 22) rfl rfl rfl rfl (fun s hs => op_buildSlice rfl (by rfl) (by rfl) fsl_Sint rfl rfl (by simp [V.size]) (by decide) (by decide) (by decide)) (by dsimp only [putD, List.set]) ?_
  refine da_quiet (some 23) rfl rfl rfl rfl (fun s hs => op_call0 rfl rfl rfl rfl (or_spec [ord a.lab b.lab, ord a.kids.length b.kids.length, cmpBy cmpT a.kids b.kids] (by simp))) (by dsimp only [putD, List.set]) ?_
  refine da_mv 23 4 rfl rfl rfl (.inr rfl) rfl (by dsimp only [List.set]) ?_
  refine da_end rfl ⟨by decide +kernel, _, rfl, ?_⟩
  refine at_ret rfl (ret_one (t := 4) rfl rfl ?_ rfl)
  rw [cmpT_eq, orL3]

noncomputable def cTCompareX : Code := Try.f15.body.getD .skip
set_option maxRecDepth 20000 in
theorem tcompareX_spec (a b : Tr) (ha : a.size ≤ 1000000) (hb : b.size ≤ 1000000) : FSpec PP 15 [dt a, dt b] σ0 (di (cmpX a b)) σ0 := by
  refine spec_at cTCompareX Try.func15 rfl (by kernel_rfl) (by first | decide | simp) _ (by dsimp only [Try.f15, List.length, Nat.reduceAdd, Nat.reduceSub, List.replicate, List.cons_append, List.nil_append]) ?_
  refine at_seq [0] [1] rfl ?_
  refine at_region rfl ?_
  refine at_op (some 2) rfl rfl rfl rfl (op_boxI rfl rfl) (by dsimp only [putD, List.set]) ?_
  refine at_op (some 3) rfl rfl rfl rfl (op_boxI rfl rfl) (by dsimp only [putD, List.set]) ?_
  refine at_mc 4 rfl rfl rfl (.inr rfl) (by dsimp only [constD]) (by dsimp only [List.set]) ?_
  refine at_end rfl ?_
  refine at_seq [1, 0] [1, 1] rfl ?_
  refine at_seq [1, 0, 0] [1, 0, 1] rfl ?_
  refine at_draw mixed rfl [σ0] rfl ?_
  first | (refine da_quiet (some 7) rfl rfl rfl rfl (fun s hs => op_loadRA rfl fagg_api_Tree) (by dsimp only [putD, List.set]) ?_) | (refine da_quiet (some 7) rfl rfl rfl rfl (by intro s hs; simp only [List.mem_cons, List.not_mem_nil, or_false] at hs; rcases hs with rfl <;> exact op_loadPA rfl fagg_api_Tree rfl (by first | decide | simp) rfl) (by dsimp only [putD, List.set]) ?_)
  refine da_quiet (some 8) rfl rfl rfl rfl (fun s hs => op_call0 rfl rfl rfl rfl (tsmall_spec a (by omega))) (by dsimp only [putD, List.set]) ?_
  first | (refine da_quiet (some 9) rfl rfl rfl rfl (fun s hs => op_loadRA rfl fagg_api_Tree) (by dsimp only [putD, List.set]) ?_) | (refine da_quiet (some 9) rfl rfl rfl rfl (by intro s hs; simp only [List.mem_cons, List.not_mem_nil, or_false] at hs; rcases hs with rfl <;> exact op_loadPA rfl fagg_api_Tree rfl (by first | decide | simp) rfl) (by dsimp only [putD, List.set]) ?_)
  refine da_quiet (some 10) rfl rfl rfl rfl (fun s hs => op_call0 rfl rfl rfl rfl (tsmall_spec b (by omega))) (by dsimp only [putD, List.set]) ?_
  refine da_mv 8 5 rfl rfl rfl (.inr rfl) rfl (by dsimp only [List.set]) ?_
  refine da_mv 10 6 rfl rfl rfl (.inr rfl) rfl (by dsimp only [List.set]) ?_
  refine da_end rfl ⟨by decide +kernel, _, rfl, ?_⟩
  refine at_block [1, 0, 1, 0] 0 rfl ?_
  refine at_seq [1, 0, 1, 0, 0] [1, 0, 1, 0, 1] rfl ?_
  refine at_region rfl ?_
  refine at_mv 5 12 rfl rfl rfl (.inl rfl) rfl (by dsimp only [List.set]) ?_
  refine at_mv 12 13 rfl rfl rfl (.inl rfl) rfl (by dsimp only [List.set]) ?_
  refine at_split 13 rfl (fun hb1 env' he => ?_) (fun hb1 env' he => ?_)
  · dsimp only [List.set] at he; subst he
    refine at_mv 6 14 rfl rfl rfl (.inl rfl) rfl (by dsimp only [List.set]) ?_
    refine at_pk true 13 14 15 rfl rfl rfl rfl rfl rfl rfl (by dsimp only [List.set]) ?_
    refine at_mv 15 11 rfl rfl rfl (.inr rfl) rfl (by dsimp only [List.set]) ?_
    refine at_end rfl ?_
    refine at_cond [1, 0, 1, 0, 1, 0] [1, 0, 1, 0, 1, 1] rfl rfl (fun hc2 => ?_) (fun hc2 => ?_)
    · skip
      refine at_seq [1, 0, 1, 0, 1, 0, 0] [1, 0, 1, 0, 1, 0, 1] rfl ?_
      refine at_region rfl ?_
      first | (refine at_op (some 16) rfl rfl rfl rfl (op_loadRA rfl fagg_api_Tree) (by dsimp only [putD, List.set]) ?_) | (refine at_op (some 16) rfl rfl rfl rfl (op_loadPA rfl fagg_api_Tree rfl (by first | decide | simp) rfl) (by dsimp only [putD, List.set]) ?_)
      first | (refine at_op (some 17) rfl rfl rfl rfl (op_loadRA rfl fagg_api_Tree) (by dsimp only [putD, List.set]) ?_) | (refine at_op (some 17) rfl rfl rfl rfl (op_loadPA rfl fagg_api_Tree rfl (by first | decide | simp) rfl) (by dsimp only [putD, List.set]) ?_)
      refine at_op (some 18) rfl rfl rfl rfl (op_call0 rfl rfl rfl rfl (tcompare_ok _ a b rfl ha)) (by dsimp only [putD, List.set]) ?_
      refine at_mv 18 4 rfl rfl rfl (.inr rfl) rfl (by dsimp only [List.set]) ?_
      refine at_end rfl ?_
      refine at_ret rfl (ret_one (t := 4) rfl rfl ?_ rfl)
      unfold cmpX
      by_cases h1 : a.size ≤ 12 <;> by_cases h2 : b.size ≤ 12 <;> first | (simp only [h1, h2, if_true, if_false]; done) | (exfalso; simp_all; done)
    · skip
      refine at_seq [1, 0, 1, 0, 1, 1, 0] [1, 0, 1, 0, 1, 1, 1] rfl ?_
      refine at_region rfl ?_
      refine at_mv 5 20 rfl rfl rfl (.inl rfl) rfl (by dsimp only [List.set]) ?_
      refine at_mv 20 19 rfl rfl rfl (.inr rfl) rfl (by dsimp only [List.set]) ?_
      refine at_end rfl ?_
      refine at_cond [1, 0, 1, 0, 1, 1, 1, 0] [1, 0, 1, 0, 1, 1, 1, 1] rfl rfl (fun hc3 => ?_) (fun hc3 => ?_)
      · skip
        refine at_seq [1, 0, 1, 0, 1, 1, 1, 0, 0] [1, 0, 1, 0, 1, 1, 1, 0, 1] rfl ?_
        refine at_region rfl ?_
        refine at_mc 4 rfl rfl rfl (.inr rfl) (by dsimp only [constD]) (by dsimp only [List.set]) ?_
        refine at_end rfl ?_
        refine at_ret rfl (ret_one (t := 4) rfl rfl ?_ rfl)
        unfold cmpX
        by_cases h1 : a.size ≤ 12 <;> by_cases h2 : b.size ≤ 12 <;> first | (simp only [h1, h2, if_true, if_false]; done) | (exfalso; simp_all; done)
      · skip
        refine at_seq [1, 0, 1, 0, 1, 1, 1, 1, 0] [1, 0, 1, 0, 1, 1, 1, 1, 1] rfl ?_
        refine at_region rfl ?_
        refine at_mv 6 22 rfl rfl rfl (.inl rfl) rfl (by dsimp only [List.set]) ?_
        refine at_mv 22 21 rfl rfl rfl (.inr rfl) rfl (by dsimp only [List.set]) ?_
        refine at_end rfl ?_
        refine at_cond [1, 0, 1, 0, 1, 1, 1, 1, 1, 0] [1, 0, 1, 0, 1, 1, 1, 1, 1, 1] rfl rfl (fun hc4 => ?_) (fun hc4 => ?_)
        · skip
          refine at_seq [1, 0, 1, 0, 1, 1, 1, 1, 1, 0, 0] [1, 0, 1, 0, 1, 1, 1, 1, 1, 0, 1] rfl ?_
          refine at_region rfl ?_
          refine at_mc 4 rfl rfl rfl (.inr rfl) (by dsimp only [constD]) (by dsimp only [List.set]) ?_
          refine at_end rfl ?_
          refine at_ret rfl (ret_one (t := 4) rfl rfl ?_ rfl)
          unfold cmpX
          by_cases h1 : a.size ≤ 12 <;> by_cases h2 : b.size ≤ 12 <;> first | (simp only [h1, h2, if_true, if_false]; done) | (exfalso; simp_all; done)
        · skip
          refine at_skip rfl ?_
          refine run_blk ?_
          refine at_seq [1, 1, 0] [1, 1, 1] rfl ?_
          refine at_region rfl ?_
          refine at_mc 4 rfl rfl rfl (.inr rfl) (by dsimp only [constD]) (by dsimp only [List.set]) ?_
          refine at_end rfl ?_
          refine at_ret rfl (ret_one (t := 4) rfl rfl ?_ rfl)
          unfold cmpX
          by_cases h1 : a.size ≤ 12 <;> by_cases h2 : b.size ≤ 12 <;> first | (simp only [h1, h2, if_true, if_false]; done) | (exfalso; simp_all; done)
  · dsimp only [List.set] at he; subst he
    refine at_opN (some 14) rfl rfl rfl (by dsimp only [putD, List.set]) ?_
    refine at_pkc false 13 15 rfl rfl rfl rfl rfl rfl (by dsimp only [constD]) (by dsimp only [List.set]) ?_
    refine at_mv 15 11 rfl rfl rfl (.inr rfl) rfl (by dsimp only [List.set]) ?_
    refine at_end rfl ?_
    refine at_false [1, 0, 1, 0, 1, 0] [1, 0, 1, 0, 1, 1] rfl rfl ?_
    refine at_seq [1, 0, 1, 0, 1, 1, 0] [1, 0, 1, 0, 1, 1, 1] rfl ?_
    refine at_region rfl ?_
    refine at_mv 5 20 rfl rfl rfl (.inl rfl) rfl (by dsimp only [List.set]) ?_
    refine at_mv 20 19 rfl rfl rfl (.inr rfl) rfl (by dsimp only [List.set]) ?_
    refine at_end rfl ?_
    refine at_cond [1, 0, 1, 0, 1, 1, 1, 0] [1, 0, 1, 0, 1, 1, 1, 1] rfl rfl (fun hc5 => ?_) (fun hc5 => ?_)
    · skip
      refine at_seq [1, 0, 1, 0, 1, 1, 1, 0, 0] [1, 0, 1, 0, 1, 1, 1, 0, 1] rfl ?_
      refine at_region rfl ?_
      refine at_mc 4 rfl rfl rfl (.inr rfl) (by dsimp only [constD]) (by dsimp only [List.set]) ?_
      refine at_end rfl ?_
      refine at_ret rfl (ret_one (t := 4) rfl rfl ?_ rfl)
      unfold cmpX
      by_cases h1 : a.size ≤ 12 <;> by_cases h2 : b.size ≤ 12 <;> first | (simp only [h1, h2, if_true, if_false]; done) | (exfalso; simp_all; done)
    · skip
      refine at_seq [1, 0, 1, 0, 1, 1, 1, 1, 0] [1, 0, 1, 0, 1, 1, 1, 1, 1] rfl ?_
      refine at_region rfl ?_
      refine at_mv 6 22 rfl rfl rfl (.inl rfl) rfl (by dsimp only [List.set]) ?_
      refine at_mv 22 21 rfl rfl rfl (.inr rfl) rfl (by dsimp only [List.set]) ?_
      refine at_end rfl ?_
      refine at_cond [1, 0, 1, 0, 1, 1, 1, 1, 1, 0] [1, 0, 1, 0, 1, 1, 1, 1, 1, 1] rfl rfl (fun hc6 => ?_) (fun hc6 => ?_)
      · skip
        refine at_seq [1, 0, 1, 0, 1, 1, 1, 1, 1, 0, 0] [1, 0, 1, 0, 1, 1, 1, 1, 1, 0, 1] rfl ?_
        refine at_region rfl ?_
        refine at_mc 4 rfl rfl rfl (.inr rfl) (by dsimp only [constD]) (by dsimp only [List.set]) ?_
        refine at_end rfl ?_
        refine at_ret rfl (ret_one (t := 4) rfl rfl ?_ rfl)
        unfold cmpX
        by_cases h1 : a.size ≤ 12 <;> by_cases h2 : b.size ≤ 12 <;> first | (simp only [h1, h2, if_true, if_false]; done) | (exfalso; simp_all; done)
      · skip
        refine at_skip rfl ?_
        refine run_blk ?_
        refine at_seq [1, 1, 0] [1, 1, 1] rfl ?_
        refine at_region rfl ?_
        refine at_mc 4 rfl rfl rfl (.inr rfl) (by dsimp only [constD]) (by dsimp only [List.set]) ?_
        refine at_end rfl ?_
        refine at_ret rfl (ret_one (t := 4) rfl rfl ?_ rfl)
        unfold cmpX
        by_cases h1 : a.size ≤ 12 <;> by_cases h2 : b.size ≤ 12 <;> first | (simp only [h1, h2, if_true, if_false]; done) | (exfalso; simp_all; done)

end Go.Proofs.Ytaceggcohmmfhaa

namespace Go.Proofs.Ytaceggcohmmfhaa
open Go.Dv Go.RowKit

/-- what is known of a slice of integers that came in -/
def IsRow (k : IntKind) (w : World) (a : Option Addr) (len cap : Nat) (zs : List Int) : Prop :=
  (a = none ∧ len = 0 ∧ cap = 0 ∧ zs = []) ∨
  ∃ x, a = some x ∧ len ≤ cap ∧ cap ≤ maxLen ∧ zs.length = cap ∧ (∀ i, i < zs.length → w.cell? (x.add i) = some (.int k (zs.getD i 0))) ∧ ∀ n ∈ zs, (Lit.int k n).wf = true

/-- all that can be read -/
def memOf (w : World) : Mem := fun b o => w.cell? ⟨b, o, none⟩
def g0 (w : World) : Gh := { M := memOf w, β := fun _ => 0, n := 0, ι := fun _ _ => none, κ := fun _ => 0 }

theorem wrep0 (w : World) : WRep (g0 w) ⟨[], []⟩ w where
  n := rfl
  mem := fun b o v h => h
  obj := fun i cs hi => by simp at hi
  inj := fun i j cs ds hi => by simp at hi
  own := fun k sz xs hx => by simp at hx
  tags := by simp
  sep := fun x hx => by simp at hx
  ownObj := fun x hx => by simp at hx
  fresh := fun _ _ _ => rfl
  gl := ⟨fun p hp => by simp [GLOB] at hp, trivial⟩
  gw := fun p hp => by simp [GSIZE] at hp

theorem repE_ints (M : Mem) (k : IntKind) : ∀ xs : List Int, repE M 1 (xs.map (V.int k)) (xs.map (Value.int k))
  | [] => by simp [repE]
  | x :: xs => by simp only [List.map_cons, repE]; exact ⟨[.int k x], xs.map (Value.int k), rfl, rfl, by simp [repC], repE_ints M k xs⟩

theorem isRow_rep {k : IntKind} {w : World} {a : Option Addr} {len cap : Nat} {zs : List Int} (h : IsRow k w a len cap zs) : repV (memOf w) (.list ((zs.take len).map (V.int k))) (.slice a len cap) := by
  rw [repV_list]
  rcases h with ⟨rfl, rfl, rfl, rfl⟩ | ⟨x, rfl, hl, _, hz, hc, _⟩
  · exact ⟨none, 0, rfl, Nat.le_refl _, .inl rfl⟩
  · have hlen : ((zs.take len).map (V.int k)).length = len := by simp; omega
    refine ⟨some x, cap, by rw [hlen], by rw [hlen]; exact hl, ?_⟩
    rcases Nat.eq_zero_or_pos len with h0 | hpos
    · exact .inl (List.eq_nil_of_length_eq_zero (by rw [hlen]; exact h0))
    · right
      have hspot : x.spot = none := by
        have h0 := hc 0 (by omega)
        cases hs : x.spot with
        | none => rfl
        | some s =>
          have : x.add 0 = x := by simp [Addr.add]
          rw [this] at h0
          unfold World.cell? at h0
          split at h0
          · rw [hs] at h0; simp at h0
          · simp at h0
      obtain ⟨b, off, spot⟩ := x
      simp only at hspot
      subst hspot
      refine ⟨b, off, 1, (zs.take len).map (Value.int k), rfl, by omega, fun j v hj => ?_, repE_ints _ k _⟩
      simp only [List.getElem?_map] at hj
      cases hz2 : (zs.take len)[j]? with
      | none => simp [hz2] at hj
      | some z =>
        simp [hz2] at hj
        have hjl : j < len := by have := (List.getElem?_eq_some_iff.1 hz2).1; simp at this; omega
        have hzj : zs[j]? = some z := by rw [List.getElem?_take] at hz2; simpa [hjl] using hz2
        have := hc j (by omega)
        rw [Addr.add_lit] at this
        simp only [memOf]
        rw [this, ← hj]
        simp [List.getD_eq_getElem?_getD, hzj]

theorem below_of {w w' : World} {g' : Gh} {σ' : St} (h : WI ⟨g0 w, w, ⟨[], []⟩⟩ g' σ' w') : Below w.heap.size w w' := by
  exact ⟨h.os, h.tape, h.output, h.size, fun b hb => (h.keep b hb not_priv).1⟩

end Go.Proofs.Ytaceggcohmmfhaa
