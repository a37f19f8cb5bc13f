/-
  The deck deals trees, walked.
-/
import Derived.Test.YtoofgniepbidnaaWm
import Derived.Test.YtoofgniepbidnaaWd
namespace Go.Proofs.Ytoofgniepbidnaa
open Go.Dv Tr

mutual
def treeM (l : List Int) (lb : Int) : Nat → Nat → Nat × Int → Tr × (Nat × Int)
  | 0, _, s => (.mk 0 [], s)
  | n + 1, most, s => (.mk (nextV lb (dn l s).2) (kidsM l lb n (most - 1) (dn l s)).1, (kidsM l lb n (most - 1) (dn l s)).2)
def kidsM (l : List Int) (lb : Int) : Nat → Nat → Nat × Int → List Tr × (Nat × Int)
  | 0, _, s => ([], s)
  | n + 1, left, s =>
    if left = 0 then ([], s)
    else if nextV 3 (dn l s).2 == 0 then ([], dn l s)
    else
      let k := 1 + (nextV left (dn l (dn l s)).2).toNat
      let r := treeM l lb n k (dn l (dn l s))
      (r.1 :: (kidsM l lb n (left - k) r.2).1, (kidsM l lb n (left - k) r.2).2)
end
/-- labels within a range -/
inductive LabIn (lb : Int) : Tr → Prop
  | mk {x : Int} {ks : List Tr} (h : 0 ≤ x ∧ x < lb) (hk : ∀ k ∈ ks, LabIn lb k) : LabIn lb (.mk x ks)
theorem treeM_ok (l : List Int) (lb : Int) (hlb : 1 ≤ lb) : ∀ n : Nat, (∀ most s, 1 ≤ most → (treeM l lb n most s).1.size ≤ most ∧ LabIn lb (treeM l lb n most s).1) ∧ (∀ left s, szl (kidsM l lb n left s).1 ≤ left ∧ ∀ k ∈ (kidsM l lb n left s).1, LabIn lb k)
  | 0 => ⟨fun most s h => by simp [treeM, size, szl]; exact ⟨h, .mk ⟨by omega, by omega⟩ (by simp)⟩, fun left s => by simp [kidsM, szl]⟩
  | n + 1 => by
    obtain ⟨ih1, ih2⟩ := treeM_ok l lb hlb n
    refine ⟨fun most s h => ?_, fun left s => ?_⟩
    · simp only [treeM, size]
      have := ih2 (most - 1) (dn l s)
      exact ⟨by omega, .mk (nextV_range hlb) this.2⟩
    · simp only [kidsM]
      split
      · simp [szl]
      · split
        · simp [szl]
        · rename_i h0 _
          have hr := nextV_range (n := (left : Int)) (s := (dn l (dn l s)).2) (by omega)
          have h1 := ih1 (1 + (nextV left (dn l (dn l s)).2).toNat) (dn l (dn l s)) (by omega)
          have h2 := ih2 (left - (1 + (nextV left (dn l (dn l s)).2).toNat)) (treeM l lb n (1 + (nextV left (dn l (dn l s)).2).toNat) (dn l (dn l s))).2
          simp only [szl_cons, List.mem_cons]
          refine ⟨by omega, ?_⟩
          rintro k (rfl | hk)
          · exact h1.2
          · exact h2.2 k hk
abbrev trSt (l : List Int) (s : Nat × Int) (lab : Int) (acc : List Tr) : St := ⟨[some (dk l s.1 s.2), some [di 0, .v (.list [])], some [di lab, .acc 1 (acc.map vt)]], [(1, 2, acc.map vt)]⟩
theorem ret_tree {P : Program} {fn : Func} {env : List D} {l : List Int} {s : Nat × Int} {t : Tr} {c : Option (List D)} {own : List (Nat × Nat × List V)} {ty : TypeId} (hr : fn.results.toList = [.cell 6 ty]) (ht : AggTy P ty 2) (he : env[6]? = some (.ptr 1 0)) :
    ResOK P fn env ⟨[some (dk l s.1 s.2), some [di t.lab, .v (vtl t.kids)], c], own⟩ (dt t) (σd l s.1 s.2) := by
  refine res_ok (ds := [dt t]) ?_ rfl 1 rfl (by simp) (fun i cs hi => ?_) (by simp) rfl
  · rw [hr]; exact .cellA (n := 2) (cs := [di t.lab, .v (vtl t.kids)]) he rfl ht (by simp) rfl .nil
  · match i, hi with
    | 0, hi => simp at hi; subst hi; rfl
    | i + 1, hi => simp at hi

noncomputable def cTree : Code := Try.f27.body.getD .skip
set_option maxRecDepth 20000 in
theorem tree_loop (l : List Int) (hs : l.length ≤ 1000000) (lb : Int) (hlb : 1 ≤ lb) (N : Nat) (ih : ∀ n, n < N → ∀ (m : Nat) (s : Nat × Int), 1 ≤ m → m ≤ 1000000 → 2 * m ≤ n → FSpec PP 27 [.ptr 0 0, di lb, di ↑m] (σd l (s).1 (s).2) (dt (treeM l lb n m s).1) (σd l (treeM l lb n m s).2.1 (treeM l lb n m s).2.2)) (lab : Int) (T : Tr × (Nat × Int)) (n : Nat) : ∀ (left : Nat) (s : Nat × Int) (acc : List Tr), n < N → 2 * left + 1 ≤ n → left ≤ 1000000 → acc.length + left ≤ 1000000 → T = (.mk lab (acc ++ (kidsM l lb n left s).1), (kidsM l lb n left s).2) → Run PP (fun env σ1 => ResOK PP Try.f27 env σ1 (dt T.1) (σd l T.2.1 T.2.2)) [.lp (sub cTree [1, 1, 1, 0, 0, 0]), .blk 0, .code (sub cTree [1, 1, 1, 1])] ((.ptr 0 0) :: (di lb) :: .undef :: .undef :: .undef :: .undef :: (.ptr 1 0) :: (.ptr 2 0) :: (di ↑left) :: .undef :: .undef :: .undef :: .undef :: .undef :: .undef :: .undef :: .undef :: .undef :: .undef :: .undef :: .undef :: .undef :: .undef :: .undef :: .undef :: .undef :: .undef :: .undef :: .undef :: .undef :: .undef :: .undef :: .undef :: .undef :: .undef :: .undef :: .undef :: .undef :: .undef :: .undef :: []) (trSt l s lab acc) := by
  induction n with
  | zero => intro left s acc hN hf; omega
  | succ n ihn =>
    intro left s acc hN hf hl hal hT
    simp only [kidsM] at hT
    refine run_lp ?_
    refine at_seq [1, 1, 1, 0, 0, 0, 0] [1, 1, 1, 0, 0, 0, 1] rfl ?_
    refine at_seq [1, 1, 1, 0, 0, 0, 0, 0] [1, 1, 1, 0, 0, 0, 0, 1] rfl ?_
    refine at_region rfl ?_
    refine at_mv 8 16 rfl rfl rfl (.inl rfl) rfl (by dsimp only [List.set]) ?_
    refine at_op (some 17) rfl rfl rfl rfl (op_binI rfl rfl) (by dsimp only [putD, List.set]) ?_
    refine at_mv 17 18 rfl rfl rfl (.inl rfl) rfl (by dsimp only [List.set]) ?_
    refine at_split 18 rfl (fun hb1 env' he => ?_) (fun hb1 env' he => ?_)
    · dsimp only [List.set] at he; subst he
      have hpos : 1 ≤ left := by simp at hb1; omega
      rw [if_neg (by omega)] at hT
      refine at_mv 0 19 rfl rfl rfl (.inl rfl) rfl (by dsimp only [List.set]) ?_
      refine at_opS (some 20) rfl rfl rfl rfl (op_call1 rfl rfl rfl rfl rfl (.ptr (.pl rfl .nil)) rfl (one_spec l _ _ hs _ (by omega))) (by dsimp only [putD, List.set]) (by dsimp only [List.set, List.append, List.cons_append, List.nil_append, cellsD, List.map, repl, List.length, Nat.reduceAdd, if_true, ↓reduceIte]; first | done | rfl) ?_
      refine at_op (some 21) rfl rfl rfl rfl (op_un rfl rfl) (by dsimp only [putD, List.set]) ?_
      refine at_pk true 18 21 22 rfl rfl rfl rfl rfl rfl rfl (by dsimp only [List.set]) ?_
      refine at_end rfl ?_
      refine at_cond [1, 1, 1, 0, 0, 0, 0, 1, 0] [1, 1, 1, 0, 0, 0, 0, 1, 1] rfl rfl (fun hc2 => ?_) (fun hc2 => ?_)
      · skip
        have h3 : (nextV 3 (dn l s).2 == 0) = false := by simpa [dn] using hc2
        rw [if_neg (by rw [h3]; simp)] at hT
        have hr := nextV_range (n := (left : Int)) (s := (dn l (dn l s)).2) (by omega)
        obtain ⟨k0, hk0⟩ := Int.eq_ofNat_of_zero_le hr.1
        rw [hk0] at hT hr
        rw [Int.toNat_natCast] at hT
        refine at_skip rfl ?_
        refine at_block [1, 1, 1, 0, 0, 0, 1, 0] 1 rfl ?_
        refine at_seq [1, 1, 1, 0, 0, 0, 1, 0, 0] [1, 1, 1, 0, 0, 0, 1, 0, 1] rfl ?_
        refine at_region rfl ?_
        refine at_mv 0 23 rfl rfl rfl (.inl rfl) rfl (by dsimp only [List.set]) ?_
        refine at_mv 8 24 rfl rfl rfl (.inl rfl) rfl (by dsimp only [List.set]) ?_
        refine at_opS (some 25) rfl rfl rfl rfl (op_call1 rfl rfl rfl rfl rfl (.ptr (.pl rfl .nil)) rfl (next_spec l _ _ hs _ (by omega))) (by dsimp only [putD, List.set]) (by dsimp only [List.set, List.append, List.cons_append, List.nil_append, cellsD, List.map, repl, List.length, Nat.reduceAdd, if_true, ↓reduceIte]; first | done | rfl) ?_
        rw [show nextV ↑left (dkSt l (dkAt l s.1) (dkSt l s.1 s.2)) = (k0 : Int) from hk0]
        refine at_op (some 26) rfl rfl rfl rfl (op_binI rfl rfl) (by dsimp only [putD, List.set]) ?_
        rw [wrap_id (by omega) (by omega), show (1 : Int) + (k0 : Int) = ((1 + k0 : Nat) : Int) by omega]
        generalize hkk : 1 + k0 = k at hT ⊢
        have ih1 := ih n (by omega) k (dn l (dn l s)) (by omega) (by omega) (by omega)
        generalize hr1 : treeM l lb n k (dn l (dn l s)) = r at hT ih1
        refine at_mv 26 9 rfl rfl rfl (.inr rfl) rfl (by dsimp only [List.set]) ?_
        refine at_end rfl ?_
        refine at_seq [1, 1, 1, 0, 0, 0, 1, 0, 1, 0] [1, 1, 1, 0, 0, 0, 1, 0, 1, 1] rfl ?_
        refine at_draw mixed rfl [trSt l (dn l (dn l s)) lab acc, trSt l r.2 lab acc, ⟨(trSt l r.2 lab acc).H, [(1, 2, acc.map vt ++ [.agg [vi r.1.lab, vtl r.1.kids]])]⟩, ⟨[some (dk l r.2.1 r.2.2), some [di 0, .v (.list [])], some [di lab, .acc 1 (acc.map vt ++ [.agg [vi r.1.lab, vtl r.1.kids]])]], [(1, 2, acc.map vt ++ [.agg [vi r.1.lab, vtl r.1.kids]])]⟩] rfl ?_
        first | (refine da_quiet (some 27) rfl rfl rfl rfl (fun s hs => op_fieldP rfl ffld1_api_Tree (by decide)) (by dsimp only [putD, List.set]) ?_) | (refine da_quiet (some 27) rfl rfl rfl rfl (fun s hs => op_fieldR rfl ffld1_api_Tree (by decide) (by decide) rfl) (by dsimp only [putD, List.set]) ?_)
        refine da_quietW 2 (some 28) rfl rfl rfl rfl (by intro s hs; simp only [List.take_succ_cons, List.take_zero, List.mem_cons, List.not_mem_nil, or_false] at hs; rcases hs with rfl | rfl | rfl <;> exact op_loadP1 rfl fone_Sapi_Tree rfl rfl) (by dsimp only [putD, List.set]) ?_
        refine da_mv 0 29 rfl rfl rfl (.inl rfl) rfl (by dsimp only [List.set]) ?_
        refine da_mv 1 30 rfl rfl rfl (.inl rfl) rfl (by dsimp only [List.set]) ?_
        refine da_mv 9 31 rfl rfl rfl (.inl rfl) rfl (by dsimp only [List.set]) ?_
        refine da_eff (some 32) rfl rfl rfl rfl rfl rfl (op_call1 rfl rfl rfl rfl rfl (.ptr (.pl rfl (.pl rfl .nil))) rfl ih1) (by dsimp only [putD, List.set]) ?_
        refine da_quiet (some 33) rfl rfl rfl rfl (fun s hs => op_buildSlice rfl (by rfl) (by rfl) fsl_Sapi_Tree rfl rfl (by simp [V.size]) (by decide) (by decide) (by decide)) (by dsimp only [putD, List.set]) ?_
        refine da_eff (some 34) rfl rfl rfl rfl rfl rfl (op_append rfl fsl_Sapi_Tree rfl (by simp) (by simp [V.size, vt_eq]) (by simp; omega) (by simp; omega)) (by dsimp only [putD, List.set]) ?_
        first | (refine da_quiet (some 35) rfl rfl rfl rfl (fun s hs => op_fieldP rfl ffld1_api_Tree (by decide)) (by dsimp only [putD, List.set]) ?_) | (refine da_quiet (some 35) rfl rfl rfl rfl (fun s hs => op_fieldR rfl ffld1_api_Tree (by decide) (by decide) rfl) (by dsimp only [putD, List.set]) ?_)
        refine da_st1 35 (.tmp 34) rfl rfl rfl rfl rfl rfl rfl (ev_tmp rfl) rfl fone_Sapi_Tree rfl (by first | decide | simp | (simp; omega)) (by first | rfl | (dsimp only [List.set, List.append, List.cons_append, List.nil_append, cellsD, List.map, repl, List.length, Nat.reduceAdd, if_true, ↓reduceIte]; first | done | rfl)) ?_
        refine da_end rfl ⟨by decide +kernel, _, rfl, ?_⟩
        rw [← vt_eq, show acc.map vt ++ [vt r.1] = (acc ++ [r.1]).map vt from by simp]
        refine at_region rfl ?_
        refine at_mv 8 36 rfl rfl rfl (.inl rfl) rfl (by dsimp only [List.set]) ?_
        refine at_mv 9 37 rfl rfl rfl (.inl rfl) rfl (by dsimp only [List.set]) ?_
        refine at_op (some 38) rfl rfl rfl rfl (op_binI rfl rfl) (by dsimp only [putD, List.set]) ?_
        rw [wrap_id (by omega) (by omega), show (left : Int) - (k : Int) = ((left - k : Nat) : Int) by omega]
        refine at_mv 38 8 rfl rfl rfl (.inr rfl) rfl (by dsimp only [List.set]) ?_
        refine at_end rfl ?_
        refine run_blk ?_
        exact run_wk (.keep (.keep (.drop (.drop (.drop (.drop (.keep (.keep (.keep (.drop (.drop (.drop (.drop (.drop (.drop (.drop (.drop (.drop (.drop (.drop (.drop (.drop (.drop (.drop (.drop (.drop (.drop (.drop (.drop (.drop (.drop (.drop (.drop (.drop (.drop (.drop (.drop (.drop (.drop (.drop .nil)))))))))))))))))))))))))))))))))))))))) (ihn (left - k) r.2 (acc ++ [r.1]) (by omega) (by omega) (by omega) (by simp; omega) (by rw [hT]; simp))
      · skip
        have h3 : (nextV 3 (dn l s).2 == 0) = true := by simpa [dn] using hc2
        rw [if_pos h3] at hT
        simp only [List.append_nil] at hT
        refine at_exit rfl rfl ?_
        refine at_seq [1, 1, 1, 1, 0] [1, 1, 1, 1, 1] rfl ?_
        refine at_region rfl ?_
        first | (refine at_op (some 39) rfl rfl rfl rfl (op_loadRA rfl fagg_api_Tree) (by dsimp only [putD, List.set]) ?_) | (refine at_op (some 39) rfl rfl rfl rfl (op_loadPA rfl fagg_api_Tree rfl (by first | decide | simp) rfl) (by dsimp only [putD, List.set]) ?_)
        refine at_stA 6 (.tmp 39) rfl rfl rfl rfl rfl (ev_tmp rfl) rfl fagg_api_Tree rfl rfl (by first | decide | simp | (simp; omega)) (by dsimp only [List.set, List.append, List.cons_append, List.nil_append, cellsD, List.map, repl, List.length, Nat.reduceAdd, if_true, ↓reduceIte]; first | done | rfl) ?_
        refine at_end rfl ?_
        refine at_ret rfl ?_
        rw [hT]
        first | (refine ret_tree (l := l) (s := s) (t := .mk lab acc) ?_ fagg_api_Tree ?_ <;> rfl) | (refine ret_tree (l := l) (s := dn l s) (t := .mk lab acc) ?_ fagg_api_Tree ?_ <;> rfl)
    · dsimp only [List.set] at he; subst he
      have hz : left = 0 := by simp at hb1; omega
      rw [if_pos hz] at hT
      simp only [List.append_nil] at hT
      refine at_opN (some 19) rfl rfl rfl (by dsimp only [putD, List.set]) ?_
      refine at_opN (some 20) rfl rfl rfl (by dsimp only [putD, List.set]) ?_
      refine at_opN (some 21) rfl rfl rfl (by dsimp only [putD, List.set]) ?_
      refine at_pkc false 18 22 rfl rfl rfl rfl rfl rfl (by dsimp only [constD]) (by dsimp only [List.set]) ?_
      refine at_end rfl ?_
      refine at_false [1, 1, 1, 0, 0, 0, 0, 1, 0] [1, 1, 1, 0, 0, 0, 0, 1, 1] rfl rfl ?_
      refine at_exit rfl rfl ?_
      refine at_seq [1, 1, 1, 1, 0] [1, 1, 1, 1, 1] rfl ?_
      refine at_region rfl ?_
      first | (refine at_op (some 39) rfl rfl rfl rfl (op_loadRA rfl fagg_api_Tree) (by dsimp only [putD, List.set]) ?_) | (refine at_op (some 39) rfl rfl rfl rfl (op_loadPA rfl fagg_api_Tree rfl (by first | decide | simp) rfl) (by dsimp only [putD, List.set]) ?_)
      refine at_stA 6 (.tmp 39) rfl rfl rfl rfl rfl (ev_tmp rfl) rfl fagg_api_Tree rfl rfl (by first | decide | simp | (simp; omega)) (by dsimp only [List.set, List.append, List.cons_append, List.nil_append, cellsD, List.map, repl, List.length, Nat.reduceAdd, if_true, ↓reduceIte]; first | done | rfl) ?_
      refine at_end rfl ?_
      refine at_ret rfl ?_
      rw [hT]
      first | (refine ret_tree (l := l) (s := s) (t := .mk lab acc) ?_ fagg_api_Tree ?_ <;> rfl) | (refine ret_tree (l := l) (s := dn l s) (t := .mk lab acc) ?_ fagg_api_Tree ?_ <;> rfl)

set_option maxRecDepth 20000 in
theorem tree_ok (l : List Int) (hs : l.length ≤ 1000000) (lb : Int) (hlb : 1 ≤ lb) (N : Nat) : ∀ (m : Nat) (s : Nat × Int), 1 ≤ m → m ≤ 1000000 → 2 * m ≤ N → FSpec PP 27 [.ptr 0 0, di lb, di ↑m] (σd l (s).1 (s).2) (dt (treeM l lb N m s).1) (σd l (treeM l lb N m s).2.1 (treeM l lb N m s).2.2) := by
  induction N using Nat.strongRecOn with
  | _ N ih =>
  intro m s h1 hm hN
  obtain ⟨n, rfl⟩ : ∃ n, N = n + 1 := ⟨N - 1, by omega⟩
  refine spec_at cTree Try.func27 rfl (by kernel_rfl) (by first | decide | simp) _ (by dsimp only [Try.f27, List.length, Nat.reduceAdd, Nat.reduceSub, List.replicate, List.cons_append, List.nil_append]) ?_
  refine at_seq [0] [1] rfl ?_
  refine at_region rfl ?_
  refine at_opS (some 6) rfl rfl rfl rfl (op_alloc rfl fzero_api_Tree) (by dsimp only [putD, List.set]) (by dsimp only [List.set, List.append, List.cons_append, List.nil_append, cellsD, List.map, repl, List.length, Nat.reduceAdd, if_true, ↓reduceIte]; first | done | rfl) ?_
  refine at_end rfl ?_
  refine at_seq [1, 0] [1, 1] rfl ?_
  refine at_region rfl ?_
  refine at_mv 0 10 rfl rfl rfl (.inl rfl) rfl (by dsimp only [List.set]) ?_
  refine at_mv 1 11 rfl rfl rfl (.inl rfl) rfl (by dsimp only [List.set]) ?_
  refine at_opS (some 12) rfl rfl rfl rfl (op_call1 rfl rfl rfl rfl rfl (.ptr (.pl rfl .nil)) rfl (next_spec l _ _ hs _ (by omega))) (by dsimp only [putD, List.set]) (by dsimp only [List.set, List.append, List.cons_append, List.nil_append, cellsD, List.map, repl, List.length, Nat.reduceAdd, if_true, ↓reduceIte]; first | done | rfl) ?_
  refine at_op (some 13) rfl rfl rfl rfl (op_buildN rfl fbldN_api_Tree rfl rfl) (by dsimp only [putD, List.set]) ?_
  try dsimp only [V.cellsV, List.take, List.drop, List.cons_append, List.nil_append, List.length]
  refine at_opS (some 7) rfl rfl rfl rfl (op_alloc rfl fzero_api_Tree) (by dsimp only [putD, List.set]) (by dsimp only [List.set, List.append, List.cons_append, List.nil_append, cellsD, List.map, repl, List.length, Nat.reduceAdd, if_true, ↓reduceIte]; first | done | rfl) ?_
  refine at_stA 7 (.tmp 13) rfl rfl rfl rfl rfl (ev_tmp rfl) rfl fagg_api_Tree rfl rfl (by first | decide | simp | (simp; omega)) (by dsimp only [List.set, List.append, List.cons_append, List.nil_append, cellsD, List.map, repl, List.length, Nat.reduceAdd, if_true, ↓reduceIte]; first | done | rfl) ?_
  refine at_end rfl ?_
  refine run_cv (cv_claim 2 1 1 2 (cs := [di (nextV lb (dkSt l s.1 s.2)), .v .nils]) rfl rfl (by simp) (by decide)) ?_
  simp only [List.set_cons_succ, List.set_cons_zero]
  refine at_seq [1, 1, 0] [1, 1, 1] rfl ?_
  refine at_region rfl ?_
  refine at_mv 2 14 rfl rfl rfl (.inl rfl) rfl (by dsimp only [List.set]) ?_
  refine at_op (some 15) rfl rfl rfl rfl (op_binI rfl rfl) (by dsimp only [putD, List.set]) ?_
  refine at_mv 15 8 rfl rfl rfl (.inr rfl) rfl (by dsimp only [List.set]) ?_
  refine at_end rfl ?_
  rw [wrap_id (by omega) (by omega), show ((m : Int) - 1) = ((m - 1 : Nat) : Int) by omega]
  refine at_seq [1, 1, 1, 0] [1, 1, 1, 1] rfl ?_
  refine at_block [1, 1, 1, 0, 0] 0 rfl ?_
  refine at_loop [1, 1, 1, 0, 0, 0] rfl ?_
  try simp only [List.length_map, List.length_nil, Int.toNat_natCast]
  exact run_wk (.keep (.keep (.drop (.drop (.drop (.drop (.keep (.keep (.keep (.drop (.drop (.drop (.drop (.drop (.drop (.drop (.drop (.drop (.drop (.drop (.drop (.drop (.drop (.drop (.drop (.drop (.drop (.drop (.drop (.drop (.drop (.drop (.drop (.drop (.drop (.drop (.drop (.drop (.drop (.drop .nil)))))))))))))))))))))))))))))))))))))))) (tree_loop l hs lb hlb (n + 1) ih _ _ n (m - 1) (dn l s) [] (by omega) (by omega) (by omega) (by simp; omega) rfl)

theorem tree_spec (l : List Int) (hs : l.length ≤ 1000000) (lb : Int) (hlb : 1 ≤ lb) (m : Nat) (h1 : 1 ≤ m) (hm : m ≤ 1000) (s : Nat × Int) :
    ∃ (t : Tr) (s' : Nat × Int), t.size ≤ m ∧ LabIn lb t ∧ FSpec PP 27 [.ptr 0 0, di lb, di ↑m] (σd l s.1 s.2) (dt t) (σd l s'.1 s'.2) :=
  ⟨_, _, ((treeM_ok l lb hlb (2 * m)).1 m s h1).1, ((treeM_ok l lb hlb (2 * m)).1 m s h1).2, tree_ok l hs lb hlb (2 * m) m s h1 (by omega) (Nat.le_refl _)⟩

end Go.Proofs.Ytoofgniepbidnaa
