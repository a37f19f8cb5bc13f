/-
  Package tree, walked: nodes, sizes, labels.
-/
import Derived.Test.YtoofgniepbidnaaWh
namespace Go.Proofs.Ytoofgniepbidnaa
open Go.Dv Tr

theorem number_nil_call {o : Oper} {c : Call} {fo y : Operand} (ho : o.op = .call c) (hc : c.callee = .value fo) (ha : c.args = #[.const (.slice none 0 0), y]) {t : Tr} (hs : t.size ≤ 1000000) :
    OpOK PP o [dfn numF, .v (.list []), dt t] σ0 (.gro (t.size - 1) t.size 3) ⟨List.replicate (t.size - 1) none ++ [some (flatN (nodesM 0 t))], []⟩ := by
  have h := op_callG (σ := σ0) ho hc (fD := dfn numF) rfl (ds := [.v .nils, dt t]) [] id (number_nil t hs) (.cons (.ren (dc := .v .nils) rfl) (.cons (.ren (dc := dt t) rfl) .nil)) .nil (by simp) rfl (by simp) (by simp)
    (by simp [D.okN]) (by rw [okH_nones]; simp [okH, flatN, flatV, okNs_vs])
  have e2 : renH (rho 0 []) id (List.replicate (t.size - 1) none ++ [some (flatN (nodesM 0 t))]) = List.replicate (t.size - 1) none ++ [some (flatN (nodesM 0 t))] := by
    simp only [renH, List.map_append, List.map_replicate, Option.map_none, List.map_cons, Option.map_some, List.map_nil, flatN, flatV, rens_vs]
  simp only [List.length_nil, D.ren, rho, List.getElem?_nil, Nat.zero_add, Nat.sub_zero, backH, List.nil_append, e2, renOwn, List.map_nil] at h
  refine opOK_const (ds' := [dfn numF, .raw (.slice none 0 0), dt t]) ?_ (opOK_see (.cons .same (.cons .rawnil (.cons .same .nil))) h)
  rw [ho]
  simp only [Op.operands, Call.operands, hc, ha]
  exact .same (.const (.same .nil))

theorem lend_nodes {q len : Nat} {l : List Nd} (hl : len = l.length) : lends (lentIn [q] (List.replicate q none ++ [some (flatN l)])) 1 (.gro q len 3) (vnl l) := by
  subst hl
  have hlen : (l.map vn).length = l.length := by simp
  refine .inr (.inr ⟨q, 0, 3, flatN l, l.map vn, .inr ⟨3, by rw [hlen], rfl⟩, rfl, by decide, by simp [V.size], by simp [lentIn], fun j y hj => ⟨?_, .v y, ?_, .v y, .same, rfl⟩⟩)
  · have := List.mem_of_getElem? hj
    simp only [List.mem_flatMap, List.mem_map, V.cellsV] at this
    obtain ⟨_, ⟨n, _, rfl⟩, h⟩ := this
    simp only [V.cellsV, List.mem_cons, List.not_mem_nil, or_false] at h
    rcases h with rfl | rfl | rfl <;> rfl
  · simp only [flatN, flatV, List.getElem?_map, Nat.zero_add, hj, Option.map_some]

theorem idx_node {l : List Nd} {i : Nat} {n : Nd} (h : l[i]? = some n) : (l.map vn)[((i : Nat) : Int).toNat]? = some (vn n) := by simp [h]

/-- the first place where p holds; -1 -/
def idxQ {α : Type} (p : α → Bool) (xs : List α) (i : Nat) : Int := match xs with
  | [] => -1
  | x :: xs => if p x then i else idxQ p xs (i + 1)
theorem idxQ_at {α : Type} {p : α → Bool} {xs : List α} {i : Nat} {x : α} (h : xs[i]? = some x) : idxQ p (xs.drop i) i = if p x then (i : Int) else idxQ p (xs.drop (i + 1)) (i + 1) := by
  obtain ⟨h1, h2⟩ := List.getElem?_eq_some_iff.1 h
  rw [List.drop_eq_getElem_cons h1, h2]; rfl
theorem idxQ_end {α : Type} {p : α → Bool} {xs : List α} {i : Nat} (h : xs.length ≤ i) : idxQ p (xs.drop i) i = -1 := by rw [List.drop_of_length_le h]; rfl
theorem idxQ_any {α : Type} {p : α → Bool} : ∀ (xs : List α) (i : Nat), decide (0 ≤ idxQ p xs i) = xs.any p
  | [], i => by simp [idxQ]
  | x :: xs, i => by
    simp only [idxQ, List.any_cons]
    by_cases hx : p x = true
    · simp [hx]
    · simp only [hx]; simpa using idxQ_any xs (i + 1)

def badLab (n : Nd) : Bool := decide (n.lab < 0) || decide (n.lab ≥ 16)
def validT (t : Tr) : Bool := decide (t.size ≤ 12) && !((nodesM 0 t).any badLab)
def nodesT (t : Tr) : List Nd := if validT t then nodesM 0 t else []
theorem nodesT_length (t : Tr) : (nodesT t).length = if validT t then t.size else 0 := by unfold nodesT; split <;> simp [nodesM_length]
theorem nodesT_small (t : Tr) : (nodesT t).length ≤ 12 := by
  rw [nodesT_length]; split
  · rename_i h; simp [validT] at h; exact h.1
  · omega

noncomputable def cIndexN : Code := Try.f95.body.getD .skip
set_option maxRecDepth 20000 in
theorem indexN_loop (fo : FuncId) (fs cs : List V) (xs : List Nd) (p : Nd → Bool) (hf : ∀ x ∈ xs, FSpec PP fo (fs.map .v ++ [.v (vn x)] ++ cs.map .v) σ0 (db (p x)) σ0) (hs : xs.length ≤ 1000000) (m : Nat) : ∀ i : Nat, xs.length - i = m → idxQ p xs 0 = idxQ p (xs.drop i) i → Run PP (fun env σ1 => ResOK PP Try.f95 env σ1 (di (idxQ p xs 0)) σ0) [.lp (sub cIndexN [1, 0, 1, 0, 0]), .blk 0, .code (sub cIndexN [1, 1])] ((dnl xs) :: (.v (.fn fo fs cs)) :: .undef :: .undef :: .undef :: .undef :: (dnl xs) :: (di ↑xs.length) :: (di ↑i) :: .undef :: .undef :: .undef :: .undef :: .undef :: .undef :: .undef :: .undef :: .undef :: .undef :: []) σ0 := by
  induction m using Nat.strongRecOn with
  | _ m ih =>
    intro i hm hb
    refine run_lp ?_
    refine at_seq [1, 0, 1, 0, 0, 0] [1, 0, 1, 0, 0, 1] rfl ?_
    refine at_region rfl ?_
    refine at_op (some 9) rfl rfl rfl rfl (op_binI rfl rfl) (by dsimp only [putD, List.set]) ?_
    refine at_end rfl ?_
    refine at_seq [1, 0, 1, 0, 0, 1, 0] [1, 0, 1, 0, 0, 1, 1] rfl ?_
    refine at_cond [1, 0, 1, 0, 0, 1, 0, 0] [1, 0, 1, 0, 0, 1, 0, 1] rfl rfl (fun hc1 => ?_) (fun hc1 => ?_)
    · skip
      have hlt : i < xs.length := by simpa using hc1
      obtain ⟨x, hx⟩ := get_ex hlt
      rw [idxQ_at hx] at hb
      have hx2 := idx_node hx
      refine at_skip rfl ?_
      refine at_seq [1, 0, 1, 0, 0, 1, 1, 0] [1, 0, 1, 0, 0, 1, 1, 1] rfl ?_
      refine at_block [1, 0, 1, 0, 0, 1, 1, 0, 0] 1 rfl ?_
      refine at_seq [1, 0, 1, 0, 0, 1, 1, 0, 0, 0] [1, 0, 1, 0, 0, 1, 1, 0, 0, 1] rfl ?_
      refine at_region rfl ?_
      refine at_mv 8 10 rfl rfl rfl (.inl rfl) rfl (by dsimp only [List.set]) ?_
      refine at_mv 10 5 rfl rfl rfl (.inr rfl) rfl (by dsimp only [List.set]) ?_
      refine at_end rfl ?_
      refine at_seq [1, 0, 1, 0, 0, 1, 1, 0, 0, 1, 0] [1, 0, 1, 0, 0, 1, 1, 0, 0, 1, 1] rfl ?_
      refine at_region rfl ?_
      refine at_mv 1 11 rfl rfl rfl (.inl rfl) rfl (by dsimp only [List.set]) ?_
      refine at_mv 0 12 rfl rfl rfl (.inl rfl) rfl (by dsimp only [List.set]) ?_
      refine at_mv 5 13 rfl rfl rfl (.inl rfl) rfl (by dsimp only [List.set]) ?_
      first | (refine at_op (some 14) rfl rfl rfl rfl (op_idxL rfl fsl_Stree_node (by first | decide | omega) (by first | assumption | exact idx_some (by assumption) | rfl) (by first | rfl | (simp [V.size]; done))) (by dsimp only [putD, List.set]) ?_) | (refine at_op (some 14) rfl rfl rfl rfl (opOK_un (op_idxL rfl fsl_Stree_node (by first | decide | omega) (by first | assumption | exact idx_some (by assumption) | rfl) (by first | rfl | (simp [V.size]; done)))) (by dsimp only [putD, List.set]) ?_) | (refine at_op (some 14) rfl rfl rfl rfl (op_idxA rfl fsl_Stree_node (by first | decide | omega) (by first | decide | omega)) (by dsimp only [putD, List.set]) ?_)
      first | (refine at_op (some 15) rfl rfl rfl rfl (op_loadRA rfl fagg_tree_node) (by dsimp only [putD, List.set]) ?_) | (refine at_op (some 15) rfl rfl rfl rfl (op_loadPA rfl fagg_tree_node rfl (by decide) rfl) (by dsimp only [putD, List.set]) ?_)
      refine at_op (some 16) rfl rfl rfl rfl (op_call0 rfl rfl rfl rfl (hf x (List.mem_of_getElem? hx))) (by dsimp only [putD, List.set]) ?_
      refine at_end rfl ?_
      refine at_cond [1, 0, 1, 0, 0, 1, 1, 0, 0, 1, 1, 0] [1, 0, 1, 0, 0, 1, 1, 0, 0, 1, 1, 1] rfl rfl (fun hc2 => ?_) (fun hc2 => ?_)
      · skip
        refine at_seq [1, 0, 1, 0, 0, 1, 1, 0, 0, 1, 1, 0, 0] [1, 0, 1, 0, 0, 1, 1, 0, 0, 1, 1, 0, 1] rfl ?_
        refine at_region rfl ?_
        refine at_mv 5 17 rfl rfl rfl (.inl rfl) rfl (by dsimp only [List.set]) ?_
        refine at_mv 17 4 rfl rfl rfl (.inr rfl) rfl (by dsimp only [List.set]) ?_
        refine at_end rfl ?_
        refine at_ret rfl (ret_one (t := 4) rfl rfl ?_ rfl)
        first | (rw [hb]; done) | (simp_all; done)
      · skip
        refine at_skip rfl ?_
        refine run_blk ?_
        refine at_region rfl ?_
        refine at_op (some 18) rfl rfl rfl rfl (op_binI rfl rfl) (by dsimp only [putD, List.set]) ?_
        refine at_mv 18 8 rfl rfl rfl (.inl rfl) rfl (by dsimp only [List.set]) ?_
        refine at_end rfl ?_
        rw [wrap_succ (by omega)]
        exact run_wk (.keep (.keep (.drop (.drop (.drop (.drop (.keep (.keep (.keep (.drop (.drop (.drop (.drop (.drop (.drop (.drop (.drop (.drop (.drop .nil))))))))))))))))))) (ih _ (by omega) (i + 1) rfl (by simp_all))
    · skip
      have hge : xs.length ≤ i := by simpa using hc1
      rw [idxQ_end hge] at hb
      refine at_exit rfl rfl ?_
      refine at_seq [1, 1, 0] [1, 1, 1] rfl ?_
      refine at_region rfl ?_
      refine at_mc 4 rfl rfl rfl (.inr rfl) (by dsimp only [constD]) (by dsimp only [List.set]) ?_
      refine at_end rfl ?_
      refine at_ret rfl (ret_one (t := 4) rfl rfl ?_ rfl)
      first | (rw [hb]; done) | (simp_all; done)

set_option maxRecDepth 20000 in
theorem indexN_spec (fo : FuncId) (fs cs : List V) (xs : List Nd) (p : Nd → Bool) (hf : ∀ x ∈ xs, FSpec PP fo (fs.map .v ++ [.v (vn x)] ++ cs.map .v) σ0 (db (p x)) σ0) (hs : xs.length ≤ 1000000) : FSpec PP 95 [dnl xs, .v (.fn fo fs cs)] σ0 (di (idxQ p xs 0)) σ0 := by
  refine spec_at cIndexN Try.func95 rfl (by kernel_rfl) (by first | decide | simp) _ (by dsimp only [Try.f95, List.length, Nat.reduceAdd, Nat.reduceSub, List.replicate, List.cons_append, List.nil_append]) ?_
  refine at_seq [0] [1] rfl ?_
  refine at_region rfl ?_
  refine at_mc 4 rfl rfl rfl (.inr rfl) (by dsimp only [constD]) (by dsimp only [List.set]) ?_
  refine at_end rfl ?_
  refine at_seq [1, 0] [1, 1] rfl ?_
  refine at_seq [1, 0, 0] [1, 0, 1] rfl ?_
  refine at_region rfl ?_
  refine at_mv 0 6 rfl rfl rfl (.inl rfl) rfl (by dsimp only [List.set]) ?_
  first | (refine at_op (some 7) rfl rfl rfl rfl (op_lenL rfl fu_Stree_node) (by dsimp only [putD, List.set]) ?_) | (refine at_op (some 7) rfl rfl rfl rfl (opOK_un (op_lenL rfl fu_Stree_node)) (by dsimp only [putD, List.set]) ?_) | (refine at_op (some 7) rfl rfl rfl rfl (op_lenA rfl fu_Stree_node) (by dsimp only [putD, List.set]) ?_)
  refine at_mc 8 rfl rfl rfl (.inl rfl) (by dsimp only [constD]) (by dsimp only [List.set]) ?_
  refine at_end rfl ?_
  refine at_block [1, 0, 1, 0] 0 rfl ?_
  refine at_loop [1, 0, 1, 0, 0] rfl ?_
  try simp only [List.length_map, List.length_nil, Int.toNat_natCast]
  exact run_wk (.keep (.keep (.drop (.drop (.drop (.drop (.keep (.keep (.keep (.drop (.drop (.drop (.drop (.drop (.drop (.drop (.drop (.drop (.drop .nil))))))))))))))))))) (indexN_loop fo fs cs xs p hf hs _ 0 rfl (by simp))

noncomputable def cContainsN : Code := Try.f87.body.getD .skip
set_option maxRecDepth 20000 in
theorem containsN_spec (fo : FuncId) (fs cs : List V) (xs : List Nd) (p : Nd → Bool) (hf : ∀ x ∈ xs, FSpec PP fo (fs.map .v ++ [.v (vn x)] ++ cs.map .v) σ0 (db (p x)) σ0) (hs : xs.length ≤ 1000000) : FSpec PP 87 [dnl xs, .v (.fn fo fs cs)] σ0 (db (xs.any p)) σ0 := by
  refine spec_at cContainsN Try.func87 rfl (by kernel_rfl) (by first | decide | simp) _ (by dsimp only [Try.f87, List.length, Nat.reduceAdd, Nat.reduceSub, List.replicate, List.cons_append, List.nil_append]) ?_
  refine at_seq [0] [1] rfl ?_
  refine at_region rfl ?_
  refine at_mc 4 rfl rfl rfl (.inr rfl) (by dsimp only [constD]) (by dsimp only [List.set]) ?_
  refine at_end rfl ?_
  refine at_seq [1, 0] [1, 1] rfl ?_
  refine at_region rfl ?_
  refine at_mv 0 5 rfl rfl rfl (.inl rfl) rfl (by dsimp only [List.set]) ?_
  refine at_mv 1 6 rfl rfl rfl (.inl rfl) rfl (by dsimp only [List.set]) ?_
  refine at_op (some 7) rfl rfl rfl rfl (op_call0 rfl rfl rfl rfl (indexN_spec fo fs cs xs p hf hs)) (by dsimp only [putD, List.set]) ?_
  refine at_op (some 8) rfl rfl rfl rfl (op_binI rfl rfl) (by dsimp only [putD, List.set]) ?_
  refine at_mv 8 4 rfl rfl rfl (.inr rfl) rfl (by dsimp only [List.set]) ?_
  refine at_end rfl ?_
  refine at_ret rfl (ret_one (t := 4) rfl rfl ?_ rfl)
  rw [← idxQ_any xs 0]

noncomputable def cNodes1 : Code := Try.f88.body.getD .skip
set_option maxRecDepth 20000 in
theorem nodes1_spec (n : Nd) : FSpec PP 88 [.v (vn n)] σ0 (db (badLab n)) σ0 := by
  refine spec_at cNodes1 Try.func88 rfl (by kernel_rfl) (by first | decide | simp) _ (by dsimp only [Try.f88, List.length, Nat.reduceAdd, Nat.reduceSub, List.replicate, List.cons_append, List.nil_append]) ?_
  refine at_seq [0] [1] rfl ?_
  refine at_region rfl ?_
  refine at_op (some 1) rfl rfl rfl rfl (op_boxI rfl rfl) (by dsimp only [putD, List.set]) ?_
  refine at_mc 2 rfl rfl rfl (.inr rfl) (by dsimp only [constD]) (by dsimp only [List.set]) ?_
  refine at_end rfl ?_
  refine at_seq [1, 0] [1, 1] rfl ?_
  refine at_region rfl ?_
  first | (refine at_op (some 3) rfl rfl rfl rfl (op_fieldP rfl ffld0_tree_node (by decide)) (by dsimp only [putD, List.set]) ?_) | (refine at_op (some 3) rfl rfl rfl rfl (op_fieldR rfl ffld0_tree_node (by decide) (by decide) rfl) (by dsimp only [putD, List.set]) ?_)
  first | (refine at_op (some 4) rfl rfl rfl rfl (op_loadR1 rfl fone_int rfl) (by dsimp only [putD, List.set]) ?_) | (refine at_op (some 4) rfl rfl rfl rfl (op_loadP1 rfl fone_int rfl rfl) (by dsimp only [putD, List.set]) ?_)
  refine at_op (some 5) rfl rfl rfl rfl (op_binI rfl rfl) (by dsimp only [putD, List.set]) ?_
  refine at_mv 5 6 rfl rfl rfl (.inl rfl) rfl (by dsimp only [List.set]) ?_
  refine at_split 6 rfl (fun hb1 env' he => ?_) (fun hb1 env' he => ?_)
  · dsimp only [List.set] at he; subst he
    refine at_opN (some 7) rfl rfl rfl (by dsimp only [putD, List.set]) ?_
    refine at_opN (some 8) rfl rfl rfl (by dsimp only [putD, List.set]) ?_
    refine at_opN (some 9) rfl rfl rfl (by dsimp only [putD, List.set]) ?_
    refine at_pkc true 6 10 rfl rfl rfl rfl rfl rfl (by dsimp only [constD]) (by dsimp only [List.set]) ?_
    refine at_mv 10 2 rfl rfl rfl (.inr rfl) rfl (by dsimp only [List.set]) ?_
    refine at_end rfl ?_
    refine at_ret rfl (ret_one (t := 2) rfl rfl ?_ rfl)
    first | (simp_all [badLab]; done) | (simp_all [badLab]; omega)
  · dsimp only [List.set] at he; subst he
    first | (refine at_op (some 7) rfl rfl rfl rfl (op_fieldP rfl ffld0_tree_node (by decide)) (by dsimp only [putD, List.set]) ?_) | (refine at_op (some 7) rfl rfl rfl rfl (op_fieldR rfl ffld0_tree_node (by decide) (by decide) rfl) (by dsimp only [putD, List.set]) ?_)
    first | (refine at_op (some 8) rfl rfl rfl rfl (op_loadR1 rfl fone_int rfl) (by dsimp only [putD, List.set]) ?_) | (refine at_op (some 8) rfl rfl rfl rfl (op_loadP1 rfl fone_int rfl rfl) (by dsimp only [putD, List.set]) ?_)
    refine at_op (some 9) rfl rfl rfl rfl (op_binI rfl rfl) (by dsimp only [putD, List.set]) ?_
    refine at_pk false 6 9 10 rfl rfl rfl rfl rfl rfl rfl (by dsimp only [List.set]) ?_
    refine at_mv 10 2 rfl rfl rfl (.inr rfl) rfl (by dsimp only [List.set]) ?_
    refine at_end rfl ?_
    refine at_ret rfl (ret_one (t := 2) rfl rfl ?_ rfl)
    first | (simp_all [badLab]; done) | (simp_all [badLab]; omega)

noncomputable def cNodes : Code := Try.f64.body.getD .skip
set_option maxRecDepth 20000 in
theorem nodes_spec (t : Tr) (hs : t.size ≤ 1000000) : FSpec PP 64 [dt t] σ0 (dnl (nodesT t)) σ0 := by
  refine spec_at cNodes Try.func64 rfl (by kernel_rfl) (by first | decide | simp) _ (by dsimp only [Try.f64, List.length, Nat.reduceAdd, Nat.reduceSub, List.replicate, List.cons_append, List.nil_append]) ?_
  refine at_seq [0] [1] rfl ?_
  refine at_region rfl ?_
  refine at_op (some 1) rfl rfl rfl rfl (op_boxI rfl rfl) (by dsimp only [putD, List.set]) ?_
  refine at_mc 2 rfl rfl rfl (.inr rfl) (by dsimp only [constD]) (by dsimp only [List.set]) ?_
  refine at_end rfl ?_
  refine at_seq [1, 0] [1, 1] rfl ?_
  refine at_seq [1, 0, 0] [1, 0, 1] rfl ?_
  refine at_region rfl ?_
  first | (refine at_op (some 4) rfl rfl rfl rfl (op_loadRA rfl fagg_api_Tree) (by dsimp only [putD, List.set]) ?_) | (refine at_op (some 4) rfl rfl rfl rfl (op_loadPA rfl fagg_api_Tree rfl (by decide) rfl) (by dsimp only [putD, List.set]) ?_)
  refine at_op (some 5) rfl rfl rfl rfl (op_call0 rfl rfl rfl rfl (tsmall_spec t (by omega))) (by dsimp only [putD, List.set]) ?_
  refine at_op (some 6) rfl rfl rfl rfl (op_un rfl rfl) (by dsimp only [putD, List.set]) ?_
  refine at_end rfl ?_
  refine at_cond [1, 0, 1, 0] [1, 0, 1, 1] rfl rfl (fun hc1 => ?_) (fun hc1 => ?_)
  · skip
    refine at_seq [1, 0, 1, 0, 0] [1, 0, 1, 0, 1] rfl ?_
    refine at_region rfl ?_
    refine at_mc 2 rfl rfl rfl (.inr rfl) (by dsimp only [constD]) (by dsimp only [List.set]) ?_
    refine at_end rfl ?_
    refine at_ret rfl (ret_one (t := 2) rfl rfl ?_ rfl)
    unfold nodesT validT
    cases hA : decide (t.size ≤ 12) <;> cases hB : (nodesM 0 t).any badLab <;> simp only [hA, hB, Bool.not_true, Bool.not_false, Bool.and_true, Bool.and_false, Bool.true_and, Bool.false_and, Bool.false_eq_true, if_true, if_false, List.map_nil, reduceCtorEq] at * <;> rfl
  · skip
    refine at_skip rfl ?_
    refine at_seq [1, 1, 0] [1, 1, 1] rfl ?_
    refine at_region rfl ?_
    first | (refine at_op (some 7) rfl rfl rfl rfl (op_loadRA rfl fagg_api_Tree) (by dsimp only [putD, List.set]) ?_) | (refine at_op (some 7) rfl rfl rfl rfl (op_loadPA rfl fagg_api_Tree rfl (by decide) rfl) (by dsimp only [putD, List.set]) ?_)
    refine at_opS (some 8) rfl rfl rfl rfl (number_nil_call rfl rfl rfl hs) (by dsimp only [putD, List.set]) (by dsimp only [List.set, List.append, List.cons_append, List.nil_append, cellsD, List.map, repl, List.length, Nat.reduceAdd, if_true, ↓reduceIte]; first | done | rfl) ?_
    refine at_mv 8 3 rfl rfl rfl (.inr rfl) rfl (by dsimp only [List.set]) ?_
    refine at_end rfl ?_
    refine run_cv (cv_frz [t.size - 1] (.keep (.keep (.keep (.view (lend_nodes (l := nodesM 0 t) (nodesM_length t 0).symm) (.keep (.keep (.keep (.keep (.keep (.keep (.keep (.keep .nil))))))))))))) ?_
    refine at_seq [1, 1, 1, 0] [1, 1, 1, 1] rfl ?_
    refine at_seq [1, 1, 1, 0, 0] [1, 1, 1, 0, 1] rfl ?_
    refine at_region rfl ?_
    refine at_mv 3 9 rfl rfl rfl (.inl rfl) rfl (by dsimp only [List.set]) ?_
    refine at_op (some 10) rfl rfl rfl rfl (op_call0 rfl rfl rfl rfl (containsN_spec 88 [] [] (nodesM 0 t) badLab (fun x _ => nodes1_spec x) (by rw [nodesM_length]; omega))) (by dsimp only [putD, List.set]) ?_
    refine at_end rfl ?_
    refine at_cond [1, 1, 1, 0, 1, 0] [1, 1, 1, 0, 1, 1] rfl rfl (fun hc2 => ?_) (fun hc2 => ?_)
    · skip
      refine at_seq [1, 1, 1, 0, 1, 0, 0] [1, 1, 1, 0, 1, 0, 1] rfl ?_
      refine at_region rfl ?_
      refine at_mc 2 rfl rfl rfl (.inr rfl) (by dsimp only [constD]) (by dsimp only [List.set]) ?_
      refine at_end rfl ?_
      refine at_ret rfl (ret_one (t := 2) rfl rfl ?_ rfl)
      unfold nodesT validT
      cases hA : decide (t.size ≤ 12) <;> cases hB : (nodesM 0 t).any badLab <;> simp only [hA, hB, Bool.not_true, Bool.not_false, Bool.and_true, Bool.and_false, Bool.true_and, Bool.false_and, Bool.false_eq_true, if_true, if_false, List.map_nil, reduceCtorEq] at * <;> rfl
    · skip
      refine at_skip rfl ?_
      refine at_seq [1, 1, 1, 1, 0] [1, 1, 1, 1, 1] rfl ?_
      refine at_region rfl ?_
      refine at_mv 3 11 rfl rfl rfl (.inl rfl) rfl (by dsimp only [List.set]) ?_
      refine at_mv 11 2 rfl rfl rfl (.inr rfl) rfl (by dsimp only [List.set]) ?_
      refine at_end rfl ?_
      refine at_ret rfl (ret_one (t := 2) rfl rfl ?_ rfl)
      unfold nodesT validT
      cases hA : decide (t.size ≤ 12) <;> cases hB : (nodesM 0 t).any badLab <;> simp only [hA, hB, Bool.not_true, Bool.not_false, Bool.and_true, Bool.and_false, Bool.true_and, Bool.false_and, Bool.false_eq_true, if_true, if_false, List.map_nil, reduceCtorEq] at * <;> rfl

noncomputable def cSizeT : Code := Try.f28.body.getD .skip
set_option maxRecDepth 20000 in
theorem tsize_spec (t : Tr) (hs : t.size ≤ 1000000) : FSpec PP 28 [dt t] σ0 (di ↑(if validT t then t.size else 0)) σ0 := by
  refine spec_at cSizeT Try.func28 rfl (by kernel_rfl) (by first | decide | simp) _ (by dsimp only [Try.f28, List.length, Nat.reduceAdd, Nat.reduceSub, List.replicate, List.cons_append, List.nil_append]) ?_
  refine at_seq [0] [1] rfl ?_
  refine at_region rfl ?_
  refine at_op (some 1) rfl rfl rfl rfl (op_boxI rfl rfl) (by dsimp only [putD, List.set]) ?_
  refine at_mc 2 rfl rfl rfl (.inr rfl) (by dsimp only [constD]) (by dsimp only [List.set]) ?_
  refine at_end rfl ?_
  refine at_seq [1, 0] [1, 1] rfl ?_
  refine at_region rfl ?_
  first | (refine at_op (some 3) rfl rfl rfl rfl (op_loadRA rfl fagg_api_Tree) (by dsimp only [putD, List.set]) ?_) | (refine at_op (some 3) rfl rfl rfl rfl (op_loadPA rfl fagg_api_Tree rfl (by decide) rfl) (by dsimp only [putD, List.set]) ?_)
  refine at_op (some 4) rfl rfl rfl rfl (op_call0 rfl rfl rfl rfl (nodes_spec t hs)) (by dsimp only [putD, List.set]) ?_
  first | (refine at_op (some 5) rfl rfl rfl rfl (op_lenL rfl fu_Stree_node) (by dsimp only [putD, List.set]) ?_) | (refine at_op (some 5) rfl rfl rfl rfl (opOK_un (op_lenL rfl fu_Stree_node)) (by dsimp only [putD, List.set]) ?_) | (refine at_op (some 5) rfl rfl rfl rfl (op_lenA rfl fu_Stree_node) (by dsimp only [putD, List.set]) ?_)
  refine at_mv 5 2 rfl rfl rfl (.inr rfl) rfl (by dsimp only [List.set]) ?_
  refine at_end rfl ?_
  refine at_ret rfl (ret_one (t := 2) rfl rfl ?_ rfl)
  rw [← nodesT_length]; simp

noncomputable def cValidT : Code := Try.f41.body.getD .skip
set_option maxRecDepth 20000 in
theorem tvalid_spec (t : Tr) (hs : t.size ≤ 1000000) : FSpec PP 41 [dt t] σ0 (db (validT t)) σ0 := by
  refine spec_at cValidT Try.func41 rfl (by kernel_rfl) (by first | decide | simp) _ (by dsimp only [Try.f41, List.length, Nat.reduceAdd, Nat.reduceSub, List.replicate, List.cons_append, List.nil_append]) ?_
  refine at_seq [0] [1] rfl ?_
  refine at_region rfl ?_
  refine at_op (some 1) rfl rfl rfl rfl (op_boxI rfl rfl) (by dsimp only [putD, List.set]) ?_
  refine at_mc 2 rfl rfl rfl (.inr rfl) (by dsimp only [constD]) (by dsimp only [List.set]) ?_
  refine at_end rfl ?_
  refine at_seq [1, 0] [1, 1] rfl ?_
  refine at_region rfl ?_
  first | (refine at_op (some 3) rfl rfl rfl rfl (op_loadRA rfl fagg_api_Tree) (by dsimp only [putD, List.set]) ?_) | (refine at_op (some 3) rfl rfl rfl rfl (op_loadPA rfl fagg_api_Tree rfl (by decide) rfl) (by dsimp only [putD, List.set]) ?_)
  refine at_op (some 4) rfl rfl rfl rfl (op_call0 rfl rfl rfl rfl (nodes_spec t hs)) (by dsimp only [putD, List.set]) ?_
  first | (refine at_op (some 5) rfl rfl rfl rfl (op_lenL rfl fu_Stree_node) (by dsimp only [putD, List.set]) ?_) | (refine at_op (some 5) rfl rfl rfl rfl (opOK_un (op_lenL rfl fu_Stree_node)) (by dsimp only [putD, List.set]) ?_) | (refine at_op (some 5) rfl rfl rfl rfl (op_lenA rfl fu_Stree_node) (by dsimp only [putD, List.set]) ?_)
  refine at_op (some 6) rfl rfl rfl rfl (op_binI rfl rfl) (by dsimp only [putD, List.set]) ?_
  refine at_mv 6 2 rfl rfl rfl (.inr rfl) rfl (by dsimp only [List.set]) ?_
  refine at_end rfl ?_
  refine at_ret rfl (ret_one (t := 2) rfl rfl ?_ rfl)
  have := nodesT_length t
  have := size_pos t
  cases hv : validT t <;> simp_all
  try omega

noncomputable def cLabels : Code := Try.f47.body.getD .skip
set_option maxRecDepth 20000 in
theorem labels_loop (ns : List Nd) (hs : ns.length ≤ 1000000) (T : List Int) (m : Nat) : ∀ (i : Nat) (acc : List Int), ns.length - i = m → acc.length = i → acc ++ (ns.drop i).map Nd.lab = T → Run PP (fun env σ1 => ResOK PP Try.f47 env σ1 (dl T) σ0) [.lp (sub cLabels [1, 1, 0, 1, 0, 0]), .blk 0, .code (sub cLabels [1, 1, 1])] (.undef :: .undef :: .undef :: (.acc 1 (acc.map vi)) :: .undef :: .undef :: .undef :: (dnl ns) :: (di ↑ns.length) :: (di ↑i) :: .undef :: .undef :: .undef :: .undef :: .undef :: .undef :: .undef :: .undef :: .undef :: .undef :: []) ⟨[], [(1, 1, acc.map vi)]⟩ := by
  induction m using Nat.strongRecOn with
  | _ m ih =>
    intro i acc hm ha hT
    refine run_lp ?_
    refine at_seq [1, 1, 0, 1, 0, 0, 0] [1, 1, 0, 1, 0, 0, 1] rfl ?_
    refine at_region rfl ?_
    refine at_op (some 10) rfl rfl rfl rfl (op_binI rfl rfl) (by dsimp only [putD, List.set]) ?_
    refine at_end rfl ?_
    refine at_seq [1, 1, 0, 1, 0, 0, 1, 0] [1, 1, 0, 1, 0, 0, 1, 1] rfl ?_
    refine at_cond [1, 1, 0, 1, 0, 0, 1, 0, 0] [1, 1, 0, 1, 0, 0, 1, 0, 1] rfl rfl (fun hc1 => ?_) (fun hc1 => ?_)
    · skip
      have hlt : i < ns.length := by simpa using hc1
      obtain ⟨x, hx⟩ := get_ex hlt
      have hx2 := idx_node hx
      have hd : ns.drop i = x :: ns.drop (i + 1) := by rw [List.drop_eq_getElem_cons hlt]; congr 1; exact (List.getElem?_eq_some_iff.1 hx).2
      rw [hd] at hT
      refine at_skip rfl ?_
      refine at_seq [1, 1, 0, 1, 0, 0, 1, 1, 0] [1, 1, 0, 1, 0, 0, 1, 1, 1] rfl ?_
      refine at_block [1, 1, 0, 1, 0, 0, 1, 1, 0, 0] 1 rfl ?_
      refine at_seq [1, 1, 0, 1, 0, 0, 1, 1, 0, 0, 0] [1, 1, 0, 1, 0, 0, 1, 1, 0, 0, 1] rfl ?_
      refine at_region rfl ?_
      first | (refine at_op (some 11) rfl rfl rfl rfl (op_idxL rfl fsl_Stree_node (by first | decide | omega) (by first | assumption | exact idx_some (by assumption) | rfl) (by first | rfl | (simp [V.size]; done))) (by dsimp only [putD, List.set]) ?_) | (refine at_op (some 11) rfl rfl rfl rfl (opOK_un (op_idxL rfl fsl_Stree_node (by first | decide | omega) (by first | assumption | exact idx_some (by assumption) | rfl) (by first | rfl | (simp [V.size]; done)))) (by dsimp only [putD, List.set]) ?_) | (refine at_op (some 11) rfl rfl rfl rfl (op_idxA rfl fsl_Stree_node (by first | decide | omega) (by first | decide | omega)) (by dsimp only [putD, List.set]) ?_)
      first | (refine at_op (some 12) rfl rfl rfl rfl (op_loadRA rfl fagg_tree_node) (by dsimp only [putD, List.set]) ?_) | (refine at_op (some 12) rfl rfl rfl rfl (op_loadPA rfl fagg_tree_node rfl (by decide) rfl) (by dsimp only [putD, List.set]) ?_)
      refine at_new 12 5 rfl rfl rfl rfl fzero_tree_node rfl rfl rfl rfl (by decide) rfl rfl fagg_tree_node (by first | rfl | (simp [V.size]; done)) rfl (by simp only [List.length_cons]; omega) (by dsimp only [List.set]) ?_
      refine at_end rfl ?_
      refine at_region rfl ?_
      refine at_mv 3 13 rfl rfl rfl (.inl rfl) rfl (by dsimp only [List.set]) ?_
      first | (refine at_op (some 14) rfl rfl rfl rfl (op_fieldP rfl ffld0_tree_node (by decide)) (by dsimp only [putD, List.set]) ?_) | (refine at_op (some 14) rfl rfl rfl rfl (op_fieldR rfl ffld0_tree_node (by decide) (by decide) rfl) (by dsimp only [putD, List.set]) ?_)
      first | (refine at_op (some 15) rfl rfl rfl rfl (op_loadR1 rfl fone_int rfl) (by dsimp only [putD, List.set]) ?_) | (refine at_op (some 15) rfl rfl rfl rfl (op_loadP1 rfl fone_int rfl rfl) (by dsimp only [putD, List.set]) ?_)
      refine at_op (some 16) rfl rfl rfl rfl (op_buildSlice rfl (by rfl) (by rfl) fsl_Sint rfl rfl (by simp [V.size]) (by decide) (by decide) (by decide)) (by dsimp only [putD, List.set]) ?_
      refine at_opS (some 17) rfl rfl rfl rfl (op_append rfl fsl_Sint rfl (by simp) (by simp [V.size]) (by simp; omega) (by simp; omega)) (by dsimp only [putD, List.set]) (by dsimp only [List.set, List.append, List.cons_append, List.nil_append, cellsD, List.map, repl, List.length, Nat.reduceAdd, if_true, ↓reduceIte]; first | done | rfl) ?_
      refine at_mv 17 3 rfl rfl rfl (.inr rfl) rfl (by dsimp only [List.set]) ?_
      refine at_end rfl ?_
      refine run_blk ?_
      refine at_region rfl ?_
      refine at_op (some 18) rfl rfl rfl rfl (op_binI rfl rfl) (by dsimp only [putD, List.set]) ?_
      refine at_mv 18 9 rfl rfl rfl (.inl rfl) rfl (by dsimp only [List.set]) ?_
      refine at_end rfl ?_
      rw [wrap_succ (by omega)]
      rw [show acc.map vi ++ [V.int .i64 x.lab] = (acc ++ [x.lab]).map vi from by simp]
      exact run_wk (.drop (.drop (.drop (.keep (.drop (.drop (.drop (.keep (.keep (.keep (.drop (.drop (.drop (.drop (.drop (.drop (.drop (.drop (.drop (.drop .nil)))))))))))))))))))) (ih _ (by omega) (i + 1) (acc ++ [x.lab]) rfl (by simp [ha]) (by rw [← hT]; simp))
    · skip
      have hge : ns.length ≤ i := by simpa using hc1
      rw [List.drop_of_length_le hge] at hT
      simp only [List.map_nil, List.append_nil] at hT
      refine at_exit rfl rfl ?_
      refine at_seq [1, 1, 1, 0] [1, 1, 1, 1] rfl ?_
      refine at_region rfl ?_
      refine at_mv 3 19 rfl rfl rfl (.inl rfl) rfl (by dsimp only [List.set]) ?_
      refine at_mv 19 2 rfl rfl rfl (.inr rfl) rfl (by dsimp only [List.set]) ?_
      refine at_end rfl ?_
      refine at_ret rfl (ret_un (t := 2) rfl rfl ?_)
      rw [← hT]

set_option maxRecDepth 20000 in
theorem tlabels_spec (t : Tr) (hs : t.size ≤ 1000000) : FSpec PP 47 [dt t] σ0 (dl ((nodesT t).map Nd.lab)) σ0 := by
  refine spec_at cLabels Try.func47 rfl (by kernel_rfl) (by first | decide | simp) _ (by dsimp only [Try.f47, List.length, Nat.reduceAdd, Nat.reduceSub, List.replicate, List.cons_append, List.nil_append]) ?_
  refine at_seq [0] [1] rfl ?_
  refine at_region rfl ?_
  refine at_op (some 1) rfl rfl rfl rfl (op_boxI rfl rfl) (by dsimp only [putD, List.set]) ?_
  refine at_mc 2 rfl rfl rfl (.inr rfl) (by dsimp only [constD]) (by dsimp only [List.set]) ?_
  refine at_end rfl ?_
  refine at_seq [1, 0] [1, 1] rfl ?_
  refine at_region rfl ?_
  refine at_opS (some 3) rfl rfl rfl rfl (op_nilOwn (.inl rfl) 1 1 (by simp) (by decide)) (by dsimp only [putD, List.set]) (by dsimp only [List.set, List.append, List.cons_append, List.nil_append, cellsD, List.map, repl, List.length, Nat.reduceAdd, if_true, ↓reduceIte]; first | done | rfl) ?_
  refine at_end rfl ?_
  refine at_seq [1, 1, 0] [1, 1, 1] rfl ?_
  refine at_seq [1, 1, 0, 0] [1, 1, 0, 1] rfl ?_
  refine at_region rfl ?_
  first | (refine at_op (some 6) rfl rfl rfl rfl (op_loadRA rfl fagg_api_Tree) (by dsimp only [putD, List.set]) ?_) | (refine at_op (some 6) rfl rfl rfl rfl (op_loadPA rfl fagg_api_Tree rfl (by decide) rfl) (by dsimp only [putD, List.set]) ?_)
  refine at_op (some 7) rfl rfl rfl rfl (op_call0 rfl rfl rfl rfl (nodes_spec t hs)) (by dsimp only [putD, List.set]) ?_
  first | (refine at_op (some 8) rfl rfl rfl rfl (op_lenL rfl fu_Stree_node) (by dsimp only [putD, List.set]) ?_) | (refine at_op (some 8) rfl rfl rfl rfl (opOK_un (op_lenL rfl fu_Stree_node)) (by dsimp only [putD, List.set]) ?_) | (refine at_op (some 8) rfl rfl rfl rfl (op_lenA rfl fu_Stree_node) (by dsimp only [putD, List.set]) ?_)
  refine at_mc 9 rfl rfl rfl (.inl rfl) (by dsimp only [constD]) (by dsimp only [List.set]) ?_
  refine at_end rfl ?_
  refine at_block [1, 1, 0, 1, 0] 0 rfl ?_
  refine at_loop [1, 1, 0, 1, 0, 0] rfl ?_
  try simp only [List.length_map, List.length_nil, Int.toNat_natCast]
  have h12 := nodesT_small t
  exact run_wk (.drop (.drop (.drop (.keep (.drop (.drop (.drop (.keep (.keep (.keep (.drop (.drop (.drop (.drop (.drop (.drop (.drop (.drop (.drop (.drop .nil)))))))))))))))))))) (labels_loop (nodesT t) (by omega) _ _ 0 [] rfl rfl rfl)

end Go.Proofs.Ytoofgniepbidnaa
