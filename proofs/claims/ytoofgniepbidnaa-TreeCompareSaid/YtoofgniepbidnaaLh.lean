/-
  The laws of trees, walked: what is below a tree, and how trees grow.
-/
import Derived.Test.YtoofgniepbidnaaLg
namespace Go.Proofs.Ytoofgniepbidnaa
open Go.Dv Tr

def awA : Tr := .mk 0 [.mk 1 []]
def awB : Tr := .mk 0 [.mk 2 [.mk 1 []]]
theorem aw_emb : embT awA awB = some [0, 2] := by decide +kernel
theorem aw_bme : embT awB awA = none := by decide +kernel
theorem aw_valid : validT awB = true := by decide +kernel
theorem aw_size : awB.size = 3 := by decide +kernel
theorem aw_prov : provX (nodesT awA) (nodesT awB) [0, 2] = true := by decide +kernel
theorem aw_labs : (nodesT awB).map Nd.lab = [0, 2, 1] := by decide +kernel
theorem leq_true {a b : Tr} (ha : validT a = true) (hb : validT b = true) (h : Emb a b) : (embT a b).isSome = true := (leqT_iff a b).2 ⟨ha, hb, h⟩
theorem leq_false {a b : Tr} (h : ¬ Emb a b) : (embT a b).isSome = false := by
  cases he : (embT a b).isSome with
  | false => rfl
  | true => exact absurd ((leqT_iff a b).1 he).2.2 h
theorem LabIn.of {lb x : Int} {ks : List Tr} (h : 0 ≤ x ∧ x < lb) (hk : ∀ k ∈ ks, LabIn lb k) : LabIn lb (.mk x ks) := .mk h hk
theorem less_ok {lb : Int} {t : Tr} (h : LabIn lb t) (k : Nat) : LabIn lb (.mk t.lab (t.kids.take k ++ t.kids.drop (k + 1))) := by
  refine .mk h.lab (fun x hx => ?_)
  rcases List.mem_append.1 hx with h1 | h1
  · exact h.kid (List.mem_of_mem_take h1)
  · exact h.kid (List.mem_of_mem_drop h1)
theorem less_size {t k0 : Tr} {k : Nat} (hk : t.kids[k]? = some k0) : (Tr.mk t.lab (t.kids.take k ++ t.kids.drop (k + 1))).size + k0.size = t.size := by
  have h1 := szl_take t.kids k
  have h2 := szl_at hk
  rw [size_eq t]
  simp only [size, szl_append]
  omega
theorem wide_ok {lb : Int} {b c : Tr} (h : LabIn lb b) (hc : LabIn lb c) (k : Nat) : LabIn lb (.mk b.lab (b.kids.take k ++ [c] ++ b.kids.drop k)) := by
  refine .mk h.lab (fun x hx => ?_)
  rcases List.mem_append.1 hx with h1 | h1
  · rcases List.mem_append.1 h1 with h2 | h2
    · exact h.kid (List.mem_of_mem_take h2)
    · simp at h2; rw [h2]; exact hc
  · exact h.kid (List.mem_of_mem_drop h1)
theorem wide_size (b c : Tr) (k : Nat) : (Tr.mk b.lab (b.kids.take k ++ [c] ++ b.kids.drop k)).size = b.size + c.size := by
  have h1 := szl_take b.kids k
  rw [size_eq b]
  simp only [size, szl_append, szl_cons, szl]
  omega
theorem lend_pair {L : Nat → Option (List D)} {o : Nat} {x y : V} (hx : x.isAgg = false) (hy : y.isAgg = false) (h : L o = some [.v x, .v y]) : lends L 1 (.ptr o 0) (.ref (.agg [x, y])) := by
  refine .inr (.inl ⟨o, 0, [.v x, .v y], .agg [x, y], rfl, rfl, h, fun j z hj => ?_⟩)
  simp only [V.cellsV] at hj
  match j, hj with
  | 0, hj => simp at hj; subst hj; exact ⟨hx, .v x, rfl, _, .same, rfl⟩
  | 1, hj => simp at hj; subst hj; exact ⟨hy, .v y, rfl, _, .same, rfl⟩
  | j + 2, hj => simp at hj
theorem take_vt (ks : List Tr) (k : Nat) : ((ks.map vt).take k).drop 0 = (ks.take k).map vt := by simp
theorem drop_vt (ks : List Tr) (k n : Nat) (h : ks.length ≤ n) : ((ks.map vt).take n).drop k = (ks.drop k).map vt := by
  rw [List.take_of_length_le (by simpa using h)]; simp
theorem sz_vts (ks : List Tr) : ∀ y ∈ ks.map vt, y.size = 2 := by
  intro y hy
  obtain ⟨k, _, rfl⟩ := List.mem_map.1 hy
  rw [vt_eq]; rfl
theorem next_ex (l : List Int) (hs : l.length ≤ 1000000) (n : Nat) (hn : 1 ≤ n) (s : Nat × Int) :
    ∃ (x : Nat) (s' : Nat × Int), x < n ∧ FSpec PP 16 [.ptr 0 0, di ↑n] (σd l s.1 s.2) (di ↑x) (σd l s'.1 s'.2) := by
  have hr := nextV_range (n := (n : Int)) (s := dkSt l s.1 s.2) (by omega)
  obtain ⟨x, hx⟩ := Int.eq_ofNat_of_zero_le hr.1
  refine ⟨x, (dkAt l s.1, dkSt l s.1 s.2), by omega, ?_⟩
  have := next_spec l s.1 s.2 hs n (by omega)
  rw [hx] at this
  exact this

noncomputable def cAwakeT : Code := Try.f26.body.getD .skip
set_option maxRecDepth 20000 in
theorem awakeT_spec : FSpec PP 26 [] σ0 (db true) σ0 := by
  refine spec_at cAwakeT Try.func26 rfl (by kernel_rfl) (by first | decide | simp) _ (by dsimp only [Try.f26, List.length, Nat.reduceAdd, Nat.reduceSub, List.replicate, List.cons_append, List.nil_append]) ?_
  refine at_seq [0] [1] rfl ?_
  refine at_region rfl ?_
  refine at_mc 0 rfl rfl rfl (.inr rfl) (by dsimp only [constD]) (by dsimp only [List.set]) ?_
  refine at_end rfl ?_
  refine at_seq [1, 0] [1, 1] rfl ?_
  refine at_region rfl ?_
  refine at_op (some 5) rfl rfl rfl rfl (op_build rfl fbld_api_Tree rfl rfl) (by dsimp only [putD, List.set]) ?_
  try dsimp only [V.cellsV, List.take, List.drop, List.cons_append, List.nil_append, List.length]
  refine at_op (some 6) rfl rfl rfl rfl (op_buildSlice rfl (by rfl) (by rfl) fsl_Sapi_Tree rfl rfl (by simp [V.size]) (by decide) (by decide) (by decide)) (by dsimp only [putD, List.set]) ?_
  refine at_op (some 7) rfl rfl rfl rfl (op_build rfl fbld_api_Tree rfl rfl) (by dsimp only [putD, List.set]) ?_
  try dsimp only [V.cellsV, List.take, List.drop, List.cons_append, List.nil_append, List.length]
  refine at_new 7 1 rfl rfl rfl rfl fzero_api_Tree rfl rfl rfl rfl (by decide) rfl rfl fagg_api_Tree (by first | rfl | (simp [V.size]; done)) rfl (by simp only [List.length_cons]; omega) (by dsimp only [List.set]) ?_
  refine at_end rfl ?_
  refine at_seq [1, 1, 0] [1, 1, 1] rfl ?_
  refine at_region rfl ?_
  refine at_op (some 8) rfl rfl rfl rfl (op_build rfl fbld_api_Tree rfl rfl) (by dsimp only [putD, List.set]) ?_
  try dsimp only [V.cellsV, List.take, List.drop, List.cons_append, List.nil_append, List.length]
  refine at_op (some 9) rfl rfl rfl rfl (op_buildSlice rfl (by rfl) (by rfl) fsl_Sapi_Tree rfl rfl (by simp [V.size]) (by decide) (by decide) (by decide)) (by dsimp only [putD, List.set]) ?_
  refine at_op (some 10) rfl rfl rfl rfl (op_build rfl fbld_api_Tree rfl rfl) (by dsimp only [putD, List.set]) ?_
  try dsimp only [V.cellsV, List.take, List.drop, List.cons_append, List.nil_append, List.length]
  refine at_op (some 11) rfl rfl rfl rfl (op_buildSlice rfl (by rfl) (by rfl) fsl_Sapi_Tree rfl rfl (by simp [V.size]) (by decide) (by decide) (by decide)) (by dsimp only [putD, List.set]) ?_
  refine at_op (some 12) rfl rfl rfl rfl (op_build rfl fbld_api_Tree rfl rfl) (by dsimp only [putD, List.set]) ?_
  try dsimp only [V.cellsV, List.take, List.drop, List.cons_append, List.nil_append, List.length]
  refine at_new 12 2 rfl rfl rfl rfl fzero_api_Tree rfl rfl rfl rfl (by decide) rfl rfl fagg_api_Tree (by first | rfl | (simp [V.size]; done)) rfl (by simp only [List.length_cons]; omega) (by dsimp only [List.set]) ?_
  refine at_end rfl ?_
  refine at_seq [1, 1, 1, 0] [1, 1, 1, 1] rfl ?_
  refine at_region rfl ?_
  first | (refine at_op (some 14) rfl rfl rfl rfl (op_loadRA rfl fagg_api_Tree) (by dsimp only [putD, List.set]) ?_) | (refine at_op (some 14) rfl rfl rfl rfl (op_loadPA rfl fagg_api_Tree rfl (by first | decide | simp) rfl) (by dsimp only [putD, List.set]) ?_)
  first | (refine at_op (some 15) rfl rfl rfl rfl (op_loadRA rfl fagg_api_Tree) (by dsimp only [putD, List.set]) ?_) | (refine at_op (some 15) rfl rfl rfl rfl (op_loadPA rfl fagg_api_Tree rfl (by first | decide | simp) rfl) (by dsimp only [putD, List.set]) ?_)
  refine at_op (some 16) rfl rfl rfl rfl (op_call0 rfl rfl rfl rfl (embed_spec awA awB (by decide +kernel) (by decide +kernel))) (by dsimp only [putD, List.set]) ?_
  rw [aw_emb]
  simp only [Option.getD_some, Option.isSome_some]
  refine at_mv 16 13 rfl rfl rfl (.inl rfl) rfl (by dsimp only [List.set]) ?_
  refine at_op (some 17) rfl rfl rfl rfl (op_extract rfl rfl) (by dsimp only [putD, List.set]) ?_
  refine at_op (some 18) rfl rfl rfl rfl (op_extract rfl rfl) (by dsimp only [putD, List.set]) ?_
  refine at_mv 17 3 rfl rfl rfl (.inr rfl) rfl (by dsimp only [List.set]) ?_
  refine at_mv 18 4 rfl rfl rfl (.inr rfl) rfl (by dsimp only [List.set]) ?_
  refine at_end rfl ?_
  refine at_seq [1, 1, 1, 1, 0] [1, 1, 1, 1, 1] rfl ?_
  refine at_region rfl ?_
  refine at_mv 4 19 rfl rfl rfl (.inl rfl) rfl (by dsimp only [List.set]) ?_
  refine at_mv 19 20 rfl rfl rfl (.inl rfl) rfl (by dsimp only [List.set]) ?_
  refine at_mv 3 21 rfl rfl rfl (.inl rfl) rfl (by dsimp only [List.set]) ?_
  first | (refine at_op (some 22) rfl rfl rfl rfl (op_lenL rfl fu_Sint) (by dsimp only [putD, List.set]) ?_) | (refine at_op (some 22) rfl rfl rfl rfl (opOK_un (op_lenL rfl fu_Sint)) (by dsimp only [putD, List.set]) ?_) | (refine at_op (some 22) rfl rfl rfl rfl (op_lenA rfl fu_Sint) (by dsimp only [putD, List.set]) ?_)
  refine at_op (some 23) rfl rfl rfl rfl (op_binI rfl rfl) (by dsimp only [putD, List.set]) ?_
  refine at_pk true 20 23 24 rfl rfl rfl rfl rfl rfl rfl (by dsimp only [List.set]) ?_
  refine at_mv 24 25 rfl rfl rfl (.inl rfl) rfl (by dsimp only [List.set]) ?_
  refine at_mv 3 26 rfl rfl rfl (.inl rfl) rfl (by dsimp only [List.set]) ?_
  refine at_op (some 27) rfl rfl rfl rfl (op_idxL rfl fsl_Sint (by decide) (y := vi 2) rfl rfl) (by dsimp only [putD, List.set]) ?_
  first | (refine at_op (some 28) rfl rfl rfl rfl (op_loadR1 rfl fone_int rfl) (by dsimp only [putD, List.set]) ?_) | (refine at_op (some 28) rfl rfl rfl rfl (op_loadP1 rfl fone_int rfl rfl) (by dsimp only [putD, List.set]) ?_)
  refine at_op (some 29) rfl rfl rfl rfl (op_binI rfl rfl) (by dsimp only [putD, List.set]) ?_
  refine at_pk true 25 29 30 rfl rfl rfl rfl rfl rfl rfl (by dsimp only [List.set]) ?_
  refine at_mv 30 31 rfl rfl rfl (.inl rfl) rfl (by dsimp only [List.set]) ?_
  first | (refine at_op (some 32) rfl rfl rfl rfl (op_loadRA rfl fagg_api_Tree) (by dsimp only [putD, List.set]) ?_) | (refine at_op (some 32) rfl rfl rfl rfl (op_loadPA rfl fagg_api_Tree rfl (by first | decide | simp) rfl) (by dsimp only [putD, List.set]) ?_)
  first | (refine at_op (some 33) rfl rfl rfl rfl (op_loadRA rfl fagg_api_Tree) (by dsimp only [putD, List.set]) ?_) | (refine at_op (some 33) rfl rfl rfl rfl (op_loadPA rfl fagg_api_Tree rfl (by first | decide | simp) rfl) (by dsimp only [putD, List.set]) ?_)
  refine at_op (some 34) rfl rfl rfl rfl (op_call0 rfl rfl rfl rfl (tleq_spec awA awB (by decide +kernel) (by decide +kernel))) (by dsimp only [putD, List.set]) ?_
  rw [aw_emb]
  simp only [Option.isSome_some]
  refine at_pk true 31 34 35 rfl rfl rfl rfl rfl rfl rfl (by dsimp only [List.set]) ?_
  refine at_mv 35 36 rfl rfl rfl (.inl rfl) rfl (by dsimp only [List.set]) ?_
  first | (refine at_op (some 37) rfl rfl rfl rfl (op_loadRA rfl fagg_api_Tree) (by dsimp only [putD, List.set]) ?_) | (refine at_op (some 37) rfl rfl rfl rfl (op_loadPA rfl fagg_api_Tree rfl (by first | decide | simp) rfl) (by dsimp only [putD, List.set]) ?_)
  first | (refine at_op (some 38) rfl rfl rfl rfl (op_loadRA rfl fagg_api_Tree) (by dsimp only [putD, List.set]) ?_) | (refine at_op (some 38) rfl rfl rfl rfl (op_loadPA rfl fagg_api_Tree rfl (by first | decide | simp) rfl) (by dsimp only [putD, List.set]) ?_)
  refine at_op (some 39) rfl rfl rfl rfl (op_call0 rfl rfl rfl rfl (tleq_spec awB awA (by decide +kernel) (by decide +kernel))) (by dsimp only [putD, List.set]) ?_
  rw [aw_bme]
  simp only [Option.isSome_none]
  refine at_op (some 40) rfl rfl rfl rfl (op_un rfl rfl) (by dsimp only [putD, List.set]) ?_
  refine at_pk true 36 40 41 rfl rfl rfl rfl rfl rfl rfl (by dsimp only [List.set]) ?_
  refine at_mv 41 42 rfl rfl rfl (.inl rfl) rfl (by dsimp only [List.set]) ?_
  first | (refine at_op (some 43) rfl rfl rfl rfl (op_loadRA rfl fagg_api_Tree) (by dsimp only [putD, List.set]) ?_) | (refine at_op (some 43) rfl rfl rfl rfl (op_loadPA rfl fagg_api_Tree rfl (by first | decide | simp) rfl) (by dsimp only [putD, List.set]) ?_)
  refine at_op (some 44) rfl rfl rfl rfl (op_call0 rfl rfl rfl rfl (tvalid_spec awB (by decide +kernel))) (by dsimp only [putD, List.set]) ?_
  rw [aw_valid]
  refine at_pk true 42 44 45 rfl rfl rfl rfl rfl rfl rfl (by dsimp only [List.set]) ?_
  refine at_mv 45 46 rfl rfl rfl (.inl rfl) rfl (by dsimp only [List.set]) ?_
  first | (refine at_op (some 47) rfl rfl rfl rfl (op_loadRA rfl fagg_api_Tree) (by dsimp only [putD, List.set]) ?_) | (refine at_op (some 47) rfl rfl rfl rfl (op_loadPA rfl fagg_api_Tree rfl (by first | decide | simp) rfl) (by dsimp only [putD, List.set]) ?_)
  refine at_op (some 48) rfl rfl rfl rfl (op_call0 rfl rfl rfl rfl (tsize_spec awB (by decide +kernel))) (by dsimp only [putD, List.set]) ?_
  rw [aw_valid, aw_size]
  refine at_op (some 49) rfl rfl rfl rfl (op_binI rfl rfl) (by dsimp only [putD, List.set]) ?_
  refine at_pk true 46 49 50 rfl rfl rfl rfl rfl rfl rfl (by dsimp only [List.set]) ?_
  refine at_mv 50 51 rfl rfl rfl (.inl rfl) rfl (by dsimp only [List.set]) ?_
  first | (refine at_op (some 52) rfl rfl rfl rfl (op_loadRA rfl fagg_api_Tree) (by dsimp only [putD, List.set]) ?_) | (refine at_op (some 52) rfl rfl rfl rfl (op_loadPA rfl fagg_api_Tree rfl (by first | decide | simp) rfl) (by dsimp only [putD, List.set]) ?_)
  first | (refine at_op (some 53) rfl rfl rfl rfl (op_loadRA rfl fagg_api_Tree) (by dsimp only [putD, List.set]) ?_) | (refine at_op (some 53) rfl rfl rfl rfl (op_loadPA rfl fagg_api_Tree rfl (by first | decide | simp) rfl) (by dsimp only [putD, List.set]) ?_)
  refine at_mv 3 54 rfl rfl rfl (.inl rfl) rfl (by dsimp only [List.set]) ?_
  refine at_op (some 55) rfl rfl rfl rfl (op_call0 rfl rfl rfl rfl (proves_spec awA awB [0, 2] (by decide +kernel) (by decide +kernel))) (by dsimp only [putD, List.set]) ?_
  rw [aw_prov]
  refine at_pk true 51 55 56 rfl rfl rfl rfl rfl rfl rfl (by dsimp only [List.set]) ?_
  refine at_mv 56 57 rfl rfl rfl (.inl rfl) rfl (by dsimp only [List.set]) ?_
  first | (refine at_op (some 58) rfl rfl rfl rfl (op_loadRA rfl fagg_api_Tree) (by dsimp only [putD, List.set]) ?_) | (refine at_op (some 58) rfl rfl rfl rfl (op_loadPA rfl fagg_api_Tree rfl (by first | decide | simp) rfl) (by dsimp only [putD, List.set]) ?_)
  refine at_op (some 59) rfl rfl rfl rfl (op_call0 rfl rfl rfl rfl (tlabels_spec awB (by decide +kernel))) (by dsimp only [putD, List.set]) ?_
  rw [aw_labs]
  first | (refine at_op (some 60) rfl rfl rfl rfl (op_lenL rfl fu_Sint) (by dsimp only [putD, List.set]) ?_) | (refine at_op (some 60) rfl rfl rfl rfl (opOK_un (op_lenL rfl fu_Sint)) (by dsimp only [putD, List.set]) ?_) | (refine at_op (some 60) rfl rfl rfl rfl (op_lenA rfl fu_Sint) (by dsimp only [putD, List.set]) ?_)
  refine at_op (some 61) rfl rfl rfl rfl (op_binI rfl rfl) (by dsimp only [putD, List.set]) ?_
  refine at_pk true 57 61 62 rfl rfl rfl rfl rfl rfl rfl (by dsimp only [List.set]) ?_
  refine at_mv 62 0 rfl rfl rfl (.inr rfl) rfl (by dsimp only [List.set]) ?_
  refine at_end rfl ?_
  refine at_ret rfl (ret_one (t := 0) rfl rfl ?_ rfl)
  rfl

noncomputable def cTBelow : Code := Try.f7.body.getD .skip
set_option maxRecDepth 20000 in
theorem tbelow_spec (l : List Int) : FSpec PP 7 [dl l] σ0 (db true) σ0 := by
  refine spec_at cTBelow Try.func7 rfl (by kernel_rfl) (by first | decide | simp) _ (by dsimp only [Try.f7, List.length, Nat.reduceAdd, Nat.reduceSub, List.replicate, List.cons_append, List.nil_append]) ?_
  refine at_seq [0] [1] rfl ?_
  refine at_region rfl ?_
  refine at_mc 2 rfl rfl rfl (.inr rfl) (by dsimp only [constD]) (by dsimp only [List.set]) ?_
  refine at_end rfl ?_
  refine at_seq [1, 0] [1, 1] rfl ?_
  refine at_seq [1, 0, 0] [1, 0, 1] rfl ?_
  refine at_region rfl ?_
  refine at_op (some 7) rfl rfl rfl rfl (op_call0 rfl rfl rfl rfl (awakeT_spec)) (by dsimp only [putD, List.set]) ?_
  refine at_op (some 8) rfl rfl rfl rfl (op_un rfl rfl) (by dsimp only [putD, List.set]) ?_
  refine at_mv 8 9 rfl rfl rfl (.inl rfl) rfl (by dsimp only [List.set]) ?_
  refine at_mv 0 10 rfl rfl rfl (.inl rfl) rfl (by dsimp only [List.set]) ?_
  refine at_op (some 11) rfl rfl rfl rfl (op_call0 rfl rfl rfl rfl (few_spec l)) (by dsimp only [putD, List.set]) ?_
  refine at_op (some 12) rfl rfl rfl rfl (op_un rfl rfl) (by dsimp only [putD, List.set]) ?_
  refine at_pk false 9 12 13 rfl rfl rfl rfl rfl rfl rfl (by dsimp only [List.set]) ?_
  refine at_end rfl ?_
  refine at_cond [1, 0, 1, 0] [1, 0, 1, 1] rfl rfl (fun hc1 => ?_) (fun hc1 => ?_)
  · skip
    refine at_seq [1, 0, 1, 0, 0] [1, 0, 1, 0, 1] rfl ?_
    refine at_region rfl ?_
    refine at_op (some 14) rfl rfl rfl rfl (op_call0 rfl rfl rfl rfl (awakeT_spec)) (by dsimp only [putD, List.set]) ?_
    refine at_mv 14 2 rfl rfl rfl (.inr rfl) rfl (by dsimp only [List.set]) ?_
    refine at_end rfl ?_
    refine at_ret rfl (ret_one (t := 2) rfl rfl ?_ rfl)
    first | rfl | (simp only [if_true]; rw [wrap_id (by omega) (by omega)]; congr 2; simp; omega)
  · skip
    have hs : l.length ≤ 1000000 := by simp_all; omega
    refine at_skip rfl ?_
    refine at_seq [1, 1, 0] [1, 1, 1] rfl ?_
    refine at_region rfl ?_
    refine at_mv 0 15 rfl rfl rfl (.inl rfl) rfl (by dsimp only [List.set]) ?_
    refine at_opS (some 16) rfl rfl rfl rfl (op_call0_new rfl rfl rfl rfl (new_spec l)) (by dsimp only [putD, List.set]) (by dsimp only [List.set, List.append, List.cons_append, List.nil_append, cellsD, List.map, repl, List.length, Nat.reduceAdd, if_true, ↓reduceIte]; first | done | rfl) ?_
    refine at_mv 16 3 rfl rfl rfl (.inr rfl) rfl (by dsimp only [List.set]) ?_
    refine at_end rfl ?_
    refine at_seq [1, 1, 1, 0] [1, 1, 1, 1] rfl ?_
    refine at_region rfl ?_
    refine at_mv 3 17 rfl rfl rfl (.inl rfl) rfl (by dsimp only [List.set]) ?_
    obtain ⟨t, st, zt, lt, pt⟩ := tree_spec l hs 3 (by omega) 12 (by omega) (by omega) (0, 11400714819323198485)
    refine at_opS (some 18) rfl rfl rfl rfl (op_call1 rfl rfl rfl rfl rfl (.ptr (.pl rfl (.pl rfl .nil))) rfl pt) (by dsimp only [putD, List.set]) (by dsimp only [List.set, List.append, List.cons_append, List.nil_append, cellsD, List.map, repl, List.length, Nat.reduceAdd, if_true, ↓reduceIte]; first | done | rfl) ?_
    refine at_new 18 4 rfl rfl rfl rfl fzero_api_Tree rfl rfl rfl rfl (by decide) rfl rfl fagg_api_Tree (by first | rfl | (simp [V.size]; done)) rfl (by simp only [List.length_cons]; omega) (by dsimp only [List.set]) ?_
    refine at_end rfl ?_
    refine at_seq [1, 1, 1, 1, 0] [1, 1, 1, 1, 1] rfl ?_
    refine at_seq [1, 1, 1, 1, 0, 0] [1, 1, 1, 1, 0, 1] rfl ?_
    refine at_region rfl ?_
    first | (refine at_op (some 19) rfl rfl rfl rfl (op_fieldP rfl ffld1_api_Tree (by decide)) (by dsimp only [putD, List.set]) ?_) | (refine at_op (some 19) rfl rfl rfl rfl (op_fieldR rfl ffld1_api_Tree (by decide) (by decide) rfl) (by dsimp only [putD, List.set]) ?_)
    first | (refine at_op (some 20) rfl rfl rfl rfl (op_loadR1 rfl fone_Sapi_Tree rfl) (by dsimp only [putD, List.set]) ?_) | (refine at_op (some 20) rfl rfl rfl rfl (op_loadP1 rfl fone_Sapi_Tree rfl rfl) (by dsimp only [putD, List.set]) ?_)
    first | (refine at_op (some 21) rfl rfl rfl rfl (op_lenL rfl fu_Sapi_Tree) (by dsimp only [putD, List.set]) ?_) | (refine at_op (some 21) rfl rfl rfl rfl (opOK_un (op_lenL rfl fu_Sapi_Tree)) (by dsimp only [putD, List.set]) ?_) | (refine at_op (some 21) rfl rfl rfl rfl (op_lenA rfl fu_Sapi_Tree) (by dsimp only [putD, List.set]) ?_)
    simp only [List.length_map]
    refine at_op (some 22) rfl rfl rfl rfl (op_binI rfl rfl) (by dsimp only [putD, List.set]) ?_
    refine at_end rfl ?_
    refine at_cond [1, 1, 1, 1, 0, 1, 0] [1, 1, 1, 1, 0, 1, 1] rfl rfl (fun hc2 => ?_) (fun hc2 => ?_)
    · skip
      have hz : t.kids = [] := by simpa using hc2
      have hsz : t.size = 1 := by rw [size_eq, hz]; rfl
      have hv := valid_of (by omega) (by omega) lt
      refine at_seq [1, 1, 1, 1, 0, 1, 0, 0] [1, 1, 1, 1, 0, 1, 0, 1] rfl ?_
      refine at_region rfl ?_
      first | (refine at_op (some 23) rfl rfl rfl rfl (op_loadRA rfl fagg_api_Tree) (by dsimp only [putD, List.set]) ?_) | (refine at_op (some 23) rfl rfl rfl rfl (op_loadPA rfl fagg_api_Tree rfl (by first | decide | simp) rfl) (by dsimp only [putD, List.set]) ?_)
      refine at_op (some 24) rfl rfl rfl rfl (op_call0 rfl rfl rfl rfl (tsize_spec t (by omega))) (by dsimp only [putD, List.set]) ?_
      rw [hv, hsz]
      refine at_op (some 25) rfl rfl rfl rfl (op_binI rfl rfl) (by dsimp only [putD, List.set]) ?_
      refine at_mv 25 2 rfl rfl rfl (.inr rfl) rfl (by dsimp only [List.set]) ?_
      refine at_end rfl ?_
      refine at_ret rfl (ret_one (t := 2) rfl rfl ?_ rfl)
      first | rfl | (simp only [if_true]; rw [wrap_id (by omega) (by omega)]; congr 2; simp; omega)
    · skip
      have hpos : 1 ≤ t.kids.length := by have h3 : ((t.kids.length : Nat) : Int) ≠ 0 := beq_eq_false_iff_ne.1 hc2; omega
      refine at_skip rfl ?_
      refine at_seq [1, 1, 1, 1, 1, 0] [1, 1, 1, 1, 1, 1] rfl ?_
      refine at_region rfl ?_
      refine at_mv 3 26 rfl rfl rfl (.inl rfl) rfl (by dsimp only [List.set]) ?_
      first | (refine at_op (some 27) rfl rfl rfl rfl (op_fieldP rfl ffld1_api_Tree (by decide)) (by dsimp only [putD, List.set]) ?_) | (refine at_op (some 27) rfl rfl rfl rfl (op_fieldR rfl ffld1_api_Tree (by decide) (by decide) rfl) (by dsimp only [putD, List.set]) ?_)
      first | (refine at_op (some 28) rfl rfl rfl rfl (op_loadR1 rfl fone_Sapi_Tree rfl) (by dsimp only [putD, List.set]) ?_) | (refine at_op (some 28) rfl rfl rfl rfl (op_loadP1 rfl fone_Sapi_Tree rfl rfl) (by dsimp only [putD, List.set]) ?_)
      first | (refine at_op (some 29) rfl rfl rfl rfl (op_lenL rfl fu_Sapi_Tree) (by dsimp only [putD, List.set]) ?_) | (refine at_op (some 29) rfl rfl rfl rfl (opOK_un (op_lenL rfl fu_Sapi_Tree)) (by dsimp only [putD, List.set]) ?_) | (refine at_op (some 29) rfl rfl rfl rfl (op_lenA rfl fu_Sapi_Tree) (by dsimp only [putD, List.set]) ?_)
      simp only [List.length_map]
      refine at_opS (some 30) rfl rfl rfl rfl (op_call1 rfl rfl rfl rfl rfl (.ptr (.pl rfl .nil)) rfl (next_spec l _ _ hs _ (by omega))) (by dsimp only [putD, List.set]) (by dsimp only [List.set, List.append, List.cons_append, List.nil_append, cellsD, List.map, repl, List.length, Nat.reduceAdd, if_true, ↓reduceIte]; first | done | rfl) ?_
      refine at_mv 30 5 rfl rfl rfl (.inr rfl) rfl (by dsimp only [List.set]) ?_
      refine at_end rfl ?_
      have hkl := szl_len t.kids
      have hse := size_eq t
      obtain ⟨k, hkn⟩ := Int.eq_ofNat_of_zero_le (nextV_range (n := (t.kids.length : Int)) (s := dkSt l st.1 st.2) (by omega)).1
      have hkl2 : k < t.kids.length := by have := (nextV_range (n := (t.kids.length : Int)) (s := dkSt l st.1 st.2) (by omega)).2; omega
      rw [hkn]
      obtain ⟨kd, hk⟩ := get_ex hkl2
      have hk2 := idx_tree hk
      have hls := less_size hk
      have hkp := size_pos kd
      have hlp := size_pos (.mk t.lab (t.kids.take k ++ t.kids.drop (k + 1)))
      have hkm := List.mem_of_getElem? hk
      have vt1 := valid_of zt (by omega) lt
      have vk1 := valid_of (t := kd) (by omega) (by omega) (lt.kid hkm)
      have vl1 := valid_of (t := (.mk t.lab (t.kids.take k ++ t.kids.drop (k + 1)))) (by omega) (by omega) (less_ok lt k)
      have g1 := leq_true vk1 vt1 (.deep hkm (emb_refl kd))
      have g2 := leq_true (a := (.mk t.lab (t.kids.take k ++ t.kids.drop (k + 1)))) vl1 vt1 (.here rfl (embL_less t.kids k))
      have g3 : (embT t (.mk t.lab (t.kids.take k ++ t.kids.drop (k + 1)))).isSome = false := leq_false (fun h => by have := h.size_le; omega)
      have g4 : (embT t kd).isSome = false := leq_false (fun h => by have := h.size_le; omega)
      refine at_seq [1, 1, 1, 1, 1, 1, 0] [1, 1, 1, 1, 1, 1, 1] rfl ?_
      refine at_draw2 mixed rfl 14 [⟨[some (dk l (dkAt l st.1) (dkSt l st.1 st.2))], []⟩, ⟨[some (dk l (dkAt l st.1) (dkSt l st.1 st.2))], [(1, 2, (t.kids.take k).map vt)]⟩, ⟨[some (dk l (dkAt l st.1) (dkSt l st.1 st.2))], [(1, 2, (t.kids.take k).map vt ++ (t.kids.drop (k + 1)).map vt)]⟩] [⟨[some (dk l (dkAt l st.1) (dkSt l st.1 st.2)), some [di 0, .v (.list [])]], []⟩, ⟨[some (dk l (dkAt l st.1) (dkSt l st.1 st.2)), some [di 0, .v (.list [])]], [(1, 2, (t.kids.take k).map vt)]⟩, ⟨[some (dk l (dkAt l st.1) (dkSt l st.1 st.2)), some [di 0, .v (.list [])]], [(1, 2, (t.kids.take k).map vt ++ (t.kids.drop (k + 1)).map vt)]⟩, ⟨[some (dk l (dkAt l st.1) (dkSt l st.1 st.2)), some [di t.lab, .v (.list ((t.kids.take k).map vt ++ (t.kids.drop (k + 1)).map vt))]], [(1, 2, (t.kids.take k).map vt ++ (t.kids.drop (k + 1)).map vt)]⟩] (by decide +kernel) rfl ?_
      first | (refine da_quiet2 (some 31) rfl rfl rfl rfl (fun s hs => op_fieldP rfl ffld0_api_Tree (by decide)) (by dsimp only [putD, List.set]) ?_) | (refine da_quiet2 (some 31) rfl rfl rfl rfl (fun s hs => op_fieldR rfl ffld0_api_Tree (by decide) (by decide) rfl) (by dsimp only [putD, List.set]) ?_)
      first | (refine da_quiet2 (some 32) rfl rfl rfl rfl (fun s hs => op_loadR1 rfl fone_int rfl) (by dsimp only [putD, List.set]) ?_) | (refine da_quiet2 (some 32) rfl rfl rfl rfl (by intro s hs; simp only [List.cons_append, List.nil_append, List.mem_cons, List.not_mem_nil, or_false] at hs; rcases hs with rfl | rfl | rfl | rfl | rfl | rfl | rfl <;> exact op_loadP1 rfl fone_int rfl rfl) (by dsimp only [putD, List.set]) ?_)
      first | (refine da_quiet2 (some 33) rfl rfl rfl rfl (fun s hs => op_fieldP rfl ffld1_api_Tree (by decide)) (by dsimp only [putD, List.set]) ?_) | (refine da_quiet2 (some 33) rfl rfl rfl rfl (fun s hs => op_fieldR rfl ffld1_api_Tree (by decide) (by decide) rfl) (by dsimp only [putD, List.set]) ?_)
      first | (refine da_quiet2 (some 34) rfl rfl rfl rfl (fun s hs => op_loadR1 rfl fone_Sapi_Tree rfl) (by dsimp only [putD, List.set]) ?_) | (refine da_quiet2 (some 34) rfl rfl rfl rfl (by intro s hs; simp only [List.cons_append, List.nil_append, List.mem_cons, List.not_mem_nil, or_false] at hs; rcases hs with rfl | rfl | rfl | rfl | rfl | rfl | rfl <;> exact op_loadP1 rfl fone_Sapi_Tree rfl rfl) (by dsimp only [putD, List.set]) ?_)
      refine da_mv 5 35 rfl rfl rfl (.inl rfl) rfl (by dsimp only [List.set]) ?_
      refine da_quiet2 (some 36) rfl rfl rfl rfl (fun s hs => op_sliceL rfl fsl_Sapi_Tree (by simp [V.size, vt_eq]) (by decide) none (some (_, _)) rfl rfl (l' := 0) (h' := k) (by simp [sliceI]; omega)) (by dsimp only [putD, List.set]) ?_
      rw [take_vt]
      refine da_eff2 (some 37) rfl rfl rfl rfl rfl rfl rfl rfl (op_appendNil rfl fsl_Sapi_Tree rfl 1 (by simp) (by decide) (sz_vts _) (by simp; omega) (by simp; omega)) (op_appendNil rfl fsl_Sapi_Tree rfl 1 (by simp) (by decide) (sz_vts _) (by simp; omega) (by simp; omega)) (by dsimp only [putD, List.set]) ?_
      first | (refine da_quiet2 (some 38) rfl rfl rfl rfl (fun s hs => op_fieldP rfl ffld1_api_Tree (by decide)) (by dsimp only [putD, List.set]) ?_) | (refine da_quiet2 (some 38) rfl rfl rfl rfl (fun s hs => op_fieldR rfl ffld1_api_Tree (by decide) (by decide) rfl) (by dsimp only [putD, List.set]) ?_)
      first | (refine da_quiet2 (some 39) rfl rfl rfl rfl (fun s hs => op_loadR1 rfl fone_Sapi_Tree rfl) (by dsimp only [putD, List.set]) ?_) | (refine da_quiet2 (some 39) rfl rfl rfl rfl (by intro s hs; simp only [List.cons_append, List.nil_append, List.mem_cons, List.not_mem_nil, or_false] at hs; rcases hs with rfl | rfl | rfl | rfl | rfl | rfl | rfl <;> exact op_loadP1 rfl fone_Sapi_Tree rfl rfl) (by dsimp only [putD, List.set]) ?_)
      refine da_mv 5 40 rfl rfl rfl (.inl rfl) rfl (by dsimp only [List.set]) ?_
      refine da_quiet2 (some 41) rfl rfl rfl rfl (fun s hs => op_binI rfl rfl) (by dsimp only [putD, List.set]) ?_
      rw [wrap_succ (by omega)]
      refine da_quiet2 (some 42) rfl rfl rfl rfl (fun s hs => op_sliceL rfl fsl_Sapi_Tree (by simp [V.size, vt_eq]) (by decide) (some (_, _)) none rfl rfl (l' := k + 1) (h' := t.kids.length) (by simp [sliceI]; omega)) (by dsimp only [putD, List.set]) ?_
      rw [drop_vt _ _ _ (Nat.le_refl _)]
      refine da_eff2 (some 43) rfl rfl rfl rfl rfl rfl rfl rfl (op_append rfl fsl_Sapi_Tree rfl (by simp) (sz_vts _) (by simp; omega) (by simp; omega)) (op_append rfl fsl_Sapi_Tree rfl (by simp) (sz_vts _) (by simp; omega) (by simp; omega)) (by dsimp only [putD, List.set]) ?_
      refine da_quiet2 (some 44) rfl rfl rfl rfl (fun s hs => op_build rfl fbld_api_Tree rfl rfl) (by dsimp only [putD, List.set]) ?_
      try dsimp only [V.cellsV, List.take, List.drop, List.cons_append, List.nil_append, List.length]
      refine da_free (some 6) rfl rfl rfl rfl (by simp) (by intro x hx; simp only [List.zip_cons_cons, List.zip_nil_left, List.zip_nil_right, List.mem_cons, List.not_mem_nil, or_false] at hx; rcases hx with rfl | rfl | rfl <;> exact op_alloc rfl fzero_api_Tree) (by dsimp only [putD, List.set]) ?_
      refine da_effT none rfl rfl rfl rfl rfl rfl (by decide +kernel) (op_store rfl rfl fagg_api_Tree rfl (q := 1) (cs := [di 0, .v (.list [])]) rfl (by simp)) (by dsimp only [putD, List.set]) ?_
      refine da_end rfl ⟨by decide +kernel, _, rfl, ?_⟩
      refine run_cv (cv_frz [1] (.keep (.keep (.keep (.keep (.keep (.keep (.view (lend_pair (x := vi t.lab) (y := .list ((t.kids.take k).map vt ++ (t.kids.drop (k + 1)).map vt)) rfl rfl rfl) (.keep (.keep (.keep (.keep (.keep (.keep (.keep (.keep (.keep (.keep (.keep (.keep (.keep (.keep (.keep (.keep (.keep (.keep (.keep (.keep (.keep (.keep (.keep (.keep (.keep (.keep (.keep (.keep (.keep (.keep (.keep (.keep (.keep (.keep (.keep (.keep (.keep (.keep (.keep (.keep (.keep (.keep (.keep (.keep (.keep (.keep (.keep (.keep (.keep (.keep (.keep (.keep (.keep (.keep (.keep (.keep (.keep (.keep (.keep (.keep (.keep (.keep (.keep (.keep (.keep (.keep (.keep (.keep (.keep (.keep (.keep (.keep (.keep (.keep (.keep (.keep (.keep (.keep (.keep (.keep .nil)))))))))))))))))))))))))))))))))))))))))))))))))))))))))))))))))))))))))))))))))))))))) ?_
      simp only [killH, List.foldl, List.set]
      rw [← List.map_append]
      refine at_seq [1, 1, 1, 1, 1, 1, 1, 0] [1, 1, 1, 1, 1, 1, 1, 1] rfl ?_
      refine at_draw mixed rfl [⟨[some (dk l (dkAt l st.1) (dkSt l st.1 st.2)), none], [(1, 2, (t.kids.take k ++ t.kids.drop (k + 1)).map vt)]⟩] rfl ?_
      first | (refine da_quiet (some 45) rfl rfl rfl rfl (fun s hs => op_fieldP rfl ffld1_api_Tree (by decide)) (by dsimp only [putD, List.set]) ?_) | (refine da_quiet (some 45) rfl rfl rfl rfl (fun s hs => op_fieldR rfl ffld1_api_Tree (by decide) (by decide) rfl) (by dsimp only [putD, List.set]) ?_)
      first | (refine da_quiet (some 46) rfl rfl rfl rfl (fun s hs => op_loadR1 rfl fone_Sapi_Tree rfl) (by dsimp only [putD, List.set]) ?_) | (refine da_quiet (some 46) rfl rfl rfl rfl (by intro s hs; simp only [List.mem_cons, List.not_mem_nil, or_false] at hs; rcases hs with rfl <;> exact op_loadP1 rfl fone_Sapi_Tree rfl rfl) (by dsimp only [putD, List.set]) ?_)
      refine da_mv 5 47 rfl rfl rfl (.inl rfl) rfl (by dsimp only [List.set]) ?_
      first | (refine da_quiet (some 48) rfl rfl rfl rfl (fun s hs => op_idxL rfl fsl_Sapi_Tree (by first | decide | omega) (by first | assumption | exact idx_some (by assumption) | rfl) (by first | rfl | (simp [V.size]; done))) (by dsimp only [putD, List.set]) ?_) | (refine da_quiet (some 48) rfl rfl rfl rfl (fun s hs => opOK_un (op_idxL rfl fsl_Sapi_Tree (by first | decide | omega) (by first | assumption | exact idx_some (by assumption) | rfl) (by first | rfl | (simp [V.size]; done)))) (by dsimp only [putD, List.set]) ?_) | (refine da_quiet (some 48) rfl rfl rfl rfl (fun s hs => op_idxA rfl fsl_Sapi_Tree (by first | decide | omega) (by first | decide | omega)) (by dsimp only [putD, List.set]) ?_)
      first | (refine da_quiet (some 49) rfl rfl rfl rfl (fun s hs => op_loadRA rfl fagg_api_Tree) (by dsimp only [putD, List.set]) ?_) | (refine da_quiet (some 49) rfl rfl rfl rfl (by intro s hs; simp only [List.mem_cons, List.not_mem_nil, or_false] at hs; rcases hs with rfl <;> exact op_loadPA rfl fagg_api_Tree rfl (by first | decide | simp) rfl) (by dsimp only [putD, List.set]) ?_)
      first | (refine da_quiet (some 50) rfl rfl rfl rfl (fun s hs => op_loadRA rfl fagg_api_Tree) (by dsimp only [putD, List.set]) ?_) | (refine da_quiet (some 50) rfl rfl rfl rfl (by intro s hs; simp only [List.mem_cons, List.not_mem_nil, or_false] at hs; rcases hs with rfl <;> exact op_loadPA rfl fagg_api_Tree rfl (by first | decide | simp) rfl) (by dsimp only [putD, List.set]) ?_)
      refine da_quiet (some 51) rfl rfl rfl rfl (fun s hs => op_call0 rfl rfl rfl rfl (tleq_spec kd t (by omega) (by omega))) (by dsimp only [putD, List.set]) ?_
      rw [g1]
      refine da_mv 51 52 rfl rfl rfl (.inl rfl) rfl (by dsimp only [List.set]) ?_
      first | (refine da_quiet (some 53) rfl rfl rfl rfl (fun s hs => op_loadRA rfl fagg_api_Tree) (by dsimp only [putD, List.set]) ?_) | (refine da_quiet (some 53) rfl rfl rfl rfl (by intro s hs; simp only [List.mem_cons, List.not_mem_nil, or_false] at hs; rcases hs with rfl <;> exact op_loadPA rfl fagg_api_Tree rfl (by first | decide | simp) rfl) (by dsimp only [putD, List.set]) ?_)
      first | (refine da_quiet (some 54) rfl rfl rfl rfl (fun s hs => op_loadRA rfl fagg_api_Tree) (by dsimp only [putD, List.set]) ?_) | (refine da_quiet (some 54) rfl rfl rfl rfl (by intro s hs; simp only [List.mem_cons, List.not_mem_nil, or_false] at hs; rcases hs with rfl <;> exact op_loadPA rfl fagg_api_Tree rfl (by first | decide | simp) rfl) (by dsimp only [putD, List.set]) ?_)
      refine da_quiet (some 55) rfl rfl rfl rfl (fun s hs => op_call0 rfl rfl rfl rfl (tleq_spec (.mk t.lab (t.kids.take k ++ t.kids.drop (k + 1))) t (by omega) (by omega))) (by dsimp only [putD, List.set]) ?_
      rw [g2]
      refine da_pk true 52 55 56 rfl rfl rfl rfl rfl rfl rfl (by dsimp only [List.set]) ?_
      refine da_mv 56 57 rfl rfl rfl (.inl rfl) rfl (by dsimp only [List.set]) ?_
      first | (refine da_quiet (some 58) rfl rfl rfl rfl (fun s hs => op_loadRA rfl fagg_api_Tree) (by dsimp only [putD, List.set]) ?_) | (refine da_quiet (some 58) rfl rfl rfl rfl (by intro s hs; simp only [List.mem_cons, List.not_mem_nil, or_false] at hs; rcases hs with rfl <;> exact op_loadPA rfl fagg_api_Tree rfl (by first | decide | simp) rfl) (by dsimp only [putD, List.set]) ?_)
      first | (refine da_quiet (some 59) rfl rfl rfl rfl (fun s hs => op_loadRA rfl fagg_api_Tree) (by dsimp only [putD, List.set]) ?_) | (refine da_quiet (some 59) rfl rfl rfl rfl (by intro s hs; simp only [List.mem_cons, List.not_mem_nil, or_false] at hs; rcases hs with rfl <;> exact op_loadPA rfl fagg_api_Tree rfl (by first | decide | simp) rfl) (by dsimp only [putD, List.set]) ?_)
      refine da_quiet (some 60) rfl rfl rfl rfl (fun s hs => op_call0 rfl rfl rfl rfl (tleq_spec t (.mk t.lab (t.kids.take k ++ t.kids.drop (k + 1))) (by omega) (by omega))) (by dsimp only [putD, List.set]) ?_
      rw [g3]
      refine da_quiet (some 61) rfl rfl rfl rfl (fun s hs => op_un rfl rfl) (by dsimp only [putD, List.set]) ?_
      refine da_pk true 57 61 62 rfl rfl rfl rfl rfl rfl rfl (by dsimp only [List.set]) ?_
      refine da_mv 62 63 rfl rfl rfl (.inl rfl) rfl (by dsimp only [List.set]) ?_
      first | (refine da_quiet (some 64) rfl rfl rfl rfl (fun s hs => op_loadRA rfl fagg_api_Tree) (by dsimp only [putD, List.set]) ?_) | (refine da_quiet (some 64) rfl rfl rfl rfl (by intro s hs; simp only [List.mem_cons, List.not_mem_nil, or_false] at hs; rcases hs with rfl <;> exact op_loadPA rfl fagg_api_Tree rfl (by first | decide | simp) rfl) (by dsimp only [putD, List.set]) ?_)
      first | (refine da_quiet (some 65) rfl rfl rfl rfl (fun s hs => op_fieldP rfl ffld1_api_Tree (by decide)) (by dsimp only [putD, List.set]) ?_) | (refine da_quiet (some 65) rfl rfl rfl rfl (fun s hs => op_fieldR rfl ffld1_api_Tree (by decide) (by decide) rfl) (by dsimp only [putD, List.set]) ?_)
      first | (refine da_quiet (some 66) rfl rfl rfl rfl (fun s hs => op_loadR1 rfl fone_Sapi_Tree rfl) (by dsimp only [putD, List.set]) ?_) | (refine da_quiet (some 66) rfl rfl rfl rfl (by intro s hs; simp only [List.mem_cons, List.not_mem_nil, or_false] at hs; rcases hs with rfl <;> exact op_loadP1 rfl fone_Sapi_Tree rfl rfl) (by dsimp only [putD, List.set]) ?_)
      refine da_mv 5 67 rfl rfl rfl (.inl rfl) rfl (by dsimp only [List.set]) ?_
      first | (refine da_quiet (some 68) rfl rfl rfl rfl (fun s hs => op_idxL rfl fsl_Sapi_Tree (by first | decide | omega) (by first | assumption | exact idx_some (by assumption) | rfl) (by first | rfl | (simp [V.size]; done))) (by dsimp only [putD, List.set]) ?_) | (refine da_quiet (some 68) rfl rfl rfl rfl (fun s hs => opOK_un (op_idxL rfl fsl_Sapi_Tree (by first | decide | omega) (by first | assumption | exact idx_some (by assumption) | rfl) (by first | rfl | (simp [V.size]; done)))) (by dsimp only [putD, List.set]) ?_) | (refine da_quiet (some 68) rfl rfl rfl rfl (fun s hs => op_idxA rfl fsl_Sapi_Tree (by first | decide | omega) (by first | decide | omega)) (by dsimp only [putD, List.set]) ?_)
      first | (refine da_quiet (some 69) rfl rfl rfl rfl (fun s hs => op_loadRA rfl fagg_api_Tree) (by dsimp only [putD, List.set]) ?_) | (refine da_quiet (some 69) rfl rfl rfl rfl (by intro s hs; simp only [List.mem_cons, List.not_mem_nil, or_false] at hs; rcases hs with rfl <;> exact op_loadPA rfl fagg_api_Tree rfl (by first | decide | simp) rfl) (by dsimp only [putD, List.set]) ?_)
      refine da_quiet (some 70) rfl rfl rfl rfl (fun s hs => op_call0 rfl rfl rfl rfl (tleq_spec t kd (by omega) (by omega))) (by dsimp only [putD, List.set]) ?_
      rw [g4]
      refine da_quiet (some 71) rfl rfl rfl rfl (fun s hs => op_un rfl rfl) (by dsimp only [putD, List.set]) ?_
      refine da_pk true 63 71 72 rfl rfl rfl rfl rfl rfl rfl (by dsimp only [List.set]) ?_
      refine da_mv 72 73 rfl rfl rfl (.inl rfl) rfl (by dsimp only [List.set]) ?_
      first | (refine da_quiet (some 74) rfl rfl rfl rfl (fun s hs => op_loadRA rfl fagg_api_Tree) (by dsimp only [putD, List.set]) ?_) | (refine da_quiet (some 74) rfl rfl rfl rfl (by intro s hs; simp only [List.mem_cons, List.not_mem_nil, or_false] at hs; rcases hs with rfl <;> exact op_loadPA rfl fagg_api_Tree rfl (by first | decide | simp) rfl) (by dsimp only [putD, List.set]) ?_)
      refine da_quiet (some 75) rfl rfl rfl rfl (fun s hs => op_call0 rfl rfl rfl rfl (tsize_spec (.mk t.lab (t.kids.take k ++ t.kids.drop (k + 1))) (by omega))) (by dsimp only [putD, List.set]) ?_
      rw [vl1]
      first | (refine da_quiet (some 76) rfl rfl rfl rfl (fun s hs => op_fieldP rfl ffld1_api_Tree (by decide)) (by dsimp only [putD, List.set]) ?_) | (refine da_quiet (some 76) rfl rfl rfl rfl (fun s hs => op_fieldR rfl ffld1_api_Tree (by decide) (by decide) rfl) (by dsimp only [putD, List.set]) ?_)
      first | (refine da_quiet (some 77) rfl rfl rfl rfl (fun s hs => op_loadR1 rfl fone_Sapi_Tree rfl) (by dsimp only [putD, List.set]) ?_) | (refine da_quiet (some 77) rfl rfl rfl rfl (by intro s hs; simp only [List.mem_cons, List.not_mem_nil, or_false] at hs; rcases hs with rfl <;> exact op_loadP1 rfl fone_Sapi_Tree rfl rfl) (by dsimp only [putD, List.set]) ?_)
      refine da_mv 5 78 rfl rfl rfl (.inl rfl) rfl (by dsimp only [List.set]) ?_
      first | (refine da_quiet (some 79) rfl rfl rfl rfl (fun s hs => op_idxL rfl fsl_Sapi_Tree (by first | decide | omega) (by first | assumption | exact idx_some (by assumption) | rfl) (by first | rfl | (simp [V.size]; done))) (by dsimp only [putD, List.set]) ?_) | (refine da_quiet (some 79) rfl rfl rfl rfl (fun s hs => opOK_un (op_idxL rfl fsl_Sapi_Tree (by first | decide | omega) (by first | assumption | exact idx_some (by assumption) | rfl) (by first | rfl | (simp [V.size]; done)))) (by dsimp only [putD, List.set]) ?_) | (refine da_quiet (some 79) rfl rfl rfl rfl (fun s hs => op_idxA rfl fsl_Sapi_Tree (by first | decide | omega) (by first | decide | omega)) (by dsimp only [putD, List.set]) ?_)
      first | (refine da_quiet (some 80) rfl rfl rfl rfl (fun s hs => op_loadRA rfl fagg_api_Tree) (by dsimp only [putD, List.set]) ?_) | (refine da_quiet (some 80) rfl rfl rfl rfl (by intro s hs; simp only [List.mem_cons, List.not_mem_nil, or_false] at hs; rcases hs with rfl <;> exact op_loadPA rfl fagg_api_Tree rfl (by first | decide | simp) rfl) (by dsimp only [putD, List.set]) ?_)
      refine da_quiet (some 81) rfl rfl rfl rfl (fun s hs => op_call0 rfl rfl rfl rfl (tsize_spec kd (by omega))) (by dsimp only [putD, List.set]) ?_
      rw [vk1]
      refine da_quiet (some 82) rfl rfl rfl rfl (fun s hs => op_binI rfl rfl) (by dsimp only [putD, List.set]) ?_
      first | (refine da_quiet (some 83) rfl rfl rfl rfl (fun s hs => op_loadRA rfl fagg_api_Tree) (by dsimp only [putD, List.set]) ?_) | (refine da_quiet (some 83) rfl rfl rfl rfl (by intro s hs; simp only [List.mem_cons, List.not_mem_nil, or_false] at hs; rcases hs with rfl <;> exact op_loadPA rfl fagg_api_Tree rfl (by first | decide | simp) rfl) (by dsimp only [putD, List.set]) ?_)
      refine da_quiet (some 84) rfl rfl rfl rfl (fun s hs => op_call0 rfl rfl rfl rfl (tsize_spec t (by omega))) (by dsimp only [putD, List.set]) ?_
      rw [vt1]
      refine da_quiet (some 85) rfl rfl rfl rfl (fun s hs => op_binI rfl rfl) (by dsimp only [putD, List.set]) ?_
      refine da_pk true 73 85 86 rfl rfl rfl rfl rfl rfl rfl (by dsimp only [List.set]) ?_
      refine da_mv 86 2 rfl rfl rfl (.inr rfl) rfl (by dsimp only [List.set]) ?_
      refine da_end rfl ⟨by decide +kernel, _, rfl, ?_⟩
      refine at_ret rfl (ret_one (t := 2) rfl rfl ?_ rfl)
      first | rfl | (simp only [if_true]; rw [wrap_id (by omega) (by omega)]; congr 2; simp; omega)

noncomputable def cTGrows : Code := Try.f8.body.getD .skip
set_option maxRecDepth 20000 in
theorem tgrows_spec (l : List Int) : FSpec PP 8 [dl l] σ0 (db true) σ0 := by
  refine spec_at cTGrows Try.func8 rfl (by kernel_rfl) (by first | decide | simp) _ (by dsimp only [Try.f8, List.length, Nat.reduceAdd, Nat.reduceSub, List.replicate, List.cons_append, List.nil_append]) ?_
  refine at_seq [0] [1] rfl ?_
  refine at_region rfl ?_
  refine at_mc 2 rfl rfl rfl (.inr rfl) (by dsimp only [constD]) (by dsimp only [List.set]) ?_
  refine at_end rfl ?_
  refine at_seq [1, 0] [1, 1] rfl ?_
  refine at_seq [1, 0, 0] [1, 0, 1] rfl ?_
  refine at_region rfl ?_
  refine at_op (some 9) rfl rfl rfl rfl (op_call0 rfl rfl rfl rfl (awakeT_spec)) (by dsimp only [putD, List.set]) ?_
  refine at_op (some 10) rfl rfl rfl rfl (op_un rfl rfl) (by dsimp only [putD, List.set]) ?_
  refine at_mv 10 11 rfl rfl rfl (.inl rfl) rfl (by dsimp only [List.set]) ?_
  refine at_mv 0 12 rfl rfl rfl (.inl rfl) rfl (by dsimp only [List.set]) ?_
  refine at_op (some 13) rfl rfl rfl rfl (op_call0 rfl rfl rfl rfl (few_spec l)) (by dsimp only [putD, List.set]) ?_
  refine at_op (some 14) rfl rfl rfl rfl (op_un rfl rfl) (by dsimp only [putD, List.set]) ?_
  refine at_pk false 11 14 15 rfl rfl rfl rfl rfl rfl rfl (by dsimp only [List.set]) ?_
  refine at_end rfl ?_
  refine at_cond [1, 0, 1, 0] [1, 0, 1, 1] rfl rfl (fun hc1 => ?_) (fun hc1 => ?_)
  · skip
    refine at_seq [1, 0, 1, 0, 0] [1, 0, 1, 0, 1] rfl ?_
    refine at_region rfl ?_
    refine at_op (some 16) rfl rfl rfl rfl (op_call0 rfl rfl rfl rfl (awakeT_spec)) (by dsimp only [putD, List.set]) ?_
    refine at_mv 16 2 rfl rfl rfl (.inr rfl) rfl (by dsimp only [List.set]) ?_
    refine at_end rfl ?_
    refine at_ret rfl (ret_one (t := 2) rfl rfl ?_ rfl)
    first | rfl
  · skip
    have hs : l.length ≤ 1000000 := by simp_all; omega
    refine at_skip rfl ?_
    refine at_seq [1, 1, 0] [1, 1, 1] rfl ?_
    refine at_region rfl ?_
    refine at_mv 0 17 rfl rfl rfl (.inl rfl) rfl (by dsimp only [List.set]) ?_
    refine at_opS (some 18) rfl rfl rfl rfl (op_call0_new rfl rfl rfl rfl (new_spec l)) (by dsimp only [putD, List.set]) (by dsimp only [List.set, List.append, List.cons_append, List.nil_append, cellsD, List.map, repl, List.length, Nat.reduceAdd, if_true, ↓reduceIte]; first | done | rfl) ?_
    refine at_mv 18 3 rfl rfl rfl (.inr rfl) rfl (by dsimp only [List.set]) ?_
    refine at_end rfl ?_
    refine at_seq [1, 1, 1, 0] [1, 1, 1, 1] rfl ?_
    refine at_region rfl ?_
    refine at_mv 3 19 rfl rfl rfl (.inl rfl) rfl (by dsimp only [List.set]) ?_
    obtain ⟨a, sa, za, la, pa⟩ := tree_spec l hs 2 (by omega) 4 (by omega) (by omega) (0, 11400714819323198485)
    refine at_opS (some 20) rfl rfl rfl rfl (op_call1 rfl rfl rfl rfl rfl (.ptr (.pl rfl (.pl rfl .nil))) rfl pa) (by dsimp only [putD, List.set]) (by dsimp only [List.set, List.append, List.cons_append, List.nil_append, cellsD, List.map, repl, List.length, Nat.reduceAdd, if_true, ↓reduceIte]; first | done | rfl) ?_
    refine at_mv 3 21 rfl rfl rfl (.inl rfl) rfl (by dsimp only [List.set]) ?_
    obtain ⟨b, sb, zb, lb, pb⟩ := tree_spec l hs 2 (by omega) 7 (by omega) (by omega) sa
    refine at_opS (some 22) rfl rfl rfl rfl (op_call1 rfl rfl rfl rfl rfl (.ptr (.pl rfl (.pl rfl .nil))) rfl pb) (by dsimp only [putD, List.set]) (by dsimp only [List.set, List.append, List.cons_append, List.nil_append, cellsD, List.map, repl, List.length, Nat.reduceAdd, if_true, ↓reduceIte]; first | done | rfl) ?_
    refine at_opS (some 4) rfl rfl rfl rfl (op_alloc rfl fzero_api_Tree) (by dsimp only [putD, List.set]) (by dsimp only [List.set, List.append, List.cons_append, List.nil_append, cellsD, List.map, repl, List.length, Nat.reduceAdd, if_true, ↓reduceIte]; first | done | rfl) ?_
    refine at_opS (some 5) rfl rfl rfl rfl (op_alloc rfl fzero_api_Tree) (by dsimp only [putD, List.set]) (by dsimp only [List.set, List.append, List.cons_append, List.nil_append, cellsD, List.map, repl, List.length, Nat.reduceAdd, if_true, ↓reduceIte]; first | done | rfl) ?_
    refine at_stA 4 (.tmp 20) rfl rfl rfl rfl rfl (ev_tmp rfl) rfl fagg_api_Tree rfl rfl (by first | decide | simp | (simp; omega)) (by dsimp only [List.set, List.append, List.cons_append, List.nil_append, cellsD, List.map, repl, List.length, Nat.reduceAdd, if_true, ↓reduceIte]; first | done | rfl) ?_
    refine at_stA 5 (.tmp 22) rfl rfl rfl rfl rfl (ev_tmp rfl) rfl fagg_api_Tree rfl rfl (by first | decide | simp | (simp; omega)) (by dsimp only [List.set, List.append, List.cons_append, List.nil_append, cellsD, List.map, repl, List.length, Nat.reduceAdd, if_true, ↓reduceIte]; first | done | rfl) ?_
    refine at_end rfl ?_
    refine run_cv (cv_frz [1, 2] (.keep (.keep (.keep (.keep (.view (lend_pair (x := vi a.lab) (y := vtl a.kids) rfl rfl rfl) (.view (lend_pair (x := vi b.lab) (y := vtl b.kids) rfl rfl rfl) (.keep (.keep (.keep (.keep (.keep (.keep (.keep (.keep (.keep (.keep (.keep (.keep (.keep (.keep (.keep (.keep (.keep (.keep (.keep (.keep (.keep (.keep (.keep (.keep (.keep (.keep (.keep (.keep (.keep (.keep (.keep (.keep (.keep (.keep (.keep (.keep (.keep (.keep (.keep (.keep (.keep (.keep (.keep (.keep (.keep (.keep (.keep (.keep (.keep (.keep (.keep (.keep (.keep (.keep (.keep (.keep (.keep (.keep (.keep .nil)))))))))))))))))))))))))))))))))))))))))))))))))))))))))))))))))) ?_
    simp only [killH, List.foldl, List.set]
    have hkl := szl_len b.kids
    have hse := size_eq b
    obtain ⟨x, sx, hx, px⟩ := next_ex l hs 3 (by omega) sb
    refine at_seq [1, 1, 1, 1, 0] [1, 1, 1, 1, 1] rfl ?_
    refine at_draw2 mixed rfl 5 [⟨[some (dk l sb.1 sb.2), none, none], []⟩, ⟨[some (dk l sx.1 sx.2), none, none], []⟩] [⟨[some (dk l sb.1 sb.2), none, none, some [di 0, .v (.list [])]], []⟩, ⟨[some (dk l sx.1 sx.2), none, none, some [di 0, .v (.list [])]], []⟩, ⟨[some (dk l sx.1 sx.2), none, none, some [di ↑x, .v (.list [.agg [vi b.lab, vtl b.kids]])]], []⟩] (by decide +kernel) rfl ?_
    refine da_mv 3 23 rfl rfl rfl (.inl rfl) rfl (by dsimp only [List.set]) ?_
    refine da_eff2 (some 24) rfl rfl rfl rfl rfl rfl rfl rfl (op_call1 rfl rfl rfl rfl rfl (.ptr (.pl rfl .nil)) rfl px) (op_call1 rfl rfl rfl rfl rfl (.ptr (.pl rfl .nil)) rfl px) (by dsimp only [putD, List.set]) ?_
    first | (refine da_quiet2 (some 25) rfl rfl rfl rfl (fun s hs => op_loadRA rfl fagg_api_Tree) (by dsimp only [putD, List.set]) ?_) | (refine da_quiet2 (some 25) rfl rfl rfl rfl (by intro s hs; simp only [List.cons_append, List.nil_append, List.mem_cons, List.not_mem_nil, or_false] at hs; rcases hs with rfl | rfl | rfl | rfl | rfl <;> exact op_loadPA rfl fagg_api_Tree rfl (by first | decide | simp) rfl) (by dsimp only [putD, List.set]) ?_)
    refine da_quiet2 (some 26) rfl rfl rfl rfl (fun s hs => op_buildSlice rfl (by rfl) (by rfl) fsl_Sapi_Tree rfl rfl (by simp [V.size]) (by decide) (by decide) (by decide)) (by dsimp only [putD, List.set]) ?_
    refine da_quiet2 (some 27) rfl rfl rfl rfl (fun s hs => op_build rfl fbld_api_Tree rfl rfl) (by dsimp only [putD, List.set]) ?_
    try dsimp only [V.cellsV, List.take, List.drop, List.cons_append, List.nil_append, List.length]
    refine da_free (some 6) rfl rfl rfl rfl (by simp) (by intro x hx; simp only [List.zip_cons_cons, List.zip_nil_left, List.zip_nil_right, List.mem_cons, List.not_mem_nil, or_false] at hx; rcases hx with rfl | rfl <;> exact op_alloc rfl fzero_api_Tree) (by dsimp only [putD, List.set]) ?_
    refine da_effT none rfl rfl rfl rfl rfl rfl (by decide +kernel) (op_store rfl rfl fagg_api_Tree rfl (q := 3) (cs := [di 0, .v (.list [])]) rfl (by simp)) (by dsimp only [putD, List.set]) ?_
    refine da_end rfl ⟨by decide +kernel, _, rfl, ?_⟩
    refine run_cv (cv_frz [3] (.keep (.keep (.keep (.keep (.keep (.keep (.view (lend_pair (x := vi ↑x) (y := .list [.agg [vi b.lab, vtl b.kids]]) rfl rfl rfl) (.keep (.keep (.keep (.keep (.keep (.keep (.keep (.keep (.keep (.keep (.keep (.keep (.keep (.keep (.keep (.keep (.keep (.keep (.keep (.keep (.keep (.keep (.keep (.keep (.keep (.keep (.keep (.keep (.keep (.keep (.keep (.keep (.keep (.keep (.keep (.keep (.keep (.keep (.keep (.keep (.keep (.keep (.keep (.keep (.keep (.keep (.keep (.keep (.keep (.keep (.keep (.keep (.keep (.keep (.keep (.keep (.keep (.keep .nil)))))))))))))))))))))))))))))))))))))))))))))))))))))))))))))))))) ?_
    simp only [killH, List.foldl, List.set]
    rw [show V.list [.agg [vi b.lab, vtl b.kids]] = vtl [b] from by simp [vt_eq]]
    refine at_seq [1, 1, 1, 1, 1, 0] [1, 1, 1, 1, 1, 1] rfl ?_
    refine at_region rfl ?_
    refine at_mv 3 28 rfl rfl rfl (.inl rfl) rfl (by dsimp only [List.set]) ?_
    first | (refine at_op (some 29) rfl rfl rfl rfl (op_fieldP rfl ffld1_api_Tree (by decide)) (by dsimp only [putD, List.set]) ?_) | (refine at_op (some 29) rfl rfl rfl rfl (op_fieldR rfl ffld1_api_Tree (by decide) (by decide) rfl) (by dsimp only [putD, List.set]) ?_)
    first | (refine at_op (some 30) rfl rfl rfl rfl (op_loadR1 rfl fone_Sapi_Tree rfl) (by dsimp only [putD, List.set]) ?_) | (refine at_op (some 30) rfl rfl rfl rfl (op_loadP1 rfl fone_Sapi_Tree rfl rfl) (by dsimp only [putD, List.set]) ?_)
    first | (refine at_op (some 31) rfl rfl rfl rfl (op_lenL rfl fu_Sapi_Tree) (by dsimp only [putD, List.set]) ?_) | (refine at_op (some 31) rfl rfl rfl rfl (opOK_un (op_lenL rfl fu_Sapi_Tree)) (by dsimp only [putD, List.set]) ?_) | (refine at_op (some 31) rfl rfl rfl rfl (op_lenA rfl fu_Sapi_Tree) (by dsimp only [putD, List.set]) ?_)
    simp only [List.length_map]
    refine at_op (some 32) rfl rfl rfl rfl (op_binI rfl rfl) (by dsimp only [putD, List.set]) ?_
    rw [wrap_succ (by omega)]
    obtain ⟨k, sk, hk, pk⟩ := next_ex l hs (b.kids.length + 1) (by omega) sx
    refine at_opS (some 33) rfl rfl rfl rfl (op_call1 rfl rfl rfl rfl rfl (.ptr (.pl rfl .nil)) rfl pk) (by dsimp only [putD, List.set]) (by dsimp only [List.set, List.append, List.cons_append, List.nil_append, cellsD, List.map, repl, List.length, Nat.reduceAdd, if_true, ↓reduceIte]; first | done | rfl) ?_
    refine at_mv 33 7 rfl rfl rfl (.inr rfl) rfl (by dsimp only [List.set]) ?_
    refine at_end rfl ?_
    have hkl2 : k ≤ b.kids.length := by omega
    obtain ⟨c, sc, zc, lc, pc⟩ := tree_spec l hs 2 (by omega) 2 (by omega) (by omega) sk
    refine at_seq [1, 1, 1, 1, 1, 1, 0] [1, 1, 1, 1, 1, 1, 1] rfl ?_
    refine at_draw2 mixed rfl 17 [⟨[some (dk l sk.1 sk.2), none, none, none], []⟩, ⟨[some (dk l sk.1 sk.2), none, none, none], [(1, 2, (b.kids.take k).map vt)]⟩, ⟨[some (dk l sc.1 sc.2), none, none, none], [(1, 2, (b.kids.take k).map vt)]⟩, ⟨[some (dk l sc.1 sc.2), none, none, none], [(1, 2, (b.kids.take k).map vt ++ [.agg [vi c.lab, vtl c.kids]])]⟩, ⟨[some (dk l sc.1 sc.2), none, none, none], [(1, 2, (b.kids.take k).map vt ++ [.agg [vi c.lab, vtl c.kids]] ++ (b.kids.drop k).map vt)]⟩] [⟨[some (dk l sk.1 sk.2), none, none, none, some [di 0, .v (.list [])]], []⟩, ⟨[some (dk l sk.1 sk.2), none, none, none, some [di 0, .v (.list [])]], [(1, 2, (b.kids.take k).map vt)]⟩, ⟨[some (dk l sc.1 sc.2), none, none, none, some [di 0, .v (.list [])]], [(1, 2, (b.kids.take k).map vt)]⟩, ⟨[some (dk l sc.1 sc.2), none, none, none, some [di 0, .v (.list [])]], [(1, 2, (b.kids.take k).map vt ++ [.agg [vi c.lab, vtl c.kids]])]⟩, ⟨[some (dk l sc.1 sc.2), none, none, none, some [di 0, .v (.list [])]], [(1, 2, (b.kids.take k).map vt ++ [.agg [vi c.lab, vtl c.kids]] ++ (b.kids.drop k).map vt)]⟩, ⟨[some (dk l sc.1 sc.2), none, none, none, some [di b.lab, .v (.list ((b.kids.take k).map vt ++ [.agg [vi c.lab, vtl c.kids]] ++ (b.kids.drop k).map vt))]], [(1, 2, (b.kids.take k).map vt ++ [.agg [vi c.lab, vtl c.kids]] ++ (b.kids.drop k).map vt)]⟩] (by decide +kernel) rfl ?_
    first | (refine da_quiet2 (some 34) rfl rfl rfl rfl (fun s hs => op_fieldP rfl ffld0_api_Tree (by decide)) (by dsimp only [putD, List.set]) ?_) | (refine da_quiet2 (some 34) rfl rfl rfl rfl (fun s hs => op_fieldR rfl ffld0_api_Tree (by decide) (by decide) rfl) (by dsimp only [putD, List.set]) ?_)
    first | (refine da_quiet2 (some 35) rfl rfl rfl rfl (fun s hs => op_loadR1 rfl fone_int rfl) (by dsimp only [putD, List.set]) ?_) | (refine da_quiet2 (some 35) rfl rfl rfl rfl (by intro s hs; simp only [List.cons_append, List.nil_append, List.mem_cons, List.not_mem_nil, or_false] at hs; rcases hs with rfl | rfl | rfl | rfl | rfl | rfl | rfl | rfl | rfl | rfl | rfl <;> exact op_loadP1 rfl fone_int rfl rfl) (by dsimp only [putD, List.set]) ?_)
    first | (refine da_quiet2 (some 36) rfl rfl rfl rfl (fun s hs => op_fieldP rfl ffld1_api_Tree (by decide)) (by dsimp only [putD, List.set]) ?_) | (refine da_quiet2 (some 36) rfl rfl rfl rfl (fun s hs => op_fieldR rfl ffld1_api_Tree (by decide) (by decide) rfl) (by dsimp only [putD, List.set]) ?_)
    first | (refine da_quiet2 (some 37) rfl rfl rfl rfl (fun s hs => op_loadR1 rfl fone_Sapi_Tree rfl) (by dsimp only [putD, List.set]) ?_) | (refine da_quiet2 (some 37) rfl rfl rfl rfl (by intro s hs; simp only [List.cons_append, List.nil_append, List.mem_cons, List.not_mem_nil, or_false] at hs; rcases hs with rfl | rfl | rfl | rfl | rfl | rfl | rfl | rfl | rfl | rfl | rfl <;> exact op_loadP1 rfl fone_Sapi_Tree rfl rfl) (by dsimp only [putD, List.set]) ?_)
    refine da_mv 7 38 rfl rfl rfl (.inl rfl) rfl (by dsimp only [List.set]) ?_
    refine da_quiet2 (some 39) rfl rfl rfl rfl (fun s hs => op_sliceL rfl fsl_Sapi_Tree (by simp [V.size, vt_eq]) (by decide) none (some (_, _)) rfl rfl (l' := 0) (h' := k) (by simp [sliceI]; omega)) (by dsimp only [putD, List.set]) ?_
    rw [take_vt]
    refine da_eff2 (some 40) rfl rfl rfl rfl rfl rfl rfl rfl (op_appendNil rfl fsl_Sapi_Tree rfl 1 (by simp) (by decide) (sz_vts _) (by simp; omega) (by simp; omega)) (op_appendNil rfl fsl_Sapi_Tree rfl 1 (by simp) (by decide) (sz_vts _) (by simp; omega) (by simp; omega)) (by dsimp only [putD, List.set]) ?_
    refine da_mv 3 41 rfl rfl rfl (.inl rfl) rfl (by dsimp only [List.set]) ?_
    refine da_eff2 (some 42) rfl rfl rfl rfl rfl rfl rfl rfl (op_call1 rfl rfl rfl rfl rfl (.ptr (.pl rfl (.pl rfl .nil))) rfl pc) (op_call1 rfl rfl rfl rfl rfl (.ptr (.pl rfl (.pl rfl .nil))) rfl pc) (by dsimp only [putD, List.set]) ?_
    refine da_quiet2 (some 43) rfl rfl rfl rfl (fun s hs => op_buildSlice rfl (by rfl) (by rfl) fsl_Sapi_Tree rfl rfl (by simp [V.size]) (by decide) (by decide) (by decide)) (by dsimp only [putD, List.set]) ?_
    refine da_eff2 (some 44) rfl rfl rfl rfl rfl rfl rfl rfl (op_append rfl fsl_Sapi_Tree rfl (by simp) (by simp [V.size]) (by simp; omega) (by simp; omega)) (op_append rfl fsl_Sapi_Tree rfl (by simp) (by simp [V.size]) (by simp; omega) (by simp; omega)) (by dsimp only [putD, List.set]) ?_
    first | (refine da_quiet2 (some 45) rfl rfl rfl rfl (fun s hs => op_fieldP rfl ffld1_api_Tree (by decide)) (by dsimp only [putD, List.set]) ?_) | (refine da_quiet2 (some 45) rfl rfl rfl rfl (fun s hs => op_fieldR rfl ffld1_api_Tree (by decide) (by decide) rfl) (by dsimp only [putD, List.set]) ?_)
    first | (refine da_quiet2 (some 46) rfl rfl rfl rfl (fun s hs => op_loadR1 rfl fone_Sapi_Tree rfl) (by dsimp only [putD, List.set]) ?_) | (refine da_quiet2 (some 46) rfl rfl rfl rfl (by intro s hs; simp only [List.cons_append, List.nil_append, List.mem_cons, List.not_mem_nil, or_false] at hs; rcases hs with rfl | rfl | rfl | rfl | rfl | rfl | rfl | rfl | rfl | rfl | rfl <;> exact op_loadP1 rfl fone_Sapi_Tree rfl rfl) (by dsimp only [putD, List.set]) ?_)
    refine da_mv 7 47 rfl rfl rfl (.inl rfl) rfl (by dsimp only [List.set]) ?_
    refine da_quiet2 (some 48) rfl rfl rfl rfl (fun s hs => op_sliceL rfl fsl_Sapi_Tree (by simp [V.size, vt_eq]) (by decide) (some (_, _)) none rfl rfl (l' := k) (h' := b.kids.length) (by simp [sliceI]; omega)) (by dsimp only [putD, List.set]) ?_
    rw [drop_vt _ _ _ (Nat.le_refl _)]
    refine da_eff2 (some 49) rfl rfl rfl rfl rfl rfl rfl rfl (op_append rfl fsl_Sapi_Tree rfl (by simp) (sz_vts _) (by simp; omega) (by simp; omega)) (op_append rfl fsl_Sapi_Tree rfl (by simp) (sz_vts _) (by simp; omega) (by simp; omega)) (by dsimp only [putD, List.set]) ?_
    refine da_quiet2 (some 50) rfl rfl rfl rfl (fun s hs => op_build rfl fbld_api_Tree rfl rfl) (by dsimp only [putD, List.set]) ?_
    try dsimp only [V.cellsV, List.take, List.drop, List.cons_append, List.nil_append, List.length]
    refine da_free (some 8) rfl rfl rfl rfl (by simp) (by intro x hx; simp only [List.zip_cons_cons, List.zip_nil_left, List.zip_nil_right, List.mem_cons, List.not_mem_nil, or_false] at hx; rcases hx with rfl | rfl | rfl | rfl | rfl <;> exact op_alloc rfl fzero_api_Tree) (by dsimp only [putD, List.set]) ?_
    refine da_effT none rfl rfl rfl rfl rfl rfl (by decide +kernel) (op_store rfl rfl fagg_api_Tree rfl (q := 4) (cs := [di 0, .v (.list [])]) rfl (by simp)) (by dsimp only [putD, List.set]) ?_
    refine da_end rfl ⟨by decide +kernel, _, rfl, ?_⟩
    refine run_cv (cv_frz [4] (.keep (.keep (.keep (.keep (.keep (.keep (.keep (.keep (.view (lend_pair (x := vi b.lab) (y := .list ((b.kids.take k).map vt ++ [.agg [vi c.lab, vtl c.kids]] ++ (b.kids.drop k).map vt)) rfl rfl rfl) (.keep (.keep (.keep (.keep (.keep (.keep (.keep (.keep (.keep (.keep (.keep (.keep (.keep (.keep (.keep (.keep (.keep (.keep (.keep (.keep (.keep (.keep (.keep (.keep (.keep (.keep (.keep (.keep (.keep (.keep (.keep (.keep (.keep (.keep (.keep (.keep (.keep (.keep (.keep (.keep (.keep (.keep (.keep (.keep (.keep (.keep (.keep (.keep (.keep (.keep (.keep (.keep (.keep (.keep (.keep (.keep .nil)))))))))))))))))))))))))))))))))))))))))))))))))))))))))))))))))) ?_
    simp only [killH, List.foldl, List.set]
    rw [show (b.kids.take k).map vt ++ [.agg [vi c.lab, vtl c.kids]] ++ (b.kids.drop k).map vt = (b.kids.take k ++ [c] ++ b.kids.drop k).map vt from by simp [vt_eq]]
    have hws := wide_size b c k
    have hts : (Tr.mk (x : Int) [b]).size = 1 + b.size := by simp [size, szl]
    refine at_seq [1, 1, 1, 1, 1, 1, 1, 0] [1, 1, 1, 1, 1, 1, 1, 1] rfl ?_
    refine at_region rfl ?_
    first | (refine at_op (some 51) rfl rfl rfl rfl (op_loadRA rfl fagg_api_Tree) (by dsimp only [putD, List.set]) ?_) | (refine at_op (some 51) rfl rfl rfl rfl (op_loadPA rfl fagg_api_Tree rfl (by first | decide | simp) rfl) (by dsimp only [putD, List.set]) ?_)
    first | (refine at_op (some 52) rfl rfl rfl rfl (op_loadRA rfl fagg_api_Tree) (by dsimp only [putD, List.set]) ?_) | (refine at_op (some 52) rfl rfl rfl rfl (op_loadPA rfl fagg_api_Tree rfl (by first | decide | simp) rfl) (by dsimp only [putD, List.set]) ?_)
    refine at_op (some 53) rfl rfl rfl rfl (op_call0 rfl rfl rfl rfl (tleq_spec a b (by omega) (by omega))) (by dsimp only [putD, List.set]) ?_
    refine at_op (some 54) rfl rfl rfl rfl (op_un rfl rfl) (by dsimp only [putD, List.set]) ?_
    refine at_mv 54 55 rfl rfl rfl (.inl rfl) rfl (by dsimp only [List.set]) ?_
    refine at_split 55 rfl (fun hb2 env' he => ?_) (fun hb2 env' he => ?_)
    · dsimp only [List.set] at he; subst he
      refine at_opN (some 56) rfl rfl rfl (by dsimp only [putD, List.set]) ?_
      refine at_opN (some 57) rfl rfl rfl (by dsimp only [putD, List.set]) ?_
      refine at_opN (some 58) rfl rfl rfl (by dsimp only [putD, List.set]) ?_
      refine at_opN (some 59) rfl rfl rfl (by dsimp only [putD, List.set]) ?_
      refine at_opN (some 60) rfl rfl rfl (by dsimp only [putD, List.set]) ?_
      refine at_opN (some 61) rfl rfl rfl (by dsimp only [putD, List.set]) ?_
      refine at_opN (some 62) rfl rfl rfl (by dsimp only [putD, List.set]) ?_
      refine at_opN (some 63) rfl rfl rfl (by dsimp only [putD, List.set]) ?_
      refine at_pkc true 55 64 rfl rfl rfl rfl rfl rfl (by dsimp only [constD]) (by dsimp only [List.set]) ?_
      refine at_mv 64 2 rfl rfl rfl (.inr rfl) rfl (by dsimp only [List.set]) ?_
      refine at_end rfl ?_
      refine at_ret rfl (ret_one (t := 2) rfl rfl ?_ rfl)
      first | rfl
    · dsimp only [List.set] at he; subst he
      have hE : (embT a b).isSome = true := by simpa using hb2
      obtain ⟨va, vb, he⟩ := (leqT_iff a b).1 hE
      have vt1 : validT (.mk ↑x [b]) = true := valid_of (lb := 3) (by rw [hts]; omega) (by omega) (.mk ⟨by omega, by omega⟩ (by simp; exact LabIn.mono (by omega) b.size (Nat.le_refl _) lb))
      have vw1 : validT (.mk b.lab (b.kids.take k ++ [c] ++ b.kids.drop k)) = true := valid_of (lb := 2) (by rw [hws]; omega) (by omega) (wide_ok lb lc k)
      have g1 := leq_true va vt1 (.deep (b := (.mk ↑x [b])) (k := b) (by simp [kids]) he)
      have g2 := leq_true va vw1 (emb_wide c k he)
      first | (refine at_op (some 56) rfl rfl rfl rfl (op_loadRA rfl fagg_api_Tree) (by dsimp only [putD, List.set]) ?_) | (refine at_op (some 56) rfl rfl rfl rfl (op_loadPA rfl fagg_api_Tree rfl (by first | decide | simp) rfl) (by dsimp only [putD, List.set]) ?_)
      first | (refine at_op (some 57) rfl rfl rfl rfl (op_loadRA rfl fagg_api_Tree) (by dsimp only [putD, List.set]) ?_) | (refine at_op (some 57) rfl rfl rfl rfl (op_loadPA rfl fagg_api_Tree rfl (by first | decide | simp) rfl) (by dsimp only [putD, List.set]) ?_)
      refine at_op (some 58) rfl rfl rfl rfl (op_call0 rfl rfl rfl rfl (tleq_spec a (.mk ↑x [b]) (by omega) (by omega))) (by dsimp only [putD, List.set]) ?_
      rw [g1]
      refine at_mv 58 59 rfl rfl rfl (.inl rfl) rfl (by dsimp only [List.set]) ?_
      first | (refine at_op (some 60) rfl rfl rfl rfl (op_loadRA rfl fagg_api_Tree) (by dsimp only [putD, List.set]) ?_) | (refine at_op (some 60) rfl rfl rfl rfl (op_loadPA rfl fagg_api_Tree rfl (by first | decide | simp) rfl) (by dsimp only [putD, List.set]) ?_)
      first | (refine at_op (some 61) rfl rfl rfl rfl (op_loadRA rfl fagg_api_Tree) (by dsimp only [putD, List.set]) ?_) | (refine at_op (some 61) rfl rfl rfl rfl (op_loadPA rfl fagg_api_Tree rfl (by first | decide | simp) rfl) (by dsimp only [putD, List.set]) ?_)
      refine at_op (some 62) rfl rfl rfl rfl (op_call0 rfl rfl rfl rfl (tleq_spec a (.mk b.lab (b.kids.take k ++ [c] ++ b.kids.drop k)) (by omega) (by omega))) (by dsimp only [putD, List.set]) ?_
      rw [g2]
      refine at_pk true 59 62 63 rfl rfl rfl rfl rfl rfl rfl (by dsimp only [List.set]) ?_
      refine at_pk false 55 63 64 rfl rfl rfl rfl rfl rfl rfl (by dsimp only [List.set]) ?_
      refine at_mv 64 2 rfl rfl rfl (.inr rfl) rfl (by dsimp only [List.set]) ?_
      refine at_end rfl ?_
      refine at_ret rfl (ret_one (t := 2) rfl rfl ?_ rfl)
      first | rfl

end Go.Proofs.Ytoofgniepbidnaa
