/-
  Package tree, walked: counting and numbering nodes.
-/
import Derived.Test.YtoofgniepbidnaaWe
import Derived.Test.YtoofgniepbidnaaTz
namespace Go.Proofs.Ytoofgniepbidnaa
open Go.Dv

inductive Tr where
  | mk (l : Int) (ks : List Tr)
namespace Tr
def lab : Tr → Int
  | mk l _ => l
def kids : Tr → List Tr
  | mk _ ks => ks
mutual
def size : Tr → Nat
  | mk _ ks => 1 + szl ks
def szl : List Tr → Nat
  | [] => 0
  | k :: ks => size k + szl ks
end
mutual
def vt : Tr → V
  | mk l ks => .agg [.int .i64 l, .list (vts ks)]
def vts : List Tr → List V
  | [] => []
  | k :: ks => vt k :: vts ks
end
end Tr
open Tr
theorem vts_map : ∀ ks : List Tr, vts ks = ks.map vt
  | [] => rfl
  | k :: ks => by simp [vts, vts_map ks]
abbrev vtl (ks : List Tr) : V := .list (ks.map vt)
theorem vt_eq (t : Tr) : vt t = .agg [vi t.lab, vtl t.kids] := by cases t; simp [vt, vts_map, lab, kids]
abbrev dt (t : Tr) : D := .v (.agg [vi t.lab, vtl t.kids])
theorem size_eq (t : Tr) : t.size = 1 + szl t.kids := by cases t; simp [size, kids]
theorem size_pos (t : Tr) : 1 ≤ t.size := by rw [size_eq]; omega
theorem szl_cons (k : Tr) (ks : List Tr) : szl (k :: ks) = k.size + szl ks := by simp [szl]
theorem szl_append : ∀ a b : List Tr, szl (a ++ b) = szl a + szl b
  | [], b => by simp [szl]
  | k :: a, b => by simp [szl, szl_append a b]; omega
theorem szl_at {ks : List Tr} {i : Nat} {k : Tr} (h : ks[i]? = some k) : szl (ks.drop i) = k.size + szl (ks.drop (i + 1)) := by
  obtain ⟨h1, h2⟩ := List.getElem?_eq_some_iff.1 h
  rw [List.drop_eq_getElem_cons h1, h2, szl_cons]
theorem szl_end {ks : List Tr} {i : Nat} (h : ks.length ≤ i) : szl (ks.drop i) = 0 := by rw [List.drop_of_length_le h]; simp [szl]
theorem szl_mem : ∀ {ks : List Tr} {k : Tr}, k ∈ ks → k.size ≤ szl ks
  | k0 :: ks, k, h => by
    rw [szl_cons]
    rcases List.mem_cons.1 h with rfl | h
    · omega
    · have := szl_mem h; omega
theorem szl_len : ∀ ks : List Tr, ks.length ≤ szl ks
  | [] => by simp
  | k :: ks => by have := szl_len ks; have := size_pos k; rw [szl_cons]; simp; omega
theorem idx_tree {ks : List Tr} {i : Nat} {k : Tr} (h : ks[i]? = some k) : (ks.map vt)[((i : Nat) : Int).toNat]? = some (.agg [vi k.lab, vtl k.kids]) := by simp [h, vt_eq]

/-- a node by number: its label, the first number behind its subtree, its children -/
structure Nd where
  lab : Int
  fin : Nat
  kids : List Nat
abbrev il (ks : List Nat) : List Int := ks.map Int.ofNat
abbrev vn (n : Nd) : V := .agg [vi n.lab, vi n.fin, vl (il n.kids)]
abbrev vnl (l : List Nd) : V := .list (l.map vn)
abbrev dnl (l : List Nd) : D := .v (.list (l.map vn))
def posL : Nat → List Tr → List Nat
  | _, [] => []
  | at', k :: ks => at' :: posL (at' + k.size) ks
mutual
def nodesM : Nat → Tr → List Nd
  | at', .mk l ks => ⟨l, at' + 1 + szl ks, posL (at' + 1) ks⟩ :: nodesL (at' + 1) ks
def nodesL : Nat → List Tr → List Nd
  | _, [] => []
  | at', k :: ks => nodesM at' k ++ nodesL (at' + k.size) ks
end
mutual
theorem nodesM_length : ∀ (t : Tr) (a : Nat), (nodesM a t).length = t.size
  | .mk l ks, a => by simp only [nodesM, List.length_cons, nodesL_length ks, size]; omega
theorem nodesL_length : ∀ (ks : List Tr) (a : Nat), (nodesL a ks).length = szl ks
  | [], a => by simp [nodesL, szl]
  | k :: ks, a => by simp [nodesL, szl, nodesM_length k, nodesL_length ks]
end
theorem posL_append : ∀ (a : Nat) (ks ks' : List Tr), posL a (ks ++ ks') = posL a ks ++ posL (a + szl ks) ks'
  | a, [], ks' => by simp [posL, szl]
  | a, k :: ks, ks' => by simp [posL, szl, posL_append (a + k.size) ks ks', Nat.add_assoc]
theorem nodesL_append : ∀ (a : Nat) (ks ks' : List Tr), nodesL a (ks ++ ks') = nodesL a ks ++ nodesL (a + szl ks) ks'
  | a, [], ks' => by simp [nodesL, szl]
  | a, k :: ks, ks' => by simp [nodesL, szl, nodesL_append (a + k.size) ks ks', Nat.add_assoc]

noncomputable def cCount : Code := Try.f89.body.getD .skip
set_option maxRecDepth 20000 in
theorem count_loop (ks : List Tr) (hl : ks.length ≤ 100000000) (ih : ∀ k ∈ ks, ∀ m : Nat, m ≤ 1000000 → FSpec PP 89 [dt k, di ↑m] σ0 (di ↑(min k.size (m + 1))) σ0) (most : Nat) (hm0 : most ≤ 1000000) (T : Nat) (m : Nat) : ∀ (i n : Nat), ks.length - i = m → n ≤ most + 1 → 1 ≤ n → T = min (n + szl (ks.drop i)) (most + 1) → Run PP (fun env σ1 => ResOK PP Try.f89 env σ1 (di ↑T) σ0) [.lp (sub cCount [1, 1, 0, 1, 0, 0]), .blk 0, .code (sub cCount [1, 1, 1])] (.undef :: (di ↑most) :: .undef :: .undef :: .undef :: (di ↑n) :: .undef :: .undef :: .undef :: (.v (vtl ks)) :: (di ↑ks.length) :: (di ↑i) :: .undef :: .undef :: .undef :: .undef :: .undef :: .undef :: .undef :: .undef :: .undef :: .undef :: .undef :: .undef :: .undef :: .undef :: .undef :: []) σ0 := by
  induction m using Nat.strongRecOn with
  | _ m ih2 =>
    intro i n hm hn h1 hT
    refine run_lp ?_
    refine at_seq [1, 1, 0, 1, 0, 0, 0] [1, 1, 0, 1, 0, 0, 1] rfl ?_
    refine at_region rfl ?_
    refine at_op (some 12) rfl rfl rfl rfl (op_binI rfl rfl) (by dsimp only [putD, List.set]) ?_
    refine at_end rfl ?_
    refine at_seq [1, 1, 0, 1, 0, 0, 1, 0] [1, 1, 0, 1, 0, 0, 1, 1] rfl ?_
    refine at_cond [1, 1, 0, 1, 0, 0, 1, 0, 0] [1, 1, 0, 1, 0, 0, 1, 0, 1] rfl rfl (fun hc1 => ?_) (fun hc1 => ?_)
    · skip
      have hlt : i < ks.length := by simpa using hc1
      obtain ⟨k, hk⟩ := get_ex hlt
      rw [szl_at hk] at hT
      have hk2 := idx_tree hk
      have hkp := size_pos k
      refine at_skip rfl ?_
      refine at_seq [1, 1, 0, 1, 0, 0, 1, 1, 0] [1, 1, 0, 1, 0, 0, 1, 1, 1] rfl ?_
      refine at_block [1, 1, 0, 1, 0, 0, 1, 1, 0, 0] 1 rfl ?_
      refine at_seq [1, 1, 0, 1, 0, 0, 1, 1, 0, 0, 0] [1, 1, 0, 1, 0, 0, 1, 1, 0, 0, 1] rfl ?_
      refine at_region rfl ?_
      first | (refine at_op (some 13) rfl rfl rfl rfl (op_idxL rfl fsl_Sapi_Tree (by first | decide | omega) (by first | assumption | exact idx_some (by assumption) | rfl) (by first | rfl | (simp [V.size]; done))) (by dsimp only [putD, List.set]) ?_) | (refine at_op (some 13) rfl rfl rfl rfl (opOK_un (op_idxL rfl fsl_Sapi_Tree (by first | decide | omega) (by first | assumption | exact idx_some (by assumption) | rfl) (by first | rfl | (simp [V.size]; done)))) (by dsimp only [putD, List.set]) ?_) | (refine at_op (some 13) rfl rfl rfl rfl (op_idxA rfl fsl_Sapi_Tree (by first | decide | omega) (by first | decide | omega)) (by dsimp only [putD, List.set]) ?_)
      first | (refine at_op (some 14) rfl rfl rfl rfl (op_loadRA rfl fagg_api_Tree) (by dsimp only [putD, List.set]) ?_) | (refine at_op (some 14) rfl rfl rfl rfl (op_loadPA rfl fagg_api_Tree rfl (by decide) rfl) (by dsimp only [putD, List.set]) ?_)
      refine at_new 14 7 rfl rfl rfl rfl fzero_api_Tree rfl rfl rfl rfl (by decide) rfl rfl fagg_api_Tree (by first | rfl | (simp [V.size]; done)) rfl (by simp only [List.length_cons]; omega) (by dsimp only [List.set]) ?_
      refine at_end rfl ?_
      refine at_seq [1, 1, 0, 1, 0, 0, 1, 1, 0, 0, 1, 0] [1, 1, 0, 1, 0, 0, 1, 1, 0, 0, 1, 1] rfl ?_
      refine at_seq [1, 1, 0, 1, 0, 0, 1, 1, 0, 0, 1, 0, 0] [1, 1, 0, 1, 0, 0, 1, 1, 0, 0, 1, 0, 1] rfl ?_
      refine at_region rfl ?_
      refine at_mv 5 15 rfl rfl rfl (.inl rfl) rfl (by dsimp only [List.set]) ?_
      refine at_mv 1 16 rfl rfl rfl (.inl rfl) rfl (by dsimp only [List.set]) ?_
      refine at_op (some 17) rfl rfl rfl rfl (op_binI rfl rfl) (by dsimp only [putD, List.set]) ?_
      refine at_end rfl ?_
      refine at_cond [1, 1, 0, 1, 0, 0, 1, 1, 0, 0, 1, 0, 1, 0] [1, 1, 0, 1, 0, 0, 1, 1, 0, 0, 1, 0, 1, 1] rfl rfl (fun hc2 => ?_) (fun hc2 => ?_)
      · skip
        have hgt : most < n := by simp at hc2; omega
        refine at_exit rfl rfl ?_
        refine at_seq [1, 1, 1, 0] [1, 1, 1, 1] rfl ?_
        refine at_region rfl ?_
        refine at_mv 5 26 rfl rfl rfl (.inl rfl) rfl (by dsimp only [List.set]) ?_
        refine at_mv 26 4 rfl rfl rfl (.inr rfl) rfl (by dsimp only [List.set]) ?_
        refine at_end rfl ?_
        refine at_ret rfl (ret_one (t := 4) rfl rfl ?_ rfl)
        first | (congr 3; omega)
      · skip
        have hle : n ≤ most := by simp at hc2; omega
        refine at_skip rfl ?_
        refine at_region rfl ?_
        refine at_mv 5 18 rfl rfl rfl (.inl rfl) rfl (by dsimp only [List.set]) ?_
        first | (refine at_op (some 19) rfl rfl rfl rfl (op_loadRA rfl fagg_api_Tree) (by dsimp only [putD, List.set]) ?_) | (refine at_op (some 19) rfl rfl rfl rfl (op_loadPA rfl fagg_api_Tree rfl (by decide) rfl) (by dsimp only [putD, List.set]) ?_)
        refine at_mv 1 20 rfl rfl rfl (.inl rfl) rfl (by dsimp only [List.set]) ?_
        refine at_mv 5 21 rfl rfl rfl (.inl rfl) rfl (by dsimp only [List.set]) ?_
        refine at_op (some 22) rfl rfl rfl rfl (op_binI rfl rfl) (by dsimp only [putD, List.set]) ?_
        rw [wrap_id (by omega) (by omega), show ((most : Int) - (n : Int)) = ((most - n : Nat) : Int) by omega]
        refine at_op (some 23) rfl rfl rfl rfl (op_call0 rfl rfl rfl rfl (ih k (List.mem_of_getElem? hk) (most - n) (by omega))) (by dsimp only [putD, List.set]) ?_
        refine at_op (some 24) rfl rfl rfl rfl (op_binI rfl rfl) (by dsimp only [putD, List.set]) ?_
        rw [wrap_id (by omega) (by omega), show ((n : Int) + ((min k.size (most - n + 1) : Nat) : Int)) = ((n + min k.size (most - n + 1) : Nat) : Int) by omega]
        refine at_mv 24 5 rfl rfl rfl (.inr rfl) rfl (by dsimp only [List.set]) ?_
        refine at_end rfl ?_
        refine run_blk ?_
        refine at_region rfl ?_
        refine at_op (some 25) rfl rfl rfl rfl (op_binI rfl rfl) (by dsimp only [putD, List.set]) ?_
        refine at_mv 25 11 rfl rfl rfl (.inl rfl) rfl (by dsimp only [List.set]) ?_
        refine at_end rfl ?_
        rw [wrap_succ (by omega)]
        exact run_wk (.drop (.keep (.drop (.drop (.drop (.keep (.drop (.drop (.drop (.keep (.keep (.keep (.drop (.drop (.drop (.drop (.drop (.drop (.drop (.drop (.drop (.drop (.drop (.drop (.drop (.drop (.drop .nil))))))))))))))))))))))))))) (ih2 _ (by omega) (i + 1) _ rfl (by omega) (by omega) (by omega))
    · skip
      have hge : ks.length ≤ i := by simpa using hc1
      rw [szl_end hge] at hT
      refine at_exit rfl rfl ?_
      refine at_seq [1, 1, 1, 0] [1, 1, 1, 1] rfl ?_
      refine at_region rfl ?_
      refine at_mv 5 26 rfl rfl rfl (.inl rfl) rfl (by dsimp only [List.set]) ?_
      refine at_mv 26 4 rfl rfl rfl (.inr rfl) rfl (by dsimp only [List.set]) ?_
      refine at_end rfl ?_
      refine at_ret rfl (ret_one (t := 4) rfl rfl ?_ rfl)
      first | (congr 3; omega)

set_option maxRecDepth 20000 in
theorem count_spec (N : Nat) : ∀ (t : Tr), t.size = N → t.size ≤ 100000000 → ∀ (most : Nat), most ≤ 1000000 → FSpec PP 89 [dt t, di ↑most] σ0 (di ↑(min t.size (most + 1))) σ0 := by
  induction N using Nat.strongRecOn with
  | _ N ih =>
  intro t hN hs most hm0
  have hz := size_eq t
  have hkl := szl_len t.kids
  refine spec_at cCount Try.func89 rfl (by kernel_rfl) (by first | decide | simp) _ (by dsimp only [Try.f89, List.length, Nat.reduceAdd, Nat.reduceSub, List.replicate, List.cons_append, List.nil_append]) ?_
  refine at_seq [0] [1] rfl ?_
  refine at_region rfl ?_
  refine at_op (some 2) rfl rfl rfl rfl (op_boxI rfl rfl) (by dsimp only [putD, List.set]) ?_
  refine at_mc 4 rfl rfl rfl (.inr rfl) (by dsimp only [constD]) (by dsimp only [List.set]) ?_
  refine at_end rfl ?_
  refine at_seq [1, 0] [1, 1] rfl ?_
  refine at_region rfl ?_
  refine at_mc 5 rfl rfl rfl (.inr rfl) (by dsimp only [constD]) (by dsimp only [List.set]) ?_
  refine at_end rfl ?_
  refine at_seq [1, 1, 0] [1, 1, 1] rfl ?_
  refine at_seq [1, 1, 0, 0] [1, 1, 0, 1] rfl ?_
  refine at_region rfl ?_
  first | (refine at_op (some 8) rfl rfl rfl rfl (op_fieldP rfl ffld1_api_Tree (by decide)) (by dsimp only [putD, List.set]) ?_) | (refine at_op (some 8) rfl rfl rfl rfl (op_fieldR rfl ffld1_api_Tree (by decide) (by decide) rfl) (by dsimp only [putD, List.set]) ?_)
  first | (refine at_op (some 9) rfl rfl rfl rfl (op_loadR1 rfl fone_Sapi_Tree rfl) (by dsimp only [putD, List.set]) ?_) | (refine at_op (some 9) rfl rfl rfl rfl (op_loadP1 rfl fone_Sapi_Tree rfl rfl) (by dsimp only [putD, List.set]) ?_)
  first | (refine at_op (some 10) rfl rfl rfl rfl (op_lenL rfl fu_Sapi_Tree) (by dsimp only [putD, List.set]) ?_) | (refine at_op (some 10) rfl rfl rfl rfl (opOK_un (op_lenL rfl fu_Sapi_Tree)) (by dsimp only [putD, List.set]) ?_) | (refine at_op (some 10) rfl rfl rfl rfl (op_lenA rfl fu_Sapi_Tree) (by dsimp only [putD, List.set]) ?_)
  refine at_mc 11 rfl rfl rfl (.inl rfl) (by dsimp only [constD]) (by dsimp only [List.set]) ?_
  refine at_end rfl ?_
  refine at_block [1, 1, 0, 1, 0] 0 rfl ?_
  refine at_loop [1, 1, 0, 1, 0, 0] rfl ?_
  try simp only [List.length_map, List.length_nil, Int.toNat_natCast]
  exact run_wk (.drop (.keep (.drop (.drop (.drop (.keep (.drop (.drop (.drop (.keep (.keep (.keep (.drop (.drop (.drop (.drop (.drop (.drop (.drop (.drop (.drop (.drop (.drop (.drop (.drop (.drop (.drop .nil))))))))))))))))))))))))))) (count_loop t.kids (by omega) (fun k hk m hm => ih k.size (by have := szl_mem hk; omega) k rfl (by have := szl_mem hk; omega) m hm) most hm0 _ _ 0 1 rfl (by omega) (by omega) (by rw [List.drop_zero]; omega))

noncomputable def cSmallT : Code := Try.f75.body.getD .skip
set_option maxRecDepth 20000 in
theorem tsmall_spec (t : Tr) (hs : t.size ≤ 100000000) : FSpec PP 75 [dt t] σ0 (db (decide (t.size ≤ 12))) σ0 := by
  refine spec_at cSmallT Try.func75 rfl (by kernel_rfl) (by first | decide | simp) _ (by dsimp only [Try.f75, List.length, Nat.reduceAdd, Nat.reduceSub, List.replicate, List.cons_append, List.nil_append]) ?_
  refine at_seq [0] [1] rfl ?_
  refine at_region rfl ?_
  refine at_op (some 1) rfl rfl rfl rfl (op_boxI rfl rfl) (by dsimp only [putD, List.set]) ?_
  refine at_mc 2 rfl rfl rfl (.inr rfl) (by dsimp only [constD]) (by dsimp only [List.set]) ?_
  refine at_end rfl ?_
  refine at_seq [1, 0] [1, 1] rfl ?_
  refine at_region rfl ?_
  first | (refine at_op (some 3) rfl rfl rfl rfl (op_loadRA rfl fagg_api_Tree) (by dsimp only [putD, List.set]) ?_) | (refine at_op (some 3) rfl rfl rfl rfl (op_loadPA rfl fagg_api_Tree rfl (by decide) rfl) (by dsimp only [putD, List.set]) ?_)
  refine at_op (some 4) rfl rfl rfl rfl (op_call0 rfl rfl rfl rfl (count_spec _ _ rfl (by assumption) 12 (by omega))) (by dsimp only [putD, List.set]) ?_
  refine at_op (some 5) rfl rfl rfl rfl (op_binI rfl rfl) (by dsimp only [putD, List.set]) ?_
  refine at_mv 5 2 rfl rfl rfl (.inr rfl) rfl (by dsimp only [List.set]) ?_
  refine at_end rfl ?_
  refine at_ret rfl (ret_one (t := 2) rfl rfl ?_ rfl)
  simp only [D.v.injEq, V.bool.injEq, decide_eq_decide]; omega

end Go.Proofs.Ytoofgniepbidnaa
