/-
  Package tree, walked: counting and numbering nodes.
-/
import Derived.Test.YtaceggcohmmfhaaFa
namespace Go.Proofs.Ytaceggcohmmfhaa
open Go.Dv

inductive Tr where
  | mk (l : Int) (ks : List Tr)
namespace Tr
def lab : Tr → Int
  | mk l _ => l
def kids : Tr → List Tr
  | mk _ ks => ks
mutual
def size : Tr → Nat
  | mk _ ks => 1 + szl ks
def szl : List Tr → Nat
  | [] => 0
  | k :: ks => size k + szl ks
end
mutual
def vt : Tr → V
  | mk l ks => .agg [.int .i64 l, .list (vts ks)]
def vts : List Tr → List V
  | [] => []
  | k :: ks => vt k :: vts ks
end
end Tr
open Tr
theorem vts_map : ∀ ks : List Tr, vts ks = ks.map vt
  | [] => rfl
  | k :: ks => by simp [vts, vts_map ks]
abbrev vtl (ks : List Tr) : V := .list (ks.map vt)
theorem vt_eq (t : Tr) : vt t = .agg [vi t.lab, vtl t.kids] := by cases t; simp [vt, vts_map, lab, kids]
abbrev dt (t : Tr) : D := .v (.agg [vi t.lab, vtl t.kids])
theorem size_eq (t : Tr) : t.size = 1 + szl t.kids := by cases t; simp [size, kids]
theorem size_pos (t : Tr) : 1 ≤ t.size := by rw [size_eq]; omega
theorem szl_cons (k : Tr) (ks : List Tr) : szl (k :: ks) = k.size + szl ks := by simp [szl]
theorem szl_append : ∀ a b : List Tr, szl (a ++ b) = szl a + szl b
  | [], b => by simp [szl]
  | k :: a, b => by simp [szl, szl_append a b]; omega
theorem szl_at {ks : List Tr} {i : Nat} {k : Tr} (h : ks[i]? = some k) : szl (ks.drop i) = k.size + szl (ks.drop (i + 1)) := by
  obtain ⟨h1, h2⟩ := List.getElem?_eq_some_iff.1 h
  rw [List.drop_eq_getElem_cons h1, h2, szl_cons]
theorem szl_end {ks : List Tr} {i : Nat} (h : ks.length ≤ i) : szl (ks.drop i) = 0 := by rw [List.drop_of_length_le h]; simp [szl]
theorem szl_mem : ∀ {ks : List Tr} {k : Tr}, k ∈ ks → k.size ≤ szl ks
  | k0 :: ks, k, h => by
    rw [szl_cons]
    rcases List.mem_cons.1 h with rfl | h
    · omega
    · have := szl_mem h; omega
theorem szl_len : ∀ ks : List Tr, ks.length ≤ szl ks
  | [] => by simp
  | k :: ks => by have := szl_len ks; have := size_pos k; rw [szl_cons]; simp; omega
theorem idx_tree {ks : List Tr} {i : Nat} {k : Tr} (h : ks[i]? = some k) : (ks.map vt)[((i : Nat) : Int).toNat]? = some (.agg [vi k.lab, vtl k.kids]) := by simp [h, vt_eq]

/-- a node by number: its label, the first number behind its subtree, its children -/
structure Nd where
  lab : Int
  fin : Nat
  kids : List Nat
abbrev il (ks : List Nat) : List Int := ks.map Int.ofNat
abbrev vn (n : Nd) : V := .agg [vi n.lab, vi n.fin, vl (il n.kids)]
abbrev vnl (l : List Nd) : V := .list (l.map vn)
abbrev dnl (l : List Nd) : D := .v (.list (l.map vn))
def posL : Nat → List Tr → List Nat
  | _, [] => []
  | at', k :: ks => at' :: posL (at' + k.size) ks
mutual
def nodesM : Nat → Tr → List Nd
  | at', .mk l ks => ⟨l, at' + 1 + szl ks, posL (at' + 1) ks⟩ :: nodesL (at' + 1) ks
def nodesL : Nat → List Tr → List Nd
  | _, [] => []
  | at', k :: ks => nodesM at' k ++ nodesL (at' + k.size) ks
end
mutual
theorem nodesM_length : ∀ (t : Tr) (a : Nat), (nodesM a t).length = t.size
  | .mk l ks, a => by simp only [nodesM, List.length_cons, nodesL_length ks, size]; omega
theorem nodesL_length : ∀ (ks : List Tr) (a : Nat), (nodesL a ks).length = szl ks
  | [], a => by simp [nodesL, szl]
  | k :: ks, a => by simp [nodesL, szl, nodesM_length k, nodesL_length ks]
end
theorem posL_append : ∀ (a : Nat) (ks ks' : List Tr), posL a (ks ++ ks') = posL a ks ++ posL (a + szl ks) ks'
  | a, [], ks' => by simp [posL, szl]
  | a, k :: ks, ks' => by simp [posL, szl, posL_append (a + k.size) ks ks', Nat.add_assoc]
theorem nodesL_append : ∀ (a : Nat) (ks ks' : List Tr), nodesL a (ks ++ ks') = nodesL a ks ++ nodesL (a + szl ks) ks'
  | a, [], ks' => by simp [nodesL, szl]
  | a, k :: ks, ks' => by simp [nodesL, szl, nodesL_append (a + k.size) ks ks', Nat.add_assoc]

noncomputable def cCount : Code := Try.f45.body.getD .skip
set_option maxRecDepth 20000 in
theorem count_loop (ks : List Tr) (hl : ks.length ≤ 100000000) (ih : ∀ k ∈ ks, ∀ m : Nat, m ≤ 1000000 → FSpec PP 45 [dt k, di ↑m] σ0 (di ↑(min k.size (m + 1))) σ0) (most : Nat) (hm0 : most ≤ 1000000) (T : Nat) (m : Nat) : ∀ (i n : Nat), ks.length - i = m → n ≤ most + 1 → 1 ≤ n → T = min (n + szl (ks.drop i)) (most + 1) → Run PP (fun env σ1 => ResOK PP Try.f45 env σ1 (di ↑T) σ0) [.lp (sub cCount [1, 1, 0, 1, 0, 0]), .blk 0, .code (sub cCount [1, 1, 1])] (.undef :: (di ↑most) :: .undef :: .undef :: .undef :: (di ↑n) :: .undef :: .undef :: .undef :: (.v (vtl ks)) :: (di ↑ks.length) :: (di ↑i) :: .undef :: .undef :: .undef :: .undef :: .undef :: .undef :: .undef :: .undef :: .undef :: .undef :: .undef :: .undef :: .undef :: .undef :: .undef :: []) σ0 := by
  induction m using Nat.strongRecOn with
  | _ m ih2 =>
    intro i n hm hn h1 hT
    refine run_lp ?_
    refine at_seq [1, 1, 0, 1, 0, 0, 0] [1, 1, 0, 1, 0, 0, 1] rfl ?_
    refine at_region rfl ?_
    refine at_op (some 12) rfl rfl rfl rfl (op_binI rfl rfl) (by dsimp only [putD, List.set]) ?_
    refine at_end rfl ?_
    refine at_seq [1, 1, 0, 1, 0, 0, 1, 0] [1, 1, 0, 1, 0, 0, 1, 1] rfl ?_
    refine at_cond [1, 1, 0, 1, 0, 0, 1, 0, 0] [1, 1, 0, 1, 0, 0, 1, 0, 1] rfl rfl (fun hc1 => ?_) (fun hc1 => ?_)
    · skip
      have hlt : i < ks.length := by simpa using hc1
      obtain ⟨k, hk⟩ := get_ex hlt
      rw [szl_at hk] at hT
      have hk2 := idx_tree hk
      have hkp := size_pos k
      refine at_skip rfl ?_
      refine at_seq [1, 1, 0, 1, 0, 0, 1, 1, 0] [1, 1, 0, 1, 0, 0, 1, 1, 1] rfl ?_
      refine at_block [1, 1, 0, 1, 0, 0, 1, 1, 0, 0] 1 rfl ?_
      refine at_seq [1, 1, 0, 1, 0, 0, 1, 1, 0, 0, 0] [1, 1, 0, 1, 0, 0, 1, 1, 0, 0, 1] rfl ?_
      refine at_region rfl ?_
      first | (refine at_op (some 13) rfl rfl rfl rfl (op_idxL rfl fsl_Sapi_Tree (by first | decide | omega) (by first | assumption | exact idx_some (by assumption) | rfl) (by first | rfl | (simp [V.size]; done))) (by dsimp only [putD, List.set]) ?_) | (refine at_op (some 13) rfl rfl rfl rfl (opOK_un (op_idxL rfl fsl_Sapi_Tree (by first | decide | omega) (by first | assumption | exact idx_some (by assumption) | rfl) (by first | rfl | (simp [V.size]; done)))) (by dsimp only [putD, List.set]) ?_) | (refine at_op (some 13) rfl rfl rfl rfl (op_idxA rfl fsl_Sapi_Tree (by first | decide | omega) (by first | decide | omega)) (by dsimp only [putD, List.set]) ?_)
      first | (refine at_op (some 14) rfl rfl rfl rfl (op_loadRA rfl fagg_api_Tree) (by dsimp only [putD, List.set]) ?_) | (refine at_op (some 14) rfl rfl rfl rfl (op_loadPA rfl fagg_api_Tree rfl (by decide) rfl) (by dsimp only [putD, List.set]) ?_)
      refine at_new 14 7 rfl rfl rfl rfl fzero_api_Tree rfl rfl rfl rfl (by decide) rfl rfl fagg_api_Tree (by first | rfl | (simp [V.size]; done)) rfl (by simp only [List.length_cons]; omega) (by dsimp only [List.set]) ?_
      refine at_end rfl ?_
      refine at_seq [1, 1, 0, 1, 0, 0, 1, 1, 0, 0, 1, 0] [1, 1, 0, 1, 0, 0, 1, 1, 0, 0, 1, 1] rfl ?_
      refine at_seq [1, 1, 0, 1, 0, 0, 1, 1, 0, 0, 1, 0, 0] [1, 1, 0, 1, 0, 0, 1, 1, 0, 0, 1, 0, 1] rfl ?_
      refine at_region rfl ?_
      refine at_mv 5 15 rfl rfl rfl (.inl rfl) rfl (by dsimp only [List.set]) ?_
      refine at_mv 1 16 rfl rfl rfl (.inl rfl) rfl (by dsimp only [List.set]) ?_
      refine at_op (some 17) rfl rfl rfl rfl (op_binI rfl rfl) (by dsimp only [putD, List.set]) ?_
      refine at_end rfl ?_
      refine at_cond [1, 1, 0, 1, 0, 0, 1, 1, 0, 0, 1, 0, 1, 0] [1, 1, 0, 1, 0, 0, 1, 1, 0, 0, 1, 0, 1, 1] rfl rfl (fun hc2 => ?_) (fun hc2 => ?_)
      · skip
        have hgt : most < n := by simp at hc2; omega
        refine at_exit rfl rfl ?_
        refine at_seq [1, 1, 1, 0] [1, 1, 1, 1] rfl ?_
        refine at_region rfl ?_
        refine at_mv 5 26 rfl rfl rfl (.inl rfl) rfl (by dsimp only [List.set]) ?_
        refine at_mv 26 4 rfl rfl rfl (.inr rfl) rfl (by dsimp only [List.set]) ?_
        refine at_end rfl ?_
        refine at_ret rfl (ret_one (t := 4) rfl rfl ?_ rfl)
        first | (congr 3; omega)
      · skip
        have hle : n ≤ most := by simp at hc2; omega
        refine at_skip rfl ?_
        refine at_region rfl ?_
        refine at_mv 5 18 rfl rfl rfl (.inl rfl) rfl (by dsimp only [List.set]) ?_
        first | (refine at_op (some 19) rfl rfl rfl rfl (op_loadRA rfl fagg_api_Tree) (by dsimp only [putD, List.set]) ?_) | (refine at_op (some 19) rfl rfl rfl rfl (op_loadPA rfl fagg_api_Tree rfl (by decide) rfl) (by dsimp only [putD, List.set]) ?_)
        refine at_mv 1 20 rfl rfl rfl (.inl rfl) rfl (by dsimp only [List.set]) ?_
        refine at_mv 5 21 rfl rfl rfl (.inl rfl) rfl (by dsimp only [List.set]) ?_
        refine at_op (some 22) rfl rfl rfl rfl (op_binI rfl rfl) (by dsimp only [putD, List.set]) ?_
        rw [wrap_id (by omega) (by omega), show ((most : Int) - (n : Int)) = ((most - n : Nat) : Int) by omega]
        refine at_op (some 23) rfl rfl rfl rfl (op_call0 rfl rfl rfl rfl (ih k (List.mem_of_getElem? hk) (most - n) (by omega))) (by dsimp only [putD, List.set]) ?_
        refine at_op (some 24) rfl rfl rfl rfl (op_binI rfl rfl) (by dsimp only [putD, List.set]) ?_
        rw [wrap_id (by omega) (by omega), show ((n : Int) + ((min k.size (most - n + 1) : Nat) : Int)) = ((n + min k.size (most - n + 1) : Nat) : Int) by omega]
        refine at_mv 24 5 rfl rfl rfl (.inr rfl) rfl (by dsimp only [List.set]) ?_
        refine at_end rfl ?_
        refine run_blk ?_
        refine at_region rfl ?_
        refine at_op (some 25) rfl rfl rfl rfl (op_binI rfl rfl) (by dsimp only [putD, List.set]) ?_
        refine at_mv 25 11 rfl rfl rfl (.inl rfl) rfl (by dsimp only [List.set]) ?_
        refine at_end rfl ?_
        rw [wrap_succ (by omega)]
        exact run_wk (.drop (.keep (.drop (.drop (.drop (.keep (.drop (.drop (.drop (.keep (.keep (.keep (.drop (.drop (.drop (.drop (.drop (.drop (.drop (.drop (.drop (.drop (.drop (.drop (.drop (.drop (.drop .nil))))))))))))))))))))))))))) (ih2 _ (by omega) (i + 1) _ rfl (by omega) (by omega) (by omega))
    · skip
      have hge : ks.length ≤ i := by simpa using hc1
      rw [szl_end hge] at hT
      refine at_exit rfl rfl ?_
      refine at_seq [1, 1, 1, 0] [1, 1, 1, 1] rfl ?_
      refine at_region rfl ?_
      refine at_mv 5 26 rfl rfl rfl (.inl rfl) rfl (by dsimp only [List.set]) ?_
      refine at_mv 26 4 rfl rfl rfl (.inr rfl) rfl (by dsimp only [List.set]) ?_
      refine at_end rfl ?_
      refine at_ret rfl (ret_one (t := 4) rfl rfl ?_ rfl)
      first | (congr 3; omega)

set_option maxRecDepth 20000 in
theorem count_spec (N : Nat) : ∀ (t : Tr), t.size = N → t.size ≤ 100000000 → ∀ (most : Nat), most ≤ 1000000 → FSpec PP 45 [dt t, di ↑most] σ0 (di ↑(min t.size (most + 1))) σ0 := by
  induction N using Nat.strongRecOn with
  | _ N ih =>
  intro t hN hs most hm0
  have hz := size_eq t
  have hkl := szl_len t.kids
  refine spec_at cCount Try.func45 rfl (by kernel_rfl) (by first | decide | simp) _ (by dsimp only [Try.f45, List.length, Nat.reduceAdd, Nat.reduceSub, List.replicate, List.cons_append, List.nil_append]) ?_
  refine at_seq [0] [1] rfl ?_
  refine at_region rfl ?_
  refine at_op (some 2) rfl rfl rfl rfl (op_boxI rfl rfl) (by dsimp only [putD, List.set]) ?_
  refine at_mc 4 rfl rfl rfl (.inr rfl) (by dsimp only [constD]) (by dsimp only [List.set]) ?_
  refine at_end rfl ?_
  refine at_seq [1, 0] [1, 1] rfl ?_
  refine at_region rfl ?_
  refine at_mc 5 rfl rfl rfl (.inr rfl) (by dsimp only [constD]) (by dsimp only [List.set]) ?_
  refine at_end rfl ?_
  refine at_seq [1, 1, 0] [1, 1, 1] rfl ?_
  refine at_seq [1, 1, 0, 0] [1, 1, 0, 1] rfl ?_
  refine at_region rfl ?_
  first | (refine at_op (some 8) rfl rfl rfl rfl (op_fieldP rfl ffld1_api_Tree (by decide)) (by dsimp only [putD, List.set]) ?_) | (refine at_op (some 8) rfl rfl rfl rfl (op_fieldR rfl ffld1_api_Tree (by decide) (by decide) rfl) (by dsimp only [putD, List.set]) ?_)
  first | (refine at_op (some 9) rfl rfl rfl rfl (op_loadR1 rfl fone_Sapi_Tree rfl) (by dsimp only [putD, List.set]) ?_) | (refine at_op (some 9) rfl rfl rfl rfl (op_loadP1 rfl fone_Sapi_Tree rfl rfl) (by dsimp only [putD, List.set]) ?_)
  first | (refine at_op (some 10) rfl rfl rfl rfl (op_lenL rfl fu_Sapi_Tree) (by dsimp only [putD, List.set]) ?_) | (refine at_op (some 10) rfl rfl rfl rfl (opOK_un (op_lenL rfl fu_Sapi_Tree)) (by dsimp only [putD, List.set]) ?_) | (refine at_op (some 10) rfl rfl rfl rfl (op_lenA rfl fu_Sapi_Tree) (by dsimp only [putD, List.set]) ?_)
  refine at_mc 11 rfl rfl rfl (.inl rfl) (by dsimp only [constD]) (by dsimp only [List.set]) ?_
  refine at_end rfl ?_
  refine at_block [1, 1, 0, 1, 0] 0 rfl ?_
  refine at_loop [1, 1, 0, 1, 0, 0] rfl ?_
  try simp only [List.length_map, List.length_nil, Int.toNat_natCast]
  exact run_wk (.drop (.keep (.drop (.drop (.drop (.keep (.drop (.drop (.drop (.keep (.keep (.keep (.drop (.drop (.drop (.drop (.drop (.drop (.drop (.drop (.drop (.drop (.drop (.drop (.drop (.drop (.drop .nil))))))))))))))))))))))))))) (count_loop t.kids (by omega) (fun k hk m hm => ih k.size (by have := szl_mem hk; omega) k rfl (by have := szl_mem hk; omega) m hm) most hm0 _ _ 0 1 rfl (by omega) (by omega) (by rw [List.drop_zero]; omega))

noncomputable def cSmallT : Code := Try.f30.body.getD .skip
set_option maxRecDepth 20000 in
theorem tsmall_spec (t : Tr) (hs : t.size ≤ 100000000) : FSpec PP 30 [dt t] σ0 (db (decide (t.size ≤ 12))) σ0 := by
  refine spec_at cSmallT Try.func30 rfl (by kernel_rfl) (by first | decide | simp) _ (by dsimp only [Try.f30, List.length, Nat.reduceAdd, Nat.reduceSub, List.replicate, List.cons_append, List.nil_append]) ?_
  refine at_seq [0] [1] rfl ?_
  refine at_region rfl ?_
  refine at_op (some 1) rfl rfl rfl rfl (op_boxI rfl rfl) (by dsimp only [putD, List.set]) ?_
  refine at_mc 2 rfl rfl rfl (.inr rfl) (by dsimp only [constD]) (by dsimp only [List.set]) ?_
  refine at_end rfl ?_
  refine at_seq [1, 0] [1, 1] rfl ?_
  refine at_region rfl ?_
  first | (refine at_op (some 3) rfl rfl rfl rfl (op_loadRA rfl fagg_api_Tree) (by dsimp only [putD, List.set]) ?_) | (refine at_op (some 3) rfl rfl rfl rfl (op_loadPA rfl fagg_api_Tree rfl (by decide) rfl) (by dsimp only [putD, List.set]) ?_)
  refine at_op (some 4) rfl rfl rfl rfl (op_call0 rfl rfl rfl rfl (count_spec _ _ rfl (by assumption) 12 (by omega))) (by dsimp only [putD, List.set]) ?_
  refine at_op (some 5) rfl rfl rfl rfl (op_binI rfl rfl) (by dsimp only [putD, List.set]) ?_
  refine at_mv 5 2 rfl rfl rfl (.inr rfl) rfl (by dsimp only [List.set]) ?_
  refine at_end rfl ?_
  refine at_ret rfl (ret_one (t := 2) rfl rfl ?_ rfl)
  simp only [D.v.injEq, V.bool.injEq, decide_eq_decide]; omega

end Go.Proofs.Ytaceggcohmmfhaa

namespace Go.Proofs.Ytaceggcohmmfhaa
open Go.Dv Tr

abbrev flatN (l : List Nd) : List D := flatV (l.map vn)
theorem flatN_cons (n : Nd) (l : List Nd) : flatN (n :: l) = di n.lab :: di n.fin :: dl (il n.kids) :: flatN l := by simp [flatN, flatV, V.cellsV]
theorem flatN_nil : flatN [] = [] := rfl
theorem flatN_append (a b : List Nd) : flatN (a ++ b) = flatN a ++ flatN b := by simp [flatN, flatV]
theorem flatN_length : ∀ l : List Nd, (flatN l).length = l.length * 3
  | [] => rfl
  | n :: l => by rw [flatN_cons]; simp only [List.length_cons, flatN_length l]; omega
theorem nodesM_eq (a : Nat) (t : Tr) : nodesM a t = ⟨t.lab, a + 1 + szl t.kids, posL (a + 1) t.kids⟩ :: nodesL (a + 1) t.kids := by cases t; simp [nodesM, lab, kids]
theorem raws_args (n : Nat) (qs : List Nat) : ∀ us : List Value, ArgsR n qs (us.map .raw) (us.map .raw)
  | [] => .nil
  | u :: us => .cons (.ren (dc := .raw u) rfl) (raws_args n qs us)
theorem rens_raws (ρ τ : Nat → Nat) : ∀ us : List Value, D.rens ρ τ (us.map .raw) = us.map .raw
  | [] => rfl
  | u :: us => by simp [D.rens, D.ren, rens_raws ρ τ us]
theorem rens_vs (ρ τ : Nat → Nat) : ∀ us : List V, D.rens ρ τ (us.map .v) = us.map .v
  | [] => rfl
  | u :: us => by simp [D.rens, D.ren, rens_vs ρ τ us]
theorem rens_app (ρ τ : Nat → Nat) : ∀ a b : List D, D.rens ρ τ (a ++ b) = D.rens ρ τ a ++ D.rens ρ τ b
  | [], b => rfl
  | d :: a, b => by simp [D.rens, rens_app ρ τ a b]
theorem okNs_raws (n : Nat) (ts : List Nat) : ∀ us : List Value, D.okNs n ts (us.map .raw) = true
  | [] => rfl
  | u :: us => by simp [D.okNs, D.okN, okNs_raws n ts us]
theorem okNs_vs (n : Nat) (ts : List Nat) : ∀ us : List V, D.okNs n ts (us.map .v) = true
  | [] => rfl
  | u :: us => by simp [D.okNs, D.okN, okNs_vs n ts us]
theorem okNs_app (n : Nat) (ts : List Nat) : ∀ a b : List D, D.okNs n ts (a ++ b) = (D.okNs n ts a && D.okNs n ts b)
  | [], b => rfl
  | d :: a, b => by simp [D.okNs, okNs_app n ts a b, Bool.and_assoc]
theorem okH_nones (n : Nat) (ts : List Nat) : ∀ (m : Nat) (H : List (Option (List D))), okH n ts (List.replicate m none ++ H) = okH n ts H
  | 0, H => rfl
  | m + 1, H => by simp [List.replicate_succ, okH, okH_nones n ts m H]

abbrev numF : FuncId := 42
/-- what numbering comes to -/
def NumOK (k : Tr) : Prop := ∀ (us : List Value) (n : Nat), us.length = n * 3 → (∀ u ∈ us, u.oneCell' = true) → n + k.size ≤ 1000000 →
  FSpec PP numF [.gro 0 n 3, dt k] ⟨[some (us.map .raw)], []⟩ (.gro k.size (n + k.size) 3) ⟨List.replicate k.size none ++ [some (us.map .raw ++ flatN (nodesM n k))], []⟩

theorem number_call {o : Oper} {c : Call} {fo : Operand} (ho : o.op = .call c) (hc : c.callee = .value fo) {k : Tr} (spec : NumOK k) {j n : Nat} {cs : List D} {own : List (Nat × Nat × List V)} (hcs : cs.length = n * 3) (hn : n + k.size ≤ 1000000) :
    OpOK PP o [dfn numF, .gro j n 3, dt k] ⟨List.replicate j none ++ [some cs], own⟩ (.gro (j + k.size) (n + k.size) 3) ⟨List.replicate (j + k.size) none ++ [some (cs ++ flatN (nodesM n k))], own⟩ := by
  have hp := size_pos k
  have hset : ∀ x : Option (List D), (List.replicate (j + k.size) none ++ [none]).set (j + k.size) x = List.replicate (j + k.size) none ++ [x] := by
    intro x
    rw [List.set_append_right _ _ (by simp), List.length_replicate, Nat.sub_self]; rfl
  have := opOK_raws (P := PP) (o := o) (σ := ⟨List.replicate j none ++ [some cs], own⟩) (d := .gro (j + k.size) (n + k.size) 3) (ds := [dfn numF, .gro j n 3, dt k]) (q := j) (q' := j + k.size) (cs := cs) (new := flatN (nodesM n k)) (H2 := List.replicate (j + k.size) none ++ [none]) (own' := own) (by simp) (by simp) ?_
  · rw [hset] at this; exact this
  intro us hus hone
  rw [hset]
  have hset2 : (List.replicate j none ++ [some cs]).set j (some (us.map D.raw)) = List.replicate j none ++ [some (us.map D.raw)] := by
    rw [List.set_append_right _ _ (by simp), List.length_replicate, Nat.sub_self]; rfl
  simp only [hset2]
  have h := op_callG (σ := ⟨List.replicate j none ++ [some (us.map .raw)], own⟩) ho hc (fD := dfn numF) rfl (ds := [.gro j n 3, dt k]) [j] id (spec us n (by omega) hone hn)
    (.cons (.ren (dc := .gro 0 n 3) rfl) (.cons (.ren (dc := dt k) rfl) .nil)) (.cons (cs := us.map .raw) (by simp) (raws_args _ _ us) (by simpa [D.one] using hone) .nil) (by simp) rfl (by simp) (by simp)
    (by simp [D.okN]) (by rw [okH_nones]; simp [okH, okNs_app, okNs_raws, flatN, flatV, okNs_vs])
  obtain ⟨s, hs⟩ : ∃ s, k.size = s + 1 := ⟨k.size - 1, by omega⟩
  rw [hs] at h ⊢
  have e1 : D.ren (rho (List.replicate j none ++ [some (us.map D.raw)]).length [j]) id (.gro (s + 1) (n + (s + 1)) 3) = .gro (j + (s + 1)) (n + (s + 1)) 3 := by
    simp [D.ren, rho]; omega
  have e2 : backH (List.replicate j none ++ [some (us.map D.raw)]) [j] (renH (rho (List.replicate j none ++ [some (us.map D.raw)]).length [j]) id (List.replicate (s + 1) none ++ [some (us.map D.raw ++ flatN (nodesM n k))])) = List.replicate (j + (s + 1)) none ++ [some (us.map D.raw ++ flatN (nodesM n k))] := by
    simp only [renH, List.replicate_succ, List.cons_append, List.map_cons, Option.map_none, backH, List.map_append, List.map_replicate, Option.map_some, List.map_nil, rens_app, rens_raws, flatN, flatV, rens_vs]
    rw [List.set_append_right _ _ (by simp), List.length_replicate, Nat.sub_self, List.set_cons_zero, show List.replicate (j + (s + 1)) (none : Option (List D)) = List.replicate j none ++ (none :: List.replicate s none) from by rw [← List.replicate_succ, List.replicate_append_replicate]]
    simp
  rw [e1] at h
  simp only [e2, renOwn, List.map_nil, List.nil_append] at h
  exact h

theorem ret_gro {P : Program} {fn : Func} {env : List D} {σ : St} {t : Tmp} {q len sz : Nat} {H : List (Option (List D))} (hr : fn.results.toList = [.tmp t]) (hs : env[t]? = some (.gro q len sz)) (hH : σ.H = H) (hq : q < H.length) (hc : ∀ (i : Nat) (cs : List D), H[i]? = some (some cs) → D.pls cs = true) : ResOK P fn env σ (.gro q len sz) ⟨H, []⟩ := by
  intro E g a w hf hE
  obtain ⟨us, h1, h2⟩ := (ResL.tmp (P := P) (σ := σ) hs .nil).run hf
  obtain ⟨u, rfl, h3⟩ := repDs_one.1 h2
  refine ⟨u, _, ?_, hf.wi.restrict (σ' := ⟨H, []⟩) (m := H.length) (by simp [hH]) (by simp [hH]) (by simpa using hE) hc (by simp), ?_⟩
  · rw [results_eq, Array.mapM_eq_mapM_toList, hr]
    simp only [Sem.run_bind, Sem.run_map, h1, Result.andThen_ok]
    rfl
  · simp only [repD] at h3 ⊢
    exact ⟨hq, h3.2⟩

theorem setRep {α : Type} (j : Nat) (z x y : α) : (List.replicate j z ++ [x]).set j y = List.replicate j z ++ [y] := by
  rw [List.set_append_right _ _ (by simp), List.length_replicate, Nat.sub_self]; rfl
theorem getRep {α : Type} (j : Nat) (z x : α) : (List.replicate j z ++ [x])[j]? = some x := by simp
theorem triL {pre r : List D} {x y z : D} {a n : Nat} (hp : pre.length = a * 3) (hr : r.length = n * 3) : (pre ++ (x :: y :: z :: r)).length = (a + 1 + n) * 3 := by simp only [List.length_append, List.length_cons, hp, hr]; omega
theorem tri2 {pre r : List D} {x y z : D} {a : Nat} (hp : pre.length = a * 3) : (pre ++ (x :: y :: z :: r))[a * 3 + 2]? = some z := by
  rw [List.getElem?_append_right (by omega), hp, Nat.add_sub_cancel_left]; rfl
theorem triS1 {pre r : List D} {x y z w : D} {a : Nat} (hp : pre.length = a * 3) : (pre ++ (x :: y :: z :: r)).set (a * 3 + 1) w = pre ++ (x :: w :: z :: r) := by
  rw [List.set_append_right _ _ (by omega), hp, Nat.add_sub_cancel_left]; rfl
theorem triS2 {pre r : List D} {x y z w : D} {a : Nat} (hp : pre.length = a * 3) : (pre ++ (x :: y :: z :: r)).set (a * 3 + 2) w = pre ++ (x :: y :: w :: r) := by
  rw [List.set_append_right _ _ (by omega), hp, Nat.add_sub_cancel_left]; rfl
theorem posL_length : ∀ (a : Nat) (ks : List Tr), (posL a ks).length = ks.length
  | _, [] => rfl
  | a, k :: ks => by simp [posL, posL_length (a + k.size) ks]
theorem take_at {α : Type} {l : List α} {i : Nat} {x : α} (h : l[i]? = some x) : l.take (i + 1) = l.take i ++ [x] := by rw [List.take_add_one, h]; rfl
theorem szl_take (ks : List Tr) (i : Nat) : szl (ks.take i) + szl (ks.drop i) = szl ks := by rw [← szl_append, List.take_append_drop]
abbrev pv (l : List Nat) : List V := (il l).map vi
abbrev numSt (j : Nat) (pre : List D) (lab : Int) (e : Int) (ps : List Nat) (ns : List Nd) : St := ⟨List.replicate j none ++ [some (pre ++ (di lab :: di e :: .acc 1 (pv ps) :: flatN ns))], [(1, 1, pv ps)]⟩

noncomputable def cNumberT : Code := Try.f42.body.getD .skip
set_option maxRecDepth 20000 in
theorem number_loop (R : List D → St → Prop) (lab : Int) (ks : List Tr) (ih : ∀ k ∈ ks, NumOK k) (pre : List D) (a : Nat) (hpre : pre.length = a * 3) (j0 : Nat) (hsz : a + 1 + szl ks ≤ 1000000) (hR : ∀ env' : List D, env'[4]? = some (.gro (j0 + szl ks) (a + 1 + szl ks) 3) → R env' (numSt (j0 + szl ks) pre lab ↑(a + 1 + szl ks) (posL (a + 1) ks) (nodesL (a + 1) ks))) (m : Nat) : ∀ i : Nat, ks.length - i = m → i ≤ ks.length → Run PP R [.lp (sub cNumberT [1, 1, 1, 0, 1, 0, 0]), .blk 0, .code (sub cNumberT [1, 1, 1, 1])] ((.gro (j0 + szl (ks.take i)) (a + 1 + szl (ks.take i)) 3) :: .undef :: .undef :: .undef :: .undef :: (di ↑a) :: .undef :: .undef :: .undef :: .undef :: .undef :: .undef :: .undef :: .undef :: .undef :: .undef :: .undef :: (.v (vtl ks)) :: (di ↑ks.length) :: (di ↑i) :: .undef :: .undef :: .undef :: .undef :: .undef :: .undef :: .undef :: .undef :: .undef :: .undef :: .undef :: .undef :: .undef :: .undef :: .undef :: .undef :: .undef :: .undef :: .undef :: .undef :: .undef :: .undef :: .undef :: .undef :: .undef :: .undef :: .undef :: []) (numSt (j0 + szl (ks.take i)) pre lab 0 (posL (a + 1) (ks.take i)) (nodesL (a + 1) (ks.take i))) := by
  induction m using Nat.strongRecOn with
  | _ m ih2 =>
    intro i hm hi
    have hkl := szl_len ks
    have hst := szl_take ks i
    have hfl : (flatN (nodesL (a + 1) (ks.take i))).length = szl (ks.take i) * 3 := by rw [flatN_length, nodesL_length]
    refine run_lp ?_
    refine at_seq [1, 1, 1, 0, 1, 0, 0, 0] [1, 1, 1, 0, 1, 0, 0, 1] rfl ?_
    refine at_region rfl ?_
    refine at_op (some 20) rfl rfl rfl rfl (op_binI rfl rfl) (by dsimp only [putD, List.set]) ?_
    refine at_end rfl ?_
    refine at_seq [1, 1, 1, 0, 1, 0, 0, 1, 0] [1, 1, 1, 0, 1, 0, 0, 1, 1] rfl ?_
    refine at_cond [1, 1, 1, 0, 1, 0, 0, 1, 0, 0] [1, 1, 1, 0, 1, 0, 0, 1, 0, 1] rfl rfl (fun hc1 => ?_) (fun hc1 => ?_)
    · skip
      have hlt : i < ks.length := by simpa using hc1
      obtain ⟨k, hk⟩ := get_ex hlt
      have hk2 := idx_tree hk
      have hkm := szl_mem (List.mem_of_getElem? hk)
      have hks := szl_at hk
      refine at_skip rfl ?_
      refine at_seq [1, 1, 1, 0, 1, 0, 0, 1, 1, 0] [1, 1, 1, 0, 1, 0, 0, 1, 1, 1] rfl ?_
      refine at_block [1, 1, 1, 0, 1, 0, 0, 1, 1, 0, 0] 1 rfl ?_
      refine at_seq [1, 1, 1, 0, 1, 0, 0, 1, 1, 0, 0, 0] [1, 1, 1, 0, 1, 0, 0, 1, 1, 0, 0, 1] rfl ?_
      refine at_region rfl ?_
      first | (refine at_op (some 21) rfl rfl rfl rfl (op_idxL rfl fsl_Sapi_Tree (by first | decide | omega) (by first | assumption | exact idx_some (by assumption) | rfl) (by first | rfl | (simp [V.size]; done))) (by dsimp only [putD, List.set]) ?_) | (refine at_op (some 21) rfl rfl rfl rfl (opOK_un (op_idxL rfl fsl_Sapi_Tree (by first | decide | omega) (by first | assumption | exact idx_some (by assumption) | rfl) (by first | rfl | (simp [V.size]; done)))) (by dsimp only [putD, List.set]) ?_) | (refine at_op (some 21) rfl rfl rfl rfl (op_idxA rfl fsl_Sapi_Tree (by first | decide | omega) (by first | decide | omega)) (by dsimp only [putD, List.set]) ?_)
      first | (refine at_op (some 22) rfl rfl rfl rfl (op_loadRA rfl fagg_api_Tree) (by dsimp only [putD, List.set]) ?_) | (refine at_op (some 22) rfl rfl rfl rfl (op_loadPA rfl fagg_api_Tree rfl (by decide) rfl) (by dsimp only [putD, List.set]) ?_)
      refine at_new 22 7 rfl rfl rfl rfl fzero_api_Tree rfl rfl rfl rfl (by decide) rfl rfl fagg_api_Tree (by first | rfl | (simp [V.size]; done)) rfl (by simp only [List.length_cons]; omega) (by dsimp only [List.set]) ?_
      refine at_end rfl ?_
      refine at_seq [1, 1, 1, 0, 1, 0, 0, 1, 1, 0, 0, 1, 0] [1, 1, 1, 0, 1, 0, 0, 1, 1, 0, 0, 1, 1] rfl ?_
      refine at_region rfl ?_
      refine at_mv 0 23 rfl rfl rfl (.inl rfl) rfl (by dsimp only [List.set]) ?_
      refine at_mv 5 24 rfl rfl rfl (.inl rfl) rfl (by dsimp only [List.set]) ?_
      refine at_mv 0 25 rfl rfl rfl (.inl rfl) rfl (by dsimp only [List.set]) ?_
      refine at_mv 5 26 rfl rfl rfl (.inl rfl) rfl (by dsimp only [List.set]) ?_
      refine at_op (some 27) rfl rfl rfl rfl (op_idxG rfl fsl_Stree_node (by omega) (by omega)) (by dsimp only [putD, List.set]) ?_
      simp only [Int.toNat_natCast]
      first | (refine at_op (some 28) rfl rfl rfl rfl (op_fieldP rfl ffld2_tree_node (by decide)) (by dsimp only [putD, List.set]) ?_) | (refine at_op (some 28) rfl rfl rfl rfl (op_fieldR rfl ffld2_tree_node (by decide) (by decide) rfl) (by dsimp only [putD, List.set]) ?_)
      refine at_op (some 29) rfl rfl rfl rfl (op_loadP1 rfl fone_Sint (getRep _ _ _) (tri2 hpre)) (by dsimp only [putD, List.set]) ?_
      refine at_mv 0 30 rfl rfl rfl (.inl rfl) rfl (by dsimp only [List.set]) ?_
      refine at_op (some 31) rfl rfl rfl rfl (op_lenG rfl fu_Stree_node) (by dsimp only [putD, List.set]) ?_
      refine at_op (some 32) rfl rfl rfl rfl (op_buildSlice rfl (by rfl) (by rfl) fsl_Sint rfl rfl (by simp [V.size]) (by decide) (by decide) (by decide)) (by dsimp only [putD, List.set]) ?_
      refine at_opS (some 33) rfl rfl rfl rfl (op_append rfl fsl_Sint rfl (by simp) (by simp [V.size]) (by simp [posL_length]; omega) (by simp [posL_length]; omega)) (by dsimp only [putD, List.set]) (by dsimp only [List.set, List.append, List.cons_append, List.nil_append, cellsD, List.map, repl, List.length, Nat.reduceAdd, if_true, ↓reduceIte]; first | done | rfl) ?_
      refine at_op (some 34) rfl rfl rfl rfl (op_idxG rfl fsl_Stree_node (by omega) (by omega)) (by dsimp only [putD, List.set]) ?_
      simp only [Int.toNat_natCast]
      first | (refine at_op (some 35) rfl rfl rfl rfl (op_fieldP rfl ffld2_tree_node (by decide)) (by dsimp only [putD, List.set]) ?_) | (refine at_op (some 35) rfl rfl rfl rfl (op_fieldR rfl ffld2_tree_node (by decide) (by decide) rfl) (by dsimp only [putD, List.set]) ?_)
      refine at_st1 35 (.tmp 33) rfl rfl rfl rfl rfl (ev_tmp rfl) rfl fone_Sint (getRep _ _ _) (by rw [triL hpre hfl]; omega) rfl ?_
      rw [setRep, triS2 hpre]
      refine at_end rfl ?_
      refine at_region rfl ?_
      refine at_mv 0 36 rfl rfl rfl (.inl rfl) rfl (by dsimp only [List.set]) ?_
      first | (refine at_op (some 37) rfl rfl rfl rfl (op_loadRA rfl fagg_api_Tree) (by dsimp only [putD, List.set]) ?_) | (refine at_op (some 37) rfl rfl rfl rfl (op_loadPA rfl fagg_api_Tree rfl (by decide) rfl) (by dsimp only [putD, List.set]) ?_)
      refine at_opS (some 38) rfl rfl rfl rfl (number_call rfl rfl (ih k (List.mem_of_getElem? hk)) (triL hpre hfl) (by omega)) (by dsimp only [putD, List.set]) (by dsimp only [List.set, List.append, List.cons_append, List.nil_append, cellsD, List.map, repl, List.length, Nat.reduceAdd, if_true, ↓reduceIte]; first | done | rfl) ?_
      refine at_mv 38 0 rfl rfl rfl (.inr rfl) rfl (by dsimp only [List.set]) ?_
      refine at_end rfl ?_
      refine run_blk ?_
      refine at_region rfl ?_
      refine at_op (some 39) rfl rfl rfl rfl (op_binI rfl rfl) (by dsimp only [putD, List.set]) ?_
      refine at_mv 39 19 rfl rfl rfl (.inl rfl) rfl (by dsimp only [List.set]) ?_
      refine at_end rfl ?_
      rw [wrap_succ (by omega)]
      have e1 : szl (ks.take (i + 1)) = szl (ks.take i) + k.size := by rw [take_at hk, szl_append, szl_cons]; simp [szl]
      have e2 : posL (a + 1) (ks.take (i + 1)) = posL (a + 1) (ks.take i) ++ [a + 1 + szl (ks.take i)] := by rw [take_at hk, posL_append]; simp [posL]
      have e3 : nodesL (a + 1) (ks.take (i + 1)) = nodesL (a + 1) (ks.take i) ++ nodesM (a + 1 + szl (ks.take i)) k := by rw [take_at hk, nodesL_append]; simp [nodesL]
      have := ih2 _ (by omega) (i + 1) rfl (by omega)
      rw [e1, e2, e3] at this
      simp only [numSt, flatN_append, ← Nat.add_assoc] at this
      refine run_wk (.keep (.drop (.drop (.drop (.drop (.keep (.drop (.drop (.drop (.drop (.drop (.drop (.drop (.drop (.drop (.drop (.drop (.keep (.keep (.keep (.drop (.drop (.drop (.drop (.drop (.drop (.drop (.drop (.drop (.drop (.drop (.drop (.drop (.drop (.drop (.drop (.drop (.drop (.drop (.drop (.drop (.drop (.drop (.drop (.drop (.drop (.drop .nil))))))))))))))))))))))))))))))))))))))))))))))) ?_
      simpa [List.append_assoc] using this
    · skip
      have hge : ks.length ≤ i := by simpa using hc1
      rw [List.take_of_length_le hge] at hst hfl ⊢
      refine at_exit rfl rfl ?_
      refine at_seq [1, 1, 1, 1, 0] [1, 1, 1, 1, 1] rfl ?_
      refine at_region rfl ?_
      refine at_mv 0 40 rfl rfl rfl (.inl rfl) rfl (by dsimp only [List.set]) ?_
      refine at_mv 5 41 rfl rfl rfl (.inl rfl) rfl (by dsimp only [List.set]) ?_
      refine at_mv 0 42 rfl rfl rfl (.inl rfl) rfl (by dsimp only [List.set]) ?_
      refine at_op (some 43) rfl rfl rfl rfl (op_lenG rfl fu_Stree_node) (by dsimp only [putD, List.set]) ?_
      refine at_op (some 44) rfl rfl rfl rfl (op_idxG rfl fsl_Stree_node (by omega) (by omega)) (by dsimp only [putD, List.set]) ?_
      simp only [Int.toNat_natCast]
      first | (refine at_op (some 45) rfl rfl rfl rfl (op_fieldP rfl ffld1_tree_node (by decide)) (by dsimp only [putD, List.set]) ?_) | (refine at_op (some 45) rfl rfl rfl rfl (op_fieldR rfl ffld1_tree_node (by decide) (by decide) rfl) (by dsimp only [putD, List.set]) ?_)
      refine at_st1 45 (.tmp 43) rfl rfl rfl rfl rfl (ev_tmp rfl) rfl fone_int (getRep _ _ _) (by rw [triL hpre hfl]; omega) rfl ?_
      rw [setRep, triS1 hpre]
      refine at_end rfl ?_
      refine at_seq [1, 1, 1, 1, 1, 0] [1, 1, 1, 1, 1, 1] rfl ?_
      refine at_region rfl ?_
      refine at_mv 0 46 rfl rfl rfl (.inl rfl) rfl (by dsimp only [List.set]) ?_
      refine at_mv 46 4 rfl rfl rfl (.inr rfl) rfl (by dsimp only [List.set]) ?_
      refine at_end rfl ?_
      refine at_ret rfl (hR _ rfl)

theorem pls_raws : ∀ us : List Value, D.pls (us.map .raw) = true
  | [] => rfl
  | u :: us => by simp [D.pls, D.pl, pls_raws us]
theorem num_ret {pre : List D} {lab : Int} {a j : Nat} {e : Int} {ps : List Nat} {ns : List Nd} {env : List D} {n : Nat} {j' : Nat} {cs : List D} (hpre : pre.length = a * 3) (hp : D.pls pre = true) (hs : env[4]? = some (.gro j n 3)) (hj : j = j') (hcs : pre ++ (di lab :: di e :: dl (il ps) :: flatN ns) = cs) :
    ResOK PP Try.f42 env (numSt j pre lab e ps ns) (.gro j' n 3) ⟨List.replicate j' none ++ [some cs], []⟩ := by
  subst hj hcs
  refine resOK_cv (cv_see (cs := pre ++ (di lab :: di e :: .acc 1 (pv ps) :: flatN ns)) (getRep _ _ _) (SeeL.set .acc (tri2 hpre)).sees) ?_
  simp only [setRep, triS2 hpre]
  refine ret_gro (t := 4) rfl hs rfl (by simp) (fun i cs hi => ?_)
  by_cases hlt : i < j
  · rw [List.getElem?_append_left (by simpa using hlt)] at hi
    simp [List.getElem?_replicate, hlt] at hi
  · rw [List.getElem?_append_right (by simp; omega), List.length_replicate] at hi
    cases hd : i - j with
    | zero =>
      rw [hd] at hi; simp at hi; subst hi
      simp [pls_append, hp, D.pls, D.pl, flatN, flatV, pls_map]
    | succ m => rw [hd] at hi; simp at hi

set_option maxRecDepth 20000 in
theorem number_ok (N : Nat) : ∀ (t : Tr), t.size = N → NumOK t := by
  induction N using Nat.strongRecOn with
  | _ N ih =>
  intro t hN us n hus hone hn
  have hz := size_eq t
  have hpre : (us.map D.raw).length = n * 3 := by simpa using hus
  refine spec_at cNumberT Try.func42 rfl (by kernel_rfl) (by first | decide | simp) _ (by dsimp only [Try.f42, List.length, Nat.reduceAdd, Nat.reduceSub, List.replicate, List.cons_append, List.nil_append]) ?_
  refine at_seq [0] [1] rfl ?_
  refine at_region rfl ?_
  refine at_op (some 3) rfl rfl rfl rfl (op_boxI rfl rfl) (by dsimp only [putD, List.set]) ?_
  refine at_mc 4 rfl rfl rfl (.inr rfl) (by dsimp only [constD]) (by dsimp only [List.set]) ?_
  refine at_end rfl ?_
  refine at_seq [1, 0] [1, 1] rfl ?_
  refine at_region rfl ?_
  refine at_mv 0 8 rfl rfl rfl (.inl rfl) rfl (by dsimp only [List.set]) ?_
  refine at_op (some 9) rfl rfl rfl rfl (op_lenG rfl fu_Stree_node) (by dsimp only [putD, List.set]) ?_
  refine at_mv 9 5 rfl rfl rfl (.inr rfl) rfl (by dsimp only [List.set]) ?_
  refine at_end rfl ?_
  refine at_seq [1, 1, 0] [1, 1, 1] rfl ?_
  refine at_region rfl ?_
  refine at_mv 0 10 rfl rfl rfl (.inl rfl) rfl (by dsimp only [List.set]) ?_
  first | (refine at_op (some 11) rfl rfl rfl rfl (op_fieldP rfl ffld0_api_Tree (by decide)) (by dsimp only [putD, List.set]) ?_) | (refine at_op (some 11) rfl rfl rfl rfl (op_fieldR rfl ffld0_api_Tree (by decide) (by decide) rfl) (by dsimp only [putD, List.set]) ?_)
  first | (refine at_op (some 12) rfl rfl rfl rfl (op_loadR1 rfl fone_int rfl) (by dsimp only [putD, List.set]) ?_) | (refine at_op (some 12) rfl rfl rfl rfl (op_loadP1 rfl fone_int rfl rfl) (by dsimp only [putD, List.set]) ?_)
  refine at_op (some 13) rfl rfl rfl rfl (op_buildN rfl fbldN_tree_node rfl rfl) (by dsimp only [putD, List.set]) ?_
  try dsimp only [V.cellsV, List.take, List.drop, List.cons_append, List.nil_append, List.length]
  refine at_op (some 14) rfl rfl rfl rfl (op_buildSlice rfl (by rfl) (by rfl) fsl_Stree_node rfl rfl (by simp [V.size]) (by decide) (by decide) (by decide)) (by dsimp only [putD, List.set]) ?_
  refine at_opS (some 15) rfl rfl rfl rfl (op_appendGV rfl fsl_Stree_node rfl (by decide) (cs := us.map .raw) rfl hpre (by simp [V.size]) (by simp) (by simp; omega) (by simp; omega)) (by dsimp only [putD, List.set]) (by dsimp only [List.set, List.append, List.cons_append, List.nil_append, cellsD, List.map, repl, List.length, Nat.reduceAdd, if_true, ↓reduceIte]; first | done | rfl) ?_
  refine at_mv 15 0 rfl rfl rfl (.inr rfl) rfl (by dsimp only [List.set]) ?_
  refine at_end rfl ?_
  refine run_cv (cv_claim 1 (n * 3 + 2) 1 1 (cs := us.map .raw ++ [di t.lab, di 0, .v .nils]) rfl (tri2 hpre) (by simp) (by decide)) ?_
  simp only [triS2 hpre, List.set_cons_succ, List.set_cons_zero]
  refine at_seq [1, 1, 1, 0] [1, 1, 1, 1] rfl ?_
  refine at_seq [1, 1, 1, 0, 0] [1, 1, 1, 0, 1] rfl ?_
  refine at_region rfl ?_
  first | (refine at_op (some 16) rfl rfl rfl rfl (op_fieldP rfl ffld1_api_Tree (by decide)) (by dsimp only [putD, List.set]) ?_) | (refine at_op (some 16) rfl rfl rfl rfl (op_fieldR rfl ffld1_api_Tree (by decide) (by decide) rfl) (by dsimp only [putD, List.set]) ?_)
  first | (refine at_op (some 17) rfl rfl rfl rfl (op_loadR1 rfl fone_Sapi_Tree rfl) (by dsimp only [putD, List.set]) ?_) | (refine at_op (some 17) rfl rfl rfl rfl (op_loadP1 rfl fone_Sapi_Tree rfl rfl) (by dsimp only [putD, List.set]) ?_)
  first | (refine at_op (some 18) rfl rfl rfl rfl (op_lenL rfl fu_Sapi_Tree) (by dsimp only [putD, List.set]) ?_) | (refine at_op (some 18) rfl rfl rfl rfl (opOK_un (op_lenL rfl fu_Sapi_Tree)) (by dsimp only [putD, List.set]) ?_) | (refine at_op (some 18) rfl rfl rfl rfl (op_lenA rfl fu_Sapi_Tree) (by dsimp only [putD, List.set]) ?_)
  refine at_mc 19 rfl rfl rfl (.inl rfl) (by dsimp only [constD]) (by dsimp only [List.set]) ?_
  refine at_end rfl ?_
  refine at_block [1, 1, 1, 0, 1, 0] 0 rfl ?_
  refine at_loop [1, 1, 1, 0, 1, 0, 0] rfl ?_
  try simp only [List.length_map, List.length_nil, Int.toNat_natCast]
  refine run_wk (.keep (.drop (.drop (.drop (.drop (.keep (.drop (.drop (.drop (.drop (.drop (.drop (.drop (.drop (.drop (.drop (.drop (.keep (.keep (.keep (.drop (.drop (.drop (.drop (.drop (.drop (.drop (.drop (.drop (.drop (.drop (.drop (.drop (.drop (.drop (.drop (.drop (.drop (.drop (.drop (.drop (.drop (.drop (.drop (.drop (.drop (.drop .nil))))))))))))))))))))))))))))))))))))))))))))))) ?_
  have := number_loop (fun env σ1 => ResOK PP Try.f42 env σ1 (.gro t.size (n + t.size) 3) ⟨List.replicate t.size none ++ [some (us.map .raw ++ flatN (nodesM n t))], []⟩) t.lab t.kids (fun k hk => ih k.size (by have := szl_mem hk; omega) k rfl) (us.map .raw) n hpre 1 (by omega) (fun env he => num_ret (lab := t.lab) (e := ↑(n + 1 + szl t.kids)) (ps := posL (n + 1) t.kids) (ns := nodesL (n + 1) t.kids) (j' := t.size) (cs := us.map .raw ++ flatN (nodesM n t)) hpre (pls_raws us) (n := n + t.size) (by rw [he]; congr 2; omega) (by omega) (by rw [nodesM_eq, flatN_cons])) _ 0 rfl (by omega)
  simp [posL, nodesL, szl, flatN_nil] at this; exact this

set_option maxRecDepth 20000 in
theorem number_nil (t : Tr) (hs : t.size ≤ 1000000) : FSpec PP numF [.v .nils, dt t] σ0 (.gro (t.size - 1) t.size 3) ⟨List.replicate (t.size - 1) none ++ [some (flatN (nodesM 0 t))], []⟩ := by
  have hz := size_eq t
  have hpre : ([] : List D).length = 0 * 3 := rfl
  have hnil : SeeL [D.v V.nils] [.v (.list [])] := .cons .nils .nil
  refine spec_at cNumberT Try.func42 rfl (by kernel_rfl) (by first | decide | simp) _ (by dsimp only [Try.f42, List.length, Nat.reduceAdd, Nat.reduceSub, List.replicate, List.cons_append, List.nil_append]) ?_
  refine at_seq [0] [1] rfl ?_
  refine at_region rfl ?_
  refine at_op (some 3) rfl rfl rfl rfl (op_boxI rfl rfl) (by dsimp only [putD, List.set]) ?_
  refine at_mc 4 rfl rfl rfl (.inr rfl) (by dsimp only [constD]) (by dsimp only [List.set]) ?_
  refine at_end rfl ?_
  refine at_seq [1, 0] [1, 1] rfl ?_
  refine at_region rfl ?_
  refine at_mv 0 8 rfl rfl rfl (.inl rfl) rfl (by dsimp only [List.set]) ?_
  refine at_op (some 9) rfl rfl rfl rfl (opOK_see hnil (op_lenL rfl fu_Stree_node)) (by dsimp only [putD, List.set]) ?_
  refine at_mv 9 5 rfl rfl rfl (.inr rfl) rfl (by dsimp only [List.set]) ?_
  refine at_end rfl ?_
  refine at_seq [1, 1, 0] [1, 1, 1] rfl ?_
  refine at_region rfl ?_
  refine at_mv 0 10 rfl rfl rfl (.inl rfl) rfl (by dsimp only [List.set]) ?_
  first | (refine at_op (some 11) rfl rfl rfl rfl (op_fieldP rfl ffld0_api_Tree (by decide)) (by dsimp only [putD, List.set]) ?_) | (refine at_op (some 11) rfl rfl rfl rfl (op_fieldR rfl ffld0_api_Tree (by decide) (by decide) rfl) (by dsimp only [putD, List.set]) ?_)
  first | (refine at_op (some 12) rfl rfl rfl rfl (op_loadR1 rfl fone_int rfl) (by dsimp only [putD, List.set]) ?_) | (refine at_op (some 12) rfl rfl rfl rfl (op_loadP1 rfl fone_int rfl rfl) (by dsimp only [putD, List.set]) ?_)
  refine at_op (some 13) rfl rfl rfl rfl (op_buildN rfl fbldN_tree_node rfl rfl) (by dsimp only [putD, List.set]) ?_
  try dsimp only [V.cellsV, List.take, List.drop, List.cons_append, List.nil_append, List.length]
  refine at_op (some 14) rfl rfl rfl rfl (op_buildSlice rfl (by rfl) (by rfl) fsl_Stree_node rfl rfl (by simp [V.size]) (by decide) (by decide) (by decide)) (by dsimp only [putD, List.set]) ?_
  refine at_opS (some 15) rfl rfl rfl rfl (op_appendG0V rfl fsl_Stree_node rfl (by decide) (by simp [V.size]) (by simp) (by simp) (by simp)) (by dsimp only [putD, List.set]) (by dsimp only [List.set, List.append, List.cons_append, List.nil_append, cellsD, List.map, repl, List.length, Nat.reduceAdd, if_true, ↓reduceIte]; first | done | rfl) ?_
  refine at_mv 15 0 rfl rfl rfl (.inr rfl) rfl (by dsimp only [List.set]) ?_
  refine at_end rfl ?_
  refine run_cv (cv_claim 0 2 1 1 (cs := [di t.lab, di 0, .v .nils]) rfl rfl (by simp) (by decide)) ?_
  simp only [List.set_cons_succ, List.set_cons_zero]
  refine at_seq [1, 1, 1, 0] [1, 1, 1, 1] rfl ?_
  refine at_seq [1, 1, 1, 0, 0] [1, 1, 1, 0, 1] rfl ?_
  refine at_region rfl ?_
  first | (refine at_op (some 16) rfl rfl rfl rfl (op_fieldP rfl ffld1_api_Tree (by decide)) (by dsimp only [putD, List.set]) ?_) | (refine at_op (some 16) rfl rfl rfl rfl (op_fieldR rfl ffld1_api_Tree (by decide) (by decide) rfl) (by dsimp only [putD, List.set]) ?_)
  first | (refine at_op (some 17) rfl rfl rfl rfl (op_loadR1 rfl fone_Sapi_Tree rfl) (by dsimp only [putD, List.set]) ?_) | (refine at_op (some 17) rfl rfl rfl rfl (op_loadP1 rfl fone_Sapi_Tree rfl rfl) (by dsimp only [putD, List.set]) ?_)
  first | (refine at_op (some 18) rfl rfl rfl rfl (op_lenL rfl fu_Sapi_Tree) (by dsimp only [putD, List.set]) ?_) | (refine at_op (some 18) rfl rfl rfl rfl (opOK_un (op_lenL rfl fu_Sapi_Tree)) (by dsimp only [putD, List.set]) ?_) | (refine at_op (some 18) rfl rfl rfl rfl (op_lenA rfl fu_Sapi_Tree) (by dsimp only [putD, List.set]) ?_)
  refine at_mc 19 rfl rfl rfl (.inl rfl) (by dsimp only [constD]) (by dsimp only [List.set]) ?_
  refine at_end rfl ?_
  refine at_block [1, 1, 1, 0, 1, 0] 0 rfl ?_
  refine at_loop [1, 1, 1, 0, 1, 0, 0] rfl ?_
  try simp only [List.length_map, List.length_nil, Int.toNat_natCast]
  refine run_wk (.keep (.drop (.drop (.drop (.drop (.keep (.drop (.drop (.drop (.drop (.drop (.drop (.drop (.drop (.drop (.drop (.drop (.keep (.keep (.keep (.drop (.drop (.drop (.drop (.drop (.drop (.drop (.drop (.drop (.drop (.drop (.drop (.drop (.drop (.drop (.drop (.drop (.drop (.drop (.drop (.drop (.drop (.drop (.drop (.drop (.drop (.drop .nil))))))))))))))))))))))))))))))))))))))))))))))) ?_
  have := number_loop (fun env σ1 => ResOK PP Try.f42 env σ1 (.gro (t.size - 1) t.size 3) ⟨List.replicate (t.size - 1) none ++ [some (flatN (nodesM 0 t))], []⟩) t.lab t.kids (fun k hk => number_ok k.size k rfl) [] 0 hpre 0 (by omega) (fun env he => num_ret (lab := t.lab) (e := ↑(0 + 1 + szl t.kids)) (ps := posL (0 + 1) t.kids) (ns := nodesL (0 + 1) t.kids) (j' := t.size - 1) (cs := flatN (nodesM 0 t)) hpre rfl (n := t.size) (by rw [he]; congr 2; omega) (by omega) (by rw [nodesM_eq, flatN_cons]; simp)) _ 0 rfl (by omega)
  simp [posL, nodesL, szl, flatN_nil] at this; exact this

end Go.Proofs.Ytaceggcohmmfhaa

namespace Go.Proofs.Ytaceggcohmmfhaa
open Go.Dv Tr

theorem number_nil_call {o : Oper} {c : Call} {fo y : Operand} (ho : o.op = .call c) (hc : c.callee = .value fo) (ha : c.args = #[.const (.slice none 0 0), y]) {t : Tr} (hs : t.size ≤ 1000000) :
    OpOK PP o [dfn numF, .v (.list []), dt t] σ0 (.gro (t.size - 1) t.size 3) ⟨List.replicate (t.size - 1) none ++ [some (flatN (nodesM 0 t))], []⟩ := by
  have h := op_callG (σ := σ0) ho hc (fD := dfn numF) rfl (ds := [.v .nils, dt t]) [] id (number_nil t hs) (.cons (.ren (dc := .v .nils) rfl) (.cons (.ren (dc := dt t) rfl) .nil)) .nil (by simp) rfl (by simp) (by simp)
    (by simp [D.okN]) (by rw [okH_nones]; simp [okH, flatN, flatV, okNs_vs])
  have e2 : renH (rho 0 []) id (List.replicate (t.size - 1) none ++ [some (flatN (nodesM 0 t))]) = List.replicate (t.size - 1) none ++ [some (flatN (nodesM 0 t))] := by
    simp only [renH, List.map_append, List.map_replicate, Option.map_none, List.map_cons, Option.map_some, List.map_nil, flatN, flatV, rens_vs]
  simp only [List.length_nil, D.ren, rho, List.getElem?_nil, Nat.zero_add, Nat.sub_zero, backH, List.nil_append, e2, renOwn, List.map_nil] at h
  refine opOK_const (ds' := [dfn numF, .raw (.slice none 0 0), dt t]) ?_ (opOK_see (.cons .same (.cons .rawnil (.cons .same .nil))) h)
  rw [ho]
  simp only [Op.operands, Call.operands, hc, ha]
  exact .same (.const (.same .nil))

theorem lend_nodes {q len : Nat} {l : List Nd} (hl : len = l.length) : lends (lentIn [q] (List.replicate q none ++ [some (flatN l)])) 1 (.gro q len 3) (vnl l) := by
  subst hl
  have hlen : (l.map vn).length = l.length := by simp
  refine .inr (.inr ⟨q, 0, 3, flatN l, l.map vn, .inr ⟨3, by rw [hlen], rfl⟩, rfl, by decide, by simp [V.size], by simp [lentIn], fun j y hj => ⟨?_, .v y, ?_, .v y, .same, rfl⟩⟩)
  · have := List.mem_of_getElem? hj
    simp only [List.mem_flatMap, List.mem_map, V.cellsV] at this
    obtain ⟨_, ⟨n, _, rfl⟩, h⟩ := this
    simp only [V.cellsV, List.mem_cons, List.not_mem_nil, or_false] at h
    rcases h with rfl | rfl | rfl <;> rfl
  · simp only [flatN, flatV, List.getElem?_map, Nat.zero_add, hj, Option.map_some]

theorem idx_node {l : List Nd} {i : Nat} {n : Nd} (h : l[i]? = some n) : (l.map vn)[((i : Nat) : Int).toNat]? = some (vn n) := by simp [h]

/-- the first place where p holds; -1 -/
def idxQ {α : Type} (p : α → Bool) (xs : List α) (i : Nat) : Int := match xs with
  | [] => -1
  | x :: xs => if p x then i else idxQ p xs (i + 1)
theorem idxQ_at {α : Type} {p : α → Bool} {xs : List α} {i : Nat} {x : α} (h : xs[i]? = some x) : idxQ p (xs.drop i) i = if p x then (i : Int) else idxQ p (xs.drop (i + 1)) (i + 1) := by
  obtain ⟨h1, h2⟩ := List.getElem?_eq_some_iff.1 h
  rw [List.drop_eq_getElem_cons h1, h2]; rfl
theorem idxQ_end {α : Type} {p : α → Bool} {xs : List α} {i : Nat} (h : xs.length ≤ i) : idxQ p (xs.drop i) i = -1 := by rw [List.drop_of_length_le h]; rfl
theorem idxQ_any {α : Type} {p : α → Bool} : ∀ (xs : List α) (i : Nat), decide (0 ≤ idxQ p xs i) = xs.any p
  | [], i => by simp [idxQ]
  | x :: xs, i => by
    simp only [idxQ, List.any_cons]
    by_cases hx : p x = true
    · simp [hx]
    · simp only [hx]; simpa using idxQ_any xs (i + 1)

def badLab (n : Nd) : Bool := decide (n.lab < 0) || decide (n.lab ≥ 16)
def validT (t : Tr) : Bool := decide (t.size ≤ 12) && !((nodesM 0 t).any badLab)
def nodesT (t : Tr) : List Nd := if validT t then nodesM 0 t else []
theorem nodesT_length (t : Tr) : (nodesT t).length = if validT t then t.size else 0 := by unfold nodesT; split <;> simp [nodesM_length]
theorem nodesT_small (t : Tr) : (nodesT t).length ≤ 12 := by
  rw [nodesT_length]; split
  · rename_i h; simp [validT] at h; exact h.1
  · omega

noncomputable def cIndexN : Code := Try.f54.body.getD .skip
set_option maxRecDepth 20000 in
theorem indexN_loop (fo : FuncId) (fs cs : List V) (xs : List Nd) (p : Nd → Bool) (hf : ∀ x ∈ xs, FSpec PP fo (fs.map .v ++ [.v (vn x)] ++ cs.map .v) σ0 (db (p x)) σ0) (hs : xs.length ≤ 1000000) (m : Nat) : ∀ i : Nat, xs.length - i = m → idxQ p xs 0 = idxQ p (xs.drop i) i → Run PP (fun env σ1 => ResOK PP Try.f54 env σ1 (di (idxQ p xs 0)) σ0) [.lp (sub cIndexN [1, 0, 1, 0, 0]), .blk 0, .code (sub cIndexN [1, 1])] ((dnl xs) :: (.v (.fn fo fs cs)) :: .undef :: .undef :: .undef :: .undef :: (dnl xs) :: (di ↑xs.length) :: (di ↑i) :: .undef :: .undef :: .undef :: .undef :: .undef :: .undef :: .undef :: .undef :: .undef :: .undef :: []) σ0 := by
  induction m using Nat.strongRecOn with
  | _ m ih =>
    intro i hm hb
    refine run_lp ?_
    refine at_seq [1, 0, 1, 0, 0, 0] [1, 0, 1, 0, 0, 1] rfl ?_
    refine at_region rfl ?_
    refine at_op (some 9) rfl rfl rfl rfl (op_binI rfl rfl) (by dsimp only [putD, List.set]) ?_
    refine at_end rfl ?_
    refine at_seq [1, 0, 1, 0, 0, 1, 0] [1, 0, 1, 0, 0, 1, 1] rfl ?_
    refine at_cond [1, 0, 1, 0, 0, 1, 0, 0] [1, 0, 1, 0, 0, 1, 0, 1] rfl rfl (fun hc1 => ?_) (fun hc1 => ?_)
    · skip
      have hlt : i < xs.length := by simpa using hc1
      obtain ⟨x, hx⟩ := get_ex hlt
      rw [idxQ_at hx] at hb
      have hx2 := idx_node hx
      refine at_skip rfl ?_
      refine at_seq [1, 0, 1, 0, 0, 1, 1, 0] [1, 0, 1, 0, 0, 1, 1, 1] rfl ?_
      refine at_block [1, 0, 1, 0, 0, 1, 1, 0, 0] 1 rfl ?_
      refine at_seq [1, 0, 1, 0, 0, 1, 1, 0, 0, 0] [1, 0, 1, 0, 0, 1, 1, 0, 0, 1] rfl ?_
      refine at_region rfl ?_
      refine at_mv 8 10 rfl rfl rfl (.inl rfl) rfl (by dsimp only [List.set]) ?_
      refine at_mv 10 5 rfl rfl rfl (.inr rfl) rfl (by dsimp only [List.set]) ?_
      refine at_end rfl ?_
      refine at_seq [1, 0, 1, 0, 0, 1, 1, 0, 0, 1, 0] [1, 0, 1, 0, 0, 1, 1, 0, 0, 1, 1] rfl ?_
      refine at_region rfl ?_
      refine at_mv 1 11 rfl rfl rfl (.inl rfl) rfl (by dsimp only [List.set]) ?_
      refine at_mv 0 12 rfl rfl rfl (.inl rfl) rfl (by dsimp only [List.set]) ?_
      refine at_mv 5 13 rfl rfl rfl (.inl rfl) rfl (by dsimp only [List.set]) ?_
      first | (refine at_op (some 14) rfl rfl rfl rfl (op_idxL rfl fsl_Stree_node (by first | decide | omega) (by first | assumption | exact idx_some (by assumption) | rfl) (by first | rfl | (simp [V.size]; done))) (by dsimp only [putD, List.set]) ?_) | (refine at_op (some 14) rfl rfl rfl rfl (opOK_un (op_idxL rfl fsl_Stree_node (by first | decide | omega) (by first | assumption | exact idx_some (by assumption) | rfl) (by first | rfl | (simp [V.size]; done)))) (by dsimp only [putD, List.set]) ?_) | (refine at_op (some 14) rfl rfl rfl rfl (op_idxA rfl fsl_Stree_node (by first | decide | omega) (by first | decide | omega)) (by dsimp only [putD, List.set]) ?_)
      first | (refine at_op (some 15) rfl rfl rfl rfl (op_loadRA rfl fagg_tree_node) (by dsimp only [putD, List.set]) ?_) | (refine at_op (some 15) rfl rfl rfl rfl (op_loadPA rfl fagg_tree_node rfl (by decide) rfl) (by dsimp only [putD, List.set]) ?_)
      refine at_op (some 16) rfl rfl rfl rfl (op_call0 rfl rfl rfl rfl (hf x (List.mem_of_getElem? hx))) (by dsimp only [putD, List.set]) ?_
      refine at_end rfl ?_
      refine at_cond [1, 0, 1, 0, 0, 1, 1, 0, 0, 1, 1, 0] [1, 0, 1, 0, 0, 1, 1, 0, 0, 1, 1, 1] rfl rfl (fun hc2 => ?_) (fun hc2 => ?_)
      · skip
        refine at_seq [1, 0, 1, 0, 0, 1, 1, 0, 0, 1, 1, 0, 0] [1, 0, 1, 0, 0, 1, 1, 0, 0, 1, 1, 0, 1] rfl ?_
        refine at_region rfl ?_
        refine at_mv 5 17 rfl rfl rfl (.inl rfl) rfl (by dsimp only [List.set]) ?_
        refine at_mv 17 4 rfl rfl rfl (.inr rfl) rfl (by dsimp only [List.set]) ?_
        refine at_end rfl ?_
        refine at_ret rfl (ret_one (t := 4) rfl rfl ?_ rfl)
        first | (rw [hb]; done) | (simp_all; done)
      · skip
        refine at_skip rfl ?_
        refine run_blk ?_
        refine at_region rfl ?_
        refine at_op (some 18) rfl rfl rfl rfl (op_binI rfl rfl) (by dsimp only [putD, List.set]) ?_
        refine at_mv 18 8 rfl rfl rfl (.inl rfl) rfl (by dsimp only [List.set]) ?_
        refine at_end rfl ?_
        rw [wrap_succ (by omega)]
        exact run_wk (.keep (.keep (.drop (.drop (.drop (.drop (.keep (.keep (.keep (.drop (.drop (.drop (.drop (.drop (.drop (.drop (.drop (.drop (.drop .nil))))))))))))))))))) (ih _ (by omega) (i + 1) rfl (by simp_all))
    · skip
      have hge : xs.length ≤ i := by simpa using hc1
      rw [idxQ_end hge] at hb
      refine at_exit rfl rfl ?_
      refine at_seq [1, 1, 0] [1, 1, 1] rfl ?_
      refine at_region rfl ?_
      refine at_mc 4 rfl rfl rfl (.inr rfl) (by dsimp only [constD]) (by dsimp only [List.set]) ?_
      refine at_end rfl ?_
      refine at_ret rfl (ret_one (t := 4) rfl rfl ?_ rfl)
      first | (rw [hb]; done) | (simp_all; done)

set_option maxRecDepth 20000 in
theorem indexN_spec (fo : FuncId) (fs cs : List V) (xs : List Nd) (p : Nd → Bool) (hf : ∀ x ∈ xs, FSpec PP fo (fs.map .v ++ [.v (vn x)] ++ cs.map .v) σ0 (db (p x)) σ0) (hs : xs.length ≤ 1000000) : FSpec PP 54 [dnl xs, .v (.fn fo fs cs)] σ0 (di (idxQ p xs 0)) σ0 := by
  refine spec_at cIndexN Try.func54 rfl (by kernel_rfl) (by first | decide | simp) _ (by dsimp only [Try.f54, List.length, Nat.reduceAdd, Nat.reduceSub, List.replicate, List.cons_append, List.nil_append]) ?_
  refine at_seq [0] [1] rfl ?_
  refine at_region rfl ?_
  refine at_mc 4 rfl rfl rfl (.inr rfl) (by dsimp only [constD]) (by dsimp only [List.set]) ?_
  refine at_end rfl ?_
  refine at_seq [1, 0] [1, 1] rfl ?_
  refine at_seq [1, 0, 0] [1, 0, 1] rfl ?_
  refine at_region rfl ?_
  refine at_mv 0 6 rfl rfl rfl (.inl rfl) rfl (by dsimp only [List.set]) ?_
  first | (refine at_op (some 7) rfl rfl rfl rfl (op_lenL rfl fu_Stree_node) (by dsimp only [putD, List.set]) ?_) | (refine at_op (some 7) rfl rfl rfl rfl (opOK_un (op_lenL rfl fu_Stree_node)) (by dsimp only [putD, List.set]) ?_) | (refine at_op (some 7) rfl rfl rfl rfl (op_lenA rfl fu_Stree_node) (by dsimp only [putD, List.set]) ?_)
  refine at_mc 8 rfl rfl rfl (.inl rfl) (by dsimp only [constD]) (by dsimp only [List.set]) ?_
  refine at_end rfl ?_
  refine at_block [1, 0, 1, 0] 0 rfl ?_
  refine at_loop [1, 0, 1, 0, 0] rfl ?_
  try simp only [List.length_map, List.length_nil, Int.toNat_natCast]
  exact run_wk (.keep (.keep (.drop (.drop (.drop (.drop (.keep (.keep (.keep (.drop (.drop (.drop (.drop (.drop (.drop (.drop (.drop (.drop (.drop .nil))))))))))))))))))) (indexN_loop fo fs cs xs p hf hs _ 0 rfl (by simp))

noncomputable def cContainsN : Code := Try.f43.body.getD .skip
set_option maxRecDepth 20000 in
theorem containsN_spec (fo : FuncId) (fs cs : List V) (xs : List Nd) (p : Nd → Bool) (hf : ∀ x ∈ xs, FSpec PP fo (fs.map .v ++ [.v (vn x)] ++ cs.map .v) σ0 (db (p x)) σ0) (hs : xs.length ≤ 1000000) : FSpec PP 43 [dnl xs, .v (.fn fo fs cs)] σ0 (db (xs.any p)) σ0 := by
  refine spec_at cContainsN Try.func43 rfl (by kernel_rfl) (by first | decide | simp) _ (by dsimp only [Try.f43, List.length, Nat.reduceAdd, Nat.reduceSub, List.replicate, List.cons_append, List.nil_append]) ?_
  refine at_seq [0] [1] rfl ?_
  refine at_region rfl ?_
  refine at_mc 4 rfl rfl rfl (.inr rfl) (by dsimp only [constD]) (by dsimp only [List.set]) ?_
  refine at_end rfl ?_
  refine at_seq [1, 0] [1, 1] rfl ?_
  refine at_region rfl ?_
  refine at_mv 0 5 rfl rfl rfl (.inl rfl) rfl (by dsimp only [List.set]) ?_
  refine at_mv 1 6 rfl rfl rfl (.inl rfl) rfl (by dsimp only [List.set]) ?_
  refine at_op (some 7) rfl rfl rfl rfl (op_call0 rfl rfl rfl rfl (indexN_spec fo fs cs xs p hf hs)) (by dsimp only [putD, List.set]) ?_
  refine at_op (some 8) rfl rfl rfl rfl (op_binI rfl rfl) (by dsimp only [putD, List.set]) ?_
  refine at_mv 8 4 rfl rfl rfl (.inr rfl) rfl (by dsimp only [List.set]) ?_
  refine at_end rfl ?_
  refine at_ret rfl (ret_one (t := 4) rfl rfl ?_ rfl)
  rw [← idxQ_any xs 0]

noncomputable def cNodes1 : Code := Try.f44.body.getD .skip
set_option maxRecDepth 20000 in
theorem nodes1_spec (n : Nd) : FSpec PP 44 [.v (vn n)] σ0 (db (badLab n)) σ0 := by
  refine spec_at cNodes1 Try.func44 rfl (by kernel_rfl) (by first | decide | simp) _ (by dsimp only [Try.f44, List.length, Nat.reduceAdd, Nat.reduceSub, List.replicate, List.cons_append, List.nil_append]) ?_
  refine at_seq [0] [1] rfl ?_
  refine at_region rfl ?_
  refine at_op (some 1) rfl rfl rfl rfl (op_boxI rfl rfl) (by dsimp only [putD, List.set]) ?_
  refine at_mc 2 rfl rfl rfl (.inr rfl) (by dsimp only [constD]) (by dsimp only [List.set]) ?_
  refine at_end rfl ?_
  refine at_seq [1, 0] [1, 1] rfl ?_
  refine at_region rfl ?_
  first | (refine at_op (some 3) rfl rfl rfl rfl (op_fieldP rfl ffld0_tree_node (by decide)) (by dsimp only [putD, List.set]) ?_) | (refine at_op (some 3) rfl rfl rfl rfl (op_fieldR rfl ffld0_tree_node (by decide) (by decide) rfl) (by dsimp only [putD, List.set]) ?_)
  first | (refine at_op (some 4) rfl rfl rfl rfl (op_loadR1 rfl fone_int rfl) (by dsimp only [putD, List.set]) ?_) | (refine at_op (some 4) rfl rfl rfl rfl (op_loadP1 rfl fone_int rfl rfl) (by dsimp only [putD, List.set]) ?_)
  refine at_op (some 5) rfl rfl rfl rfl (op_binI rfl rfl) (by dsimp only [putD, List.set]) ?_
  refine at_mv 5 6 rfl rfl rfl (.inl rfl) rfl (by dsimp only [List.set]) ?_
  refine at_split 6 rfl (fun hb1 env' he => ?_) (fun hb1 env' he => ?_)
  · dsimp only [List.set] at he; subst he
    refine at_opN (some 7) rfl rfl rfl (by dsimp only [putD, List.set]) ?_
    refine at_opN (some 8) rfl rfl rfl (by dsimp only [putD, List.set]) ?_
    refine at_opN (some 9) rfl rfl rfl (by dsimp only [putD, List.set]) ?_
    refine at_pkc true 6 10 rfl rfl rfl rfl rfl rfl (by dsimp only [constD]) (by dsimp only [List.set]) ?_
    refine at_mv 10 2 rfl rfl rfl (.inr rfl) rfl (by dsimp only [List.set]) ?_
    refine at_end rfl ?_
    refine at_ret rfl (ret_one (t := 2) rfl rfl ?_ rfl)
    first | (simp_all [badLab]; done) | (simp_all [badLab]; omega)
  · dsimp only [List.set] at he; subst he
    first | (refine at_op (some 7) rfl rfl rfl rfl (op_fieldP rfl ffld0_tree_node (by decide)) (by dsimp only [putD, List.set]) ?_) | (refine at_op (some 7) rfl rfl rfl rfl (op_fieldR rfl ffld0_tree_node (by decide) (by decide) rfl) (by dsimp only [putD, List.set]) ?_)
    first | (refine at_op (some 8) rfl rfl rfl rfl (op_loadR1 rfl fone_int rfl) (by dsimp only [putD, List.set]) ?_) | (refine at_op (some 8) rfl rfl rfl rfl (op_loadP1 rfl fone_int rfl rfl) (by dsimp only [putD, List.set]) ?_)
    refine at_op (some 9) rfl rfl rfl rfl (op_binI rfl rfl) (by dsimp only [putD, List.set]) ?_
    refine at_pk false 6 9 10 rfl rfl rfl rfl rfl rfl rfl (by dsimp only [List.set]) ?_
    refine at_mv 10 2 rfl rfl rfl (.inr rfl) rfl (by dsimp only [List.set]) ?_
    refine at_end rfl ?_
    refine at_ret rfl (ret_one (t := 2) rfl rfl ?_ rfl)
    first | (simp_all [badLab]; done) | (simp_all [badLab]; omega)

noncomputable def cNodes : Code := Try.f26.body.getD .skip
set_option maxRecDepth 20000 in
theorem nodes_spec (t : Tr) (hs : t.size ≤ 1000000) : FSpec PP 26 [dt t] σ0 (dnl (nodesT t)) σ0 := by
  refine spec_at cNodes Try.func26 rfl (by kernel_rfl) (by first | decide | simp) _ (by dsimp only [Try.f26, List.length, Nat.reduceAdd, Nat.reduceSub, List.replicate, List.cons_append, List.nil_append]) ?_
  refine at_seq [0] [1] rfl ?_
  refine at_region rfl ?_
  refine at_op (some 1) rfl rfl rfl rfl (op_boxI rfl rfl) (by dsimp only [putD, List.set]) ?_
  refine at_mc 2 rfl rfl rfl (.inr rfl) (by dsimp only [constD]) (by dsimp only [List.set]) ?_
  refine at_end rfl ?_
  refine at_seq [1, 0] [1, 1] rfl ?_
  refine at_seq [1, 0, 0] [1, 0, 1] rfl ?_
  refine at_region rfl ?_
  first | (refine at_op (some 4) rfl rfl rfl rfl (op_loadRA rfl fagg_api_Tree) (by dsimp only [putD, List.set]) ?_) | (refine at_op (some 4) rfl rfl rfl rfl (op_loadPA rfl fagg_api_Tree rfl (by decide) rfl) (by dsimp only [putD, List.set]) ?_)
  refine at_op (some 5) rfl rfl rfl rfl (op_call0 rfl rfl rfl rfl (tsmall_spec t (by omega))) (by dsimp only [putD, List.set]) ?_
  refine at_op (some 6) rfl rfl rfl rfl (op_un rfl rfl) (by dsimp only [putD, List.set]) ?_
  refine at_end rfl ?_
  refine at_cond [1, 0, 1, 0] [1, 0, 1, 1] rfl rfl (fun hc1 => ?_) (fun hc1 => ?_)
  · skip
    refine at_seq [1, 0, 1, 0, 0] [1, 0, 1, 0, 1] rfl ?_
    refine at_region rfl ?_
    refine at_mc 2 rfl rfl rfl (.inr rfl) (by dsimp only [constD]) (by dsimp only [List.set]) ?_
    refine at_end rfl ?_
    refine at_ret rfl (ret_one (t := 2) rfl rfl ?_ rfl)
    unfold nodesT validT
    cases hA : decide (t.size ≤ 12) <;> cases hB : (nodesM 0 t).any badLab <;> simp only [hA, hB, Bool.not_true, Bool.not_false, Bool.and_true, Bool.and_false, Bool.true_and, Bool.false_and, Bool.false_eq_true, if_true, if_false, List.map_nil, reduceCtorEq] at * <;> rfl
  · skip
    refine at_skip rfl ?_
    refine at_seq [1, 1, 0] [1, 1, 1] rfl ?_
    refine at_region rfl ?_
    first | (refine at_op (some 7) rfl rfl rfl rfl (op_loadRA rfl fagg_api_Tree) (by dsimp only [putD, List.set]) ?_) | (refine at_op (some 7) rfl rfl rfl rfl (op_loadPA rfl fagg_api_Tree rfl (by decide) rfl) (by dsimp only [putD, List.set]) ?_)
    refine at_opS (some 8) rfl rfl rfl rfl (number_nil_call rfl rfl rfl hs) (by dsimp only [putD, List.set]) (by dsimp only [List.set, List.append, List.cons_append, List.nil_append, cellsD, List.map, repl, List.length, Nat.reduceAdd, if_true, ↓reduceIte]; first | done | rfl) ?_
    refine at_mv 8 3 rfl rfl rfl (.inr rfl) rfl (by dsimp only [List.set]) ?_
    refine at_end rfl ?_
    refine run_cv (cv_frz [t.size - 1] (.keep (.keep (.keep (.view (lend_nodes (l := nodesM 0 t) (nodesM_length t 0).symm) (.keep (.keep (.keep (.keep (.keep (.keep (.keep (.keep .nil))))))))))))) ?_
    refine at_seq [1, 1, 1, 0] [1, 1, 1, 1] rfl ?_
    refine at_seq [1, 1, 1, 0, 0] [1, 1, 1, 0, 1] rfl ?_
    refine at_region rfl ?_
    refine at_mv 3 9 rfl rfl rfl (.inl rfl) rfl (by dsimp only [List.set]) ?_
    refine at_op (some 10) rfl rfl rfl rfl (op_call0 rfl rfl rfl rfl (containsN_spec 44 [] [] (nodesM 0 t) badLab (fun x _ => nodes1_spec x) (by rw [nodesM_length]; omega))) (by dsimp only [putD, List.set]) ?_
    refine at_end rfl ?_
    refine at_cond [1, 1, 1, 0, 1, 0] [1, 1, 1, 0, 1, 1] rfl rfl (fun hc2 => ?_) (fun hc2 => ?_)
    · skip
      refine at_seq [1, 1, 1, 0, 1, 0, 0] [1, 1, 1, 0, 1, 0, 1] rfl ?_
      refine at_region rfl ?_
      refine at_mc 2 rfl rfl rfl (.inr rfl) (by dsimp only [constD]) (by dsimp only [List.set]) ?_
      refine at_end rfl ?_
      refine at_ret rfl (ret_one (t := 2) rfl rfl ?_ rfl)
      unfold nodesT validT
      cases hA : decide (t.size ≤ 12) <;> cases hB : (nodesM 0 t).any badLab <;> simp only [hA, hB, Bool.not_true, Bool.not_false, Bool.and_true, Bool.and_false, Bool.true_and, Bool.false_and, Bool.false_eq_true, if_true, if_false, List.map_nil, reduceCtorEq] at * <;> rfl
    · skip
      refine at_skip rfl ?_
      refine at_seq [1, 1, 1, 1, 0] [1, 1, 1, 1, 1] rfl ?_
      refine at_region rfl ?_
      refine at_mv 3 11 rfl rfl rfl (.inl rfl) rfl (by dsimp only [List.set]) ?_
      refine at_mv 11 2 rfl rfl rfl (.inr rfl) rfl (by dsimp only [List.set]) ?_
      refine at_end rfl ?_
      refine at_ret rfl (ret_one (t := 2) rfl rfl ?_ rfl)
      unfold nodesT validT
      cases hA : decide (t.size ≤ 12) <;> cases hB : (nodesM 0 t).any badLab <;> simp only [hA, hB, Bool.not_true, Bool.not_false, Bool.and_true, Bool.and_false, Bool.true_and, Bool.false_and, Bool.false_eq_true, if_true, if_false, List.map_nil, reduceCtorEq] at * <;> rfl

noncomputable def cSizeT : Code := Try.f11.body.getD .skip
set_option maxRecDepth 20000 in
theorem tsize_spec (t : Tr) (hs : t.size ≤ 1000000) : FSpec PP 11 [dt t] σ0 (di ↑(if validT t then t.size else 0)) σ0 := by
  refine spec_at cSizeT Try.func11 rfl (by kernel_rfl) (by first | decide | simp) _ (by dsimp only [Try.f11, List.length, Nat.reduceAdd, Nat.reduceSub, List.replicate, List.cons_append, List.nil_append]) ?_
  refine at_seq [0] [1] rfl ?_
  refine at_region rfl ?_
  refine at_op (some 1) rfl rfl rfl rfl (op_boxI rfl rfl) (by dsimp only [putD, List.set]) ?_
  refine at_mc 2 rfl rfl rfl (.inr rfl) (by dsimp only [constD]) (by dsimp only [List.set]) ?_
  refine at_end rfl ?_
  refine at_seq [1, 0] [1, 1] rfl ?_
  refine at_region rfl ?_
  first | (refine at_op (some 3) rfl rfl rfl rfl (op_loadRA rfl fagg_api_Tree) (by dsimp only [putD, List.set]) ?_) | (refine at_op (some 3) rfl rfl rfl rfl (op_loadPA rfl fagg_api_Tree rfl (by decide) rfl) (by dsimp only [putD, List.set]) ?_)
  refine at_op (some 4) rfl rfl rfl rfl (op_call0 rfl rfl rfl rfl (nodes_spec t hs)) (by dsimp only [putD, List.set]) ?_
  first | (refine at_op (some 5) rfl rfl rfl rfl (op_lenL rfl fu_Stree_node) (by dsimp only [putD, List.set]) ?_) | (refine at_op (some 5) rfl rfl rfl rfl (opOK_un (op_lenL rfl fu_Stree_node)) (by dsimp only [putD, List.set]) ?_) | (refine at_op (some 5) rfl rfl rfl rfl (op_lenA rfl fu_Stree_node) (by dsimp only [putD, List.set]) ?_)
  refine at_mv 5 2 rfl rfl rfl (.inr rfl) rfl (by dsimp only [List.set]) ?_
  refine at_end rfl ?_
  refine at_ret rfl (ret_one (t := 2) rfl rfl ?_ rfl)
  rw [← nodesT_length]; simp

noncomputable def cValidT : Code := Try.f9.body.getD .skip
set_option maxRecDepth 20000 in
theorem tvalid_spec (t : Tr) (hs : t.size ≤ 1000000) : FSpec PP 9 [dt t] σ0 (db (validT t)) σ0 := by
  refine spec_at cValidT Try.func9 rfl (by kernel_rfl) (by first | decide | simp) _ (by dsimp only [Try.f9, List.length, Nat.reduceAdd, Nat.reduceSub, List.replicate, List.cons_append, List.nil_append]) ?_
  refine at_seq [0] [1] rfl ?_
  refine at_region rfl ?_
  refine at_op (some 1) rfl rfl rfl rfl (op_boxI rfl rfl) (by dsimp only [putD, List.set]) ?_
  refine at_mc 2 rfl rfl rfl (.inr rfl) (by dsimp only [constD]) (by dsimp only [List.set]) ?_
  refine at_end rfl ?_
  refine at_seq [1, 0] [1, 1] rfl ?_
  refine at_region rfl ?_
  first | (refine at_op (some 3) rfl rfl rfl rfl (op_loadRA rfl fagg_api_Tree) (by dsimp only [putD, List.set]) ?_) | (refine at_op (some 3) rfl rfl rfl rfl (op_loadPA rfl fagg_api_Tree rfl (by decide) rfl) (by dsimp only [putD, List.set]) ?_)
  refine at_op (some 4) rfl rfl rfl rfl (op_call0 rfl rfl rfl rfl (nodes_spec t hs)) (by dsimp only [putD, List.set]) ?_
  first | (refine at_op (some 5) rfl rfl rfl rfl (op_lenL rfl fu_Stree_node) (by dsimp only [putD, List.set]) ?_) | (refine at_op (some 5) rfl rfl rfl rfl (opOK_un (op_lenL rfl fu_Stree_node)) (by dsimp only [putD, List.set]) ?_) | (refine at_op (some 5) rfl rfl rfl rfl (op_lenA rfl fu_Stree_node) (by dsimp only [putD, List.set]) ?_)
  refine at_op (some 6) rfl rfl rfl rfl (op_binI rfl rfl) (by dsimp only [putD, List.set]) ?_
  refine at_mv 6 2 rfl rfl rfl (.inr rfl) rfl (by dsimp only [List.set]) ?_
  refine at_end rfl ?_
  refine at_ret rfl (ret_one (t := 2) rfl rfl ?_ rfl)
  have := nodesT_length t
  have := size_pos t
  cases hv : validT t <;> simp_all
  try omega

noncomputable def cLabels : Code := Try.f18.body.getD .skip
set_option maxRecDepth 20000 in
theorem labels_loop (ns : List Nd) (hs : ns.length ≤ 1000000) (T : List Int) (m : Nat) : ∀ (i : Nat) (acc : List Int), ns.length - i = m → acc.length = i → acc ++ (ns.drop i).map Nd.lab = T → Run PP (fun env σ1 => ResOK PP Try.f18 env σ1 (dl T) σ0) [.lp (sub cLabels [1, 1, 0, 1, 0, 0]), .blk 0, .code (sub cLabels [1, 1, 1])] (.undef :: .undef :: .undef :: (.acc 1 (acc.map vi)) :: .undef :: .undef :: .undef :: (dnl ns) :: (di ↑ns.length) :: (di ↑i) :: .undef :: .undef :: .undef :: .undef :: .undef :: .undef :: .undef :: .undef :: .undef :: .undef :: []) ⟨[], [(1, 1, acc.map vi)]⟩ := by
  induction m using Nat.strongRecOn with
  | _ m ih =>
    intro i acc hm ha hT
    refine run_lp ?_
    refine at_seq [1, 1, 0, 1, 0, 0, 0] [1, 1, 0, 1, 0, 0, 1] rfl ?_
    refine at_region rfl ?_
    refine at_op (some 10) rfl rfl rfl rfl (op_binI rfl rfl) (by dsimp only [putD, List.set]) ?_
    refine at_end rfl ?_
    refine at_seq [1, 1, 0, 1, 0, 0, 1, 0] [1, 1, 0, 1, 0, 0, 1, 1] rfl ?_
    refine at_cond [1, 1, 0, 1, 0, 0, 1, 0, 0] [1, 1, 0, 1, 0, 0, 1, 0, 1] rfl rfl (fun hc1 => ?_) (fun hc1 => ?_)
    · skip
      have hlt : i < ns.length := by simpa using hc1
      obtain ⟨x, hx⟩ := get_ex hlt
      have hx2 := idx_node hx
      have hd : ns.drop i = x :: ns.drop (i + 1) := by rw [List.drop_eq_getElem_cons hlt]; congr 1; exact (List.getElem?_eq_some_iff.1 hx).2
      rw [hd] at hT
      refine at_skip rfl ?_
      refine at_seq [1, 1, 0, 1, 0, 0, 1, 1, 0] [1, 1, 0, 1, 0, 0, 1, 1, 1] rfl ?_
      refine at_block [1, 1, 0, 1, 0, 0, 1, 1, 0, 0] 1 rfl ?_
      refine at_seq [1, 1, 0, 1, 0, 0, 1, 1, 0, 0, 0] [1, 1, 0, 1, 0, 0, 1, 1, 0, 0, 1] rfl ?_
      refine at_region rfl ?_
      first | (refine at_op (some 11) rfl rfl rfl rfl (op_idxL rfl fsl_Stree_node (by first | decide | omega) (by first | assumption | exact idx_some (by assumption) | rfl) (by first | rfl | (simp [V.size]; done))) (by dsimp only [putD, List.set]) ?_) | (refine at_op (some 11) rfl rfl rfl rfl (opOK_un (op_idxL rfl fsl_Stree_node (by first | decide | omega) (by first | assumption | exact idx_some (by assumption) | rfl) (by first | rfl | (simp [V.size]; done)))) (by dsimp only [putD, List.set]) ?_) | (refine at_op (some 11) rfl rfl rfl rfl (op_idxA rfl fsl_Stree_node (by first | decide | omega) (by first | decide | omega)) (by dsimp only [putD, List.set]) ?_)
      first | (refine at_op (some 12) rfl rfl rfl rfl (op_loadRA rfl fagg_tree_node) (by dsimp only [putD, List.set]) ?_) | (refine at_op (some 12) rfl rfl rfl rfl (op_loadPA rfl fagg_tree_node rfl (by decide) rfl) (by dsimp only [putD, List.set]) ?_)
      refine at_new 12 5 rfl rfl rfl rfl fzero_tree_node rfl rfl rfl rfl (by decide) rfl rfl fagg_tree_node (by first | rfl | (simp [V.size]; done)) rfl (by simp only [List.length_cons]; omega) (by dsimp only [List.set]) ?_
      refine at_end rfl ?_
      refine at_region rfl ?_
      refine at_mv 3 13 rfl rfl rfl (.inl rfl) rfl (by dsimp only [List.set]) ?_
      first | (refine at_op (some 14) rfl rfl rfl rfl (op_fieldP rfl ffld0_tree_node (by decide)) (by dsimp only [putD, List.set]) ?_) | (refine at_op (some 14) rfl rfl rfl rfl (op_fieldR rfl ffld0_tree_node (by decide) (by decide) rfl) (by dsimp only [putD, List.set]) ?_)
      first | (refine at_op (some 15) rfl rfl rfl rfl (op_loadR1 rfl fone_int rfl) (by dsimp only [putD, List.set]) ?_) | (refine at_op (some 15) rfl rfl rfl rfl (op_loadP1 rfl fone_int rfl rfl) (by dsimp only [putD, List.set]) ?_)
      refine at_op (some 16) rfl rfl rfl rfl (op_buildSlice rfl (by rfl) (by rfl) fsl_Sint rfl rfl (by simp [V.size]) (by decide) (by decide) (by decide)) (by dsimp only [putD, List.set]) ?_
      refine at_opS (some 17) rfl rfl rfl rfl (op_append rfl fsl_Sint rfl (by simp) (by simp [V.size]) (by simp; omega) (by simp; omega)) (by dsimp only [putD, List.set]) (by dsimp only [List.set, List.append, List.cons_append, List.nil_append, cellsD, List.map, repl, List.length, Nat.reduceAdd, if_true, ↓reduceIte]; first | done | rfl) ?_
      refine at_mv 17 3 rfl rfl rfl (.inr rfl) rfl (by dsimp only [List.set]) ?_
      refine at_end rfl ?_
      refine run_blk ?_
      refine at_region rfl ?_
      refine at_op (some 18) rfl rfl rfl rfl (op_binI rfl rfl) (by dsimp only [putD, List.set]) ?_
      refine at_mv 18 9 rfl rfl rfl (.inl rfl) rfl (by dsimp only [List.set]) ?_
      refine at_end rfl ?_
      rw [wrap_succ (by omega)]
      rw [show acc.map vi ++ [V.int .i64 x.lab] = (acc ++ [x.lab]).map vi from by simp]
      exact run_wk (.drop (.drop (.drop (.keep (.drop (.drop (.drop (.keep (.keep (.keep (.drop (.drop (.drop (.drop (.drop (.drop (.drop (.drop (.drop (.drop .nil)))))))))))))))))))) (ih _ (by omega) (i + 1) (acc ++ [x.lab]) rfl (by simp [ha]) (by rw [← hT]; simp))
    · skip
      have hge : ns.length ≤ i := by simpa using hc1
      rw [List.drop_of_length_le hge] at hT
      simp only [List.map_nil, List.append_nil] at hT
      refine at_exit rfl rfl ?_
      refine at_seq [1, 1, 1, 0] [1, 1, 1, 1] rfl ?_
      refine at_region rfl ?_
      refine at_mv 3 19 rfl rfl rfl (.inl rfl) rfl (by dsimp only [List.set]) ?_
      refine at_mv 19 2 rfl rfl rfl (.inr rfl) rfl (by dsimp only [List.set]) ?_
      refine at_end rfl ?_
      refine at_ret rfl (ret_un (t := 2) rfl rfl ?_)
      rw [← hT]

set_option maxRecDepth 20000 in
theorem tlabels_spec (t : Tr) (hs : t.size ≤ 1000000) : FSpec PP 18 [dt t] σ0 (dl ((nodesT t).map Nd.lab)) σ0 := by
  refine spec_at cLabels Try.func18 rfl (by kernel_rfl) (by first | decide | simp) _ (by dsimp only [Try.f18, List.length, Nat.reduceAdd, Nat.reduceSub, List.replicate, List.cons_append, List.nil_append]) ?_
  refine at_seq [0] [1] rfl ?_
  refine at_region rfl ?_
  refine at_op (some 1) rfl rfl rfl rfl (op_boxI rfl rfl) (by dsimp only [putD, List.set]) ?_
  refine at_mc 2 rfl rfl rfl (.inr rfl) (by dsimp only [constD]) (by dsimp only [List.set]) ?_
  refine at_end rfl ?_
  refine at_seq [1, 0] [1, 1] rfl ?_
  refine at_region rfl ?_
  refine at_opS (some 3) rfl rfl rfl rfl (op_nilOwn (.inl rfl) 1 1 (by simp) (by decide)) (by dsimp only [putD, List.set]) (by dsimp only [List.set, List.append, List.cons_append, List.nil_append, cellsD, List.map, repl, List.length, Nat.reduceAdd, if_true, ↓reduceIte]; first | done | rfl) ?_
  refine at_end rfl ?_
  refine at_seq [1, 1, 0] [1, 1, 1] rfl ?_
  refine at_seq [1, 1, 0, 0] [1, 1, 0, 1] rfl ?_
  refine at_region rfl ?_
  first | (refine at_op (some 6) rfl rfl rfl rfl (op_loadRA rfl fagg_api_Tree) (by dsimp only [putD, List.set]) ?_) | (refine at_op (some 6) rfl rfl rfl rfl (op_loadPA rfl fagg_api_Tree rfl (by decide) rfl) (by dsimp only [putD, List.set]) ?_)
  refine at_op (some 7) rfl rfl rfl rfl (op_call0 rfl rfl rfl rfl (nodes_spec t hs)) (by dsimp only [putD, List.set]) ?_
  first | (refine at_op (some 8) rfl rfl rfl rfl (op_lenL rfl fu_Stree_node) (by dsimp only [putD, List.set]) ?_) | (refine at_op (some 8) rfl rfl rfl rfl (opOK_un (op_lenL rfl fu_Stree_node)) (by dsimp only [putD, List.set]) ?_) | (refine at_op (some 8) rfl rfl rfl rfl (op_lenA rfl fu_Stree_node) (by dsimp only [putD, List.set]) ?_)
  refine at_mc 9 rfl rfl rfl (.inl rfl) (by dsimp only [constD]) (by dsimp only [List.set]) ?_
  refine at_end rfl ?_
  refine at_block [1, 1, 0, 1, 0] 0 rfl ?_
  refine at_loop [1, 1, 0, 1, 0, 0] rfl ?_
  try simp only [List.length_map, List.length_nil, Int.toNat_natCast]
  have h12 := nodesT_small t
  exact run_wk (.drop (.drop (.drop (.keep (.drop (.drop (.drop (.keep (.keep (.keep (.drop (.drop (.drop (.drop (.drop (.drop (.drop (.drop (.drop (.drop .nil)))))))))))))))))))) (labels_loop (nodesT t) (by omega) _ _ 0 [] rfl rfl rfl)

end Go.Proofs.Ytaceggcohmmfhaa

namespace Go.Proofs.Ytaceggcohmmfhaa
open Go.Dv Tr

abbrev vll (to : List (List Nat)) : V := .list (to.map fun l => vl (il l))
abbrev vse (A B : List Nd) (to : List (List Nat)) : V := .agg [vnl A, vnl B, vll to]

theorem idx_ll {to : List (List Nat)} {i : Nat} {l : List Nat} (h : to[i]? = some l) : (to.map fun l => vl (il l))[((i : Nat) : Int).toNat]? = some (vl (il l)) := by simp [h]
theorem idx_il {l : List Nat} {i : Nat} {x : Nat} (h : l[i]? = some x) : ((il l).map vi)[((i : Nat) : Int).toNat]? = some (vi (x : Int)) := by simp [h]
theorem idx_vi {l : List Int} {i : Int} {x : Int} (h : l[i.toNat]? = some x) : (l.map vi)[i.toNat]? = some (vi x) := by simp [h]

def inP (j e : Int) (a : Int) : Bool := decide (j ≤ a) && decide (a < e)
def intoM (l : List Nat) (j e : Nat) : Int := if idxP (inP j e) (il l) 0 < 0 then -1 else (il l).getD (idxP (inP j e) (il l) 0).toNat 0
theorem idxP_get {p : Int → Bool} : ∀ (xs : List Int) (i : Nat), 0 ≤ idxP p xs i → ∃ x, (i : Int) ≤ idxP p xs i ∧ xs[(idxP p xs i).toNat - i]? = some x ∧ p x = true
  | [], i, h => by simp [idxP] at h
  | x :: xs, i, h => by
    have key : idxP p (x :: xs) i = if p x = true then (i : Int) else idxP p xs (i + 1) := rfl
    rw [key] at h ⊢
    by_cases hx : p x = true
    · rw [if_pos hx]; exact ⟨x, by omega, by simp, hx⟩
    · rw [if_neg hx] at h ⊢
      obtain ⟨y, h1, h2, h3⟩ := idxP_get xs (i + 1) h
      refine ⟨y, by omega, ?_, h3⟩
      rw [show (idxP p xs (i + 1)).toNat - i = (idxP p xs (i + 1)).toNat - (i + 1) + 1 by omega]
      simpa using h2
theorem idxP_get0 {p : Int → Bool} {xs : List Int} (h : 0 ≤ idxP p xs 0) : ∃ x, xs[(idxP p xs 0).toNat]? = some x ∧ p x = true := by
  obtain ⟨x, _, h2, h3⟩ := idxP_get xs 0 h
  exact ⟨x, by simpa using h2, h3⟩
theorem idxP_len {p : Int → Bool} : ∀ (xs : List Int) (i : Nat), idxP p xs i < (i : Int) + xs.length ∧ -1 ≤ idxP p xs i
  | [], i => by simp [idxP]; omega
  | x :: xs, i => by
    simp only [idxP]
    have := idxP_len (p := p) xs (i + 1)
    split
    · simp; omega
    · simp only [List.length_cons]; omega
theorem idxP_len0 {p : Int → Bool} (xs : List Int) : idxP p xs 0 < xs.length := by have := (idxP_len (p := p) xs 0).1; simpa using this

def gt (to : List (List Nat)) (i : Nat) : List Nat := (to[i]?).getD []
def ge (B : List Nd) (j : Nat) : Nat := ((B[j]?).map Nd.fin).getD 0
/-- where the subtree of a node goes within the subtree of a node of the other tree -/
def intoT (B : List Nd) (to : List (List Nat)) (i j : Nat) : Int := intoM (gt to i) j (ge B j)

/-- where the children go -/
def plM (f : Nat → Nat → Int) : List Nat → List Nat → Option (List Int)
  | [], _ => some []
  | _ :: _, [] => none
  | kid :: ks, r :: rest => if 0 ≤ f kid r then (plM f ks rest).map (f kid r :: ·) else plM f (kid :: ks) rest

abbrev fP (f : Nat → Nat → Int) (kid : Nat) (a : Int) : Bool := decide (0 ≤ f kid a.toNat)
theorem plM_idx (f : Nat → Nat → Int) (kid : Nat) (ks : List Nat) : ∀ (rest : List Nat) (n : Nat), plM f (kid :: ks) rest =
    if idxP (fP f kid) (il rest) n < 0 then none else (plM f ks (rest.drop ((idxP (fP f kid) (il rest) n).toNat - n + 1))).map (f kid (rest.getD ((idxP (fP f kid) (il rest) n).toNat - n) 0) :: ·)
  | [], n => by simp [plM, idxP]
  | r :: rest, n => by
    have key : idxP (fP f kid) (il (r :: rest)) n = if 0 ≤ f kid r then (n : Int) else idxP (fP f kid) (il rest) (n + 1) := by simp [idxP, fP, il]
    rw [key]
    simp only [plM]
    by_cases h : 0 ≤ f kid r
    · simp only [h, if_true]
      rw [if_neg (by omega)]
      simp
    · simp only [h, if_false]
      rw [plM_idx f kid ks rest (n + 1)]
      by_cases h2 : idxP (fP f kid) (il rest) (n + 1) < 0
      · simp only [h2, if_true]
      · simp only [h2, if_false]
        obtain ⟨x, h3, _⟩ := idxP_get (p := fP f kid) (il rest) (n + 1) (by omega)
        rw [show (idxP (fP f kid) (il rest) (n + 1)).toNat - n = (idxP (fP f kid) (il rest) (n + 1)).toNat - (n + 1) + 1 by omega]
        simp
theorem plM_idx0 (f : Nat → Nat → Int) (kid : Nat) (ks rest : List Nat) : plM f (kid :: ks) rest =
    if idxP (fP f kid) (il rest) 0 < 0 then none else (plM f ks (rest.drop ((idxP (fP f kid) (il rest) 0).toNat + 1))).map (f kid (rest.getD (idxP (fP f kid) (il rest) 0).toNat 0) :: ·) := by
  rw [plM_idx f kid ks rest 0]; simp
theorem mviT (acc : List Int) (x : Int) : acc.map vi ++ [V.int .i64 x] = (acc ++ [x]).map vi := by simp

noncomputable def cInto1 : Code := Try.f58.body.getD .skip
set_option maxRecDepth 20000 in
theorem into1_spec (A B : List Nd) (to : List (List Nat)) (j : Nat) (nb : Nd) (hj : B[j]? = some nb) (x : Int) : FSpec PP 58 [di x, .v (.ref (vi ↑j)), .v (.ref (.ref (vse A B to)))] σ0 (db (inP ↑j ↑nb.fin x)) σ0 := by
  have hj2 := idx_node hj
  refine spec_at cInto1 Try.func58 rfl (by kernel_rfl) (by first | decide | simp) _ (by dsimp only [Try.f58, List.length, Nat.reduceAdd, Nat.reduceSub, List.replicate, List.cons_append, List.nil_append]) ?_
  refine at_seq [0] [1] rfl ?_
  refine at_region rfl ?_
  refine at_mc 4 rfl rfl rfl (.inr rfl) (by dsimp only [constD]) (by dsimp only [List.set]) ?_
  refine at_end rfl ?_
  refine at_seq [1, 0] [1, 1] rfl ?_
  refine at_draw mixed rfl [σ0] rfl ?_
  refine da_mv 0 5 rfl rfl rfl (.inl rfl) rfl (by dsimp only [List.set]) ?_
  first | (refine da_quiet (some 6) rfl rfl rfl rfl (fun s hs => op_loadR1 rfl fone_int rfl) (by dsimp only [putD, List.set]) ?_) | (refine da_quiet (some 6) rfl rfl rfl rfl (by intro s hs; simp only [List.mem_cons, List.not_mem_nil, or_false] at hs; rcases hs with rfl <;> exact op_loadP1 rfl fone_int rfl rfl) (by dsimp only [putD, List.set]) ?_)
  refine da_quiet (some 7) rfl rfl rfl rfl (fun s hs => op_binI rfl rfl) (by dsimp only [putD, List.set]) ?_
  refine da_mv 7 8 rfl rfl rfl (.inl rfl) rfl (by dsimp only [List.set]) ?_
  refine da_split 8 rfl (fun hb1 env' he => ?_) (fun hb1 env' he => ?_)
  · dsimp only [List.set] at he; subst he
    refine da_mv 0 9 rfl rfl rfl (.inl rfl) rfl (by dsimp only [List.set]) ?_
    first | (refine da_quiet (some 10) rfl rfl rfl rfl (fun s hs => op_loadR1 rfl fone_Ptree_search rfl) (by dsimp only [putD, List.set]) ?_) | (refine da_quiet (some 10) rfl rfl rfl rfl (by intro s hs; simp only [List.mem_cons, List.not_mem_nil, or_false] at hs; rcases hs with rfl <;> exact op_loadP1 rfl fone_Ptree_search rfl rfl) (by dsimp only [putD, List.set]) ?_)
    first | (refine da_quiet (some 11) rfl rfl rfl rfl (fun s hs => op_nilCheck_ptr rfl) (by dsimp only [putD, List.set]) ?_) | (refine da_quiet (some 11) rfl rfl rfl rfl (fun s hs => op_nilCheck_ref rfl) (by dsimp only [putD, List.set]) ?_)
    first | (refine da_quiet (some 12) rfl rfl rfl rfl (fun s hs => op_fieldP rfl ffld1_tree_search (by decide)) (by dsimp only [putD, List.set]) ?_) | (refine da_quiet (some 12) rfl rfl rfl rfl (fun s hs => op_fieldR rfl ffld1_tree_search (by decide) (by decide) rfl) (by dsimp only [putD, List.set]) ?_)
    first | (refine da_quiet (some 13) rfl rfl rfl rfl (fun s hs => op_loadR1 rfl fone_Stree_node rfl) (by dsimp only [putD, List.set]) ?_) | (refine da_quiet (some 13) rfl rfl rfl rfl (by intro s hs; simp only [List.mem_cons, List.not_mem_nil, or_false] at hs; rcases hs with rfl <;> exact op_loadP1 rfl fone_Stree_node rfl rfl) (by dsimp only [putD, List.set]) ?_)
    first | (refine da_quiet (some 14) rfl rfl rfl rfl (fun s hs => op_loadR1 rfl fone_int rfl) (by dsimp only [putD, List.set]) ?_) | (refine da_quiet (some 14) rfl rfl rfl rfl (by intro s hs; simp only [List.mem_cons, List.not_mem_nil, or_false] at hs; rcases hs with rfl <;> exact op_loadP1 rfl fone_int rfl rfl) (by dsimp only [putD, List.set]) ?_)
    first | (refine da_quiet (some 15) rfl rfl rfl rfl (fun s hs => op_idxL rfl fsl_Stree_node (by first | decide | omega) (by first | assumption | exact idx_some (by assumption) | rfl) (by first | rfl | (simp [V.size]; done))) (by dsimp only [putD, List.set]) ?_) | (refine da_quiet (some 15) rfl rfl rfl rfl (fun s hs => opOK_un (op_idxL rfl fsl_Stree_node (by first | decide | omega) (by first | assumption | exact idx_some (by assumption) | rfl) (by first | rfl | (simp [V.size]; done)))) (by dsimp only [putD, List.set]) ?_) | (refine da_quiet (some 15) rfl rfl rfl rfl (fun s hs => op_idxA rfl fsl_Stree_node (by first | decide | omega) (by first | decide | omega)) (by dsimp only [putD, List.set]) ?_)
    first | (refine da_quiet (some 16) rfl rfl rfl rfl (fun s hs => op_fieldP rfl ffld1_tree_node (by decide)) (by dsimp only [putD, List.set]) ?_) | (refine da_quiet (some 16) rfl rfl rfl rfl (fun s hs => op_fieldR rfl ffld1_tree_node (by decide) (by decide) rfl) (by dsimp only [putD, List.set]) ?_)
    first | (refine da_quiet (some 17) rfl rfl rfl rfl (fun s hs => op_loadR1 rfl fone_int rfl) (by dsimp only [putD, List.set]) ?_) | (refine da_quiet (some 17) rfl rfl rfl rfl (by intro s hs; simp only [List.mem_cons, List.not_mem_nil, or_false] at hs; rcases hs with rfl <;> exact op_loadP1 rfl fone_int rfl rfl) (by dsimp only [putD, List.set]) ?_)
    refine da_quiet (some 18) rfl rfl rfl rfl (fun s hs => op_binI rfl rfl) (by dsimp only [putD, List.set]) ?_
    refine da_pk true 8 18 19 rfl rfl rfl rfl rfl rfl rfl (by dsimp only [List.set]) ?_
    refine da_mv 19 4 rfl rfl rfl (.inr rfl) rfl (by dsimp only [List.set]) ?_
    refine da_end rfl ⟨by decide +kernel, _, rfl, ?_⟩
    refine at_ret rfl (ret_one (t := 4) rfl rfl ?_ rfl)
    first | (simp_all [inP]; done) | (simp_all [inP]; omega)
  · dsimp only [List.set] at he; subst he
    refine da_skip (some 9) rfl rfl rfl (by dsimp only [putD, List.set]) ?_
    refine da_skip (some 10) rfl rfl rfl (by dsimp only [putD, List.set]) ?_
    refine da_skip (some 11) rfl rfl rfl (by dsimp only [putD, List.set]) ?_
    refine da_skip (some 12) rfl rfl rfl (by dsimp only [putD, List.set]) ?_
    refine da_skip (some 13) rfl rfl rfl (by dsimp only [putD, List.set]) ?_
    refine da_skip (some 14) rfl rfl rfl (by dsimp only [putD, List.set]) ?_
    refine da_skip (some 15) rfl rfl rfl (by dsimp only [putD, List.set]) ?_
    refine da_skip (some 16) rfl rfl rfl (by dsimp only [putD, List.set]) ?_
    refine da_skip (some 17) rfl rfl rfl (by dsimp only [putD, List.set]) ?_
    refine da_skip (some 18) rfl rfl rfl (by dsimp only [putD, List.set]) ?_
    refine da_pkc false 8 19 rfl rfl rfl rfl rfl rfl (by dsimp only [constD]) (by dsimp only [List.set]) ?_
    refine da_mv 19 4 rfl rfl rfl (.inr rfl) rfl (by dsimp only [List.set]) ?_
    refine da_end rfl ⟨by decide +kernel, _, rfl, ?_⟩
    refine at_ret rfl (ret_one (t := 4) rfl rfl ?_ rfl)
    first | (simp_all [inP]; done) | (simp_all [inP]; omega)

noncomputable def cInto : Code := Try.f57.body.getD .skip
set_option maxRecDepth 20000 in
theorem into_spec (A B : List Nd) (to : List (List Nat)) (i j : Nat) (l : List Nat) (nb : Nd) (hi : to[i]? = some l) (hj : B[j]? = some nb) (hs : l.length ≤ 1000000) : FSpec PP 57 [.v (.ref (vse A B to)), di ↑i, di ↑j] σ0 (di (intoT B to i j)) σ0 := by
  have hi2 := idx_ll hi
  have hT : intoT B to i j = intoM l j nb.fin := by simp [intoT, gt, ge, hi, hj]
  rw [hT]
  refine spec_at cInto Try.func57 rfl (by kernel_rfl) (by first | decide | simp) _ (by dsimp only [Try.f57, List.length, Nat.reduceAdd, Nat.reduceSub, List.replicate, List.cons_append, List.nil_append]) ?_
  refine at_seq [0] [1] rfl ?_
  refine at_region rfl ?_
  refine at_op (some 3) rfl rfl rfl rfl (op_boxI rfl rfl) (by dsimp only [putD, List.set]) ?_
  refine at_op (some 5) rfl rfl rfl rfl (op_boxI rfl rfl) (by dsimp only [putD, List.set]) ?_
  refine at_mc 6 rfl rfl rfl (.inr rfl) (by dsimp only [constD]) (by dsimp only [List.set]) ?_
  refine at_end rfl ?_
  refine at_seq [1, 0] [1, 1] rfl ?_
  refine at_region rfl ?_
  first | (refine at_op (some 8) rfl rfl rfl rfl (op_loadR1 rfl fone_Ptree_search rfl) (by dsimp only [putD, List.set]) ?_) | (refine at_op (some 8) rfl rfl rfl rfl (op_loadP1 rfl fone_Ptree_search rfl rfl) (by dsimp only [putD, List.set]) ?_)
  first | (refine at_op (some 9) rfl rfl rfl rfl (op_nilCheck_ptr rfl) (by dsimp only [putD, List.set]) ?_) | (refine at_op (some 9) rfl rfl rfl rfl (op_nilCheck_ref rfl) (by dsimp only [putD, List.set]) ?_)
  first | (refine at_op (some 10) rfl rfl rfl rfl (op_fieldP rfl ffld2_tree_search (by decide)) (by dsimp only [putD, List.set]) ?_) | (refine at_op (some 10) rfl rfl rfl rfl (op_fieldR rfl ffld2_tree_search (by decide) (by decide) rfl) (by dsimp only [putD, List.set]) ?_)
  first | (refine at_op (some 11) rfl rfl rfl rfl (op_loadR1 rfl fone__5b5d5b5d_int rfl) (by dsimp only [putD, List.set]) ?_) | (refine at_op (some 11) rfl rfl rfl rfl (op_loadP1 rfl fone__5b5d5b5d_int rfl rfl) (by dsimp only [putD, List.set]) ?_)
  refine at_mv 1 12 rfl rfl rfl (.inl rfl) rfl (by dsimp only [List.set]) ?_
  first | (refine at_op (some 13) rfl rfl rfl rfl (op_idxL rfl fsl__5b5d5b5d_int (by first | decide | omega) (by first | assumption | exact idx_some (by assumption) | rfl) (by first | rfl | (simp [V.size]; done))) (by dsimp only [putD, List.set]) ?_) | (refine at_op (some 13) rfl rfl rfl rfl (opOK_un (op_idxL rfl fsl__5b5d5b5d_int (by first | decide | omega) (by first | assumption | exact idx_some (by assumption) | rfl) (by first | rfl | (simp [V.size]; done)))) (by dsimp only [putD, List.set]) ?_) | (refine at_op (some 13) rfl rfl rfl rfl (op_idxA rfl fsl__5b5d5b5d_int (by first | decide | omega) (by first | decide | omega)) (by dsimp only [putD, List.set]) ?_)
  first | (refine at_op (some 14) rfl rfl rfl rfl (op_loadR1 rfl fone_Sint rfl) (by dsimp only [putD, List.set]) ?_) | (refine at_op (some 14) rfl rfl rfl rfl (op_loadP1 rfl fone_Sint rfl rfl) (by dsimp only [putD, List.set]) ?_)
  refine at_op (some 15) rfl rfl rfl rfl (op_makeFunc0 rfl rfl rfl) (by dsimp only [putD, List.set]) ?_
  refine at_op (some 16) rfl rfl rfl rfl (op_call0 rfl rfl rfl rfl (indexFunc_spec 58 [] [.ref (vi ↑j), .ref (.ref (vse A B to))] (il l) (inP ↑j ↑nb.fin) (fun x _ => into1_spec A B to j nb hj x) (by simpa using hs))) (by dsimp only [putD, List.set]) ?_
  refine at_mv 16 7 rfl rfl rfl (.inr rfl) rfl (by dsimp only [List.set]) ?_
  refine at_end rfl ?_
  refine at_seq [1, 1, 0] [1, 1, 1] rfl ?_
  refine at_seq [1, 1, 0, 0] [1, 1, 0, 1] rfl ?_
  refine at_region rfl ?_
  refine at_mv 7 17 rfl rfl rfl (.inl rfl) rfl (by dsimp only [List.set]) ?_
  refine at_op (some 18) rfl rfl rfl rfl (op_binI rfl rfl) (by dsimp only [putD, List.set]) ?_
  refine at_end rfl ?_
  refine at_cond [1, 1, 0, 1, 0] [1, 1, 0, 1, 1] rfl rfl (fun hc1 => ?_) (fun hc1 => ?_)
  · skip
    refine at_seq [1, 1, 0, 1, 0, 0] [1, 1, 0, 1, 0, 1] rfl ?_
    refine at_region rfl ?_
    refine at_mc 6 rfl rfl rfl (.inr rfl) (by dsimp only [constD]) (by dsimp only [List.set]) ?_
    refine at_end rfl ?_
    refine at_ret rfl (ret_one (t := 6) rfl rfl ?_ rfl)
    unfold intoM
    first | (have hlt : idxP (inP ↑j ↑nb.fin) (il l) 0 < 0 := (by simpa using hc1); rw [if_pos hlt]; done) | (rw [if_neg (by omega), List.getD_eq_getElem?_getD, hy]; rfl)
  · skip
    have hge : 0 ≤ idxP (inP ↑j ↑nb.fin) (il l) 0 := by simp at hc1; omega
    obtain ⟨y, hy, _⟩ := idxP_get0 hge
    have hy2 := idx_vi hy
    refine at_skip rfl ?_
    refine at_seq [1, 1, 1, 0] [1, 1, 1, 1] rfl ?_
    refine at_region rfl ?_
    first | (refine at_op (some 19) rfl rfl rfl rfl (op_loadR1 rfl fone_Ptree_search rfl) (by dsimp only [putD, List.set]) ?_) | (refine at_op (some 19) rfl rfl rfl rfl (op_loadP1 rfl fone_Ptree_search rfl rfl) (by dsimp only [putD, List.set]) ?_)
    first | (refine at_op (some 20) rfl rfl rfl rfl (op_nilCheck_ptr rfl) (by dsimp only [putD, List.set]) ?_) | (refine at_op (some 20) rfl rfl rfl rfl (op_nilCheck_ref rfl) (by dsimp only [putD, List.set]) ?_)
    first | (refine at_op (some 21) rfl rfl rfl rfl (op_fieldP rfl ffld2_tree_search (by decide)) (by dsimp only [putD, List.set]) ?_) | (refine at_op (some 21) rfl rfl rfl rfl (op_fieldR rfl ffld2_tree_search (by decide) (by decide) rfl) (by dsimp only [putD, List.set]) ?_)
    first | (refine at_op (some 22) rfl rfl rfl rfl (op_loadR1 rfl fone__5b5d5b5d_int rfl) (by dsimp only [putD, List.set]) ?_) | (refine at_op (some 22) rfl rfl rfl rfl (op_loadP1 rfl fone__5b5d5b5d_int rfl rfl) (by dsimp only [putD, List.set]) ?_)
    refine at_mv 1 23 rfl rfl rfl (.inl rfl) rfl (by dsimp only [List.set]) ?_
    first | (refine at_op (some 24) rfl rfl rfl rfl (op_idxL rfl fsl__5b5d5b5d_int (by first | decide | omega) (by first | assumption | exact idx_some (by assumption) | rfl) (by first | rfl | (simp [V.size]; done))) (by dsimp only [putD, List.set]) ?_) | (refine at_op (some 24) rfl rfl rfl rfl (opOK_un (op_idxL rfl fsl__5b5d5b5d_int (by first | decide | omega) (by first | assumption | exact idx_some (by assumption) | rfl) (by first | rfl | (simp [V.size]; done)))) (by dsimp only [putD, List.set]) ?_) | (refine at_op (some 24) rfl rfl rfl rfl (op_idxA rfl fsl__5b5d5b5d_int (by first | decide | omega) (by first | decide | omega)) (by dsimp only [putD, List.set]) ?_)
    first | (refine at_op (some 25) rfl rfl rfl rfl (op_loadR1 rfl fone_Sint rfl) (by dsimp only [putD, List.set]) ?_) | (refine at_op (some 25) rfl rfl rfl rfl (op_loadP1 rfl fone_Sint rfl rfl) (by dsimp only [putD, List.set]) ?_)
    refine at_mv 7 26 rfl rfl rfl (.inl rfl) rfl (by dsimp only [List.set]) ?_
    refine at_op (some 27) rfl rfl rfl rfl (op_idxL rfl fsl_Sint hge hy2 rfl) (by dsimp only [putD, List.set]) ?_
    first | (refine at_op (some 28) rfl rfl rfl rfl (op_loadR1 rfl fone_int rfl) (by dsimp only [putD, List.set]) ?_) | (refine at_op (some 28) rfl rfl rfl rfl (op_loadP1 rfl fone_int rfl rfl) (by dsimp only [putD, List.set]) ?_)
    refine at_mv 28 6 rfl rfl rfl (.inr rfl) rfl (by dsimp only [List.set]) ?_
    refine at_end rfl ?_
    refine at_ret rfl (ret_one (t := 6) rfl rfl ?_ rfl)
    unfold intoM
    first | (have hlt : idxP (inP ↑j ↑nb.fin) (il l) 0 < 0 := (by simpa using hc1); rw [if_pos hlt]; done) | (rw [if_neg (by omega), List.getD_eq_getElem?_getD, hy]; rfl)

noncomputable def cPlace1 : Code := Try.f56.body.getD .skip
set_option maxRecDepth 20000 in
theorem place1_spec (A B : List Nd) (to : List (List Nat)) (kid : Nat) (l : List Nat) (hk : to[kid]? = some l) (hs : l.length ≤ 1000000) (r : Nat) (nb : Nd) (hr : B[r]? = some nb) : FSpec PP 56 [di ↑r, .v (.ref (.ref (vse A B to))), .v (.ref (vi ↑kid))] σ0 (db (fP (intoT B to) kid ↑r)) σ0 := by
  refine spec_at cPlace1 Try.func56 rfl (by kernel_rfl) (by first | decide | simp) _ (by dsimp only [Try.f56, List.length, Nat.reduceAdd, Nat.reduceSub, List.replicate, List.cons_append, List.nil_append]) ?_
  refine at_seq [0] [1] rfl ?_
  refine at_region rfl ?_
  refine at_mc 4 rfl rfl rfl (.inr rfl) (by dsimp only [constD]) (by dsimp only [List.set]) ?_
  refine at_end rfl ?_
  refine at_seq [1, 0] [1, 1] rfl ?_
  refine at_region rfl ?_
  first | (refine at_op (some 5) rfl rfl rfl rfl (op_loadR1 rfl fone_Ptree_search rfl) (by dsimp only [putD, List.set]) ?_) | (refine at_op (some 5) rfl rfl rfl rfl (op_loadP1 rfl fone_Ptree_search rfl rfl) (by dsimp only [putD, List.set]) ?_)
  first | (refine at_op (some 6) rfl rfl rfl rfl (op_loadR1 rfl fone_int rfl) (by dsimp only [putD, List.set]) ?_) | (refine at_op (some 6) rfl rfl rfl rfl (op_loadP1 rfl fone_int rfl rfl) (by dsimp only [putD, List.set]) ?_)
  refine at_mv 0 7 rfl rfl rfl (.inl rfl) rfl (by dsimp only [List.set]) ?_
  refine at_op (some 8) rfl rfl rfl rfl (op_call0 rfl rfl rfl rfl (into_spec A B to kid r l nb hk hr hs)) (by dsimp only [putD, List.set]) ?_
  refine at_op (some 9) rfl rfl rfl rfl (op_binI rfl rfl) (by dsimp only [putD, List.set]) ?_
  refine at_mv 9 4 rfl rfl rfl (.inr rfl) rfl (by dsimp only [List.set]) ?_
  refine at_end rfl ?_
  refine at_ret rfl (ret_one (t := 4) rfl rfl ?_ rfl)
  simp [fP]

noncomputable def cPlace : Code := Try.f51.body.getD .skip
set_option maxRecDepth 20000 in
theorem place_loop (A B : List Nd) (to : List (List Nat)) (hA : ∀ l ∈ to, l.length ≤ 1000000) (ks : List Nat) (hks : ∀ k ∈ ks, k < to.length) (hkl : ks.length ≤ 1000000) (T : Option (List Int)) (m : Nat) : ∀ (ix : Nat) (rest : List Nat) (acc : List Int), ks.length - ix = m → acc.length = ix → (∀ r ∈ rest, r < B.length) → rest.length ≤ 1000000 → T = (plM (intoT B to) (ks.drop ix) rest).map (acc ++ ·) → Run PP (fun env σ1 => ResOK PP Try.f51 env σ1 (.tup [dl ((T).getD []), db (T).isSome]) σ0) [.lp (sub cPlace [1, 1, 1, 0, 1, 0, 0]), .blk 0, .code (sub cPlace [1, 1, 1, 1])] (.undef :: .undef :: .undef :: (.v (.ref (.ref (vse A B to)))) :: .undef :: .undef :: .undef :: .undef :: (.acc 1 (acc.map vi)) :: (dl (il rest)) :: .undef :: .undef :: .undef :: .undef :: .undef :: .undef :: .undef :: .undef :: .undef :: .undef :: .undef :: .undef :: .undef :: .undef :: .undef :: .undef :: .undef :: .undef :: (dl (il ks)) :: (di ↑ks.length) :: (di ↑ix) :: .undef :: .undef :: .undef :: .undef :: .undef :: .undef :: .undef :: .undef :: .undef :: .undef :: .undef :: .undef :: .undef :: .undef :: .undef :: .undef :: .undef :: .undef :: .undef :: .undef :: .undef :: .undef :: .undef :: .undef :: []) ⟨[], [(1, 1, acc.map vi)]⟩ := by
  induction m using Nat.strongRecOn with
  | _ m ih =>
    intro ix rest acc hm ha hr hrl hT
    refine run_lp ?_
    refine at_seq [1, 1, 1, 0, 1, 0, 0, 0] [1, 1, 1, 0, 1, 0, 0, 1] rfl ?_
    refine at_region rfl ?_
    refine at_op (some 31) rfl rfl rfl rfl (op_binI rfl rfl) (by dsimp only [putD, List.set]) ?_
    refine at_end rfl ?_
    refine at_seq [1, 1, 1, 0, 1, 0, 0, 1, 0] [1, 1, 1, 0, 1, 0, 0, 1, 1] rfl ?_
    refine at_cond [1, 1, 1, 0, 1, 0, 0, 1, 0, 0] [1, 1, 1, 0, 1, 0, 0, 1, 0, 1] rfl rfl (fun hc1 => ?_) (fun hc1 => ?_)
    · skip
      have hlt : ix < ks.length := by simpa using hc1
      obtain ⟨kid, hk⟩ := get_ex hlt
      have hk2 := idx_il hk
      have hd : ks.drop ix = kid :: ks.drop (ix + 1) := by rw [List.drop_eq_getElem_cons hlt]; congr 1; exact (List.getElem?_eq_some_iff.1 hk).2
      rw [hd, plM_idx0] at hT
      obtain ⟨l, hl⟩ := get_ex (hks kid (List.mem_of_getElem? hk))
      have hll := hA l (List.mem_of_getElem? hl)
      refine at_skip rfl ?_
      refine at_seq [1, 1, 1, 0, 1, 0, 0, 1, 1, 0] [1, 1, 1, 0, 1, 0, 0, 1, 1, 1] rfl ?_
      refine at_block [1, 1, 1, 0, 1, 0, 0, 1, 1, 0, 0] 1 rfl ?_
      refine at_seq [1, 1, 1, 0, 1, 0, 0, 1, 1, 0, 0, 0] [1, 1, 1, 0, 1, 0, 0, 1, 1, 0, 0, 1] rfl ?_
      refine at_region rfl ?_
      first | (refine at_op (some 32) rfl rfl rfl rfl (op_idxL rfl fsl_Sint (by first | decide | omega) (by first | assumption | exact idx_some (by assumption) | rfl) (by first | rfl | (simp [V.size]; done))) (by dsimp only [putD, List.set]) ?_) | (refine at_op (some 32) rfl rfl rfl rfl (opOK_un (op_idxL rfl fsl_Sint (by first | decide | omega) (by first | assumption | exact idx_some (by assumption) | rfl) (by first | rfl | (simp [V.size]; done)))) (by dsimp only [putD, List.set]) ?_) | (refine at_op (some 32) rfl rfl rfl rfl (op_idxA rfl fsl_Sint (by first | decide | omega) (by first | decide | omega)) (by dsimp only [putD, List.set]) ?_)
      first | (refine at_op (some 33) rfl rfl rfl rfl (op_loadR1 rfl fone_int rfl) (by dsimp only [putD, List.set]) ?_) | (refine at_op (some 33) rfl rfl rfl rfl (op_loadP1 rfl fone_int rfl rfl) (by dsimp only [putD, List.set]) ?_)
      refine at_new 33 11 rfl rfl rfl rfl fzero_int rfl rfl rfl rfl (by decide) rfl rfl fone_int (by first | rfl | (simp [V.size]; done)) rfl (by simp only [List.length_cons]; omega) (by dsimp only [List.set]) ?_
      refine at_end rfl ?_
      refine at_seq [1, 1, 1, 0, 1, 0, 0, 1, 1, 0, 0, 1, 0] [1, 1, 1, 0, 1, 0, 0, 1, 1, 0, 0, 1, 1] rfl ?_
      refine at_region rfl ?_
      refine at_mv 9 34 rfl rfl rfl (.inl rfl) rfl (by dsimp only [List.set]) ?_
      refine at_op (some 35) rfl rfl rfl rfl (op_makeFunc0 rfl rfl rfl) (by dsimp only [putD, List.set]) ?_
      refine at_op (some 36) rfl rfl rfl rfl (op_call0 rfl rfl rfl rfl (indexFunc_spec 56 [] [.ref (.ref (vse A B to)), .ref (vi ↑kid)] (il rest) (fP (intoT B to) kid) (fun x hx => by obtain ⟨r, hrm, rfl⟩ := List.mem_map.1 hx; obtain ⟨nb, hnb⟩ := get_ex (hr r hrm); exact place1_spec A B to kid l hl hll r nb hnb) (by simpa using hrl))) (by dsimp only [putD, List.set]) ?_
      refine at_mv 36 12 rfl rfl rfl (.inr rfl) rfl (by dsimp only [List.set]) ?_
      refine at_end rfl ?_
      refine at_seq [1, 1, 1, 0, 1, 0, 0, 1, 1, 0, 0, 1, 1, 0] [1, 1, 1, 0, 1, 0, 0, 1, 1, 0, 0, 1, 1, 1] rfl ?_
      refine at_seq [1, 1, 1, 0, 1, 0, 0, 1, 1, 0, 0, 1, 1, 0, 0] [1, 1, 1, 0, 1, 0, 0, 1, 1, 0, 0, 1, 1, 0, 1] rfl ?_
      refine at_region rfl ?_
      refine at_mv 12 37 rfl rfl rfl (.inl rfl) rfl (by dsimp only [List.set]) ?_
      refine at_op (some 38) rfl rfl rfl rfl (op_binI rfl rfl) (by dsimp only [putD, List.set]) ?_
      refine at_end rfl ?_
      refine at_cond [1, 1, 1, 0, 1, 0, 0, 1, 1, 0, 0, 1, 1, 0, 1, 0] [1, 1, 1, 0, 1, 0, 0, 1, 1, 0, 0, 1, 1, 0, 1, 1] rfl rfl (fun hc2 => ?_) (fun hc2 => ?_)
      · skip
        have hneg : idxP (fP (intoT B to) kid) (il rest) 0 < 0 := by simpa using hc2
        rw [if_pos hneg] at hT
        refine at_seq [1, 1, 1, 0, 1, 0, 0, 1, 1, 0, 0, 1, 1, 0, 1, 0, 0] [1, 1, 1, 0, 1, 0, 0, 1, 1, 0, 0, 1, 1, 0, 1, 0, 1] rfl ?_
        refine at_region rfl ?_
        refine at_mc 6 rfl rfl rfl (.inr rfl) (by dsimp only [constD]) (by dsimp only [List.set]) ?_
        refine at_mc 7 rfl rfl rfl (.inr rfl) (by dsimp only [constD]) (by dsimp only [List.set]) ?_
        refine at_end rfl ?_
        refine at_ret rfl (ret_two (t := 6) (t2 := 7) rfl rfl rfl ?_ ?_ rfl rfl)
        all_goals (first | (rw [hT2]; rfl) | (rw [hT]; rfl))
      · skip
        have hge : 0 ≤ idxP (fP (intoT B to) kid) (il rest) 0 := by simp at hc2; omega
        rw [if_neg (by omega)] at hT
        obtain ⟨y, hy, _⟩ := idxP_get0 hge
        obtain ⟨kx, hkx⟩ := Int.eq_ofNat_of_zero_le hge
        rw [hkx] at hT hy ⊢
        have hkl2 : kx < rest.length := by have := idxP_len0 (p := fP (intoT B to) kid) (il rest); rw [hkx] at this; simpa using this
        obtain ⟨r, hrx⟩ := get_ex hkl2
        have hr2 := idx_il hrx
        obtain ⟨nb, hnb⟩ := get_ex (hr r (List.mem_of_getElem? hrx))
        have hgd : rest.getD kx 0 = r := by rw [List.getD_eq_getElem?_getD, hrx]; rfl
        rw [Int.toNat_natCast, hgd] at hT
        refine at_skip rfl ?_
        refine at_seq [1, 1, 1, 0, 1, 0, 0, 1, 1, 0, 0, 1, 1, 1, 0] [1, 1, 1, 0, 1, 0, 0, 1, 1, 0, 0, 1, 1, 1, 1] rfl ?_
        refine at_draw mixed rfl [⟨[], [(1, 1, acc.map vi)]⟩, ⟨[], [(1, 1, acc.map vi ++ [vi ((intoT B to) kid r)])]⟩] rfl ?_
        refine da_mv 8 39 rfl rfl rfl (.inl rfl) rfl (by dsimp only [List.set]) ?_
        first | (refine da_quiet (some 40) rfl rfl rfl rfl (fun s hs => op_loadR1 rfl fone_Ptree_search rfl) (by dsimp only [putD, List.set]) ?_) | (refine da_quiet (some 40) rfl rfl rfl rfl (by intro s hs; simp only [List.mem_cons, List.not_mem_nil, or_false] at hs; rcases hs with rfl | rfl <;> exact op_loadP1 rfl fone_Ptree_search rfl rfl) (by dsimp only [putD, List.set]) ?_)
        first | (refine da_quiet (some 41) rfl rfl rfl rfl (fun s hs => op_loadR1 rfl fone_int rfl) (by dsimp only [putD, List.set]) ?_) | (refine da_quiet (some 41) rfl rfl rfl rfl (by intro s hs; simp only [List.mem_cons, List.not_mem_nil, or_false] at hs; rcases hs with rfl | rfl <;> exact op_loadP1 rfl fone_int rfl rfl) (by dsimp only [putD, List.set]) ?_)
        refine da_mv 9 42 rfl rfl rfl (.inl rfl) rfl (by dsimp only [List.set]) ?_
        refine da_mv 12 43 rfl rfl rfl (.inl rfl) rfl (by dsimp only [List.set]) ?_
        first | (refine da_quiet (some 44) rfl rfl rfl rfl (fun s hs => op_idxL rfl fsl_Sint (by first | decide | omega) (by first | assumption | exact idx_some (by assumption) | rfl) (by first | rfl | (simp [V.size]; done))) (by dsimp only [putD, List.set]) ?_) | (refine da_quiet (some 44) rfl rfl rfl rfl (fun s hs => opOK_un (op_idxL rfl fsl_Sint (by first | decide | omega) (by first | assumption | exact idx_some (by assumption) | rfl) (by first | rfl | (simp [V.size]; done)))) (by dsimp only [putD, List.set]) ?_) | (refine da_quiet (some 44) rfl rfl rfl rfl (fun s hs => op_idxA rfl fsl_Sint (by first | decide | omega) (by first | decide | omega)) (by dsimp only [putD, List.set]) ?_)
        first | (refine da_quiet (some 45) rfl rfl rfl rfl (fun s hs => op_loadR1 rfl fone_int rfl) (by dsimp only [putD, List.set]) ?_) | (refine da_quiet (some 45) rfl rfl rfl rfl (by intro s hs; simp only [List.mem_cons, List.not_mem_nil, or_false] at hs; rcases hs with rfl | rfl <;> exact op_loadP1 rfl fone_int rfl rfl) (by dsimp only [putD, List.set]) ?_)
        refine da_quiet (some 46) rfl rfl rfl rfl (fun s hs => op_call0 rfl rfl rfl rfl (into_spec A B to kid r l nb hl hnb hll)) (by dsimp only [putD, List.set]) ?_
        refine da_quiet (some 47) rfl rfl rfl rfl (fun s hs => op_buildSlice rfl (by rfl) (by rfl) fsl_Sint rfl rfl (by simp [V.size]) (by decide) (by decide) (by decide)) (by dsimp only [putD, List.set]) ?_
        refine da_eff (some 48) rfl rfl rfl rfl rfl rfl (op_append rfl fsl_Sint rfl (by simp) (by simp [V.size]) (by simp; omega) (by simp; omega)) (by dsimp only [putD, List.set]) ?_
        refine da_mv 48 8 rfl rfl rfl (.inr rfl) rfl (by dsimp only [List.set]) ?_
        refine da_end rfl ⟨by decide +kernel, _, rfl, ?_⟩
        refine at_region rfl ?_
        refine at_mv 9 49 rfl rfl rfl (.inl rfl) rfl (by dsimp only [List.set]) ?_
        refine at_mv 12 50 rfl rfl rfl (.inl rfl) rfl (by dsimp only [List.set]) ?_
        refine at_op (some 51) rfl rfl rfl rfl (op_binI rfl rfl) (by dsimp only [putD, List.set]) ?_
        rw [wrap_succ (by omega)]
        refine at_op (some 52) rfl rfl rfl rfl (op_sliceL rfl fsl_Sint (by simp [V.size]) (by decide) (some (_, _)) none rfl rfl (l' := kx + 1) (h' := rest.length) (by simp [sliceI]; omega)) (by dsimp only [putD, List.set]) ?_
        rw [show (((il rest).map vi).take rest.length).drop (kx + 1) = (il (rest.drop (kx + 1))).map vi from by rw [List.take_of_length_le (by simp)]; simp [List.map_drop]]
        refine at_mv 52 9 rfl rfl rfl (.inr rfl) rfl (by dsimp only [List.set]) ?_
        refine at_end rfl ?_
        refine run_blk ?_
        refine at_region rfl ?_
        refine at_op (some 53) rfl rfl rfl rfl (op_binI rfl rfl) (by dsimp only [putD, List.set]) ?_
        refine at_mv 53 30 rfl rfl rfl (.inl rfl) rfl (by dsimp only [List.set]) ?_
        refine at_end rfl ?_
        rw [wrap_succ (by omega)]
        simp only [mviT]
        exact run_wk (.drop (.drop (.drop (.keep (.drop (.drop (.drop (.drop (.keep (.keep (.drop (.drop (.drop (.drop (.drop (.drop (.drop (.drop (.drop (.drop (.drop (.drop (.drop (.drop (.drop (.drop (.drop (.drop (.keep (.keep (.keep (.drop (.drop (.drop (.drop (.drop (.drop (.drop (.drop (.drop (.drop (.drop (.drop (.drop (.drop (.drop (.drop (.drop (.drop (.drop (.drop (.drop (.drop (.drop (.drop .nil))))))))))))))))))))))))))))))))))))))))))))))))))))))) (ih _ (by omega) (ix + 1) (rest.drop (kx + 1)) (acc ++ [(intoT B to) kid r]) rfl (by simp [ha]) (fun r hr3 => hr r (List.mem_of_mem_drop hr3)) (by simp; omega) (by rw [hT]; cases plM (intoT B to) (ks.drop (ix + 1)) (rest.drop (kx + 1)) <;> simp))
    · skip
      have hge : ks.length ≤ ix := by simpa using hc1
      rw [List.drop_of_length_le hge] at hT
      have hT2 : T = some acc := by rw [hT]; simp [plM]
      refine at_exit rfl rfl ?_
      refine at_seq [1, 1, 1, 1, 0] [1, 1, 1, 1, 1] rfl ?_
      refine at_region rfl ?_
      refine at_mv 8 54 rfl rfl rfl (.inl rfl) rfl (by dsimp only [List.set]) ?_
      refine at_mv 54 6 rfl rfl rfl (.inr rfl) rfl (by dsimp only [List.set]) ?_
      refine at_mc 7 rfl rfl rfl (.inr rfl) (by dsimp only [constD]) (by dsimp only [List.set]) ?_
      refine at_end rfl ?_
      refine at_ret rfl (ret_two (t := 6) (t2 := 7) rfl rfl rfl ?_ ?_ rfl rfl)
      all_goals (first | (rw [hT2]; rfl) | (rw [hT]; rfl))

set_option maxRecDepth 20000 in
theorem place_spec (A B : List Nd) (to : List (List Nat)) (hA : ∀ l ∈ to, l.length ≤ 1000000) (i j : Nat) (na nb : Nd) (hi : A[i]? = some na) (hj : B[j]? = some nb) (h1 : ∀ k ∈ na.kids, k < to.length) (h2 : na.kids.length ≤ 1000000) (h3 : ∀ r ∈ nb.kids, r < B.length) (h4 : nb.kids.length ≤ 1000000) : FSpec PP 51 [.v (.ref (vse A B to)), di ↑i, di ↑j] σ0 (.tup [dl ((plM (intoT B to) na.kids nb.kids).getD []), db (plM (intoT B to) na.kids nb.kids).isSome]) σ0 := by
  have hi2 := idx_node hi
  have hj2 := idx_node hj
  refine spec_at cPlace Try.func51 rfl (by kernel_rfl) (by first | decide | simp) _ (by dsimp only [Try.f51, List.length, Nat.reduceAdd, Nat.reduceSub, List.replicate, List.cons_append, List.nil_append]) ?_
  refine at_seq [0] [1] rfl ?_
  refine at_region rfl ?_
  refine at_op (some 3) rfl rfl rfl rfl (op_boxI rfl rfl) (by dsimp only [putD, List.set]) ?_
  refine at_mc 6 rfl rfl rfl (.inr rfl) (by dsimp only [constD]) (by dsimp only [List.set]) ?_
  refine at_mc 7 rfl rfl rfl (.inr rfl) (by dsimp only [constD]) (by dsimp only [List.set]) ?_
  refine at_end rfl ?_
  refine at_seq [1, 0] [1, 1] rfl ?_
  refine at_region rfl ?_
  refine at_opS (some 8) rfl rfl rfl rfl (op_nilOwn (.inl rfl) 1 1 (by simp) (by decide)) (by dsimp only [putD, List.set]) (by dsimp only [List.set, List.append, List.cons_append, List.nil_append, cellsD, List.map, repl, List.length, Nat.reduceAdd, if_true, ↓reduceIte]; first | done | rfl) ?_
  refine at_end rfl ?_
  refine at_seq [1, 1, 0] [1, 1, 1] rfl ?_
  refine at_region rfl ?_
  first | (refine at_op (some 13) rfl rfl rfl rfl (op_loadR1 rfl fone_Ptree_search rfl) (by dsimp only [putD, List.set]) ?_) | (refine at_op (some 13) rfl rfl rfl rfl (op_loadP1 rfl fone_Ptree_search rfl rfl) (by dsimp only [putD, List.set]) ?_)
  first | (refine at_op (some 14) rfl rfl rfl rfl (op_nilCheck_ptr rfl) (by dsimp only [putD, List.set]) ?_) | (refine at_op (some 14) rfl rfl rfl rfl (op_nilCheck_ref rfl) (by dsimp only [putD, List.set]) ?_)
  first | (refine at_op (some 15) rfl rfl rfl rfl (op_fieldP rfl ffld1_tree_search (by decide)) (by dsimp only [putD, List.set]) ?_) | (refine at_op (some 15) rfl rfl rfl rfl (op_fieldR rfl ffld1_tree_search (by decide) (by decide) rfl) (by dsimp only [putD, List.set]) ?_)
  first | (refine at_op (some 16) rfl rfl rfl rfl (op_loadR1 rfl fone_Stree_node rfl) (by dsimp only [putD, List.set]) ?_) | (refine at_op (some 16) rfl rfl rfl rfl (op_loadP1 rfl fone_Stree_node rfl rfl) (by dsimp only [putD, List.set]) ?_)
  refine at_mv 2 17 rfl rfl rfl (.inl rfl) rfl (by dsimp only [List.set]) ?_
  first | (refine at_op (some 18) rfl rfl rfl rfl (op_idxL rfl fsl_Stree_node (by first | decide | omega) (by first | assumption | exact idx_some (by assumption) | rfl) (by first | rfl | (simp [V.size]; done))) (by dsimp only [putD, List.set]) ?_) | (refine at_op (some 18) rfl rfl rfl rfl (opOK_un (op_idxL rfl fsl_Stree_node (by first | decide | omega) (by first | assumption | exact idx_some (by assumption) | rfl) (by first | rfl | (simp [V.size]; done)))) (by dsimp only [putD, List.set]) ?_) | (refine at_op (some 18) rfl rfl rfl rfl (op_idxA rfl fsl_Stree_node (by first | decide | omega) (by first | decide | omega)) (by dsimp only [putD, List.set]) ?_)
  first | (refine at_op (some 19) rfl rfl rfl rfl (op_fieldP rfl ffld2_tree_node (by decide)) (by dsimp only [putD, List.set]) ?_) | (refine at_op (some 19) rfl rfl rfl rfl (op_fieldR rfl ffld2_tree_node (by decide) (by decide) rfl) (by dsimp only [putD, List.set]) ?_)
  first | (refine at_op (some 20) rfl rfl rfl rfl (op_loadR1 rfl fone_Sint rfl) (by dsimp only [putD, List.set]) ?_) | (refine at_op (some 20) rfl rfl rfl rfl (op_loadP1 rfl fone_Sint rfl rfl) (by dsimp only [putD, List.set]) ?_)
  refine at_mv 20 9 rfl rfl rfl (.inr rfl) rfl (by dsimp only [List.set]) ?_
  refine at_end rfl ?_
  refine at_seq [1, 1, 1, 0] [1, 1, 1, 1] rfl ?_
  refine at_seq [1, 1, 1, 0, 0] [1, 1, 1, 0, 1] rfl ?_
  refine at_region rfl ?_
  first | (refine at_op (some 21) rfl rfl rfl rfl (op_loadR1 rfl fone_Ptree_search rfl) (by dsimp only [putD, List.set]) ?_) | (refine at_op (some 21) rfl rfl rfl rfl (op_loadP1 rfl fone_Ptree_search rfl rfl) (by dsimp only [putD, List.set]) ?_)
  first | (refine at_op (some 22) rfl rfl rfl rfl (op_nilCheck_ptr rfl) (by dsimp only [putD, List.set]) ?_) | (refine at_op (some 22) rfl rfl rfl rfl (op_nilCheck_ref rfl) (by dsimp only [putD, List.set]) ?_)
  first | (refine at_op (some 23) rfl rfl rfl rfl (op_fieldP rfl ffld0_tree_search (by decide)) (by dsimp only [putD, List.set]) ?_) | (refine at_op (some 23) rfl rfl rfl rfl (op_fieldR rfl ffld0_tree_search (by decide) (by decide) rfl) (by dsimp only [putD, List.set]) ?_)
  first | (refine at_op (some 24) rfl rfl rfl rfl (op_loadR1 rfl fone_Stree_node rfl) (by dsimp only [putD, List.set]) ?_) | (refine at_op (some 24) rfl rfl rfl rfl (op_loadP1 rfl fone_Stree_node rfl rfl) (by dsimp only [putD, List.set]) ?_)
  refine at_mv 1 25 rfl rfl rfl (.inl rfl) rfl (by dsimp only [List.set]) ?_
  first | (refine at_op (some 26) rfl rfl rfl rfl (op_idxL rfl fsl_Stree_node (by first | decide | omega) (by first | assumption | exact idx_some (by assumption) | rfl) (by first | rfl | (simp [V.size]; done))) (by dsimp only [putD, List.set]) ?_) | (refine at_op (some 26) rfl rfl rfl rfl (opOK_un (op_idxL rfl fsl_Stree_node (by first | decide | omega) (by first | assumption | exact idx_some (by assumption) | rfl) (by first | rfl | (simp [V.size]; done)))) (by dsimp only [putD, List.set]) ?_) | (refine at_op (some 26) rfl rfl rfl rfl (op_idxA rfl fsl_Stree_node (by first | decide | omega) (by first | decide | omega)) (by dsimp only [putD, List.set]) ?_)
  first | (refine at_op (some 27) rfl rfl rfl rfl (op_fieldP rfl ffld2_tree_node (by decide)) (by dsimp only [putD, List.set]) ?_) | (refine at_op (some 27) rfl rfl rfl rfl (op_fieldR rfl ffld2_tree_node (by decide) (by decide) rfl) (by dsimp only [putD, List.set]) ?_)
  first | (refine at_op (some 28) rfl rfl rfl rfl (op_loadR1 rfl fone_Sint rfl) (by dsimp only [putD, List.set]) ?_) | (refine at_op (some 28) rfl rfl rfl rfl (op_loadP1 rfl fone_Sint rfl rfl) (by dsimp only [putD, List.set]) ?_)
  first | (refine at_op (some 29) rfl rfl rfl rfl (op_lenL rfl fu_Sint) (by dsimp only [putD, List.set]) ?_) | (refine at_op (some 29) rfl rfl rfl rfl (opOK_un (op_lenL rfl fu_Sint)) (by dsimp only [putD, List.set]) ?_) | (refine at_op (some 29) rfl rfl rfl rfl (op_lenA rfl fu_Sint) (by dsimp only [putD, List.set]) ?_)
  refine at_mc 30 rfl rfl rfl (.inl rfl) (by dsimp only [constD]) (by dsimp only [List.set]) ?_
  refine at_end rfl ?_
  refine at_block [1, 1, 1, 0, 1, 0] 0 rfl ?_
  refine at_loop [1, 1, 1, 0, 1, 0, 0] rfl ?_
  try simp only [List.length_map, List.length_nil, Int.toNat_natCast]
  exact run_wk (.drop (.drop (.drop (.keep (.drop (.drop (.drop (.drop (.keep (.keep (.drop (.drop (.drop (.drop (.drop (.drop (.drop (.drop (.drop (.drop (.drop (.drop (.drop (.drop (.drop (.drop (.drop (.drop (.keep (.keep (.keep (.drop (.drop (.drop (.drop (.drop (.drop (.drop (.drop (.drop (.drop (.drop (.drop (.drop (.drop (.drop (.drop (.drop (.drop (.drop (.drop (.drop (.drop (.drop (.drop .nil))))))))))))))))))))))))))))))))))))))))))))))))))))))) (place_loop A B to hA na.kids h1 h2 _ _ 0 nb.kids [] rfl rfl h3 h4 (by simp))

end Go.Proofs.Ytaceggcohmmfhaa
