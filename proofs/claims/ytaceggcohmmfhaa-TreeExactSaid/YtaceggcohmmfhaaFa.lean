/-
  Closed facts on the types of this translation.
-/
import Derived.Test.YtaceggcohmmfhaaProg
import Derived.Test.YtaceggcohmmfhaaDb
import Derived.KernelRfl
import Derived.Test.YtaceggcohmmfhaaDc
import Derived.Laws.Bits64
namespace Go.Proofs.Ytaceggcohmmfhaa
open Go.Dv
noncomputable abbrev PP : Program := Try.prog
theorem mixed : PP.follows .mixedOrders = true := by kernel_rfl
theorem slInt : slTy PP 22 = some (3, 1, 8, some (.int .i64 0)) := by kernel_rfl
theorem uInts : PP.underlying 22 = some (.slice 3) := by kernel_rfl
theorem uInt : PP.underlying 3 = some (.int .i64) := by kernel_rfl
theorem uU64 : PP.underlying 46 = some (.int .u64) := by kernel_rfl
theorem oneInt : OneTy PP 3 := by unfold OneTy; kernel_rfl
theorem oneInts : OneTy PP 22 := by unfold OneTy; kernel_rfl
theorem oneU64 : OneTy PP 46 := by unfold OneTy; kernel_rfl
theorem bldDk : bldTy PP 48 = some ([.list [], .int .i64 0, .int .u64 0], [(0, 1), (1, 1), (2, 1)]) := by kernel_rfl
theorem fldDk0 : fldTy PP 48 0 = some (0, 1, false) := by kernel_rfl
theorem fldDk1 : fldTy PP 48 1 = some (1, 1, false) := by kernel_rfl
theorem fldDk2 : fldTy PP 48 2 = some (2, 1, false) := by kernel_rfl
end Go.Proofs.Ytaceggcohmmfhaa

namespace Go.Proofs.Ytaceggcohmmfhaa
open Go.Dv
end Go.Proofs.Ytaceggcohmmfhaa


namespace Go.Proofs.Ytaceggcohmmfhaa
open Go.Dv
theorem fone_int : OneTy PP 3 := by unfold OneTy; kernel_rfl
theorem fzero_int : zeroV PP 3 = some [.int .i64 0] := by kernel_rfl
theorem fu_Sint : PP.underlying 22 = some (.slice 3) := by kernel_rfl
theorem fsl_Sint : slTy PP 22 = some (3, 1, 8, some (.int .i64 0)) := by kernel_rfl
theorem fone_Sint : OneTy PP 22 := by unfold OneTy; kernel_rfl
theorem fu_Sapi_Tree : PP.underlying 23 = some (.slice 25) := by kernel_rfl
theorem fsl_Sapi_Tree : slTy PP 23 = some (25, 2, 32, some (.agg #[.int .i64 0, .slice none 0 0])) := by kernel_rfl
theorem fone_Sapi_Tree : OneTy PP 23 := by unfold OneTy; kernel_rfl
theorem fagg_api_Tree : AggTy PP 25 2 := by unfold AggTy; kernel_rfl
theorem fzero_api_Tree : zeroV PP 25 = some [.int .i64 0, .list []] := by kernel_rfl
theorem fbld_api_Tree : bldTy PP 25 = some ([.int .i64 0, .list []], [(0, 1), (1, 1)]) := by kernel_rfl
theorem fbldN_api_Tree : bldN PP 25 = some ([.int .i64 0, .nils], [(0, 1), (1, 1)]) := by kernel_rfl
theorem ffld0_api_Tree : fldTy PP 25 0 = some (0, 1, false) := by kernel_rfl
theorem ffld1_api_Tree : fldTy PP 25 1 = some (1, 1, false) := by kernel_rfl
theorem fsl__5b5d5b5d_int : slTy PP 44 = some (22, 1, 24, some (.slice none 0 0)) := by kernel_rfl
theorem fone__5b5d5b5d_int : OneTy PP 44 := by unfold OneTy; kernel_rfl
theorem fu_Stree_node : PP.underlying 50 = some (.slice 55) := by kernel_rfl
theorem fsl_Stree_node : slTy PP 50 = some (55, 3, 40, some (.agg #[.int .i64 0, .int .i64 0, .slice none 0 0])) := by kernel_rfl
theorem fone_Stree_node : OneTy PP 50 := by unfold OneTy; kernel_rfl
theorem fzero_Stree_node : zeroV PP 50 = some [.list []] := by kernel_rfl
theorem fagg_tree_node : AggTy PP 55 3 := by unfold AggTy; kernel_rfl
theorem fzero_tree_node : zeroV PP 55 = some [.int .i64 0, .int .i64 0, .list []] := by kernel_rfl
theorem fbldN_tree_node : bldN PP 55 = some ([.int .i64 0, .int .i64 0, .nils], [(0, 1), (1, 1), (2, 1)]) := by kernel_rfl
theorem ffld0_tree_node : fldTy PP 55 0 = some (0, 1, false) := by kernel_rfl
theorem ffld1_tree_node : fldTy PP 55 1 = some (1, 1, false) := by kernel_rfl
theorem ffld2_tree_node : fldTy PP 55 2 = some (2, 1, false) := by kernel_rfl
theorem fone_Ptree_search : OneTy PP 57 := by unfold OneTy; kernel_rfl
theorem fbld_tree_search : bldTy PP 59 = some ([.list [], .list [], .list []], [(0, 1), (1, 1), (2, 1)]) := by kernel_rfl
theorem ffld0_tree_search : fldTy PP 59 0 = some (0, 1, false) := by kernel_rfl
theorem ffld1_tree_search : fldTy PP 59 1 = some (1, 1, false) := by kernel_rfl
theorem ffld2_tree_search : fldTy PP 59 2 = some (2, 1, false) := by kernel_rfl
end Go.Proofs.Ytaceggcohmmfhaa


namespace Go.Proofs.Ytaceggcohmmfhaa
open Go.Dv

abbrev vi (n : Int) : V := .int .i64 n
abbrev di (n : Int) : D := .v (.int .i64 n)
abbrev vl (xs : List Int) : V := .list (xs.map vi)
abbrev dl (xs : List Int) : D := .v (.list (xs.map vi))
abbrev db (b : Bool) : D := .v (.bool b)
abbrev σ0 : St := ⟨[], []⟩
abbrev dfn (f : FuncId) : D := .v (.fn f [] [])

theorem idx_some {α : Type} {f : α → V} {a : List α} {i : Nat} {x : α} (h : a[i]? = some x) : (a.map f)[((i : Nat) : Int).toNat]? = some (f x) := by simp [h]
theorem get_ex {α : Type} {a : List α} {i : Nat} (h : i < a.length) : ∃ x, a[i]? = some x := ⟨_, List.getElem?_eq_getElem h⟩
theorem wrap_id {n : Int} (h0 : -9223372036854775808 ≤ n) (h1 : n ≤ 9223372036854775807) : IntKind.i64.wrap n = n := by rw [IntKind.wrap_i64]; omega
theorem wrap_succ {i : Nat} (h : i ≤ 1000000000) : IntKind.i64.wrap ((i : Int) + 1) = ((i + 1 : Nat) : Int) := by rw [wrap_id (by omega) (by omega)]; omega

/- THE PLAIN FUNCTIONS -/
def below : List Int → List Int → Bool
  | x :: a, y :: b => decide (x ≤ y) && below a b
  | _, _ => true
def isNum (x : Int) : Bool := decide (0 ≤ x) && decide (x ≤ 1048576)
def isEl (x : Int) : Bool := isNum x || x == 1099511627776
def valid (xs : List Int) : Bool := decide (xs.length ≤ 6) && xs.all isEl
def leq (a b : List Int) : Bool := valid a && valid b && a.length == b.length && below a b
/-- the first place where p holds; -1 -/
def idxP (p : Int → Bool) (xs : List Int) (i : Nat) : Int := match xs with
  | [] => -1
  | x :: xs => if p x then i else idxP p xs (i + 1)
theorem idxP_at {p : Int → Bool} {xs : List Int} {i : Nat} {x : Int} (h : xs[i]? = some x) : idxP p (xs.drop i) i = if p x then (i : Int) else idxP p (xs.drop (i + 1)) (i + 1) := by
  obtain ⟨h1, h2⟩ := List.getElem?_eq_some_iff.1 h
  rw [List.drop_eq_getElem_cons h1, h2]; rfl
theorem idxP_end {p : Int → Bool} {xs : List Int} {i : Nat} (h : xs.length ≤ i) : idxP p (xs.drop i) i = -1 := by rw [List.drop_of_length_le h]; rfl
theorem idxP_any {p : Int → Bool} : ∀ (xs : List Int) (i : Nat), decide (0 ≤ idxP p xs i) = xs.any p
  | [], i => by simp [idxP]
  | x :: xs, i => by
    simp only [idxP, List.any_cons]
    by_cases hx : p x = true
    · simp [hx]
    · simp only [hx]; simpa using idxP_any xs (i + 1)

def joinM (va rb : Bool) (f : Int → Int → Int) (a b : List Int) : List Int × Int :=
  if va && rb then (if a.length = b.length then (List.zipWith f a b, 0) else ([], 3)) else ([], 2)
def addF (x y : Int) : Int := if x = 1099511627776 ∨ y = 1099511627776 then 1099511627776 else IntKind.i64.wrap (x + y)
noncomputable def cIndexFunc : Code := Try.f40.body.getD .skip
set_option maxRecDepth 20000 in
theorem indexFunc_loop (fo : FuncId) (fs cs : List V) (xs : List Int) (p : Int → Bool) (hf : ∀ x ∈ xs, FSpec PP fo (fs.map .v ++ [di x] ++ cs.map .v) σ0 (db (p x)) σ0) (hs : xs.length ≤ 1000000) (m : Nat) : ∀ i : Nat, xs.length - i = m → idxP p xs 0 = idxP p (xs.drop i) i → Run PP (fun env σ1 => ResOK PP Try.f40 env σ1 (di (idxP p xs 0)) σ0) [.lp (sub cIndexFunc [1, 0, 1, 0, 0]), .blk 0, .code (sub cIndexFunc [1, 1])] ((dl xs) :: (.v (.fn fo fs cs)) :: .undef :: .undef :: (di 0) :: .undef :: (dl xs) :: (di ↑xs.length) :: (di ↑i) :: .undef :: .undef :: .undef :: .undef :: .undef :: .undef :: .undef :: .undef :: .undef :: .undef :: []) σ0 := by
  induction m using Nat.strongRecOn with
  | _ m ih =>
    intro i hm hb
    refine run_lp ?_
    refine at_seq [1, 0, 1, 0, 0, 0] [1, 0, 1, 0, 0, 1] rfl ?_
    refine at_region rfl ?_
    refine at_op (some 9) rfl rfl rfl rfl (op_binI rfl rfl) (by dsimp only [putD, List.set]) ?_
    refine at_end rfl ?_
    refine at_seq [1, 0, 1, 0, 0, 1, 0] [1, 0, 1, 0, 0, 1, 1] rfl ?_
    refine at_cond [1, 0, 1, 0, 0, 1, 0, 0] [1, 0, 1, 0, 0, 1, 0, 1] rfl rfl (fun hc1 => ?_) (fun hc1 => ?_)
    · skip
      have hlt : i < xs.length := by simpa using hc1
      obtain ⟨x, hx⟩ := get_ex hlt
      rw [idxP_at hx] at hb
      refine at_skip rfl ?_
      refine at_seq [1, 0, 1, 0, 0, 1, 1, 0] [1, 0, 1, 0, 0, 1, 1, 1] rfl ?_
      refine at_block [1, 0, 1, 0, 0, 1, 1, 0, 0] 1 rfl ?_
      refine at_seq [1, 0, 1, 0, 0, 1, 1, 0, 0, 0] [1, 0, 1, 0, 0, 1, 1, 0, 0, 1] rfl ?_
      refine at_region rfl ?_
      refine at_mv 8 10 rfl rfl rfl (.inl rfl) rfl (by dsimp only [List.set]) ?_
      refine at_mv 10 5 rfl rfl rfl (.inr rfl) rfl (by dsimp only [List.set]) ?_
      refine at_end rfl ?_
      refine at_seq [1, 0, 1, 0, 0, 1, 1, 0, 0, 1, 0] [1, 0, 1, 0, 0, 1, 1, 0, 0, 1, 1] rfl ?_
      refine at_region rfl ?_
      refine at_mv 1 11 rfl rfl rfl (.inl rfl) rfl (by dsimp only [List.set]) ?_
      refine at_mv 0 12 rfl rfl rfl (.inl rfl) rfl (by dsimp only [List.set]) ?_
      refine at_mv 5 13 rfl rfl rfl (.inl rfl) rfl (by dsimp only [List.set]) ?_
      first | (refine at_op (some 14) rfl rfl rfl rfl (op_idxL rfl slInt (by first | decide | omega) (by first | exact idx_some (by assumption) | assumption | rfl) (by first | rfl | (simp [V.size]; done))) (by dsimp only [putD, List.set]) ?_) | (refine at_op (some 14) rfl rfl rfl rfl (opOK_un (op_idxL rfl slInt (by first | decide | omega) (by first | exact idx_some (by assumption) | assumption | rfl) (by first | rfl | (simp [V.size]; done)))) (by dsimp only [putD, List.set]) ?_) | (refine at_op (some 14) rfl rfl rfl rfl (op_idxA rfl slInt (by first | decide | omega) (by first | decide | omega)) (by dsimp only [putD, List.set]) ?_)
      first | (refine at_op (some 15) rfl rfl rfl rfl (op_loadR1 rfl oneInt rfl) (by dsimp only [putD, List.set]) ?_) | (refine at_op (some 15) rfl rfl rfl rfl (op_loadP1 rfl oneInt rfl rfl) (by dsimp only [putD, List.set]) ?_)
      refine at_op (some 16) rfl rfl rfl rfl (op_call0 rfl rfl rfl rfl (hf x (List.mem_of_getElem? hx))) (by dsimp only [putD, List.set]) ?_
      refine at_end rfl ?_
      refine at_cond [1, 0, 1, 0, 0, 1, 1, 0, 0, 1, 1, 0] [1, 0, 1, 0, 0, 1, 1, 0, 0, 1, 1, 1] rfl rfl (fun hc2 => ?_) (fun hc2 => ?_)
      · skip
        refine at_seq [1, 0, 1, 0, 0, 1, 1, 0, 0, 1, 1, 0, 0] [1, 0, 1, 0, 0, 1, 1, 0, 0, 1, 1, 0, 1] rfl ?_
        refine at_region rfl ?_
        refine at_mv 5 17 rfl rfl rfl (.inl rfl) rfl (by dsimp only [List.set]) ?_
        refine at_mv 17 4 rfl rfl rfl (.inr rfl) rfl (by dsimp only [List.set]) ?_
        refine at_end rfl ?_
        refine at_ret rfl (ret_one (t := 4) rfl rfl ?_ rfl)
        first | (rw [hb]; done) | (simp_all; done)
      · skip
        refine at_skip rfl ?_
        refine run_blk ?_
        refine at_region rfl ?_
        refine at_op (some 18) rfl rfl rfl rfl (op_binI rfl rfl) (by dsimp only [putD, List.set]) ?_
        refine at_mv 18 8 rfl rfl rfl (.inl rfl) rfl (by dsimp only [List.set]) ?_
        refine at_end rfl ?_
        rw [wrap_succ (by omega)]
        exact run_wk (.keep (.keep (.drop (.drop (.keep (.drop (.keep (.keep (.keep (.drop (.drop (.drop (.drop (.drop (.drop (.drop (.drop (.drop (.drop .nil))))))))))))))))))) (ih _ (by omega) (i + 1) rfl (by simp_all))
    · skip
      have hge : xs.length ≤ i := by simpa using hc1
      rw [idxP_end hge] at hb
      refine at_exit rfl rfl ?_
      refine at_seq [1, 1, 0] [1, 1, 1] rfl ?_
      refine at_region rfl ?_
      refine at_mc 4 rfl rfl rfl (.inr rfl) (by dsimp only [constD]) (by dsimp only [List.set]) ?_
      refine at_end rfl ?_
      refine at_ret rfl (ret_one (t := 4) rfl rfl ?_ rfl)
      first | (rw [hb]; done) | (simp_all; done)

set_option maxRecDepth 20000 in
theorem indexFunc_spec (fo : FuncId) (fs cs : List V) (xs : List Int) (p : Int → Bool) (hf : ∀ x ∈ xs, FSpec PP fo (fs.map .v ++ [di x] ++ cs.map .v) σ0 (db (p x)) σ0) (hs : xs.length ≤ 1000000) : FSpec PP 40 [dl xs, .v (.fn fo fs cs)] σ0 (di (idxP p xs 0)) σ0 := by
  refine spec_at cIndexFunc Try.func40 rfl (by kernel_rfl) (by first | decide | simp) _ (by dsimp only [Try.f40, List.length, Nat.reduceAdd, Nat.reduceSub, List.replicate, List.cons_append, List.nil_append]) ?_
  refine at_seq [0] [1] rfl ?_
  refine at_region rfl ?_
  refine at_mc 4 rfl rfl rfl (.inr rfl) (by dsimp only [constD]) (by dsimp only [List.set]) ?_
  refine at_end rfl ?_
  refine at_seq [1, 0] [1, 1] rfl ?_
  refine at_seq [1, 0, 0] [1, 0, 1] rfl ?_
  refine at_region rfl ?_
  refine at_mv 0 6 rfl rfl rfl (.inl rfl) rfl (by dsimp only [List.set]) ?_
  first | (refine at_op (some 7) rfl rfl rfl rfl (op_lenL rfl uInts) (by dsimp only [putD, List.set]) ?_) | (refine at_op (some 7) rfl rfl rfl rfl (opOK_un (op_lenL rfl uInts)) (by dsimp only [putD, List.set]) ?_) | (refine at_op (some 7) rfl rfl rfl rfl (op_lenA rfl uInts) (by dsimp only [putD, List.set]) ?_)
  refine at_mc 8 rfl rfl rfl (.inl rfl) (by dsimp only [constD]) (by dsimp only [List.set]) ?_
  refine at_end rfl ?_
  refine at_block [1, 0, 1, 0] 0 rfl ?_
  refine at_loop [1, 0, 1, 0, 0] rfl ?_
  try simp only [List.length_map, List.length_nil, Int.toNat_natCast]
  exact indexFunc_loop fo fs cs xs p hf hs _ 0 rfl (by simp)

end Go.Proofs.Ytaceggcohmmfhaa


namespace Go.Proofs.Ytaceggcohmmfhaa
open Go.Dv

end Go.Proofs.Ytaceggcohmmfhaa


namespace Go.Proofs.Ytaceggcohmmfhaa
open Go.Dv

def addM (a b : List Int) : List Int × Int :=
  if (joinM (valid a) (valid b) addF a b).2 = 0 then (if valid (joinM (valid a) (valid b) addF a b).1 then ((joinM (valid a) (valid b) addF a b).1, 0) else ([], 1)) else ([], (joinM (valid a) (valid b) addF a b).2)
/- THE DECK -/
/-- its cells: the list, the place, the state -/
abbrev dk (l : List Int) (at' : Nat) (st : Int) : List D := [dl l, di ↑at', .v (.int .u64 st)]
abbrev σd (l : List Int) (at' : Nat) (st : Int) : St := ⟨[some (dk l at' st)], []⟩

/-- the next number of the list, as a uint64 -/
def dkX (l : List Int) (at' : Nat) : Int := match l[at']? with
  | some x => IntKind.u64.wrap x
  | none => 0
def dkAt (l : List Int) (at' : Nat) : Nat := if at' < l.length then at' + 1 else at'
def dkSt (l : List Int) (at' : Nat) (st : Int) : Int := IntKind.u64.wrap (IntKind.u64.wrap (IntKind.u64.wrap (st + dkX l at') * 6364136223846793005) + 1442695040888963407)
def mix1 (s : Int) : Int := IntKind.u64.wrap ↑(BitVec.ofInt IntKind.u64.bits s ^^^ BitVec.ofInt IntKind.u64.bits (s.fdiv (2 ^ (min (33 : Int).toNat IntKind.u64.bits)))).toNat
def mix2 (y : Int) : Int := IntKind.u64.wrap ↑(BitVec.ofInt IntKind.u64.bits y ^^^ BitVec.ofInt IntKind.u64.bits (y.fdiv (2 ^ (min (29 : Int).toNat IntKind.u64.bits)))).toNat
def longV (s : Int) : Int := mix2 (IntKind.u64.wrap (mix1 s * 18397679294719823053))
theorem u64_range (x : Int) : 0 ≤ IntKind.u64.wrap x ∧ IntKind.u64.wrap x < 18446744073709551616 := by
  rw [IntKind.wrap_u64]; omega
theorem longV_range (s : Int) : 0 ≤ longV s ∧ longV s < 18446744073709551616 := u64_range _

/-- a dealt number, and the deck behind it -/
def nextV (n : Int) (s : Int) : Int := (IntKind.i64.wrap ((longV s).fdiv (2 ^ (min (1 : Int).toNat IntKind.u64.bits)))).tmod n
theorem nextV_range {n s : Int} (h : 1 ≤ n) : 0 ≤ nextV n s ∧ nextV n s < n := by
  have h1 := longV_range s
  have h2 : (2 ^ (min (1 : Int).toNat IntKind.u64.bits) : Int) = 2 := by decide
  unfold nextV
  rw [h2]
  have h3 : 0 ≤ (longV s).fdiv 2 ∧ (longV s).fdiv 2 < 9223372036854775808 := by
    rw [Int.fdiv_eq_ediv_of_nonneg _ (by omega)]; omega
  rw [wrap_id (by omega) (by omega), Int.tmod_eq_emod_of_nonneg h3.1]
  exact ⟨Int.emod_nonneg _ (by omega), Int.emod_lt_of_pos _ (by omega)⟩

noncomputable def cFew : Code := Try.f5.body.getD .skip
set_option maxRecDepth 20000 in
theorem few_spec (l : List Int) : FSpec PP 5 [dl l] σ0 (db (decide (l.length ≤ 400))) σ0 := by
  refine spec_at cFew Try.func5 rfl (by kernel_rfl) (by first | decide | simp) _ (by dsimp only [Try.f5, List.length, Nat.reduceAdd, Nat.reduceSub, List.replicate, List.cons_append, List.nil_append]) ?_
  refine at_seq [0] [1] rfl ?_
  refine at_region rfl ?_
  refine at_mc 2 rfl rfl rfl (.inr rfl) (by dsimp only [constD]) (by dsimp only [List.set]) ?_
  refine at_end rfl ?_
  refine at_seq [1, 0] [1, 1] rfl ?_
  refine at_region rfl ?_
  refine at_mv 0 3 rfl rfl rfl (.inl rfl) rfl (by dsimp only [List.set]) ?_
  first | (refine at_op (some 4) rfl rfl rfl rfl (op_lenL rfl uInts) (by dsimp only [putD, List.set]) ?_) | (refine at_op (some 4) rfl rfl rfl rfl (opOK_un (op_lenL rfl uInts)) (by dsimp only [putD, List.set]) ?_) | (refine at_op (some 4) rfl rfl rfl rfl (op_lenA rfl uInts) (by dsimp only [putD, List.set]) ?_)
  refine at_op (some 5) rfl rfl rfl rfl (op_binI rfl rfl) (by dsimp only [putD, List.set]) ?_
  refine at_mv 5 2 rfl rfl rfl (.inr rfl) rfl (by dsimp only [List.set]) ?_
  refine at_end rfl ?_
  refine at_ret rfl (ret_one (t := 2) rfl rfl ?_ rfl)
  simp; omega

noncomputable def cNew : Code := Try.f7.body.getD .skip
set_option maxRecDepth 20000 in
theorem new_spec (l : List Int) : FSpec PP 7 [dl l] σ0 (.ptr 0 0) (σd l 0 11400714819323198485) := by
  refine spec_at cNew Try.func7 rfl (by kernel_rfl) (by first | decide | simp) _ (by dsimp only [Try.f7, List.length, Nat.reduceAdd, Nat.reduceSub, List.replicate, List.cons_append, List.nil_append]) ?_
  refine at_seq [0] [1] rfl ?_
  refine at_region rfl ?_
  refine at_mc 2 rfl rfl rfl (.inr rfl) (by dsimp only [constD]) (by dsimp only [List.set]) ?_
  refine at_end rfl ?_
  refine at_seq [1, 0] [1, 1] rfl ?_
  refine at_region rfl ?_
  refine at_mv 0 3 rfl rfl rfl (.inl rfl) rfl (by dsimp only [List.set]) ?_
  refine at_op (some 4) rfl rfl rfl rfl (op_build rfl bldDk rfl rfl) (by dsimp only [putD, List.set]) ?_
  refine at_box (.tmp 4) 5 rfl rfl rfl rfl (ev_tmp rfl) rfl (by dsimp only [List.set, List.length]) (by dsimp only [List.set, List.append, List.cons_append, List.nil_append, cellsD, List.map, repl, List.length, Nat.reduceAdd, if_true, ↓reduceIte]; first | done | rfl) ?_
  refine at_mv 5 2 rfl rfl rfl (.inr rfl) rfl (by dsimp only [List.set]) ?_
  refine at_end rfl ?_
  exact at_ret rfl (res_ok (ds := [.ptr 0 0]) (.tmp rfl .nil) rfl 1 rfl (by simp) (fun i cs h => by cases i with | zero => (simp at h; subst h; rfl) | succ i => simp at h) (List.Sublist.refl _) rfl)

noncomputable def cLong : Code := Try.f39.body.getD .skip
set_option maxRecDepth 20000 in
theorem long_spec (l : List Int) (at' : Nat) (st : Int) (hs : l.length ≤ 1000000) : FSpec PP 39 [.ptr 0 0] (σd l at' st) (.v (.int .u64 (longV (dkSt l at' st)))) (σd l (dkAt l at') (dkSt l at' st)) := by
  refine spec_at cLong Try.func39 rfl (by kernel_rfl) (by first | decide | simp) _ (by dsimp only [Try.f39, List.length, Nat.reduceAdd, Nat.reduceSub, List.replicate, List.cons_append, List.nil_append]) ?_
  refine at_seq [0] [1] rfl ?_
  refine at_region rfl ?_
  refine at_mc 2 rfl rfl rfl (.inr rfl) (by dsimp only [constD]) (by dsimp only [List.set]) ?_
  refine at_end rfl ?_
  refine at_seq [1, 0] [1, 1] rfl ?_
  refine at_region rfl ?_
  refine at_mc 3 rfl rfl rfl (.inr rfl) (by dsimp only [constD]) (by dsimp only [List.set]) ?_
  refine at_end rfl ?_
  refine at_seq [1, 1, 0] [1, 1, 1] rfl ?_
  refine at_seq [1, 1, 0, 0] [1, 1, 0, 1] rfl ?_
  refine at_draw mixed rfl [σd l at' st] rfl ?_
  refine da_mv 0 5 rfl rfl rfl (.inl rfl) rfl (by dsimp only [List.set]) ?_
  first | (refine da_quiet (some 6) rfl rfl rfl rfl (fun s hs => op_nilCheck_ptr rfl) (by dsimp only [putD, List.set]) ?_) | (refine da_quiet (some 6) rfl rfl rfl rfl (fun s hs => op_nilCheck_ref rfl) (by dsimp only [putD, List.set]) ?_)
  first | (refine da_quiet (some 7) rfl rfl rfl rfl (fun s hs => op_fieldP rfl fldDk1 (by decide)) (by dsimp only [putD, List.set]) ?_) | (refine da_quiet (some 7) rfl rfl rfl rfl (fun s hs => op_fieldR rfl fldDk1 (by decide) (by decide) rfl) (by dsimp only [putD, List.set]) ?_)
  first | (refine da_quiet (some 8) rfl rfl rfl rfl (fun s hs => op_loadR1 rfl oneInt rfl) (by dsimp only [putD, List.set]) ?_) | (refine da_quiet (some 8) rfl rfl rfl rfl (by intro s hs; simp only [List.mem_cons, List.not_mem_nil, or_false] at hs; rcases hs with rfl <;> exact op_loadP1 rfl oneInt rfl rfl) (by dsimp only [putD, List.set]) ?_)
  refine da_mv 0 9 rfl rfl rfl (.inl rfl) rfl (by dsimp only [List.set]) ?_
  first | (refine da_quiet (some 10) rfl rfl rfl rfl (fun s hs => op_nilCheck_ptr rfl) (by dsimp only [putD, List.set]) ?_) | (refine da_quiet (some 10) rfl rfl rfl rfl (fun s hs => op_nilCheck_ref rfl) (by dsimp only [putD, List.set]) ?_)
  first | (refine da_quiet (some 11) rfl rfl rfl rfl (fun s hs => op_fieldP rfl fldDk0 (by decide)) (by dsimp only [putD, List.set]) ?_) | (refine da_quiet (some 11) rfl rfl rfl rfl (fun s hs => op_fieldR rfl fldDk0 (by decide) (by decide) rfl) (by dsimp only [putD, List.set]) ?_)
  first | (refine da_quiet (some 12) rfl rfl rfl rfl (fun s hs => op_loadR1 rfl oneInts rfl) (by dsimp only [putD, List.set]) ?_) | (refine da_quiet (some 12) rfl rfl rfl rfl (by intro s hs; simp only [List.mem_cons, List.not_mem_nil, or_false] at hs; rcases hs with rfl <;> exact op_loadP1 rfl oneInts rfl rfl) (by dsimp only [putD, List.set]) ?_)
  first | (refine da_quiet (some 13) rfl rfl rfl rfl (fun s hs => op_lenL rfl uInts) (by dsimp only [putD, List.set]) ?_) | (refine da_quiet (some 13) rfl rfl rfl rfl (fun s hs => opOK_un (op_lenL rfl uInts)) (by dsimp only [putD, List.set]) ?_) | (refine da_quiet (some 13) rfl rfl rfl rfl (fun s hs => op_lenA rfl uInts) (by dsimp only [putD, List.set]) ?_)
  refine da_quiet (some 14) rfl rfl rfl rfl (fun s hs => op_binI rfl rfl) (by dsimp only [putD, List.set]) ?_
  refine da_end rfl ⟨by decide +kernel, _, rfl, ?_⟩
  refine at_cond [1, 1, 0, 1, 0] [1, 1, 0, 1, 1] rfl rfl (fun hc1 => ?_) (fun hc1 => ?_)
  · skip
    have hlt : at' < l.length := by simpa using hc1
    obtain ⟨x, hx⟩ := get_ex hlt
    have hX : dkX l at' = IntKind.u64.wrap x := by simp [dkX, hx]
    have hA : dkAt l at' = at' + 1 := by simp [dkAt, hlt]
    refine at_seq [1, 1, 0, 1, 0, 0] [1, 1, 0, 1, 0, 1] rfl ?_
    refine at_draw mixed rfl [σd l at' st] rfl ?_
    refine da_mv 0 15 rfl rfl rfl (.inl rfl) rfl (by dsimp only [List.set]) ?_
    first | (refine da_quiet (some 16) rfl rfl rfl rfl (fun s hs => op_nilCheck_ptr rfl) (by dsimp only [putD, List.set]) ?_) | (refine da_quiet (some 16) rfl rfl rfl rfl (fun s hs => op_nilCheck_ref rfl) (by dsimp only [putD, List.set]) ?_)
    first | (refine da_quiet (some 17) rfl rfl rfl rfl (fun s hs => op_fieldP rfl fldDk0 (by decide)) (by dsimp only [putD, List.set]) ?_) | (refine da_quiet (some 17) rfl rfl rfl rfl (fun s hs => op_fieldR rfl fldDk0 (by decide) (by decide) rfl) (by dsimp only [putD, List.set]) ?_)
    first | (refine da_quiet (some 18) rfl rfl rfl rfl (fun s hs => op_loadR1 rfl oneInts rfl) (by dsimp only [putD, List.set]) ?_) | (refine da_quiet (some 18) rfl rfl rfl rfl (by intro s hs; simp only [List.mem_cons, List.not_mem_nil, or_false] at hs; rcases hs with rfl <;> exact op_loadP1 rfl oneInts rfl rfl) (by dsimp only [putD, List.set]) ?_)
    refine da_mv 0 19 rfl rfl rfl (.inl rfl) rfl (by dsimp only [List.set]) ?_
    first | (refine da_quiet (some 20) rfl rfl rfl rfl (fun s hs => op_nilCheck_ptr rfl) (by dsimp only [putD, List.set]) ?_) | (refine da_quiet (some 20) rfl rfl rfl rfl (fun s hs => op_nilCheck_ref rfl) (by dsimp only [putD, List.set]) ?_)
    first | (refine da_quiet (some 21) rfl rfl rfl rfl (fun s hs => op_fieldP rfl fldDk1 (by decide)) (by dsimp only [putD, List.set]) ?_) | (refine da_quiet (some 21) rfl rfl rfl rfl (fun s hs => op_fieldR rfl fldDk1 (by decide) (by decide) rfl) (by dsimp only [putD, List.set]) ?_)
    first | (refine da_quiet (some 22) rfl rfl rfl rfl (fun s hs => op_loadR1 rfl oneInt rfl) (by dsimp only [putD, List.set]) ?_) | (refine da_quiet (some 22) rfl rfl rfl rfl (by intro s hs; simp only [List.mem_cons, List.not_mem_nil, or_false] at hs; rcases hs with rfl <;> exact op_loadP1 rfl oneInt rfl rfl) (by dsimp only [putD, List.set]) ?_)
    first | (refine da_quiet (some 23) rfl rfl rfl rfl (fun s hs => op_idxL rfl slInt (by first | decide | omega) (by first | exact idx_some (by assumption) | assumption | rfl) (by first | rfl | (simp [V.size]; done))) (by dsimp only [putD, List.set]) ?_) | (refine da_quiet (some 23) rfl rfl rfl rfl (fun s hs => opOK_un (op_idxL rfl slInt (by first | decide | omega) (by first | exact idx_some (by assumption) | assumption | rfl) (by first | rfl | (simp [V.size]; done)))) (by dsimp only [putD, List.set]) ?_) | (refine da_quiet (some 23) rfl rfl rfl rfl (fun s hs => op_idxA rfl slInt (by first | decide | omega) (by first | decide | omega)) (by dsimp only [putD, List.set]) ?_)
    first | (refine da_quiet (some 24) rfl rfl rfl rfl (fun s hs => op_loadR1 rfl oneInt rfl) (by dsimp only [putD, List.set]) ?_) | (refine da_quiet (some 24) rfl rfl rfl rfl (by intro s hs; simp only [List.mem_cons, List.not_mem_nil, or_false] at hs; rcases hs with rfl <;> exact op_loadP1 rfl oneInt rfl rfl) (by dsimp only [putD, List.set]) ?_)
    refine da_quiet (some 25) rfl rfl rfl rfl (fun s hs => op_convI rfl uInt uU64) (by dsimp only [putD, List.set]) ?_
    refine da_mv 25 3 rfl rfl rfl (.inr rfl) rfl (by dsimp only [List.set]) ?_
    refine da_end rfl ⟨by decide +kernel, _, rfl, ?_⟩
    refine at_region rfl ?_
    refine at_mv 0 26 rfl rfl rfl (.inl rfl) rfl (by dsimp only [List.set]) ?_
    first | (refine at_op (some 27) rfl rfl rfl rfl (op_nilCheck_ptr rfl) (by dsimp only [putD, List.set]) ?_) | (refine at_op (some 27) rfl rfl rfl rfl (op_nilCheck_ref rfl) (by dsimp only [putD, List.set]) ?_)
    first | (refine at_op (some 28) rfl rfl rfl rfl (op_fieldP rfl fldDk1 (by decide)) (by dsimp only [putD, List.set]) ?_) | (refine at_op (some 28) rfl rfl rfl rfl (op_fieldR rfl fldDk1 (by decide) (by decide) rfl) (by dsimp only [putD, List.set]) ?_)
    first | (refine at_op (some 29) rfl rfl rfl rfl (op_loadR1 rfl oneInt rfl) (by dsimp only [putD, List.set]) ?_) | (refine at_op (some 29) rfl rfl rfl rfl (op_loadP1 rfl oneInt rfl rfl) (by dsimp only [putD, List.set]) ?_)
    refine at_op (some 30) rfl rfl rfl rfl (op_binI rfl rfl) (by dsimp only [putD, List.set]) ?_
    first | (refine at_op (some 31) rfl rfl rfl rfl (op_nilCheck_ptr rfl) (by dsimp only [putD, List.set]) ?_) | (refine at_op (some 31) rfl rfl rfl rfl (op_nilCheck_ref rfl) (by dsimp only [putD, List.set]) ?_)
    first | (refine at_op (some 32) rfl rfl rfl rfl (op_fieldP rfl fldDk1 (by decide)) (by dsimp only [putD, List.set]) ?_) | (refine at_op (some 32) rfl rfl rfl rfl (op_fieldR rfl fldDk1 (by decide) (by decide) rfl) (by dsimp only [putD, List.set]) ?_)
    refine at_st1 32 (.tmp 30) rfl rfl rfl rfl rfl (ev_tmp rfl) rfl oneInt rfl (by first | decide | simp | (simp; omega)) (by dsimp only [List.set, List.append, List.cons_append, List.nil_append, cellsD, List.map, repl, List.length, Nat.reduceAdd, if_true, ↓reduceIte]; first | done | rfl) ?_
    rw [wrap_succ (by omega)]
    refine at_end rfl ?_
    refine at_seq [1, 1, 1, 0] [1, 1, 1, 1] rfl ?_
    refine at_region rfl ?_
    refine at_mv 0 33 rfl rfl rfl (.inl rfl) rfl (by dsimp only [List.set]) ?_
    refine at_mv 0 34 rfl rfl rfl (.inl rfl) rfl (by dsimp only [List.set]) ?_
    first | (refine at_op (some 35) rfl rfl rfl rfl (op_nilCheck_ptr rfl) (by dsimp only [putD, List.set]) ?_) | (refine at_op (some 35) rfl rfl rfl rfl (op_nilCheck_ref rfl) (by dsimp only [putD, List.set]) ?_)
    first | (refine at_op (some 36) rfl rfl rfl rfl (op_fieldP rfl fldDk2 (by decide)) (by dsimp only [putD, List.set]) ?_) | (refine at_op (some 36) rfl rfl rfl rfl (op_fieldR rfl fldDk2 (by decide) (by decide) rfl) (by dsimp only [putD, List.set]) ?_)
    first | (refine at_op (some 37) rfl rfl rfl rfl (op_loadR1 rfl oneU64 rfl) (by dsimp only [putD, List.set]) ?_) | (refine at_op (some 37) rfl rfl rfl rfl (op_loadP1 rfl oneU64 rfl rfl) (by dsimp only [putD, List.set]) ?_)
    refine at_mv 3 38 rfl rfl rfl (.inl rfl) rfl (by dsimp only [List.set]) ?_
    refine at_op (some 39) rfl rfl rfl rfl (op_binI rfl rfl) (by dsimp only [putD, List.set]) ?_
    refine at_op (some 40) rfl rfl rfl rfl (op_binI rfl rfl) (by dsimp only [putD, List.set]) ?_
    refine at_op (some 41) rfl rfl rfl rfl (op_binI rfl rfl) (by dsimp only [putD, List.set]) ?_
    first | (refine at_op (some 42) rfl rfl rfl rfl (op_nilCheck_ptr rfl) (by dsimp only [putD, List.set]) ?_) | (refine at_op (some 42) rfl rfl rfl rfl (op_nilCheck_ref rfl) (by dsimp only [putD, List.set]) ?_)
    first | (refine at_op (some 43) rfl rfl rfl rfl (op_fieldP rfl fldDk2 (by decide)) (by dsimp only [putD, List.set]) ?_) | (refine at_op (some 43) rfl rfl rfl rfl (op_fieldR rfl fldDk2 (by decide) (by decide) rfl) (by dsimp only [putD, List.set]) ?_)
    refine at_st1 43 (.tmp 41) rfl rfl rfl rfl rfl (ev_tmp rfl) rfl oneU64 rfl (by first | decide | simp | (simp; omega)) (by dsimp only [List.set, List.append, List.cons_append, List.nil_append, cellsD, List.map, repl, List.length, Nat.reduceAdd, if_true, ↓reduceIte]; first | done | rfl) ?_
    first | rw [show IntKind.u64.wrap (IntKind.u64.wrap (IntKind.u64.wrap (st + IntKind.u64.wrap x) * 6364136223846793005) + 1442695040888963407) = dkSt l at' st from by simp [dkSt, hX]] | rw [show IntKind.u64.wrap (IntKind.u64.wrap (IntKind.u64.wrap (st + 0) * 6364136223846793005) + 1442695040888963407) = dkSt l at' st from by simp [dkSt, hX]]
    first | rw [show D.v (V.int .i64 ((at' + 1 : Nat) : Int)) = di ↑(dkAt l at') from by rw [hA]] | rw [show (di ↑at' : D) = di ↑(dkAt l at') from by rw [hA]]
    refine at_end rfl ?_
    refine at_seq [1, 1, 1, 1, 0] [1, 1, 1, 1, 1] rfl ?_
    refine at_draw mixed rfl [⟨[some [dl l, di ↑(dkAt l at'), .v (.int .u64 (dkSt l at' st))]], []⟩] rfl ?_
    refine da_mv 0 44 rfl rfl rfl (.inl rfl) rfl (by dsimp only [List.set]) ?_
    first | (refine da_quiet (some 45) rfl rfl rfl rfl (fun s hs => op_nilCheck_ptr rfl) (by dsimp only [putD, List.set]) ?_) | (refine da_quiet (some 45) rfl rfl rfl rfl (fun s hs => op_nilCheck_ref rfl) (by dsimp only [putD, List.set]) ?_)
    first | (refine da_quiet (some 46) rfl rfl rfl rfl (fun s hs => op_fieldP rfl fldDk2 (by decide)) (by dsimp only [putD, List.set]) ?_) | (refine da_quiet (some 46) rfl rfl rfl rfl (fun s hs => op_fieldR rfl fldDk2 (by decide) (by decide) rfl) (by dsimp only [putD, List.set]) ?_)
    first | (refine da_quiet (some 47) rfl rfl rfl rfl (fun s hs => op_loadR1 rfl oneU64 rfl) (by dsimp only [putD, List.set]) ?_) | (refine da_quiet (some 47) rfl rfl rfl rfl (by intro s hs; simp only [List.mem_cons, List.not_mem_nil, or_false] at hs; rcases hs with rfl <;> exact op_loadP1 rfl oneU64 rfl rfl) (by dsimp only [putD, List.set]) ?_)
    refine da_mv 0 48 rfl rfl rfl (.inl rfl) rfl (by dsimp only [List.set]) ?_
    first | (refine da_quiet (some 49) rfl rfl rfl rfl (fun s hs => op_nilCheck_ptr rfl) (by dsimp only [putD, List.set]) ?_) | (refine da_quiet (some 49) rfl rfl rfl rfl (fun s hs => op_nilCheck_ref rfl) (by dsimp only [putD, List.set]) ?_)
    first | (refine da_quiet (some 50) rfl rfl rfl rfl (fun s hs => op_fieldP rfl fldDk2 (by decide)) (by dsimp only [putD, List.set]) ?_) | (refine da_quiet (some 50) rfl rfl rfl rfl (fun s hs => op_fieldR rfl fldDk2 (by decide) (by decide) rfl) (by dsimp only [putD, List.set]) ?_)
    first | (refine da_quiet (some 51) rfl rfl rfl rfl (fun s hs => op_loadR1 rfl oneU64 rfl) (by dsimp only [putD, List.set]) ?_) | (refine da_quiet (some 51) rfl rfl rfl rfl (by intro s hs; simp only [List.mem_cons, List.not_mem_nil, or_false] at hs; rcases hs with rfl <;> exact op_loadP1 rfl oneU64 rfl rfl) (by dsimp only [putD, List.set]) ?_)
    refine da_quiet (some 52) rfl rfl rfl rfl (fun s hs => op_shI rfl rfl (by first | decide | omega)) (by dsimp only [putD, List.set]) ?_
    refine da_quiet (some 53) rfl rfl rfl rfl (fun s hs => op_binI rfl rfl) (by dsimp only [putD, List.set]) ?_
    refine da_mv 53 4 rfl rfl rfl (.inr rfl) rfl (by dsimp only [List.set]) ?_
    refine da_end rfl ⟨by decide +kernel, _, rfl, ?_⟩
    refine at_seq [1, 1, 1, 1, 1, 0] [1, 1, 1, 1, 1, 1] rfl ?_
    refine at_region rfl ?_
    refine at_mv 4 54 rfl rfl rfl (.inl rfl) rfl (by dsimp only [List.set]) ?_
    refine at_op (some 55) rfl rfl rfl rfl (op_binI rfl rfl) (by dsimp only [putD, List.set]) ?_
    refine at_mv 55 4 rfl rfl rfl (.inr rfl) rfl (by dsimp only [List.set]) ?_
    refine at_end rfl ?_
    refine at_seq [1, 1, 1, 1, 1, 1, 0] [1, 1, 1, 1, 1, 1, 1] rfl ?_
    refine at_region rfl ?_
    refine at_mv 4 56 rfl rfl rfl (.inl rfl) rfl (by dsimp only [List.set]) ?_
    refine at_mv 4 57 rfl rfl rfl (.inl rfl) rfl (by dsimp only [List.set]) ?_
    refine at_op (some 58) rfl rfl rfl rfl (op_shI rfl rfl (by first | decide | omega)) (by dsimp only [putD, List.set]) ?_
    refine at_op (some 59) rfl rfl rfl rfl (op_binI rfl rfl) (by dsimp only [putD, List.set]) ?_
    refine at_mv 59 2 rfl rfl rfl (.inr rfl) rfl (by dsimp only [List.set]) ?_
    refine at_end rfl ?_
    refine at_ret rfl (ret_one1 (t := 2) (os := dk l (dkAt l at') (dkSt l at' st)) rfl rfl ?_ rfl ?_ rfl)
    all_goals rfl
  · skip
    have hge : l.length ≤ at' := by simpa using hc1
    have hX : dkX l at' = 0 := by simp [dkX, hge]
    have hA : dkAt l at' = at' := by simp only [dkAt]; rw [if_neg (by omega)]
    refine at_skip rfl ?_
    refine at_seq [1, 1, 1, 0] [1, 1, 1, 1] rfl ?_
    refine at_region rfl ?_
    refine at_mv 0 33 rfl rfl rfl (.inl rfl) rfl (by dsimp only [List.set]) ?_
    refine at_mv 0 34 rfl rfl rfl (.inl rfl) rfl (by dsimp only [List.set]) ?_
    first | (refine at_op (some 35) rfl rfl rfl rfl (op_nilCheck_ptr rfl) (by dsimp only [putD, List.set]) ?_) | (refine at_op (some 35) rfl rfl rfl rfl (op_nilCheck_ref rfl) (by dsimp only [putD, List.set]) ?_)
    first | (refine at_op (some 36) rfl rfl rfl rfl (op_fieldP rfl fldDk2 (by decide)) (by dsimp only [putD, List.set]) ?_) | (refine at_op (some 36) rfl rfl rfl rfl (op_fieldR rfl fldDk2 (by decide) (by decide) rfl) (by dsimp only [putD, List.set]) ?_)
    first | (refine at_op (some 37) rfl rfl rfl rfl (op_loadR1 rfl oneU64 rfl) (by dsimp only [putD, List.set]) ?_) | (refine at_op (some 37) rfl rfl rfl rfl (op_loadP1 rfl oneU64 rfl rfl) (by dsimp only [putD, List.set]) ?_)
    refine at_mv 3 38 rfl rfl rfl (.inl rfl) rfl (by dsimp only [List.set]) ?_
    refine at_op (some 39) rfl rfl rfl rfl (op_binI rfl rfl) (by dsimp only [putD, List.set]) ?_
    refine at_op (some 40) rfl rfl rfl rfl (op_binI rfl rfl) (by dsimp only [putD, List.set]) ?_
    refine at_op (some 41) rfl rfl rfl rfl (op_binI rfl rfl) (by dsimp only [putD, List.set]) ?_
    first | (refine at_op (some 42) rfl rfl rfl rfl (op_nilCheck_ptr rfl) (by dsimp only [putD, List.set]) ?_) | (refine at_op (some 42) rfl rfl rfl rfl (op_nilCheck_ref rfl) (by dsimp only [putD, List.set]) ?_)
    first | (refine at_op (some 43) rfl rfl rfl rfl (op_fieldP rfl fldDk2 (by decide)) (by dsimp only [putD, List.set]) ?_) | (refine at_op (some 43) rfl rfl rfl rfl (op_fieldR rfl fldDk2 (by decide) (by decide) rfl) (by dsimp only [putD, List.set]) ?_)
    refine at_st1 43 (.tmp 41) rfl rfl rfl rfl rfl (ev_tmp rfl) rfl oneU64 rfl (by first | decide | simp | (simp; omega)) (by dsimp only [List.set, List.append, List.cons_append, List.nil_append, cellsD, List.map, repl, List.length, Nat.reduceAdd, if_true, ↓reduceIte]; first | done | rfl) ?_
    first | rw [show IntKind.u64.wrap (IntKind.u64.wrap (IntKind.u64.wrap (st + IntKind.u64.wrap x) * 6364136223846793005) + 1442695040888963407) = dkSt l at' st from by simp [dkSt, hX]] | rw [show IntKind.u64.wrap (IntKind.u64.wrap (IntKind.u64.wrap (st + 0) * 6364136223846793005) + 1442695040888963407) = dkSt l at' st from by simp [dkSt, hX]]
    first | rw [show D.v (V.int .i64 ((at' + 1 : Nat) : Int)) = di ↑(dkAt l at') from by rw [hA]] | rw [show (di ↑at' : D) = di ↑(dkAt l at') from by rw [hA]]
    refine at_end rfl ?_
    refine at_seq [1, 1, 1, 1, 0] [1, 1, 1, 1, 1] rfl ?_
    refine at_draw mixed rfl [⟨[some [dl l, di ↑(dkAt l at'), .v (.int .u64 (dkSt l at' st))]], []⟩] rfl ?_
    refine da_mv 0 44 rfl rfl rfl (.inl rfl) rfl (by dsimp only [List.set]) ?_
    first | (refine da_quiet (some 45) rfl rfl rfl rfl (fun s hs => op_nilCheck_ptr rfl) (by dsimp only [putD, List.set]) ?_) | (refine da_quiet (some 45) rfl rfl rfl rfl (fun s hs => op_nilCheck_ref rfl) (by dsimp only [putD, List.set]) ?_)
    first | (refine da_quiet (some 46) rfl rfl rfl rfl (fun s hs => op_fieldP rfl fldDk2 (by decide)) (by dsimp only [putD, List.set]) ?_) | (refine da_quiet (some 46) rfl rfl rfl rfl (fun s hs => op_fieldR rfl fldDk2 (by decide) (by decide) rfl) (by dsimp only [putD, List.set]) ?_)
    first | (refine da_quiet (some 47) rfl rfl rfl rfl (fun s hs => op_loadR1 rfl oneU64 rfl) (by dsimp only [putD, List.set]) ?_) | (refine da_quiet (some 47) rfl rfl rfl rfl (by intro s hs; simp only [List.mem_cons, List.not_mem_nil, or_false] at hs; rcases hs with rfl <;> exact op_loadP1 rfl oneU64 rfl rfl) (by dsimp only [putD, List.set]) ?_)
    refine da_mv 0 48 rfl rfl rfl (.inl rfl) rfl (by dsimp only [List.set]) ?_
    first | (refine da_quiet (some 49) rfl rfl rfl rfl (fun s hs => op_nilCheck_ptr rfl) (by dsimp only [putD, List.set]) ?_) | (refine da_quiet (some 49) rfl rfl rfl rfl (fun s hs => op_nilCheck_ref rfl) (by dsimp only [putD, List.set]) ?_)
    first | (refine da_quiet (some 50) rfl rfl rfl rfl (fun s hs => op_fieldP rfl fldDk2 (by decide)) (by dsimp only [putD, List.set]) ?_) | (refine da_quiet (some 50) rfl rfl rfl rfl (fun s hs => op_fieldR rfl fldDk2 (by decide) (by decide) rfl) (by dsimp only [putD, List.set]) ?_)
    first | (refine da_quiet (some 51) rfl rfl rfl rfl (fun s hs => op_loadR1 rfl oneU64 rfl) (by dsimp only [putD, List.set]) ?_) | (refine da_quiet (some 51) rfl rfl rfl rfl (by intro s hs; simp only [List.mem_cons, List.not_mem_nil, or_false] at hs; rcases hs with rfl <;> exact op_loadP1 rfl oneU64 rfl rfl) (by dsimp only [putD, List.set]) ?_)
    refine da_quiet (some 52) rfl rfl rfl rfl (fun s hs => op_shI rfl rfl (by first | decide | omega)) (by dsimp only [putD, List.set]) ?_
    refine da_quiet (some 53) rfl rfl rfl rfl (fun s hs => op_binI rfl rfl) (by dsimp only [putD, List.set]) ?_
    refine da_mv 53 4 rfl rfl rfl (.inr rfl) rfl (by dsimp only [List.set]) ?_
    refine da_end rfl ⟨by decide +kernel, _, rfl, ?_⟩
    refine at_seq [1, 1, 1, 1, 1, 0] [1, 1, 1, 1, 1, 1] rfl ?_
    refine at_region rfl ?_
    refine at_mv 4 54 rfl rfl rfl (.inl rfl) rfl (by dsimp only [List.set]) ?_
    refine at_op (some 55) rfl rfl rfl rfl (op_binI rfl rfl) (by dsimp only [putD, List.set]) ?_
    refine at_mv 55 4 rfl rfl rfl (.inr rfl) rfl (by dsimp only [List.set]) ?_
    refine at_end rfl ?_
    refine at_seq [1, 1, 1, 1, 1, 1, 0] [1, 1, 1, 1, 1, 1, 1] rfl ?_
    refine at_region rfl ?_
    refine at_mv 4 56 rfl rfl rfl (.inl rfl) rfl (by dsimp only [List.set]) ?_
    refine at_mv 4 57 rfl rfl rfl (.inl rfl) rfl (by dsimp only [List.set]) ?_
    refine at_op (some 58) rfl rfl rfl rfl (op_shI rfl rfl (by first | decide | omega)) (by dsimp only [putD, List.set]) ?_
    refine at_op (some 59) rfl rfl rfl rfl (op_binI rfl rfl) (by dsimp only [putD, List.set]) ?_
    refine at_mv 59 2 rfl rfl rfl (.inr rfl) rfl (by dsimp only [List.set]) ?_
    refine at_end rfl ?_
    refine at_ret rfl (ret_one1 (t := 2) (os := dk l (dkAt l at') (dkSt l at' st)) rfl rfl ?_ rfl ?_ rfl)
    all_goals rfl

noncomputable def cNext : Code := Try.f23.body.getD .skip
set_option maxRecDepth 20000 in
theorem next_spec (l : List Int) (at' : Nat) (st : Int) (hs : l.length ≤ 1000000) (n : Int) (hn : 1 ≤ n) : FSpec PP 23 [.ptr 0 0, di n] (σd l at' st) (di (nextV n (dkSt l at' st))) (σd l (dkAt l at') (dkSt l at' st)) := by
  refine spec_at cNext Try.func23 rfl (by kernel_rfl) (by first | decide | simp) _ (by dsimp only [Try.f23, List.length, Nat.reduceAdd, Nat.reduceSub, List.replicate, List.cons_append, List.nil_append]) ?_
  refine at_seq [0] [1] rfl ?_
  refine at_region rfl ?_
  refine at_mc 4 rfl rfl rfl (.inr rfl) (by dsimp only [constD]) (by dsimp only [List.set]) ?_
  refine at_end rfl ?_
  refine at_seq [1, 0] [1, 1] rfl ?_
  refine at_seq [1, 0, 0] [1, 0, 1] rfl ?_
  refine at_region rfl ?_
  refine at_mv 1 5 rfl rfl rfl (.inl rfl) rfl (by dsimp only [List.set]) ?_
  refine at_op (some 6) rfl rfl rfl rfl (op_binI rfl rfl) (by dsimp only [putD, List.set]) ?_
  refine at_end rfl ?_
  refine at_cond [1, 0, 1, 0] [1, 0, 1, 1] rfl rfl (fun hc1 => ?_) (fun hc1 => ?_)
  · skip
    refine at_seq [1, 0, 1, 0, 0] [1, 0, 1, 0, 1] rfl ?_
    refine at_region rfl ?_
    refine at_mc 4 rfl rfl rfl (.inr rfl) (by dsimp only [constD]) (by dsimp only [List.set]) ?_
    refine at_end rfl ?_
    refine at_ret rfl (ret_one1 (t := 4) (os := dk l (dkAt l at') (dkSt l at' st)) rfl rfl ?_ rfl ?_ rfl)
    all_goals first | rfl | (exfalso; simp at hc1; omega)
  · skip
    refine at_skip rfl ?_
    refine at_seq [1, 1, 0] [1, 1, 1] rfl ?_
    refine at_region rfl ?_
    refine at_mv 0 7 rfl rfl rfl (.inl rfl) rfl (by dsimp only [List.set]) ?_
    refine at_opS (some 8) rfl rfl rfl rfl (op_call1 rfl rfl rfl rfl rfl (.ptr .nil) rfl (long_spec l at' st hs)) (by dsimp only [putD, List.set]) (by dsimp only [List.set, List.append, List.cons_append, List.nil_append, cellsD, List.map, repl, List.length, Nat.reduceAdd, if_true, ↓reduceIte]; first | done | rfl) ?_
    refine at_op (some 9) rfl rfl rfl rfl (op_shI rfl rfl (by first | decide | omega)) (by dsimp only [putD, List.set]) ?_
    refine at_op (some 10) rfl rfl rfl rfl (op_convI rfl uU64 uInt) (by dsimp only [putD, List.set]) ?_
    refine at_mv 1 11 rfl rfl rfl (.inl rfl) rfl (by dsimp only [List.set]) ?_
    refine at_op (some 12) rfl rfl rfl rfl (op_quoI rfl rfl (by first | decide | omega | assumption)) (by dsimp only [putD, List.set]) ?_
    refine at_mv 12 4 rfl rfl rfl (.inr rfl) rfl (by dsimp only [List.set]) ?_
    refine at_end rfl ?_
    refine at_ret rfl (ret_one1 (t := 4) (os := dk l (dkAt l at') (dkSt l at' st)) rfl rfl ?_ rfl ?_ rfl)
    all_goals first | rfl | (exfalso; simp at hc1; omega)

noncomputable def cOne : Code := Try.f25.body.getD .skip
set_option maxRecDepth 20000 in
theorem one_spec (l : List Int) (at' : Nat) (st : Int) (hs : l.length ≤ 1000000) (n : Int) (hn : 1 ≤ n) : FSpec PP 25 [.ptr 0 0, di n] (σd l at' st) (db (nextV n (dkSt l at' st) == 0)) (σd l (dkAt l at') (dkSt l at' st)) := by
  refine spec_at cOne Try.func25 rfl (by kernel_rfl) (by first | decide | simp) _ (by dsimp only [Try.f25, List.length, Nat.reduceAdd, Nat.reduceSub, List.replicate, List.cons_append, List.nil_append]) ?_
  refine at_seq [0] [1] rfl ?_
  refine at_region rfl ?_
  refine at_mc 4 rfl rfl rfl (.inr rfl) (by dsimp only [constD]) (by dsimp only [List.set]) ?_
  refine at_end rfl ?_
  refine at_seq [1, 0] [1, 1] rfl ?_
  refine at_region rfl ?_
  refine at_mv 0 5 rfl rfl rfl (.inl rfl) rfl (by dsimp only [List.set]) ?_
  refine at_mv 1 6 rfl rfl rfl (.inl rfl) rfl (by dsimp only [List.set]) ?_
  refine at_opS (some 7) rfl rfl rfl rfl (op_call1 rfl rfl rfl rfl rfl (.ptr (.pl rfl .nil)) rfl (next_spec l _ _ hs _ (by omega))) (by dsimp only [putD, List.set]) (by dsimp only [List.set, List.append, List.cons_append, List.nil_append, cellsD, List.map, repl, List.length, Nat.reduceAdd, if_true, ↓reduceIte]; first | done | rfl) ?_
  refine at_op (some 8) rfl rfl rfl rfl (op_binI rfl rfl) (by dsimp only [putD, List.set]) ?_
  refine at_mv 8 4 rfl rfl rfl (.inr rfl) rfl (by dsimp only [List.set]) ?_
  refine at_end rfl ?_
  refine at_ret rfl (ret_one1 (t := 4) (os := dk l (dkAt l at') (dkSt l at' st)) rfl rfl ?_ rfl ?_ rfl)
  all_goals rfl

end Go.Proofs.Ytaceggcohmmfhaa


namespace Go.Proofs.Ytaceggcohmmfhaa
open Go.Dv

def dn (l : List Int) (s : Nat × Int) : Nat × Int := (dkAt l s.1, dkSt l s.1 s.2)
end Go.Proofs.Ytaceggcohmmfhaa


namespace Go.Proofs.Ytaceggcohmmfhaa
open Go.Dv

def ord (x y : Int) : Int := if x < y then -1 else if x > y then 1 else 0
def cmpL : List Int → List Int → Int
  | x :: a, y :: b => if ord x y = 0 then cmpL a b else ord x y
  | [], _ :: _ => -1
  | _ :: _, [] => 1
  | [], [] => 0
def orL : List Int → Int
  | [] => 0
  | x :: a => if x = 0 then orL a else x
def cmpV (a b : List Int) : Int := if ord a.length b.length = 0 then cmpL a b else ord a.length b.length
theorem cmpL_at {a b : List Int} {i : Nat} {x y : Int} (hx : a[i]? = some x) (hy : b[i]? = some y) : cmpL (a.drop i) (b.drop i) = if ord x y = 0 then cmpL (a.drop (i + 1)) (b.drop (i + 1)) else ord x y := by
  obtain ⟨ha1, ha2⟩ := List.getElem?_eq_some_iff.1 hx
  obtain ⟨hb1, hb2⟩ := List.getElem?_eq_some_iff.1 hy
  rw [List.drop_eq_getElem_cons ha1, List.drop_eq_getElem_cons hb1, ha2, hb2]
  rfl
theorem cmpL_end {a b : List Int} {i : Nat} (hx : i = a.length) : cmpL (a.drop i) (b.drop i) = if a.length < b.length then -1 else 0 := by
  subst hx
  rw [List.drop_of_length_le (Nat.le_refl _)]
  by_cases h : a.length < b.length
  · rw [List.drop_eq_getElem_cons h, if_pos h]; rfl
  · rw [List.drop_of_length_le (by omega), if_neg h]; rfl
theorem orL_at {a : List Int} {i : Nat} {x : Int} (hx : a[i]? = some x) : orL (a.drop i) = if x = 0 then orL (a.drop (i + 1)) else x := by
  obtain ⟨ha1, ha2⟩ := List.getElem?_eq_some_iff.1 hx
  rw [List.drop_eq_getElem_cons ha1, ha2]; rfl
theorem orL_end {a : List Int} {i : Nat} (hx : a.length ≤ i) : orL (a.drop i) = 0 := by rw [List.drop_of_length_le hx]; rfl
theorem ord_zero {x y : Int} : ord x y = 0 ↔ x = y := by unfold ord; split <;> (try split) <;> omega
noncomputable def cNaN : Code := Try.f55.body.getD .skip
set_option maxRecDepth 20000 in
theorem nan_spec (x : Int) : FSpec PP 55 [di x] σ0 (db false) σ0 := by
  refine spec_at cNaN Try.func55 rfl (by kernel_rfl) (by first | decide | simp) _ (by dsimp only [Try.f55, List.length, Nat.reduceAdd, Nat.reduceSub, List.replicate, List.cons_append, List.nil_append]) ?_
  refine at_seq [0] [1] rfl ?_
  refine at_region rfl ?_
  refine at_mc 2 rfl rfl rfl (.inr rfl) (by dsimp only [constD]) (by dsimp only [List.set]) ?_
  refine at_end rfl ?_
  refine at_seq [1, 0] [1, 1] rfl ?_
  refine at_region rfl ?_
  refine at_mv 0 3 rfl rfl rfl (.inl rfl) rfl (by dsimp only [List.set]) ?_
  refine at_mv 0 4 rfl rfl rfl (.inl rfl) rfl (by dsimp only [List.set]) ?_
  refine at_op (some 5) rfl rfl rfl rfl (op_binI rfl rfl) (by dsimp only [putD, List.set]) ?_
  refine at_mv 5 2 rfl rfl rfl (.inr rfl) rfl (by dsimp only [List.set]) ?_
  refine at_end rfl ?_
  refine at_ret rfl (ret_one (t := 2) rfl rfl ?_ rfl)
  simp

noncomputable def cCompare : Code := Try.f47.body.getD .skip
set_option maxRecDepth 20000 in
theorem compare_spec (x y : Int) : FSpec PP 47 [di x, di y] σ0 (di (ord x y)) σ0 := by
  refine spec_at cCompare Try.func47 rfl (by kernel_rfl) (by first | decide | simp) _ (by dsimp only [Try.f47, List.length, Nat.reduceAdd, Nat.reduceSub, List.replicate, List.cons_append, List.nil_append]) ?_
  refine at_seq [0] [1] rfl ?_
  refine at_region rfl ?_
  refine at_mc 4 rfl rfl rfl (.inr rfl) (by dsimp only [constD]) (by dsimp only [List.set]) ?_
  refine at_end rfl ?_
  refine at_seq [1, 0] [1, 1] rfl ?_
  refine at_region rfl ?_
  refine at_mv 0 7 rfl rfl rfl (.inl rfl) rfl (by dsimp only [List.set]) ?_
  refine at_op (some 8) rfl rfl rfl rfl (op_call0 rfl rfl rfl rfl (nan_spec _)) (by dsimp only [putD, List.set]) ?_
  refine at_mv 8 5 rfl rfl rfl (.inr rfl) rfl (by dsimp only [List.set]) ?_
  refine at_end rfl ?_
  refine at_seq [1, 1, 0] [1, 1, 1] rfl ?_
  refine at_region rfl ?_
  refine at_mv 1 9 rfl rfl rfl (.inl rfl) rfl (by dsimp only [List.set]) ?_
  refine at_op (some 10) rfl rfl rfl rfl (op_call0 rfl rfl rfl rfl (nan_spec _)) (by dsimp only [putD, List.set]) ?_
  refine at_mv 10 6 rfl rfl rfl (.inr rfl) rfl (by dsimp only [List.set]) ?_
  refine at_end rfl ?_
  refine at_seq [1, 1, 1, 0] [1, 1, 1, 1] rfl ?_
  refine at_seq [1, 1, 1, 0, 0] [1, 1, 1, 0, 1] rfl ?_
  refine at_region rfl ?_
  refine at_mv 5 11 rfl rfl rfl (.inl rfl) rfl (by dsimp only [List.set]) ?_
  refine at_end rfl ?_
  refine at_false [1, 1, 1, 0, 1, 0] [1, 1, 1, 0, 1, 1] rfl rfl ?_
  refine at_skip rfl ?_
  refine at_seq [1, 1, 1, 1, 0] [1, 1, 1, 1, 1] rfl ?_
  refine at_seq [1, 1, 1, 1, 0, 0] [1, 1, 1, 1, 0, 1] rfl ?_
  refine at_region rfl ?_
  refine at_mv 6 13 rfl rfl rfl (.inl rfl) rfl (by dsimp only [List.set]) ?_
  refine at_end rfl ?_
  refine at_false [1, 1, 1, 1, 0, 1, 0] [1, 1, 1, 1, 0, 1, 1] rfl rfl ?_
  refine at_skip rfl ?_
  refine at_seq [1, 1, 1, 1, 1, 0] [1, 1, 1, 1, 1, 1] rfl ?_
  refine at_seq [1, 1, 1, 1, 1, 0, 0] [1, 1, 1, 1, 1, 0, 1] rfl ?_
  refine at_region rfl ?_
  refine at_mv 0 14 rfl rfl rfl (.inl rfl) rfl (by dsimp only [List.set]) ?_
  refine at_mv 1 15 rfl rfl rfl (.inl rfl) rfl (by dsimp only [List.set]) ?_
  refine at_op (some 16) rfl rfl rfl rfl (op_binI rfl rfl) (by dsimp only [putD, List.set]) ?_
  refine at_end rfl ?_
  refine at_cond [1, 1, 1, 1, 1, 0, 1, 0] [1, 1, 1, 1, 1, 0, 1, 1] rfl rfl (fun hc1 => ?_) (fun hc1 => ?_)
  · skip
    refine at_seq [1, 1, 1, 1, 1, 0, 1, 0, 0] [1, 1, 1, 1, 1, 0, 1, 0, 1] rfl ?_
    refine at_region rfl ?_
    refine at_mc 4 rfl rfl rfl (.inr rfl) (by dsimp only [constD]) (by dsimp only [List.set]) ?_
    refine at_end rfl ?_
    refine at_ret rfl (ret_one (t := 4) rfl rfl ?_ rfl)
    first | (exfalso; simp at *; done) | (simp at *; unfold ord; split <;> (try split) <;> first | rfl | omega)
  · skip
    refine at_skip rfl ?_
    refine at_seq [1, 1, 1, 1, 1, 1, 0] [1, 1, 1, 1, 1, 1, 1] rfl ?_
    refine at_seq [1, 1, 1, 1, 1, 1, 0, 0] [1, 1, 1, 1, 1, 1, 0, 1] rfl ?_
    refine at_region rfl ?_
    refine at_mv 0 17 rfl rfl rfl (.inl rfl) rfl (by dsimp only [List.set]) ?_
    refine at_mv 1 18 rfl rfl rfl (.inl rfl) rfl (by dsimp only [List.set]) ?_
    refine at_op (some 19) rfl rfl rfl rfl (op_binI rfl rfl) (by dsimp only [putD, List.set]) ?_
    refine at_end rfl ?_
    refine at_cond [1, 1, 1, 1, 1, 1, 0, 1, 0] [1, 1, 1, 1, 1, 1, 0, 1, 1] rfl rfl (fun hc2 => ?_) (fun hc2 => ?_)
    · skip
      refine at_seq [1, 1, 1, 1, 1, 1, 0, 1, 0, 0] [1, 1, 1, 1, 1, 1, 0, 1, 0, 1] rfl ?_
      refine at_region rfl ?_
      refine at_mc 4 rfl rfl rfl (.inr rfl) (by dsimp only [constD]) (by dsimp only [List.set]) ?_
      refine at_end rfl ?_
      refine at_ret rfl (ret_one (t := 4) rfl rfl ?_ rfl)
      first | (exfalso; simp at *; done) | (simp at *; unfold ord; split <;> (try split) <;> first | rfl | omega)
    · skip
      refine at_skip rfl ?_
      refine at_seq [1, 1, 1, 1, 1, 1, 1, 0] [1, 1, 1, 1, 1, 1, 1, 1] rfl ?_
      refine at_region rfl ?_
      refine at_mc 4 rfl rfl rfl (.inr rfl) (by dsimp only [constD]) (by dsimp only [List.set]) ?_
      refine at_end rfl ?_
      refine at_ret rfl (ret_one (t := 4) rfl rfl ?_ rfl)
      first | (exfalso; simp at *; done) | (simp at *; unfold ord; split <;> (try split) <;> first | rfl | omega)

noncomputable def cOr : Code := Try.f46.body.getD .skip
set_option maxRecDepth 20000 in
theorem or_loop (a : List Int) (hs : a.length ≤ 1000000) (m : Nat) : ∀ i : Nat, a.length - i = m → orL a = orL (a.drop i) → Run PP (fun env σ1 => ResOK PP Try.f46 env σ1 (di (orL a)) σ0) [.lp (sub cOr [1, 1, 0, 1, 0, 0]), .blk 0, .code (sub cOr [1, 1, 1])] ((dl a) :: .undef :: (di 0) :: (di 0) :: .undef :: .undef :: (dl a) :: (di ↑a.length) :: (di ↑i) :: .undef :: .undef :: .undef :: .undef :: .undef :: .undef :: .undef :: .undef :: .undef :: []) σ0 := by
  induction m using Nat.strongRecOn with
  | _ m ih =>
    intro i hm hb
    refine run_lp ?_
    refine at_seq [1, 1, 0, 1, 0, 0, 0] [1, 1, 0, 1, 0, 0, 1] rfl ?_
    refine at_region rfl ?_
    refine at_op (some 9) rfl rfl rfl rfl (op_binI rfl rfl) (by dsimp only [putD, List.set]) ?_
    refine at_end rfl ?_
    refine at_seq [1, 1, 0, 1, 0, 0, 1, 0] [1, 1, 0, 1, 0, 0, 1, 1] rfl ?_
    refine at_cond [1, 1, 0, 1, 0, 0, 1, 0, 0] [1, 1, 0, 1, 0, 0, 1, 0, 1] rfl rfl (fun hc1 => ?_) (fun hc1 => ?_)
    · skip
      have hlt : i < a.length := by simpa using hc1
      obtain ⟨x, hx⟩ := get_ex hlt
      rw [orL_at hx] at hb
      refine at_skip rfl ?_
      refine at_seq [1, 1, 0, 1, 0, 0, 1, 1, 0] [1, 1, 0, 1, 0, 0, 1, 1, 1] rfl ?_
      refine at_block [1, 1, 0, 1, 0, 0, 1, 1, 0, 0] 1 rfl ?_
      refine at_seq [1, 1, 0, 1, 0, 0, 1, 1, 0, 0, 0] [1, 1, 0, 1, 0, 0, 1, 1, 0, 0, 1] rfl ?_
      refine at_region rfl ?_
      first | (refine at_op (some 10) rfl rfl rfl rfl (op_idxL rfl slInt (by first | decide | omega) (by first | exact idx_some (by assumption) | assumption | rfl) (by first | rfl | (simp [V.size]; done))) (by dsimp only [putD, List.set]) ?_) | (refine at_op (some 10) rfl rfl rfl rfl (opOK_un (op_idxL rfl slInt (by first | decide | omega) (by first | exact idx_some (by assumption) | assumption | rfl) (by first | rfl | (simp [V.size]; done)))) (by dsimp only [putD, List.set]) ?_) | (refine at_op (some 10) rfl rfl rfl rfl (op_idxA rfl slInt (by first | decide | omega) (by first | decide | omega)) (by dsimp only [putD, List.set]) ?_)
      first | (refine at_op (some 11) rfl rfl rfl rfl (op_loadR1 rfl oneInt rfl) (by dsimp only [putD, List.set]) ?_) | (refine at_op (some 11) rfl rfl rfl rfl (op_loadP1 rfl oneInt rfl rfl) (by dsimp only [putD, List.set]) ?_)
      refine at_mv 11 5 rfl rfl rfl (.inr rfl) rfl (by dsimp only [List.set]) ?_
      refine at_end rfl ?_
      refine at_seq [1, 1, 0, 1, 0, 0, 1, 1, 0, 0, 1, 0] [1, 1, 0, 1, 0, 0, 1, 1, 0, 0, 1, 1] rfl ?_
      refine at_region rfl ?_
      refine at_mv 5 12 rfl rfl rfl (.inl rfl) rfl (by dsimp only [List.set]) ?_
      refine at_mv 3 13 rfl rfl rfl (.inl rfl) rfl (by dsimp only [List.set]) ?_
      refine at_op (some 14) rfl rfl rfl rfl (op_binI rfl rfl) (by dsimp only [putD, List.set]) ?_
      refine at_end rfl ?_
      refine at_cond [1, 1, 0, 1, 0, 0, 1, 1, 0, 0, 1, 1, 0] [1, 1, 0, 1, 0, 0, 1, 1, 0, 0, 1, 1, 1] rfl rfl (fun hc2 => ?_) (fun hc2 => ?_)
      · skip
        refine at_seq [1, 1, 0, 1, 0, 0, 1, 1, 0, 0, 1, 1, 0, 0] [1, 1, 0, 1, 0, 0, 1, 1, 0, 0, 1, 1, 0, 1] rfl ?_
        refine at_region rfl ?_
        refine at_mv 5 15 rfl rfl rfl (.inl rfl) rfl (by dsimp only [List.set]) ?_
        refine at_mv 15 2 rfl rfl rfl (.inr rfl) rfl (by dsimp only [List.set]) ?_
        refine at_end rfl ?_
        refine at_ret rfl (ret_one (t := 2) rfl rfl ?_ rfl)
        first | (rw [hb]; done) | (simp_all; done)
      · skip
        refine at_skip rfl ?_
        refine run_blk ?_
        refine at_region rfl ?_
        refine at_op (some 16) rfl rfl rfl rfl (op_binI rfl rfl) (by dsimp only [putD, List.set]) ?_
        refine at_mv 16 8 rfl rfl rfl (.inl rfl) rfl (by dsimp only [List.set]) ?_
        refine at_end rfl ?_
        rw [wrap_succ (by omega)]
        exact run_wk (.keep (.drop (.keep (.keep (.drop (.drop (.keep (.keep (.keep (.drop (.drop (.drop (.drop (.drop (.drop (.drop (.drop (.drop .nil)))))))))))))))))) (ih _ (by omega) (i + 1) rfl (by simp_all))
    · skip
      have hge : a.length ≤ i := by simpa using hc1
      rw [orL_end hge] at hb
      refine at_exit rfl rfl ?_
      refine at_seq [1, 1, 1, 0] [1, 1, 1, 1] rfl ?_
      refine at_region rfl ?_
      refine at_mv 3 17 rfl rfl rfl (.inl rfl) rfl (by dsimp only [List.set]) ?_
      refine at_mv 17 2 rfl rfl rfl (.inr rfl) rfl (by dsimp only [List.set]) ?_
      refine at_end rfl ?_
      refine at_ret rfl (ret_one (t := 2) rfl rfl ?_ rfl)
      first | (rw [hb]; done) | (simp_all; done)

set_option maxRecDepth 20000 in
theorem or_spec (a : List Int) (hs : a.length ≤ 1000000) : FSpec PP 46 [dl a] σ0 (di (orL a)) σ0 := by
  refine spec_at cOr Try.func46 rfl (by kernel_rfl) (by first | decide | simp) _ (by dsimp only [Try.f46, List.length, Nat.reduceAdd, Nat.reduceSub, List.replicate, List.cons_append, List.nil_append]) ?_
  refine at_seq [0] [1] rfl ?_
  refine at_region rfl ?_
  refine at_mc 2 rfl rfl rfl (.inr rfl) (by dsimp only [constD]) (by dsimp only [List.set]) ?_
  refine at_end rfl ?_
  refine at_seq [1, 0] [1, 1] rfl ?_
  refine at_region rfl ?_
  refine at_mc 3 rfl rfl rfl (.inr rfl) (by dsimp only [constD]) (by dsimp only [List.set]) ?_
  refine at_end rfl ?_
  refine at_seq [1, 1, 0] [1, 1, 1] rfl ?_
  refine at_seq [1, 1, 0, 0] [1, 1, 0, 1] rfl ?_
  refine at_region rfl ?_
  refine at_mv 0 6 rfl rfl rfl (.inl rfl) rfl (by dsimp only [List.set]) ?_
  first | (refine at_op (some 7) rfl rfl rfl rfl (op_lenL rfl uInts) (by dsimp only [putD, List.set]) ?_) | (refine at_op (some 7) rfl rfl rfl rfl (opOK_un (op_lenL rfl uInts)) (by dsimp only [putD, List.set]) ?_) | (refine at_op (some 7) rfl rfl rfl rfl (op_lenA rfl uInts) (by dsimp only [putD, List.set]) ?_)
  refine at_mc 8 rfl rfl rfl (.inl rfl) (by dsimp only [constD]) (by dsimp only [List.set]) ?_
  refine at_end rfl ?_
  refine at_block [1, 1, 0, 1, 0] 0 rfl ?_
  refine at_loop [1, 1, 0, 1, 0, 0] rfl ?_
  try simp only [List.length_map, List.length_nil, Int.toNat_natCast]
  exact or_loop a hs _ 0 rfl (by simp)

noncomputable def cROrder : Code := Try.f49.body.getD .skip
set_option maxRecDepth 20000 in
theorem order_spec (x y : Int) : FSpec PP 49 [di x, di y] σ0 (di (ord x y)) σ0 := by
  refine spec_at cROrder Try.func49 rfl (by kernel_rfl) (by first | decide | simp) _ (by dsimp only [Try.f49, List.length, Nat.reduceAdd, Nat.reduceSub, List.replicate, List.cons_append, List.nil_append]) ?_
  refine at_seq [0] [1] rfl ?_
  refine at_region rfl ?_
  refine at_mc 4 rfl rfl rfl (.inr rfl) (by dsimp only [constD]) (by dsimp only [List.set]) ?_
  refine at_end rfl ?_
  refine at_seq [1, 0] [1, 1] rfl ?_
  refine at_seq [1, 0, 0] [1, 0, 1] rfl ?_
  refine at_region rfl ?_
  refine at_mv 0 5 rfl rfl rfl (.inl rfl) rfl (by dsimp only [List.set]) ?_
  refine at_mv 1 6 rfl rfl rfl (.inl rfl) rfl (by dsimp only [List.set]) ?_
  refine at_op (some 7) rfl rfl rfl rfl (op_binI rfl rfl) (by dsimp only [putD, List.set]) ?_
  refine at_end rfl ?_
  refine at_cond [1, 0, 1, 0] [1, 0, 1, 1] rfl rfl (fun hc1 => ?_) (fun hc1 => ?_)
  · skip
    refine at_seq [1, 0, 1, 0, 0] [1, 0, 1, 0, 1] rfl ?_
    refine at_region rfl ?_
    refine at_mc 4 rfl rfl rfl (.inr rfl) (by dsimp only [constD]) (by dsimp only [List.set]) ?_
    refine at_end rfl ?_
    refine at_ret rfl (ret_one (t := 4) rfl rfl ?_ rfl)
    first | (exfalso; simp at *; done) | (simp at *; unfold ord; split <;> (try split) <;> first | rfl | omega)
  · skip
    refine at_skip rfl ?_
    refine at_seq [1, 1, 0] [1, 1, 1] rfl ?_
    refine at_seq [1, 1, 0, 0] [1, 1, 0, 1] rfl ?_
    refine at_region rfl ?_
    refine at_mv 0 8 rfl rfl rfl (.inl rfl) rfl (by dsimp only [List.set]) ?_
    refine at_mv 1 9 rfl rfl rfl (.inl rfl) rfl (by dsimp only [List.set]) ?_
    refine at_op (some 10) rfl rfl rfl rfl (op_binI rfl rfl) (by dsimp only [putD, List.set]) ?_
    refine at_end rfl ?_
    refine at_cond [1, 1, 0, 1, 0] [1, 1, 0, 1, 1] rfl rfl (fun hc2 => ?_) (fun hc2 => ?_)
    · skip
      refine at_seq [1, 1, 0, 1, 0, 0] [1, 1, 0, 1, 0, 1] rfl ?_
      refine at_region rfl ?_
      refine at_mc 4 rfl rfl rfl (.inr rfl) (by dsimp only [constD]) (by dsimp only [List.set]) ?_
      refine at_end rfl ?_
      refine at_ret rfl (ret_one (t := 4) rfl rfl ?_ rfl)
      first | (exfalso; simp at *; done) | (simp at *; unfold ord; split <;> (try split) <;> first | rfl | omega)
    · skip
      refine at_skip rfl ?_
      refine at_seq [1, 1, 1, 0] [1, 1, 1, 1] rfl ?_
      refine at_region rfl ?_
      refine at_mc 4 rfl rfl rfl (.inr rfl) (by dsimp only [constD]) (by dsimp only [List.set]) ?_
      refine at_end rfl ?_
      refine at_ret rfl (ret_one (t := 4) rfl rfl ?_ rfl)
      first | (exfalso; simp at *; done) | (simp at *; unfold ord; split <;> (try split) <;> first | rfl | omega)

noncomputable def cRCompare : Code := Try.f33.body.getD .skip
set_option maxRecDepth 20000 in
theorem rcompare_loop (a b : List Int) (h : a.length = b.length) (hs : a.length ≤ 1000000) (m : Nat) : ∀ i : Nat, a.length - i = m → i ≤ a.length → cmpV a b = cmpL (a.drop i) (b.drop i) → Run PP (fun env σ1 => ResOK PP Try.f33 env σ1 (di (cmpV a b)) σ0) [.lp (sub cRCompare [1, 1, 0, 1, 0, 0]), .blk 0, .code (sub cRCompare [1, 1, 1])] ((dl a) :: (dl b) :: .undef :: .undef :: (di 0) :: (di ↑i) :: .undef :: .undef :: .undef :: .undef :: .undef :: .undef :: .undef :: .undef :: .undef :: .undef :: .undef :: .undef :: .undef :: .undef :: .undef :: .undef :: .undef :: .undef :: .undef :: .undef :: .undef :: .undef :: .undef :: .undef :: .undef :: .undef :: .undef :: .undef :: .undef :: .undef :: .undef :: .undef :: .undef :: .undef :: []) σ0 := by
  induction m using Nat.strongRecOn with
  | _ m ih =>
    intro i hm hi hb
    refine run_lp ?_
    refine at_seq [1, 1, 0, 1, 0, 0, 0] [1, 1, 0, 1, 0, 0, 1] rfl ?_
    refine at_seq [1, 1, 0, 1, 0, 0, 0, 0] [1, 1, 0, 1, 0, 0, 0, 1] rfl ?_
    refine at_region rfl ?_
    refine at_mv 5 16 rfl rfl rfl (.inl rfl) rfl (by dsimp only [List.set]) ?_
    refine at_mv 0 17 rfl rfl rfl (.inl rfl) rfl (by dsimp only [List.set]) ?_
    first | (refine at_op (some 18) rfl rfl rfl rfl (op_lenL rfl uInts) (by dsimp only [putD, List.set]) ?_) | (refine at_op (some 18) rfl rfl rfl rfl (opOK_un (op_lenL rfl uInts)) (by dsimp only [putD, List.set]) ?_) | (refine at_op (some 18) rfl rfl rfl rfl (op_lenA rfl uInts) (by dsimp only [putD, List.set]) ?_)
    refine at_op (some 19) rfl rfl rfl rfl (op_binI rfl rfl) (by dsimp only [putD, List.set]) ?_
    refine at_end rfl ?_
    refine at_cond [1, 1, 0, 1, 0, 0, 0, 1, 0] [1, 1, 0, 1, 0, 0, 0, 1, 1] rfl rfl (fun hc1 => ?_) (fun hc1 => ?_)
    · skip
      have hlt : i < a.length := by simpa using hc1
      obtain ⟨x, hx⟩ := get_ex hlt
      obtain ⟨y, hy⟩ := get_ex (a := b) (i := i) (by omega)
      rw [cmpL_at hx hy] at hb
      refine at_skip rfl ?_
      refine at_seq [1, 1, 0, 1, 0, 0, 1, 0] [1, 1, 0, 1, 0, 0, 1, 1] rfl ?_
      refine at_block [1, 1, 0, 1, 0, 0, 1, 0, 0] 1 rfl ?_
      refine at_seq [1, 1, 0, 1, 0, 0, 1, 0, 0, 0] [1, 1, 0, 1, 0, 0, 1, 0, 0, 1] rfl ?_
      refine at_draw mixed rfl [σ0] rfl ?_
      refine da_mv 0 22 rfl rfl rfl (.inl rfl) rfl (by dsimp only [List.set]) ?_
      refine da_mv 5 23 rfl rfl rfl (.inl rfl) rfl (by dsimp only [List.set]) ?_
      first | (refine da_quiet (some 24) rfl rfl rfl rfl (fun s hs => op_idxL rfl slInt (by first | decide | omega) (by first | exact idx_some (by assumption) | assumption | rfl) (by first | rfl | (simp [V.size]; done))) (by dsimp only [putD, List.set]) ?_) | (refine da_quiet (some 24) rfl rfl rfl rfl (fun s hs => opOK_un (op_idxL rfl slInt (by first | decide | omega) (by first | exact idx_some (by assumption) | assumption | rfl) (by first | rfl | (simp [V.size]; done)))) (by dsimp only [putD, List.set]) ?_) | (refine da_quiet (some 24) rfl rfl rfl rfl (fun s hs => op_idxA rfl slInt (by first | decide | omega) (by first | decide | omega)) (by dsimp only [putD, List.set]) ?_)
      first | (refine da_quiet (some 25) rfl rfl rfl rfl (fun s hs => op_loadR1 rfl oneInt rfl) (by dsimp only [putD, List.set]) ?_) | (refine da_quiet (some 25) rfl rfl rfl rfl (by intro s hs; simp only [List.mem_cons, List.not_mem_nil, or_false] at hs; rcases hs with rfl <;> exact op_loadP1 rfl oneInt rfl rfl) (by dsimp only [putD, List.set]) ?_)
      refine da_mv 1 26 rfl rfl rfl (.inl rfl) rfl (by dsimp only [List.set]) ?_
      refine da_mv 5 27 rfl rfl rfl (.inl rfl) rfl (by dsimp only [List.set]) ?_
      first | (refine da_quiet (some 28) rfl rfl rfl rfl (fun s hs => op_idxL rfl slInt (by first | decide | omega) (by first | exact idx_some (by assumption) | assumption | rfl) (by first | rfl | (simp [V.size]; done))) (by dsimp only [putD, List.set]) ?_) | (refine da_quiet (some 28) rfl rfl rfl rfl (fun s hs => opOK_un (op_idxL rfl slInt (by first | decide | omega) (by first | exact idx_some (by assumption) | assumption | rfl) (by first | rfl | (simp [V.size]; done)))) (by dsimp only [putD, List.set]) ?_) | (refine da_quiet (some 28) rfl rfl rfl rfl (fun s hs => op_idxA rfl slInt (by first | decide | omega) (by first | decide | omega)) (by dsimp only [putD, List.set]) ?_)
      first | (refine da_quiet (some 29) rfl rfl rfl rfl (fun s hs => op_loadR1 rfl oneInt rfl) (by dsimp only [putD, List.set]) ?_) | (refine da_quiet (some 29) rfl rfl rfl rfl (by intro s hs; simp only [List.mem_cons, List.not_mem_nil, or_false] at hs; rcases hs with rfl <;> exact op_loadP1 rfl oneInt rfl rfl) (by dsimp only [putD, List.set]) ?_)
      refine da_quiet (some 30) rfl rfl rfl rfl (fun s hs => op_binI rfl rfl) (by dsimp only [putD, List.set]) ?_
      refine da_end rfl ⟨by decide +kernel, _, rfl, ?_⟩
      refine at_cond [1, 1, 0, 1, 0, 0, 1, 0, 0, 1, 0] [1, 1, 0, 1, 0, 0, 1, 0, 0, 1, 1] rfl rfl (fun hc2 => ?_) (fun hc2 => ?_)
      · skip
        refine at_seq [1, 1, 0, 1, 0, 0, 1, 0, 0, 1, 0, 0] [1, 1, 0, 1, 0, 0, 1, 0, 0, 1, 0, 1] rfl ?_
        refine at_draw mixed rfl [σ0] rfl ?_
        refine da_mv 0 31 rfl rfl rfl (.inl rfl) rfl (by dsimp only [List.set]) ?_
        refine da_mv 5 32 rfl rfl rfl (.inl rfl) rfl (by dsimp only [List.set]) ?_
        first | (refine da_quiet (some 33) rfl rfl rfl rfl (fun s hs => op_idxL rfl slInt (by first | decide | omega) (by first | exact idx_some (by assumption) | assumption | rfl) (by first | rfl | (simp [V.size]; done))) (by dsimp only [putD, List.set]) ?_) | (refine da_quiet (some 33) rfl rfl rfl rfl (fun s hs => opOK_un (op_idxL rfl slInt (by first | decide | omega) (by first | exact idx_some (by assumption) | assumption | rfl) (by first | rfl | (simp [V.size]; done)))) (by dsimp only [putD, List.set]) ?_) | (refine da_quiet (some 33) rfl rfl rfl rfl (fun s hs => op_idxA rfl slInt (by first | decide | omega) (by first | decide | omega)) (by dsimp only [putD, List.set]) ?_)
        first | (refine da_quiet (some 34) rfl rfl rfl rfl (fun s hs => op_loadR1 rfl oneInt rfl) (by dsimp only [putD, List.set]) ?_) | (refine da_quiet (some 34) rfl rfl rfl rfl (by intro s hs; simp only [List.mem_cons, List.not_mem_nil, or_false] at hs; rcases hs with rfl <;> exact op_loadP1 rfl oneInt rfl rfl) (by dsimp only [putD, List.set]) ?_)
        refine da_mv 1 35 rfl rfl rfl (.inl rfl) rfl (by dsimp only [List.set]) ?_
        refine da_mv 5 36 rfl rfl rfl (.inl rfl) rfl (by dsimp only [List.set]) ?_
        first | (refine da_quiet (some 37) rfl rfl rfl rfl (fun s hs => op_idxL rfl slInt (by first | decide | omega) (by first | exact idx_some (by assumption) | assumption | rfl) (by first | rfl | (simp [V.size]; done))) (by dsimp only [putD, List.set]) ?_) | (refine da_quiet (some 37) rfl rfl rfl rfl (fun s hs => opOK_un (op_idxL rfl slInt (by first | decide | omega) (by first | exact idx_some (by assumption) | assumption | rfl) (by first | rfl | (simp [V.size]; done)))) (by dsimp only [putD, List.set]) ?_) | (refine da_quiet (some 37) rfl rfl rfl rfl (fun s hs => op_idxA rfl slInt (by first | decide | omega) (by first | decide | omega)) (by dsimp only [putD, List.set]) ?_)
        first | (refine da_quiet (some 38) rfl rfl rfl rfl (fun s hs => op_loadR1 rfl oneInt rfl) (by dsimp only [putD, List.set]) ?_) | (refine da_quiet (some 38) rfl rfl rfl rfl (by intro s hs; simp only [List.mem_cons, List.not_mem_nil, or_false] at hs; rcases hs with rfl <;> exact op_loadP1 rfl oneInt rfl rfl) (by dsimp only [putD, List.set]) ?_)
        refine da_quiet (some 39) rfl rfl rfl rfl (fun s hs => op_call0 rfl rfl rfl rfl (order_spec _ _)) (by dsimp only [putD, List.set]) ?_
        refine da_mv 39 4 rfl rfl rfl (.inr rfl) rfl (by dsimp only [List.set]) ?_
        refine da_end rfl ⟨by decide +kernel, _, rfl, ?_⟩
        refine at_ret rfl (ret_one (t := 4) rfl rfl ?_ rfl)
        first | (rw [hb]; done) | (simp_all [ord_zero]; done)
      · skip
        refine at_skip rfl ?_
        refine run_blk ?_
        refine at_region rfl ?_
        refine at_mv 5 20 rfl rfl rfl (.inl rfl) rfl (by dsimp only [List.set]) ?_
        refine at_op (some 21) rfl rfl rfl rfl (op_binI rfl rfl) (by dsimp only [putD, List.set]) ?_
        refine at_mv 21 5 rfl rfl rfl (.inr rfl) rfl (by dsimp only [List.set]) ?_
        refine at_end rfl ?_
        rw [wrap_succ (by omega)]
        exact run_wk (.keep (.keep (.drop (.drop (.keep (.keep (.drop (.drop (.drop (.drop (.drop (.drop (.drop (.drop (.drop (.drop (.drop (.drop (.drop (.drop (.drop (.drop (.drop (.drop (.drop (.drop (.drop (.drop (.drop (.drop (.drop (.drop (.drop (.drop (.drop (.drop (.drop (.drop (.drop (.drop .nil)))))))))))))))))))))))))))))))))))))))) (ih _ (by omega) (i + 1) rfl (by omega) (by simp_all [ord_zero]))
    · skip
      have hge : a.length ≤ i := by simpa using hc1
      rw [cmpL_end (by omega), if_neg (by omega)] at hb
      refine at_exit rfl rfl ?_
      refine at_seq [1, 1, 1, 0] [1, 1, 1, 1] rfl ?_
      refine at_region rfl ?_
      refine at_mc 4 rfl rfl rfl (.inr rfl) (by dsimp only [constD]) (by dsimp only [List.set]) ?_
      refine at_end rfl ?_
      refine at_ret rfl (ret_one (t := 4) rfl rfl ?_ rfl)
      first | (rw [hb]; done) | (simp_all [ord_zero]; done)

set_option maxRecDepth 20000 in
theorem rcompare_spec (a b : List Int) (hs : a.length ≤ 1000000) : FSpec PP 33 [dl a, dl b] σ0 (di (cmpV a b)) σ0 := by
  refine spec_at cRCompare Try.func33 rfl (by kernel_rfl) (by first | decide | simp) _ (by dsimp only [Try.f33, List.length, Nat.reduceAdd, Nat.reduceSub, List.replicate, List.cons_append, List.nil_append]) ?_
  refine at_seq [0] [1] rfl ?_
  refine at_region rfl ?_
  refine at_mc 4 rfl rfl rfl (.inr rfl) (by dsimp only [constD]) (by dsimp only [List.set]) ?_
  refine at_end rfl ?_
  refine at_seq [1, 0] [1, 1] rfl ?_
  refine at_seq [1, 0, 0] [1, 0, 1] rfl ?_
  refine at_region rfl ?_
  refine at_mv 0 6 rfl rfl rfl (.inl rfl) rfl (by dsimp only [List.set]) ?_
  first | (refine at_op (some 7) rfl rfl rfl rfl (op_lenL rfl uInts) (by dsimp only [putD, List.set]) ?_) | (refine at_op (some 7) rfl rfl rfl rfl (opOK_un (op_lenL rfl uInts)) (by dsimp only [putD, List.set]) ?_) | (refine at_op (some 7) rfl rfl rfl rfl (op_lenA rfl uInts) (by dsimp only [putD, List.set]) ?_)
  refine at_mv 1 8 rfl rfl rfl (.inl rfl) rfl (by dsimp only [List.set]) ?_
  first | (refine at_op (some 9) rfl rfl rfl rfl (op_lenL rfl uInts) (by dsimp only [putD, List.set]) ?_) | (refine at_op (some 9) rfl rfl rfl rfl (opOK_un (op_lenL rfl uInts)) (by dsimp only [putD, List.set]) ?_) | (refine at_op (some 9) rfl rfl rfl rfl (op_lenA rfl uInts) (by dsimp only [putD, List.set]) ?_)
  refine at_op (some 10) rfl rfl rfl rfl (op_binI rfl rfl) (by dsimp only [putD, List.set]) ?_
  refine at_end rfl ?_
  refine at_cond [1, 0, 1, 0] [1, 0, 1, 1] rfl rfl (fun hc1 => ?_) (fun hc1 => ?_)
  · skip
    refine at_seq [1, 0, 1, 0, 0] [1, 0, 1, 0, 1] rfl ?_
    refine at_region rfl ?_
    refine at_mv 0 11 rfl rfl rfl (.inl rfl) rfl (by dsimp only [List.set]) ?_
    first | (refine at_op (some 12) rfl rfl rfl rfl (op_lenL rfl uInts) (by dsimp only [putD, List.set]) ?_) | (refine at_op (some 12) rfl rfl rfl rfl (opOK_un (op_lenL rfl uInts)) (by dsimp only [putD, List.set]) ?_) | (refine at_op (some 12) rfl rfl rfl rfl (op_lenA rfl uInts) (by dsimp only [putD, List.set]) ?_)
    refine at_mv 1 13 rfl rfl rfl (.inl rfl) rfl (by dsimp only [List.set]) ?_
    first | (refine at_op (some 14) rfl rfl rfl rfl (op_lenL rfl uInts) (by dsimp only [putD, List.set]) ?_) | (refine at_op (some 14) rfl rfl rfl rfl (opOK_un (op_lenL rfl uInts)) (by dsimp only [putD, List.set]) ?_) | (refine at_op (some 14) rfl rfl rfl rfl (op_lenA rfl uInts) (by dsimp only [putD, List.set]) ?_)
    refine at_op (some 15) rfl rfl rfl rfl (op_call0 rfl rfl rfl rfl (order_spec _ _)) (by dsimp only [putD, List.set]) ?_
    refine at_mv 15 4 rfl rfl rfl (.inr rfl) rfl (by dsimp only [List.set]) ?_
    refine at_end rfl ?_
    refine at_ret rfl (ret_one (t := 4) rfl rfl ?_ rfl)
    have hn : ¬ ord ↑a.length ↑b.length = 0 := by rw [ord_zero]; simp at *; omega
    simp [cmpV, hn]
  · skip
    refine at_skip rfl ?_
    refine at_seq [1, 1, 0] [1, 1, 1] rfl ?_
    refine at_seq [1, 1, 0, 0] [1, 1, 0, 1] rfl ?_
    refine at_region rfl ?_
    refine at_mc 5 rfl rfl rfl (.inr rfl) (by dsimp only [constD]) (by dsimp only [List.set]) ?_
    refine at_end rfl ?_
    refine at_block [1, 1, 0, 1, 0] 0 rfl ?_
    refine at_loop [1, 1, 0, 1, 0, 0] rfl ?_
    try simp only [List.length_map, List.length_nil, Int.toNat_natCast]
    have h : a.length = b.length := by simp_all; omega
    exact run_wk (.keep (.keep (.drop (.drop (.keep (.keep (.drop (.drop (.drop (.drop (.drop (.drop (.drop (.drop (.drop (.drop (.drop (.drop (.drop (.drop (.drop (.drop (.drop (.drop (.drop (.drop (.drop (.drop (.drop (.drop (.drop (.drop (.drop (.drop (.drop (.drop (.drop (.drop (.drop (.drop .nil)))))))))))))))))))))))))))))))))))))))) (rcompare_loop a b h hs _ 0 rfl (by omega) (by simp [cmpV, h, ord]))

noncomputable def cSame : Code := Try.f17.body.getD .skip
set_option maxRecDepth 20000 in
theorem same_spec (a b : List Int) (hs : a.length ≤ 1000000) : FSpec PP 17 [dl a, dl b] σ0 (db (cmpV a b == 0)) σ0 := by
  refine spec_at cSame Try.func17 rfl (by kernel_rfl) (by first | decide | simp) _ (by dsimp only [Try.f17, List.length, Nat.reduceAdd, Nat.reduceSub, List.replicate, List.cons_append, List.nil_append]) ?_
  refine at_seq [0] [1] rfl ?_
  refine at_region rfl ?_
  refine at_mc 4 rfl rfl rfl (.inr rfl) (by dsimp only [constD]) (by dsimp only [List.set]) ?_
  refine at_end rfl ?_
  refine at_seq [1, 0] [1, 1] rfl ?_
  refine at_region rfl ?_
  refine at_mv 0 5 rfl rfl rfl (.inl rfl) rfl (by dsimp only [List.set]) ?_
  refine at_mv 1 6 rfl rfl rfl (.inl rfl) rfl (by dsimp only [List.set]) ?_
  refine at_op (some 7) rfl rfl rfl rfl (op_call0 rfl rfl rfl rfl (rcompare_spec _ _ hs)) (by dsimp only [putD, List.set]) ?_
  refine at_op (some 8) rfl rfl rfl rfl (op_binI rfl rfl) (by dsimp only [putD, List.set]) ?_
  refine at_mv 8 4 rfl rfl rfl (.inr rfl) rfl (by dsimp only [List.set]) ?_
  refine at_end rfl ?_
  refine at_ret rfl (ret_one (t := 4) rfl rfl ?_ rfl)
  rfl

end Go.Proofs.Ytaceggcohmmfhaa

