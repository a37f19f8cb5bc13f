/-
  Walks of package vector, continued; the deck that deals numbers.
-/
import Derived.Test.YtoofgniepbidnaaWb
import Derived.Laws.Bits64
namespace Go.Proofs.Ytoofgniepbidnaa
open Go.Dv

def addM (a b : List Int) : List Int × Int :=
  if (joinM (valid a) (valid b) addF a b).2 = 0 then (if valid (joinM (valid a) (valid b) addF a b).1 then ((joinM (valid a) (valid b) addF a b).1, 0) else ([], 1)) else ([], (joinM (valid a) (valid b) addF a b).2)
def subM (a b : List Int) : List Int × Int :=
  if (joinM (valid a) (finite b) subF a b).2 = 0 then (if below b a then ((joinM (valid a) (finite b) subF a b).1, 0) else ([], 11)) else ([], (joinM (valid a) (finite b) subF a b).2)
theorem join_ok {va rb : Bool} {f : Int → Int → Int} {a b : List Int} (h : (joinM va rb f a b).2 = 0) : va = true ∧ rb = true ∧ a.length = b.length ∧ (joinM va rb f a b).1 = List.zipWith f a b := by
  unfold joinM at h ⊢
  by_cases h1 : (va && rb) = true
  · rw [if_pos h1] at h ⊢
    by_cases h2 : a.length = b.length
    · rw [if_pos h2]; simp at h1; exact ⟨h1.1, h1.2, h2, rfl⟩
    · rw [if_neg h2] at h; simp at h
  · rw [if_neg h1] at h; simp at h

/- THE DECK -/
/-- its cells: the list, the place, the state -/
abbrev dk (l : List Int) (at' : Nat) (st : Int) : List D := [dl l, di ↑at', .v (.int .u64 st)]
abbrev σd (l : List Int) (at' : Nat) (st : Int) : St := ⟨[some (dk l at' st)], []⟩

/-- the next number of the list, as a uint64 -/
def dkX (l : List Int) (at' : Nat) : Int := match l[at']? with
  | some x => IntKind.u64.wrap x
  | none => 0
def dkAt (l : List Int) (at' : Nat) : Nat := if at' < l.length then at' + 1 else at'
def dkSt (l : List Int) (at' : Nat) (st : Int) : Int := IntKind.u64.wrap (IntKind.u64.wrap (IntKind.u64.wrap (st + dkX l at') * 6364136223846793005) + 1442695040888963407)
def mix1 (s : Int) : Int := IntKind.u64.wrap ↑(BitVec.ofInt IntKind.u64.bits s ^^^ BitVec.ofInt IntKind.u64.bits (s.fdiv (2 ^ (min (33 : Int).toNat IntKind.u64.bits)))).toNat
def mix2 (y : Int) : Int := IntKind.u64.wrap ↑(BitVec.ofInt IntKind.u64.bits y ^^^ BitVec.ofInt IntKind.u64.bits (y.fdiv (2 ^ (min (29 : Int).toNat IntKind.u64.bits)))).toNat
def longV (s : Int) : Int := mix2 (IntKind.u64.wrap (mix1 s * 18397679294719823053))
theorem u64_range (x : Int) : 0 ≤ IntKind.u64.wrap x ∧ IntKind.u64.wrap x < 18446744073709551616 := by
  rw [IntKind.wrap_u64]; omega
theorem longV_range (s : Int) : 0 ≤ longV s ∧ longV s < 18446744073709551616 := u64_range _

/-- a dealt number, and the deck behind it -/
def nextV (n : Int) (s : Int) : Int := (IntKind.i64.wrap ((longV s).fdiv (2 ^ (min (1 : Int).toNat IntKind.u64.bits)))).tmod n
theorem nextV_range {n s : Int} (h : 1 ≤ n) : 0 ≤ nextV n s ∧ nextV n s < n := by
  have h1 := longV_range s
  have h2 : (2 ^ (min (1 : Int).toNat IntKind.u64.bits) : Int) = 2 := by decide
  unfold nextV
  rw [h2]
  have h3 : 0 ≤ (longV s).fdiv 2 ∧ (longV s).fdiv 2 < 9223372036854775808 := by
    rw [Int.fdiv_eq_ediv_of_nonneg _ (by omega)]; omega
  rw [wrap_id (by omega) (by omega), Int.tmod_eq_emod_of_nonneg h3.1]
  exact ⟨Int.emod_nonneg _ (by omega), Int.emod_lt_of_pos _ (by omega)⟩

noncomputable def cLeq : Code := Try.f20.body.getD .skip
set_option maxRecDepth 20000 in
theorem leq_spec (a b : List Int) : FSpec PP 20 [dl a, dl b] σ0 (db (leq a b)) σ0 := by
  refine spec_at cLeq Try.func20 rfl (by kernel_rfl) (by first | decide | simp) _ (by dsimp only [Try.f20, List.length, Nat.reduceAdd, Nat.reduceSub, List.replicate, List.cons_append, List.nil_append]) ?_
  refine at_seq [0] [1] rfl ?_
  refine at_region rfl ?_
  refine at_mc 4 rfl rfl rfl (.inr rfl) (by dsimp only [constD]) (by dsimp only [List.set]) ?_
  refine at_end rfl ?_
  refine at_seq [1, 0] [1, 1] rfl ?_
  refine at_region rfl ?_
  refine at_mv 0 5 rfl rfl rfl (.inl rfl) rfl (by dsimp only [List.set]) ?_
  refine at_op (some 6) rfl rfl rfl rfl (op_call0 rfl rfl rfl rfl (valid_spec _)) (by dsimp only [putD, List.set]) ?_
  refine at_mv 6 7 rfl rfl rfl (.inl rfl) rfl (by dsimp only [List.set]) ?_
  refine at_split 7 rfl (fun hb1 env' he => ?_) (fun hb1 env' he => ?_)
  · dsimp only [List.set] at he; subst he
    refine at_mv 1 8 rfl rfl rfl (.inl rfl) rfl (by dsimp only [List.set]) ?_
    refine at_op (some 9) rfl rfl rfl rfl (op_call0 rfl rfl rfl rfl (valid_spec _)) (by dsimp only [putD, List.set]) ?_
    refine at_pk true 7 9 10 rfl rfl rfl rfl rfl rfl rfl (by dsimp only [List.set]) ?_
    refine at_mv 10 11 rfl rfl rfl (.inl rfl) rfl (by dsimp only [List.set]) ?_
    refine at_split 11 rfl (fun hb2 env' he => ?_) (fun hb2 env' he => ?_)
    · dsimp only [List.set] at he; subst he
      refine at_mv 0 12 rfl rfl rfl (.inl rfl) rfl (by dsimp only [List.set]) ?_
      first | (refine at_op (some 13) rfl rfl rfl rfl (op_lenL rfl uInts) (by dsimp only [putD, List.set]) ?_) | (refine at_op (some 13) rfl rfl rfl rfl (opOK_un (op_lenL rfl uInts)) (by dsimp only [putD, List.set]) ?_) | (refine at_op (some 13) rfl rfl rfl rfl (op_lenA rfl uInts) (by dsimp only [putD, List.set]) ?_)
      refine at_mv 1 14 rfl rfl rfl (.inl rfl) rfl (by dsimp only [List.set]) ?_
      first | (refine at_op (some 15) rfl rfl rfl rfl (op_lenL rfl uInts) (by dsimp only [putD, List.set]) ?_) | (refine at_op (some 15) rfl rfl rfl rfl (opOK_un (op_lenL rfl uInts)) (by dsimp only [putD, List.set]) ?_) | (refine at_op (some 15) rfl rfl rfl rfl (op_lenA rfl uInts) (by dsimp only [putD, List.set]) ?_)
      refine at_op (some 16) rfl rfl rfl rfl (op_binI rfl rfl) (by dsimp only [putD, List.set]) ?_
      refine at_pk true 11 16 17 rfl rfl rfl rfl rfl rfl rfl (by dsimp only [List.set]) ?_
      refine at_mv 17 18 rfl rfl rfl (.inl rfl) rfl (by dsimp only [List.set]) ?_
      refine at_split 18 rfl (fun hb3 env' he => ?_) (fun hb3 env' he => ?_)
      · dsimp only [List.set] at he; subst he
        refine at_mv 0 19 rfl rfl rfl (.inl rfl) rfl (by dsimp only [List.set]) ?_
        refine at_mv 1 20 rfl rfl rfl (.inl rfl) rfl (by dsimp only [List.set]) ?_
        refine at_op (some 21) rfl rfl rfl rfl (op_call0 rfl rfl rfl rfl (below_spec a b (by simp_all; omega) (by have := valid_len (a := a) (by simp_all); omega))) (by dsimp only [putD, List.set]) ?_
        refine at_pk true 18 21 22 rfl rfl rfl rfl rfl rfl rfl (by dsimp only [List.set]) ?_
        refine at_mv 22 4 rfl rfl rfl (.inr rfl) rfl (by dsimp only [List.set]) ?_
        refine at_end rfl ?_
        refine at_ret rfl (ret_one (t := 4) rfl rfl ?_ rfl)
        first | (simp_all [leq]; done) | (have hl : ¬ a.length = b.length := (by simp_all; omega); simp_all [leq]; done) | (have hl : a.length = b.length := (by simp_all; omega); simp_all [leq]; done)
      · dsimp only [List.set] at he; subst he
        refine at_opN (some 19) rfl rfl rfl (by dsimp only [putD, List.set]) ?_
        refine at_opN (some 20) rfl rfl rfl (by dsimp only [putD, List.set]) ?_
        refine at_opN (some 21) rfl rfl rfl (by dsimp only [putD, List.set]) ?_
        refine at_pkc false 18 22 rfl rfl rfl rfl rfl rfl (by dsimp only [constD]) (by dsimp only [List.set]) ?_
        refine at_mv 22 4 rfl rfl rfl (.inr rfl) rfl (by dsimp only [List.set]) ?_
        refine at_end rfl ?_
        refine at_ret rfl (ret_one (t := 4) rfl rfl ?_ rfl)
        first | (simp_all [leq]; done) | (have hl : ¬ a.length = b.length := (by simp_all; omega); simp_all [leq]; done) | (have hl : a.length = b.length := (by simp_all; omega); simp_all [leq]; done)
    · dsimp only [List.set] at he; subst he
      refine at_opN (some 12) rfl rfl rfl (by dsimp only [putD, List.set]) ?_
      refine at_opN (some 13) rfl rfl rfl (by dsimp only [putD, List.set]) ?_
      refine at_opN (some 14) rfl rfl rfl (by dsimp only [putD, List.set]) ?_
      refine at_opN (some 15) rfl rfl rfl (by dsimp only [putD, List.set]) ?_
      refine at_opN (some 16) rfl rfl rfl (by dsimp only [putD, List.set]) ?_
      refine at_pkc false 11 17 rfl rfl rfl rfl rfl rfl (by dsimp only [constD]) (by dsimp only [List.set]) ?_
      refine at_mv 17 18 rfl rfl rfl (.inl rfl) rfl (by dsimp only [List.set]) ?_
      refine at_opN (some 19) rfl rfl rfl (by dsimp only [putD, List.set]) ?_
      refine at_opN (some 20) rfl rfl rfl (by dsimp only [putD, List.set]) ?_
      refine at_opN (some 21) rfl rfl rfl (by dsimp only [putD, List.set]) ?_
      refine at_pkc false 18 22 rfl rfl rfl rfl rfl rfl (by dsimp only [constD]) (by dsimp only [List.set]) ?_
      refine at_mv 22 4 rfl rfl rfl (.inr rfl) rfl (by dsimp only [List.set]) ?_
      refine at_end rfl ?_
      refine at_ret rfl (ret_one (t := 4) rfl rfl ?_ rfl)
      first | (simp_all [leq]; done) | (have hl : ¬ a.length = b.length := (by simp_all; omega); simp_all [leq]; done) | (have hl : a.length = b.length := (by simp_all; omega); simp_all [leq]; done)
  · dsimp only [List.set] at he; subst he
    refine at_opN (some 8) rfl rfl rfl (by dsimp only [putD, List.set]) ?_
    refine at_opN (some 9) rfl rfl rfl (by dsimp only [putD, List.set]) ?_
    refine at_pkc false 7 10 rfl rfl rfl rfl rfl rfl (by dsimp only [constD]) (by dsimp only [List.set]) ?_
    refine at_mv 10 11 rfl rfl rfl (.inl rfl) rfl (by dsimp only [List.set]) ?_
    refine at_opN (some 12) rfl rfl rfl (by dsimp only [putD, List.set]) ?_
    refine at_opN (some 13) rfl rfl rfl (by dsimp only [putD, List.set]) ?_
    refine at_opN (some 14) rfl rfl rfl (by dsimp only [putD, List.set]) ?_
    refine at_opN (some 15) rfl rfl rfl (by dsimp only [putD, List.set]) ?_
    refine at_opN (some 16) rfl rfl rfl (by dsimp only [putD, List.set]) ?_
    refine at_pkc false 11 17 rfl rfl rfl rfl rfl rfl (by dsimp only [constD]) (by dsimp only [List.set]) ?_
    refine at_mv 17 18 rfl rfl rfl (.inl rfl) rfl (by dsimp only [List.set]) ?_
    refine at_opN (some 19) rfl rfl rfl (by dsimp only [putD, List.set]) ?_
    refine at_opN (some 20) rfl rfl rfl (by dsimp only [putD, List.set]) ?_
    refine at_opN (some 21) rfl rfl rfl (by dsimp only [putD, List.set]) ?_
    refine at_pkc false 18 22 rfl rfl rfl rfl rfl rfl (by dsimp only [constD]) (by dsimp only [List.set]) ?_
    refine at_mv 22 4 rfl rfl rfl (.inr rfl) rfl (by dsimp only [List.set]) ?_
    refine at_end rfl ?_
    refine at_ret rfl (ret_one (t := 4) rfl rfl ?_ rfl)
    first | (simp_all [leq]; done) | (have hl : ¬ a.length = b.length := (by simp_all; omega); simp_all [leq]; done) | (have hl : a.length = b.length := (by simp_all; omega); simp_all [leq]; done)

noncomputable def cAdd : Code := Try.f22.body.getD .skip
set_option maxRecDepth 20000 in
theorem add_spec (a b : List Int) : FSpec PP 22 [dl a, dl b] σ0 (.tup [dl (addM a b).1, di (addM a b).2]) σ0 := by
  refine spec_at cAdd Try.func22 rfl (by kernel_rfl) (by first | decide | simp) _ (by dsimp only [Try.f22, List.length, Nat.reduceAdd, Nat.reduceSub, List.replicate, List.cons_append, List.nil_append]) ?_
  refine at_seq [0] [1] rfl ?_
  refine at_region rfl ?_
  refine at_mc 4 rfl rfl rfl (.inr rfl) (by dsimp only [constD]) (by dsimp only [List.set]) ?_
  refine at_mc 5 rfl rfl rfl (.inr rfl) (by dsimp only [constD]) (by dsimp only [List.set]) ?_
  refine at_end rfl ?_
  refine at_seq [1, 0] [1, 1] rfl ?_
  refine at_region rfl ?_
  refine at_mv 0 9 rfl rfl rfl (.inl rfl) rfl (by dsimp only [List.set]) ?_
  refine at_mv 1 10 rfl rfl rfl (.inl rfl) rfl (by dsimp only [List.set]) ?_
  refine at_op (some 11) rfl rfl rfl rfl (op_call0 rfl rfl rfl rfl (join_spec 30 59 (valid b) addF a b (valid_spec b) add1_spec)) (by dsimp only [putD, List.set]) ?_
  refine at_mv 11 8 rfl rfl rfl (.inl rfl) rfl (by dsimp only [List.set]) ?_
  refine at_op (some 12) rfl rfl rfl rfl (op_extract rfl rfl) (by dsimp only [putD, List.set]) ?_
  refine at_op (some 13) rfl rfl rfl rfl (op_extract rfl rfl) (by dsimp only [putD, List.set]) ?_
  refine at_mv 12 6 rfl rfl rfl (.inr rfl) rfl (by dsimp only [List.set]) ?_
  refine at_mv 13 7 rfl rfl rfl (.inr rfl) rfl (by dsimp only [List.set]) ?_
  refine at_end rfl ?_
  refine at_seq [1, 1, 0] [1, 1, 1] rfl ?_
  refine at_block [1, 1, 0, 0] 0 rfl ?_
  refine at_seq [1, 1, 0, 0, 0] [1, 1, 0, 0, 1] rfl ?_
  refine at_region rfl ?_
  refine at_mv 7 15 rfl rfl rfl (.inl rfl) rfl (by dsimp only [List.set]) ?_
  refine at_op (some 16) rfl rfl rfl rfl (op_binI rfl rfl) (by dsimp only [putD, List.set]) ?_
  refine at_mv 16 14 rfl rfl rfl (.inr rfl) rfl (by dsimp only [List.set]) ?_
  refine at_end rfl ?_
  refine at_cond [1, 1, 0, 0, 1, 0] [1, 1, 0, 0, 1, 1] rfl rfl (fun hc1 => ?_) (fun hc1 => ?_)
  · skip
    refine at_seq [1, 1, 0, 0, 1, 0, 0] [1, 1, 0, 0, 1, 0, 1] rfl ?_
    refine at_region rfl ?_
    refine at_mv 7 17 rfl rfl rfl (.inl rfl) rfl (by dsimp only [List.set]) ?_
    refine at_mc 4 rfl rfl rfl (.inr rfl) (by dsimp only [constD]) (by dsimp only [List.set]) ?_
    refine at_mv 17 5 rfl rfl rfl (.inr rfl) rfl (by dsimp only [List.set]) ?_
    refine at_end rfl ?_
    refine at_ret rfl (ret_two (t := 4) (t2 := 5) rfl rfl rfl ?_ ?_ rfl rfl)
    all_goals (simp_all [addM, D.un])
  · skip
    refine at_seq [1, 1, 0, 0, 1, 1, 0] [1, 1, 0, 0, 1, 1, 1] rfl ?_
    refine at_region rfl ?_
    refine at_mv 6 19 rfl rfl rfl (.inl rfl) rfl (by dsimp only [List.set]) ?_
    refine at_op (some 20) rfl rfl rfl rfl (op_call0 rfl rfl rfl rfl (valid_spec _)) (by dsimp only [putD, List.set]) ?_
    refine at_op (some 21) rfl rfl rfl rfl (op_un rfl rfl) (by dsimp only [putD, List.set]) ?_
    refine at_mv 21 18 rfl rfl rfl (.inr rfl) rfl (by dsimp only [List.set]) ?_
    refine at_end rfl ?_
    refine at_cond [1, 1, 0, 0, 1, 1, 1, 0] [1, 1, 0, 0, 1, 1, 1, 1] rfl rfl (fun hc2 => ?_) (fun hc2 => ?_)
    · skip
      refine at_seq [1, 1, 0, 0, 1, 1, 1, 0, 0] [1, 1, 0, 0, 1, 1, 1, 0, 1] rfl ?_
      refine at_region rfl ?_
      refine at_mc 4 rfl rfl rfl (.inr rfl) (by dsimp only [constD]) (by dsimp only [List.set]) ?_
      refine at_mc 5 rfl rfl rfl (.inr rfl) (by dsimp only [constD]) (by dsimp only [List.set]) ?_
      refine at_end rfl ?_
      refine at_ret rfl (ret_two (t := 4) (t2 := 5) rfl rfl rfl ?_ ?_ rfl rfl)
      all_goals (simp_all [addM, D.un])
    · skip
      refine at_skip rfl ?_
      refine run_blk ?_
      refine at_seq [1, 1, 1, 0] [1, 1, 1, 1] rfl ?_
      refine at_region rfl ?_
      refine at_mv 6 22 rfl rfl rfl (.inl rfl) rfl (by dsimp only [List.set]) ?_
      refine at_mv 22 4 rfl rfl rfl (.inr rfl) rfl (by dsimp only [List.set]) ?_
      refine at_mc 5 rfl rfl rfl (.inr rfl) (by dsimp only [constD]) (by dsimp only [List.set]) ?_
      refine at_end rfl ?_
      refine at_ret rfl (ret_two (t := 4) (t2 := 5) rfl rfl rfl ?_ ?_ rfl rfl)
      all_goals (simp_all [addM, D.un])

noncomputable def cSub : Code := Try.f23.body.getD .skip
set_option maxRecDepth 20000 in
theorem sub_spec (a b : List Int) : FSpec PP 23 [dl a, dl b] σ0 (.tup [dl (subM a b).1, di (subM a b).2]) σ0 := by
  refine spec_at cSub Try.func23 rfl (by kernel_rfl) (by first | decide | simp) _ (by dsimp only [Try.f23, List.length, Nat.reduceAdd, Nat.reduceSub, List.replicate, List.cons_append, List.nil_append]) ?_
  refine at_seq [0] [1] rfl ?_
  refine at_region rfl ?_
  refine at_mc 4 rfl rfl rfl (.inr rfl) (by dsimp only [constD]) (by dsimp only [List.set]) ?_
  refine at_mc 5 rfl rfl rfl (.inr rfl) (by dsimp only [constD]) (by dsimp only [List.set]) ?_
  refine at_end rfl ?_
  refine at_seq [1, 0] [1, 1] rfl ?_
  refine at_region rfl ?_
  refine at_mv 0 9 rfl rfl rfl (.inl rfl) rfl (by dsimp only [List.set]) ?_
  refine at_mv 1 10 rfl rfl rfl (.inl rfl) rfl (by dsimp only [List.set]) ?_
  refine at_op (some 11) rfl rfl rfl rfl (op_call0 rfl rfl rfl rfl (join_spec 32 60 (finite b) subF a b (finite_spec b) sub1_spec)) (by dsimp only [putD, List.set]) ?_
  refine at_mv 11 8 rfl rfl rfl (.inl rfl) rfl (by dsimp only [List.set]) ?_
  refine at_op (some 12) rfl rfl rfl rfl (op_extract rfl rfl) (by dsimp only [putD, List.set]) ?_
  refine at_op (some 13) rfl rfl rfl rfl (op_extract rfl rfl) (by dsimp only [putD, List.set]) ?_
  refine at_mv 12 6 rfl rfl rfl (.inr rfl) rfl (by dsimp only [List.set]) ?_
  refine at_mv 13 7 rfl rfl rfl (.inr rfl) rfl (by dsimp only [List.set]) ?_
  refine at_end rfl ?_
  refine at_seq [1, 1, 0] [1, 1, 1] rfl ?_
  refine at_block [1, 1, 0, 0] 0 rfl ?_
  refine at_seq [1, 1, 0, 0, 0] [1, 1, 0, 0, 1] rfl ?_
  refine at_region rfl ?_
  refine at_mv 7 15 rfl rfl rfl (.inl rfl) rfl (by dsimp only [List.set]) ?_
  refine at_op (some 16) rfl rfl rfl rfl (op_binI rfl rfl) (by dsimp only [putD, List.set]) ?_
  refine at_mv 16 14 rfl rfl rfl (.inr rfl) rfl (by dsimp only [List.set]) ?_
  refine at_end rfl ?_
  refine at_cond [1, 1, 0, 0, 1, 0] [1, 1, 0, 0, 1, 1] rfl rfl (fun hc1 => ?_) (fun hc1 => ?_)
  · skip
    refine at_seq [1, 1, 0, 0, 1, 0, 0] [1, 1, 0, 0, 1, 0, 1] rfl ?_
    refine at_region rfl ?_
    refine at_mv 7 17 rfl rfl rfl (.inl rfl) rfl (by dsimp only [List.set]) ?_
    refine at_mc 4 rfl rfl rfl (.inr rfl) (by dsimp only [constD]) (by dsimp only [List.set]) ?_
    refine at_mv 17 5 rfl rfl rfl (.inr rfl) rfl (by dsimp only [List.set]) ?_
    refine at_end rfl ?_
    refine at_ret rfl (ret_two (t := 4) (t2 := 5) rfl rfl rfl ?_ ?_ rfl rfl)
    all_goals (simp_all [subM, D.un])
  · skip
    refine at_seq [1, 1, 0, 0, 1, 1, 0] [1, 1, 0, 0, 1, 1, 1] rfl ?_
    refine at_region rfl ?_
    refine at_mv 1 19 rfl rfl rfl (.inl rfl) rfl (by dsimp only [List.set]) ?_
    refine at_mv 0 20 rfl rfl rfl (.inl rfl) rfl (by dsimp only [List.set]) ?_
    refine at_op (some 21) rfl rfl rfl rfl (op_call0 rfl rfl rfl rfl (below_spec b a (by have := join_ok (va := valid a) (rb := finite b) (f := subF) (a := a) (b := b) (by simp_all); omega) (by have := join_ok (va := valid a) (rb := finite b) (f := subF) (a := a) (b := b) (by simp_all); have := valid_len this.1; omega))) (by dsimp only [putD, List.set]) ?_
    refine at_op (some 22) rfl rfl rfl rfl (op_un rfl rfl) (by dsimp only [putD, List.set]) ?_
    refine at_mv 22 18 rfl rfl rfl (.inr rfl) rfl (by dsimp only [List.set]) ?_
    refine at_end rfl ?_
    refine at_cond [1, 1, 0, 0, 1, 1, 1, 0] [1, 1, 0, 0, 1, 1, 1, 1] rfl rfl (fun hc2 => ?_) (fun hc2 => ?_)
    · skip
      refine at_seq [1, 1, 0, 0, 1, 1, 1, 0, 0] [1, 1, 0, 0, 1, 1, 1, 0, 1] rfl ?_
      refine at_region rfl ?_
      refine at_mc 4 rfl rfl rfl (.inr rfl) (by dsimp only [constD]) (by dsimp only [List.set]) ?_
      refine at_mc 5 rfl rfl rfl (.inr rfl) (by dsimp only [constD]) (by dsimp only [List.set]) ?_
      refine at_end rfl ?_
      refine at_ret rfl (ret_two (t := 4) (t2 := 5) rfl rfl rfl ?_ ?_ rfl rfl)
      all_goals (simp_all [subM, D.un])
    · skip
      refine at_skip rfl ?_
      refine run_blk ?_
      refine at_seq [1, 1, 1, 0] [1, 1, 1, 1] rfl ?_
      refine at_region rfl ?_
      refine at_mv 6 23 rfl rfl rfl (.inl rfl) rfl (by dsimp only [List.set]) ?_
      refine at_mv 23 4 rfl rfl rfl (.inr rfl) rfl (by dsimp only [List.set]) ?_
      refine at_mc 5 rfl rfl rfl (.inr rfl) (by dsimp only [constD]) (by dsimp only [List.set]) ?_
      refine at_end rfl ?_
      refine at_ret rfl (ret_two (t := 4) (t2 := 5) rfl rfl rfl ?_ ?_ rfl rfl)
      all_goals (simp_all [subM, D.un])

noncomputable def cFew : Code := Try.f14.body.getD .skip
set_option maxRecDepth 20000 in
theorem few_spec (l : List Int) : FSpec PP 14 [dl l] σ0 (db (decide (l.length ≤ 400))) σ0 := by
  refine spec_at cFew Try.func14 rfl (by kernel_rfl) (by first | decide | simp) _ (by dsimp only [Try.f14, List.length, Nat.reduceAdd, Nat.reduceSub, List.replicate, List.cons_append, List.nil_append]) ?_
  refine at_seq [0] [1] rfl ?_
  refine at_region rfl ?_
  refine at_mc 2 rfl rfl rfl (.inr rfl) (by dsimp only [constD]) (by dsimp only [List.set]) ?_
  refine at_end rfl ?_
  refine at_seq [1, 0] [1, 1] rfl ?_
  refine at_region rfl ?_
  refine at_mv 0 3 rfl rfl rfl (.inl rfl) rfl (by dsimp only [List.set]) ?_
  first | (refine at_op (some 4) rfl rfl rfl rfl (op_lenL rfl uInts) (by dsimp only [putD, List.set]) ?_) | (refine at_op (some 4) rfl rfl rfl rfl (opOK_un (op_lenL rfl uInts)) (by dsimp only [putD, List.set]) ?_) | (refine at_op (some 4) rfl rfl rfl rfl (op_lenA rfl uInts) (by dsimp only [putD, List.set]) ?_)
  refine at_op (some 5) rfl rfl rfl rfl (op_binI rfl rfl) (by dsimp only [putD, List.set]) ?_
  refine at_mv 5 2 rfl rfl rfl (.inr rfl) rfl (by dsimp only [List.set]) ?_
  refine at_end rfl ?_
  refine at_ret rfl (ret_one (t := 2) rfl rfl ?_ rfl)
  simp; omega

noncomputable def cNew : Code := Try.f15.body.getD .skip
set_option maxRecDepth 20000 in
theorem new_spec (l : List Int) : FSpec PP 15 [dl l] σ0 (.ptr 0 0) (σd l 0 11400714819323198485) := by
  refine spec_at cNew Try.func15 rfl (by kernel_rfl) (by first | decide | simp) _ (by dsimp only [Try.f15, List.length, Nat.reduceAdd, Nat.reduceSub, List.replicate, List.cons_append, List.nil_append]) ?_
  refine at_seq [0] [1] rfl ?_
  refine at_region rfl ?_
  refine at_mc 2 rfl rfl rfl (.inr rfl) (by dsimp only [constD]) (by dsimp only [List.set]) ?_
  refine at_end rfl ?_
  refine at_seq [1, 0] [1, 1] rfl ?_
  refine at_region rfl ?_
  refine at_mv 0 3 rfl rfl rfl (.inl rfl) rfl (by dsimp only [List.set]) ?_
  refine at_op (some 4) rfl rfl rfl rfl (op_build rfl bldDk rfl rfl) (by dsimp only [putD, List.set]) ?_
  refine at_box (.tmp 4) 5 rfl rfl rfl rfl (ev_tmp rfl) rfl (by dsimp only [List.set, List.length]) (by dsimp only [List.set, List.append, List.cons_append, List.nil_append, cellsD, List.map, repl, List.length, Nat.reduceAdd, if_true, ↓reduceIte]; first | done | rfl) ?_
  refine at_mv 5 2 rfl rfl rfl (.inr rfl) rfl (by dsimp only [List.set]) ?_
  refine at_end rfl ?_
  exact at_ret rfl (res_ok (ds := [.ptr 0 0]) (.tmp rfl .nil) rfl 1 rfl (by simp) (fun i cs h => by cases i with | zero => (simp at h; subst h; rfl) | succ i => simp at h) (List.Sublist.refl _) rfl)

noncomputable def cLong : Code := Try.f53.body.getD .skip
set_option maxRecDepth 20000 in
theorem long_spec (l : List Int) (at' : Nat) (st : Int) (hs : l.length ≤ 1000000) : FSpec PP 53 [.ptr 0 0] (σd l at' st) (.v (.int .u64 (longV (dkSt l at' st)))) (σd l (dkAt l at') (dkSt l at' st)) := by
  refine spec_at cLong Try.func53 rfl (by kernel_rfl) (by first | decide | simp) _ (by dsimp only [Try.f53, List.length, Nat.reduceAdd, Nat.reduceSub, List.replicate, List.cons_append, List.nil_append]) ?_
  refine at_seq [0] [1] rfl ?_
  refine at_region rfl ?_
  refine at_mc 2 rfl rfl rfl (.inr rfl) (by dsimp only [constD]) (by dsimp only [List.set]) ?_
  refine at_end rfl ?_
  refine at_seq [1, 0] [1, 1] rfl ?_
  refine at_region rfl ?_
  refine at_mc 3 rfl rfl rfl (.inr rfl) (by dsimp only [constD]) (by dsimp only [List.set]) ?_
  refine at_end rfl ?_
  refine at_seq [1, 1, 0] [1, 1, 1] rfl ?_
  refine at_seq [1, 1, 0, 0] [1, 1, 0, 1] rfl ?_
  refine at_draw mixed rfl [σd l at' st] rfl ?_
  refine da_mv 0 5 rfl rfl rfl (.inl rfl) rfl (by dsimp only [List.set]) ?_
  first | (refine da_quiet (some 6) rfl rfl rfl rfl (fun s hs => op_nilCheck_ptr rfl) (by dsimp only [putD, List.set]) ?_) | (refine da_quiet (some 6) rfl rfl rfl rfl (fun s hs => op_nilCheck_ref rfl) (by dsimp only [putD, List.set]) ?_)
  first | (refine da_quiet (some 7) rfl rfl rfl rfl (fun s hs => op_fieldP rfl fldDk1 (by decide)) (by dsimp only [putD, List.set]) ?_) | (refine da_quiet (some 7) rfl rfl rfl rfl (fun s hs => op_fieldR rfl fldDk1 (by decide) (by decide) rfl) (by dsimp only [putD, List.set]) ?_)
  first | (refine da_quiet (some 8) rfl rfl rfl rfl (fun s hs => op_loadR1 rfl oneInt rfl) (by dsimp only [putD, List.set]) ?_) | (refine da_quiet (some 8) rfl rfl rfl rfl (by intro s hs; simp only [List.mem_cons, List.not_mem_nil, or_false] at hs; rcases hs with rfl <;> exact op_loadP1 rfl oneInt rfl rfl) (by dsimp only [putD, List.set]) ?_)
  refine da_mv 0 9 rfl rfl rfl (.inl rfl) rfl (by dsimp only [List.set]) ?_
  first | (refine da_quiet (some 10) rfl rfl rfl rfl (fun s hs => op_nilCheck_ptr rfl) (by dsimp only [putD, List.set]) ?_) | (refine da_quiet (some 10) rfl rfl rfl rfl (fun s hs => op_nilCheck_ref rfl) (by dsimp only [putD, List.set]) ?_)
  first | (refine da_quiet (some 11) rfl rfl rfl rfl (fun s hs => op_fieldP rfl fldDk0 (by decide)) (by dsimp only [putD, List.set]) ?_) | (refine da_quiet (some 11) rfl rfl rfl rfl (fun s hs => op_fieldR rfl fldDk0 (by decide) (by decide) rfl) (by dsimp only [putD, List.set]) ?_)
  first | (refine da_quiet (some 12) rfl rfl rfl rfl (fun s hs => op_loadR1 rfl oneInts rfl) (by dsimp only [putD, List.set]) ?_) | (refine da_quiet (some 12) rfl rfl rfl rfl (by intro s hs; simp only [List.mem_cons, List.not_mem_nil, or_false] at hs; rcases hs with rfl <;> exact op_loadP1 rfl oneInts rfl rfl) (by dsimp only [putD, List.set]) ?_)
  first | (refine da_quiet (some 13) rfl rfl rfl rfl (fun s hs => op_lenL rfl uInts) (by dsimp only [putD, List.set]) ?_) | (refine da_quiet (some 13) rfl rfl rfl rfl (fun s hs => opOK_un (op_lenL rfl uInts)) (by dsimp only [putD, List.set]) ?_) | (refine da_quiet (some 13) rfl rfl rfl rfl (fun s hs => op_lenA rfl uInts) (by dsimp only [putD, List.set]) ?_)
  refine da_quiet (some 14) rfl rfl rfl rfl (fun s hs => op_binI rfl rfl) (by dsimp only [putD, List.set]) ?_
  refine da_end rfl ⟨by decide +kernel, _, rfl, ?_⟩
  refine at_cond [1, 1, 0, 1, 0] [1, 1, 0, 1, 1] rfl rfl (fun hc1 => ?_) (fun hc1 => ?_)
  · skip
    have hlt : at' < l.length := by simpa using hc1
    obtain ⟨x, hx⟩ := get_ex hlt
    have hX : dkX l at' = IntKind.u64.wrap x := by simp [dkX, hx]
    have hA : dkAt l at' = at' + 1 := by simp [dkAt, hlt]
    refine at_seq [1, 1, 0, 1, 0, 0] [1, 1, 0, 1, 0, 1] rfl ?_
    refine at_draw mixed rfl [σd l at' st] rfl ?_
    refine da_mv 0 15 rfl rfl rfl (.inl rfl) rfl (by dsimp only [List.set]) ?_
    first | (refine da_quiet (some 16) rfl rfl rfl rfl (fun s hs => op_nilCheck_ptr rfl) (by dsimp only [putD, List.set]) ?_) | (refine da_quiet (some 16) rfl rfl rfl rfl (fun s hs => op_nilCheck_ref rfl) (by dsimp only [putD, List.set]) ?_)
    first | (refine da_quiet (some 17) rfl rfl rfl rfl (fun s hs => op_fieldP rfl fldDk0 (by decide)) (by dsimp only [putD, List.set]) ?_) | (refine da_quiet (some 17) rfl rfl rfl rfl (fun s hs => op_fieldR rfl fldDk0 (by decide) (by decide) rfl) (by dsimp only [putD, List.set]) ?_)
    first | (refine da_quiet (some 18) rfl rfl rfl rfl (fun s hs => op_loadR1 rfl oneInts rfl) (by dsimp only [putD, List.set]) ?_) | (refine da_quiet (some 18) rfl rfl rfl rfl (by intro s hs; simp only [List.mem_cons, List.not_mem_nil, or_false] at hs; rcases hs with rfl <;> exact op_loadP1 rfl oneInts rfl rfl) (by dsimp only [putD, List.set]) ?_)
    refine da_mv 0 19 rfl rfl rfl (.inl rfl) rfl (by dsimp only [List.set]) ?_
    first | (refine da_quiet (some 20) rfl rfl rfl rfl (fun s hs => op_nilCheck_ptr rfl) (by dsimp only [putD, List.set]) ?_) | (refine da_quiet (some 20) rfl rfl rfl rfl (fun s hs => op_nilCheck_ref rfl) (by dsimp only [putD, List.set]) ?_)
    first | (refine da_quiet (some 21) rfl rfl rfl rfl (fun s hs => op_fieldP rfl fldDk1 (by decide)) (by dsimp only [putD, List.set]) ?_) | (refine da_quiet (some 21) rfl rfl rfl rfl (fun s hs => op_fieldR rfl fldDk1 (by decide) (by decide) rfl) (by dsimp only [putD, List.set]) ?_)
    first | (refine da_quiet (some 22) rfl rfl rfl rfl (fun s hs => op_loadR1 rfl oneInt rfl) (by dsimp only [putD, List.set]) ?_) | (refine da_quiet (some 22) rfl rfl rfl rfl (by intro s hs; simp only [List.mem_cons, List.not_mem_nil, or_false] at hs; rcases hs with rfl <;> exact op_loadP1 rfl oneInt rfl rfl) (by dsimp only [putD, List.set]) ?_)
    first | (refine da_quiet (some 23) rfl rfl rfl rfl (fun s hs => op_idxL rfl slInt (by first | decide | omega) (by first | exact idx_some (by assumption) | assumption | rfl) (by first | rfl | (simp [V.size]; done))) (by dsimp only [putD, List.set]) ?_) | (refine da_quiet (some 23) rfl rfl rfl rfl (fun s hs => opOK_un (op_idxL rfl slInt (by first | decide | omega) (by first | exact idx_some (by assumption) | assumption | rfl) (by first | rfl | (simp [V.size]; done)))) (by dsimp only [putD, List.set]) ?_) | (refine da_quiet (some 23) rfl rfl rfl rfl (fun s hs => op_idxA rfl slInt (by first | decide | omega) (by first | decide | omega)) (by dsimp only [putD, List.set]) ?_)
    first | (refine da_quiet (some 24) rfl rfl rfl rfl (fun s hs => op_loadR1 rfl oneInt rfl) (by dsimp only [putD, List.set]) ?_) | (refine da_quiet (some 24) rfl rfl rfl rfl (by intro s hs; simp only [List.mem_cons, List.not_mem_nil, or_false] at hs; rcases hs with rfl <;> exact op_loadP1 rfl oneInt rfl rfl) (by dsimp only [putD, List.set]) ?_)
    refine da_quiet (some 25) rfl rfl rfl rfl (fun s hs => op_convI rfl uInt uU64) (by dsimp only [putD, List.set]) ?_
    refine da_mv 25 3 rfl rfl rfl (.inr rfl) rfl (by dsimp only [List.set]) ?_
    refine da_end rfl ⟨by decide +kernel, _, rfl, ?_⟩
    refine at_region rfl ?_
    refine at_mv 0 26 rfl rfl rfl (.inl rfl) rfl (by dsimp only [List.set]) ?_
    first | (refine at_op (some 27) rfl rfl rfl rfl (op_nilCheck_ptr rfl) (by dsimp only [putD, List.set]) ?_) | (refine at_op (some 27) rfl rfl rfl rfl (op_nilCheck_ref rfl) (by dsimp only [putD, List.set]) ?_)
    first | (refine at_op (some 28) rfl rfl rfl rfl (op_fieldP rfl fldDk1 (by decide)) (by dsimp only [putD, List.set]) ?_) | (refine at_op (some 28) rfl rfl rfl rfl (op_fieldR rfl fldDk1 (by decide) (by decide) rfl) (by dsimp only [putD, List.set]) ?_)
    first | (refine at_op (some 29) rfl rfl rfl rfl (op_loadR1 rfl oneInt rfl) (by dsimp only [putD, List.set]) ?_) | (refine at_op (some 29) rfl rfl rfl rfl (op_loadP1 rfl oneInt rfl rfl) (by dsimp only [putD, List.set]) ?_)
    refine at_op (some 30) rfl rfl rfl rfl (op_binI rfl rfl) (by dsimp only [putD, List.set]) ?_
    first | (refine at_op (some 31) rfl rfl rfl rfl (op_nilCheck_ptr rfl) (by dsimp only [putD, List.set]) ?_) | (refine at_op (some 31) rfl rfl rfl rfl (op_nilCheck_ref rfl) (by dsimp only [putD, List.set]) ?_)
    first | (refine at_op (some 32) rfl rfl rfl rfl (op_fieldP rfl fldDk1 (by decide)) (by dsimp only [putD, List.set]) ?_) | (refine at_op (some 32) rfl rfl rfl rfl (op_fieldR rfl fldDk1 (by decide) (by decide) rfl) (by dsimp only [putD, List.set]) ?_)
    refine at_st1 32 (.tmp 30) rfl rfl rfl rfl rfl (ev_tmp rfl) rfl oneInt rfl (by first | decide | simp | (simp; omega)) (by dsimp only [List.set, List.append, List.cons_append, List.nil_append, cellsD, List.map, repl, List.length, Nat.reduceAdd, if_true, ↓reduceIte]; first | done | rfl) ?_
    rw [wrap_succ (by omega)]
    refine at_end rfl ?_
    refine at_seq [1, 1, 1, 0] [1, 1, 1, 1] rfl ?_
    refine at_region rfl ?_
    refine at_mv 0 33 rfl rfl rfl (.inl rfl) rfl (by dsimp only [List.set]) ?_
    refine at_mv 0 34 rfl rfl rfl (.inl rfl) rfl (by dsimp only [List.set]) ?_
    first | (refine at_op (some 35) rfl rfl rfl rfl (op_nilCheck_ptr rfl) (by dsimp only [putD, List.set]) ?_) | (refine at_op (some 35) rfl rfl rfl rfl (op_nilCheck_ref rfl) (by dsimp only [putD, List.set]) ?_)
    first | (refine at_op (some 36) rfl rfl rfl rfl (op_fieldP rfl fldDk2 (by decide)) (by dsimp only [putD, List.set]) ?_) | (refine at_op (some 36) rfl rfl rfl rfl (op_fieldR rfl fldDk2 (by decide) (by decide) rfl) (by dsimp only [putD, List.set]) ?_)
    first | (refine at_op (some 37) rfl rfl rfl rfl (op_loadR1 rfl oneU64 rfl) (by dsimp only [putD, List.set]) ?_) | (refine at_op (some 37) rfl rfl rfl rfl (op_loadP1 rfl oneU64 rfl rfl) (by dsimp only [putD, List.set]) ?_)
    refine at_mv 3 38 rfl rfl rfl (.inl rfl) rfl (by dsimp only [List.set]) ?_
    refine at_op (some 39) rfl rfl rfl rfl (op_binI rfl rfl) (by dsimp only [putD, List.set]) ?_
    refine at_op (some 40) rfl rfl rfl rfl (op_binI rfl rfl) (by dsimp only [putD, List.set]) ?_
    refine at_op (some 41) rfl rfl rfl rfl (op_binI rfl rfl) (by dsimp only [putD, List.set]) ?_
    first | (refine at_op (some 42) rfl rfl rfl rfl (op_nilCheck_ptr rfl) (by dsimp only [putD, List.set]) ?_) | (refine at_op (some 42) rfl rfl rfl rfl (op_nilCheck_ref rfl) (by dsimp only [putD, List.set]) ?_)
    first | (refine at_op (some 43) rfl rfl rfl rfl (op_fieldP rfl fldDk2 (by decide)) (by dsimp only [putD, List.set]) ?_) | (refine at_op (some 43) rfl rfl rfl rfl (op_fieldR rfl fldDk2 (by decide) (by decide) rfl) (by dsimp only [putD, List.set]) ?_)
    refine at_st1 43 (.tmp 41) rfl rfl rfl rfl rfl (ev_tmp rfl) rfl oneU64 rfl (by first | decide | simp | (simp; omega)) (by dsimp only [List.set, List.append, List.cons_append, List.nil_append, cellsD, List.map, repl, List.length, Nat.reduceAdd, if_true, ↓reduceIte]; first | done | rfl) ?_
    first | rw [show IntKind.u64.wrap (IntKind.u64.wrap (IntKind.u64.wrap (st + IntKind.u64.wrap x) * 6364136223846793005) + 1442695040888963407) = dkSt l at' st from by simp [dkSt, hX]] | rw [show IntKind.u64.wrap (IntKind.u64.wrap (IntKind.u64.wrap (st + 0) * 6364136223846793005) + 1442695040888963407) = dkSt l at' st from by simp [dkSt, hX]]
    first | rw [show D.v (V.int .i64 ((at' + 1 : Nat) : Int)) = di ↑(dkAt l at') from by rw [hA]] | rw [show (di ↑at' : D) = di ↑(dkAt l at') from by rw [hA]]
    refine at_end rfl ?_
    refine at_seq [1, 1, 1, 1, 0] [1, 1, 1, 1, 1] rfl ?_
    refine at_draw mixed rfl [⟨[some [dl l, di ↑(dkAt l at'), .v (.int .u64 (dkSt l at' st))]], []⟩] rfl ?_
    refine da_mv 0 44 rfl rfl rfl (.inl rfl) rfl (by dsimp only [List.set]) ?_
    first | (refine da_quiet (some 45) rfl rfl rfl rfl (fun s hs => op_nilCheck_ptr rfl) (by dsimp only [putD, List.set]) ?_) | (refine da_quiet (some 45) rfl rfl rfl rfl (fun s hs => op_nilCheck_ref rfl) (by dsimp only [putD, List.set]) ?_)
    first | (refine da_quiet (some 46) rfl rfl rfl rfl (fun s hs => op_fieldP rfl fldDk2 (by decide)) (by dsimp only [putD, List.set]) ?_) | (refine da_quiet (some 46) rfl rfl rfl rfl (fun s hs => op_fieldR rfl fldDk2 (by decide) (by decide) rfl) (by dsimp only [putD, List.set]) ?_)
    first | (refine da_quiet (some 47) rfl rfl rfl rfl (fun s hs => op_loadR1 rfl oneU64 rfl) (by dsimp only [putD, List.set]) ?_) | (refine da_quiet (some 47) rfl rfl rfl rfl (by intro s hs; simp only [List.mem_cons, List.not_mem_nil, or_false] at hs; rcases hs with rfl <;> exact op_loadP1 rfl oneU64 rfl rfl) (by dsimp only [putD, List.set]) ?_)
    refine da_mv 0 48 rfl rfl rfl (.inl rfl) rfl (by dsimp only [List.set]) ?_
    first | (refine da_quiet (some 49) rfl rfl rfl rfl (fun s hs => op_nilCheck_ptr rfl) (by dsimp only [putD, List.set]) ?_) | (refine da_quiet (some 49) rfl rfl rfl rfl (fun s hs => op_nilCheck_ref rfl) (by dsimp only [putD, List.set]) ?_)
    first | (refine da_quiet (some 50) rfl rfl rfl rfl (fun s hs => op_fieldP rfl fldDk2 (by decide)) (by dsimp only [putD, List.set]) ?_) | (refine da_quiet (some 50) rfl rfl rfl rfl (fun s hs => op_fieldR rfl fldDk2 (by decide) (by decide) rfl) (by dsimp only [putD, List.set]) ?_)
    first | (refine da_quiet (some 51) rfl rfl rfl rfl (fun s hs => op_loadR1 rfl oneU64 rfl) (by dsimp only [putD, List.set]) ?_) | (refine da_quiet (some 51) rfl rfl rfl rfl (by intro s hs; simp only [List.mem_cons, List.not_mem_nil, or_false] at hs; rcases hs with rfl <;> exact op_loadP1 rfl oneU64 rfl rfl) (by dsimp only [putD, List.set]) ?_)
    refine da_quiet (some 52) rfl rfl rfl rfl (fun s hs => op_shI rfl rfl (by first | decide | omega)) (by dsimp only [putD, List.set]) ?_
    refine da_quiet (some 53) rfl rfl rfl rfl (fun s hs => op_binI rfl rfl) (by dsimp only [putD, List.set]) ?_
    refine da_mv 53 4 rfl rfl rfl (.inr rfl) rfl (by dsimp only [List.set]) ?_
    refine da_end rfl ⟨by decide +kernel, _, rfl, ?_⟩
    refine at_seq [1, 1, 1, 1, 1, 0] [1, 1, 1, 1, 1, 1] rfl ?_
    refine at_region rfl ?_
    refine at_mv 4 54 rfl rfl rfl (.inl rfl) rfl (by dsimp only [List.set]) ?_
    refine at_op (some 55) rfl rfl rfl rfl (op_binI rfl rfl) (by dsimp only [putD, List.set]) ?_
    refine at_mv 55 4 rfl rfl rfl (.inr rfl) rfl (by dsimp only [List.set]) ?_
    refine at_end rfl ?_
    refine at_seq [1, 1, 1, 1, 1, 1, 0] [1, 1, 1, 1, 1, 1, 1] rfl ?_
    refine at_region rfl ?_
    refine at_mv 4 56 rfl rfl rfl (.inl rfl) rfl (by dsimp only [List.set]) ?_
    refine at_mv 4 57 rfl rfl rfl (.inl rfl) rfl (by dsimp only [List.set]) ?_
    refine at_op (some 58) rfl rfl rfl rfl (op_shI rfl rfl (by first | decide | omega)) (by dsimp only [putD, List.set]) ?_
    refine at_op (some 59) rfl rfl rfl rfl (op_binI rfl rfl) (by dsimp only [putD, List.set]) ?_
    refine at_mv 59 2 rfl rfl rfl (.inr rfl) rfl (by dsimp only [List.set]) ?_
    refine at_end rfl ?_
    refine at_ret rfl (ret_one1 (t := 2) (os := dk l (dkAt l at') (dkSt l at' st)) rfl rfl ?_ rfl ?_ rfl)
    all_goals rfl
  · skip
    have hge : l.length ≤ at' := by simpa using hc1
    have hX : dkX l at' = 0 := by simp [dkX, hge]
    have hA : dkAt l at' = at' := by simp only [dkAt]; rw [if_neg (by omega)]
    refine at_skip rfl ?_
    refine at_seq [1, 1, 1, 0] [1, 1, 1, 1] rfl ?_
    refine at_region rfl ?_
    refine at_mv 0 33 rfl rfl rfl (.inl rfl) rfl (by dsimp only [List.set]) ?_
    refine at_mv 0 34 rfl rfl rfl (.inl rfl) rfl (by dsimp only [List.set]) ?_
    first | (refine at_op (some 35) rfl rfl rfl rfl (op_nilCheck_ptr rfl) (by dsimp only [putD, List.set]) ?_) | (refine at_op (some 35) rfl rfl rfl rfl (op_nilCheck_ref rfl) (by dsimp only [putD, List.set]) ?_)
    first | (refine at_op (some 36) rfl rfl rfl rfl (op_fieldP rfl fldDk2 (by decide)) (by dsimp only [putD, List.set]) ?_) | (refine at_op (some 36) rfl rfl rfl rfl (op_fieldR rfl fldDk2 (by decide) (by decide) rfl) (by dsimp only [putD, List.set]) ?_)
    first | (refine at_op (some 37) rfl rfl rfl rfl (op_loadR1 rfl oneU64 rfl) (by dsimp only [putD, List.set]) ?_) | (refine at_op (some 37) rfl rfl rfl rfl (op_loadP1 rfl oneU64 rfl rfl) (by dsimp only [putD, List.set]) ?_)
    refine at_mv 3 38 rfl rfl rfl (.inl rfl) rfl (by dsimp only [List.set]) ?_
    refine at_op (some 39) rfl rfl rfl rfl (op_binI rfl rfl) (by dsimp only [putD, List.set]) ?_
    refine at_op (some 40) rfl rfl rfl rfl (op_binI rfl rfl) (by dsimp only [putD, List.set]) ?_
    refine at_op (some 41) rfl rfl rfl rfl (op_binI rfl rfl) (by dsimp only [putD, List.set]) ?_
    first | (refine at_op (some 42) rfl rfl rfl rfl (op_nilCheck_ptr rfl) (by dsimp only [putD, List.set]) ?_) | (refine at_op (some 42) rfl rfl rfl rfl (op_nilCheck_ref rfl) (by dsimp only [putD, List.set]) ?_)
    first | (refine at_op (some 43) rfl rfl rfl rfl (op_fieldP rfl fldDk2 (by decide)) (by dsimp only [putD, List.set]) ?_) | (refine at_op (some 43) rfl rfl rfl rfl (op_fieldR rfl fldDk2 (by decide) (by decide) rfl) (by dsimp only [putD, List.set]) ?_)
    refine at_st1 43 (.tmp 41) rfl rfl rfl rfl rfl (ev_tmp rfl) rfl oneU64 rfl (by first | decide | simp | (simp; omega)) (by dsimp only [List.set, List.append, List.cons_append, List.nil_append, cellsD, List.map, repl, List.length, Nat.reduceAdd, if_true, ↓reduceIte]; first | done | rfl) ?_
    first | rw [show IntKind.u64.wrap (IntKind.u64.wrap (IntKind.u64.wrap (st + IntKind.u64.wrap x) * 6364136223846793005) + 1442695040888963407) = dkSt l at' st from by simp [dkSt, hX]] | rw [show IntKind.u64.wrap (IntKind.u64.wrap (IntKind.u64.wrap (st + 0) * 6364136223846793005) + 1442695040888963407) = dkSt l at' st from by simp [dkSt, hX]]
    first | rw [show D.v (V.int .i64 ((at' + 1 : Nat) : Int)) = di ↑(dkAt l at') from by rw [hA]] | rw [show (di ↑at' : D) = di ↑(dkAt l at') from by rw [hA]]
    refine at_end rfl ?_
    refine at_seq [1, 1, 1, 1, 0] [1, 1, 1, 1, 1] rfl ?_
    refine at_draw mixed rfl [⟨[some [dl l, di ↑(dkAt l at'), .v (.int .u64 (dkSt l at' st))]], []⟩] rfl ?_
    refine da_mv 0 44 rfl rfl rfl (.inl rfl) rfl (by dsimp only [List.set]) ?_
    first | (refine da_quiet (some 45) rfl rfl rfl rfl (fun s hs => op_nilCheck_ptr rfl) (by dsimp only [putD, List.set]) ?_) | (refine da_quiet (some 45) rfl rfl rfl rfl (fun s hs => op_nilCheck_ref rfl) (by dsimp only [putD, List.set]) ?_)
    first | (refine da_quiet (some 46) rfl rfl rfl rfl (fun s hs => op_fieldP rfl fldDk2 (by decide)) (by dsimp only [putD, List.set]) ?_) | (refine da_quiet (some 46) rfl rfl rfl rfl (fun s hs => op_fieldR rfl fldDk2 (by decide) (by decide) rfl) (by dsimp only [putD, List.set]) ?_)
    first | (refine da_quiet (some 47) rfl rfl rfl rfl (fun s hs => op_loadR1 rfl oneU64 rfl) (by dsimp only [putD, List.set]) ?_) | (refine da_quiet (some 47) rfl rfl rfl rfl (by intro s hs; simp only [List.mem_cons, List.not_mem_nil, or_false] at hs; rcases hs with rfl <;> exact op_loadP1 rfl oneU64 rfl rfl) (by dsimp only [putD, List.set]) ?_)
    refine da_mv 0 48 rfl rfl rfl (.inl rfl) rfl (by dsimp only [List.set]) ?_
    first | (refine da_quiet (some 49) rfl rfl rfl rfl (fun s hs => op_nilCheck_ptr rfl) (by dsimp only [putD, List.set]) ?_) | (refine da_quiet (some 49) rfl rfl rfl rfl (fun s hs => op_nilCheck_ref rfl) (by dsimp only [putD, List.set]) ?_)
    first | (refine da_quiet (some 50) rfl rfl rfl rfl (fun s hs => op_fieldP rfl fldDk2 (by decide)) (by dsimp only [putD, List.set]) ?_) | (refine da_quiet (some 50) rfl rfl rfl rfl (fun s hs => op_fieldR rfl fldDk2 (by decide) (by decide) rfl) (by dsimp only [putD, List.set]) ?_)
    first | (refine da_quiet (some 51) rfl rfl rfl rfl (fun s hs => op_loadR1 rfl oneU64 rfl) (by dsimp only [putD, List.set]) ?_) | (refine da_quiet (some 51) rfl rfl rfl rfl (by intro s hs; simp only [List.mem_cons, List.not_mem_nil, or_false] at hs; rcases hs with rfl <;> exact op_loadP1 rfl oneU64 rfl rfl) (by dsimp only [putD, List.set]) ?_)
    refine da_quiet (some 52) rfl rfl rfl rfl (fun s hs => op_shI rfl rfl (by first | decide | omega)) (by dsimp only [putD, List.set]) ?_
    refine da_quiet (some 53) rfl rfl rfl rfl (fun s hs => op_binI rfl rfl) (by dsimp only [putD, List.set]) ?_
    refine da_mv 53 4 rfl rfl rfl (.inr rfl) rfl (by dsimp only [List.set]) ?_
    refine da_end rfl ⟨by decide +kernel, _, rfl, ?_⟩
    refine at_seq [1, 1, 1, 1, 1, 0] [1, 1, 1, 1, 1, 1] rfl ?_
    refine at_region rfl ?_
    refine at_mv 4 54 rfl rfl rfl (.inl rfl) rfl (by dsimp only [List.set]) ?_
    refine at_op (some 55) rfl rfl rfl rfl (op_binI rfl rfl) (by dsimp only [putD, List.set]) ?_
    refine at_mv 55 4 rfl rfl rfl (.inr rfl) rfl (by dsimp only [List.set]) ?_
    refine at_end rfl ?_
    refine at_seq [1, 1, 1, 1, 1, 1, 0] [1, 1, 1, 1, 1, 1, 1] rfl ?_
    refine at_region rfl ?_
    refine at_mv 4 56 rfl rfl rfl (.inl rfl) rfl (by dsimp only [List.set]) ?_
    refine at_mv 4 57 rfl rfl rfl (.inl rfl) rfl (by dsimp only [List.set]) ?_
    refine at_op (some 58) rfl rfl rfl rfl (op_shI rfl rfl (by first | decide | omega)) (by dsimp only [putD, List.set]) ?_
    refine at_op (some 59) rfl rfl rfl rfl (op_binI rfl rfl) (by dsimp only [putD, List.set]) ?_
    refine at_mv 59 2 rfl rfl rfl (.inr rfl) rfl (by dsimp only [List.set]) ?_
    refine at_end rfl ?_
    refine at_ret rfl (ret_one1 (t := 2) (os := dk l (dkAt l at') (dkSt l at' st)) rfl rfl ?_ rfl ?_ rfl)
    all_goals rfl

noncomputable def cNext : Code := Try.f16.body.getD .skip
set_option maxRecDepth 20000 in
theorem next_spec (l : List Int) (at' : Nat) (st : Int) (hs : l.length ≤ 1000000) (n : Int) (hn : 1 ≤ n) : FSpec PP 16 [.ptr 0 0, di n] (σd l at' st) (di (nextV n (dkSt l at' st))) (σd l (dkAt l at') (dkSt l at' st)) := by
  refine spec_at cNext Try.func16 rfl (by kernel_rfl) (by first | decide | simp) _ (by dsimp only [Try.f16, List.length, Nat.reduceAdd, Nat.reduceSub, List.replicate, List.cons_append, List.nil_append]) ?_
  refine at_seq [0] [1] rfl ?_
  refine at_region rfl ?_
  refine at_mc 4 rfl rfl rfl (.inr rfl) (by dsimp only [constD]) (by dsimp only [List.set]) ?_
  refine at_end rfl ?_
  refine at_seq [1, 0] [1, 1] rfl ?_
  refine at_seq [1, 0, 0] [1, 0, 1] rfl ?_
  refine at_region rfl ?_
  refine at_mv 1 5 rfl rfl rfl (.inl rfl) rfl (by dsimp only [List.set]) ?_
  refine at_op (some 6) rfl rfl rfl rfl (op_binI rfl rfl) (by dsimp only [putD, List.set]) ?_
  refine at_end rfl ?_
  refine at_cond [1, 0, 1, 0] [1, 0, 1, 1] rfl rfl (fun hc1 => ?_) (fun hc1 => ?_)
  · skip
    refine at_seq [1, 0, 1, 0, 0] [1, 0, 1, 0, 1] rfl ?_
    refine at_region rfl ?_
    refine at_mc 4 rfl rfl rfl (.inr rfl) (by dsimp only [constD]) (by dsimp only [List.set]) ?_
    refine at_end rfl ?_
    refine at_ret rfl (ret_one1 (t := 4) (os := dk l (dkAt l at') (dkSt l at' st)) rfl rfl ?_ rfl ?_ rfl)
    all_goals first | rfl | (exfalso; simp at hc1; omega)
  · skip
    refine at_skip rfl ?_
    refine at_seq [1, 1, 0] [1, 1, 1] rfl ?_
    refine at_region rfl ?_
    refine at_mv 0 7 rfl rfl rfl (.inl rfl) rfl (by dsimp only [List.set]) ?_
    refine at_opS (some 8) rfl rfl rfl rfl (op_call1 rfl rfl rfl rfl rfl (.ptr .nil) rfl (long_spec l at' st hs)) (by dsimp only [putD, List.set]) (by dsimp only [List.set, List.append, List.cons_append, List.nil_append, cellsD, List.map, repl, List.length, Nat.reduceAdd, if_true, ↓reduceIte]; first | done | rfl) ?_
    refine at_op (some 9) rfl rfl rfl rfl (op_shI rfl rfl (by first | decide | omega)) (by dsimp only [putD, List.set]) ?_
    refine at_op (some 10) rfl rfl rfl rfl (op_convI rfl uU64 uInt) (by dsimp only [putD, List.set]) ?_
    refine at_mv 1 11 rfl rfl rfl (.inl rfl) rfl (by dsimp only [List.set]) ?_
    refine at_op (some 12) rfl rfl rfl rfl (op_quoI rfl rfl (by first | decide | omega | assumption)) (by dsimp only [putD, List.set]) ?_
    refine at_mv 12 4 rfl rfl rfl (.inr rfl) rfl (by dsimp only [List.set]) ?_
    refine at_end rfl ?_
    refine at_ret rfl (ret_one1 (t := 4) (os := dk l (dkAt l at') (dkSt l at' st)) rfl rfl ?_ rfl ?_ rfl)
    all_goals first | rfl | (exfalso; simp at hc1; omega)

noncomputable def cOne : Code := Try.f54.body.getD .skip
set_option maxRecDepth 20000 in
theorem one_spec (l : List Int) (at' : Nat) (st : Int) (hs : l.length ≤ 1000000) (n : Int) (hn : 1 ≤ n) : FSpec PP 54 [.ptr 0 0, di n] (σd l at' st) (db (nextV n (dkSt l at' st) == 0)) (σd l (dkAt l at') (dkSt l at' st)) := by
  refine spec_at cOne Try.func54 rfl (by kernel_rfl) (by first | decide | simp) _ (by dsimp only [Try.f54, List.length, Nat.reduceAdd, Nat.reduceSub, List.replicate, List.cons_append, List.nil_append]) ?_
  refine at_seq [0] [1] rfl ?_
  refine at_region rfl ?_
  refine at_mc 4 rfl rfl rfl (.inr rfl) (by dsimp only [constD]) (by dsimp only [List.set]) ?_
  refine at_end rfl ?_
  refine at_seq [1, 0] [1, 1] rfl ?_
  refine at_region rfl ?_
  refine at_mv 0 5 rfl rfl rfl (.inl rfl) rfl (by dsimp only [List.set]) ?_
  refine at_mv 1 6 rfl rfl rfl (.inl rfl) rfl (by dsimp only [List.set]) ?_
  refine at_opS (some 7) rfl rfl rfl rfl (op_call1 rfl rfl rfl rfl rfl (.ptr (.pl rfl .nil)) rfl (next_spec l _ _ hs _ (by omega))) (by dsimp only [putD, List.set]) (by dsimp only [List.set, List.append, List.cons_append, List.nil_append, cellsD, List.map, repl, List.length, Nat.reduceAdd, if_true, ↓reduceIte]; first | done | rfl) ?_
  refine at_op (some 8) rfl rfl rfl rfl (op_binI rfl rfl) (by dsimp only [putD, List.set]) ?_
  refine at_mv 8 4 rfl rfl rfl (.inr rfl) rfl (by dsimp only [List.set]) ?_
  refine at_end rfl ?_
  refine at_ret rfl (ret_one1 (t := 4) (os := dk l (dkAt l at') (dkSt l at' st)) rfl rfl ?_ rfl ?_ rfl)
  all_goals rfl

end Go.Proofs.Ytoofgniepbidnaa
