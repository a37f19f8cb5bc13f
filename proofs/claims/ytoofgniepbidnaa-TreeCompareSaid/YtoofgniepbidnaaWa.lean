/-
  Walks of package vector and of the deck that deals numbers.
-/
import Derived.Test.YtoofgniepbidnaaTy
namespace Go.Proofs.Ytoofgniepbidnaa
open Go.Dv

abbrev vi (n : Int) : V := .int .i64 n
abbrev di (n : Int) : D := .v (.int .i64 n)
abbrev vl (xs : List Int) : V := .list (xs.map vi)
abbrev dl (xs : List Int) : D := .v (.list (xs.map vi))
abbrev db (b : Bool) : D := .v (.bool b)
abbrev σ0 : St := ⟨[], []⟩
abbrev dfn (f : FuncId) : D := .v (.fn f [] [])

theorem idx_some {α : Type} {f : α → V} {a : List α} {i : Nat} {x : α} (h : a[i]? = some x) : (a.map f)[((i : Nat) : Int).toNat]? = some (f x) := by simp [h]
theorem get_ex {α : Type} {a : List α} {i : Nat} (h : i < a.length) : ∃ x, a[i]? = some x := ⟨_, List.getElem?_eq_getElem h⟩
theorem wrap_id {n : Int} (h0 : -9223372036854775808 ≤ n) (h1 : n ≤ 9223372036854775807) : IntKind.i64.wrap n = n := by rw [IntKind.wrap_i64]; omega
theorem wrap_succ {i : Nat} (h : i ≤ 1000000000) : IntKind.i64.wrap ((i : Int) + 1) = ((i + 1 : Nat) : Int) := by rw [wrap_id (by omega) (by omega)]; omega

/- THE PLAIN FUNCTIONS -/
def below : List Int → List Int → Bool
  | x :: a, y :: b => decide (x ≤ y) && below a b
  | _, _ => true
theorem below_at {a b : List Int} {i : Nat} {x y : Int} (hx : a[i]? = some x) (hy : b[i]? = some y) : below (a.drop i) (b.drop i) = (decide (x ≤ y) && below (a.drop (i + 1)) (b.drop (i + 1))) := by
  obtain ⟨ha1, ha2⟩ := List.getElem?_eq_some_iff.1 hx
  obtain ⟨hb1, hb2⟩ := List.getElem?_eq_some_iff.1 hy
  rw [List.drop_eq_getElem_cons ha1, List.drop_eq_getElem_cons hb1, ha2, hb2]
  rfl
theorem below_end {a b : List Int} {i : Nat} (h : a.length ≤ i) : below (a.drop i) (b.drop i) = true := by
  rw [List.drop_of_length_le h]; rfl

def isNum (x : Int) : Bool := decide (0 ≤ x) && decide (x ≤ 1048576)
def isEl (x : Int) : Bool := isNum x || x == 1099511627776
def valid (xs : List Int) : Bool := decide (xs.length ≤ 6) && xs.all isEl
def finite (xs : List Int) : Bool := decide (xs.length ≤ 6) && xs.all isNum
def leq (a b : List Int) : Bool := valid a && valid b && a.length == b.length && below a b
theorem valid_len {a : List Int} (h : valid a = true) : a.length ≤ 6 := by simp [valid] at h; exact h.1

/-- the first place where p holds; -1 -/
def idxP (p : Int → Bool) (xs : List Int) (i : Nat) : Int := match xs with
  | [] => -1
  | x :: xs => if p x then i else idxP p xs (i + 1)
theorem idxP_at {p : Int → Bool} {xs : List Int} {i : Nat} {x : Int} (h : xs[i]? = some x) : idxP p (xs.drop i) i = if p x then (i : Int) else idxP p (xs.drop (i + 1)) (i + 1) := by
  obtain ⟨h1, h2⟩ := List.getElem?_eq_some_iff.1 h
  rw [List.drop_eq_getElem_cons h1, h2]; rfl
theorem idxP_end {p : Int → Bool} {xs : List Int} {i : Nat} (h : xs.length ≤ i) : idxP p (xs.drop i) i = -1 := by rw [List.drop_of_length_le h]; rfl
theorem idxP_any {p : Int → Bool} : ∀ (xs : List Int) (i : Nat), decide (0 ≤ idxP p xs i) = xs.any p
  | [], i => by simp [idxP]
  | x :: xs, i => by
    simp only [idxP, List.any_cons]
    by_cases hx : p x = true
    · simp [hx]
    · simp only [hx]; simpa using idxP_any xs (i + 1)

theorem not_any_not (p : Int → Bool) (xs : List Int) : (!(xs.any fun x => !p x)) = xs.all p := by
  induction xs with
  | nil => rfl
  | cons x xs ih => simp only [List.any_cons, List.all_cons, ← ih]; cases p x <;> simp

def joinM (va rb : Bool) (f : Int → Int → Int) (a b : List Int) : List Int × Int :=
  if va && rb then (if a.length = b.length then (List.zipWith f a b, 0) else ([], 3)) else ([], 2)
def fillM (f : Int → Int → Int) (a b : List Int) (i : Nat) : List Int := List.zipWith f (a.take i) (b.take i) ++ List.replicate (a.length - i) 0
theorem fillM_zero (f : Int → Int → Int) (a b : List Int) : fillM f a b 0 = List.replicate a.length 0 := by simp [fillM]
theorem fillM_end {f : Int → Int → Int} {a b : List Int} {i : Nat} (h : a.length = b.length) (hi : a.length ≤ i) : fillM f a b i = List.zipWith f a b := by
  simp [fillM, List.take_of_length_le hi, List.take_of_length_le (h ▸ hi : b.length ≤ i), Nat.sub_eq_zero_of_le hi]
theorem fillM_length {f : Int → Int → Int} {a b : List Int} (h : a.length = b.length) (i : Nat) : (fillM f a b i).length = a.length := by simp [fillM]; omega
theorem fillM_set {f : Int → Int → Int} {a b : List Int} {i : Nat} {x y : Int} (h : a.length = b.length) (hx : a[i]? = some x) (hy : b[i]? = some y) : (fillM f a b i).set i (f x y) = fillM f a b (i + 1) := by
  obtain ⟨ha1, ha2⟩ := List.getElem?_eq_some_iff.1 hx
  obtain ⟨hb1, hb2⟩ := List.getElem?_eq_some_iff.1 hy
  have hl : (List.zipWith f (a.take i) (b.take i)).length = i := by simp; omega
  unfold fillM
  rw [List.set_append_right _ _ (by omega), hl, Nat.sub_self]
  rw [show a.length - i = (a.length - (i + 1)) + 1 by omega, List.replicate_succ, List.set_cons_zero]
  rw [List.take_add_one, List.take_add_one, hx, hy]
  rw [List.zipWith_append (by simp; omega)]
  simp

def addF (x y : Int) : Int := if x = 1099511627776 ∨ y = 1099511627776 then 1099511627776 else IntKind.i64.wrap (x + y)
def subF (x y : Int) : Int := if x = 1099511627776 then 1099511627776 else IntKind.i64.wrap (x - y)
def maxF (x y : Int) : Int := if y > x then y else x
def minF (x y : Int) : Int := if y < x then y else x

noncomputable def cBelow : Code := Try.f58.body.getD .skip
set_option maxRecDepth 20000 in
theorem below_loop (a b : List Int) (h : a.length = b.length) (hs : a.length ≤ 1000000) (m : Nat) : ∀ i : Nat, a.length - i = m → below a b = below (a.drop i) (b.drop i) → Run PP (fun env σ1 => ResOK PP Try.f58 env σ1 (db (below a b)) σ0) [.lp (sub cBelow [1, 0, 1, 0, 0]), .blk 0, .code (sub cBelow [1, 1])] ((dl a) :: (dl b) :: .undef :: .undef :: (db false) :: .undef :: .undef :: (dl a) :: (di ↑a.length) :: (di ↑i) :: .undef :: .undef :: .undef :: .undef :: .undef :: .undef :: .undef :: .undef :: .undef :: .undef :: .undef :: []) σ0 := by
  induction m using Nat.strongRecOn with
  | _ m ih =>
    intro i hm hb
    refine run_lp ?_
    refine at_seq [1, 0, 1, 0, 0, 0] [1, 0, 1, 0, 0, 1] rfl ?_
    refine at_region rfl ?_
    refine at_op (some 10) rfl rfl rfl rfl (op_binI rfl rfl) (by dsimp only [putD, List.set]) ?_
    refine at_end rfl ?_
    refine at_seq [1, 0, 1, 0, 0, 1, 0] [1, 0, 1, 0, 0, 1, 1] rfl ?_
    refine at_cond [1, 0, 1, 0, 0, 1, 0, 0] [1, 0, 1, 0, 0, 1, 0, 1] rfl rfl (fun hc1 => ?_) (fun hc1 => ?_)
    · skip
      have hlt : i < a.length := by simpa using hc1
      obtain ⟨x, hx⟩ := get_ex hlt
      obtain ⟨y, hy⟩ := get_ex (a := b) (i := i) (by omega)
      rw [below_at hx hy] at hb
      refine at_skip rfl ?_
      refine at_seq [1, 0, 1, 0, 0, 1, 1, 0] [1, 0, 1, 0, 0, 1, 1, 1] rfl ?_
      refine at_block [1, 0, 1, 0, 0, 1, 1, 0, 0] 1 rfl ?_
      refine at_seq [1, 0, 1, 0, 0, 1, 1, 0, 0, 0] [1, 0, 1, 0, 0, 1, 1, 0, 0, 1] rfl ?_
      refine at_region rfl ?_
      refine at_mv 9 11 rfl rfl rfl (.inl rfl) rfl (by dsimp only [List.set]) ?_
      first | (refine at_op (some 12) rfl rfl rfl rfl (op_idxL rfl slInt (by first | decide | omega) (by first | exact idx_some (by assumption) | assumption | rfl) (by first | rfl | (simp [V.size]; done))) (by dsimp only [putD, List.set]) ?_) | (refine at_op (some 12) rfl rfl rfl rfl (opOK_un (op_idxL rfl slInt (by first | decide | omega) (by first | exact idx_some (by assumption) | assumption | rfl) (by first | rfl | (simp [V.size]; done)))) (by dsimp only [putD, List.set]) ?_) | (refine at_op (some 12) rfl rfl rfl rfl (op_idxA rfl slInt (by first | decide | omega) (by first | decide | omega)) (by dsimp only [putD, List.set]) ?_)
      first | (refine at_op (some 13) rfl rfl rfl rfl (op_loadR1 rfl oneInt rfl) (by dsimp only [putD, List.set]) ?_) | (refine at_op (some 13) rfl rfl rfl rfl (op_loadP1 rfl oneInt rfl rfl) (by dsimp only [putD, List.set]) ?_)
      refine at_mv 11 5 rfl rfl rfl (.inr rfl) rfl (by dsimp only [List.set]) ?_
      refine at_mv 13 6 rfl rfl rfl (.inr rfl) rfl (by dsimp only [List.set]) ?_
      refine at_end rfl ?_
      refine at_seq [1, 0, 1, 0, 0, 1, 1, 0, 0, 1, 0] [1, 0, 1, 0, 0, 1, 1, 0, 0, 1, 1] rfl ?_
      refine at_region rfl ?_
      refine at_mv 6 14 rfl rfl rfl (.inl rfl) rfl (by dsimp only [List.set]) ?_
      refine at_mv 1 15 rfl rfl rfl (.inl rfl) rfl (by dsimp only [List.set]) ?_
      refine at_mv 5 16 rfl rfl rfl (.inl rfl) rfl (by dsimp only [List.set]) ?_
      first | (refine at_op (some 17) rfl rfl rfl rfl (op_idxL rfl slInt (by first | decide | omega) (by first | exact idx_some (by assumption) | assumption | rfl) (by first | rfl | (simp [V.size]; done))) (by dsimp only [putD, List.set]) ?_) | (refine at_op (some 17) rfl rfl rfl rfl (opOK_un (op_idxL rfl slInt (by first | decide | omega) (by first | exact idx_some (by assumption) | assumption | rfl) (by first | rfl | (simp [V.size]; done)))) (by dsimp only [putD, List.set]) ?_) | (refine at_op (some 17) rfl rfl rfl rfl (op_idxA rfl slInt (by first | decide | omega) (by first | decide | omega)) (by dsimp only [putD, List.set]) ?_)
      first | (refine at_op (some 18) rfl rfl rfl rfl (op_loadR1 rfl oneInt rfl) (by dsimp only [putD, List.set]) ?_) | (refine at_op (some 18) rfl rfl rfl rfl (op_loadP1 rfl oneInt rfl rfl) (by dsimp only [putD, List.set]) ?_)
      refine at_op (some 19) rfl rfl rfl rfl (op_binI rfl rfl) (by dsimp only [putD, List.set]) ?_
      refine at_end rfl ?_
      refine at_cond [1, 0, 1, 0, 0, 1, 1, 0, 0, 1, 1, 0] [1, 0, 1, 0, 0, 1, 1, 0, 0, 1, 1, 1] rfl rfl (fun hc2 => ?_) (fun hc2 => ?_)
      · skip
        refine at_seq [1, 0, 1, 0, 0, 1, 1, 0, 0, 1, 1, 0, 0] [1, 0, 1, 0, 0, 1, 1, 0, 0, 1, 1, 0, 1] rfl ?_
        refine at_region rfl ?_
        refine at_mc 4 rfl rfl rfl (.inr rfl) (by dsimp only [constD]) (by dsimp only [List.set]) ?_
        refine at_end rfl ?_
        refine at_ret rfl (ret_one (t := 4) rfl rfl ?_ rfl)
        first | (rw [hb]; done) | (simp_all; done) | (simp_all; omega)
      · skip
        refine at_skip rfl ?_
        refine run_blk ?_
        refine at_region rfl ?_
        refine at_op (some 20) rfl rfl rfl rfl (op_binI rfl rfl) (by dsimp only [putD, List.set]) ?_
        refine at_mv 20 9 rfl rfl rfl (.inl rfl) rfl (by dsimp only [List.set]) ?_
        refine at_end rfl ?_
        rw [wrap_succ (by omega)]
        exact run_wk (.keep (.keep (.drop (.drop (.keep (.drop (.drop (.keep (.keep (.keep (.drop (.drop (.drop (.drop (.drop (.drop (.drop (.drop (.drop (.drop (.drop .nil))))))))))))))))))))) (ih _ (by omega) (i + 1) rfl (by simp_all))
    · skip
      have hge : a.length ≤ i := by simpa using hc1
      rw [below_end hge] at hb
      refine at_exit rfl rfl ?_
      refine at_seq [1, 1, 0] [1, 1, 1] rfl ?_
      refine at_region rfl ?_
      refine at_mc 4 rfl rfl rfl (.inr rfl) (by dsimp only [constD]) (by dsimp only [List.set]) ?_
      refine at_end rfl ?_
      refine at_ret rfl (ret_one (t := 4) rfl rfl ?_ rfl)
      first | (rw [hb]; done) | (simp_all; done) | (simp_all; omega)

set_option maxRecDepth 20000 in
theorem below_spec (a b : List Int) (h : a.length = b.length) (hs : a.length ≤ 1000000) : FSpec PP 58 [dl a, dl b] σ0 (db (below a b)) σ0 := by
  refine spec_at cBelow Try.func58 rfl (by kernel_rfl) (by first | decide | simp) _ (by dsimp only [Try.f58, List.length, Nat.reduceAdd, Nat.reduceSub, List.replicate, List.cons_append, List.nil_append]) ?_
  refine at_seq [0] [1] rfl ?_
  refine at_region rfl ?_
  refine at_mc 4 rfl rfl rfl (.inr rfl) (by dsimp only [constD]) (by dsimp only [List.set]) ?_
  refine at_end rfl ?_
  refine at_seq [1, 0] [1, 1] rfl ?_
  refine at_seq [1, 0, 0] [1, 0, 1] rfl ?_
  refine at_region rfl ?_
  refine at_mv 0 7 rfl rfl rfl (.inl rfl) rfl (by dsimp only [List.set]) ?_
  first | (refine at_op (some 8) rfl rfl rfl rfl (op_lenL rfl uInts) (by dsimp only [putD, List.set]) ?_) | (refine at_op (some 8) rfl rfl rfl rfl (opOK_un (op_lenL rfl uInts)) (by dsimp only [putD, List.set]) ?_) | (refine at_op (some 8) rfl rfl rfl rfl (op_lenA rfl uInts) (by dsimp only [putD, List.set]) ?_)
  refine at_mc 9 rfl rfl rfl (.inl rfl) (by dsimp only [constD]) (by dsimp only [List.set]) ?_
  refine at_end rfl ?_
  refine at_block [1, 0, 1, 0] 0 rfl ?_
  refine at_loop [1, 0, 1, 0, 0] rfl ?_
  try simp only [List.length_map, List.length_nil, Int.toNat_natCast]
  exact below_loop a b h hs _ 0 rfl (by simp)

noncomputable def cNumber : Code := Try.f67.body.getD .skip
set_option maxRecDepth 20000 in
theorem number_spec (x : Int) : FSpec PP 67 [di x] σ0 (db (isNum x)) σ0 := by
  refine spec_at cNumber Try.func67 rfl (by kernel_rfl) (by first | decide | simp) _ (by dsimp only [Try.f67, List.length, Nat.reduceAdd, Nat.reduceSub, List.replicate, List.cons_append, List.nil_append]) ?_
  refine at_seq [0] [1] rfl ?_
  refine at_region rfl ?_
  refine at_mc 2 rfl rfl rfl (.inr rfl) (by dsimp only [constD]) (by dsimp only [List.set]) ?_
  refine at_end rfl ?_
  refine at_seq [1, 0] [1, 1] rfl ?_
  refine at_region rfl ?_
  refine at_mv 0 3 rfl rfl rfl (.inl rfl) rfl (by dsimp only [List.set]) ?_
  refine at_op (some 4) rfl rfl rfl rfl (op_binI rfl rfl) (by dsimp only [putD, List.set]) ?_
  refine at_mv 4 5 rfl rfl rfl (.inl rfl) rfl (by dsimp only [List.set]) ?_
  refine at_split 5 rfl (fun hb1 env' he => ?_) (fun hb1 env' he => ?_)
  · dsimp only [List.set] at he; subst he
    refine at_mv 0 6 rfl rfl rfl (.inl rfl) rfl (by dsimp only [List.set]) ?_
    refine at_op (some 7) rfl rfl rfl rfl (op_binI rfl rfl) (by dsimp only [putD, List.set]) ?_
    refine at_pk true 5 7 8 rfl rfl rfl rfl rfl rfl rfl (by dsimp only [List.set]) ?_
    refine at_mv 8 2 rfl rfl rfl (.inr rfl) rfl (by dsimp only [List.set]) ?_
    refine at_end rfl ?_
    refine at_ret rfl (ret_one (t := 2) rfl rfl ?_ rfl)
    first | (simp_all [isNum]; done) | (simp_all [isNum]; omega)
  · dsimp only [List.set] at he; subst he
    refine at_opN (some 6) rfl rfl rfl (by dsimp only [putD, List.set]) ?_
    refine at_opN (some 7) rfl rfl rfl (by dsimp only [putD, List.set]) ?_
    refine at_pkc false 5 8 rfl rfl rfl rfl rfl rfl (by dsimp only [constD]) (by dsimp only [List.set]) ?_
    refine at_mv 8 2 rfl rfl rfl (.inr rfl) rfl (by dsimp only [List.set]) ?_
    refine at_end rfl ?_
    refine at_ret rfl (ret_one (t := 2) rfl rfl ?_ rfl)
    first | (simp_all [isNum]; done) | (simp_all [isNum]; omega)

noncomputable def cValid1 : Code := Try.f66.body.getD .skip
set_option maxRecDepth 20000 in
theorem valid1_spec (x : Int) : FSpec PP 66 [di x] σ0 (db (!isEl x)) σ0 := by
  refine spec_at cValid1 Try.func66 rfl (by kernel_rfl) (by first | decide | simp) _ (by dsimp only [Try.f66, List.length, Nat.reduceAdd, Nat.reduceSub, List.replicate, List.cons_append, List.nil_append]) ?_
  refine at_seq [0] [1] rfl ?_
  refine at_region rfl ?_
  refine at_mc 2 rfl rfl rfl (.inr rfl) (by dsimp only [constD]) (by dsimp only [List.set]) ?_
  refine at_end rfl ?_
  refine at_seq [1, 0] [1, 1] rfl ?_
  refine at_region rfl ?_
  refine at_mv 0 3 rfl rfl rfl (.inl rfl) rfl (by dsimp only [List.set]) ?_
  refine at_op (some 4) rfl rfl rfl rfl (op_call0 rfl rfl rfl rfl (number_spec _)) (by dsimp only [putD, List.set]) ?_
  refine at_op (some 5) rfl rfl rfl rfl (op_un rfl rfl) (by dsimp only [putD, List.set]) ?_
  refine at_mv 5 6 rfl rfl rfl (.inl rfl) rfl (by dsimp only [List.set]) ?_
  refine at_split 6 rfl (fun hb1 env' he => ?_) (fun hb1 env' he => ?_)
  · dsimp only [List.set] at he; subst he
    refine at_mv 0 7 rfl rfl rfl (.inl rfl) rfl (by dsimp only [List.set]) ?_
    refine at_op (some 8) rfl rfl rfl rfl (op_binI rfl rfl) (by dsimp only [putD, List.set]) ?_
    refine at_pk true 6 8 9 rfl rfl rfl rfl rfl rfl rfl (by dsimp only [List.set]) ?_
    refine at_mv 9 2 rfl rfl rfl (.inr rfl) rfl (by dsimp only [List.set]) ?_
    refine at_end rfl ?_
    refine at_ret rfl (ret_one (t := 2) rfl rfl ?_ rfl)
    first | (simp_all [isEl, bne]; done) | (simp_all [isEl, bne]; omega)
  · dsimp only [List.set] at he; subst he
    refine at_opN (some 7) rfl rfl rfl (by dsimp only [putD, List.set]) ?_
    refine at_opN (some 8) rfl rfl rfl (by dsimp only [putD, List.set]) ?_
    refine at_pkc false 6 9 rfl rfl rfl rfl rfl rfl (by dsimp only [constD]) (by dsimp only [List.set]) ?_
    refine at_mv 9 2 rfl rfl rfl (.inr rfl) rfl (by dsimp only [List.set]) ?_
    refine at_end rfl ?_
    refine at_ret rfl (ret_one (t := 2) rfl rfl ?_ rfl)
    first | (simp_all [isEl, bne]; done) | (simp_all [isEl, bne]; omega)

noncomputable def cFinite1 : Code := Try.f69.body.getD .skip
set_option maxRecDepth 20000 in
theorem finite1_spec (x : Int) : FSpec PP 69 [di x] σ0 (db (!isNum x)) σ0 := by
  refine spec_at cFinite1 Try.func69 rfl (by kernel_rfl) (by first | decide | simp) _ (by dsimp only [Try.f69, List.length, Nat.reduceAdd, Nat.reduceSub, List.replicate, List.cons_append, List.nil_append]) ?_
  refine at_seq [0] [1] rfl ?_
  refine at_region rfl ?_
  refine at_mc 2 rfl rfl rfl (.inr rfl) (by dsimp only [constD]) (by dsimp only [List.set]) ?_
  refine at_end rfl ?_
  refine at_seq [1, 0] [1, 1] rfl ?_
  refine at_region rfl ?_
  refine at_mv 0 3 rfl rfl rfl (.inl rfl) rfl (by dsimp only [List.set]) ?_
  refine at_op (some 4) rfl rfl rfl rfl (op_call0 rfl rfl rfl rfl (number_spec _)) (by dsimp only [putD, List.set]) ?_
  refine at_op (some 5) rfl rfl rfl rfl (op_un rfl rfl) (by dsimp only [putD, List.set]) ?_
  refine at_mv 5 2 rfl rfl rfl (.inr rfl) rfl (by dsimp only [List.set]) ?_
  refine at_end rfl ?_
  refine at_ret rfl (ret_one (t := 2) rfl rfl ?_ rfl)
  simp_all

noncomputable def cAdd1 : Code := Try.f59.body.getD .skip
set_option maxRecDepth 20000 in
theorem add1_spec (x y : Int) : FSpec PP 59 [di x, di y] σ0 (di (addF x y)) σ0 := by
  refine spec_at cAdd1 Try.func59 rfl (by kernel_rfl) (by first | decide | simp) _ (by dsimp only [Try.f59, List.length, Nat.reduceAdd, Nat.reduceSub, List.replicate, List.cons_append, List.nil_append]) ?_
  refine at_seq [0] [1] rfl ?_
  refine at_region rfl ?_
  refine at_mc 4 rfl rfl rfl (.inr rfl) (by dsimp only [constD]) (by dsimp only [List.set]) ?_
  refine at_end rfl ?_
  refine at_seq [1, 0] [1, 1] rfl ?_
  refine at_seq [1, 0, 0] [1, 0, 1] rfl ?_
  refine at_region rfl ?_
  refine at_mv 0 5 rfl rfl rfl (.inl rfl) rfl (by dsimp only [List.set]) ?_
  refine at_op (some 6) rfl rfl rfl rfl (op_binI rfl rfl) (by dsimp only [putD, List.set]) ?_
  refine at_mv 6 7 rfl rfl rfl (.inl rfl) rfl (by dsimp only [List.set]) ?_
  refine at_split 7 rfl (fun hb1 env' he => ?_) (fun hb1 env' he => ?_)
  · dsimp only [List.set] at he; subst he
    refine at_opN (some 8) rfl rfl rfl (by dsimp only [putD, List.set]) ?_
    refine at_opN (some 9) rfl rfl rfl (by dsimp only [putD, List.set]) ?_
    refine at_pkc true 7 10 rfl rfl rfl rfl rfl rfl (by dsimp only [constD]) (by dsimp only [List.set]) ?_
    refine at_end rfl ?_
    refine at_true [1, 0, 1, 0] [1, 0, 1, 1] rfl rfl ?_
    refine at_seq [1, 0, 1, 0, 0] [1, 0, 1, 0, 1] rfl ?_
    refine at_region rfl ?_
    refine at_mc 4 rfl rfl rfl (.inr rfl) (by dsimp only [constD]) (by dsimp only [List.set]) ?_
    refine at_end rfl ?_
    refine at_ret rfl (ret_one (t := 4) rfl rfl ?_ rfl)
    first | rfl | (simp_all [addF]; done)
  · dsimp only [List.set] at he; subst he
    refine at_mv 1 8 rfl rfl rfl (.inl rfl) rfl (by dsimp only [List.set]) ?_
    refine at_op (some 9) rfl rfl rfl rfl (op_binI rfl rfl) (by dsimp only [putD, List.set]) ?_
    refine at_pk false 7 9 10 rfl rfl rfl rfl rfl rfl rfl (by dsimp only [List.set]) ?_
    refine at_end rfl ?_
    refine at_cond [1, 0, 1, 0] [1, 0, 1, 1] rfl rfl (fun hc2 => ?_) (fun hc2 => ?_)
    · skip
      refine at_seq [1, 0, 1, 0, 0] [1, 0, 1, 0, 1] rfl ?_
      refine at_region rfl ?_
      refine at_mc 4 rfl rfl rfl (.inr rfl) (by dsimp only [constD]) (by dsimp only [List.set]) ?_
      refine at_end rfl ?_
      refine at_ret rfl (ret_one (t := 4) rfl rfl ?_ rfl)
      first | rfl | (simp_all [addF]; done)
    · skip
      refine at_skip rfl ?_
      refine at_seq [1, 1, 0] [1, 1, 1] rfl ?_
      refine at_region rfl ?_
      refine at_mv 0 11 rfl rfl rfl (.inl rfl) rfl (by dsimp only [List.set]) ?_
      refine at_mv 1 12 rfl rfl rfl (.inl rfl) rfl (by dsimp only [List.set]) ?_
      refine at_op (some 13) rfl rfl rfl rfl (op_binI rfl rfl) (by dsimp only [putD, List.set]) ?_
      refine at_mv 13 4 rfl rfl rfl (.inr rfl) rfl (by dsimp only [List.set]) ?_
      refine at_end rfl ?_
      refine at_ret rfl (ret_one (t := 4) rfl rfl ?_ rfl)
      first | rfl | (simp_all [addF]; done)

noncomputable def cSub1 : Code := Try.f60.body.getD .skip
set_option maxRecDepth 20000 in
theorem sub1_spec (x y : Int) : FSpec PP 60 [di x, di y] σ0 (di (subF x y)) σ0 := by
  refine spec_at cSub1 Try.func60 rfl (by kernel_rfl) (by first | decide | simp) _ (by dsimp only [Try.f60, List.length, Nat.reduceAdd, Nat.reduceSub, List.replicate, List.cons_append, List.nil_append]) ?_
  refine at_seq [0] [1] rfl ?_
  refine at_region rfl ?_
  refine at_mc 4 rfl rfl rfl (.inr rfl) (by dsimp only [constD]) (by dsimp only [List.set]) ?_
  refine at_end rfl ?_
  refine at_seq [1, 0] [1, 1] rfl ?_
  refine at_seq [1, 0, 0] [1, 0, 1] rfl ?_
  refine at_region rfl ?_
  refine at_mv 0 5 rfl rfl rfl (.inl rfl) rfl (by dsimp only [List.set]) ?_
  refine at_op (some 6) rfl rfl rfl rfl (op_binI rfl rfl) (by dsimp only [putD, List.set]) ?_
  refine at_end rfl ?_
  refine at_cond [1, 0, 1, 0] [1, 0, 1, 1] rfl rfl (fun hc1 => ?_) (fun hc1 => ?_)
  · skip
    refine at_seq [1, 0, 1, 0, 0] [1, 0, 1, 0, 1] rfl ?_
    refine at_region rfl ?_
    refine at_mc 4 rfl rfl rfl (.inr rfl) (by dsimp only [constD]) (by dsimp only [List.set]) ?_
    refine at_end rfl ?_
    refine at_ret rfl (ret_one (t := 4) rfl rfl ?_ rfl)
    first | rfl | (simp_all [subF]; done)
  · skip
    refine at_skip rfl ?_
    refine at_seq [1, 1, 0] [1, 1, 1] rfl ?_
    refine at_region rfl ?_
    refine at_mv 0 7 rfl rfl rfl (.inl rfl) rfl (by dsimp only [List.set]) ?_
    refine at_mv 1 8 rfl rfl rfl (.inl rfl) rfl (by dsimp only [List.set]) ?_
    refine at_op (some 9) rfl rfl rfl rfl (op_binI rfl rfl) (by dsimp only [putD, List.set]) ?_
    refine at_mv 9 4 rfl rfl rfl (.inr rfl) rfl (by dsimp only [List.set]) ?_
    refine at_end rfl ?_
    refine at_ret rfl (ret_one (t := 4) rfl rfl ?_ rfl)
    first | rfl | (simp_all [subF]; done)

noncomputable def cMax1 : Code := Try.f56.body.getD .skip
set_option maxRecDepth 20000 in
theorem max1_spec (x y : Int) : FSpec PP 56 [di x, di y] σ0 (di (maxF x y)) σ0 := by
  refine spec_at cMax1 Try.func56 rfl (by kernel_rfl) (by first | decide | simp) _ (by dsimp only [Try.f56, List.length, Nat.reduceAdd, Nat.reduceSub, List.replicate, List.cons_append, List.nil_append]) ?_
  refine at_seq [0] [1] rfl ?_
  refine at_region rfl ?_
  refine at_mc 4 rfl rfl rfl (.inr rfl) (by dsimp only [constD]) (by dsimp only [List.set]) ?_
  refine at_end rfl ?_
  refine at_seq [1, 0] [1, 1] rfl ?_
  refine at_region rfl ?_
  refine at_mv 0 5 rfl rfl rfl (.inl rfl) rfl (by dsimp only [List.set]) ?_
  refine at_mv 1 6 rfl rfl rfl (.inl rfl) rfl (by dsimp only [List.set]) ?_
  refine at_op (some 7) rfl rfl rfl rfl (op_max rfl) (by dsimp only [putD, List.set]) ?_
  refine at_mv 7 4 rfl rfl rfl (.inr rfl) rfl (by dsimp only [List.set]) ?_
  refine at_end rfl ?_
  refine at_ret rfl (ret_one (t := 4) rfl rfl ?_ rfl)
  first | rfl | (simp_all [maxF]; done)

noncomputable def cMin1 : Code := Try.f57.body.getD .skip
set_option maxRecDepth 20000 in
theorem min1_spec (x y : Int) : FSpec PP 57 [di x, di y] σ0 (di (minF x y)) σ0 := by
  refine spec_at cMin1 Try.func57 rfl (by kernel_rfl) (by first | decide | simp) _ (by dsimp only [Try.f57, List.length, Nat.reduceAdd, Nat.reduceSub, List.replicate, List.cons_append, List.nil_append]) ?_
  refine at_seq [0] [1] rfl ?_
  refine at_region rfl ?_
  refine at_mc 4 rfl rfl rfl (.inr rfl) (by dsimp only [constD]) (by dsimp only [List.set]) ?_
  refine at_end rfl ?_
  refine at_seq [1, 0] [1, 1] rfl ?_
  refine at_region rfl ?_
  refine at_mv 0 5 rfl rfl rfl (.inl rfl) rfl (by dsimp only [List.set]) ?_
  refine at_mv 1 6 rfl rfl rfl (.inl rfl) rfl (by dsimp only [List.set]) ?_
  refine at_op (some 7) rfl rfl rfl rfl (op_min rfl) (by dsimp only [putD, List.set]) ?_
  refine at_mv 7 4 rfl rfl rfl (.inr rfl) rfl (by dsimp only [List.set]) ?_
  refine at_end rfl ?_
  refine at_ret rfl (ret_one (t := 4) rfl rfl ?_ rfl)
  first | rfl | (simp_all [minF]; done)

noncomputable def cIndexFunc : Code := Try.f83.body.getD .skip
set_option maxRecDepth 20000 in
theorem indexFunc_loop (fo : FuncId) (fs cs : List V) (xs : List Int) (p : Int → Bool) (hf : ∀ x ∈ xs, FSpec PP fo (fs.map .v ++ [di x] ++ cs.map .v) σ0 (db (p x)) σ0) (hs : xs.length ≤ 1000000) (m : Nat) : ∀ i : Nat, xs.length - i = m → idxP p xs 0 = idxP p (xs.drop i) i → Run PP (fun env σ1 => ResOK PP Try.f83 env σ1 (di (idxP p xs 0)) σ0) [.lp (sub cIndexFunc [1, 0, 1, 0, 0]), .blk 0, .code (sub cIndexFunc [1, 1])] ((dl xs) :: (.v (.fn fo fs cs)) :: .undef :: .undef :: (di 0) :: .undef :: (dl xs) :: (di ↑xs.length) :: (di ↑i) :: .undef :: .undef :: .undef :: .undef :: .undef :: .undef :: .undef :: .undef :: .undef :: .undef :: []) σ0 := by
  induction m using Nat.strongRecOn with
  | _ m ih =>
    intro i hm hb
    refine run_lp ?_
    refine at_seq [1, 0, 1, 0, 0, 0] [1, 0, 1, 0, 0, 1] rfl ?_
    refine at_region rfl ?_
    refine at_op (some 9) rfl rfl rfl rfl (op_binI rfl rfl) (by dsimp only [putD, List.set]) ?_
    refine at_end rfl ?_
    refine at_seq [1, 0, 1, 0, 0, 1, 0] [1, 0, 1, 0, 0, 1, 1] rfl ?_
    refine at_cond [1, 0, 1, 0, 0, 1, 0, 0] [1, 0, 1, 0, 0, 1, 0, 1] rfl rfl (fun hc1 => ?_) (fun hc1 => ?_)
    · skip
      have hlt : i < xs.length := by simpa using hc1
      obtain ⟨x, hx⟩ := get_ex hlt
      rw [idxP_at hx] at hb
      refine at_skip rfl ?_
      refine at_seq [1, 0, 1, 0, 0, 1, 1, 0] [1, 0, 1, 0, 0, 1, 1, 1] rfl ?_
      refine at_block [1, 0, 1, 0, 0, 1, 1, 0, 0] 1 rfl ?_
      refine at_seq [1, 0, 1, 0, 0, 1, 1, 0, 0, 0] [1, 0, 1, 0, 0, 1, 1, 0, 0, 1] rfl ?_
      refine at_region rfl ?_
      refine at_mv 8 10 rfl rfl rfl (.inl rfl) rfl (by dsimp only [List.set]) ?_
      refine at_mv 10 5 rfl rfl rfl (.inr rfl) rfl (by dsimp only [List.set]) ?_
      refine at_end rfl ?_
      refine at_seq [1, 0, 1, 0, 0, 1, 1, 0, 0, 1, 0] [1, 0, 1, 0, 0, 1, 1, 0, 0, 1, 1] rfl ?_
      refine at_region rfl ?_
      refine at_mv 1 11 rfl rfl rfl (.inl rfl) rfl (by dsimp only [List.set]) ?_
      refine at_mv 0 12 rfl rfl rfl (.inl rfl) rfl (by dsimp only [List.set]) ?_
      refine at_mv 5 13 rfl rfl rfl (.inl rfl) rfl (by dsimp only [List.set]) ?_
      first | (refine at_op (some 14) rfl rfl rfl rfl (op_idxL rfl slInt (by first | decide | omega) (by first | exact idx_some (by assumption) | assumption | rfl) (by first | rfl | (simp [V.size]; done))) (by dsimp only [putD, List.set]) ?_) | (refine at_op (some 14) rfl rfl rfl rfl (opOK_un (op_idxL rfl slInt (by first | decide | omega) (by first | exact idx_some (by assumption) | assumption | rfl) (by first | rfl | (simp [V.size]; done)))) (by dsimp only [putD, List.set]) ?_) | (refine at_op (some 14) rfl rfl rfl rfl (op_idxA rfl slInt (by first | decide | omega) (by first | decide | omega)) (by dsimp only [putD, List.set]) ?_)
      first | (refine at_op (some 15) rfl rfl rfl rfl (op_loadR1 rfl oneInt rfl) (by dsimp only [putD, List.set]) ?_) | (refine at_op (some 15) rfl rfl rfl rfl (op_loadP1 rfl oneInt rfl rfl) (by dsimp only [putD, List.set]) ?_)
      refine at_op (some 16) rfl rfl rfl rfl (op_call0 rfl rfl rfl rfl (hf x (List.mem_of_getElem? hx))) (by dsimp only [putD, List.set]) ?_
      refine at_end rfl ?_
      refine at_cond [1, 0, 1, 0, 0, 1, 1, 0, 0, 1, 1, 0] [1, 0, 1, 0, 0, 1, 1, 0, 0, 1, 1, 1] rfl rfl (fun hc2 => ?_) (fun hc2 => ?_)
      · skip
        refine at_seq [1, 0, 1, 0, 0, 1, 1, 0, 0, 1, 1, 0, 0] [1, 0, 1, 0, 0, 1, 1, 0, 0, 1, 1, 0, 1] rfl ?_
        refine at_region rfl ?_
        refine at_mv 5 17 rfl rfl rfl (.inl rfl) rfl (by dsimp only [List.set]) ?_
        refine at_mv 17 4 rfl rfl rfl (.inr rfl) rfl (by dsimp only [List.set]) ?_
        refine at_end rfl ?_
        refine at_ret rfl (ret_one (t := 4) rfl rfl ?_ rfl)
        first | (rw [hb]; done) | (simp_all; done)
      · skip
        refine at_skip rfl ?_
        refine run_blk ?_
        refine at_region rfl ?_
        refine at_op (some 18) rfl rfl rfl rfl (op_binI rfl rfl) (by dsimp only [putD, List.set]) ?_
        refine at_mv 18 8 rfl rfl rfl (.inl rfl) rfl (by dsimp only [List.set]) ?_
        refine at_end rfl ?_
        rw [wrap_succ (by omega)]
        exact run_wk (.keep (.keep (.drop (.drop (.keep (.drop (.keep (.keep (.keep (.drop (.drop (.drop (.drop (.drop (.drop (.drop (.drop (.drop (.drop .nil))))))))))))))))))) (ih _ (by omega) (i + 1) rfl (by simp_all))
    · skip
      have hge : xs.length ≤ i := by simpa using hc1
      rw [idxP_end hge] at hb
      refine at_exit rfl rfl ?_
      refine at_seq [1, 1, 0] [1, 1, 1] rfl ?_
      refine at_region rfl ?_
      refine at_mc 4 rfl rfl rfl (.inr rfl) (by dsimp only [constD]) (by dsimp only [List.set]) ?_
      refine at_end rfl ?_
      refine at_ret rfl (ret_one (t := 4) rfl rfl ?_ rfl)
      first | (rw [hb]; done) | (simp_all; done)

set_option maxRecDepth 20000 in
theorem indexFunc_spec (fo : FuncId) (fs cs : List V) (xs : List Int) (p : Int → Bool) (hf : ∀ x ∈ xs, FSpec PP fo (fs.map .v ++ [di x] ++ cs.map .v) σ0 (db (p x)) σ0) (hs : xs.length ≤ 1000000) : FSpec PP 83 [dl xs, .v (.fn fo fs cs)] σ0 (di (idxP p xs 0)) σ0 := by
  refine spec_at cIndexFunc Try.func83 rfl (by kernel_rfl) (by first | decide | simp) _ (by dsimp only [Try.f83, List.length, Nat.reduceAdd, Nat.reduceSub, List.replicate, List.cons_append, List.nil_append]) ?_
  refine at_seq [0] [1] rfl ?_
  refine at_region rfl ?_
  refine at_mc 4 rfl rfl rfl (.inr rfl) (by dsimp only [constD]) (by dsimp only [List.set]) ?_
  refine at_end rfl ?_
  refine at_seq [1, 0] [1, 1] rfl ?_
  refine at_seq [1, 0, 0] [1, 0, 1] rfl ?_
  refine at_region rfl ?_
  refine at_mv 0 6 rfl rfl rfl (.inl rfl) rfl (by dsimp only [List.set]) ?_
  first | (refine at_op (some 7) rfl rfl rfl rfl (op_lenL rfl uInts) (by dsimp only [putD, List.set]) ?_) | (refine at_op (some 7) rfl rfl rfl rfl (opOK_un (op_lenL rfl uInts)) (by dsimp only [putD, List.set]) ?_) | (refine at_op (some 7) rfl rfl rfl rfl (op_lenA rfl uInts) (by dsimp only [putD, List.set]) ?_)
  refine at_mc 8 rfl rfl rfl (.inl rfl) (by dsimp only [constD]) (by dsimp only [List.set]) ?_
  refine at_end rfl ?_
  refine at_block [1, 0, 1, 0] 0 rfl ?_
  refine at_loop [1, 0, 1, 0, 0] rfl ?_
  try simp only [List.length_map, List.length_nil, Int.toNat_natCast]
  exact indexFunc_loop fo fs cs xs p hf hs _ 0 rfl (by simp)

noncomputable def cContainsFunc : Code := Try.f65.body.getD .skip
set_option maxRecDepth 20000 in
theorem containsFunc_spec (fo : FuncId) (fs cs : List V) (xs : List Int) (p : Int → Bool) (hf : ∀ x ∈ xs, FSpec PP fo (fs.map .v ++ [di x] ++ cs.map .v) σ0 (db (p x)) σ0) (hs : xs.length ≤ 1000000) : FSpec PP 65 [dl xs, .v (.fn fo fs cs)] σ0 (db (xs.any p)) σ0 := by
  refine spec_at cContainsFunc Try.func65 rfl (by kernel_rfl) (by first | decide | simp) _ (by dsimp only [Try.f65, List.length, Nat.reduceAdd, Nat.reduceSub, List.replicate, List.cons_append, List.nil_append]) ?_
  refine at_seq [0] [1] rfl ?_
  refine at_region rfl ?_
  refine at_mc 4 rfl rfl rfl (.inr rfl) (by dsimp only [constD]) (by dsimp only [List.set]) ?_
  refine at_end rfl ?_
  refine at_seq [1, 0] [1, 1] rfl ?_
  refine at_region rfl ?_
  refine at_mv 0 5 rfl rfl rfl (.inl rfl) rfl (by dsimp only [List.set]) ?_
  refine at_mv 1 6 rfl rfl rfl (.inl rfl) rfl (by dsimp only [List.set]) ?_
  refine at_op (some 7) rfl rfl rfl rfl (op_call0 rfl rfl rfl rfl (indexFunc_spec fo fs cs xs p hf hs)) (by dsimp only [putD, List.set]) ?_
  refine at_op (some 8) rfl rfl rfl rfl (op_binI rfl rfl) (by dsimp only [putD, List.set]) ?_
  refine at_mv 8 4 rfl rfl rfl (.inr rfl) rfl (by dsimp only [List.set]) ?_
  refine at_end rfl ?_
  refine at_ret rfl (ret_one (t := 4) rfl rfl ?_ rfl)
  rw [← idxP_any xs 0]

noncomputable def cValid : Code := Try.f30.body.getD .skip
set_option maxRecDepth 20000 in
theorem valid_spec (xs : List Int) : FSpec PP 30 [dl xs] σ0 (db (valid xs)) σ0 := by
  refine spec_at cValid Try.func30 rfl (by kernel_rfl) (by first | decide | simp) _ (by dsimp only [Try.f30, List.length, Nat.reduceAdd, Nat.reduceSub, List.replicate, List.cons_append, List.nil_append]) ?_
  refine at_seq [0] [1] rfl ?_
  refine at_region rfl ?_
  refine at_mc 2 rfl rfl rfl (.inr rfl) (by dsimp only [constD]) (by dsimp only [List.set]) ?_
  refine at_end rfl ?_
  refine at_seq [1, 0] [1, 1] rfl ?_
  refine at_region rfl ?_
  refine at_mv 0 3 rfl rfl rfl (.inl rfl) rfl (by dsimp only [List.set]) ?_
  first | (refine at_op (some 4) rfl rfl rfl rfl (op_lenL rfl uInts) (by dsimp only [putD, List.set]) ?_) | (refine at_op (some 4) rfl rfl rfl rfl (opOK_un (op_lenL rfl uInts)) (by dsimp only [putD, List.set]) ?_) | (refine at_op (some 4) rfl rfl rfl rfl (op_lenA rfl uInts) (by dsimp only [putD, List.set]) ?_)
  refine at_op (some 5) rfl rfl rfl rfl (op_binI rfl rfl) (by dsimp only [putD, List.set]) ?_
  refine at_mv 5 6 rfl rfl rfl (.inl rfl) rfl (by dsimp only [List.set]) ?_
  refine at_split 6 rfl (fun hb1 env' he => ?_) (fun hb1 env' he => ?_)
  · dsimp only [List.set] at he; subst he
    refine at_mv 0 7 rfl rfl rfl (.inl rfl) rfl (by dsimp only [List.set]) ?_
    refine at_op (some 8) rfl rfl rfl rfl (op_call0 rfl rfl rfl rfl (containsFunc_spec 66 [] [] xs (fun x => !isEl x) (fun x _ => valid1_spec x) (by simp at hb1; omega))) (by dsimp only [putD, List.set]) ?_
    refine at_op (some 9) rfl rfl rfl rfl (op_un rfl rfl) (by dsimp only [putD, List.set]) ?_
    refine at_pk true 6 9 10 rfl rfl rfl rfl rfl rfl rfl (by dsimp only [List.set]) ?_
    refine at_mv 10 2 rfl rfl rfl (.inr rfl) rfl (by dsimp only [List.set]) ?_
    refine at_end rfl ?_
    refine at_ret rfl (ret_one (t := 2) rfl rfl ?_ rfl)
    first | (have h6 : xs.length ≤ 6 := (by simp at hb1; omega); simp [valid, h6, not_any_not]; done) | (have h6 : ¬ xs.length ≤ 6 := (by simp at hb1; omega); simp [valid, h6]; done)
  · dsimp only [List.set] at he; subst he
    refine at_opN (some 7) rfl rfl rfl (by dsimp only [putD, List.set]) ?_
    refine at_opN (some 8) rfl rfl rfl (by dsimp only [putD, List.set]) ?_
    refine at_opN (some 9) rfl rfl rfl (by dsimp only [putD, List.set]) ?_
    refine at_pkc false 6 10 rfl rfl rfl rfl rfl rfl (by dsimp only [constD]) (by dsimp only [List.set]) ?_
    refine at_mv 10 2 rfl rfl rfl (.inr rfl) rfl (by dsimp only [List.set]) ?_
    refine at_end rfl ?_
    refine at_ret rfl (ret_one (t := 2) rfl rfl ?_ rfl)
    first | (have h6 : xs.length ≤ 6 := (by simp at hb1; omega); simp [valid, h6, not_any_not]; done) | (have h6 : ¬ xs.length ≤ 6 := (by simp at hb1; omega); simp [valid, h6]; done)

noncomputable def cFinite : Code := Try.f32.body.getD .skip
set_option maxRecDepth 20000 in
theorem finite_spec (xs : List Int) : FSpec PP 32 [dl xs] σ0 (db (finite xs)) σ0 := by
  refine spec_at cFinite Try.func32 rfl (by kernel_rfl) (by first | decide | simp) _ (by dsimp only [Try.f32, List.length, Nat.reduceAdd, Nat.reduceSub, List.replicate, List.cons_append, List.nil_append]) ?_
  refine at_seq [0] [1] rfl ?_
  refine at_region rfl ?_
  refine at_mc 2 rfl rfl rfl (.inr rfl) (by dsimp only [constD]) (by dsimp only [List.set]) ?_
  refine at_end rfl ?_
  refine at_seq [1, 0] [1, 1] rfl ?_
  refine at_region rfl ?_
  refine at_mv 0 3 rfl rfl rfl (.inl rfl) rfl (by dsimp only [List.set]) ?_
  first | (refine at_op (some 4) rfl rfl rfl rfl (op_lenL rfl uInts) (by dsimp only [putD, List.set]) ?_) | (refine at_op (some 4) rfl rfl rfl rfl (opOK_un (op_lenL rfl uInts)) (by dsimp only [putD, List.set]) ?_) | (refine at_op (some 4) rfl rfl rfl rfl (op_lenA rfl uInts) (by dsimp only [putD, List.set]) ?_)
  refine at_op (some 5) rfl rfl rfl rfl (op_binI rfl rfl) (by dsimp only [putD, List.set]) ?_
  refine at_mv 5 6 rfl rfl rfl (.inl rfl) rfl (by dsimp only [List.set]) ?_
  refine at_split 6 rfl (fun hb1 env' he => ?_) (fun hb1 env' he => ?_)
  · dsimp only [List.set] at he; subst he
    refine at_mv 0 7 rfl rfl rfl (.inl rfl) rfl (by dsimp only [List.set]) ?_
    refine at_op (some 8) rfl rfl rfl rfl (op_call0 rfl rfl rfl rfl (containsFunc_spec 69 [] [] xs (fun x => !isNum x) (fun x _ => finite1_spec x) (by simp at hb1; omega))) (by dsimp only [putD, List.set]) ?_
    refine at_op (some 9) rfl rfl rfl rfl (op_un rfl rfl) (by dsimp only [putD, List.set]) ?_
    refine at_pk true 6 9 10 rfl rfl rfl rfl rfl rfl rfl (by dsimp only [List.set]) ?_
    refine at_mv 10 2 rfl rfl rfl (.inr rfl) rfl (by dsimp only [List.set]) ?_
    refine at_end rfl ?_
    refine at_ret rfl (ret_one (t := 2) rfl rfl ?_ rfl)
    first | (have h6 : xs.length ≤ 6 := (by simp at hb1; omega); simp [finite, h6, not_any_not]; done) | (have h6 : ¬ xs.length ≤ 6 := (by simp at hb1; omega); simp [finite, h6]; done)
  · dsimp only [List.set] at he; subst he
    refine at_opN (some 7) rfl rfl rfl (by dsimp only [putD, List.set]) ?_
    refine at_opN (some 8) rfl rfl rfl (by dsimp only [putD, List.set]) ?_
    refine at_opN (some 9) rfl rfl rfl (by dsimp only [putD, List.set]) ?_
    refine at_pkc false 6 10 rfl rfl rfl rfl rfl rfl (by dsimp only [constD]) (by dsimp only [List.set]) ?_
    refine at_mv 10 2 rfl rfl rfl (.inr rfl) rfl (by dsimp only [List.set]) ?_
    refine at_end rfl ?_
    refine at_ret rfl (ret_one (t := 2) rfl rfl ?_ rfl)
    first | (have h6 : xs.length ≤ 6 := (by simp at hb1; omega); simp [finite, h6, not_any_not]; done) | (have h6 : ¬ xs.length ≤ 6 := (by simp at hb1; omega); simp [finite, h6]; done)

end Go.Proofs.Ytoofgniepbidnaa
