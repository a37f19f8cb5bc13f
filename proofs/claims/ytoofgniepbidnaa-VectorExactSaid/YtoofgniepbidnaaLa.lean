/-
  The plain law of the lattice of vectors.
-/
import Derived.Test.YtoofgniepbidnaaWd
namespace Go.Proofs.Ytoofgniepbidnaa
open Go.Dv

theorem maxF_or (x y : Int) : maxF x y = x ∨ maxF x y = y := by unfold maxF; split <;> simp
theorem minF_or (x y : Int) : minF x y = x ∨ minF x y = y := by unfold minF; split <;> simp
theorem zip_all {f : Int → Int → Int} {p : Int → Bool} (hf : ∀ x y, f x y = x ∨ f x y = y) : ∀ {a b : List Int}, a.all p = true → b.all p = true → (List.zipWith f a b).all p = true
  | [], b, _, _ => by simp
  | x :: a, [], _, _ => by simp
  | x :: a, y :: b, ha, hb => by
    simp only [List.all_cons, Bool.and_eq_true, List.zipWith_cons_cons] at ha hb ⊢
    refine ⟨?_, zip_all hf ha.2 hb.2⟩
    rcases hf x y with h | h <;> rw [h]
    · exact ha.1
    · exact hb.1
theorem valid_zip {f : Int → Int → Int} (hf : ∀ x y, f x y = x ∨ f x y = y) {a b : List Int} (ha : valid a = true) (hb : valid b = true) : valid (List.zipWith f a b) = true := by
  simp only [valid, Bool.and_eq_true, decide_eq_true_eq] at ha hb ⊢
  exact ⟨by simp; omega, zip_all hf ha.2 hb.2⟩

theorem below_max1 : ∀ {a b : List Int}, below a (List.zipWith maxF a b) = true
  | [], b => by simp [below]
  | x :: a, [] => by simp [below]
  | x :: a, y :: b => by simp only [List.zipWith_cons_cons, below, below_max1, Bool.and_true, decide_eq_true_eq]; unfold maxF; split <;> omega
theorem below_max2 : ∀ {a b : List Int}, below b (List.zipWith maxF a b) = true
  | [], b => by cases b <;> simp [below]
  | x :: a, [] => by simp [below]
  | x :: a, y :: b => by simp only [List.zipWith_cons_cons, below, below_max2, Bool.and_true, decide_eq_true_eq]; unfold maxF; split <;> omega
theorem below_min1 : ∀ {a b : List Int}, below (List.zipWith minF a b) a = true
  | [], b => by simp [below]
  | x :: a, [] => by simp [below]
  | x :: a, y :: b => by simp only [List.zipWith_cons_cons, below, below_min1, Bool.and_true, decide_eq_true_eq]; unfold minF; split <;> omega
theorem below_min2 : ∀ {a b : List Int}, below (List.zipWith minF a b) b = true
  | [], b => by simp [below]
  | x :: a, [] => by simp [below]
  | x :: a, y :: b => by simp only [List.zipWith_cons_cons, below, below_min2, Bool.and_true, decide_eq_true_eq]; unfold minF; split <;> omega
theorem below_max : ∀ {a b c : List Int}, a.length = b.length → a.length = c.length → below (List.zipWith maxF a b) c = (below a c && below b c)
  | [], [], c, _, _ => by simp [below]
  | x :: a, y :: b, z :: c, h, h' => by
    simp only [List.zipWith_cons_cons, below]
    rw [below_max (by simpa using h) (by simpa using h')]
    have : decide (maxF x y ≤ z) = (decide (x ≤ z) && decide (y ≤ z)) := by
      rw [Bool.eq_iff_iff]; simp only [Bool.and_eq_true, decide_eq_true_eq]; unfold maxF; split <;> omega
    rw [this]
    cases decide (x ≤ z) <;> cases decide (y ≤ z) <;> simp
  | [], y :: b, c, h, _ => by simp at h
  | x :: a, [], c, h, _ => by simp at h
  | x :: a, y :: b, [], _, h => by simp at h
theorem below_min : ∀ {a b c : List Int}, a.length = b.length → a.length = c.length → below c (List.zipWith minF a b) = (below c a && below c b)
  | [], [], c, _, _ => by cases c <;> simp [below]
  | x :: a, y :: b, z :: c, h, h' => by
    simp only [List.zipWith_cons_cons, below]
    rw [below_min (by simpa using h) (by simpa using h')]
    have : decide (z ≤ minF x y) = (decide (z ≤ x) && decide (z ≤ y)) := by
      rw [Bool.eq_iff_iff]; simp only [Bool.and_eq_true, decide_eq_true_eq]; unfold minF; split <;> omega
    rw [this]
    cases decide (z ≤ x) <;> cases decide (z ≤ y) <;> simp
  | [], y :: b, c, h, _ => by simp at h
  | x :: a, [], c, h, _ => by simp at h
  | x :: a, y :: b, [], _, h => by simp at h

theorem leq_of {a b : List Int} (ha : valid a = true) (hb : valid b = true) (h : a.length = b.length) : leq a b = below a b := by simp [leq, ha, hb, h]

/- contracts with their results written out -/
theorem leq_is (a b : List Int) {v : Bool} (h : leq a b = v) : FSpec PP 20 [dl a, dl b] σ0 (db v) σ0 := h ▸ leq_spec a b
theorem joinM_ok {f : Int → Int → Int} {va rb : Bool} {a b : List Int} (ha : va = true) (hb : rb = true) (h : a.length = b.length) : joinM va rb f a b = (List.zipWith f a b, 0) := by simp [joinM, ha, hb, h]
theorem max_ok (a b : List Int) (ha : valid a = true) (hb : valid b = true) (h : a.length = b.length) : FSpec PP 18 [dl a, dl b] σ0 (.tup [dl (List.zipWith maxF a b), di 0]) σ0 := by
  have := max_spec a b; rw [joinM_ok ha hb h] at this; exact this
theorem min_ok (a b : List Int) (ha : valid a = true) (hb : valid b = true) (h : a.length = b.length) : FSpec PP 19 [dl a, dl b] σ0 (.tup [dl (List.zipWith minF a b), di 0]) σ0 := by
  have := min_spec a b; rw [joinM_ok ha hb h] at this; exact this
theorem vectorU_spec (l : List Int) (hs : l.length ≤ 1000000) (om : Bool) (n : Nat) (hn : n ≤ 1000) (at' : Nat) (st : Int) :
    FSpec PP 17 [.ptr 0 0, di ↑n, db om] (σd l at' st) (dl (vecM l om n (at', st)).1) ⟨[some (dk l (vecM l om n (at', st)).2.1 (vecM l om n (at', st)).2.2)], []⟩ :=
  FSpec.un (fun i cs h => by cases i with | zero => (simp at h; subst h; rfl) | succ i => simp at h) (by simp) (vector_spec l hs om n hn at' st)
theorem smallU_spec (l : List Int) (hs : l.length ≤ 1000000) (mo : Int) (h0 : 0 ≤ mo ∧ mo ≤ 1000000) (n : Nat) (hn : n ≤ 1000) (at' : Nat) (st : Int) :
    FSpec PP 21 [.ptr 0 0, di ↑n, di mo] (σd l at' st) (dl (smM l mo n (at', st)).1) ⟨[some (dk l (smM l mo n (at', st)).2.1 (smM l mo n (at', st)).2.2)], []⟩ :=
  FSpec.un (fun i cs h => by cases i with | zero => (simp at h; subst h; rfl) | succ i => simp at h) (by simp) (small_spec l hs mo h0 n hn at' st)
theorem awakeSub : FSpec PP 23 [dl [1099511627776, 7], dl [1, 2]] σ0 (.tup [dl [1099511627776, 5], di 0]) σ0 := by
  have h := sub_spec [1099511627776, 7] [1, 2]; rw [show subM [1099511627776, 7] [1, 2] = ([1099511627776, 5], 0) from by decide] at h; exact h
theorem valid_is (a : List Int) {v : Bool} (h : valid a = v) : FSpec PP 30 [dl a] σ0 (db v) σ0 := h ▸ valid_spec a
theorem finite_is (a : List Int) {v : Bool} (h : finite a = v) : FSpec PP 32 [dl a] σ0 (db v) σ0 := h ▸ finite_spec a
end Go.Proofs.Ytoofgniepbidnaa
