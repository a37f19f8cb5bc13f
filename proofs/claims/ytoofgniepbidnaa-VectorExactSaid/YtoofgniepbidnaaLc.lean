/-
  Plain laws: the order of vectors, sums undone.
-/
import Derived.Test.YtoofgniepbidnaaLb
import Derived.Test.YtoofgniepbidnaaWe
namespace Go.Proofs.Ytoofgniepbidnaa
open Go.Dv

theorem below_refl : ∀ (a : List Int), below a a = true
  | [] => rfl
  | x :: a => by simp [below, below_refl a]
theorem below_trans : ∀ {a b c : List Int}, a.length = b.length → b.length = c.length → below a b = true → below b c = true → below a c = true
  | [], _, _, _, _, _, _ => by simp [below]
  | x :: a, [], _, h, _, _, _ => by simp at h
  | x :: a, y :: b, [], _, h, _, _ => by simp at h
  | x :: a, y :: b, z :: c, h, h', h1, h2 => by
    simp only [below, Bool.and_eq_true, decide_eq_true_eq] at h1 h2 ⊢
    exact ⟨by omega, below_trans (by simpa using h) (by simpa using h') h1.2 h2.2⟩
theorem below_antisymm : ∀ {a b : List Int}, a.length = b.length → below a b = true → below b a = true → a = b
  | [], [], _, _, _ => rfl
  | [], _ :: _, h, _, _ => by simp at h
  | _ :: _, [], h, _, _ => by simp at h
  | x :: a, y :: b, h, h1, h2 => by
    simp only [below, Bool.and_eq_true, decide_eq_true_eq] at h1 h2
    rw [below_antisymm (by simpa using h) h1.2 h2.2, show x = y by omega]
theorem ord_refl (x : Int) : ord x x = 0 := ord_zero.2 rfl
theorem cmpL_refl : ∀ (a : List Int), cmpL a a = 0
  | [] => rfl
  | x :: a => by simp [cmpL, ord_refl, cmpL_refl a]
theorem cmpV_refl (a : List Int) : cmpV a a = 0 := by simp [cmpV, ord_refl, cmpL_refl]
theorem cmpL_below : ∀ {a b : List Int}, a.length = b.length → below a b = true → cmpL a b ≤ 0
  | [], [], _, _ => by simp [cmpL]
  | [], _ :: _, h, _ => by simp at h
  | _ :: _, [], h, _ => by simp at h
  | x :: a, y :: b, h, h1 => by
    simp only [below, Bool.and_eq_true, decide_eq_true_eq] at h1
    have := cmpL_below (a := a) (b := b) (by simpa using h) h1.2
    have h2 := ord_cases x y
    simp only [cmpL]; split <;> omega
theorem cmpV_below {a b : List Int} (h : a.length = b.length) (h1 : below a b = true) : cmpV a b ≤ 0 := by
  have := cmpL_below h h1
  simp [cmpV, h, ord_refl, this]
theorem ord_anti (x y : Int) : ord x y = - ord y x := by unfold ord; split <;> (try split) <;> (try split) <;> omega
theorem cmpL_anti : ∀ (a b : List Int), cmpL a b = - cmpL b a
  | [], [] => rfl
  | [], _ :: _ => rfl
  | _ :: _, [] => rfl
  | x :: a, y :: b => by
    have := cmpL_anti a b
    have h2 := ord_anti x y
    simp only [cmpL]; split <;> split <;> omega
theorem cmpV_anti (a b : List Int) : cmpV a b = - cmpV b a := by
  have := cmpL_anti a b
  have h2 := ord_anti ↑a.length ↑b.length
  simp only [cmpV]; split <;> split <;> omega
theorem cmpL_trans : ∀ {a b c : List Int}, cmpL a b ≤ 0 → cmpL b c ≤ 0 → cmpL a c ≤ 0
  | [], _, [], _, _ => by simp [cmpL]
  | [], _, _ :: _, _, _ => by simp [cmpL]
  | x :: a, [], _, h, _ => by simp [cmpL] at h
  | x :: a, y :: b, [], _, h => by simp [cmpL] at h
  | x :: a, y :: b, z :: c, h1, h2 => by
    have ih := cmpL_trans (a := a) (b := b) (c := c)
    have e1 := ord_cases x y
    have e2 := ord_cases y z
    have e3 := ord_cases x z
    simp only [cmpL] at h1 h2 ⊢
    split at h1 <;> split at h2 <;> split <;> omega
theorem cmpL_range : ∀ (a b : List Int), -1 ≤ cmpL a b ∧ cmpL a b ≤ 1
  | [], [] => by simp [cmpL]
  | [], _ :: _ => by simp [cmpL]
  | _ :: _, [] => by simp [cmpL]
  | x :: a, y :: b => by
    have := cmpL_range a b
    have := ord_cases x y
    simp only [cmpL]; split <;> omega
theorem cmpV_range (a b : List Int) : -1 ≤ cmpV a b ∧ cmpV a b ≤ 1 := by
  have := cmpL_range a b
  have := ord_cases ↑a.length ↑b.length
  simp only [cmpV]; split <;> omega
theorem cmpV_trans {a b c : List Int} (h1 : cmpV a b ≤ 0) (h2 : cmpV b c ≤ 0) : cmpV a c ≤ 0 := by
  have ih := cmpL_trans (a := a) (b := b) (c := c)
  have e1 := ord_cases ↑a.length ↑b.length
  have e2 := ord_cases ↑b.length ↑c.length
  have e3 := ord_cases ↑a.length ↑c.length
  simp only [cmpV] at h1 h2 ⊢
  split at h1 <;> split at h2 <;> split <;> omega
theorem cmpV_short {a b : List Int} (h : a.length < b.length) : cmpV a b = -1 := by
  have e1 := ord_cases ↑a.length ↑b.length
  simp only [cmpV]; split <;> omega

/- sums undone -/
def sm (m : Int) (a : List Int) : Prop := ∀ x ∈ a, 0 ≤ x ∧ x ≤ m
theorem sm_num {m : Int} (hm : m ≤ 1000) {a : List Int} (h : sm m a) : a.all isNum = true := by
  rw [List.all_eq_true]; intro x hx; have := h x hx; simp [isNum]; omega
theorem sm_valid {m : Int} (hm : m ≤ 1000) {a : List Int} (h : sm m a) (hl : a.length ≤ 6) : valid a = true ∧ finite a = true := by
  have h1 := sm_num hm h
  refine ⟨?_, by simp only [finite, h1, hl, decide_true, Bool.and_self]⟩
  simp only [valid, hl, decide_true, Bool.true_and]
  rw [List.all_eq_true] at h1 ⊢
  intro x hx; simp [isEl, h1 x hx]
theorem addF_sm {x y : Int} (hx : 0 ≤ x ∧ x ≤ 9) (hy : 0 ≤ y ∧ y ≤ 9) : addF x y = x + y := by
  unfold addF; rw [if_neg (by omega), wrap_id (by omega) (by omega)]
theorem sum_sm : ∀ {a b : List Int}, a.length = b.length → sm 9 a → sm 9 b → sm 18 (List.zipWith addF a b) ∧ below a (List.zipWith addF a b) = true ∧ below b (List.zipWith addF a b) = true ∧ List.zipWith subF (List.zipWith addF a b) b = a
  | [], [], _, _, _ => by simp [sm, below]
  | [], _ :: _, h, _, _ => by simp at h
  | _ :: _, [], h, _, _ => by simp at h
  | x :: a, y :: b, h, h1, h2 => by
    obtain ⟨i1, i2, i3, i4⟩ := sum_sm (a := a) (b := b) (by simpa using h) (fun z hz => h1 z (by simp [hz])) (fun z hz => h2 z (by simp [hz]))
    have hx := h1 x (by simp)
    have hy := h2 y (by simp)
    have e := addF_sm hx hy
    have e2 : subF (x + y) y = x := by unfold subF; rw [if_neg (by omega), wrap_id (by omega) (by omega)]; omega
    simp only [List.zipWith_cons_cons, below, e, i2, i3, i4, e2, Bool.and_true, decide_eq_true_eq]
    refine ⟨?_, by omega, by omega, trivial⟩
    intro z hz
    simp only [List.mem_cons] at hz
    rcases hz with rfl | hz
    · omega
    · exact i1 z hz
theorem add_ok {a b : List Int} (ha : valid a = true) (hb : valid b = true) (h : a.length = b.length) (hv : valid (List.zipWith addF a b) = true) : addM a b = (List.zipWith addF a b, 0) := by
  simp [addM, joinM, ha, hb, h, hv]
theorem sub_ok {a b : List Int} (ha : valid a = true) (hb : finite b = true) (h : a.length = b.length) (hv : below b a = true) : subM a b = (List.zipWith subF a b, 0) := by
  simp [subM, joinM, ha, hb, h, hv]
theorem addW : ∀ {s u w : List Int}, s.length = u.length → u.length = w.length → sm 18 s → sm 18 u → below s u = true → w.all isEl = true → (List.zipWith addF u w).all isEl = true →
    (List.zipWith addF s w).all isEl = true ∧ below (List.zipWith addF s w) (List.zipWith addF u w) = true
  | [], _, _, _, _, _, _, _, _, _ => by simp [below]
  | _ :: _, [], _, h, _, _, _, _, _, _ => by simp at h
  | _ :: _, _ :: _, [], _, h, _, _, _, _, _ => by simp at h
  | x :: s, y :: u, z :: w, h, h', h1, h2, hb, hw, hu => by
    simp only [below, List.all_cons, List.zipWith_cons_cons, Bool.and_eq_true, decide_eq_true_eq] at hb hw hu ⊢
    obtain ⟨i1, i2⟩ := addW (s := s) (u := u) (w := w) (by simpa using h) (by simpa using h') (fun z hz => h1 z (by simp [hz])) (fun z hz => h2 z (by simp [hz])) hb.2 hw.2 hu.2
    have hx := h1 x (by simp)
    have hy := h2 y (by simp)
    refine ⟨⟨?_, i1⟩, ?_, i2⟩
    all_goals
      obtain ⟨hz, _⟩ := hw
      obtain ⟨hq, _⟩ := hu
      obtain ⟨hb, _⟩ := hb
      simp only [isEl, isNum, Bool.or_eq_true, Bool.and_eq_true, decide_eq_true_eq, beq_iff_eq] at hz hq ⊢
      unfold addF at *
      by_cases hw : z = 1099511627776
      · simp [hw]
      · rw [if_neg (by omega)] at hq ⊢
        try rw [if_neg (by omega)]
        rw [wrap_id (by omega) (by omega)] at hq ⊢
        try rw [wrap_id (by omega) (by omega)]
        omega
theorem addM_code {a b : List Int} (ha : valid a = true) (hb : valid b = true) (h : a.length = b.length) : addM a b = if (List.zipWith addF a b).all isEl then (List.zipWith addF a b, 0) else ([], 1) := by
  have hl := valid_len ha
  have : valid (List.zipWith addF a b) = (List.zipWith addF a b).all isEl := by
    simp only [valid]; rw [show (decide ((List.zipWith addF a b).length ≤ 6)) = true from by simp; omega]; simp
  simp [addM, joinM, ha, hb, h, this]
theorem add_mono {s u w : List Int} (hs : valid s = true) (hu : valid u = true) (hw : valid w = true) (h : s.length = u.length) (h' : u.length = w.length) (h1 : sm 18 s) (h2 : sm 18 u) (hb : below s u = true) :
    (addM u w).2 = 0 → (addM s w).2 = 0 ∧ leq (addM s w).1 (addM u w).1 = true := by
  intro hc
  have l1 := valid_len hs
  rw [addM_code hu hw h'] at hc ⊢
  rw [addM_code hs hw (by omega)]
  by_cases hq : (List.zipWith addF u w).all isEl = true
  · obtain ⟨i1, i2⟩ := addW h h' h1 h2 hb (by simp [valid] at hw ⊢; exact hw.2) hq
    rw [if_pos hq, if_pos i1]
    refine ⟨rfl, ?_⟩
    rw [leq_of ?_ ?_ (by simp; omega)]
    · exact i2
    · simp only [valid, i1, Bool.and_true, decide_eq_true_eq]; simp; omega
    · simp only [valid, hq, Bool.and_true, decide_eq_true_eq]; simp; omega
  · rw [if_neg hq] at hc; simp at hc
theorem add_is {a b c : List Int} {k : Int} (h : addM a b = (c, k)) : FSpec PP 22 [dl a, dl b] σ0 (.tup [dl c, di k]) σ0 := by
  have := add_spec a b; rw [h] at this; exact this
theorem sub_is {a b c : List Int} {k : Int} (h : subM a b = (c, k)) : FSpec PP 23 [dl a, dl b] σ0 (.tup [dl c, di k]) σ0 := by
  have := sub_spec a b; rw [h] at this; exact this
theorem same_is (a b : List Int) (hs : a.length ≤ 1000000) {v : Bool} (h : (cmpV a b == 0) = v) : FSpec PP 24 [dl a, dl b] σ0 (db v) σ0 := h ▸ same_spec a b hs
end Go.Proofs.Ytoofgniepbidnaa
