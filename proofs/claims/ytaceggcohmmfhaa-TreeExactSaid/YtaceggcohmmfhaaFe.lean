/-
  The plain laws of what the reference says of trees: which are valid, what proves an embedding; what the search finds is one.
-/
import Derived.Test.YtaceggcohmmfhaaFd
import Derived.Test.YtaceggcohmmfhaaEb
namespace Go.Proofs.Ytaceggcohmmfhaa
open Go.Dv Tr

/- WHICH TREES ARE VALID -/
def okLab (x : Int) : Bool := decide (0 ≤ x) && decide (x < 16)
mutual
def labB : Tr → Bool
  | .mk l ks => labsB ks && okLab l
def labsB : List Tr → Bool
  | [] => true
  | k :: ks => labB k && labsB ks
end
theorem labB_eq (t : Tr) : labB t = (labsB t.kids && okLab t.lab) := by cases t; simp [labB, kids, lab]
mutual
theorem nodes_bad : ∀ (t : Tr) (a : Nat), (nodesM a t).any badLab = !labB t
  | .mk l ks, a => by
    simp only [nodesM, List.any_cons, nodesL_bad ks, labB, badLab, okLab]
    by_cases h1 : 0 ≤ l
    · by_cases h2 : l < 16
      · simp [h1, h2]; omega
      · simp [h2]; omega
    · simp [h1]; omega
theorem nodesL_bad : ∀ (ks : List Tr) (a : Nat), (nodesL a ks).any badLab = !labsB ks
  | [], a => by simp [nodesL, labsB]
  | k :: ks, a => by simp only [nodesL, labsB, List.any_append, nodes_bad k, nodesL_bad ks, Bool.not_and]
end
theorem validT_eq (t : Tr) : validT t = (decide (t.size ≤ 12) && labB t) := by simp [validT, nodes_bad]
def wkL (t : Tr) : List Int := (fl t).map lab
def wksL (ks : List Tr) : List Int := (fls ks).map lab
theorem wkL_eq (t : Tr) : wkL t = t.lab :: wksL t.kids := by simp [wkL, wksL, fl_eq]
theorem wksL_cons (k : Tr) (ks : List Tr) : wksL (k :: ks) = wkL k ++ wksL ks := by simp [wkL, wksL, fls]
theorem wkL_length (t : Tr) : (wkL t).length = t.size := by simp [wkL, fl_length]
mutual
theorem nodes_labs : ∀ (t : Tr) (a : Nat), (nodesM a t).map Nd.lab = wkL t
  | .mk l ks, a => by
    have := nodesL_labs ks (a + 1)
    simp only [nodesM, List.map_cons, this, wkL_eq, lab, kids]
theorem nodesL_labs : ∀ (ks : List Tr) (a : Nat), (nodesL a ks).map Nd.lab = wksL ks
  | [], a => by simp [nodesL, wksL, fls]
  | k :: ks, a => by simp only [nodesL, List.map_append, nodes_labs k, nodesL_labs ks, wksL_cons]
end
theorem nodesT_labs (t : Tr) : (nodesT t).map Nd.lab = if validT t then wkL t else [] := by
  unfold nodesT
  split
  · exact nodes_labs t 0
  · rfl

/- WHAT PROVES AN EMBEDDING -/
def chM (q : Nat) (v : Int) : List Tr → Nat → Int
  | [], _ => -1
  | k :: ks, i => if (q : Int) ≤ v ∧ v < ((q + k.size : Nat) : Int) then (i : Int) else chM (q + k.size) v ks (i + 1)
mutual
def rgT (b : Tr) (at' : List Int) : Tr → Nat → Bool
  | .mk l ks, x => match (fl b)[(at'.getD x 0).toNat]? with
    | none => false
    | some s => decide (s.lab = l) && rgL b at' s (at'.getD x 0).toNat ks (-1) (x + 1)
def rgL (b : Tr) (at' : List Int) (s : Tr) (v : Nat) : List Tr → Int → Nat → Bool
  | [], _, _ => true
  | k :: ks, last, next => decide (last < chM (v + 1) (at'.getD next 0) s.kids 0) && rgT b at' k next && rgL b at' s v ks (chM (v + 1) (at'.getD next 0) s.kids 0) (next + k.size)
end
theorem posL_le : ∀ (ks : List Tr) (q j p : Nat), (posL q ks)[j]? = some p → q ≤ p
  | [], q, j, p, h => by simp [posL] at h
  | k :: ks, q, 0, p, h => by simp [posL] at h; omega
  | k :: ks, q, j + 1, p, h => by
    simp [posL] at h
    have := posL_le ks _ j p h
    omega
theorem posL_lt : ∀ (ks : List Tr) (q j j' p p' : Nat) (y : Tr), j < j' → (posL q ks)[j]? = some p → ks[j]? = some y → (posL q ks)[j']? = some p' → p + y.size ≤ p'
  | [], q, j, j', p, p', y, _, h1, _, _ => by simp [posL] at h1
  | k :: ks, q, j, 0, p, p', y, h, _, _, _ => by omega
  | k :: ks, q, 0, j' + 1, p, p', y, _, h1, h2, h3 => by
    simp [posL] at h1 h2 h3
    have := posL_le ks _ j' p' h3
    subst h1 h2
    exact this
  | k :: ks, q, j + 1, j' + 1, p, p', y, h, h1, h2, h3 => by
    simp [posL] at h1 h2 h3
    exact posL_lt ks _ j j' p p' y (by omega) h1 h2 h3
abbrev HitI (v : Int) (p : Nat) (y : Tr) : Prop := (p : Int) ≤ v ∧ v < ((p + y.size : Nat) : Int)
theorem hit_uni {ks : List Tr} {q j j' p p' : Nat} {y y' : Tr} {v : Int} (h1 : (posL q ks)[j]? = some p) (h2 : ks[j]? = some y) (h3 : HitI v p y) (h1' : (posL q ks)[j']? = some p') (h2' : ks[j']? = some y') (h3' : HitI v p' y') : j = j' := by
  rcases Nat.lt_trichotomy j j' with h | h | h
  · have := posL_lt ks q j j' p p' y h h1 h2 h1'
    have := h3.2; have := h3'.1; omega
  · exact h
  · have := posL_lt ks q j' j p' p y' h h1' h2' h1
    have := h3'.2; have := h3.1; omega
theorem ch_spec : ∀ (ks : List Tr) (q i : Nat) (v : Int), (chM q v ks i = -1 ∧ ∀ (j p : Nat) (y : Tr), (posL q ks)[j]? = some p → ks[j]? = some y → ¬ HitI v p y) ∨ ∃ (j p : Nat) (y : Tr), chM q v ks i = ((i + j : Nat) : Int) ∧ (posL q ks)[j]? = some p ∧ ks[j]? = some y ∧ HitI v p y
  | [], q, i, v => .inl ⟨rfl, fun j p y h => by simp [posL] at h⟩
  | k :: ks, q, i, v => by
    by_cases h : (q : Int) ≤ v ∧ v < ((q + k.size : Nat) : Int)
    · exact .inr ⟨0, q, k, by simp only [chM]; rw [if_pos h]; rfl, rfl, rfl, h⟩
    · simp only [chM]
      rw [if_neg h]
      rcases ch_spec ks (q + k.size) (i + 1) v with ⟨h1, h2⟩ | ⟨j, p, y, h1, h2, h3, h4⟩
      · refine .inl ⟨h1, fun j p y hp hy => ?_⟩
        cases j with
        | zero => simp [posL] at hp hy; subst hp hy; exact h
        | succ j => simp [posL] at hp hy; exact h2 j p y hp hy
      · exact .inr ⟨j + 1, p, y, by rw [h1]; omega, by simpa [posL] using h2, by simpa using h3, h4⟩
theorem plM_uni {f : Nat → Nat → Int} {kid : Nat} {ks : List Nat} : ∀ {rest : List Nat}, (∀ (j j' r r' : Nat), rest[j]? = some r → rest[j']? = some r' → 0 ≤ f kid r → 0 ≤ f kid r' → j = j') →
    ((plM f (kid :: ks) rest).isSome = true ↔ ∃ j r, rest[j]? = some r ∧ 0 ≤ f kid r ∧ (plM f ks (rest.drop (j + 1))).isSome = true)
  | [], _ => by simp [plM]
  | r :: rest, h => by
    simp only [plM]
    by_cases hr : 0 ≤ f kid r
    · rw [if_pos hr, Option.isSome_map]
      constructor
      · intro h1; exact ⟨0, r, rfl, hr, h1⟩
      · rintro ⟨j, r', h1, h2, h3⟩
        have := h 0 j r r' rfl h1 hr h2
        subst this
        exact h3
    · rw [if_neg hr, plM_uni (rest := rest) (fun j j' a a' h1 h2 h3 h4 => by have := h (j + 1) (j' + 1) a a' h1 h2 h3 h4; omega)]
      constructor
      · rintro ⟨j, r', h1, h2, h3⟩; exact ⟨j + 1, r', h1, h2, h3⟩
      · rintro ⟨j, r', h1, h2, h3⟩
        cases j with
        | zero => simp at h1; subst h1; exact absurd h2 hr
        | succ j => exact ⟨j, r', h1, h2, h3⟩
/-- the order of the children's images -/
def ordL (at' : List Int) (s : Tr) (v : Nat) : List Tr → Int → Nat → Bool
  | [], _, _ => true
  | k :: ks, last, next => decide (last < chM (v + 1) (at'.getD next 0) s.kids 0) && ordL at' s v ks (chM (v + 1) (at'.getD next 0) s.kids 0) (next + k.size)
theorem wayF_hit {Y : List Nd} {at' : List Int} {kid r : Nat} {y : Tr} (hY : ge Y r = r + y.size) : 0 ≤ wayF Y at' kid r ↔ HitI (at'.getD kid 0) r y := by
  unfold wayF HitI
  rw [hY]
  split
  · rename_i h; exact ⟨fun _ => h, fun _ => by omega⟩
  · rename_i h; exact ⟨fun h1 => by omega, fun h1 => absurd h1 h⟩
theorem ord_plM {Y : List Nd} {at' : List Int} {v : Nat} {s : Tr} (hY : ∀ (j p : Nat) (y : Tr), (posL (v + 1) s.kids)[j]? = some p → s.kids[j]? = some y → ge Y p = p + y.size) : ∀ (ks : List Tr) (m next : Nat), ordL at' s v ks ((m : Int) - 1) next = (plM (wayF Y at') (posL next ks) ((posL (v + 1) s.kids).drop m)).isSome
  | [], m, next => by simp [ordL, posL, plM]
  | k :: ks, m, next => by
    have hpy : ∀ {j p : Nat}, (posL (v + 1) s.kids)[j]? = some p → ∃ y, s.kids[j]? = some y := fun {j p} h => by
      have := (List.getElem?_eq_some_iff.1 h).1
      rw [posL_length] at this
      exact get_ex this
    rw [Bool.eq_iff_iff]
    simp only [posL]
    rw [plM_uni (fun j j' r r' h1 h2 h3 h4 => by
      rw [List.getElem?_drop] at h1 h2
      obtain ⟨y, hy⟩ := hpy h1
      obtain ⟨y', hy'⟩ := hpy h2
      have := hit_uni h1 hy ((wayF_hit (hY _ _ _ h1 hy)).1 h3) h2 hy' ((wayF_hit (hY _ _ _ h2 hy')).1 h4)
      omega)]
    simp only [ordL, Bool.and_eq_true, decide_eq_true_eq]
    rcases ch_spec s.kids (v + 1) 0 (at'.getD next 0) with ⟨h1, h2⟩ | ⟨j, p, y, h1, h2, h3, h4⟩
    · rw [h1]
      constructor
      · rintro ⟨h, _⟩; omega
      · rintro ⟨j, r, hr, hf, _⟩
        rw [List.getElem?_drop] at hr
        obtain ⟨y, hy⟩ := hpy hr
        exact absurd ((wayF_hit (hY _ _ _ hr hy)).1 hf) (h2 _ _ _ hr hy)
    · rw [h1, Nat.zero_add]
      have ih := ord_plM (at' := at') hY ks (j + 1) (next + k.size)
      rw [show ((j + 1 : Nat) : Int) - 1 = (j : Int) by omega] at ih
      rw [ih]
      constructor
      · rintro ⟨h5, h6⟩
        refine ⟨j - m, p, by rw [List.getElem?_drop, show m + (j - m) = j by omega]; exact h2, (wayF_hit (hY _ _ _ h2 h3)).2 h4, ?_⟩
        rw [List.drop_drop, show m + (j - m + 1) = j + 1 by omega]; exact h6
      · rintro ⟨j', r, hr, hf, h6⟩
        rw [List.getElem?_drop] at hr
        obtain ⟨y', hy'⟩ := hpy hr
        have e := hit_uni h2 h3 h4 hr hy' ((wayF_hit (hY _ _ _ hr hy')).1 hf)
        rw [List.drop_drop, show m + (j' + 1) = j + 1 by omega] at h6
        exact ⟨by omega, h6⟩
theorem rgL_iff {P : Nat → Prop} {b s : Tr} {at' : List Int} {v : Nat} : ∀ (ks : List Tr) (last : Int) (next : Nat), (∀ (j p : Nat) (y : Tr), (posL next ks)[j]? = some p → ks[j]? = some y → (rgT b at' y p = true ↔ ∀ d, d < y.size → P (p + d))) →
    (rgL b at' s v ks last next = true ↔ ordL at' s v ks last next = true ∧ ∀ d, d < szl ks → P (next + d))
  | [], last, next, _ => by simp [rgL, ordL, szl]
  | k :: ks, last, next, h => by
    have h0 := h 0 next k rfl rfl
    have ih := rgL_iff (s := s) (v := v) ks (chM (v + 1) (at'.getD next 0) s.kids 0) (next + k.size) (fun j p y hp hy => h (j + 1) p y (by simpa [posL] using hp) (by simpa using hy))
    simp only [rgL, ordL, Bool.and_eq_true, decide_eq_true_eq, h0, ih, szl_cons]
    constructor
    · rintro ⟨⟨h1, h2⟩, h3, h4⟩
      refine ⟨⟨h1, h3⟩, fun d hd => ?_⟩
      by_cases hk : d < k.size
      · exact h2 d hk
      · have := h4 (d - k.size) (by omega)
        rwa [show next + k.size + (d - k.size) = next + d by omega] at this
    · rintro ⟨⟨h1, h3⟩, h2⟩
      refine ⟨⟨h1, fun d hd => h2 d (by omega)⟩, h3, fun d hd => ?_⟩
      rw [Nat.add_assoc]; exact h2 _ (by omega)
theorem rgT_eq (b t : Tr) (at' : List Int) (x : Nat) : rgT b at' t x = match (fl b)[(at'.getD x 0).toNat]? with
    | none => false
    | some s => decide (s.lab = t.lab) && rgL b at' s (at'.getD x 0).toNat t.kids (-1) (x + 1) := by cases t; simp only [rgT, lab, kids]; rfl
theorem rg_iff {a b : Tr} {at' : List Int} (hr : ∀ i, i < a.size → ∃ v : Nat, at'[i]? = some (v : Int) ∧ v < b.size) : ∀ (n : Nat) (t : Tr) (x : Nat), t.size ≤ n → (fl a)[x]? = some t →
    (rgT b at' t x = true ↔ ∀ d, d < t.size → labOK (nodesM 0 a) (nodesM 0 b) at' (x + d) = true ∧ wayOK (nodesM 0 a) (nodesM 0 b) at' (x + d) = true)
  | 0, t, x, hn, _ => by have := size_pos t; omega
  | n + 1, t, x, hn, hx => by
    have hxl : x < a.size := by rw [← fl_length]; exact (List.getElem?_eq_some_iff.1 hx).1
    obtain ⟨v, hv, hvb⟩ := hr x hxl
    obtain ⟨s, hs⟩ := get_ex (a := fl b) (i := v) (by rw [fl_length]; exact hvb)
    have hg : at'.getD x 0 = (v : Int) := by rw [List.getD_eq_getElem?_getD, hv]; rfl
    have hX : (nodesM 0 a)[x]? = some ⟨t.lab, x + t.size, posL (x + 1) t.kids⟩ := by rw [nodes_at, hx]; simp
    have hY : (nodesM 0 b)[v]? = some ⟨s.lab, v + s.size, posL (v + 1) s.kids⟩ := by rw [nodes_at, hs]; simp
    have hkids : ∀ (j p : Nat) (y : Tr), (posL (x + 1) t.kids)[j]? = some p → t.kids[j]? = some y → (rgT b at' y p = true ↔ ∀ d, d < y.size → labOK (nodesM 0 a) (nodesM 0 b) at' (p + d) = true ∧ wayOK (nodesM 0 a) (nodesM 0 b) at' (p + d) = true) := by
      intro j p y hp hy
      obtain ⟨p', h1, h2, _⟩ := kid_at hx hy
      rw [hp] at h1
      simp only [Option.some.injEq] at h1
      subst h1
      have := szl_mem (List.mem_of_getElem? hy)
      have := size_eq t
      exact rg_iff hr n y p (by omega) h2
    have hl : labOK (nodesM 0 a) (nodesM 0 b) at' x = decide (s.lab = t.lab) := by
      unfold labOK
      rw [hX, hv]
      simp only [Int.toNat_natCast, hY, nodesM_length]
      by_cases h : s.lab = t.lab <;> simp [h, hvb]
    have hw : wayOK (nodesM 0 a) (nodesM 0 b) at' x = ordL at' s v t.kids (-1) (x + 1) := by
      unfold wayOK
      rw [hX, hv]
      simp only [Int.toNat_natCast]
      have hge : ∀ (j p : Nat) (y : Tr), (posL (v + 1) s.kids)[j]? = some p → s.kids[j]? = some y → ge (nodesM 0 b) p = p + y.size := by
        intro j p y hp hy
        obtain ⟨p', h1, h2, _⟩ := kid_at hs hy
        rw [hp] at h1
        simp only [Option.some.injEq] at h1
        subst h1
        rw [ge, nodes_at, h2]; simp
      have := ord_plM (at' := at') hge t.kids 0 (x + 1)
      rw [List.drop_zero] at this
      have hk : kidsOf (nodesM 0 b) v = posL (v + 1) s.kids := by simp [kidsOf, hY]
      rw [hk, ← this]; rfl
    rw [rgT_eq, hg, Int.toNat_natCast, hs]
    simp only [Bool.and_eq_true, decide_eq_true_eq]
    rw [rgL_iff (P := fun i => labOK (nodesM 0 a) (nodesM 0 b) at' i = true ∧ wayOK (nodesM 0 a) (nodesM 0 b) at' i = true) t.kids (-1) (x + 1) hkids]
    have hz := size_eq t
    constructor
    · rintro ⟨h1, h2, h3⟩ d hd
      cases d with
      | zero => rw [Nat.add_zero, hl, hw]; exact ⟨by simpa using h1, h2⟩
      | succ d =>
        have := h3 d (by omega)
        rwa [show x + 1 + d = x + (d + 1) by omega] at this
    · intro h
      have h0 := h 0 (by omega)
      rw [Nat.add_zero, hl, hw] at h0
      refine ⟨by simpa using h0.1, h0.2, fun d hd => ?_⟩
      have := h (d + 1) (by omega)
      rwa [show x + (d + 1) = x + 1 + d by omega] at this
def rprovM (a b : Tr) (at' : List Int) : Bool := validT a && validT b && decide (at'.length = a.size) && at'.all (fun v => decide (0 ≤ v) && decide (v < b.size)) && rgT b at' a 0
theorem prov_eq (a b : Tr) (at' : List Int) : provX (nodesT a) (nodesT b) at' = rprovM a b at' := by
  unfold provX rprovM
  cases ha : validT a with
  | false => simp [nodesT_bad ha]
  | true =>
  cases hb : validT b with
  | false => simp [nodesT_bad hb]
  | true =>
  rw [nodesT_valid ha, nodesT_valid hb]
  have hpa := size_pos a
  have hpb := size_pos b
  simp only [nodesM_length]
  by_cases hl : at'.length = a.size
  · have hla : labOK (nodesM 0 a) (nodesM 0 b) at' = fun i => labOK (nodesM 0 a) (nodesM 0 b) at' i := rfl
    have e1 : (!(a.size == 0) && !(b.size == 0) && (at'.length == a.size)) = true := by simp [hl]; omega
    rw [e1]
    simp only [hl, decide_true, Bool.true_and]
    cases hall : at'.all (fun v => decide (0 ≤ v) && decide (v < b.size)) with
    | false =>
      rw [List.all_eq_false] at hall
      obtain ⟨v, hv, hbad⟩ := hall
      obtain ⟨i, hi⟩ := List.getElem?_of_mem hv
      have hil : i < a.size := by rw [← hl]; exact (List.getElem?_eq_some_iff.1 hi).1
      have : (List.range a.size).all (labOK (nodesM 0 a) (nodesM 0 b) at') = false := by
        rw [List.all_eq_false]
        refine ⟨i, by simpa using hil, ?_⟩
        unfold labOK
        rw [hi]
        cases (nodesM 0 a)[i]? with
        | none => simp
        | some n =>
          simp only [nodesM_length]
          intro h
          simp only [Bool.and_eq_true] at h
          exact hbad (by simp only [Bool.and_eq_true]; exact h.1)
      rw [this]; rfl
    | true =>
      rw [Bool.true_and]
      have hr : ∀ i, i < a.size → ∃ v : Nat, at'[i]? = some (v : Int) ∧ v < b.size := by
        intro i hi
        obtain ⟨v, hv⟩ := get_ex (a := at') (i := i) (by omega)
        have := List.all_eq_true.1 hall v (List.mem_of_getElem? hv)
        simp only [Bool.and_eq_true, decide_eq_true_eq] at this
        obtain ⟨w, rfl⟩ := Int.eq_ofNat_of_zero_le this.1
        exact ⟨w, hv, by omega⟩
      have key := rg_iff hr a.size a 0 (Nat.le_refl _) (by rw [fl_eq]; rfl)
      rw [Bool.eq_iff_iff, key, Bool.and_eq_true, List.all_eq_true, List.all_eq_true]
      constructor
      · rintro ⟨h1, h2⟩ d hd
        rw [Nat.zero_add]
        exact ⟨h1 d (by simpa using hd), h2 d (by simpa using hd)⟩
      · intro h
        refine ⟨fun d hd => ?_, fun d hd => ?_⟩
        · have := (h d (by simpa using hd)).1; rwa [Nat.zero_add] at this
        · have := (h d (by simpa using hd)).2; rwa [Nat.zero_add] at this
  · have e1 : (at'.length == a.size) = false := by simpa using hl
    simp [e1, hl]

/- WHAT THE SEARCH FINDS PROVES -/
theorem plM_two {f : Nat → Nat → Int} : ∀ rest : List Nat, (∀ ks r, (plM f ks rest).isSome = true → (plM f ks (r :: rest)).isSome = true) ∧ (∀ k ks, (plM f (k :: ks) rest).isSome = true → (plM f ks rest).isSome = true)
  | [] => by
    have hB : ∀ k ks, (plM f (k :: ks) []).isSome = true → (plM f ks []).isSome = true := by intro k ks h; simp [plM] at h
    refine ⟨fun ks r h => ?_, hB⟩
    cases ks with
    | nil => simp [plM]
    | cons k ks => simp [plM] at h
  | r0 :: rest => by
    obtain ⟨hA, hB⟩ := plM_two (f := f) rest
    have hB' : ∀ k ks, (plM f (k :: ks) (r0 :: rest)).isSome = true → (plM f ks (r0 :: rest)).isSome = true := by
      intro k ks h
      simp only [plM] at h
      split at h
      · rw [Option.isSome_map] at h; exact hA ks r0 h
      · exact hA ks r0 (hB k ks h)
    refine ⟨fun ks r h => ?_, hB'⟩
    cases ks with
    | nil => simp [plM]
    | cons k ks =>
      show (if 0 ≤ f k r then (plM f ks (r0 :: rest)).map (f k r :: ·) else plM f (k :: ks) (r0 :: rest)).isSome = true
      split
      · rw [Option.isSome_map]; exact hB' k ks h
      · exact h
theorem plM_way {f g : Nat → Nat → Int} : ∀ (ks rest : List Nat) (l : List Int), plM f ks rest = some l → (∀ (x kid : Nat) (v : Int), ks[x]? = some kid → l[x]? = some v → ∀ r, v = f kid r → 0 ≤ v → 0 ≤ g kid r) → (plM g ks rest).isSome = true
  | [], rest, l, _, _ => by simp [plM]
  | k :: ks, [], l, h, _ => by simp [plM] at h
  | k :: ks, r :: rest, l, h, hg => by
    simp only [plM] at h
    split at h
    · rename_i hk
      cases hp : plM f ks rest with
      | none => simp [hp] at h
      | some l' =>
        simp [hp] at h; subst h
        have h0 := hg 0 k (f k r) rfl rfl r rfl hk
        simp only [plM]
        rw [if_pos h0, Option.isSome_map]
        exact plM_way ks rest l' hp (fun x kid v hx hv => hg (x + 1) kid v (by simpa using hx) (by simpa using hv))
    · exact (plM_two rest).1 _ r (plM_way (k :: ks) rest l h hg)
theorem lab_agree {X Y : List Nd} {o o' : List Int} {k : Nat} (h : o[k]? = o'[k]?) : labOK X Y o k = labOK X Y o' k := by unfold labOK; rw [h]
theorem way_agree {a : Tr} {Y : List Nd} {o o' : List Int} {p : Nat} {y : Tr} (hy : (fl a)[p]? = some y) (h : ∀ k, p ≤ k → k < p + y.size → o[k]? = o'[k]?) {k : Nat} (h1 : p ≤ k) (h2 : k < p + y.size) : wayOK (nodesM 0 a) Y o k = wayOK (nodesM 0 a) Y o' k := by
  unfold wayOK
  rw [h k h1 h2]
  have e : (nodesM 0 a)[k]? = (nodesM p y)[k - p]? := by
    rw [nodes_at, nodes_at, ← fl_in hy (by omega), show p + (k - p) = k by omega, Nat.zero_add]
  rw [e]
  cases hn : (nodesM p y)[k - p]? with
  | none => rfl
  | some n =>
    cases o'[k]? with
    | none => rfl
    | some v =>
      have hw := (nodesM_wf y p (k - p) n hn).2
      show (plM _ _ _).isSome = (plM _ _ _).isSome
      rw [plM_congr (f' := wayF Y o') n.kids _ (fun q hq r => ?_)]
      have := hw q hq
      unfold wayF
      rw [List.getD_eq_getElem?_getD, List.getD_eq_getElem?_getD, h q (by omega) (by omega)]
/-- what a subtree's images are to be -/
def PutOK (a : Tr) (B : List Nd) (out o : List Int) (i n : Nat) : Prop :=
  o.length = out.length ∧ (∀ k, k < i ∨ i + n ≤ k → o[k]? = out[k]?) ∧ ∀ k, i ≤ k → k < i + n → labOK (nodesM 0 a) B o k = true ∧ wayOK (nodesM 0 a) B o k = true
theorem fold_ok {a : Tr} {B : List Nd} {f : Nat → Nat → Int} {n : Nat} {Q : Nat → Nat → Prop}
    (ih : ∀ (i j : Nat) (out : List Int) (s : Tr), (nodesM 0 a).length - i ≤ n → (fl a)[i]? = some s → Q i j → out.length = a.size → PutOK a B out (putM f (nodesM 0 a) B n out i (j : Int)) i s.size ∧ (putM f (nodesM 0 a) B n out i (j : Int))[i]? = some (j : Int)) :
    ∀ (ks : List Tr) (next : Nat) (ls : List Int) (out : List Int), ls.length = ks.length → out.length = a.size →
      (∀ (j p : Nat) (y : Tr), (posL next ks)[j]? = some p → ks[j]? = some y → (fl a)[p]? = some y ∧ (nodesM 0 a).length - p ≤ n) →
      (∀ (j p : Nat) (v : Int), (posL next ks)[j]? = some p → ls[j]? = some v → ∃ w : Nat, v = (w : Int) ∧ Q p w) →
      PutOK a B out (((posL next ks).zip ls).foldl (fun out p => putM f (nodesM 0 a) B n out p.1 p.2) out) next (szl ks) ∧
      ∀ (j p : Nat) (v : Int), (posL next ks)[j]? = some p → ls[j]? = some v → (((posL next ks).zip ls).foldl (fun out p => putM f (nodesM 0 a) B n out p.1 p.2) out)[p]? = some v
  | [], next, ls, out, h1, h2, h3, h4 => by
    simp only [posL, List.zip_nil_left, List.foldl_nil]
    exact ⟨⟨rfl, fun _ _ => rfl, fun k h h' => by simp [szl] at h'; omega⟩, fun j p v h => by simp at h⟩
  | k :: ks, next, [], out, h1, _, _, _ => by simp at h1
  | k :: ks, next, v0 :: ls, out, h1, h2, h3, h4 => by
    obtain ⟨hf0, hn0⟩ := h3 0 next k rfl rfl
    obtain ⟨w, rfl, hq⟩ := h4 0 next v0 rfl rfl
    obtain ⟨⟨a1, a2, a3⟩, a4⟩ := ih next w out k hn0 hf0 hq h2
    simp only [posL, List.zip_cons_cons, List.foldl_cons]
    have hlt : next + k.size ≤ a.size := by
      obtain ⟨pre, post, e, el⟩ := fl_sub a next k hf0
      have := congrArg List.length e
      rw [List.length_append, List.length_append, fl_length, fl_length, el] at this
      omega
    generalize putM f (nodesM 0 a) B n out next (w : Int) = o1 at a1 a2 a3 a4 ⊢
    obtain ⟨⟨b1, b2, b3⟩, b4⟩ := fold_ok ih ks (next + k.size) ls o1 (by simpa using h1) (by omega) (fun j p y hp hy => h3 (j + 1) p y (by simpa [posL] using hp) (by simpa using hy)) (fun j p v hp hv => h4 (j + 1) p v (by simpa [posL] using hp) (by simpa using hv))
    generalize ((posL (next + k.size) ks).zip ls).foldl (fun out p => putM f (nodesM 0 a) B n out p.1 p.2) o1 = o at b1 b2 b3 b4 ⊢
    have hsame : ∀ q, next ≤ q → q < next + k.size → o[q]? = o1[q]? := fun q _ h => b2 q (.inl h)
    have hp := size_pos k
    refine ⟨⟨by omega, fun q hq => ?_, fun q hq1 hq2 => ?_⟩, fun j p v hp' hv => ?_⟩
    · rw [szl_cons] at hq
      rw [b2 q (by omega), a2 q (by omega)]
    · rw [szl_cons] at hq2
      by_cases hk : q < next + k.size
      · rw [lab_agree (hsame q hq1 hk), way_agree hf0 hsame hq1 hk]; exact a3 q hq1 hk
      · exact b3 q (by omega) (by omega)
    · cases j with
      | zero =>
        simp at hp' hv
        subst hp' hv
        rw [b2 next (.inl (by omega))]; exact a4
      | succ j => simp at hp' hv; exact b4 j p v hp' hv
theorem put_ok {a b : Tr} (hwa : Wf (nodesM 0 a)) : ∀ (n i j : Nat) (out : List Int) (s : Tr), (nodesM 0 a).length - i ≤ n → (fl a)[i]? = some s → j ∈ gt (solD (nodesM 0 a) (nodesM 0 b) (nodesM 0 a).length) i → out.length = a.size →
    PutOK a (nodesM 0 b) out (putM (intoT (nodesM 0 b) (solD (nodesM 0 a) (nodesM 0 b) (nodesM 0 a).length)) (nodesM 0 a) (nodesM 0 b) n out i (j : Int)) i s.size ∧ (putM (intoT (nodesM 0 b) (solD (nodesM 0 a) (nodesM 0 b) (nodesM 0 a).length)) (nodesM 0 a) (nodesM 0 b) n out i (j : Int))[i]? = some (j : Int)
  | 0, i, j, out, s, hn, hs, hj, ho => by
    have := (List.getElem?_eq_some_iff.1 hs).1
    rw [fl_length, ← nodesM_length a 0] at this
    omega
  | n + 1, i, j, out, s, hn, hs, hj, ho => by
    have hil : i < a.size := by rw [← fl_length]; exact (List.getElem?_eq_some_iff.1 hs).1
    have hX : (nodesM 0 a)[i]? = some ⟨s.lab, i + s.size, posL (i + 1) s.kids⟩ := by rw [nodes_at, hs]; simp
    have hj' := hj
    rw [sol_row hwa (by rw [nodesM_length]; exact hil)] at hj'
    have hrow := List.mem_filter.1 hj'
    have hjb : j < b.size := by have := hrow.1; rw [List.mem_range, nodesM_length] at this; exact this
    obtain ⟨sb, hsb⟩ := get_ex (a := fl b) (i := j) (by rw [fl_length]; exact hjb)
    have hY : (nodesM 0 b)[j]? = some ⟨sb.lab, j + sb.size, posL (j + 1) sb.kids⟩ := by rw [nodes_at, hsb]; simp
    have hok := hrow.2
    unfold rowOK at hok
    rw [hX, hY] at hok
    simp only [Bool.and_eq_true, beq_iff_eq] at hok
    obtain ⟨hlab, hpl⟩ := hok
    obtain ⟨l, hl⟩ := Option.isSome_iff_exists.1 hpl
    have hka : kidsOf (nodesM 0 a) i = posL (i + 1) s.kids := by simp [kidsOf, hX]
    have hkb : kidsOf (nodesM 0 b) j = posL (j + 1) sb.kids := by simp [kidsOf, hY]
    have hmem := plM_mem hl
    have hz := size_eq s
    have hlt : i + s.size ≤ a.size := by
      obtain ⟨pre, post, e, el⟩ := fl_sub a i s hs
      have := congrArg List.length e
      rw [List.length_append, List.length_append, fl_length, fl_length, el] at this
      omega
    have hset : (out.set i (j : Int))[i]? = some (j : Int) := by rw [List.getElem?_set_self (by omega)]
    have hfold := fold_ok (B := nodesM 0 b) (f := intoT (nodesM 0 b) (solD (nodesM 0 a) (nodesM 0 b) (nodesM 0 a).length)) (n := n) (Q := fun i j => j ∈ gt (solD (nodesM 0 a) (nodesM 0 b) (nodesM 0 a).length) i)
      (fun i j out s h1 h2 h3 h4 => put_ok hwa n i j out s h1 h2 h3 h4) s.kids (i + 1) l (out.set i (j : Int)) (by rw [hmem.1, posL_length]) (by simpa using ho)
      (fun x p y hp hy => by
        obtain ⟨p', h1, h2, h3⟩ := kid_at hs hy
        rw [hp] at h1
        simp only [Option.some.injEq] at h1
        subst h1
        exact ⟨h2, by omega⟩)
      (fun x p v hp hv => by
        obtain ⟨r, _, hvr, h0⟩ := hmem.2 x p v hp hv
        unfold intoT at hvr
        obtain ⟨w, hw, hw2, _⟩ := intoM_mem (by rw [← hvr]; exact h0)
        exact ⟨w, by rw [hvr, hw2], hw⟩)
    simp only [putM, Int.toNat_natCast, hka, hkb, hl, Option.getD_some]
    generalize ((posL (i + 1) s.kids).zip l).foldl (fun out p => putM (intoT (nodesM 0 b) (solD (nodesM 0 a) (nodesM 0 b) (nodesM 0 a).length)) (nodesM 0 a) (nodesM 0 b) n out p.1 p.2) (out.set i (j : Int)) = o at hfold ⊢
    obtain ⟨⟨b1, b2, b3⟩, b4⟩ := hfold
    have hoi : o[i]? = some (j : Int) := by rw [b2 i (.inl (by omega)), hset]
    refine ⟨⟨by simpa using b1, fun k hk => ?_, fun k hk1 hk2 => ?_⟩, hoi⟩
    · rw [b2 k (by omega), List.getElem?_set_ne (by omega)]
    · by_cases hki : k = i
      · subst hki
        refine ⟨?_, ?_⟩
        · unfold labOK
          rw [hX, hoi]
          simp only [Int.toNat_natCast, hY, nodesM_length]
          simp [hjb, hlab]
        · unfold wayOK
          rw [hX, hoi]
          simp only [Int.toNat_natCast, hkb]
          refine plM_way _ _ l hl (fun x kid v hx hv r hvr h0 => ?_)
          unfold intoT at hvr
          obtain ⟨w, _, hw2, hw3, hw4⟩ := intoM_mem (by rw [← hvr]; exact h0)
          have hat := b4 x kid v hx hv
          have hgd : o.getD kid 0 = v := by rw [List.getD_eq_getElem?_getD, hat]; rfl
          unfold wayF
          rw [hgd, if_pos (by omega)]
          omega
      · exact b3 k (by omega) (by omega)
theorem emb_proves {a b : Tr} {v : List Int} (h : embT a b = some v) : rprovM a b v = true := by
  have hv := (leqT_iff a b).1 (by rw [h]; rfl)
  obtain ⟨ha, hb, _⟩ := hv
  rw [← prov_eq]
  have hwf := nodesT_wf a
  unfold embT at h
  rw [nodesT_valid ha] at h hwf ⊢
  rw [nodesT_valid hb] at h ⊢
  cases hg : gt (solD (nodesM 0 a) (nodesM 0 b) (nodesM 0 a).length) 0 with
  | nil => rw [hg] at h; simp [embG] at h
  | cons j rest =>
    rw [hg] at h
    simp only [embG, Option.some.injEq] at h
    obtain ⟨⟨b1, b2, b3⟩, _⟩ := put_ok (b := b) hwf (nodesM 0 a).length 0 j (List.replicate (nodesM 0 a).length 0) a (by omega) (by rw [fl_eq]; rfl) (by rw [hg]; simp) (by simp [nodesM_length])
    rw [h] at b1 b3
    have hpa := size_pos a
    have hpb := size_pos b
    unfold provX
    simp only [Bool.and_eq_true, List.all_eq_true, nodesM_length] at b1 b3 ⊢
    refine ⟨⟨⟨⟨by simp; omega, by simp; omega⟩, by simpa using b1⟩, fun k hk => (b3 k (by omega) ?_).1⟩, fun k hk => (b3 k (by omega) ?_).2⟩
    · simpa using hk
    · simpa using hk
end Go.Proofs.Ytaceggcohmmfhaa

namespace Go.Proofs.Ytaceggcohmmfhaa
open Go.Dv Tr

def insL (F : Tr → Tr → Nat → List Int × Bool) (a : Tr) : List Tr → Nat → List Int × Bool
  | [], _ => ([], false)
  | k :: ks, n => if (F a k n).2 then ((F a k n).1, true) else insL F a ks (n + k.size)
def rootL (F : Tr → Tr → Nat → List Int × Bool) : List Tr → List Tr → Nat → List Int → List Int × Bool
  | [], _, _, out => (out, true)
  | _ :: _, [], _, _ => ([], false)
  | a :: xs, b :: bs, n, out => if (F a b n).2 then rootL F xs bs (n + b.size) (out ++ (F a b n).1) else rootL F (a :: xs) bs (n + b.size) out
def rootM (F : Tr → Tr → Nat → List Int × Bool) (a b : Tr) (n : Nat) : List Int × Bool :=
  if a.lab = b.lab then rootL F a.kids b.kids (n + 1) [(n : Int)] else ([], false)
def insM : Nat → Tr → Tr → Nat → List Int × Bool
  | 0, _, _, _ => ([], false)
  | f + 1, a, b, n => if (rootM (insM f) a b n).2 then ((rootM (insM f) a b n).1, true) else insL (insM f) a b.kids (n + 1)
abbrev GoodF (F : Tr → Tr → Nat → List Int × Bool) (bs : List Tr) : Prop := ∀ (a k : Tr) (n : Nat), k ∈ bs → ((F a k n).2 = true ↔ Emb a k) ∧ (F a k n).1.length ≤ a.size
theorem insL_ok {F : Tr → Tr → Nat → List Int × Bool} {a : Tr} : ∀ (ks : List Tr) (n : Nat), GoodF F ks → ((insL F a ks n).2 = true ↔ ∃ k ∈ ks, Emb a k) ∧ (insL F a ks n).1.length ≤ a.size
  | [], n, _ => by simp [insL]
  | k :: ks, n, h => by
    have h0 := h a k n (by simp)
    have ih := insL_ok (a := a) ks (n + k.size) (fun a k n hk => h a k n (by simp [hk]))
    simp only [insL]
    split
    · rename_i hk
      exact ⟨⟨fun _ => ⟨k, by simp, h0.1.1 hk⟩, fun _ => rfl⟩, h0.2⟩
    · rename_i hk
      refine ⟨ih.1.trans ⟨fun ⟨x, h1, h2⟩ => ⟨x, by simp [h1], h2⟩, fun ⟨x, h1, h2⟩ => ?_⟩, ih.2⟩
      rcases List.mem_cons.1 h1 with rfl | h1
      · exact absurd (h0.1.2 h2) hk
      · exact ⟨x, h1, h2⟩
theorem rootL_ok {F : Tr → Tr → Nat → List Int × Bool} : ∀ (bs xs : List Tr) (n : Nat) (out : List Int), GoodF F bs → ((rootL F xs bs n out).2 = true ↔ EmbL xs bs) ∧ (rootL F xs bs n out).1.length ≤ out.length + szl xs
  | bs, [], n, out, _ => by
    cases bs <;> exact ⟨⟨fun _ => .nil, fun _ => rfl⟩, by simp [szl, rootL]⟩
  | [], a :: xs, n, out, _ => by
    simp only [rootL]
    exact ⟨⟨fun h => by simp at h, fun h => by cases h⟩, by simp⟩
  | b :: bs, a :: xs, n, out, h => by
    have h0 := h a b n (by simp)
    have hr : GoodF F bs := fun a k n hk => h a k n (by simp [hk])
    simp only [rootL]
    rw [embL_cons]
    split
    · rename_i hk
      have ih := rootL_ok bs xs (n + b.size) (out ++ (F a b n).1) hr
      have he := h0.1.1 hk
      refine ⟨ih.1.trans ⟨fun h => .inl ⟨he, h⟩, fun h => ?_⟩, ?_⟩
      · rcases h with h | h
        · exact h.2
        · exact absurd he h.1
      · have := ih.2
        rw [szl_cons]
        simp only [List.length_append] at this
        have := h0.2
        omega
    · rename_i hk
      have ih := rootL_ok bs (a :: xs) (n + b.size) out hr
      refine ⟨ih.1.trans ⟨fun h => .inr ⟨fun he => hk (h0.1.2 he), h⟩, fun h => ?_⟩, ih.2⟩
      rcases h with h | h
      · exact absurd (h0.1.2 h.1) hk
      · exact h.2
theorem rootM_ok {F : Tr → Tr → Nat → List Int × Bool} {a b : Tr} {n : Nat} (h : GoodF F b.kids) : ((rootM F a b n).2 = true ↔ Rooted a b) ∧ (rootM F a b n).1.length ≤ a.size := by
  unfold rootM Rooted
  have := size_eq a
  split
  · rename_i hl
    have ih := rootL_ok b.kids a.kids (n + 1) [(n : Int)] h
    exact ⟨ih.1.trans ⟨fun h => ⟨hl, h⟩, fun h => h.2⟩, by have := ih.2; simp only [List.length_singleton] at this; omega⟩
  · rename_i hl
    exact ⟨⟨fun h => by simp at h, fun h => absurd h.1 hl⟩, by simp⟩
theorem insM_ok : ∀ (f : Nat) (a b : Tr) (n : Nat), b.size ≤ f → ((insM f a b n).2 = true ↔ Emb a b) ∧ (insM f a b n).1.length ≤ a.size
  | 0, a, b, n, h => by have := size_pos b; omega
  | f + 1, a, b, n, h => by
    have hz := size_eq b
    have hg : GoodF (insM f) b.kids := fun a k n hk => insM_ok f a k n (by have := szl_mem hk; omega)
    have h1 := rootM_ok (a := a) (n := n) hg
    have h2 := insL_ok (a := a) b.kids (n + 1) hg
    simp only [insM]
    split
    · rename_i hr
      have := h1.1.1 hr
      exact ⟨⟨fun _ => .here this.1 this.2, fun _ => rfl⟩, h1.2⟩
    · rename_i hr
      refine ⟨h2.1.trans ⟨fun ⟨k, hk, he⟩ => .deep hk he, fun he => ?_⟩, h2.2⟩
      cases he with
      | here hl hk => exact absurd (h1.1.2 ⟨hl, hk⟩) hr
      | deep hk he => exact ⟨_, hk, he⟩
def embR (a b : Tr) : List Int × Bool := if validT a && validT b then insM b.size a b 0 else ([], false)
theorem embR_len (a b : Tr) : (embR a b).1.length ≤ 12 := by
  unfold embR
  split
  · rename_i h
    have ha : validT a = true := by simp at h; exact h.1
    have := (insM_ok b.size a b 0 (Nat.le_refl _)).2
    rw [validT_eq] at ha
    simp at ha
    omega
  · simp
theorem embR_is (a b : Tr) : (embR a b).2 = (embT a b).isSome := by
  rw [Bool.eq_iff_iff, leqT_iff]
  unfold embR
  split
  · rename_i h
    simp only [Bool.and_eq_true] at h
    exact ((insM_ok b.size a b 0 (Nat.le_refl _)).1).trans ⟨fun e => ⟨h.1, h.2, e⟩, fun e => e.2.2⟩
  · rename_i h
    simp only [Bool.and_eq_true] at h
    exact ⟨fun e => by simp at e, fun e => absurd ⟨e.1, e.2.1⟩ h⟩

/- TREES OF FEW NODES -/
def smT : Nat → Tr → Bool
  | 0, _ => false
  | n + 1, t => decide (t.kids.length ≤ 8) && t.kids.all (smT n)
def smB : Nat → Nat
  | 0 => 0
  | n + 1 => 1 + 8 * smB n
theorem szl_all {m : Nat} : ∀ ks : List Tr, (∀ k ∈ ks, k.size ≤ m) → szl ks ≤ ks.length * m
  | [], _ => by simp [szl]
  | k :: ks, h => by
    have := szl_all ks (fun k hk => h k (by simp [hk]))
    have := h k (by simp)
    rw [szl_cons, List.length_cons, Nat.succ_mul]
    omega
theorem smT_size : ∀ (n : Nat) (t : Tr), smT n t = true → t.size ≤ smB n
  | 0, t, h => by simp [smT] at h
  | n + 1, t, h => by
    simp only [smT, Bool.and_eq_true, decide_eq_true_eq, List.all_eq_true] at h
    have h1 := szl_all t.kids (fun k hk => smT_size n k (h.2 k hk))
    have h2 := size_eq t
    have h3 := Nat.mul_le_mul_right (smB n) h.1
    simp only [smB]
    omega
theorem smT_5 {t : Tr} (h : smT 5 t = true) : t.size ≤ 5000 := Nat.le_trans (smT_size 5 t h) (by decide)
end Go.Proofs.Ytaceggcohmmfhaa

namespace Go.Proofs.Ytaceggcohmmfhaa
open Go.Dv Go.Nv Tr
set_option maxRecDepth 20000
abbrev ke (t : Nat) : Nat × Option D := (t, none)
abbrev ch (t : Nat) (d : D) : Nat × Option D := (t, some d)
abbrev vTr (t : Tr) : V := .agg [vi t.lab, vtl t.kids]
theorem wsucc {i : Nat} (h : i ≤ 1000000000) : di (IntKind.i64.wrap ((i : Int) + 1)) = di ((i + 1 : Nat) : Int) := by rw [wrap_succ h]
theorem wadd {a b : Nat} (h : a + b ≤ 1000000000) : IntKind.i64.wrap ((a : Int) + (b : Int)) = ((a + b : Nat) : Int) := by rw [wrap_id (by omega) (by omega)]; simp
theorem lenW {α : Type} {e : α → V} {f : Int → V} {a : List α} {b : List Int} {by' : Nat} (h : a.length + b.length ≤ 2000000) (hb : by' ≤ 10000) : LenOK ((a.map e).length + (b.map f).length) by' := by
  rw [List.length_map, List.length_map]
  have : (a.length + b.length) * by' ≤ 2000000 * 10000 := Nat.mul_le_mul h hb
  exact ⟨by omega, by omega⟩
theorem wksL_nil : wksL [] = [] := rfl
theorem sizes_vi (l : List Int) : ∀ y ∈ l.map vi, V.size y = 1 := by
  intro y hy
  obtain ⟨_, _, rfl⟩ := List.mem_map.1 hy
  rfl
noncomputable abbrev fCnt : Func := Try.f29
noncomputable def cCnt : Code := fCnt.body.getD .skip
theorem rcount_spec (N : Nat) : ∀ t : Tr, t.size ≤ N → t.size ≤ 1000000 → ∀ m : Nat, m ≤ 1000 → FSpec PP 29 [dt t, di (m : Int)] σ0 (di ((min t.size (m + 1) : Nat) : Int)) σ0 := by
  induction N with
  | zero => intro t ht; have := size_pos t; omega
  | succ N ihN =>
    intro t ht ht1 m hm
    have hsz := size_eq t
    have hlen := szl_len t.kids
    have loop (n : Nat) : ∀ (k a : Nat), t.kids.length - k = n → 1 ≤ a → a ≤ m + 1 →
        Rn PP fCnt 0 (di ((min (a + szl (t.kids.drop k)) (m + 1) : Nat) : Int)) σ0 ([.lp (sub cCnt [1, 1, 0, 1, 0, 0]), .blk 0, .code (sub cCnt [1, 1, 1])] ++ []) (mkE 31 [(1, di (m : Int)), (2, .v (.ref (vTr t))), (5, di (a : Int)), (6, di (k : Int))]) σ0 := by
      induction n using Nat.strongRecOn with
      | _ n ih =>
      intro k a hn ha0 ha1
      refine loop_vc mixed 31 [2] (.b (.b (.e fun x : Tr => .x (vTr x) <| .c (di ((min x.size (m - a + 1) : Nat) : Int)) <| .l [ke 1, ke 2, ch 5 (di ((min (a + x.size) (m + 1) : Nat) : Int)), ch 6 (di (k + 1 : Nat))]) .r) .r) ?_
      refine via (by kernel_rfl : ((decide ((↑k : Int) < (↑(List.length (List.map vt (kids t))) : Int)) = true → (decide ((↑a : Int) ≤ (↑m : Int)) = true → ∃ a_3, 0 ≤ (↑k : Int) ∧ (List.map vt (kids t))[Int.toNat (↑k : Int)]? = some (vTr a_3) ∧ FSpec PP 29 [D.v (vTr a_3), Nv.di (IntKind.wrap IntKind.i64 ((↑m : Int) - (↑a : Int)))] (St.mk [] []) (di (↑(min (size a_3) (m - a + 1)) : Int)) (St.mk [] []) ∧ Nv.di (IntKind.wrap IntKind.i64 ((↑a : Int) + (↑(min (size a_3) (m - a + 1)) : Int))) = di (↑(min (a + size a_3) (m + 1)) : Int) ∧ Nv.di (IntKind.wrap IntKind.i64 ((↑k : Int) + 1)) = di (↑(k + 1) : Int) ∧ Nv.It (RunC (CN 0) PP (fun env σ1 => ResOK PP fCnt env σ1 (di (↑(min (a + szl (List.drop k (kids t))) (m + 1)) : Int)) σ0) [KI.lp (sub cCnt [1, 1, 0, 1, 0, 0]), KI.blk 0, KI.code (sub cCnt [1, 1, 1])] (mkE 31 [(1, Nv.di (↑m : Int)), (2, D.v (V.ref (vTr t))), (5, di (↑(min (a + size a_3) (m + 1)) : Int)), (6, di (↑(k + 1) : Int))]) σ0)) ∧ (decide ((↑a : Int) ≤ (↑m : Int)) = false → Nv.di (↑a : Int) = di (↑(min (a + szl (List.drop k (kids t))) (m + 1)) : Int))) ∧ (decide ((↑k : Int) < (↑(List.length (List.map vt (kids t))) : Int)) = false → Nv.di (↑a : Int) = di (↑(min (a + szl (List.drop k (kids t))) (m + 1)) : Int))) = _) ?_
      refine ⟨fun h => ⟨fun h1 => ?_, fun h1 => ?_⟩, fun h => ?_⟩
      · have hk : k < t.kids.length := by simpa using h
        have hx : t.kids[k]? = some t.kids[k] := List.getElem?_eq_getElem hk
        rw [szl_at hx]
        generalize t.kids[k] = x at hx ⊢
        have hxs := szl_mem (List.mem_of_getElem? hx)
        have hx1 := size_pos x
        have h1 := of_decide_eq_true h1
        refine ⟨x, by omega, idx_tree hx, ?_, ?_, wsucc (by omega), ⟨?_⟩⟩
        · rw [wrap_id (by omega) (by omega), show (m : Int) - (a : Int) = ((m - a : Nat) : Int) by omega]
          exact ihN x (by omega) (by omega) (m - a) (by omega)
        · rw [wadd (by omega)]; congr 3; omega
        · have := ih (t.kids.length - (k + 1)) (by omega) (k + 1) (min (a + x.size) (m + 1)) rfl (by omega) (by omega)
          rw [show min (min (a + x.size) (m + 1) + szl (t.kids.drop (k + 1))) (m + 1) = min (a + (x.size + szl (t.kids.drop (k + 1)))) (m + 1) by omega] at this
          exact this
      · have h1 := of_decide_eq_false h1
        congr 2; omega
      · have hk : t.kids.length ≤ k := by simpa using h
        rw [szl_end hk]
        congr 2; omega
    refine spec_vc mixed fCnt cCnt (by kernel_rfl) (by kernel_rfl) (by kernel_rfl) (by kernel_rfl) 31 (by kernel_rfl) [2] (.l [ke 1, ke 2, ch 5 (di ((1 : Nat) : Int)), ch 6 (di (0 : Nat))]) ?_
    refine via (by kernel_rfl : (Nv.di 1 = di (↑1 : Int) ∧ Nv.di 0 = di (↑0 : Int) ∧ Nv.It (RunC (CN (List.length σ0.H)) PP (fun env σ1 => ResOK PP fCnt env σ1 (di (↑(min (size t) (m + 1)) : Int)) σ0) [KI.lp (sub cCnt [1, 1, 0, 1, 0, 0]), KI.blk 0, KI.code (sub cCnt [1, 1, 1])] (mkE 31 [(1, di (↑m : Int)), (2, D.v (V.ref (V.agg [vi (lab t), vtl (kids t)]))), (5, di (↑1 : Int)), (6, di (↑0 : Int))]) σ0)) = _) ?_
    refine ⟨rfl, rfl, ⟨?_⟩⟩
    have := loop _ 0 1 rfl (by omega) (by omega)
    rw [List.drop_zero, ← hsz] at this
    exact this
noncomputable abbrev fLbs : Func := Try.f28
noncomputable def cLbs : Code := fLbs.body.getD .skip
theorem rlabels_spec (N : Nat) : ∀ t : Tr, t.size ≤ N → t.size ≤ 1000000 → FSpec PP 28 [dt t] σ0 (db (labB t)) σ0 := by
  induction N with
  | zero => intro t ht; have := size_pos t; omega
  | succ N ihN =>
    intro t ht ht1
    have hsz := size_eq t
    have hlen := szl_len t.kids
    have loop (n : Nat) : ∀ k : Nat, t.kids.length - k = n →
        Rn PP fLbs 0 (db (labsB (t.kids.drop k) && okLab t.lab)) σ0 ([.lp (sub cLbs [1, 0, 1, 0, 0]), .blk 0, .code (sub cLbs [1, 1])] ++ []) (mkE 26 [(1, .v (.ref (vTr t))), (3, di (k : Int))]) σ0 := by
      induction n using Nat.strongRecOn with
      | _ n ih =>
      intro k hn
      refine loop_vc mixed 26 [1] (.b (.e fun x : Tr => .x (vTr x) <| .c (db (labB x)) <| .b .r (.l [ke 1, ch 3 (di (k + 1 : Nat))])) (.b .r .r)) ?_
      refine via (by kernel_rfl : ((decide ((↑k : Int) < (↑(List.length (List.map vt (kids t))) : Int)) = true → ∃ a, 0 ≤ (↑k : Int) ∧ (List.map vt (kids t))[Int.toNat (↑k : Int)]? = some (vTr a) ∧ FSpec PP 28 [D.v (vTr a)] (St.mk [] []) (db (labB a)) (St.mk [] []) ∧ ((!labB a) = true → Nv.db false = db (labsB (List.drop k (kids t)) && okLab (lab t))) ∧ ((!labB a) = false → Nv.di (IntKind.wrap IntKind.i64 ((↑k : Int) + 1)) = di (↑(k + 1) : Int) ∧ Nv.It (RunC (CN 0) PP (fun env σ1 => ResOK PP fLbs env σ1 (db (labsB (List.drop k (kids t)) && okLab (lab t))) σ0) [KI.lp (sub cLbs [1, 0, 1, 0, 0]), KI.blk 0, KI.code (sub cLbs [1, 1])] (mkE 26 [(1, D.v (V.ref (vTr t))), (3, di (↑(k + 1) : Int))]) σ0))) ∧ (decide ((↑k : Int) < (↑(List.length (List.map vt (kids t))) : Int)) = false → (decide (lab t ≥ 0) = true → Nv.db (decide (lab t < 16)) = db (labsB (List.drop k (kids t)) && okLab (lab t))) ∧ (decide (lab t ≥ 0) = false → Nv.db false = db (labsB (List.drop k (kids t)) && okLab (lab t))))) = _) ?_
      refine ⟨fun h => ?_, fun h => ?_⟩
      · have hk : k < t.kids.length := by simpa using h
        have hx : t.kids[k]? = some t.kids[k] := List.getElem?_eq_getElem hk
        rw [List.drop_eq_getElem_cons hk]
        generalize t.kids[k] = x at hx ⊢
        have hxs := szl_mem (List.mem_of_getElem? hx)
        refine ⟨x, by omega, idx_tree hx, ihN x (by omega) (by omega), fun h1 => ?_, fun h1 => ⟨wsucc (by omega), ⟨?_⟩⟩⟩
        · have h1 : labB x = false := by simpa using h1
          simp only [labsB, h1, Bool.false_and]
        · have h1 : labB x = true := by simpa using h1
          simp only [labsB, h1, Bool.true_and]
          exact ih (t.kids.length - (k + 1)) (by omega) (k + 1) rfl
      · have hk : t.kids.length ≤ k := by simpa using h
        rw [List.drop_of_length_le hk]
        simp only [labsB, Bool.true_and, okLab]
        exact ⟨fun h1 => by rw [h1, Bool.true_and], fun h1 => by rw [h1, Bool.false_and]⟩
    refine spec_vc mixed fLbs cLbs (by kernel_rfl) (by kernel_rfl) (by kernel_rfl) (by kernel_rfl) 26 (by kernel_rfl) [1] (.l [ke 1, ch 3 (di (0 : Nat))]) ?_
    refine via (by kernel_rfl : (Nv.di 0 = di (↑0 : Int) ∧ Nv.It (RunC (CN (List.length σ0.H)) PP (fun env σ1 => ResOK PP fLbs env σ1 (db (labB t)) σ0) [KI.lp (sub cLbs [1, 0, 1, 0, 0]), KI.blk 0, KI.code (sub cLbs [1, 1])] (mkE 26 [(1, D.v (V.ref (V.agg [vi (lab t), vtl (kids t)]))), (3, di (↑0 : Int))]) σ0)) = _) ?_
    refine ⟨rfl, ⟨?_⟩⟩
    have := loop _ 0 rfl
    rw [List.drop_zero, ← labB_eq] at this
    exact this
noncomputable abbrev fSml : Func := Try.f27
noncomputable def cSml : Code := fSml.body.getD .skip
theorem rsmall_spec (t : Tr) (ht : t.size ≤ 1000000) : FSpec PP 27 [dt t] σ0 (db (decide (t.size ≤ 12))) σ0 := by
  refine spec_vc mixed fSml cSml (by kernel_rfl) (by kernel_rfl) (by kernel_rfl) (by kernel_rfl) 6 (by kernel_rfl) [1] (.c (di ((min t.size 13 : Nat) : Int)) .r) ?_
  refine via (by kernel_rfl : (FSpec PP 29 [D.v (V.agg [vi (lab t), vtl (kids t)]), Nv.di 12] (St.mk [] []) (di (↑(min (size t) 13) : Int)) (St.mk [] []) ∧ Nv.db (decide ((↑(min (size t) 13) : Int) ≤ 12)) = db (decide (size t ≤ 12))) = _) ?_
  refine ⟨rcount_spec _ t (Nat.le_refl _) ht 12 (by omega), ?_⟩
  congr 2; exact propext (by omega)
noncomputable abbrev fVld : Func := Try.f10
noncomputable def cVld : Code := fVld.body.getD .skip
theorem rvalid_spec (t : Tr) (ht : t.size ≤ 1000000) : FSpec PP 10 [dt t] σ0 (db (validT t)) σ0 := by
  refine spec_vc mixed fVld cVld (by kernel_rfl) (by kernel_rfl) (by kernel_rfl) (by kernel_rfl) 9 (by kernel_rfl) [1] (.c (db (decide (t.size ≤ 12))) <| .b (.c (db (labB t)) .r) .r) ?_
  refine via (by kernel_rfl : (FSpec PP 27 [D.v (V.agg [vi (lab t), vtl (kids t)])] (St.mk [] []) (db (decide (size t ≤ 12))) (St.mk [] []) ∧ (decide (size t ≤ 12) = true → FSpec PP 28 [D.v (V.agg [vi (lab t), vtl (kids t)])] (St.mk [] []) (db (labB t)) (St.mk [] []) ∧ Nv.db (labB t) = db (validT t)) ∧ (decide (size t ≤ 12) = false → Nv.db false = db (validT t))) = _) ?_
  refine ⟨rsmall_spec t ht, fun h => ⟨rlabels_spec _ t (Nat.le_refl _) ht, ?_⟩, fun h => ?_⟩
  · rw [validT_eq, h, Bool.true_and]
  · rw [validT_eq, h, Bool.false_and]
noncomputable abbrev fSiz : Func := Try.f12
noncomputable def cSiz : Code := fSiz.body.getD .skip
theorem rsize_spec (t : Tr) (ht : t.size ≤ 1000000) : FSpec PP 12 [dt t] σ0 (di ((if validT t then t.size else 0 : Nat) : Int)) σ0 := by
  refine spec_vc mixed fSiz cSiz (by kernel_rfl) (by kernel_rfl) (by kernel_rfl) (by kernel_rfl) 8 (by kernel_rfl) [1] (.c (db (validT t)) <| .b .r (.c (di ((min t.size 13 : Nat) : Int)) .r)) ?_
  refine via (by kernel_rfl : (FSpec PP 10 [D.v (V.agg [vi (lab t), vtl (kids t)])] (St.mk [] []) (db (validT t)) (St.mk [] []) ∧ ((!validT t) = true → Nv.di 0 = di (↑(if validT t = true then size t else 0) : Int)) ∧ ((!validT t) = false → FSpec PP 29 [D.v (V.agg [vi (lab t), vtl (kids t)]), Nv.di 12] (St.mk [] []) (di (↑(min (size t) 13) : Int)) (St.mk [] []) ∧ Nv.di (↑(min (size t) 13) : Int) = di (↑(if validT t = true then size t else 0) : Int))) = _) ?_
  refine ⟨rvalid_spec t ht, fun h => ?_, fun h => ⟨rcount_spec _ t (Nat.le_refl _) ht 12 (by omega), ?_⟩⟩
  · have h : validT t = false := by simpa using h
    rw [h]; rfl
  · have h : validT t = true := by simpa using h
    have h2 := h
    rw [validT_eq] at h2
    simp only [Bool.and_eq_true, decide_eq_true_eq] at h2
    rw [h]; simp only [if_true]; congr 2; omega
noncomputable abbrev fWlk : Func := Try.f34
noncomputable def cWlk : Code := fWlk.body.getD .skip
theorem rwalk_spec (N : Nat) : ∀ t : Tr, t.size ≤ N → t.size ≤ 1000000 → FSpec PP 34 [dt t] σ0 (dl (wkL t)) σ0 := by
  induction N with
  | zero => intro t ht; have := size_pos t; omega
  | succ N ihN =>
    intro t ht ht1
    have hsz := size_eq t
    have hlen := szl_len t.kids
    have loop (n : Nat) : ∀ (k : Nat) (out : List Int), t.kids.length - k = n → out.length + szl (t.kids.drop k) ≤ 1000000 →
        Rn PP fWlk 0 (dl (out ++ wksL (t.kids.drop k))) σ0 ([.lp (sub cWlk [1, 1, 0, 1, 0, 0]), .blk 0, .code (sub cWlk [1, 1, 1])] ++ []) (mkE 24 [(1, .v (.ref (vTr t))), (3, .acc 1 (out.map vi)), (4, di (k : Int))]) ⟨[], [(1, 1, out.map vi)]⟩ := by
      induction n using Nat.strongRecOn with
      | _ n ih =>
      intro k out hn ho
      refine loop_vc mixed 24 [1] (.b (.e fun x : Tr => .x (vTr x) <| .c (dl (wkL x)) <| .w <| .ls [ke 1, ch 3 (.acc 1 ((out ++ wkL x).map vi)), ch 4 (di (k + 1 : Nat))] ⟨[], [(1, 1, (out ++ wkL x).map vi)]⟩) .r) ?_
      refine via (by kernel_rfl : ((decide ((↑k : Int) < (↑(List.length (List.map vt (kids t))) : Int)) = true → ∃ a, 0 ≤ (↑k : Int) ∧ (List.map vt (kids t))[Int.toNat (↑k : Int)]? = some (vTr a) ∧ FSpec PP 34 [D.v (vTr a)] (St.mk [] []) (dl (wkL a)) (St.mk [] []) ∧ List.map vi out = List.map vi out ∧ LenOK (List.length (List.map vi out) + List.length (List.map vi (wkL a))) 8 ∧ (∀ (y : V), y ∈ List.map vi (wkL a) → V.size y = 1) ∧ D.acc 1 (List.map vi out ++ List.map vi (wkL a)) = D.acc 1 (List.map vi (out ++ wkL a)) ∧ Nv.di (IntKind.wrap IntKind.i64 ((↑k : Int) + 1)) = di (↑(k + 1) : Int) ∧ [(1, 1, List.map vi out ++ List.map vi (wkL a))] = [(1, 1, List.map vi (out ++ wkL a))] ∧ Nv.It (RunC (CN 0) PP (fun env σ1 => ResOK PP fWlk env σ1 (dl (out ++ wksL (List.drop k (kids t)))) σ0) [KI.lp (sub cWlk [1, 1, 0, 1, 0, 0]), KI.blk 0, KI.code (sub cWlk [1, 1, 1])] (mkE 24 [(1, D.v (V.ref (vTr t))), (3, D.acc 1 (List.map vi (out ++ wkL a))), (4, di (↑(k + 1) : Int))]) (St.mk [] [(1, 1, List.map vi (out ++ wkL a))]))) ∧ (decide ((↑k : Int) < (↑(List.length (List.map vt (kids t))) : Int)) = false → D.v (V.list (List.map vi out)) = dl (out ++ wksL (List.drop k (kids t))))) = _) ?_
      refine ⟨fun h => ?_, fun h => ?_⟩
      · have hk : k < t.kids.length := by simpa using h
        have hx : t.kids[k]? = some t.kids[k] := List.getElem?_eq_getElem hk
        rw [szl_at hx] at ho
        rw [List.drop_eq_getElem_cons hk]
        generalize t.kids[k] = x at hx ho ⊢
        have hxs := szl_mem (List.mem_of_getElem? hx)
        have hw := wkL_length x
        refine ⟨x, by omega, idx_tree hx, ihN x (by omega) (by omega), rfl, lenW (by omega) (by omega), sizes_vi _, by rw [List.map_append], wsucc (by omega), by rw [List.map_append], ⟨?_⟩⟩
        rw [wksL_cons, ← List.append_assoc]
        exact ih (t.kids.length - (k + 1)) (by omega) (k + 1) (out ++ wkL x) rfl (by rw [List.length_append]; omega)
      · have hk : t.kids.length ≤ k := by simpa using h
        rw [List.drop_of_length_le hk, wksL_nil, List.append_nil]
    refine spec_vc mixed fWlk cWlk (by kernel_rfl) (by kernel_rfl) (by kernel_rfl) (by kernel_rfl) 24 (by kernel_rfl) [1] (.a 1 <| .ls [ke 1, ch 3 (.acc 1 ([t.lab].map vi)), ch 4 (di (0 : Nat))] ⟨[], [(1, 1, [t.lab].map vi)]⟩) ?_
    refine via (by kernel_rfl : (D.acc 1 [vi (lab t)] = D.acc 1 [vi (lab t)] ∧ Nv.di 0 = di (↑0 : Int) ∧ [(1, 1, vi (lab t) :: nV)] = [(1, 1, vi (lab t) :: nV)] ∧ Nv.It (RunC (CN (List.length σ0.H)) PP (fun env σ1 => ResOK PP fWlk env σ1 (dl (wkL t)) σ0) [KI.lp (sub cWlk [1, 1, 0, 1, 0, 0]), KI.blk 0, KI.code (sub cWlk [1, 1, 1])] (mkE 24 [(1, D.v (V.ref (V.agg [vi (lab t), vtl (kids t)]))), (3, D.acc 1 [vi (lab t)]), (4, di (↑0 : Int))]) (St.mk [] [(1, 1, [vi (lab t)])]))) = _) ?_
    refine ⟨rfl, rfl, rfl, ⟨?_⟩⟩
    have := loop _ 0 [t.lab] rfl (by rw [List.drop_zero, List.length_singleton]; omega)
    rw [List.drop_zero] at this
    rw [wkL_eq]
    exact this
noncomputable abbrev fLab : Func := Try.f19
noncomputable def cLab : Code := fLab.body.getD .skip
theorem rlabs_spec (t : Tr) (ht : t.size ≤ 1000000) : FSpec PP 19 [dt t] σ0 (dl (if validT t then wkL t else [])) σ0 := by
  refine spec_vc mixed fLab cLab (by kernel_rfl) (by kernel_rfl) (by kernel_rfl) (by kernel_rfl) 8 (by kernel_rfl) [1] (.c (db (validT t)) <| .b .r (.c (dl (wkL t)) .r)) ?_
  refine via (by kernel_rfl : (FSpec PP 10 [D.v (V.agg [vi (lab t), vtl (kids t)])] (St.mk [] []) (db (validT t)) (St.mk [] []) ∧ ((!validT t) = true → D.v (V.list []) = dl (if validT t = true then wkL t else [])) ∧ ((!validT t) = false → FSpec PP 34 [D.v (V.agg [vi (lab t), vtl (kids t)])] (St.mk [] []) (dl (wkL t)) (St.mk [] []) ∧ D.v (V.list (List.map vi (wkL t))) = dl (if validT t = true then wkL t else []))) = _) ?_
  refine ⟨rvalid_spec t ht, fun h => ?_, fun h => ⟨rwalk_spec _ t (Nat.le_refl _) ht, ?_⟩⟩
  · have h : validT t = false := by simpa using h
    rw [h]; rfl
  · have h : validT t = true := by simpa using h
    rw [h]; rfl
end Go.Proofs.Ytaceggcohmmfhaa

namespace Go.Proofs.Ytaceggcohmmfhaa
open Go.Dv Go.Nv Tr
set_option maxRecDepth 20000
section
variable {F : Tr → Tr → Nat → List Int × Bool} {x y a : Tr} {xs ys : List Tr} {q : Nat} {out : List Int}
theorem rootL_yes (h : (F x y q).2 = true) : rootL F (x :: xs) (y :: ys) q out = rootL F xs ys (q + y.size) (out ++ (F x y q).1) := by simp only [rootL, if_pos h]
theorem rootL_no (h : (F x y q).2 = false) : rootL F (x :: xs) (y :: ys) q out = rootL F (x :: xs) ys (q + y.size) out := by simp only [rootL, h, Bool.false_eq_true, if_false]
theorem insL_yes (h : (F a y q).2 = true) : insL F a (y :: ys) q = ((F a y q).1, true) := by simp only [insL, if_pos h]
theorem insL_no (h : (F a y q).2 = false) : insL F a (y :: ys) q = insL F a ys (q + y.size) := by simp only [insL, h, Bool.false_eq_true, if_false]
theorem insM_yes {f : Nat} (h : (rootM (insM f) x y q).2 = true) : insM (f + 1) x y q = ((rootM (insM f) x y q).1, true) := by simp only [insM, if_pos h]
theorem insM_no {f : Nat} (h : (rootM (insM f) x y q).2 = false) : insM (f + 1) x y q = insL (insM f) x y.kids (q + 1) := by simp only [insM, h, Bool.false_eq_true, if_false]
end
/-- what a call of the search gives -/
abbrev InsF (F : Tr → Tr → Nat → List Int × Bool) (ks : List Tr) : Prop := ∀ (a k : Tr) (n : Nat), k ∈ ks → a.size ≤ 1000000 → n + k.size ≤ 1000000 →
  FSpec PP 35 [dt a, dt k, di (n : Int)] σ0 (.tup [dl (F a k n).1, db (F a k n).2]) σ0
noncomputable abbrev fRtd : Func := Try.f50
noncomputable def cRtd : Code := fRtd.body.getD .skip
abbrev oSt (out : List Int) : St := ⟨[], [(1, 1, out.map vi)]⟩
abbrev tB (r : List Int × Bool) : D := .tup [dl r.1, db r.2]
theorem rtd_spec (F : Tr → Tr → Nat → List Int × Bool) (a b : Tr) (n : Nat) (ha : a.size ≤ 1000000) (hb : n + b.size ≤ 1000000) (hF : InsF F b.kids) (hG : GoodF F b.kids) :
    FSpec PP 50 [dt a, dt b, di (n : Int)] σ0 (tB (rootM F a b n)) σ0 := by
  have hza := size_eq a
  have hzb := size_eq b
  have hla := szl_len a.kids
  have hlb := szl_len b.kids
  have loop (M : Nat) : ∀ (i k q : Nat) (out : List Int), a.kids.length - i = M → q + szl (b.kids.drop k) ≤ 1000000 → out.length + szl (a.kids.drop i) ≤ 1000000 →
      Rn PP fRtd 0 (tB (rootL F (a.kids.drop i) (b.kids.drop k) q out)) σ0 ([.lp (sub cRtd [1, 1, 1, 1, 1, 0, 1, 0, 0]), .blk 0, .code (sub cRtd [1, 1, 1, 1, 1, 1])] ++ []) (mkE 72 [(2, di (n : Int)), (3, .v (.ref (vTr a))), (4, .v (.ref (vTr b))), (8, .acc 1 (out.map vi)), (9, di (q : Int)), (10, di (k : Int)), (11, di (i : Int))]) (oSt out) := by
    induction M using Nat.strongRecOn with
    | _ M ih =>
    intro i k q out hM hq hout
    by_cases hi : i < a.kids.length
    · obtain ⟨x, hx⟩ := get_ex hi
      have hxs := szl_mem (List.mem_of_getElem? hx)
      rw [szl_at hx] at hout
      rw [List.drop_eq_getElem_cons hi, show a.kids[i] = x from (List.getElem?_eq_some_iff.1 hx).2]
      have inner (L : Nat) : ∀ (k q : Nat) (out : List Int), b.kids.length - k = L → q + szl (b.kids.drop k) ≤ 1000000 → out.length + (x.size + szl (a.kids.drop (i + 1))) ≤ 1000000 →
          Rn PP fRtd 0 (tB (rootL F (x :: a.kids.drop (i + 1)) (b.kids.drop k) q out)) σ0 ([.lp (sub cRtd [1, 1, 1, 1, 1, 0, 1, 0, 0, 1, 0, 0, 1, 0, 0, 0]), .blk 2, .code (sub cRtd [1, 1, 1, 1, 1, 0, 1, 0, 0, 1, 0, 0, 1, 1]), .blk 1, .code (sub cRtd [1, 1, 1, 1, 1, 0, 1, 0, 0, 1, 1]), .lp (sub cRtd [1, 1, 1, 1, 1, 0, 1, 0, 0]), .blk 0, .code (sub cRtd [1, 1, 1, 1, 1, 1])] ++ []) (mkE 72 [(2, di (n : Int)), (3, .v (.ref (vTr a))), (4, .v (.ref (vTr b))), (8, .acc 1 (out.map vi)), (9, di (q : Int)), (10, di (k : Int)), (11, di (i : Int)), (12, db false)]) (oSt out) := by
        induction L using Nat.strongRecOn with
        | _ L ihL =>
        intro k q out hL hq hout
        refine loop_vc mixed 72 [3, 4] (.b (.k <| .e fun y : Tr => .x (vTr x) <| .x (vTr y) <| .c (tB (F x y q)) <| .b (.w <| .x (vTr y) <| .c (dl (wkL y)) <| .n <| .b (.f <| .f <| .ls [ke 2, ke 3, ke 4, ch 8 (.acc 1 ((out ++ (F x y q).1).map vi)), ch 9 (di ((q + y.size : Nat) : Int)), ch 10 (di (k + 1 : Nat)), ch 11 (di (i + 1 : Nat))] (oSt (out ++ (F x y q).1))) (.k <| .f <| .ls [ke 2, ke 3, ke 4, ch 8 (.acc 1 ((out ++ (F x y q).1).map vi)), ch 9 (di ((q + y.size : Nat) : Int)), ch 10 (di (k + 1 : Nat)), ch 11 (di (i + 1 : Nat))] (oSt (out ++ (F x y q).1)))) (.x (vTr y) <| .c (dl (wkL y)) <| .ls [ke 2, ke 3, ke 4, ke 8, ch 9 (di ((q + y.size : Nat) : Int)), ch 10 (di (k + 1 : Nat)), ke 11, ch 12 (db false)] (oSt out))) (.k <| .r)) ?_
        refine via (by kernel_rfl : ((decide ((↑k : Int) < (↑(List.length (List.map vt (kids b))) : Int)) = true → ∃ a_2, 0 ≤ (↑i : Int) ∧ (List.map vt (kids a))[Int.toNat (↑i : Int)]? = some (vTr x) ∧ 0 ≤ (↑k : Int) ∧ (List.map vt (kids b))[Int.toNat (↑k : Int)]? = some (vTr a_2) ∧ FSpec PP 35 [D.v (vTr x), D.v (vTr a_2), Nv.di (↑q : Int)] (St.mk [] []) (tB (F x a_2 q)) (St.mk [] []) ∧ ((F x a_2 q).snd = true → List.map vi out = List.map vi out ∧ LenOK (List.length (List.map vi out) + List.length (List.map vi (F x a_2 q).fst)) 8 ∧ (∀ (y : V), y ∈ List.map vi (F x a_2 q).fst → V.size y = 1) ∧ 0 ≤ (↑k : Int) ∧ (List.map vt (kids b))[Int.toNat (↑k : Int)]? = some (vTr a_2) ∧ FSpec PP 34 [D.v (vTr a_2)] (St.mk [] []) (dl (wkL a_2)) (St.mk [] []) ∧ (decide (IntKind.wrap IntKind.i64 ((↑k : Int) + 1) < (↑(List.length (List.map vt (kids b))) : Int)) = true → (!(F x a_2 q).snd) = false ∧ (!(F x a_2 q).snd) = false ∧ D.acc 1 (List.map vi out ++ List.map vi (F x a_2 q).fst) = D.acc 1 (List.map vi (out ++ (F x a_2 q).fst)) ∧ Nv.di (IntKind.wrap IntKind.i64 ((↑q : Int) + (↑(List.length (List.map vi (wkL a_2))) : Int))) = di (↑(q + size a_2) : Int) ∧ Nv.di (IntKind.wrap IntKind.i64 ((↑k : Int) + 1)) = di (↑(k + 1) : Int) ∧ Nv.di (IntKind.wrap IntKind.i64 ((↑i : Int) + 1)) = di (↑(i + 1) : Int) ∧ [(1, 1, List.map vi out ++ List.map vi (F x a_2 q).fst)] = [(1, 1, List.map vi (out ++ (F x a_2 q).fst))] ∧ Nv.It (RunC (CN 0) PP (fun env σ1 => ResOK PP fRtd env σ1 (tB (rootL F (x :: List.drop (i + 1) (kids a)) (List.drop k (kids b)) q out)) σ0) [KI.lp (sub cRtd [1, 1, 1, 1, 1, 0, 1, 0, 0]), KI.blk 0, KI.code (sub cRtd [1, 1, 1, 1, 1, 1])] (mkE 72 [(2, Nv.di (↑n : Int)), (3, D.v (V.ref (vTr a))), (4, D.v (V.ref (vTr b))), (8, D.acc 1 (List.map vi (out ++ (F x a_2 q).fst))), (9, di (↑(q + size a_2) : Int)), (10, di (↑(k + 1) : Int)), (11, di (↑(i + 1) : Int))]) (oSt (out ++ (F x a_2 q).fst)))) ∧ (decide (IntKind.wrap IntKind.i64 ((↑k : Int) + 1) < (↑(List.length (List.map vt (kids b))) : Int)) = false → (!(F x a_2 q).snd) = false ∧ D.acc 1 (List.map vi out ++ List.map vi (F x a_2 q).fst) = D.acc 1 (List.map vi (out ++ (F x a_2 q).fst)) ∧ Nv.di (IntKind.wrap IntKind.i64 ((↑q : Int) + (↑(List.length (List.map vi (wkL a_2))) : Int))) = di (↑(q + size a_2) : Int) ∧ Nv.di (IntKind.wrap IntKind.i64 ((↑k : Int) + 1)) = di (↑(k + 1) : Int) ∧ Nv.di (IntKind.wrap IntKind.i64 ((↑i : Int) + 1)) = di (↑(i + 1) : Int) ∧ [(1, 1, List.map vi out ++ List.map vi (F x a_2 q).fst)] = [(1, 1, List.map vi (out ++ (F x a_2 q).fst))] ∧ Nv.It (RunC (CN 0) PP (fun env σ1 => ResOK PP fRtd env σ1 (tB (rootL F (x :: List.drop (i + 1) (kids a)) (List.drop k (kids b)) q out)) σ0) [KI.lp (sub cRtd [1, 1, 1, 1, 1, 0, 1, 0, 0]), KI.blk 0, KI.code (sub cRtd [1, 1, 1, 1, 1, 1])] (mkE 72 [(2, Nv.di (↑n : Int)), (3, D.v (V.ref (vTr a))), (4, D.v (V.ref (vTr b))), (8, D.acc 1 (List.map vi (out ++ (F x a_2 q).fst))), (9, di (↑(q + size a_2) : Int)), (10, di (↑(k + 1) : Int)), (11, di (↑(i + 1) : Int))]) (oSt (out ++ (F x a_2 q).fst))))) ∧ ((F x a_2 q).snd = false → 0 ≤ (↑k : Int) ∧ (List.map vt (kids b))[Int.toNat (↑k : Int)]? = some (vTr a_2) ∧ FSpec PP 34 [D.v (vTr a_2)] (St.mk [] []) (dl (wkL a_2)) (St.mk [] []) ∧ Nv.di (IntKind.wrap IntKind.i64 ((↑q : Int) + (↑(List.length (List.map vi (wkL a_2))) : Int))) = di (↑(q + size a_2) : Int) ∧ Nv.di (IntKind.wrap IntKind.i64 ((↑k : Int) + 1)) = di (↑(k + 1) : Int) ∧ db (F x a_2 q).snd = db false ∧ [(1, 1, List.map vi out)] = [(1, 1, List.map vi out)] ∧ Nv.It (RunC (CN 0) PP (fun env σ1 => ResOK PP fRtd env σ1 (tB (rootL F (x :: List.drop (i + 1) (kids a)) (List.drop k (kids b)) q out)) σ0) [KI.lp (sub cRtd [1, 1, 1, 1, 1, 0, 1, 0, 0, 1, 0, 0, 1, 0, 0, 0]), KI.blk 2, KI.code (sub cRtd [1, 1, 1, 1, 1, 0, 1, 0, 0, 1, 0, 0, 1, 1]), KI.blk 1, KI.code (sub cRtd [1, 1, 1, 1, 1, 0, 1, 0, 0, 1, 1]), KI.lp (sub cRtd [1, 1, 1, 1, 1, 0, 1, 0, 0]), KI.blk 0, KI.code (sub cRtd [1, 1, 1, 1, 1, 1])] (mkE 72 [(2, Nv.di (↑n : Int)), (3, D.v (V.ref (vTr a))), (4, D.v (V.ref (vTr b))), (8, D.acc 1 (List.map vi out)), (9, di (↑(q + size a_2) : Int)), (10, di (↑(k + 1) : Int)), (11, Nv.di (↑i : Int)), (12, db false)]) (oSt out)))) ∧ (decide ((↑k : Int) < (↑(List.length (List.map vt (kids b))) : Int)) = false → D.tup [D.v (V.list []), Nv.db false] = tB (rootL F (x :: List.drop (i + 1) (kids a)) (List.drop k (kids b)) q out))) = _) ?_
        refine ⟨fun h => ?_, fun h => ?_⟩
        · have hk : k < b.kids.length := by simpa using h
          have hy : b.kids[k]? = some b.kids[k] := List.getElem?_eq_getElem hk
          rw [szl_at hy] at hq
          rw [List.drop_eq_getElem_cons hk]
          generalize b.kids[k] = y at hy hq ⊢
          have hym := List.mem_of_getElem? hy
          have hys := szl_mem hym
          have hg := (hG x y q hym).2
          have hw := rwalk_spec _ y (Nat.le_refl _) (by omega)
          have hwl : di (IntKind.i64.wrap ((q : Int) + (((wkL y).map vi).length : Int))) = di ((q + y.size : Nat) : Int) := by rw [List.length_map, wkL_length, wadd (by omega)]
          refine ⟨y, by omega, idx_tree hx, by omega, idx_tree hy, hF x y q hym (by omega) (by omega), fun hf => ?_, fun hf => ?_⟩
          · have hacc : List.map vi out ++ List.map vi (F x y q).1 = List.map vi (out ++ (F x y q).1) := by rw [List.map_append]
            rw [rootL_yes hf]
            refine ⟨rfl, lenW (by omega) (by omega), sizes_vi _, by omega, idx_tree hy, hw, fun h2 => ⟨by rw [hf]; rfl, by rw [hf]; rfl, congrArg (D.acc 1) hacc, hwl, wsucc (by omega), wsucc (by omega), by rw [hacc], ⟨?_⟩⟩, fun h2 => ⟨by rw [hf]; rfl, congrArg (D.acc 1) hacc, hwl, wsucc (by omega), wsucc (by omega), by rw [hacc], ⟨?_⟩⟩⟩
            all_goals exact ih (a.kids.length - (i + 1)) (by omega) (i + 1) (k + 1) (q + y.size) (out ++ (F x y q).1) rfl (by omega) (by rw [List.length_append]; omega)
          · rw [rootL_no hf]
            exact ⟨by omega, idx_tree hy, hw, hwl, wsucc (by omega), by rw [hf], rfl, ⟨ihL (b.kids.length - (k + 1)) (by omega) (k + 1) (q + y.size) out rfl (by omega) hout⟩⟩
        · have hk : b.kids.length ≤ k := by simpa using h
          rw [List.drop_of_length_le hk]; rfl
      refine loop_vc mixed 72 [3, 4] (.t <| .ls [ke 2, ke 3, ke 4, ke 8, ke 9, ke 10, ke 11, ch 12 (db false)] (oSt out)) ?_
      refine via (by kernel_rfl : (decide ((↑i : Int) < (↑(List.length (List.map vt (kids a))) : Int)) = true ∧ Nv.db false = db false ∧ [(1, 1, List.map vi out)] = [(1, 1, List.map vi out)] ∧ Nv.It (RunC (CN 0) PP (fun env σ1 => ResOK PP fRtd env σ1 (tB (rootL F (x :: List.drop (i + 1) (kids a)) (List.drop k (kids b)) q out)) σ0) [KI.lp (sub cRtd [1, 1, 1, 1, 1, 0, 1, 0, 0, 1, 0, 0, 1, 0, 0, 0]), KI.blk 2, KI.code (sub cRtd [1, 1, 1, 1, 1, 0, 1, 0, 0, 1, 0, 0, 1, 1]), KI.blk 1, KI.code (sub cRtd [1, 1, 1, 1, 1, 0, 1, 0, 0, 1, 1]), KI.lp (sub cRtd [1, 1, 1, 1, 1, 0, 1, 0, 0]), KI.blk 0, KI.code (sub cRtd [1, 1, 1, 1, 1, 1])] (mkE 72 [(2, Nv.di (↑n : Int)), (3, D.v (V.ref (vTr a))), (4, D.v (V.ref (vTr b))), (8, D.acc 1 (List.map vi out)), (9, Nv.di (↑q : Int)), (10, Nv.di (↑k : Int)), (11, Nv.di (↑i : Int)), (12, db false)]) (oSt out))) = _) ?_
      exact ⟨by simpa using hi, rfl, rfl, ⟨inner _ k q out rfl hq hout⟩⟩
    · refine loop_vc mixed 72 [3, 4] (.f <| .r) ?_
      refine via (by kernel_rfl : (decide ((↑i : Int) < (↑(List.length (List.map vt (kids a))) : Int)) = false ∧ D.tup [D.v (V.list (List.map vi out)), Nv.db true] = tB (rootL F (List.drop i (kids a)) (List.drop k (kids b)) q out)) = _) ?_
      have hi : a.kids.length ≤ i := by omega
      rw [List.drop_of_length_le hi]
      exact ⟨by simpa using hi, by cases b.kids.drop k <;> rfl⟩
  refine spec_vc mixed fRtd cRtd (by kernel_rfl) (by kernel_rfl) (by kernel_rfl) (by kernel_rfl) 72 (by kernel_rfl) [3, 4] (.b .r (.a 1 <| .ls [ke 2, ke 3, ke 4, ch 8 (.acc 1 ([(n : Int)].map vi)), ch 9 (di ((n + 1 : Nat) : Int)), ch 10 (di (0 : Nat)), ch 11 (di (0 : Nat))] (oSt [(n : Int)]))) ?_
  refine via (by kernel_rfl : (((lab a != lab b) = true → D.tup [D.v (V.list []), Nv.db false] = tB (rootM F a b n)) ∧ ((lab a != lab b) = false → D.acc 1 [Nv.vi (↑n : Int)] = D.acc 1 [vi (↑n : Int)] ∧ Nv.di (IntKind.wrap IntKind.i64 ((↑n : Int) + 1)) = di (↑(n + 1) : Int) ∧ Nv.di 0 = di (↑0 : Int) ∧ Nv.di 0 = di (↑0 : Int) ∧ [(1, 1, Nv.vi (↑n : Int) :: nV)] = [(1, 1, vi (↑n : Int) :: nV)] ∧ Nv.It (RunC (CN (List.length σ0.H)) PP (fun env σ1 => ResOK PP fRtd env σ1 (tB (rootM F a b n)) σ0) [KI.lp (sub cRtd [1, 1, 1, 1, 1, 0, 1, 0, 0]), KI.blk 0, KI.code (sub cRtd [1, 1, 1, 1, 1, 1])] (mkE 72 [(2, di (↑n : Int)), (3, D.v (V.ref (V.agg [vi (lab a), vtl (kids a)]))), (4, D.v (V.ref (V.agg [vi (lab b), vtl (kids b)]))), (8, D.acc 1 [vi (↑n : Int)]), (9, di (↑(n + 1) : Int)), (10, di (↑0 : Int)), (11, di (↑0 : Int))]) (oSt [(↑n : Int)])))) = _) ?_
  refine ⟨fun h => ?_, fun h => ⟨rfl, wsucc (by omega), rfl, rfl, rfl, ⟨?_⟩⟩⟩
  · have h : a.lab ≠ b.lab := by simpa using h
    simp only [rootM, if_neg h]; rfl
  · have h : a.lab = b.lab := by simpa using h
    simp only [rootM, if_pos h]
    have := loop _ 0 0 (n + 1) [(n : Int)] rfl (by rw [List.drop_zero]; omega) (by rw [List.drop_zero, List.length_singleton]; omega)
    rw [List.drop_zero, List.drop_zero] at this
    exact this
noncomputable abbrev fIns : Func := Try.f35
noncomputable def cIns : Code := fIns.body.getD .skip
theorem rins_spec (f : Nat) : ∀ (a b : Tr) (n : Nat), b.size ≤ f → a.size ≤ 1000000 → n + b.size ≤ 1000000 →
    FSpec PP 35 [dt a, dt b, di (n : Int)] σ0 (tB (insM f a b n)) σ0 := by
  induction f with
  | zero => intro a b n h; have := size_pos b; omega
  | succ f ihf =>
    intro a b n h ha hb
    have hzb := size_eq b
    have hlb := szl_len b.kids
    have hF : InsF (insM f) b.kids := fun a k n hk h1 h2 => ihf a k n (by have := szl_mem hk; omega) h1 h2
    have hG : GoodF (insM f) b.kids := fun a k n hk => insM_ok f a k n (by have := szl_mem hk; omega)
    have hR := rtd_spec (insM f) a b n ha hb hF hG
    have loop (M : Nat) : ∀ (k q : Nat), b.kids.length - k = M → q + szl (b.kids.drop k) ≤ 1000000 →
        Rn PP fIns 0 (tB (insL (insM f) a (b.kids.drop k) q)) σ0 ([.lp (sub cIns [1, 1, 1, 0, 1, 0, 0]), .blk 0, .code (sub cIns [1, 1, 1, 1])] ++ []) (mkE 54 [(2, di (n : Int)), (3, .v (.ref (vTr a))), (4, .v (.ref (vTr b))), (10, di (q : Int)), (11, di (k : Int))]) σ0 := by
      induction M using Nat.strongRecOn with
      | _ M ih =>
      intro k q hM hq
      refine loop_vc mixed 54 [3, 4] (.b (.e fun y : Tr => .x (vTr y) <| .c (tB (insM f a y q)) <| .b .r (.x (vTr y) <| .c (dl (wkL y)) <| .l [ke 2, ke 3, ke 4, ch 10 (di ((q + y.size : Nat) : Int)), ch 11 (di (k + 1 : Nat))])) .r) ?_
      refine via (by kernel_rfl : ((decide ((↑k : Int) < (↑(List.length (List.map vt (kids b))) : Int)) = true → ∃ a_2, 0 ≤ (↑k : Int) ∧ (List.map vt (kids b))[Int.toNat (↑k : Int)]? = some (vTr a_2) ∧ FSpec PP 35 [D.v (vTr a), D.v (vTr a_2), Nv.di (↑q : Int)] (St.mk [] []) (tB (insM f a a_2 q)) (St.mk [] []) ∧ ((insM f a a_2 q).snd = true → D.tup [D.v (V.list (List.map vi (insM f a a_2 q).fst)), Nv.db true] = tB (insL (insM f) a (List.drop k (kids b)) q)) ∧ ((insM f a a_2 q).snd = false → 0 ≤ (↑k : Int) ∧ (List.map vt (kids b))[Int.toNat (↑k : Int)]? = some (vTr a_2) ∧ FSpec PP 34 [D.v (vTr a_2)] (St.mk [] []) (dl (wkL a_2)) (St.mk [] []) ∧ Nv.di (IntKind.wrap IntKind.i64 ((↑q : Int) + (↑(List.length (List.map vi (wkL a_2))) : Int))) = di (↑(q + size a_2) : Int) ∧ Nv.di (IntKind.wrap IntKind.i64 ((↑k : Int) + 1)) = di (↑(k + 1) : Int) ∧ Nv.It (RunC (CN 0) PP (fun env σ1 => ResOK PP fIns env σ1 (tB (insL (insM f) a (List.drop k (kids b)) q)) σ0) [KI.lp (sub cIns [1, 1, 1, 0, 1, 0, 0]), KI.blk 0, KI.code (sub cIns [1, 1, 1, 1])] (mkE 54 [(2, Nv.di (↑n : Int)), (3, D.v (V.ref (vTr a))), (4, D.v (V.ref (vTr b))), (10, di (↑(q + size a_2) : Int)), (11, di (↑(k + 1) : Int))]) (St.mk [] [])))) ∧ (decide ((↑k : Int) < (↑(List.length (List.map vt (kids b))) : Int)) = false → D.tup [D.v (V.list []), Nv.db false] = tB (insL (insM f) a (List.drop k (kids b)) q))) = _) ?_
      refine ⟨fun h => ?_, fun h => ?_⟩
      · have hk : k < b.kids.length := by simpa using h
        have hy : b.kids[k]? = some b.kids[k] := List.getElem?_eq_getElem hk
        rw [szl_at hy] at hq
        rw [List.drop_eq_getElem_cons hk]
        generalize b.kids[k] = y at hy hq ⊢
        have hym := List.mem_of_getElem? hy
        have hys := szl_mem hym
        have hw := rwalk_spec _ y (Nat.le_refl _) (by omega)
        have hwl : di (IntKind.i64.wrap ((q : Int) + (((wkL y).map vi).length : Int))) = di ((q + y.size : Nat) : Int) := by rw [List.length_map, wkL_length, wadd (by omega)]
        refine ⟨y, by omega, idx_tree hy, hF a y q hym ha (by omega), fun hf => ?_, fun hf => ?_⟩
        · rw [insL_yes hf]
        · rw [insL_no hf]
          exact ⟨by omega, idx_tree hy, hw, hwl, wsucc (by omega), ⟨ih (b.kids.length - (k + 1)) (by omega) (k + 1) (q + y.size) rfl (by omega)⟩⟩
      · have hk : b.kids.length ≤ k := by simpa using h
        rw [List.drop_of_length_le hk]; rfl
    refine spec_vc mixed fIns cIns (by kernel_rfl) (by kernel_rfl) (by kernel_rfl) (by kernel_rfl) 54 (by kernel_rfl) [3, 4] (.c (tB (rootM (insM f) a b n)) <| .b .r (.l [ke 2, ke 3, ke 4, ch 10 (di ((n + 1 : Nat) : Int)), ch 11 (di (0 : Nat))])) ?_
    refine via (by kernel_rfl : (FSpec PP 50 [D.v (V.agg [vi (lab a), vtl (kids a)]), D.v (V.agg [vi (lab b), vtl (kids b)]), Nv.di (↑n : Int)] (St.mk [] []) (tB (rootM (insM f) a b n)) (St.mk [] []) ∧ ((rootM (insM f) a b n).snd = true → D.tup [D.v (V.list (List.map vi (rootM (insM f) a b n).fst)), Nv.db true] = tB (insM (f + 1) a b n)) ∧ ((rootM (insM f) a b n).snd = false → Nv.di (IntKind.wrap IntKind.i64 ((↑n : Int) + 1)) = di (↑(n + 1) : Int) ∧ Nv.di 0 = di (↑0 : Int) ∧ Nv.It (RunC (CN (List.length σ0.H)) PP (fun env σ1 => ResOK PP fIns env σ1 (tB (insM (f + 1) a b n)) σ0) [KI.lp (sub cIns [1, 1, 1, 0, 1, 0, 0]), KI.blk 0, KI.code (sub cIns [1, 1, 1, 1])] (mkE 54 [(2, di (↑n : Int)), (3, D.v (V.ref (V.agg [vi (lab a), vtl (kids a)]))), (4, D.v (V.ref (V.agg [vi (lab b), vtl (kids b)]))), (10, di (↑(n + 1) : Int)), (11, di (↑0 : Int))]) σ0))) = _) ?_
    refine ⟨hR, fun h => ?_, fun h => ⟨wsucc (by omega), rfl, ⟨?_⟩⟩⟩
    · rw [insM_yes h]
    · rw [insM_no h]
      have := loop _ 0 (n + 1) rfl (by rw [List.drop_zero]; omega)
      rw [List.drop_zero] at this
      exact this
noncomputable abbrev fEmb4 : Func := Try.f20
noncomputable def cEmb4 : Code := fEmb4.body.getD .skip
theorem rembed_spec (a b : Tr) (ha : a.size ≤ 1000000) (hb : b.size ≤ 1000000) : FSpec PP 20 [dt a, dt b] σ0 (tB (embR a b)) σ0 := by
  refine spec_vc mixed fEmb4 cEmb4 (by kernel_rfl) (by kernel_rfl) (by kernel_rfl) (by kernel_rfl) 19 (by kernel_rfl) [2, 3] (.c (db (validT a)) <| .b (.k .r) (.c (db (validT b)) <| .b .r (.c (tB (insM b.size a b 0)) .r))) ?_
  refine via (by kernel_rfl : (FSpec PP 10 [D.v (V.agg [vi (lab a), vtl (kids a)])] (St.mk [] []) (db (validT a)) (St.mk [] []) ∧ ((!validT a) = true → D.tup [D.v (V.list []), Nv.db false] = tB (embR a b)) ∧ ((!validT a) = false → FSpec PP 10 [D.v (V.agg [vi (lab b), vtl (kids b)])] (St.mk [] []) (db (validT b)) (St.mk [] []) ∧ ((!validT b) = true → D.tup [D.v (V.list []), Nv.db false] = tB (embR a b)) ∧ ((!validT b) = false → FSpec PP 35 [D.v (V.agg [vi (lab a), vtl (kids a)]), D.v (V.agg [vi (lab b), vtl (kids b)]), Nv.di 0] (St.mk [] []) (tB (insM (size b) a b 0)) (St.mk [] []) ∧ D.tup [D.v (V.list (List.map vi (insM (size b) a b 0).fst)), Nv.db (insM (size b) a b 0).snd] = tB (embR a b)))) = _) ?_
  refine ⟨rvalid_spec a ha, fun h => ?_, fun h => ⟨rvalid_spec b hb, fun h2 => ?_, fun h2 => ⟨rins_spec _ a b 0 (Nat.le_refl _) ha (by omega), ?_⟩⟩⟩
  all_goals simp only [Bool.not_eq_true', Bool.not_eq_false'] at h
  · simp only [embR, h, Bool.false_and, Bool.false_eq_true, if_false]; rfl
  · simp only [Bool.not_eq_true'] at h2
    simp only [embR, h, h2, Bool.true_and, Bool.false_eq_true, if_false]; rfl
  · simp only [Bool.not_eq_false'] at h2
    simp only [embR, h, h2, Bool.true_and, if_true]
noncomputable abbrev fLeq4 : Func := Try.f14
noncomputable def cLeq4 : Code := fLeq4.body.getD .skip
theorem rleq_spec (a b : Tr) (ha : a.size ≤ 1000000) (hb : b.size ≤ 1000000) : FSpec PP 14 [dt a, dt b] σ0 (db (embR a b).2) σ0 := by
  refine spec_vc mixed fLeq4 cLeq4 (by kernel_rfl) (by kernel_rfl) (by kernel_rfl) (by kernel_rfl) 14 (by kernel_rfl) [2, 3] (.c (tB (embR a b)) .r) ?_
  refine via (by kernel_rfl : (FSpec PP 20 [D.v (V.agg [vi (lab a), vtl (kids a)]), D.v (V.agg [vi (lab b), vtl (kids b)])] (St.mk [] []) (tB (embR a b)) (St.mk [] []) ∧ Nv.db (embR a b).snd = db (embR a b).snd) = _) ?_
  exact ⟨rembed_spec a b ha hb, rfl⟩
end Go.Proofs.Ytaceggcohmmfhaa

namespace Go.Proofs.Ytaceggcohmmfhaa
open Go.Dv Go.Nv Tr
set_option maxRecDepth 20000
noncomputable abbrev fNod : Func := Try.f52
noncomputable def cNod : Code := fNod.body.getD .skip
abbrev zSt : St := ⟨[some [di 0, .v .nils]], []⟩
theorem rnode_spec (N : Nat) : ∀ (t s : Tr) (n : Nat), t.size ≤ N → t.size ≤ 1000000 → (fl t)[n]? = some s → FSpec PP 52 [dt t, di (n : Int)] σ0 (dt s) σ0 := by
  induction N with
  | zero => intro t s n h; have := size_pos t; omega
  | succ N ihN =>
    intro t s n ht ht1 hs
    have hsz := size_eq t
    have hlen := szl_len t.kids
    have hn : n < t.size := by rw [← fl_length]; exact (List.getElem?_eq_some_iff.1 hs).1
    have loop (M : Nat) : ∀ (k m : Nat), t.kids.length - k = M → (fls (t.kids.drop k))[m]? = some s → m ≤ 1000000 →
        Rn PP fNod 0 (dt s) σ0 ([.lp (sub cNod [1, 1, 1, 0, 1, 0, 0]), .blk 0, .code (sub cNod [1, 1, 1, 1])] ++ []) (mkE 40 [(1, di (m : Int)), (2, .v (.ref (vTr t))), (4, .ptr 0 0), (5, di (k : Int))]) zSt := by
      induction M using Nat.strongRecOn with
      | _ M ih =>
      intro k m hM hm hm1
      by_cases hk : k < t.kids.length
      · have hx : t.kids[k]? = some t.kids[k] := List.getElem?_eq_getElem hk
        rw [List.drop_eq_getElem_cons hk] at hm
        generalize t.kids[k] = x at hx hm
        have hxs := szl_mem (List.mem_of_getElem? hx)
        have hw := rwalk_spec _ x (Nat.le_refl _) (by omega)
        simp only [fls] at hm
        refine loop_vc mixed 40 [2] (.t <| .x (vTr x) <| .c (dl (wkL x)) <| .b (.x (vTr x) <| .c (dt s) <| .r) (.lo [ch 1 (di ((m - x.size : Nat) : Int)), ke 2, ke 4, ch 5 (di (k + 1 : Nat))] zSt)) ?_
        refine via (by kernel_rfl : (decide ((↑k : Int) < (↑(List.length (List.map vt (kids t))) : Int)) = true ∧ 0 ≤ (↑k : Int) ∧ (List.map vt (kids t))[Int.toNat (↑k : Int)]? = some (vTr x) ∧ FSpec PP 34 [D.v (vTr x)] (St.mk [] []) (dl (wkL x)) (St.mk [] []) ∧ (decide ((↑m : Int) < (↑(List.length (List.map vi (wkL x))) : Int)) = true → 0 ≤ (↑k : Int) ∧ (List.map vt (kids t))[Int.toNat (↑k : Int)]? = some (vTr x) ∧ FSpec PP 52 [D.v (vTr x), Nv.di (↑m : Int)] (St.mk [] []) (dt s) (St.mk [] []) ∧ D.v (V.agg [Nv.vi (lab s), V.list (List.map vt (kids s))]) = dt s) ∧ (decide ((↑m : Int) < (↑(List.length (List.map vi (wkL x))) : Int)) = false → Nv.di (IntKind.wrap IntKind.i64 ((↑m : Int) - (↑(List.length (List.map vi (wkL x))) : Int))) = di (↑(m - size x) : Int) ∧ Nv.di (IntKind.wrap IntKind.i64 ((↑k : Int) + 1)) = di (↑(k + 1) : Int) ∧ okH 1 [] [some [di 0, D.v V.nils]] = true ∧ [some [di 0, D.v V.nils]] = [some [di 0, D.v V.nils]] ∧ Nv.It (RunC (CN 0) PP (fun env σ1 => ResOK PP fNod env σ1 (dt s) σ0) [KI.lp (sub cNod [1, 1, 1, 0, 1, 0, 0]), KI.blk 0, KI.code (sub cNod [1, 1, 1, 1])] (mkE 40 [(1, di (↑(m - size x) : Int)), (2, D.v (V.ref (vTr t))), (4, D.ptr 0 0), (5, di (↑(k + 1) : Int))]) zSt))) = _) ?_
        refine ⟨by simpa using hk, by omega, idx_tree hx, hw, fun h => ?_, fun h => ⟨?_, wsucc (by omega), rfl, rfl, ⟨?_⟩⟩⟩
        · have h : m < x.size := by simpa [wkL_length] using h
          rw [List.getElem?_append_left (by rw [fl_length]; exact h)] at hm
          exact ⟨by omega, idx_tree hx, ihN x s m (by omega) (by omega) hm, rfl⟩
        · have h : x.size ≤ m := by simpa [wkL_length] using h
          rw [List.length_map, wkL_length, wrap_id (by omega) (by omega)]
          congr 3; omega
        · have h : x.size ≤ m := by simpa [wkL_length] using h
          rw [List.getElem?_append_right (by rw [fl_length]; exact h), fl_length] at hm
          exact ih (t.kids.length - (k + 1)) (by omega) (k + 1) (m - x.size) rfl hm (by omega)
      · rw [List.drop_of_length_le (by omega)] at hm
        simp [fls] at hm
    refine spec_vc mixed fNod cNod (by kernel_rfl) (by kernel_rfl) (by kernel_rfl) (by kernel_rfl) 40 (by kernel_rfl) [2] (.b .r (.lo [ch 1 (di ((n - 1 : Nat) : Int)), ke 2, ke 4, ch 5 (di (0 : Nat))] zSt)) ?_
    refine via (by kernel_rfl : ((((↑n : Int) == 0) = true → D.v (V.agg [Nv.vi (lab t), V.list (List.map vt (kids t))]) = dt s) ∧ (((↑n : Int) == 0) = false → Nv.di (IntKind.wrap IntKind.i64 ((↑n : Int) - 1)) = di (↑(n - 1) : Int) ∧ Nv.di 0 = di (↑0 : Int) ∧ okH 1 [] [some [Nv.di 0, D.v V.nils]] = true ∧ [some [Nv.di 0, D.v V.nils]] = [some [di 0, D.v V.nils]] ∧ Nv.It (RunC (CN (List.length σ0.H)) PP (fun env σ1 => ResOK PP fNod env σ1 (dt s) σ0) [KI.lp (sub cNod [1, 1, 1, 0, 1, 0, 0]), KI.blk 0, KI.code (sub cNod [1, 1, 1, 1])] (mkE 40 [(1, di (↑(n - 1) : Int)), (2, D.v (V.ref (V.agg [vi (lab t), vtl (kids t)]))), (4, D.ptr 0 0), (5, di (↑0 : Int))]) zSt))) = _) ?_
    rw [fl_eq] at hs
    refine ⟨fun h => ?_, fun h => ?_⟩
    · have h : n = 0 := by simpa using h
      subst h
      simp at hs
      subst hs; rfl
    · have h : n ≠ 0 := by simpa using h
      obtain ⟨n, rfl⟩ := Nat.exists_eq_succ_of_ne_zero h
      refine ⟨by rw [wrap_id (by omega) (by omega)]; congr 2; omega, rfl, rfl, rfl, ⟨?_⟩⟩
      exact loop _ 0 n rfl (by rw [List.drop_zero]; simpa using hs) (by omega)
theorem chM_no {q k : Nat} {w : Int} {x : Tr} {ks : List Tr} (h : ¬ ((q : Int) ≤ w ∧ w < ((q + x.size : Nat) : Int))) : chM q w (x :: ks) k = chM (q + x.size) w ks (k + 1) := by simp only [chM]; rw [if_neg h]
theorem fl_size {b s : Tr} {v : Nat} (h : (fl b)[v]? = some s) : v + s.size ≤ b.size := by
  obtain ⟨pre, post, e, el⟩ := fl_sub b v s h
  have := congrArg List.length e
  rw [List.length_append, List.length_append, fl_length, fl_length, el] at this
  omega
noncomputable abbrev fChd : Func := Try.f53
noncomputable def cChd : Code := fChd.body.getD .skip
theorem rchild_spec (t : Tr) (v : Nat) (w : Int) (ht : v + t.size ≤ 2000000) (ht1 : t.size ≤ 1000000) : FSpec PP 53 [dt t, di (v : Int), di w] σ0 (di (chM (v + 1) w t.kids 0)) σ0 := by
  have hsz := size_eq t
  have hlen := szl_len t.kids
  have loop (M : Nat) : ∀ (k q : Nat), t.kids.length - k = M → q + szl (t.kids.drop k) ≤ 2000000 →
      Rn PP fChd 0 (di (chM q w (t.kids.drop k) k)) σ0 ([.lp (sub cChd [1, 1, 0, 1, 0, 0]), .blk 0, .code (sub cChd [1, 1, 1])] ++ []) (mkE 40 [(2, di w), (3, .v (.ref (vTr t))), (7, di (q : Int)), (8, di (k : Int))]) σ0 := by
    induction M using Nat.strongRecOn with
    | _ M ih =>
    intro k q hM hq
    refine loop_vc mixed 40 [3] (.b (.e fun x : Tr => .x (vTr x) <| .c (dl (wkL x)) <| .b (.b .r (.l [ke 2, ke 3, ch 7 (di ((q + x.size : Nat) : Int)), ch 8 (di (k + 1 : Nat))])) (.k <| .l [ke 2, ke 3, ch 7 (di ((q + x.size : Nat) : Int)), ch 8 (di (k + 1 : Nat))])) .r) ?_
    refine via (by kernel_rfl : ((decide ((↑k : Int) < (↑(List.length (List.map vt (kids t))) : Int)) = true → ∃ a, 0 ≤ (↑k : Int) ∧ (List.map vt (kids t))[Int.toNat (↑k : Int)]? = some (vTr a) ∧ FSpec PP 34 [D.v (vTr a)] (St.mk [] []) (dl (wkL a)) (St.mk [] []) ∧ (decide (w ≥ (↑q : Int)) = true → (decide (w < IntKind.wrap IntKind.i64 ((↑q : Int) + (↑(List.length (List.map vi (wkL a))) : Int))) = true → Nv.di (↑k : Int) = di (chM q w (List.drop k (kids t)) k)) ∧ (decide (w < IntKind.wrap IntKind.i64 ((↑q : Int) + (↑(List.length (List.map vi (wkL a))) : Int))) = false → Nv.di (IntKind.wrap IntKind.i64 ((↑q : Int) + (↑(List.length (List.map vi (wkL a))) : Int))) = di (↑(q + size a) : Int) ∧ Nv.di (IntKind.wrap IntKind.i64 ((↑k : Int) + 1)) = di (↑(k + 1) : Int) ∧ Nv.It (RunC (CN 0) PP (fun env σ1 => ResOK PP fChd env σ1 (di (chM q w (List.drop k (kids t)) k)) σ0) [KI.lp (sub cChd [1, 1, 0, 1, 0, 0]), KI.blk 0, KI.code (sub cChd [1, 1, 1])] (mkE 40 [(2, Nv.di w), (3, D.v (V.ref (vTr t))), (7, di (↑(q + size a) : Int)), (8, di (↑(k + 1) : Int))]) σ0))) ∧ (decide (w ≥ (↑q : Int)) = false → Nv.di (IntKind.wrap IntKind.i64 ((↑q : Int) + (↑(List.length (List.map vi (wkL a))) : Int))) = di (↑(q + size a) : Int) ∧ Nv.di (IntKind.wrap IntKind.i64 ((↑k : Int) + 1)) = di (↑(k + 1) : Int) ∧ Nv.It (RunC (CN 0) PP (fun env σ1 => ResOK PP fChd env σ1 (di (chM q w (List.drop k (kids t)) k)) σ0) [KI.lp (sub cChd [1, 1, 0, 1, 0, 0]), KI.blk 0, KI.code (sub cChd [1, 1, 1])] (mkE 40 [(2, Nv.di w), (3, D.v (V.ref (vTr t))), (7, di (↑(q + size a) : Int)), (8, di (↑(k + 1) : Int))]) σ0))) ∧ (decide ((↑k : Int) < (↑(List.length (List.map vt (kids t))) : Int)) = false → Nv.di (-1) = di (chM q w (List.drop k (kids t)) k))) = _) ?_
    refine ⟨fun h => ?_, fun h => ?_⟩
    · have hk : k < t.kids.length := by simpa using h
      have hx : t.kids[k]? = some t.kids[k] := List.getElem?_eq_getElem hk
      rw [szl_at hx] at hq
      rw [List.drop_eq_getElem_cons hk]
      generalize t.kids[k] = x at hx hq ⊢
      have hxs := szl_mem (List.mem_of_getElem? hx)
      have hw := rwalk_spec _ x (Nat.le_refl _) (by omega)
      have hwl : IntKind.i64.wrap ((q : Int) + (((wkL x).map vi).length : Int)) = ((q + x.size : Nat) : Int) := by rw [List.length_map, wkL_length, wadd (by omega)]
      have go := ih (t.kids.length - (k + 1)) (by omega) (k + 1) (q + x.size) rfl (by omega)
      refine ⟨x, ?_⟩
      rw [hwl]
      refine ⟨by omega, idx_tree hx, hw, fun h1 => ⟨fun h2 => ?_, fun h2 => ?_⟩, fun h1 => ?_⟩
      · have h1 := of_decide_eq_true h1
        have h2 := of_decide_eq_true h2
        simp only [chM]; rw [if_pos ⟨h1, h2⟩]
      · have h2 := of_decide_eq_false h2
        rw [chM_no (fun e => h2 e.2)]
        exact ⟨rfl, wsucc (by omega), ⟨go⟩⟩
      · have h1 := of_decide_eq_false h1
        rw [chM_no (fun e => h1 e.1)]
        exact ⟨rfl, wsucc (by omega), ⟨go⟩⟩
    · have hk : t.kids.length ≤ k := by simpa using h
      rw [List.drop_of_length_le hk]; rfl
  refine spec_vc mixed fChd cChd (by kernel_rfl) (by kernel_rfl) (by kernel_rfl) (by kernel_rfl) 40 (by kernel_rfl) [3] (.l [ke 2, ke 3, ch 7 (di ((v + 1 : Nat) : Int)), ch 8 (di (0 : Nat))]) ?_
  refine via (by kernel_rfl : (Nv.di (IntKind.wrap IntKind.i64 ((↑v : Int) + 1)) = di (↑(v + 1) : Int) ∧ Nv.di 0 = di (↑0 : Int) ∧ Nv.It (RunC (CN (List.length σ0.H)) PP (fun env σ1 => ResOK PP fChd env σ1 (di (chM (v + 1) w (kids t) 0)) σ0) [KI.lp (sub cChd [1, 1, 0, 1, 0, 0]), KI.blk 0, KI.code (sub cChd [1, 1, 1])] (mkE 40 [(2, di w), (3, D.v (V.ref (V.agg [vi (lab t), vtl (kids t)]))), (7, di (↑(v + 1) : Int)), (8, di (↑0 : Int))]) σ0)) = _) ?_
  refine ⟨wsucc (by omega), rfl, ⟨?_⟩⟩
  have := loop _ 0 (v + 1) rfl (by rw [List.drop_zero]; omega)
  rw [List.drop_zero] at this
  exact this
noncomputable abbrev fRgt : Func := Try.f38
noncomputable def cRgt : Code := fRgt.body.getD .skip
abbrev InR (b : Tr) (l : List Int) (i : Nat) : Prop := ∃ v : Nat, l[i]? = some (v : Int) ∧ v < b.size
abbrev imSt (s : Tr) : St := ⟨[some [di s.lab, .v (vtl s.kids)]], []⟩
theorem rright_spec (b : Tr) (l : List Int) (A : Nat) (hb : b.size ≤ 1000000) (hA : A ≤ 1000000) (hr : ∀ i, i < A → InR b l i) (N : Nat) : ∀ (a : Tr) (x : Nat), a.size ≤ N → x + a.size ≤ A →
    FSpec PP 38 [dt a, di (x : Int), dt b, dl l] σ0 (db (rgT b l a x)) σ0 := by
  induction N with
  | zero => intro a x h; have := size_pos a; omega
  | succ N ihN =>
    intro a x hN hx
    have hsz := size_eq a
    have hlen := szl_len a.kids
    obtain ⟨v, hv, hvb⟩ := hr x (by omega)
    obtain ⟨s, hs⟩ := get_ex (a := fl b) (i := v) (by rw [fl_length]; exact hvb)
    have hg : l.getD x 0 = (v : Int) := by rw [List.getD_eq_getElem?_getD, hv]; rfl
    have hss := fl_size hs
    have hnode := rnode_spec _ b s v (Nat.le_refl _) hb hs
    rw [rgT_eq, hg, Int.toNat_natCast, hs]
    have loop (M : Nat) : ∀ (k q : Nat) (last : Int), a.kids.length - k = M → q + szl (a.kids.drop k) ≤ A →
        Rn PP fRgt 0 (db (rgL b l s v (a.kids.drop k) last q)) σ0 ([.lp (sub cRgt [1, 1, 1, 1, 1, 0, 1, 0, 0]), .blk 0, .code (sub cRgt [1, 1, 1, 1, 1, 1])] ++ []) (mkE 69 [(1, di (x : Int)), (3, dl l), (4, .v (.ref (vTr a))), (6, .v (.ref (vTr b))), (9, .ptr 0 0), (10, di last), (11, di (q : Int)), (12, di (k : Int))]) (imSt s) := by
      induction M using Nat.strongRecOn with
      | _ M ih =>
      intro k q last hM hq
      by_cases hk : k < a.kids.length
      · have hy : a.kids[k]? = some a.kids[k] := List.getElem?_eq_getElem hk
        rw [szl_at hy] at hq
        rw [List.drop_eq_getElem_cons hk]
        generalize a.kids[k] = y at hy hq ⊢
        have hym := List.mem_of_getElem? hy
        have hys := szl_mem hym
        have hyp := size_pos y
        have hw := rwalk_spec _ y (Nat.le_refl _) (by omega)
        obtain ⟨w, hw1, hw2⟩ := hr q (by omega)
        have hgq : l.getD q 0 = (w : Int) := by rw [List.getD_eq_getElem?_getD, hw1]; rfl
        simp only [rgL, hgq]
        generalize hc : chM (v + 1) (w : Int) s.kids 0 = c
        refine loop_vc mixed 69 [4, 6] (.t <| .x (vi v) <| .x (vi w) <| .c (di c) <| .b (.k <| .r) (.x (vTr y) <| .c (db (rgT b l y q)) <| .b .r (.x (vTr y) <| .c (dl (wkL y)) <| .lo [ke 1, ke 3, ke 4, ke 6, ke 9, ch 10 (di c), ch 11 (di ((q + y.size : Nat) : Int)), ch 12 (di (k + 1 : Nat))] (imSt s)))) ?_
        refine via (by kernel_rfl : (decide ((↑k : Int) < (↑(List.length (List.map vt (kids a))) : Int)) = true ∧ 0 ≤ (↑x : Int) ∧ (List.map vi l)[Int.toNat (↑x : Int)]? = some (vi (↑v : Int)) ∧ 0 ≤ (↑q : Int) ∧ (List.map vi l)[Int.toNat (↑q : Int)]? = some (vi (↑w : Int)) ∧ FSpec PP 53 [D.v (V.agg [Nv.vi (lab s), vtl (kids s)]), D.v (vi (↑v : Int)), D.v (vi (↑w : Int))] (St.mk [] []) (di c) (St.mk [] []) ∧ (True ∧ True) ∧ (decide (c ≤ last) = true → Nv.db false = db (decide (last < c) && rgT b l y q && rgL b l s v (List.drop (k + 1) (kids a)) c (q + size y))) ∧ (decide (c ≤ last) = false → 0 ≤ (↑k : Int) ∧ (List.map vt (kids a))[Int.toNat (↑k : Int)]? = some (vTr y) ∧ FSpec PP 38 [D.v (vTr y), Nv.di (↑q : Int), D.v (vTr b), D.v (V.list (List.map vi l))] (St.mk [] []) (db (rgT b l y q)) (St.mk [] []) ∧ ((!rgT b l y q) = true → Nv.db false = db (decide (last < c) && rgT b l y q && rgL b l s v (List.drop (k + 1) (kids a)) c (q + size y))) ∧ ((!rgT b l y q) = false → 0 ≤ (↑k : Int) ∧ (List.map vt (kids a))[Int.toNat (↑k : Int)]? = some (vTr y) ∧ FSpec PP 34 [D.v (vTr y)] (St.mk [] []) (dl (wkL y)) (St.mk [] []) ∧ di c = di c ∧ Nv.di (IntKind.wrap IntKind.i64 ((↑q : Int) + (↑(List.length (List.map vi (wkL y))) : Int))) = di (↑(q + size y) : Int) ∧ Nv.di (IntKind.wrap IntKind.i64 ((↑k : Int) + 1)) = di (↑(k + 1) : Int) ∧ okH 1 [] [some [di (lab s), D.v (vtl (kids s))]] = true ∧ [some [di (lab s), D.v (vtl (kids s))]] = [some [di (lab s), D.v (vtl (kids s))]] ∧ Nv.It (RunC (CN 0) PP (fun env σ1 => ResOK PP fRgt env σ1 (db (decide (last < c) && rgT b l y q && rgL b l s v (List.drop (k + 1) (kids a)) c (q + size y))) σ0) [KI.lp (sub cRgt [1, 1, 1, 1, 1, 0, 1, 0, 0]), KI.blk 0, KI.code (sub cRgt [1, 1, 1, 1, 1, 1])] (mkE 69 [(1, Nv.di (↑x : Int)), (3, D.v (V.list (List.map vi l))), (4, D.v (V.ref (vTr a))), (6, D.v (V.ref (vTr b))), (9, D.ptr 0 0), (10, di c), (11, di (↑(q + size y) : Int)), (12, di (↑(k + 1) : Int))]) (imSt s))))) = _) ?_
        have hcd : FSpec PP 53 [dt s, di (v : Int), di (w : Int)] σ0 (di c) σ0 := by
          rw [← hc]; exact rchild_spec s v w (by omega) (by omega)
        have hwl : di (IntKind.i64.wrap ((q : Int) + (((wkL y).map vi).length : Int))) = di ((q + y.size : Nat) : Int) := by rw [List.length_map, wkL_length, wadd (by omega)]
        refine ⟨by simpa using hk, by omega, idx_some hv, by omega, idx_some hw1, hcd, ⟨trivial, trivial⟩, fun h => ?_, fun h => ?_⟩
        · have h := of_decide_eq_true h
          rw [decide_eq_false (by omega : ¬ last < c)]; rfl
        · have h := of_decide_eq_false h
          rw [decide_eq_true (by omega : last < c), Bool.true_and]
          refine ⟨by omega, idx_tree hy, ihN y q (by omega) (by omega), fun h2 => ?_, fun h2 => ?_⟩
          · have h2 : rgT b l y q = false := by simpa using h2
            rw [h2]; rfl
          · have h2 : rgT b l y q = true := by simpa using h2
            rw [h2, Bool.true_and]
            exact ⟨by omega, idx_tree hy, hw, rfl, hwl, wsucc (by omega), rfl, rfl, ⟨ih (a.kids.length - (k + 1)) (by omega) (k + 1) (q + y.size) c rfl (by omega)⟩⟩
      · refine loop_vc mixed 69 [4, 6] (.f <| .r) ?_
        refine via (by kernel_rfl : (decide ((↑k : Int) < (↑(List.length (List.map vt (kids a))) : Int)) = false ∧ Nv.db true = db (rgL b l s v (List.drop k (kids a)) last q)) = _) ?_
        refine ⟨by simpa using hk, ?_⟩
        rw [List.drop_of_length_le (by omega)]; rfl
    refine spec_vc mixed fRgt cRgt (by kernel_rfl) (by kernel_rfl) (by kernel_rfl) (by kernel_rfl) 69 (by kernel_rfl) [4, 6] (.h (.dr 6) <| .x (vi v) <| .c (dt s) <| .b .r (.lo [ke 1, ke 3, ke 4, ke 6, ke 9, ch 10 (di (-1)), ch 11 (di ((x + 1 : Nat) : Int)), ch 12 (di (0 : Nat))] (imSt s))) ?_
    refine via (by kernel_rfl : (0 ≤ (↑x : Int) ∧ (List.map vi l)[Int.toNat (↑x : Int)]? = some (vi (↑v : Int)) ∧ FSpec PP 52 [D.v (V.agg [vi (lab b), vtl (kids b)]), D.v (vi (↑v : Int))] (St.mk [] []) (dt s) (St.mk [] []) ∧ [St.mk [some [Nv.di 0, D.v V.nils]] []] = [St.mk [some [Nv.di 0, D.v V.nils]] []] ∧ True ∧ ((lab s != lab a) = true → Nv.db false = db (match some s with | none => false | some s => decide (lab s = lab a) && rgL b l s v (kids a) (-1) (x + 1))) ∧ ((lab s != lab a) = false → Nv.di (-1) = di (-1) ∧ Nv.di (IntKind.wrap IntKind.i64 ((↑x : Int) + 1)) = di (↑(x + 1) : Int) ∧ Nv.di 0 = di (↑0 : Int) ∧ okH 1 [] [some [D.v (vi (lab s)), D.v (vtl (kids s))]] = true ∧ [some [D.v (vi (lab s)), D.v (vtl (kids s))]] = [some [di (lab s), D.v (vtl (kids s))]] ∧ Nv.It (RunC (CN (List.length σ0.H)) PP (fun env σ1 => ResOK PP fRgt env σ1 (db (match some s with | none => false | some s => decide (lab s = lab a) && rgL b l s v (kids a) (-1) (x + 1))) σ0) [KI.lp (sub cRgt [1, 1, 1, 1, 1, 0, 1, 0, 0]), KI.blk 0, KI.code (sub cRgt [1, 1, 1, 1, 1, 1])] (mkE 69 [(1, di (↑x : Int)), (3, dl l), (4, D.v (V.ref (V.agg [vi (lab a), vtl (kids a)]))), (6, D.v (V.ref (V.agg [vi (lab b), vtl (kids b)]))), (9, D.ptr 0 0), (10, di (-1)), (11, di (↑(x + 1) : Int)), (12, di (↑0 : Int))]) (imSt s)))) = _) ?_
    refine ⟨by omega, idx_some hv, hnode, rfl, trivial, fun h => ?_, fun h => ?_⟩
    · have h : s.lab ≠ a.lab := by simpa using h
      simp only [decide_eq_false h, Bool.false_and]
    · have h : s.lab = a.lab := by simpa using h
      simp only [decide_eq_true h, Bool.true_and]
      refine ⟨trivial, wsucc (by omega), trivial, rfl, trivial, ⟨?_⟩⟩
      have := loop _ 0 (x + 1) (-1) rfl (by rw [List.drop_zero]; omega)
      rw [List.drop_zero] at this
      exact this
noncomputable abbrev fPrv : Func := Try.f22
noncomputable def cPrv : Code := fPrv.body.getD .skip
theorem rproves_spec (a b : Tr) (l : List Int) (ha : a.size ≤ 1000000) (hb : b.size ≤ 1000000) : FSpec PP 22 [dt a, dt b, dl l] σ0 (db (rprovM a b l)) σ0 := by
  have loop (hl : l.length = a.size) (M : Nat) : ∀ k : Nat, l.length - k = M → k ≤ l.length → (∀ i, i < k → InR b l i) →
      Rn PP fPrv 0 (db (l.all (fun v => decide (0 ≤ v) && decide (v < b.size)) && rgT b l a 0)) σ0 ([.lp (sub cPrv [1, 1, 1, 0, 1, 0, 0]), .blk 0, .code (sub cPrv [1, 1, 1, 1])] ++ []) (mkE 51 [(2, dl l), (3, .v (.ref (vTr a))), (4, .v (.ref (vTr b))), (7, di (b.size : Int)), (8, di (k : Int))]) σ0 := by
    induction M using Nat.strongRecOn with
    | _ M ih =>
    intro k hM hk hin
    refine loop_vc mixed 51 [3, 4] (.b (.e fun z : Int => .x (vi z) <| .b (.k <| .r) (.x (vi z) <| .b .r (.l [ke 2, ke 3, ke 4, ke 7, ch 8 (di (k + 1 : Nat))]))) (.c (db (rgT b l a 0)) .r)) ?_
    refine via (by kernel_rfl : ((decide ((↑k : Int) < (↑(List.length (List.map vi l)) : Int)) = true → ∃ a_2, 0 ≤ (↑k : Int) ∧ (List.map vi l)[Int.toNat (↑k : Int)]? = some (vi a_2) ∧ (decide (a_2 < 0) = true → Nv.db false = db ((List.all l fun v => decide (0 ≤ v) && decide (v < (↑(size b) : Int))) && rgT b l a 0)) ∧ (decide (a_2 < 0) = false → 0 ≤ (↑k : Int) ∧ (List.map vi l)[Int.toNat (↑k : Int)]? = some (vi a_2) ∧ (decide (a_2 ≥ (↑(size b) : Int)) = true → Nv.db false = db ((List.all l fun v => decide (0 ≤ v) && decide (v < (↑(size b) : Int))) && rgT b l a 0)) ∧ (decide (a_2 ≥ (↑(size b) : Int)) = false → Nv.di (IntKind.wrap IntKind.i64 ((↑k : Int) + 1)) = di (↑(k + 1) : Int) ∧ Nv.It (RunC (CN 0) PP (fun env σ1 => ResOK PP fPrv env σ1 (db ((List.all l fun v => decide (0 ≤ v) && decide (v < (↑(size b) : Int))) && rgT b l a 0)) σ0) [KI.lp (sub cPrv [1, 1, 1, 0, 1, 0, 0]), KI.blk 0, KI.code (sub cPrv [1, 1, 1, 1])] (mkE 51 [(2, D.v (V.list (List.map vi l))), (3, D.v (V.ref (vTr a))), (4, D.v (V.ref (vTr b))), (7, Nv.di (↑(size b) : Int)), (8, di (↑(k + 1) : Int))]) σ0)))) ∧ (decide ((↑k : Int) < (↑(List.length (List.map vi l)) : Int)) = false → FSpec PP 38 [D.v (vTr a), Nv.di 0, D.v (vTr b), D.v (V.list (List.map vi l))] (St.mk [] []) (db (rgT b l a 0)) (St.mk [] []) ∧ Nv.db (rgT b l a 0) = db ((List.all l fun v => decide (0 ≤ v) && decide (v < (↑(size b) : Int))) && rgT b l a 0))) = _) ?_
    refine ⟨fun h => ?_, fun h => ?_⟩
    · have hk2 : k < l.length := by simpa using h
      have hx : l[k]? = some l[k] := List.getElem?_eq_getElem hk2
      generalize l[k] = z at hx
      have bad (hz : (decide (0 ≤ z) && decide (z < (b.size : Int))) = false) : l.all (fun v => decide (0 ≤ v) && decide (v < (b.size : Int))) = false := by
        rw [List.all_eq_false]
        exact ⟨z, List.mem_of_getElem? hx, by rw [hz]; decide⟩
      refine ⟨z, by omega, idx_some hx, fun h1 => ?_, fun h1 => ⟨by omega, idx_some hx, fun h2 => ?_, fun h2 => ⟨wsucc (by omega), ⟨?_⟩⟩⟩⟩
      · have h1 := of_decide_eq_true h1
        rw [bad (by rw [decide_eq_false (by omega)]; rfl)]; rfl
      · have h2 := of_decide_eq_true h2
        rw [bad (by rw [decide_eq_false (by omega : ¬ z < (b.size : Int)), Bool.and_false])]; rfl
      · have h1 := of_decide_eq_false h1
        have h2 := of_decide_eq_false h2
        refine ih (l.length - (k + 1)) (by omega) (k + 1) rfl (by omega) (fun i hi => ?_)
        by_cases hik : i < k
        · exact hin i hik
        · have : i = k := by omega
          subst this
          obtain ⟨v, rfl⟩ := Int.eq_ofNat_of_zero_le (by omega : 0 ≤ z)
          exact ⟨v, hx, by omega⟩
    · have hk2 : l.length ≤ k := by simpa using h
      refine ⟨rright_spec b l a.size hb ha (fun i hi => hin i (by omega)) _ a 0 (Nat.le_refl _) (by omega), ?_⟩
      have : l.all (fun v => decide (0 ≤ v) && decide (v < (b.size : Int))) = true := by
        rw [List.all_eq_true]
        intro z hz
        obtain ⟨i, hi⟩ := List.getElem?_of_mem hz
        obtain ⟨v, hv, hv2⟩ := hin i (by have := (List.getElem?_eq_some_iff.1 hi).1; omega)
        rw [hi] at hv
        cases hv
        simp; omega
      rw [this, Bool.true_and]
  refine spec_vc mixed fPrv cPrv (by kernel_rfl) (by kernel_rfl) (by kernel_rfl) (by kernel_rfl) 51 (by kernel_rfl) [3, 4] (.c (db (validT a)) <| .b (.k <| .r) (.c (db (validT b)) <| .b (.k <| .r) (.c (dl (wkL a)) <| .b .r (.c (dl (wkL b)) <| .l [ke 2, ke 3, ke 4, ch 7 (di (b.size : Int)), ch 8 (di (0 : Nat))])))) ?_
  refine via (by kernel_rfl : (FSpec PP 10 [D.v (V.agg [vi (lab a), vtl (kids a)])] (St.mk [] []) (db (validT a)) (St.mk [] []) ∧ ((!validT a) = true → Nv.db false = db (rprovM a b l)) ∧ ((!validT a) = false → FSpec PP 10 [D.v (V.agg [vi (lab b), vtl (kids b)])] (St.mk [] []) (db (validT b)) (St.mk [] []) ∧ ((!validT b) = true → Nv.db false = db (rprovM a b l)) ∧ ((!validT b) = false → FSpec PP 34 [D.v (V.agg [vi (lab a), vtl (kids a)])] (St.mk [] []) (dl (wkL a)) (St.mk [] []) ∧ (((↑(List.length (List.map vi l)) : Int) != (↑(List.length (List.map vi (wkL a))) : Int)) = true → Nv.db false = db (rprovM a b l)) ∧ (((↑(List.length (List.map vi l)) : Int) != (↑(List.length (List.map vi (wkL a))) : Int)) = false → FSpec PP 34 [D.v (V.agg [vi (lab b), vtl (kids b)])] (St.mk [] []) (dl (wkL b)) (St.mk [] []) ∧ Nv.di (↑(List.length (List.map vi (wkL b))) : Int) = di (↑(size b) : Int) ∧ Nv.di 0 = di (↑0 : Int) ∧ Nv.It (RunC (CN (List.length σ0.H)) PP (fun env σ1 => ResOK PP fPrv env σ1 (db (rprovM a b l)) σ0) [KI.lp (sub cPrv [1, 1, 1, 0, 1, 0, 0]), KI.blk 0, KI.code (sub cPrv [1, 1, 1, 1])] (mkE 51 [(2, dl l), (3, D.v (V.ref (V.agg [vi (lab a), vtl (kids a)]))), (4, D.v (V.ref (V.agg [vi (lab b), vtl (kids b)]))), (7, di (↑(size b) : Int)), (8, di (↑0 : Int))]) σ0))))) = _) ?_
  unfold rprovM
  refine ⟨rvalid_spec a ha, fun h => ?_, fun h => ⟨rvalid_spec b hb, fun h2 => ?_, fun h2 => ⟨rwalk_spec _ a (Nat.le_refl _) ha, fun h3 => ?_, fun h3 => ⟨rwalk_spec _ b (Nat.le_refl _) hb, ?_, rfl, ⟨?_⟩⟩⟩⟩⟩
  · have h : validT a = false := by simpa using h
    simp only [h, Bool.false_and]
  · have h2 : validT b = false := by simpa using h2
    simp only [h2, Bool.false_and, Bool.and_false]
  · have h3 : l.length ≠ a.size := by
      rw [List.length_map, List.length_map, wkL_length] at h3
      intro e; rw [e] at h3; simp at h3
    simp only [decide_eq_false h3, Bool.false_and, Bool.and_false]
  · rw [List.length_map, wkL_length]
  · have h : validT a = true := by simpa using h
    have h2 : validT b = true := by simpa using h2
    have h3 : l.length = a.size := by
      rw [List.length_map, List.length_map, wkL_length] at h3
      have := by simpa using h3
      omega
    simp only [h, h2, decide_eq_true h3, Bool.true_and]
    exact loop h3 _ 0 rfl (by omega) (fun i hi => by omega)
noncomputable abbrev fCmp4 : Func := Try.f32
noncomputable def cCmp4 : Code := fCmp4.body.getD .skip
theorem rcmp_spec (N : Nat) : ∀ a b : Tr, a.size ≤ N → a.size ≤ 1000000 → FSpec PP 32 [dt a, dt b] σ0 (di (cmpT a b)) σ0 := by
  induction N with
  | zero => intro a _ hv; have := size_pos a; omega
  | succ N ihN =>
    intro a b ha ha1
    have hsz := size_eq a
    have hlen := szl_len a.kids
    have loop (hab : a.kids.length = b.kids.length) (n : Nat) : ∀ k : Nat, a.kids.length - k = n →
        Rn PP fCmp4 0 (di (cmpBy cmpT (a.kids.drop k) (b.kids.drop k))) σ0 ([.lp (sub cCmp4 [1, 1, 1, 0, 1, 0, 0]), .blk 0, .code (sub cCmp4 [1, 1, 1, 1])] ++ []) (mkE 52 [(2, .v (.ref (vTr a))), (3, .v (.ref (vTr b))), (5, di (k : Int))]) σ0 := by
      induction n using Nat.strongRecOn with
      | _ n ih =>
      intro k hn
      refine loop_vc mixed 52 [2, 3] (.b (.e fun x : Tr => .x (vTr x) <| .e fun y : Tr => .x (vTr y) <| .c (di (cmpT x y)) <| .b .r (.l [ke 2, ke 3, ch 5 (di (k + 1 : Nat))])) .r) ?_
      refine via (by kernel_rfl : ((decide ((↑k : Int) < (↑(List.length (List.map vt (kids a))) : Int)) = true → ∃ a_2, 0 ≤ (↑k : Int) ∧ (List.map vt (kids a))[Int.toNat (↑k : Int)]? = some (vTr a_2) ∧ ∃ a_3, 0 ≤ (↑k : Int) ∧ (List.map vt (kids b))[Int.toNat (↑k : Int)]? = some (vTr a_3) ∧ FSpec PP 32 [D.v (vTr a_2), D.v (vTr a_3)] (St.mk [] []) (di (cmpT a_2 a_3)) (St.mk [] []) ∧ ((cmpT a_2 a_3 != 0) = true → Nv.di (cmpT a_2 a_3) = di (cmpBy cmpT (List.drop k (kids a)) (List.drop k (kids b)))) ∧ ((cmpT a_2 a_3 != 0) = false → Nv.di (IntKind.wrap IntKind.i64 ((↑k : Int) + 1)) = di (↑(k + 1) : Int) ∧ Nv.It (RunC (CN 0) PP (fun env σ1 => ResOK PP fCmp4 env σ1 (di (cmpBy cmpT (List.drop k (kids a)) (List.drop k (kids b)))) σ0) [KI.lp (sub cCmp4 [1, 1, 1, 0, 1, 0, 0]), KI.blk 0, KI.code (sub cCmp4 [1, 1, 1, 1])] (mkE 52 [(2, D.v (V.ref (vTr a))), (3, D.v (V.ref (vTr b))), (5, di (↑(k + 1) : Int))]) (St.mk [] [])))) ∧ (decide ((↑k : Int) < (↑(List.length (List.map vt (kids a))) : Int)) = false → Nv.di 0 = di (cmpBy cmpT (List.drop k (kids a)) (List.drop k (kids b))))) = _) ?_
      refine ⟨fun h => ?_, fun h => ?_⟩
      · have hk : k < a.kids.length := by simpa using h
        have hk2 : k < b.kids.length := by omega
        have hx : a.kids[k]? = some a.kids[k] := List.getElem?_eq_getElem hk
        have hy : b.kids[k]? = some b.kids[k] := List.getElem?_eq_getElem hk2
        rw [cmpBy_at hx hy]
        generalize a.kids[k] = x at hx ⊢
        generalize b.kids[k] = y at hy ⊢
        have hxs := szl_mem (List.mem_of_getElem? hx)
        refine ⟨x, by omega, idx_tree hx, y, by omega, idx_tree hy, ihN x y (by omega) (by omega), fun h1 => ?_, fun h1 => ⟨wsucc (by omega), ⟨?_⟩⟩⟩
        · have h1 : cmpT x y ≠ 0 := by simpa using h1
          rw [if_neg h1]
        · have h1 : cmpT x y = 0 := by simpa using h1
          rw [if_pos h1]
          exact ih (a.kids.length - (k + 1)) (by omega) (k + 1) rfl
      · have hk : a.kids.length ≤ k := by simpa using h
        rw [List.drop_of_length_le hk, List.drop_of_length_le (by omega)]; rfl
    refine spec_vc mixed fCmp4 cCmp4 (by kernel_rfl) (by kernel_rfl) (by kernel_rfl) (by kernel_rfl) 52 (by kernel_rfl) [2, 3] (.b (.c (di (ord a.lab b.lab)) .r) (.b (.c (di (ord a.kids.length b.kids.length)) .r) (.l [ke 2, ke 3, ch 5 (di (0 : Nat))]))) ?_
    refine via (by kernel_rfl : (((lab a != lab b) = true → FSpec PP 49 [D.v (vi (lab a)), D.v (vi (lab b))] (St.mk [] []) (di (ord (lab a) (lab b))) (St.mk [] []) ∧ Nv.di (ord (lab a) (lab b)) = di (cmpT a b)) ∧ ((lab a != lab b) = false → (((↑(List.length (List.map vt (kids a))) : Int) != (↑(List.length (List.map vt (kids b))) : Int)) = true → FSpec PP 49 [Nv.di (↑(List.length (List.map vt (kids a))) : Int), Nv.di (↑(List.length (List.map vt (kids b))) : Int)] (St.mk [] []) (di (ord (↑(List.length (kids a)) : Int) (↑(List.length (kids b)) : Int))) (St.mk [] []) ∧ Nv.di (ord (↑(List.length (kids a)) : Int) (↑(List.length (kids b)) : Int)) = di (cmpT a b)) ∧ (((↑(List.length (List.map vt (kids a))) : Int) != (↑(List.length (List.map vt (kids b))) : Int)) = false → Nv.di 0 = di (↑0 : Int) ∧ Nv.It (RunC (CN (List.length σ0.H)) PP (fun env σ1 => ResOK PP fCmp4 env σ1 (di (cmpT a b)) σ0) [KI.lp (sub cCmp4 [1, 1, 1, 0, 1, 0, 0]), KI.blk 0, KI.code (sub cCmp4 [1, 1, 1, 1])] (mkE 52 [(2, D.v (V.ref (V.agg [vi (lab a), vtl (kids a)]))), (3, D.v (V.ref (V.agg [vi (lab b), vtl (kids b)]))), (5, di (↑0 : Int))]) σ0)))) = _) ?_
    rw [cmpT_eq]
    refine ⟨fun h => ⟨order_spec _ _, ?_⟩, fun h => ⟨fun h1 => ⟨?_, ?_⟩, fun h1 => ⟨rfl, ⟨?_⟩⟩⟩⟩
    · rw [if_neg (fun e => (bne_iff_ne.1 h) (ord_zero.1 e))]
    · rw [List.length_map, List.length_map]; exact order_spec _ _
    · have h : a.lab = b.lab := by simpa using h
      have h1 : (a.kids.length : Int) ≠ b.kids.length := by simpa using h1
      rw [if_pos (ord_zero.2 h), if_neg (fun e => h1 (ord_zero.1 e))]
    · have h : a.lab = b.lab := by simpa using h
      have h1 : (a.kids.length : Int) = b.kids.length := by simpa using h1
      rw [if_pos (ord_zero.2 h), if_pos (ord_zero.2 h1)]
      exact loop (Int.ofNat_inj.1 h1) _ 0 rfl
noncomputable abbrev fCmpX : Func := Try.f16
noncomputable def cCmpX : Code := fCmpX.body.getD .skip
theorem rcmpX_spec (a b : Tr) (ha : a.size ≤ 1000000) (hb : b.size ≤ 1000000) : FSpec PP 16 [dt a, dt b] σ0 (di (cmpX a b)) σ0 := by
  have h1 := rsmall_spec a ha
  have h2 := rsmall_spec b hb
  refine spec_vc mixed fCmpX cCmpX (by kernel_rfl) (by kernel_rfl) (by kernel_rfl) (by kernel_rfl) 20 (by kernel_rfl) [2, 3] (.c (db (decide (a.size ≤ 12))) <| .b (.k <| .c (db (decide (a.size ≤ 12))) <| .b .r (.c (db (decide (b.size ≤ 12))) <| .b .r .r)) (.c (db (decide (b.size ≤ 12))) <| .b (.c (db (decide (a.size ≤ 12))) <| .b .r (.c (db (decide (b.size ≤ 12))) <| .b .r .r)) (.c (di (cmpT a b)) .r))) ?_
  refine via (by kernel_rfl : (FSpec PP 27 [D.v (V.agg [vi (lab a), vtl (kids a)])] (St.mk [] []) (db (decide (size a ≤ 12))) (St.mk [] []) ∧ ((!decide (size a ≤ 12)) = true → FSpec PP 27 [D.v (V.agg [vi (lab a), vtl (kids a)])] (St.mk [] []) (db (decide (size a ≤ 12))) (St.mk [] []) ∧ (decide (size a ≤ 12) = true → Nv.di (-1) = di (cmpX a b)) ∧ (decide (size a ≤ 12) = false → FSpec PP 27 [D.v (V.agg [vi (lab b), vtl (kids b)])] (St.mk [] []) (db (decide (size b ≤ 12))) (St.mk [] []) ∧ (decide (size b ≤ 12) = true → Nv.di 1 = di (cmpX a b)) ∧ (decide (size b ≤ 12) = false → Nv.di 0 = di (cmpX a b)))) ∧ ((!decide (size a ≤ 12)) = false → FSpec PP 27 [D.v (V.agg [vi (lab b), vtl (kids b)])] (St.mk [] []) (db (decide (size b ≤ 12))) (St.mk [] []) ∧ ((!decide (size b ≤ 12)) = true → FSpec PP 27 [D.v (V.agg [vi (lab a), vtl (kids a)])] (St.mk [] []) (db (decide (size a ≤ 12))) (St.mk [] []) ∧ (decide (size a ≤ 12) = true → Nv.di (-1) = di (cmpX a b)) ∧ (decide (size a ≤ 12) = false → FSpec PP 27 [D.v (V.agg [vi (lab b), vtl (kids b)])] (St.mk [] []) (db (decide (size b ≤ 12))) (St.mk [] []) ∧ (decide (size b ≤ 12) = true → Nv.di 1 = di (cmpX a b)) ∧ (decide (size b ≤ 12) = false → Nv.di 0 = di (cmpX a b)))) ∧ ((!decide (size b ≤ 12)) = false → FSpec PP 32 [D.v (V.agg [vi (lab a), vtl (kids a)]), D.v (V.agg [vi (lab b), vtl (kids b)])] (St.mk [] []) (di (cmpT a b)) (St.mk [] []) ∧ Nv.di (cmpT a b) = di (cmpX a b)))) = _) ?_
  unfold cmpX
  refine ⟨h1, fun h => ⟨h1, fun h3 => ?_, fun h3 => ⟨h2, fun h4 => ?_, fun h4 => ?_⟩⟩, fun h => ⟨h2, fun h3 => ⟨h1, fun h4 => ?_, fun h4 => ⟨h2, fun h5 => ?_, fun h5 => ?_⟩⟩, fun h3 => ⟨rcmp_spec _ a b (Nat.le_refl _) ha, ?_⟩⟩⟩
  all_goals simp only [Bool.not_eq_true', Bool.not_eq_false', decide_eq_true_eq, decide_eq_false_iff_not] at *
  all_goals first
    | (exfalso; omega)
    | simp only [*, if_true, if_false]
noncomputable abbrev fSml4 : Func := Try.f6
noncomputable def cSml4 : Code := fSml4.body.getD .skip
theorem lsmall_spec (N : Nat) (hN : N ≤ 1000) : ∀ t : Tr, FSpec PP 6 [dt t, di ((N : Int) - 1)] σ0 (db (smT N t)) σ0 := by
  induction N with
  | zero =>
    intro t
    refine spec_vc mixed fSml4 cSml4 (by kernel_rfl) (by kernel_rfl) (by kernel_rfl) (by kernel_rfl) 30 (by kernel_rfl) [2] (.b (.k <| .r) (.t .r)) ?_
    refine via (by kernel_rfl : ((decide ((↑(List.length (List.map vt (kids t))) : Int) > 8) = true → Nv.db false = db (smT 0 t)) ∧ (decide ((↑(List.length (List.map vt (kids t))) : Int) > 8) = false → decide ((↑0 : Int) - 1 < 0) = true ∧ Nv.db false = db (smT 0 t))) = _) ?_
    exact ⟨fun _ => rfl, fun _ => ⟨rfl, rfl⟩⟩
  | succ N ihN =>
    intro t
    have loop (hl : t.kids.length ≤ 8) (M : Nat) : ∀ k : Nat, t.kids.length - k = M →
        Rn PP fSml4 0 (db ((t.kids.drop k).all (smT N))) σ0 ([.lp (sub cSml4 [1, 1, 0, 1, 0, 0]), .blk 0, .code (sub cSml4 [1, 1, 1])] ++ []) (mkE 30 [(1, di (N : Int)), (2, .v (.ref (vTr t))), (16, di (t.kids.length : Int)), (17, di (k : Int))]) σ0 := by
      induction M using Nat.strongRecOn with
      | _ M ih =>
      intro k hM
      refine loop_vc mixed 30 [2] (.b (.e fun x : Tr => .x (vTr x) <| .c (db (smT N x)) <| .b .r (.l [ke 1, ke 2, ke 16, ch 17 (di (k + 1 : Nat))])) .r) ?_
      refine via (by kernel_rfl : ((decide ((↑k : Int) < (↑(List.length (kids t)) : Int)) = true → ∃ a, 0 ≤ (↑k : Int) ∧ (List.map vt (kids t))[Int.toNat (↑k : Int)]? = some (vTr a) ∧ FSpec PP 6 [D.v (vTr a), Nv.di (IntKind.wrap IntKind.i64 ((↑N : Int) - 1))] (St.mk [] []) (db (smT N a)) (St.mk [] []) ∧ ((!smT N a) = true → Nv.db false = db (List.all (List.drop k (kids t)) (smT N))) ∧ ((!smT N a) = false → Nv.di (IntKind.wrap IntKind.i64 ((↑k : Int) + 1)) = di (↑(k + 1) : Int) ∧ Nv.It (RunC (CN 0) PP (fun env σ1 => ResOK PP fSml4 env σ1 (db (List.all (List.drop k (kids t)) (smT N))) σ0) [KI.lp (sub cSml4 [1, 1, 0, 1, 0, 0]), KI.blk 0, KI.code (sub cSml4 [1, 1, 1])] (mkE 30 [(1, Nv.di (↑N : Int)), (2, D.v (V.ref (vTr t))), (16, Nv.di (↑(List.length (kids t)) : Int)), (17, di (↑(k + 1) : Int))]) σ0))) ∧ (decide ((↑k : Int) < (↑(List.length (kids t)) : Int)) = false → Nv.db true = db (List.all (List.drop k (kids t)) (smT N)))) = _) ?_
      refine ⟨fun h => ?_, fun h => ?_⟩
      · have hk : k < t.kids.length := by simpa using h
        have hx : t.kids[k]? = some t.kids[k] := List.getElem?_eq_getElem hk
        rw [List.drop_eq_getElem_cons hk]
        generalize t.kids[k] = x at hx ⊢
        have hc := ihN (by omega) x
        rw [List.all_cons]
        refine ⟨x, by omega, idx_tree hx, by rw [wrap_id (by omega) (by omega)]; exact hc, fun h1 => ?_, fun h1 => ⟨wsucc (by omega), ⟨?_⟩⟩⟩
        · have h1 : smT N x = false := by simpa using h1
          rw [h1, Bool.false_and]
        · have h1 : smT N x = true := by simpa using h1
          rw [h1, Bool.true_and]
          exact ih (t.kids.length - (k + 1)) (by omega) (k + 1) rfl
      · have hk : t.kids.length ≤ k := by simpa using h
        rw [List.drop_of_length_le hk]; rfl
    refine spec_vc mixed fSml4 cSml4 (by kernel_rfl) (by kernel_rfl) (by kernel_rfl) (by kernel_rfl) 30 (by kernel_rfl) [2] (.b (.k <| .r) (.b .r (.l [ke 1, ke 2, ch 16 (di (t.kids.length : Int)), ch 17 (di (0 : Nat))]))) ?_
    refine via (by kernel_rfl : ((decide ((↑(List.length (List.map vt (kids t))) : Int) > 8) = true → Nv.db false = db (smT (N + 1) t)) ∧ (decide ((↑(List.length (List.map vt (kids t))) : Int) > 8) = false → (decide ((↑(N + 1) : Int) - 1 < 0) = true → Nv.db false = db (smT (N + 1) t)) ∧ (decide ((↑(N + 1) : Int) - 1 < 0) = false → Nv.di (↑(List.length (List.map vt (kids t))) : Int) = di (↑(List.length (kids t)) : Int) ∧ Nv.di 0 = di (↑0 : Int) ∧ Nv.It (RunC (CN (List.length σ0.H)) PP (fun env σ1 => ResOK PP fSml4 env σ1 (db (smT (N + 1) t)) σ0) [KI.lp (sub cSml4 [1, 1, 0, 1, 0, 0]), KI.blk 0, KI.code (sub cSml4 [1, 1, 1])] (mkE 30 [(1, di ((↑(N + 1) : Int) - 1)), (2, D.v (V.ref (V.agg [vi (lab t), vtl (kids t)]))), (16, di (↑(List.length (kids t)) : Int)), (17, di (↑0 : Int))]) σ0)))) = _) ?_
    simp only [List.length_map]
    refine ⟨fun h => ?_, fun h => ⟨fun h1 => ?_, fun h1 => ⟨trivial, trivial, ⟨?_⟩⟩⟩⟩
    · have h := of_decide_eq_true h
      simp only [smT]
      rw [decide_eq_false (by omega : ¬ t.kids.length ≤ 8), Bool.false_and]
    · have h1 := of_decide_eq_true h1
      omega
    · have h := of_decide_eq_false h
      simp only [smT]
      rw [decide_eq_true (by omega : t.kids.length ≤ 8), Bool.true_and]
      have := loop (by omega) _ 0 rfl
      rw [List.drop_zero] at this
      rw [show ((N + 1 : Nat) : Int) - 1 = (N : Int) by omega]
      exact this
end Go.Proofs.Ytaceggcohmmfhaa
