/-
  The plain law of embeddings: what the search finds is an embedding of trees.
-/
import Derived.Test.YtoofgniepbidnaaWn
namespace Go.Proofs.Ytoofgniepbidnaa
open Go.Dv Tr

mutual
/-- an embedding: the root goes somewhere -/
inductive Emb : Tr → Tr → Prop
  | here {a b : Tr} (h : a.lab = b.lab) (hk : EmbL a.kids b.kids) : Emb a b
  | deep {a b k : Tr} (h : k ∈ b.kids) (hk : Emb a k) : Emb a b
/-- trees go into others, in their order -/
inductive EmbL : List Tr → List Tr → Prop
  | nil {ys : List Tr} : EmbL [] ys
  | take {a b : Tr} {xs ys : List Tr} (h : Emb a b) (hs : EmbL xs ys) : EmbL (a :: xs) (b :: ys)
  | skip {b : Tr} {xs ys : List Tr} (hs : EmbL xs ys) : EmbL xs (b :: ys)
end
def Rooted (a b : Tr) : Prop := a.lab = b.lab ∧ EmbL a.kids b.kids

mutual
/-- the subtrees, in the order of their numbers -/
def fl : Tr → List Tr
  | .mk l ks => .mk l ks :: fls ks
def fls : List Tr → List Tr
  | [] => []
  | k :: ks => fl k ++ fls ks
end
theorem fl_eq (t : Tr) : fl t = t :: fls t.kids := by cases t; simp [fl, kids]
mutual
theorem fl_length : ∀ t : Tr, (fl t).length = t.size
  | .mk l ks => by simp only [fl, List.length_cons, fls_length ks, size]; omega
theorem fls_length : ∀ ks : List Tr, (fls ks).length = szl ks
  | [] => rfl
  | k :: ks => by simp [fls, szl, fl_length k, fls_length ks]
end
theorem fls_mem : ∀ {ks : List Tr} {s : Tr}, s ∈ fls ks ↔ ∃ k ∈ ks, s ∈ fl k
  | [], s => by simp [fls]
  | k :: ks, s => by simp [fls, fls_mem (ks := ks)]

theorem Emb.subt : ∀ {a b : Tr}, Emb a b → ∃ s ∈ fl b, Rooted a s
  | a, b, .here h hk => ⟨b, by rw [fl_eq]; simp, h, hk⟩
  | a, b, .deep h hk => by
    obtain ⟨s, h1, h2⟩ := hk.subt
    exact ⟨s, by rw [fl_eq]; exact List.mem_cons_of_mem _ (fls_mem.2 ⟨_, h, h1⟩), h2⟩
theorem Emb.of_at {a : Tr} : ∀ (n : Nat) {b s : Tr}, b.size ≤ n → s ∈ fl b → Rooted a s → Emb a b
  | 0, b, s, hn, _, _ => by have := size_pos b; omega
  | n + 1, b, s, hn, h, hr => by
    rw [fl_eq] at h
    rcases List.mem_cons.1 h with rfl | h
    · exact .here hr.1 hr.2
    · obtain ⟨k, hk, h2⟩ := fls_mem.1 h
      have := szl_mem hk
      have := size_eq b
      exact .deep hk (Emb.of_at n (by omega) h2 hr)
theorem emb_iff {a b : Tr} : Emb a b ↔ ∃ s ∈ fl b, Rooted a s := ⟨Emb.subt, fun ⟨_, h1, h2⟩ => Emb.of_at b.size (Nat.le_refl _) h1 h2⟩

/- taking the first that fits is as good -/
theorem EmbL.tail : ∀ {a : Tr} {xs ys : List Tr}, EmbL (a :: xs) ys → EmbL xs ys
  | a, xs, [], h => by cases h
  | a, xs, b :: ys, h => by
    cases h with
    | take h hs => exact .skip hs
    | skip hs => exact .skip hs.tail
theorem embL_cons {a b : Tr} {xs ys : List Tr} : EmbL (a :: xs) (b :: ys) ↔ (Emb a b ∧ EmbL xs ys) ∨ (¬ Emb a b ∧ EmbL (a :: xs) ys) := by
  constructor
  · intro h
    by_cases hab : Emb a b
    · refine .inl ⟨hab, ?_⟩
      cases h with
      | take _ hs => exact hs
      | skip hs => exact hs.tail
    · refine .inr ⟨hab, ?_⟩
      cases h with
      | take h _ => exact absurd h hab
      | skip hs => exact hs
  · rintro (⟨h1, h2⟩ | ⟨_, h2⟩)
    · exact .take h1 h2
    · exact .skip h2

/- nodes by number -/
mutual
theorem nodes_at : ∀ (t : Tr) (a i : Nat), (nodesM a t)[i]? = ((fl t)[i]?).map fun s => ⟨s.lab, a + i + s.size, posL (a + i + 1) s.kids⟩
  | .mk l ks, a, i => by
    simp only [nodesM, fl]
    cases i with
    | zero => simp [size, lab, kids]; omega
    | succ i =>
      simp only [List.getElem?_cons_succ]
      rw [nodesL_at ks (a + 1) i]
      rw [show a + 1 + i = a + (i + 1) by omega]
theorem nodesL_at : ∀ (ks : List Tr) (a i : Nat), (nodesL a ks)[i]? = ((fls ks)[i]?).map fun s => ⟨s.lab, a + i + s.size, posL (a + i + 1) s.kids⟩
  | [], a, i => by simp [nodesL, fls]
  | k :: ks, a, i => by
    simp only [nodesL, fls]
    by_cases hi : i < k.size
    · rw [List.getElem?_append_left (by rw [nodesM_length]; exact hi), List.getElem?_append_left (by rw [fl_length]; exact hi), nodes_at k a i]
    · rw [List.getElem?_append_right (by rw [nodesM_length]; omega), List.getElem?_append_right (by rw [fl_length]; omega), nodesM_length, fl_length, nodesL_at ks (a + k.size) (i - k.size)]
      rw [show a + k.size + (i - k.size) = a + i by omega]
end
/- a subtree's subtrees lie behind it -/
mutual
theorem fl_sub : ∀ (t : Tr) (i : Nat) (s : Tr), (fl t)[i]? = some s → ∃ pre post, fl t = pre ++ fl s ++ post ∧ pre.length = i
  | .mk l ks, i, s, h => by
    simp only [fl] at h ⊢
    cases i with
    | zero => simp at h; subst h; exact ⟨[], [], by simp [fl], rfl⟩
    | succ i =>
      simp at h
      obtain ⟨pre, post, h1, h2⟩ := fls_sub ks i s h
      exact ⟨.mk l ks :: pre, post, by rw [h1]; simp, by simp [h2]⟩
theorem fls_sub : ∀ (ks : List Tr) (i : Nat) (s : Tr), (fls ks)[i]? = some s → ∃ pre post, fls ks = pre ++ fl s ++ post ∧ pre.length = i
  | [], i, s, h => by simp [fls] at h
  | k :: ks, i, s, h => by
    simp only [fls] at h ⊢
    by_cases hi : i < k.size
    · rw [List.getElem?_append_left (by rw [fl_length]; exact hi)] at h
      obtain ⟨pre, post, h1, h2⟩ := fl_sub k i s h
      exact ⟨pre, post ++ fls ks, by rw [h1]; simp, h2⟩
    · rw [List.getElem?_append_right (by rw [fl_length]; omega), fl_length] at h
      obtain ⟨pre, post, h1, h2⟩ := fls_sub ks (i - k.size) s h
      exact ⟨fl k ++ pre, post, by rw [h1]; simp, by simp [h2, fl_length]; omega⟩
end
theorem fl_in {t s : Tr} {i d : Nat} (h : (fl t)[i]? = some s) (hd : d < s.size) : (fl t)[i + d]? = (fl s)[d]? := by
  obtain ⟨pre, post, h1, h2⟩ := fl_sub t i s h
  rw [h1, List.append_assoc, List.getElem?_append_right (by omega), h2, Nat.add_sub_cancel_left, List.getElem?_append_left (by rw [fl_length]; exact hd)]
theorem fls_kid : ∀ (ks : List Tr) (x : Nat) (k : Tr) (a : Nat), ks[x]? = some k → ∃ p, (posL a ks)[x]? = some p ∧ a ≤ p ∧ p + k.size ≤ a + szl ks ∧ (fls ks)[p - a]? = some k
  | [], x, k, a, h => by simp at h
  | k0 :: ks, x, k, a, h => by
    simp only [posL, szl_cons, fls]
    cases x with
    | zero =>
      simp at h; subst h
      refine ⟨a, rfl, Nat.le_refl _, by omega, ?_⟩
      rw [Nat.sub_self, fl_eq]; rfl
    | succ x =>
      simp at h
      obtain ⟨p, h1, h2, h3, h4⟩ := fls_kid ks x k (a + k0.size) h
      refine ⟨p, by simpa using h1, by omega, by omega, ?_⟩
      rw [List.getElem?_append_right (by rw [fl_length]; omega), fl_length, Nat.sub_sub]; exact h4
/-- the number of a child -/
theorem kid_at {t s k : Tr} {i x : Nat} (h : (fl t)[i]? = some s) (hk : s.kids[x]? = some k) : ∃ p, (posL (i + 1) s.kids)[x]? = some p ∧ (fl t)[p]? = some k ∧ i < p := by
  obtain ⟨p, h1, h2, h3, h4⟩ := fls_kid s.kids x k (i + 1) hk
  have hs := size_eq s
  have hp := size_pos k
  refine ⟨p, h1, ?_, by omega⟩
  have : p = i + (p - i) := by omega
  rw [this, fl_in h (by omega), fl_eq, show p - i = (p - (i + 1)) + 1 by omega, List.getElem?_cons_succ]; exact h4

/- the search -/
theorem intoM_iff {l : List Nat} {j e : Nat} : 0 ≤ intoM l j e ↔ ∃ w ∈ l, j ≤ w ∧ w < e := by
  constructor
  · intro h; obtain ⟨w, h1, _, h2⟩ := intoM_mem h; exact ⟨w, h1, h2⟩
  · rintro ⟨w, hw, h1, h2⟩
    have ha : (il l).any (inP j e) = true := List.any_eq_true.2 ⟨(w : Int), List.mem_map.2 ⟨w, hw, rfl⟩, by simp [inP]; omega⟩
    rw [← idxP_any (il l) 0] at ha
    have h0 : 0 ≤ idxP (inP j e) (il l) 0 := by simpa using ha
    unfold intoM
    rw [if_neg (by omega)]
    obtain ⟨x, h3, h4⟩ := idxP_get0 h0
    rw [List.getD_eq_getElem?_getD, h3]
    simp [inP] at h4
    simp; omega

/-- placing children one by one, the first that fits -/
theorem plM_embL {f : Nat → Nat → Int} : ∀ (xs ys : List Tr) (ps rs : List Nat), ps.length = xs.length → rs.length = ys.length →
    (∀ (x y : Nat) (a b : Tr) (p r : Nat), xs[x]? = some a → ps[x]? = some p → ys[y]? = some b → rs[y]? = some r → (0 ≤ f p r ↔ Emb a b)) → ((plM f ps rs).isSome = true ↔ EmbL xs ys)
  | [], ys, ps, rs, h1, h2, h => by
    have : ps = [] := List.eq_nil_of_length_eq_zero (by simpa using h1)
    subst this
    simp [plM, EmbL.nil]
  | a :: xs, [], ps, rs, h1, h2, h => by
    have : rs = [] := List.eq_nil_of_length_eq_zero (by simpa using h2)
    subst this
    cases ps with
    | nil => simp at h1
    | cons p ps => simp only [plM, Option.isSome_none, Bool.false_eq_true, false_iff]; intro h; cases h
  | a :: xs, b :: ys, ps, rs, h1, h2, h => by
    cases ps with
    | nil => simp at h1
    | cons p ps =>
      cases rs with
      | nil => simp at h2
      | cons r rs =>
        have h0 := h 0 0 a b p r rfl rfl rfl rfl
        rw [embL_cons]
        simp only [plM]
        by_cases hf : 0 ≤ f p r
        · have ih := plM_embL xs ys ps rs (by simpa using h1) (by simpa using h2) (fun x y a' b' p' r' ha hp hb hr => h (x + 1) (y + 1) a' b' p' r' (by simpa using ha) (by simpa using hp) (by simpa using hb) (by simpa using hr))
          simp only [hf, if_true, Option.isSome_map, ih, h0.1 hf, true_and, not_true_eq_false, false_and, or_false]
        · have ih := plM_embL (a :: xs) ys (p :: ps) rs h1 (by simpa using h2) (fun x y a' b' p' r' ha hp hb hr => h x (y + 1) a' b' p' r' ha hp (by simpa using hb) (by simpa using hr))
          have hn : ¬ Emb a b := fun he => hf (h0.2 he)
          simp only [hf, if_false, ih, hn, false_and, not_false_eq_true, true_and, false_or]

/-- what the search notes -/
theorem row_iff {a b : Tr} (A B : List Nd) (hA : A = nodesM 0 a) (hB : B = nodesM 0 b) (hwa : Wf A) (n : Nat) : ∀ (i : Nat) (sa : Tr), sa.size ≤ n → (fl a)[i]? = some sa → ∀ (j : Nat) (sb : Tr), (fl b)[j]? = some sb → (j ∈ gt (solD A B A.length) i ↔ Rooted sa sb) := by
  induction n with
  | zero => intro i sa hn; have := size_pos sa; omega
  | succ n ih =>
    intro i sa hn hi j sb hj
    have hil : i < A.length := by rw [hA, nodesM_length, ← fl_length]; exact (List.getElem?_eq_some_iff.1 hi).1
    have hjl : j < B.length := by rw [hB, nodesM_length, ← fl_length]; exact (List.getElem?_eq_some_iff.1 hj).1
    have hai : A[i]? = some ⟨sa.lab, i + sa.size, posL (i + 1) sa.kids⟩ := by rw [hA, nodes_at, hi]; simp
    have hbj : B[j]? = some ⟨sb.lab, j + sb.size, posL (j + 1) sb.kids⟩ := by rw [hB, nodes_at, hj]; simp
    rw [sol_row hwa hil]
    unfold rowM
    rw [List.mem_filter]
    simp only [List.mem_range, hjl, true_and, rowOK, hai, hbj, Bool.and_eq_true, beq_iff_eq]
    unfold Rooted
    refine and_congr_right fun _ => ?_
    refine plM_embL sa.kids sb.kids _ _ (posL_length _ _) (posL_length _ _) (fun x y ka kb p r hka hp hkb hr => ?_)
    obtain ⟨p', hp', hpa, _⟩ := kid_at hi hka
    obtain ⟨r', hr', hrb, _⟩ := kid_at hj hkb
    rw [hp] at hp'; rw [hr] at hr'
    simp only [Option.some.injEq] at hp' hr'
    subst hp' hr'
    have hge : ge B r = r + kb.size := by rw [ge, hB, nodes_at, hrb]; simp
    unfold intoT
    rw [intoM_iff, hge, emb_iff]
    have hka2 : ka.size ≤ n := by
      have := szl_mem (List.mem_of_getElem? hka)
      have := size_eq sa
      omega
    constructor
    · rintro ⟨w, hw, h1, h2⟩
      obtain ⟨d, rfl⟩ : ∃ d, w = r + d := ⟨w - r, by omega⟩
      have hd : d < kb.size := by omega
      have hfd := fl_in hrb hd
      obtain ⟨s, hs⟩ := get_ex (a := fl kb) (i := d) (by rw [fl_length]; exact hd)
      exact ⟨s, List.mem_of_getElem? hs, (ih p ka hka2 hpa (r + d) s (by rw [hfd]; exact hs)).1 hw⟩
    · rintro ⟨s, hs, hroot⟩
      obtain ⟨d, hd⟩ := List.getElem?_of_mem hs
      have hdl : d < kb.size := by rw [← fl_length]; exact (List.getElem?_eq_some_iff.1 hd).1
      exact ⟨r + d, (ih p ka hka2 hpa (r + d) s (by rw [fl_in hrb hdl]; exact hd)).2 hroot, by omega, by omega⟩

theorem embG_some (A B : List Nd) (to : List (List Nat)) (l : List Nat) : (embG A B to l).isSome = true ↔ l ≠ [] := by cases l <;> simp [embG]
theorem nodesT_valid {t : Tr} (h : validT t = true) : nodesT t = nodesM 0 t := by unfold nodesT; rw [h]; rfl
theorem nodesT_bad {t : Tr} (h : validT t = false) : nodesT t = [] := by unfold nodesT; rw [h]; rfl
theorem gt_mem_B {A B : List Nd} (hA : Wf A) {i j : Nat} (h : j ∈ gt (solD A B A.length) i) : j < B.length ∧ i < A.length := by
  by_cases hi : i < A.length
  · rw [sol_row hA hi] at h
    have := (List.mem_filter.1 h).1
    exact ⟨by simpa using this, hi⟩
  · unfold gt at h
    rw [List.getElem?_eq_none (by rw [solD_length]; omega)] at h
    simp at h
/-- Leq is the embedding of valid trees -/
theorem leqT_iff (a b : Tr) : (embT a b).isSome = true ↔ validT a = true ∧ validT b = true ∧ Emb a b := by
  unfold embT
  rw [embG_some]
  have hwf := nodesT_wf a
  cases ha : validT a with
  | false =>
    rw [nodesT_bad ha]
    simp [solD, gt]
  | true =>
    cases hb : validT b with
    | false =>
      simp only [Bool.false_eq_true, false_and, and_false, iff_false, ne_eq, Decidable.not_not]
      apply List.eq_nil_iff_forall_not_mem.2
      intro j hj
      have := (gt_mem_B hwf hj).1
      rw [nodesT_bad hb] at this
      simp at this
    | true =>
      rw [nodesT_valid ha] at hwf ⊢
      rw [nodesT_valid hb]
      simp only [true_and]
      rw [emb_iff]
      have key := row_iff (nodesM 0 a) (nodesM 0 b) rfl rfl hwf a.size 0 a (Nat.le_refl _) (by rw [fl_eq]; rfl)
      constructor
      · intro h
        obtain ⟨j, hj⟩ := List.exists_mem_of_ne_nil _ h
        have hjl := (gt_mem_B hwf hj).1
        obtain ⟨s, hs⟩ := get_ex (a := fl b) (i := j) (by rw [fl_length, ← nodesM_length b 0]; exact hjl)
        exact ⟨s, List.mem_of_getElem? hs, (key j s hs).1 hj⟩
      · rintro ⟨s, hs, hr⟩
        obtain ⟨j, hj⟩ := List.getElem?_of_mem hs
        exact List.ne_nil_of_mem ((key j s hj).2 hr)

end Go.Proofs.Ytoofgniepbidnaa
