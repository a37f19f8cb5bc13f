/-
  The plain law of embeddings, continued: a partial order, and how trees grow.
-/
import Derived.Test.YtoofgniepbidnaaLf
namespace Go.Proofs.Ytoofgniepbidnaa
open Go.Dv Tr

theorem EmbL.refl_of : ∀ {ks : List Tr}, (∀ k ∈ ks, Emb k k) → EmbL ks ks
  | [], _ => .nil
  | k :: ks, h => .take (h k List.mem_cons_self) (EmbL.refl_of fun k' hk => h k' (List.mem_cons_of_mem _ hk))
theorem Emb.refl : ∀ (n : Nat) (t : Tr), t.size ≤ n → Emb t t
  | 0, t, h => by have := size_pos t; omega
  | n + 1, t, h => .here rfl (EmbL.refl_of fun k hk => Emb.refl n k (by have := szl_mem hk; have := size_eq t; omega))
theorem emb_refl (t : Tr) : Emb t t := Emb.refl t.size t (Nat.le_refl _)
theorem embL_refl (ks : List Tr) : EmbL ks ks := EmbL.refl_of fun k _ => emb_refl k

mutual
theorem Emb.size_le : ∀ {a b : Tr}, Emb a b → a.size ≤ b.size
  | a, b, .here _ hk => by have := hk.szl_le; rw [size_eq a, size_eq b]; omega
  | a, b, .deep h hk => by have := hk.size_le; have := szl_mem h; have := size_eq b; omega
theorem EmbL.szl_le : ∀ {xs ys : List Tr}, EmbL xs ys → szl xs ≤ szl ys
  | _, ys, .nil => by simp [szl]
  | _, _, .take h hs => by have := h.size_le; have := hs.szl_le; rw [szl_cons, szl_cons]; omega
  | _, _, .skip hs => by have := hs.szl_le; rw [szl_cons]; omega
end

theorem Tr.eq_of {a b : Tr} (h : a.lab = b.lab) (hk : a.kids = b.kids) : a = b := by cases a; cases b; simp_all [lab, kids]
mutual
theorem Emb.anti : ∀ {a b : Tr}, Emb a b → b.size ≤ a.size → a = b
  | a, b, .here h hk, hs => Tr.eq_of h (hk.anti (by rw [size_eq a, size_eq b] at hs; omega))
  | a, b, .deep h hk, hs => by have := hk.size_le; have := szl_mem h; have := size_eq b; omega
theorem EmbL.anti : ∀ {xs ys : List Tr}, EmbL xs ys → szl ys ≤ szl xs → xs = ys
  | _, ys, .nil, hs => by
    cases ys with
    | nil => rfl
    | cons y ys => rw [szl_cons] at hs; have := size_pos y; simp [szl] at hs; omega
  | _, _, .take (a := a) (b := b) (xs := xs) (ys := ys) h hs, hsz => by
    have h1 := h.size_le
    have h2 := hs.szl_le
    rw [szl_cons, szl_cons] at hsz
    rw [h.anti (by omega), hs.anti (by omega)]
  | _, _, .skip (b := b) hs, hsz => by have := hs.szl_le; rw [szl_cons] at hsz; have := size_pos b; omega
end

/- transitivity -/
theorem EmbL.mem {xs ys : List Tr} (h : EmbL xs ys) : ∀ x ∈ xs, ∃ y ∈ ys, Emb x y := by
  induction ys generalizing xs with
  | nil => cases h; simp
  | cons y ys ih =>
    cases h with
    | nil => simp
    | take h hs =>
      intro x hx
      rcases List.mem_cons.1 hx with rfl | hx
      · exact ⟨y, List.mem_cons_self, h⟩
      · obtain ⟨z, h1, h2⟩ := ih hs x hx; exact ⟨z, List.mem_cons_of_mem _ h1, h2⟩
    | skip hs => intro x hx; obtain ⟨z, h1, h2⟩ := ih hs x hx; exact ⟨z, List.mem_cons_of_mem _ h1, h2⟩
theorem emb_trans_n : ∀ (n : Nat) {a b c : Tr}, a.size + b.size + c.size ≤ n → Emb a b → Emb b c → Emb a c
  | 0, a, b, c, h, _, _ => by have := size_pos a; omega
  | n + 1, a, b, c, hn, hab, hbc => by
    cases hbc with
    | deep hk hbk => exact .deep hk (emb_trans_n n (by have := szl_mem hk; have := size_eq c; omega) hab hbk)
    | here hl hkk =>
      cases hab with
      | deep hk hak =>
        obtain ⟨y, hy, hky⟩ := hkk.mem _ hk
        exact .deep hy (emb_trans_n n (by have := szl_mem hk; have := size_eq b; have := szl_mem hy; have := size_eq c; omega) hak hky)
      | here hl2 hkk2 =>
        refine .here (hl2.trans hl) ?_
        have hs : szl a.kids + szl b.kids + szl c.kids < n + 1 := by have := size_eq a; have := size_eq b; have := size_eq c; omega
        clear hn
        generalize a.kids = xs at hkk2 hs
        generalize b.kids = ys at hkk2 hkk hs
        generalize c.kids = zs at hkk hs
        clear hl hl2
        induction zs generalizing xs ys with
        | nil => cases hkk; cases hkk2; exact .nil
        | cons z zs ihz =>
          cases hkk with
          | nil => cases hkk2; exact .nil
          | skip hkk => exact .skip (ihz xs ys hkk2 hkk (by rw [szl_cons] at hs; omega))
          | take hyz hkk =>
            rename_i y ys
            rw [szl_cons, szl_cons] at hs
            cases hkk2 with
            | nil => exact .nil
            | skip hkk2 => exact .skip (ihz xs ys hkk2 hkk (by omega))
            | take hxy hkk2 =>
              rename_i x xs
              rw [szl_cons] at hs
              exact .take (emb_trans_n n (by omega) hxy hyz) (ihz xs ys hkk2 hkk (by omega))
theorem emb_trans {a b c : Tr} (h : Emb a b) (h' : Emb b c) : Emb a c := emb_trans_n _ (Nat.le_refl _) h h'

/- growing -/
theorem EmbL.app (zs : List Tr) {xs ys : List Tr} (h : EmbL xs ys) : EmbL (zs ++ xs) (zs ++ ys) := by
  induction zs with
  | nil => exact h
  | cons z zs ih => exact .take (emb_refl z) ih
theorem embL_less (ks : List Tr) (k : Nat) : EmbL (ks.take k ++ ks.drop (k + 1)) ks := by
  by_cases hk : k < ks.length
  · have : ks = ks.take k ++ ks[k] :: ks.drop (k + 1) := by rw [← List.drop_eq_getElem_cons hk, List.take_append_drop]
    conv => rhs; rw [this]
    exact EmbL.app _ (.skip (embL_refl _))
  · rw [List.take_of_length_le (by omega), List.drop_of_length_le (by omega), List.append_nil]
    exact embL_refl _
theorem EmbL.ins (c : Tr) : ∀ (k : Nat) {xs ys : List Tr}, EmbL xs ys → EmbL xs (ys.take k ++ [c] ++ ys.drop k)
  | 0, xs, ys, h => by simpa using EmbL.skip h
  | k + 1, xs, [], h => by cases h; exact .nil
  | k + 1, xs, y :: ys, h => by
    simp only [List.take_succ_cons, List.drop_succ_cons, List.cons_append]
    cases h with
    | nil => exact .nil
    | take h hs => exact .take h (hs.ins c k)
    | skip hs => exact .skip (hs.ins c k)
theorem emb_wide {a b : Tr} (c : Tr) (k : Nat) (h : Emb a b) : Emb a (.mk b.lab (b.kids.take k ++ [c] ++ b.kids.drop k)) := by
  cases h with
  | here hl hk => exact .here hl (hk.ins c k)
  | deep hm hk =>
    refine .deep (b := .mk b.lab _) ?_ hk
    have : b.kids = b.kids.take k ++ b.kids.drop k := (List.take_append_drop _ _).symm
    rw [this] at hm
    show _ ∈ b.kids.take k ++ [c] ++ b.kids.drop k
    rcases List.mem_append.1 hm with h | h
    · simp [h]
    · simp [h]

/- valid trees -/
theorem LabIn.all {lb : Int} : ∀ (n : Nat) {t : Tr}, t.size ≤ n → LabIn lb t → ∀ s ∈ fl t, 0 ≤ s.lab ∧ s.lab < lb
  | 0, t, hn, _ => by have := size_pos t; omega
  | n + 1, t, hn, h => by
    intro s hs
    rw [fl_eq] at hs
    cases h with
    | mk hx hk =>
      rcases List.mem_cons.1 hs with rfl | hs
      · exact hx
      · obtain ⟨k, h1, h2⟩ := fls_mem.1 hs
        exact LabIn.all n (by have := szl_mem h1; rw [size_eq] at hn; omega) (hk k h1) s h2
theorem valid_of {t : Tr} {lb : Int} (hs : t.size ≤ 12) (hb : lb ≤ 16) (h : LabIn lb t) : validT t = true := by
  unfold validT
  simp only [hs, decide_true, Bool.true_and, Bool.not_eq_true']
  rw [List.any_eq_false]
  intro n hn
  obtain ⟨i, hi⟩ := List.getElem?_of_mem hn
  rw [nodes_at] at hi
  cases hf : (fl t)[i]? with
  | none => simp [hf] at hi
  | some s =>
    simp [hf] at hi
    subst hi
    have := LabIn.all t.size (Nat.le_refl _) h s (List.mem_of_getElem? hf)
    simp [badLab]; omega
theorem LabIn.kid {lb : Int} {t k : Tr} (h : LabIn lb t) (hk : k ∈ t.kids) : LabIn lb k := by cases h with | mk _ h2 => exact h2 k hk
theorem LabIn.lab {lb : Int} {t : Tr} (h : LabIn lb t) : 0 ≤ t.lab ∧ t.lab < lb := by cases h with | mk h2 _ => exact h2
theorem LabIn.mono {lb lb' : Int} (hb : lb ≤ lb') : ∀ (n : Nat) {t : Tr}, t.size ≤ n → LabIn lb t → LabIn lb' t
  | 0, t, hn, _ => by have := size_pos t; omega
  | n + 1, .mk x ks, hn, h => by
    cases h with
    | mk hx hk => exact .mk ⟨hx.1, by omega⟩ (fun k hm => LabIn.mono hb n (by have := szl_mem hm; simp only [size] at hn; omega) (hk k hm))
end Go.Proofs.Ytoofgniepbidnaa
