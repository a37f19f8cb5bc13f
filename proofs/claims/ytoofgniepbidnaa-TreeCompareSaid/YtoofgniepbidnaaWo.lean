/-
  Package tree, walked: Compare; and that it is a total order.
-/
import Derived.Test.YtoofgniepbidnaaLh
namespace Go.Proofs.Ytoofgniepbidnaa
open Go.Dv Tr

/-- the order of lists by an order of their elements -/
def cmpBy {α : Type} (c : α → α → Int) : List α → List α → Int
  | x :: a, y :: b => if c x y = 0 then cmpBy c a b else c x y
  | [], _ :: _ => -1
  | _ :: _, [] => 1
  | [], [] => 0
theorem cmpBy_at {α : Type} {c : α → α → Int} {a b : List α} {i : Nat} {x y : α} (hx : a[i]? = some x) (hy : b[i]? = some y) : cmpBy c (a.drop i) (b.drop i) = if c x y = 0 then cmpBy c (a.drop (i + 1)) (b.drop (i + 1)) else c x y := by
  obtain ⟨ha1, ha2⟩ := List.getElem?_eq_some_iff.1 hx
  obtain ⟨hb1, hb2⟩ := List.getElem?_eq_some_iff.1 hy
  rw [List.drop_eq_getElem_cons ha1, List.drop_eq_getElem_cons hb1, ha2, hb2]
  rfl
theorem cmpBy_long {α : Type} {c : α → α → Int} {a b : List α} {i : Nat} (hx : i < a.length) (hy : b.length ≤ i) : cmpBy c (a.drop i) (b.drop i) = 1 := by
  rw [List.drop_eq_getElem_cons hx, List.drop_of_length_le hy]; rfl
theorem cmpBy_end {α : Type} {c : α → α → Int} {a b : List α} {i : Nat} (hx : i = a.length) : cmpBy c (a.drop i) (b.drop i) = if a.length < b.length then -1 else 0 := by
  subst hx
  rw [List.drop_of_length_le (Nat.le_refl _)]
  by_cases h : a.length < b.length
  · rw [List.drop_eq_getElem_cons h, if_pos h]; rfl
  · rw [List.drop_of_length_le (by omega), if_neg h]; rfl
mutual
def cmpT : Tr → Tr → Int
  | .mk x ks, .mk y ls => if ord x y = 0 then (if ord ks.length ls.length = 0 then cmpTs ks ls else ord ks.length ls.length) else ord x y
def cmpTs : List Tr → List Tr → Int
  | x :: a, y :: b => if cmpT x y = 0 then cmpTs a b else cmpT x y
  | [], _ :: _ => -1
  | _ :: _, [] => 1
  | [], [] => 0
end
theorem cmpTs_by : ∀ a b : List Tr, cmpTs a b = cmpBy cmpT a b
  | [], [] => by simp [cmpTs, cmpBy]
  | [], _ :: _ => by simp [cmpTs, cmpBy]
  | _ :: _, [] => by simp [cmpTs, cmpBy]
  | x :: a, y :: b => by simp [cmpTs, cmpBy, cmpTs_by a b]
theorem cmpT_eq (a b : Tr) : cmpT a b = if ord a.lab b.lab = 0 then (if ord a.kids.length b.kids.length = 0 then cmpBy cmpT a.kids b.kids else ord a.kids.length b.kids.length) else ord a.lab b.lab := by
  cases a; cases b; simp only [cmpT, lab, kids, cmpTs_by]; rfl
theorem orL3 (x y z : Int) : orL [x, y, z] = if x = 0 then (if y = 0 then z else y) else x := by
  simp only [orL]; split <;> (try split) <;> (try split) <;> simp_all
def cmpX (a b : Tr) : Int := if a.size ≤ 12 then (if b.size ≤ 12 then cmpT a b else -1) else (if b.size ≤ 12 then 1 else 0)
theorem cmpX_small {a b : Tr} (ha : a.size ≤ 12) (hb : b.size ≤ 12) : cmpX a b = cmpT a b := by simp [cmpX, ha, hb]

/- a total order -/
theorem ordT_refl (x : Int) : ord x x = 0 := ord_zero.2 rfl
theorem ordT_anti (x y : Int) : ord x y = - ord y x := by unfold ord; split <;> (try split) <;> (try split) <;> omega
theorem cmpBy_zero {α : Type} {c : α → α → Int} : ∀ {a b : List α}, (∀ x ∈ a, ∀ y, c x y = 0 ↔ x = y) → (cmpBy c a b = 0 ↔ a = b)
  | [], [], _ => by simp [cmpBy]
  | [], _ :: _, _ => by simp [cmpBy]
  | _ :: _, [], _ => by simp [cmpBy]
  | x :: a, y :: b, h => by
    have h1 := h x List.mem_cons_self y
    have h2 := cmpBy_zero (c := c) (a := a) (b := b) (fun z hz => h z (List.mem_cons_of_mem _ hz))
    simp only [cmpBy, List.cons.injEq]
    by_cases hc : c x y = 0
    · rw [if_pos hc]; exact ⟨fun e => ⟨h1.1 hc, h2.1 e⟩, fun e => h2.2 e.2⟩
    · simp only [hc, if_false, false_iff]; exact fun e => hc (h1.2 e.1)
theorem cmpT_zero_n : ∀ (n : Nat) {a b : Tr}, a.size ≤ n → (cmpT a b = 0 ↔ a = b)
  | 0, a, b, h => by have := size_pos a; omega
  | n + 1, a, b, h => by
    have hk := cmpBy_zero (c := cmpT) (a := a.kids) (b := b.kids) (fun x hx y => cmpT_zero_n n (by have := szl_mem hx; have := size_eq a; omega))
    rw [cmpT_eq]
    by_cases h1 : ord a.lab b.lab = 0
    · rw [if_pos h1]
      by_cases h2 : ord a.kids.length b.kids.length = 0
      · rw [if_pos h2, hk]
        exact ⟨fun e => Tr.eq_of (ord_zero.1 h1) e, fun e => by rw [e]⟩
      · rw [if_neg h2]
        exact ⟨fun e => absurd e h2, fun e => by rw [e]; exact ordT_refl _⟩
    · rw [if_neg h1]
      exact ⟨fun e => absurd e h1, fun e => by rw [e]; exact ordT_refl _⟩
theorem cmpT_zero {a b : Tr} : cmpT a b = 0 ↔ a = b := cmpT_zero_n a.size (Nat.le_refl _)
theorem cmpBy_anti {α : Type} {c : α → α → Int} : ∀ {a b : List α}, (∀ x ∈ a, ∀ y, c x y = - c y x) → cmpBy c a b = - cmpBy c b a
  | [], [], _ => rfl
  | [], _ :: _, _ => rfl
  | _ :: _, [], _ => rfl
  | x :: a, y :: b, h => by
    have h1 := h x List.mem_cons_self y
    have h2 := cmpBy_anti (c := c) (a := a) (b := b) (fun z hz => h z (List.mem_cons_of_mem _ hz))
    simp only [cmpBy]; split <;> split <;> omega
theorem cmpT_anti_n : ∀ (n : Nat) {a b : Tr}, a.size ≤ n → cmpT a b = - cmpT b a
  | 0, a, b, h => by have := size_pos a; omega
  | n + 1, a, b, h => by
    have hk := cmpBy_anti (c := cmpT) (a := a.kids) (b := b.kids) (fun x hx y => cmpT_anti_n n (by have := szl_mem hx; have := size_eq a; omega))
    have h1 := ordT_anti a.lab b.lab
    have h2 := ordT_anti a.kids.length b.kids.length
    rw [cmpT_eq a b, cmpT_eq b a]
    split <;> split <;> (try split) <;> (try split) <;> omega
theorem cmpT_anti (a b : Tr) : cmpT a b = - cmpT b a := cmpT_anti_n a.size (Nat.le_refl _)
theorem ord_lt (x y : Int) : ord x y = -1 ∧ x < y ∨ ord x y = 0 ∧ x = y ∨ ord x y = 1 ∧ y < x := ord_cases x y
theorem cmpBy_trans {c : Tr → Tr → Int} : ∀ {a b d : List Tr}, (∀ x ∈ a, ∀ y ∈ b, ∀ z ∈ d, c x y ≤ 0 → c y z ≤ 0 → c x z ≤ 0 ∧ (c x z = 0 → c x y = 0 ∧ c y z = 0)) → a.length = b.length → b.length = d.length → cmpBy c a b ≤ 0 → cmpBy c b d ≤ 0 → cmpBy c a d ≤ 0 ∧ (cmpBy c a d = 0 → cmpBy c a b = 0 ∧ cmpBy c b d = 0)
  | [], [], [], _, _, _, _, _ => by simp [cmpBy]
  | [], _ :: _, _, _, h, _, _, _ => by simp at h
  | _ :: _, [], _, _, h, _, _, _ => by simp at h
  | _, [], _ :: _, _, _, h, _, _ => by simp at h
  | _, _ :: _, [], _, _, h, _, _ => by simp at h
  | x :: a, y :: b, z :: d, hc, h1, h2, h3, h4 => by
    have ih := cmpBy_trans (c := c) (a := a) (b := b) (d := d) (fun x hx y hy z hz => hc x (List.mem_cons_of_mem _ hx) y (List.mem_cons_of_mem _ hy) z (List.mem_cons_of_mem _ hz)) (by simpa using h1) (by simpa using h2)
    have h0 := hc x List.mem_cons_self y List.mem_cons_self z List.mem_cons_self
    simp only [cmpBy] at h3 h4 ⊢
    by_cases e1 : c x y = 0
    · by_cases e2 : c y z = 0
      · have h5 := h0 (by omega) (by omega)
        simp only [e1, e2, if_true] at h3 h4 ⊢
        have ih2 := ih h3 h4
        by_cases e3 : c x z = 0
        · simp only [e3, if_true]; exact ih2
        · rw [if_neg e3]; exact ⟨h5.1, fun e => absurd e e3⟩
      · simp only [e1, e2, if_true, if_false] at h3 h4 ⊢
        have h5 := h0 (by omega) h4
        have e3 : c x z ≠ 0 := fun e => e2 (h5.2 e).2
        rw [if_neg e3]
        exact ⟨h5.1, fun e => absurd e e3⟩
    · simp only [e1, if_false] at h3 ⊢
      have h4' : c y z ≤ 0 := by split at h4 <;> omega
      have h5 := h0 h3 h4'
      have e3 : c x z ≠ 0 := fun e => e1 (h5.2 e).1
      rw [if_neg e3]
      exact ⟨h5.1, fun e => absurd e e3⟩
theorem cmpT_trans_n : ∀ (n : Nat) {a b c : Tr}, a.size ≤ n → cmpT a b ≤ 0 → cmpT b c ≤ 0 → cmpT a c ≤ 0 ∧ (cmpT a c = 0 → cmpT a b = 0 ∧ cmpT b c = 0)
  | 0, a, b, c, h, _, _ => by have := size_pos a; omega
  | n + 1, a, b, c, h, h1, h2 => by
    have hk := fun hl1 hl2 => cmpBy_trans (c := cmpT) (a := a.kids) (b := b.kids) (d := c.kids) (fun x hx y _ z _ => cmpT_trans_n n (by have := szl_mem hx; have := size_eq a; omega)) hl1 hl2
    rw [cmpT_eq] at h1 h2
    rw [cmpT_eq a c, cmpT_eq a b, cmpT_eq b c]
    have o1 := ord_lt a.lab b.lab
    have o2 := ord_lt b.lab c.lab
    have o3 := ord_lt a.lab c.lab
    have p1 := ord_lt a.kids.length b.kids.length
    have p2 := ord_lt b.kids.length c.kids.length
    have p3 := ord_lt a.kids.length c.kids.length
    by_cases e1 : ord a.lab b.lab = 0
    · by_cases e2 : ord b.lab c.lab = 0
      · have e3 : ord a.lab c.lab = 0 := by omega
        simp only [e1, e2, e3, if_true] at h1 h2 ⊢
        by_cases f1 : ord (a.kids.length : Int) b.kids.length = 0
        · by_cases f2 : ord (b.kids.length : Int) c.kids.length = 0
          · have f3 : ord (a.kids.length : Int) c.kids.length = 0 := by omega
            simp only [f1, f2, f3, if_true] at h1 h2 ⊢
            exact hk (by omega) (by omega) h1 h2
          · have f3 : ord (a.kids.length : Int) c.kids.length = ord (b.kids.length : Int) c.kids.length := by omega
            rw [if_neg f2] at h2
            rw [f3, if_neg f2, if_neg f2]
            exact ⟨h2, fun e => absurd e f2⟩
        · simp only [f1, if_false] at h1 ⊢
          have f3 : ord (a.kids.length : Int) c.kids.length = -1 := by split at h2 <;> omega
          simp only [f3]; simp
      · have e3 : ord a.lab c.lab = ord b.lab c.lab := by omega
        rw [if_neg e2] at h2
        rw [e3, if_neg e2, if_neg e2]
        exact ⟨h2, fun e => absurd e e2⟩
    · simp only [e1, if_false] at h1 ⊢
      have e3 : ord a.lab c.lab = -1 := by split at h2 <;> omega
      simp only [e3]; simp
theorem cmpT_trans {a b c : Tr} (h1 : cmpT a b ≤ 0) (h2 : cmpT b c ≤ 0) : cmpT a c ≤ 0 := (cmpT_trans_n a.size (Nat.le_refl _) h1 h2).1
theorem cmpT_lab {a b : Tr} (h : a.lab < b.lab) : cmpT a b = -1 := by
  have := ord_lt a.lab b.lab
  rw [cmpT_eq, if_neg (by omega)]; omega

noncomputable def cCompareF : Code := Try.f90.body.getD .skip
set_option maxRecDepth 20000 in
theorem compareF_loop (fo : FuncId) (fs cs : List V) (a b : List Tr) (c : Tr → Tr → Int) (hf : ∀ x ∈ a, ∀ y ∈ b, FSpec PP fo (fs.map .v ++ [dt x, dt y] ++ cs.map .v) σ0 (di (c x y)) σ0) (hs : a.length ≤ 1000000) (m : Nat) : ∀ i : Nat, a.length - i = m → i ≤ a.length → cmpBy c a b = cmpBy c (a.drop i) (b.drop i) → Run PP (fun env σ1 => ResOK PP Try.f90 env σ1 (di (cmpBy c a b)) σ0) [.lp (sub cCompareF [1, 0, 1, 0, 0]), .blk 0, .code (sub cCompareF [1, 1])] ((.v (vtl a)) :: (.v (vtl b)) :: (.v (.fn fo fs cs)) :: .undef :: .undef :: .undef :: .undef :: .undef :: .undef :: .undef :: .undef :: (.v (vtl a)) :: (di ↑a.length) :: (di ↑i) :: .undef :: .undef :: .undef :: .undef :: .undef :: .undef :: .undef :: .undef :: .undef :: .undef :: .undef :: .undef :: .undef :: .undef :: .undef :: .undef :: .undef :: .undef :: .undef :: .undef :: .undef :: .undef :: .undef :: .undef :: .undef :: []) σ0 := by
  induction m using Nat.strongRecOn with
  | _ m ih =>
    intro i hm hi hb
    refine run_lp ?_
    refine at_seq [1, 0, 1, 0, 0, 0] [1, 0, 1, 0, 0, 1] rfl ?_
    refine at_region rfl ?_
    refine at_op (some 14) rfl rfl rfl rfl (op_binI rfl rfl) (by dsimp only [putD, List.set]) ?_
    refine at_end rfl ?_
    refine at_seq [1, 0, 1, 0, 0, 1, 0] [1, 0, 1, 0, 0, 1, 1] rfl ?_
    refine at_cond [1, 0, 1, 0, 0, 1, 0, 0] [1, 0, 1, 0, 0, 1, 0, 1] rfl rfl (fun hc1 => ?_) (fun hc1 => ?_)
    · skip
      have hlt : i < a.length := by simpa using hc1
      obtain ⟨x, hx⟩ := get_ex hlt
      have hx2 := idx_tree hx
      refine at_skip rfl ?_
      refine at_seq [1, 0, 1, 0, 0, 1, 1, 0] [1, 0, 1, 0, 0, 1, 1, 1] rfl ?_
      refine at_block [1, 0, 1, 0, 0, 1, 1, 0, 0] 1 rfl ?_
      refine at_seq [1, 0, 1, 0, 0, 1, 1, 0, 0, 0] [1, 0, 1, 0, 0, 1, 1, 0, 0, 1] rfl ?_
      refine at_region rfl ?_
      refine at_mv 13 15 rfl rfl rfl (.inl rfl) rfl (by dsimp only [List.set]) ?_
      first | (refine at_op (some 16) rfl rfl rfl rfl (op_idxL rfl fsl_Sapi_Tree (by first | decide | omega) (by first | assumption | exact idx_some (by assumption) | rfl) (by first | rfl | (simp [V.size]; done))) (by dsimp only [putD, List.set]) ?_) | (refine at_op (some 16) rfl rfl rfl rfl (opOK_un (op_idxL rfl fsl_Sapi_Tree (by first | decide | omega) (by first | assumption | exact idx_some (by assumption) | rfl) (by first | rfl | (simp [V.size]; done)))) (by dsimp only [putD, List.set]) ?_) | (refine at_op (some 16) rfl rfl rfl rfl (op_idxA rfl fsl_Sapi_Tree (by first | decide | omega) (by first | decide | omega)) (by dsimp only [putD, List.set]) ?_)
      first | (refine at_op (some 17) rfl rfl rfl rfl (op_loadRA rfl fagg_api_Tree) (by dsimp only [putD, List.set]) ?_) | (refine at_op (some 17) rfl rfl rfl rfl (op_loadPA rfl fagg_api_Tree rfl (by first | decide | simp) rfl) (by dsimp only [putD, List.set]) ?_)
      refine at_new1 17 8 15 7 rfl rfl rfl rfl fzero_api_Tree rfl rfl rfl (.inr rfl) rfl (by decide) (by decide) (by decide) rfl rfl rfl rfl (by decide) rfl rfl fagg_api_Tree (by first | rfl | (simp [V.size]; done)) rfl (by simp only [List.length_cons]; omega) (by dsimp only [List.set]) ?_
      refine at_end rfl ?_
      refine at_seq [1, 0, 1, 0, 0, 1, 1, 0, 0, 1, 0] [1, 0, 1, 0, 0, 1, 1, 0, 0, 1, 1] rfl ?_
      refine at_seq [1, 0, 1, 0, 0, 1, 1, 0, 0, 1, 0, 0] [1, 0, 1, 0, 0, 1, 1, 0, 0, 1, 0, 1] rfl ?_
      refine at_region rfl ?_
      refine at_mv 7 18 rfl rfl rfl (.inl rfl) rfl (by dsimp only [List.set]) ?_
      refine at_mv 1 19 rfl rfl rfl (.inl rfl) rfl (by dsimp only [List.set]) ?_
      first | (refine at_op (some 20) rfl rfl rfl rfl (op_lenL rfl fu_Sapi_Tree) (by dsimp only [putD, List.set]) ?_) | (refine at_op (some 20) rfl rfl rfl rfl (opOK_un (op_lenL rfl fu_Sapi_Tree)) (by dsimp only [putD, List.set]) ?_) | (refine at_op (some 20) rfl rfl rfl rfl (op_lenA rfl fu_Sapi_Tree) (by dsimp only [putD, List.set]) ?_)
      refine at_op (some 21) rfl rfl rfl rfl (op_binI rfl rfl) (by dsimp only [putD, List.set]) ?_
      refine at_end rfl ?_
      refine at_cond [1, 0, 1, 0, 0, 1, 1, 0, 0, 1, 0, 1, 0] [1, 0, 1, 0, 0, 1, 1, 0, 0, 1, 0, 1, 1] rfl rfl (fun hc2 => ?_) (fun hc2 => ?_)
      · skip
        have hge : b.length ≤ i := by simpa using hc2
        rw [cmpBy_long hlt hge] at hb
        refine at_seq [1, 0, 1, 0, 0, 1, 1, 0, 0, 1, 0, 1, 0, 0] [1, 0, 1, 0, 0, 1, 1, 0, 0, 1, 0, 1, 0, 1] rfl ?_
        refine at_region rfl ?_
        refine at_mc 6 rfl rfl rfl (.inr rfl) (by dsimp only [constD]) (by dsimp only [List.set]) ?_
        refine at_end rfl ?_
        refine at_ret rfl (ret_one (t := 6) rfl rfl ?_ rfl)
        first | (rw [hb]; done) | (simp_all; done) | (simp_all; omega)
      · skip
        have hlb : i < b.length := by simpa using hc2
        obtain ⟨y, hy⟩ := get_ex hlb
        rw [cmpBy_at hx hy] at hb
        have hy2 := idx_tree hy
        refine at_skip rfl ?_
        refine at_seq [1, 0, 1, 0, 0, 1, 1, 0, 0, 1, 1, 0] [1, 0, 1, 0, 0, 1, 1, 0, 0, 1, 1, 1] rfl ?_
        refine at_region rfl ?_
        refine at_mv 1 22 rfl rfl rfl (.inl rfl) rfl (by dsimp only [List.set]) ?_
        refine at_mv 7 23 rfl rfl rfl (.inl rfl) rfl (by dsimp only [List.set]) ?_
        first | (refine at_op (some 24) rfl rfl rfl rfl (op_idxL rfl fsl_Sapi_Tree (by first | decide | omega) (by first | assumption | exact idx_some (by assumption) | rfl) (by first | rfl | (simp [V.size]; done))) (by dsimp only [putD, List.set]) ?_) | (refine at_op (some 24) rfl rfl rfl rfl (opOK_un (op_idxL rfl fsl_Sapi_Tree (by first | decide | omega) (by first | assumption | exact idx_some (by assumption) | rfl) (by first | rfl | (simp [V.size]; done)))) (by dsimp only [putD, List.set]) ?_) | (refine at_op (some 24) rfl rfl rfl rfl (op_idxA rfl fsl_Sapi_Tree (by first | decide | omega) (by first | decide | omega)) (by dsimp only [putD, List.set]) ?_)
        first | (refine at_op (some 25) rfl rfl rfl rfl (op_loadRA rfl fagg_api_Tree) (by dsimp only [putD, List.set]) ?_) | (refine at_op (some 25) rfl rfl rfl rfl (op_loadPA rfl fagg_api_Tree rfl (by first | decide | simp) rfl) (by dsimp only [putD, List.set]) ?_)
        refine at_new 25 9 rfl rfl rfl rfl fzero_api_Tree rfl rfl rfl rfl (by decide) rfl rfl fagg_api_Tree (by first | rfl | (simp [V.size]; done)) rfl (by simp only [List.length_cons]; omega) (by dsimp only [List.set]) ?_
        refine at_end rfl ?_
        refine at_seq [1, 0, 1, 0, 0, 1, 1, 0, 0, 1, 1, 1, 0] [1, 0, 1, 0, 0, 1, 1, 0, 0, 1, 1, 1, 1] rfl ?_
        refine at_region rfl ?_
        refine at_mv 2 26 rfl rfl rfl (.inl rfl) rfl (by dsimp only [List.set]) ?_
        first | (refine at_op (some 27) rfl rfl rfl rfl (op_loadRA rfl fagg_api_Tree) (by dsimp only [putD, List.set]) ?_) | (refine at_op (some 27) rfl rfl rfl rfl (op_loadPA rfl fagg_api_Tree rfl (by first | decide | simp) rfl) (by dsimp only [putD, List.set]) ?_)
        first | (refine at_op (some 28) rfl rfl rfl rfl (op_loadRA rfl fagg_api_Tree) (by dsimp only [putD, List.set]) ?_) | (refine at_op (some 28) rfl rfl rfl rfl (op_loadPA rfl fagg_api_Tree rfl (by first | decide | simp) rfl) (by dsimp only [putD, List.set]) ?_)
        refine at_op (some 29) rfl rfl rfl rfl (op_call0 rfl rfl rfl rfl (hf x (List.mem_of_getElem? hx) y (List.mem_of_getElem? hy))) (by dsimp only [putD, List.set]) ?_
        refine at_mv 29 10 rfl rfl rfl (.inr rfl) rfl (by dsimp only [List.set]) ?_
        refine at_end rfl ?_
        refine at_seq [1, 0, 1, 0, 0, 1, 1, 0, 0, 1, 1, 1, 1, 0] [1, 0, 1, 0, 0, 1, 1, 0, 0, 1, 1, 1, 1, 1] rfl ?_
        refine at_region rfl ?_
        refine at_mv 10 30 rfl rfl rfl (.inl rfl) rfl (by dsimp only [List.set]) ?_
        refine at_op (some 31) rfl rfl rfl rfl (op_binI rfl rfl) (by dsimp only [putD, List.set]) ?_
        refine at_end rfl ?_
        refine at_cond [1, 0, 1, 0, 0, 1, 1, 0, 0, 1, 1, 1, 1, 1, 0] [1, 0, 1, 0, 0, 1, 1, 0, 0, 1, 1, 1, 1, 1, 1] rfl rfl (fun hc3 => ?_) (fun hc3 => ?_)
        · skip
          refine at_seq [1, 0, 1, 0, 0, 1, 1, 0, 0, 1, 1, 1, 1, 1, 0, 0] [1, 0, 1, 0, 0, 1, 1, 0, 0, 1, 1, 1, 1, 1, 0, 1] rfl ?_
          refine at_region rfl ?_
          refine at_mv 10 32 rfl rfl rfl (.inl rfl) rfl (by dsimp only [List.set]) ?_
          refine at_mv 32 6 rfl rfl rfl (.inr rfl) rfl (by dsimp only [List.set]) ?_
          refine at_end rfl ?_
          refine at_ret rfl (ret_one (t := 6) rfl rfl ?_ rfl)
          first | (rw [hb]; done) | (simp_all; done) | (simp_all; omega)
        · skip
          refine at_skip rfl ?_
          refine run_blk ?_
          refine at_region rfl ?_
          refine at_op (some 33) rfl rfl rfl rfl (op_binI rfl rfl) (by dsimp only [putD, List.set]) ?_
          refine at_mv 33 13 rfl rfl rfl (.inl rfl) rfl (by dsimp only [List.set]) ?_
          refine at_end rfl ?_
          rw [wrap_succ (by omega)]
          exact run_wk (.keep (.keep (.keep (.drop (.drop (.drop (.drop (.drop (.drop (.drop (.drop (.keep (.keep (.keep (.drop (.drop (.drop (.drop (.drop (.drop (.drop (.drop (.drop (.drop (.drop (.drop (.drop (.drop (.drop (.drop (.drop (.drop (.drop (.drop (.drop (.drop (.drop (.drop (.drop .nil))))))))))))))))))))))))))))))))))))))) (ih _ (by omega) (i + 1) rfl (by omega) (by simp_all))
    · skip
      have hge : a.length ≤ i := by simpa using hc1
      rw [cmpBy_end (by omega)] at hb
      refine at_exit rfl rfl ?_
      refine at_seq [1, 1, 0] [1, 1, 1] rfl ?_
      refine at_seq [1, 1, 0, 0] [1, 1, 0, 1] rfl ?_
      refine at_region rfl ?_
      refine at_mv 0 34 rfl rfl rfl (.inl rfl) rfl (by dsimp only [List.set]) ?_
      first | (refine at_op (some 35) rfl rfl rfl rfl (op_lenL rfl fu_Sapi_Tree) (by dsimp only [putD, List.set]) ?_) | (refine at_op (some 35) rfl rfl rfl rfl (opOK_un (op_lenL rfl fu_Sapi_Tree)) (by dsimp only [putD, List.set]) ?_) | (refine at_op (some 35) rfl rfl rfl rfl (op_lenA rfl fu_Sapi_Tree) (by dsimp only [putD, List.set]) ?_)
      refine at_mv 1 36 rfl rfl rfl (.inl rfl) rfl (by dsimp only [List.set]) ?_
      first | (refine at_op (some 37) rfl rfl rfl rfl (op_lenL rfl fu_Sapi_Tree) (by dsimp only [putD, List.set]) ?_) | (refine at_op (some 37) rfl rfl rfl rfl (opOK_un (op_lenL rfl fu_Sapi_Tree)) (by dsimp only [putD, List.set]) ?_) | (refine at_op (some 37) rfl rfl rfl rfl (op_lenA rfl fu_Sapi_Tree) (by dsimp only [putD, List.set]) ?_)
      refine at_op (some 38) rfl rfl rfl rfl (op_binI rfl rfl) (by dsimp only [putD, List.set]) ?_
      refine at_end rfl ?_
      refine at_cond [1, 1, 0, 1, 0] [1, 1, 0, 1, 1] rfl rfl (fun hc4 => ?_) (fun hc4 => ?_)
      · skip
        refine at_seq [1, 1, 0, 1, 0, 0] [1, 1, 0, 1, 0, 1] rfl ?_
        refine at_region rfl ?_
        refine at_mc 6 rfl rfl rfl (.inr rfl) (by dsimp only [constD]) (by dsimp only [List.set]) ?_
        refine at_end rfl ?_
        refine at_ret rfl (ret_one (t := 6) rfl rfl ?_ rfl)
        first | (rw [hb]; done) | (simp_all; done) | (simp_all; omega)
      · skip
        refine at_skip rfl ?_
        refine at_seq [1, 1, 1, 0] [1, 1, 1, 1] rfl ?_
        refine at_region rfl ?_
        refine at_mc 6 rfl rfl rfl (.inr rfl) (by dsimp only [constD]) (by dsimp only [List.set]) ?_
        refine at_end rfl ?_
        refine at_ret rfl (ret_one (t := 6) rfl rfl ?_ rfl)
        first | (rw [hb]; done) | (simp_all; done) | (simp_all; omega)

set_option maxRecDepth 20000 in
theorem compareF_spec (fo : FuncId) (fs cs : List V) (a b : List Tr) (c : Tr → Tr → Int) (hf : ∀ x ∈ a, ∀ y ∈ b, FSpec PP fo (fs.map .v ++ [dt x, dt y] ++ cs.map .v) σ0 (di (c x y)) σ0) (hs : a.length ≤ 1000000) : FSpec PP 90 [.v (vtl a), .v (vtl b), .v (.fn fo fs cs)] σ0 (di (cmpBy c a b)) σ0 := by
  refine spec_at cCompareF Try.func90 rfl (by kernel_rfl) (by first | decide | simp) _ (by dsimp only [Try.f90, List.length, Nat.reduceAdd, Nat.reduceSub, List.replicate, List.cons_append, List.nil_append]) ?_
  refine at_seq [0] [1] rfl ?_
  refine at_region rfl ?_
  refine at_mc 6 rfl rfl rfl (.inr rfl) (by dsimp only [constD]) (by dsimp only [List.set]) ?_
  refine at_end rfl ?_
  refine at_seq [1, 0] [1, 1] rfl ?_
  refine at_seq [1, 0, 0] [1, 0, 1] rfl ?_
  refine at_region rfl ?_
  refine at_mv 0 11 rfl rfl rfl (.inl rfl) rfl (by dsimp only [List.set]) ?_
  first | (refine at_op (some 12) rfl rfl rfl rfl (op_lenL rfl fu_Sapi_Tree) (by dsimp only [putD, List.set]) ?_) | (refine at_op (some 12) rfl rfl rfl rfl (opOK_un (op_lenL rfl fu_Sapi_Tree)) (by dsimp only [putD, List.set]) ?_) | (refine at_op (some 12) rfl rfl rfl rfl (op_lenA rfl fu_Sapi_Tree) (by dsimp only [putD, List.set]) ?_)
  refine at_mc 13 rfl rfl rfl (.inl rfl) (by dsimp only [constD]) (by dsimp only [List.set]) ?_
  refine at_end rfl ?_
  refine at_block [1, 0, 1, 0] 0 rfl ?_
  refine at_loop [1, 0, 1, 0, 0] rfl ?_
  try simp only [List.length_map, List.length_nil, Int.toNat_natCast]
  exact run_wk (.keep (.keep (.keep (.drop (.drop (.drop (.drop (.drop (.drop (.drop (.drop (.keep (.keep (.keep (.drop (.drop (.drop (.drop (.drop (.drop (.drop (.drop (.drop (.drop (.drop (.drop (.drop (.drop (.drop (.drop (.drop (.drop (.drop (.drop (.drop (.drop (.drop (.drop (.drop .nil))))))))))))))))))))))))))))))))))))))) (compareF_loop fo fs cs a b c hf hs _ 0 rfl (by omega) (by simp))

noncomputable def cTCompare : Code := Try.f76.body.getD .skip
set_option maxRecDepth 20000 in
theorem tcompare_ok (N : Nat) : ∀ (a b : Tr), a.size = N → a.size ≤ 1000000 → FSpec PP 76 [dt a, dt b] σ0 (di (cmpT a b)) σ0 := by
  induction N using Nat.strongRecOn with
  | _ N ih =>
  intro a b hN hs
  have hz := size_eq a
  have hkl := szl_len a.kids
  refine spec_at cTCompare Try.func76 rfl (by kernel_rfl) (by first | decide | simp) _ (by dsimp only [Try.f76, List.length, Nat.reduceAdd, Nat.reduceSub, List.replicate, List.cons_append, List.nil_append]) ?_
  refine at_seq [0] [1] rfl ?_
  refine at_region rfl ?_
  refine at_op (some 2) rfl rfl rfl rfl (op_boxI rfl rfl) (by dsimp only [putD, List.set]) ?_
  refine at_op (some 3) rfl rfl rfl rfl (op_boxI rfl rfl) (by dsimp only [putD, List.set]) ?_
  refine at_mc 4 rfl rfl rfl (.inr rfl) (by dsimp only [constD]) (by dsimp only [List.set]) ?_
  refine at_end rfl ?_
  refine at_seq [1, 0] [1, 1] rfl ?_
  refine at_draw mixed rfl [σ0] rfl ?_
  first | (refine da_quiet (some 5) rfl rfl rfl rfl (fun s hs => op_fieldP rfl ffld0_api_Tree (by decide)) (by dsimp only [putD, List.set]) ?_) | (refine da_quiet (some 5) rfl rfl rfl rfl (fun s hs => op_fieldR rfl ffld0_api_Tree (by decide) (by decide) rfl) (by dsimp only [putD, List.set]) ?_)
  first | (refine da_quiet (some 6) rfl rfl rfl rfl (fun s hs => op_loadR1 rfl fone_int rfl) (by dsimp only [putD, List.set]) ?_) | (refine da_quiet (some 6) rfl rfl rfl rfl (by intro s hs; simp only [List.mem_cons, List.not_mem_nil, or_false] at hs; rcases hs with rfl <;> exact op_loadP1 rfl fone_int rfl rfl) (by dsimp only [putD, List.set]) ?_)
  first | (refine da_quiet (some 7) rfl rfl rfl rfl (fun s hs => op_fieldP rfl ffld0_api_Tree (by decide)) (by dsimp only [putD, List.set]) ?_) | (refine da_quiet (some 7) rfl rfl rfl rfl (fun s hs => op_fieldR rfl ffld0_api_Tree (by decide) (by decide) rfl) (by dsimp only [putD, List.set]) ?_)
  first | (refine da_quiet (some 8) rfl rfl rfl rfl (fun s hs => op_loadR1 rfl fone_int rfl) (by dsimp only [putD, List.set]) ?_) | (refine da_quiet (some 8) rfl rfl rfl rfl (by intro s hs; simp only [List.mem_cons, List.not_mem_nil, or_false] at hs; rcases hs with rfl <;> exact op_loadP1 rfl fone_int rfl rfl) (by dsimp only [putD, List.set]) ?_)
  refine da_quiet (some 9) rfl rfl rfl rfl (fun s hs => op_call0 rfl rfl rfl rfl (compare_spec _ _)) (by dsimp only [putD, List.set]) ?_
  first | (refine da_quiet (some 10) rfl rfl rfl rfl (fun s hs => op_fieldP rfl ffld1_api_Tree (by decide)) (by dsimp only [putD, List.set]) ?_) | (refine da_quiet (some 10) rfl rfl rfl rfl (fun s hs => op_fieldR rfl ffld1_api_Tree (by decide) (by decide) rfl) (by dsimp only [putD, List.set]) ?_)
  first | (refine da_quiet (some 11) rfl rfl rfl rfl (fun s hs => op_loadR1 rfl fone_Sapi_Tree rfl) (by dsimp only [putD, List.set]) ?_) | (refine da_quiet (some 11) rfl rfl rfl rfl (by intro s hs; simp only [List.mem_cons, List.not_mem_nil, or_false] at hs; rcases hs with rfl <;> exact op_loadP1 rfl fone_Sapi_Tree rfl rfl) (by dsimp only [putD, List.set]) ?_)
  first | (refine da_quiet (some 12) rfl rfl rfl rfl (fun s hs => op_lenL rfl fu_Sapi_Tree) (by dsimp only [putD, List.set]) ?_) | (refine da_quiet (some 12) rfl rfl rfl rfl (fun s hs => opOK_un (op_lenL rfl fu_Sapi_Tree)) (by dsimp only [putD, List.set]) ?_) | (refine da_quiet (some 12) rfl rfl rfl rfl (fun s hs => op_lenA rfl fu_Sapi_Tree) (by dsimp only [putD, List.set]) ?_)
  first | (refine da_quiet (some 13) rfl rfl rfl rfl (fun s hs => op_fieldP rfl ffld1_api_Tree (by decide)) (by dsimp only [putD, List.set]) ?_) | (refine da_quiet (some 13) rfl rfl rfl rfl (fun s hs => op_fieldR rfl ffld1_api_Tree (by decide) (by decide) rfl) (by dsimp only [putD, List.set]) ?_)
  first | (refine da_quiet (some 14) rfl rfl rfl rfl (fun s hs => op_loadR1 rfl fone_Sapi_Tree rfl) (by dsimp only [putD, List.set]) ?_) | (refine da_quiet (some 14) rfl rfl rfl rfl (by intro s hs; simp only [List.mem_cons, List.not_mem_nil, or_false] at hs; rcases hs with rfl <;> exact op_loadP1 rfl fone_Sapi_Tree rfl rfl) (by dsimp only [putD, List.set]) ?_)
  first | (refine da_quiet (some 15) rfl rfl rfl rfl (fun s hs => op_lenL rfl fu_Sapi_Tree) (by dsimp only [putD, List.set]) ?_) | (refine da_quiet (some 15) rfl rfl rfl rfl (fun s hs => opOK_un (op_lenL rfl fu_Sapi_Tree)) (by dsimp only [putD, List.set]) ?_) | (refine da_quiet (some 15) rfl rfl rfl rfl (fun s hs => op_lenA rfl fu_Sapi_Tree) (by dsimp only [putD, List.set]) ?_)
  refine da_quiet (some 16) rfl rfl rfl rfl (fun s hs => op_call0 rfl rfl rfl rfl (compare_spec _ _)) (by dsimp only [putD, List.set]) ?_
  simp only [List.length_map]
  first | (refine da_quiet (some 17) rfl rfl rfl rfl (fun s hs => op_fieldP rfl ffld1_api_Tree (by decide)) (by dsimp only [putD, List.set]) ?_) | (refine da_quiet (some 17) rfl rfl rfl rfl (fun s hs => op_fieldR rfl ffld1_api_Tree (by decide) (by decide) rfl) (by dsimp only [putD, List.set]) ?_)
  first | (refine da_quiet (some 18) rfl rfl rfl rfl (fun s hs => op_loadR1 rfl fone_Sapi_Tree rfl) (by dsimp only [putD, List.set]) ?_) | (refine da_quiet (some 18) rfl rfl rfl rfl (by intro s hs; simp only [List.mem_cons, List.not_mem_nil, or_false] at hs; rcases hs with rfl <;> exact op_loadP1 rfl fone_Sapi_Tree rfl rfl) (by dsimp only [putD, List.set]) ?_)
  first | (refine da_quiet (some 19) rfl rfl rfl rfl (fun s hs => op_fieldP rfl ffld1_api_Tree (by decide)) (by dsimp only [putD, List.set]) ?_) | (refine da_quiet (some 19) rfl rfl rfl rfl (fun s hs => op_fieldR rfl ffld1_api_Tree (by decide) (by decide) rfl) (by dsimp only [putD, List.set]) ?_)
  first | (refine da_quiet (some 20) rfl rfl rfl rfl (fun s hs => op_loadR1 rfl fone_Sapi_Tree rfl) (by dsimp only [putD, List.set]) ?_) | (refine da_quiet (some 20) rfl rfl rfl rfl (by intro s hs; simp only [List.mem_cons, List.not_mem_nil, or_false] at hs; rcases hs with rfl <;> exact op_loadP1 rfl fone_Sapi_Tree rfl rfl) (by dsimp only [putD, List.set]) ?_)
  refine da_quiet (some 21) rfl rfl rfl rfl (fun s hs => op_call0 rfl rfl rfl rfl (compareF_spec 76 [] [] a.kids b.kids cmpT (fun x hx y _ => ih x.size (by have := szl_mem hx; omega) x y rfl (by have := szl_mem hx; omega)) (by omega))) (by dsimp only [putD, List.set]) ?_
  refine da_quiet (some 22) rfl rfl rfl rfl (fun s hs => op_buildSlice rfl (by rfl) (by rfl) fsl_Sint rfl rfl (by simp [V.size]) (by decide) (by decide) (by decide)) (by dsimp only [putD, List.set]) ?_
  refine da_quiet (some 23) rfl rfl rfl rfl (fun s hs => op_call0 rfl rfl rfl rfl (or_spec [ord a.lab b.lab, ord a.kids.length b.kids.length, cmpBy cmpT a.kids b.kids] (by simp))) (by dsimp only [putD, List.set]) ?_
  refine da_mv 23 4 rfl rfl rfl (.inr rfl) rfl (by dsimp only [List.set]) ?_
  refine da_end rfl ⟨by decide +kernel, _, rfl, ?_⟩
  refine at_ret rfl (ret_one (t := 4) rfl rfl ?_ rfl)
  rw [cmpT_eq, orL3]

noncomputable def cTCompareX : Code := Try.f45.body.getD .skip
set_option maxRecDepth 20000 in
theorem tcompareX_spec (a b : Tr) (ha : a.size ≤ 1000000) (hb : b.size ≤ 1000000) : FSpec PP 45 [dt a, dt b] σ0 (di (cmpX a b)) σ0 := by
  refine spec_at cTCompareX Try.func45 rfl (by kernel_rfl) (by first | decide | simp) _ (by dsimp only [Try.f45, List.length, Nat.reduceAdd, Nat.reduceSub, List.replicate, List.cons_append, List.nil_append]) ?_
  refine at_seq [0] [1] rfl ?_
  refine at_region rfl ?_
  refine at_op (some 2) rfl rfl rfl rfl (op_boxI rfl rfl) (by dsimp only [putD, List.set]) ?_
  refine at_op (some 3) rfl rfl rfl rfl (op_boxI rfl rfl) (by dsimp only [putD, List.set]) ?_
  refine at_mc 4 rfl rfl rfl (.inr rfl) (by dsimp only [constD]) (by dsimp only [List.set]) ?_
  refine at_end rfl ?_
  refine at_seq [1, 0] [1, 1] rfl ?_
  refine at_seq [1, 0, 0] [1, 0, 1] rfl ?_
  refine at_draw mixed rfl [σ0] rfl ?_
  first | (refine da_quiet (some 7) rfl rfl rfl rfl (fun s hs => op_loadRA rfl fagg_api_Tree) (by dsimp only [putD, List.set]) ?_) | (refine da_quiet (some 7) rfl rfl rfl rfl (by intro s hs; simp only [List.mem_cons, List.not_mem_nil, or_false] at hs; rcases hs with rfl <;> exact op_loadPA rfl fagg_api_Tree rfl (by first | decide | simp) rfl) (by dsimp only [putD, List.set]) ?_)
  refine da_quiet (some 8) rfl rfl rfl rfl (fun s hs => op_call0 rfl rfl rfl rfl (tsmall_spec a (by omega))) (by dsimp only [putD, List.set]) ?_
  first | (refine da_quiet (some 9) rfl rfl rfl rfl (fun s hs => op_loadRA rfl fagg_api_Tree) (by dsimp only [putD, List.set]) ?_) | (refine da_quiet (some 9) rfl rfl rfl rfl (by intro s hs; simp only [List.mem_cons, List.not_mem_nil, or_false] at hs; rcases hs with rfl <;> exact op_loadPA rfl fagg_api_Tree rfl (by first | decide | simp) rfl) (by dsimp only [putD, List.set]) ?_)
  refine da_quiet (some 10) rfl rfl rfl rfl (fun s hs => op_call0 rfl rfl rfl rfl (tsmall_spec b (by omega))) (by dsimp only [putD, List.set]) ?_
  refine da_mv 8 5 rfl rfl rfl (.inr rfl) rfl (by dsimp only [List.set]) ?_
  refine da_mv 10 6 rfl rfl rfl (.inr rfl) rfl (by dsimp only [List.set]) ?_
  refine da_end rfl ⟨by decide +kernel, _, rfl, ?_⟩
  refine at_block [1, 0, 1, 0] 0 rfl ?_
  refine at_seq [1, 0, 1, 0, 0] [1, 0, 1, 0, 1] rfl ?_
  refine at_region rfl ?_
  refine at_mv 5 12 rfl rfl rfl (.inl rfl) rfl (by dsimp only [List.set]) ?_
  refine at_mv 12 13 rfl rfl rfl (.inl rfl) rfl (by dsimp only [List.set]) ?_
  refine at_split 13 rfl (fun hb1 env' he => ?_) (fun hb1 env' he => ?_)
  · dsimp only [List.set] at he; subst he
    refine at_mv 6 14 rfl rfl rfl (.inl rfl) rfl (by dsimp only [List.set]) ?_
    refine at_pk true 13 14 15 rfl rfl rfl rfl rfl rfl rfl (by dsimp only [List.set]) ?_
    refine at_mv 15 11 rfl rfl rfl (.inr rfl) rfl (by dsimp only [List.set]) ?_
    refine at_end rfl ?_
    refine at_cond [1, 0, 1, 0, 1, 0] [1, 0, 1, 0, 1, 1] rfl rfl (fun hc2 => ?_) (fun hc2 => ?_)
    · skip
      refine at_seq [1, 0, 1, 0, 1, 0, 0] [1, 0, 1, 0, 1, 0, 1] rfl ?_
      refine at_region rfl ?_
      first | (refine at_op (some 16) rfl rfl rfl rfl (op_loadRA rfl fagg_api_Tree) (by dsimp only [putD, List.set]) ?_) | (refine at_op (some 16) rfl rfl rfl rfl (op_loadPA rfl fagg_api_Tree rfl (by first | decide | simp) rfl) (by dsimp only [putD, List.set]) ?_)
      first | (refine at_op (some 17) rfl rfl rfl rfl (op_loadRA rfl fagg_api_Tree) (by dsimp only [putD, List.set]) ?_) | (refine at_op (some 17) rfl rfl rfl rfl (op_loadPA rfl fagg_api_Tree rfl (by first | decide | simp) rfl) (by dsimp only [putD, List.set]) ?_)
      refine at_op (some 18) rfl rfl rfl rfl (op_call0 rfl rfl rfl rfl (tcompare_ok _ a b rfl ha)) (by dsimp only [putD, List.set]) ?_
      refine at_mv 18 4 rfl rfl rfl (.inr rfl) rfl (by dsimp only [List.set]) ?_
      refine at_end rfl ?_
      refine at_ret rfl (ret_one (t := 4) rfl rfl ?_ rfl)
      unfold cmpX
      by_cases h1 : a.size ≤ 12 <;> by_cases h2 : b.size ≤ 12 <;> first | (simp only [h1, h2, if_true, if_false]; done) | (exfalso; simp_all; done)
    · skip
      refine at_seq [1, 0, 1, 0, 1, 1, 0] [1, 0, 1, 0, 1, 1, 1] rfl ?_
      refine at_region rfl ?_
      refine at_mv 5 20 rfl rfl rfl (.inl rfl) rfl (by dsimp only [List.set]) ?_
      refine at_mv 20 19 rfl rfl rfl (.inr rfl) rfl (by dsimp only [List.set]) ?_
      refine at_end rfl ?_
      refine at_cond [1, 0, 1, 0, 1, 1, 1, 0] [1, 0, 1, 0, 1, 1, 1, 1] rfl rfl (fun hc3 => ?_) (fun hc3 => ?_)
      · skip
        refine at_seq [1, 0, 1, 0, 1, 1, 1, 0, 0] [1, 0, 1, 0, 1, 1, 1, 0, 1] rfl ?_
        refine at_region rfl ?_
        refine at_mc 4 rfl rfl rfl (.inr rfl) (by dsimp only [constD]) (by dsimp only [List.set]) ?_
        refine at_end rfl ?_
        refine at_ret rfl (ret_one (t := 4) rfl rfl ?_ rfl)
        unfold cmpX
        by_cases h1 : a.size ≤ 12 <;> by_cases h2 : b.size ≤ 12 <;> first | (simp only [h1, h2, if_true, if_false]; done) | (exfalso; simp_all; done)
      · skip
        refine at_seq [1, 0, 1, 0, 1, 1, 1, 1, 0] [1, 0, 1, 0, 1, 1, 1, 1, 1] rfl ?_
        refine at_region rfl ?_
        refine at_mv 6 22 rfl rfl rfl (.inl rfl) rfl (by dsimp only [List.set]) ?_
        refine at_mv 22 21 rfl rfl rfl (.inr rfl) rfl (by dsimp only [List.set]) ?_
        refine at_end rfl ?_
        refine at_cond [1, 0, 1, 0, 1, 1, 1, 1, 1, 0] [1, 0, 1, 0, 1, 1, 1, 1, 1, 1] rfl rfl (fun hc4 => ?_) (fun hc4 => ?_)
        · skip
          refine at_seq [1, 0, 1, 0, 1, 1, 1, 1, 1, 0, 0] [1, 0, 1, 0, 1, 1, 1, 1, 1, 0, 1] rfl ?_
          refine at_region rfl ?_
          refine at_mc 4 rfl rfl rfl (.inr rfl) (by dsimp only [constD]) (by dsimp only [List.set]) ?_
          refine at_end rfl ?_
          refine at_ret rfl (ret_one (t := 4) rfl rfl ?_ rfl)
          unfold cmpX
          by_cases h1 : a.size ≤ 12 <;> by_cases h2 : b.size ≤ 12 <;> first | (simp only [h1, h2, if_true, if_false]; done) | (exfalso; simp_all; done)
        · skip
          refine at_skip rfl ?_
          refine run_blk ?_
          refine at_seq [1, 1, 0] [1, 1, 1] rfl ?_
          refine at_region rfl ?_
          refine at_mc 4 rfl rfl rfl (.inr rfl) (by dsimp only [constD]) (by dsimp only [List.set]) ?_
          refine at_end rfl ?_
          refine at_ret rfl (ret_one (t := 4) rfl rfl ?_ rfl)
          unfold cmpX
          by_cases h1 : a.size ≤ 12 <;> by_cases h2 : b.size ≤ 12 <;> first | (simp only [h1, h2, if_true, if_false]; done) | (exfalso; simp_all; done)
  · dsimp only [List.set] at he; subst he
    refine at_opN (some 14) rfl rfl rfl (by dsimp only [putD, List.set]) ?_
    refine at_pkc false 13 15 rfl rfl rfl rfl rfl rfl (by dsimp only [constD]) (by dsimp only [List.set]) ?_
    refine at_mv 15 11 rfl rfl rfl (.inr rfl) rfl (by dsimp only [List.set]) ?_
    refine at_end rfl ?_
    refine at_false [1, 0, 1, 0, 1, 0] [1, 0, 1, 0, 1, 1] rfl rfl ?_
    refine at_seq [1, 0, 1, 0, 1, 1, 0] [1, 0, 1, 0, 1, 1, 1] rfl ?_
    refine at_region rfl ?_
    refine at_mv 5 20 rfl rfl rfl (.inl rfl) rfl (by dsimp only [List.set]) ?_
    refine at_mv 20 19 rfl rfl rfl (.inr rfl) rfl (by dsimp only [List.set]) ?_
    refine at_end rfl ?_
    refine at_cond [1, 0, 1, 0, 1, 1, 1, 0] [1, 0, 1, 0, 1, 1, 1, 1] rfl rfl (fun hc5 => ?_) (fun hc5 => ?_)
    · skip
      refine at_seq [1, 0, 1, 0, 1, 1, 1, 0, 0] [1, 0, 1, 0, 1, 1, 1, 0, 1] rfl ?_
      refine at_region rfl ?_
      refine at_mc 4 rfl rfl rfl (.inr rfl) (by dsimp only [constD]) (by dsimp only [List.set]) ?_
      refine at_end rfl ?_
      refine at_ret rfl (ret_one (t := 4) rfl rfl ?_ rfl)
      unfold cmpX
      by_cases h1 : a.size ≤ 12 <;> by_cases h2 : b.size ≤ 12 <;> first | (simp only [h1, h2, if_true, if_false]; done) | (exfalso; simp_all; done)
    · skip
      refine at_seq [1, 0, 1, 0, 1, 1, 1, 1, 0] [1, 0, 1, 0, 1, 1, 1, 1, 1] rfl ?_
      refine at_region rfl ?_
      refine at_mv 6 22 rfl rfl rfl (.inl rfl) rfl (by dsimp only [List.set]) ?_
      refine at_mv 22 21 rfl rfl rfl (.inr rfl) rfl (by dsimp only [List.set]) ?_
      refine at_end rfl ?_
      refine at_cond [1, 0, 1, 0, 1, 1, 1, 1, 1, 0] [1, 0, 1, 0, 1, 1, 1, 1, 1, 1] rfl rfl (fun hc6 => ?_) (fun hc6 => ?_)
      · skip
        refine at_seq [1, 0, 1, 0, 1, 1, 1, 1, 1, 0, 0] [1, 0, 1, 0, 1, 1, 1, 1, 1, 0, 1] rfl ?_
        refine at_region rfl ?_
        refine at_mc 4 rfl rfl rfl (.inr rfl) (by dsimp only [constD]) (by dsimp only [List.set]) ?_
        refine at_end rfl ?_
        refine at_ret rfl (ret_one (t := 4) rfl rfl ?_ rfl)
        unfold cmpX
        by_cases h1 : a.size ≤ 12 <;> by_cases h2 : b.size ≤ 12 <;> first | (simp only [h1, h2, if_true, if_false]; done) | (exfalso; simp_all; done)
      · skip
        refine at_skip rfl ?_
        refine run_blk ?_
        refine at_seq [1, 1, 0] [1, 1, 1] rfl ?_
        refine at_region rfl ?_
        refine at_mc 4 rfl rfl rfl (.inr rfl) (by dsimp only [constD]) (by dsimp only [List.set]) ?_
        refine at_end rfl ?_
        refine at_ret rfl (ret_one (t := 4) rfl rfl ?_ rfl)
        unfold cmpX
        by_cases h1 : a.size ≤ 12 <;> by_cases h2 : b.size ≤ 12 <;> first | (simp only [h1, h2, if_true, if_false]; done) | (exfalso; simp_all; done)

end Go.Proofs.Ytoofgniepbidnaa
