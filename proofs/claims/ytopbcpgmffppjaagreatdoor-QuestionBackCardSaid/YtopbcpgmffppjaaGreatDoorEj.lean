/-
  Counter models without moves: their steps, as data. Plain.
-/
import Derived.Test.YtopbcpgmffppjaaGreatDoorEe
import Derived.Test.YtopbcpgmffppjaaGreatDoorEb
namespace Go.Proofs.YtopbcpgmffppjaaGreatDoor
open Go.Dv Go.Nv
set_option maxRecDepth 20000
def stV (c : Val) : Int := (c.kids.headD (.mk 0 [])).n
def nmV (c : Val) : List Int := c.kids.tail.map Val.n
theorem map_lf (ys : List Int) : (ys.map lf).map Val.n = ys := by
  induction ys with
  | nil => rfl
  | cons y ys ih => simp only [List.map_cons, ih, lf, Val.n]
theorem stV_cfg (s : Int) (ys : List Int) : stV (cfgV s ys) = s := rfl
theorem nmV_cfg (s : Int) (ys : List Int) : nmV (cfgV s ys) = ys := by
  show (List.map lf ys).map Val.n = ys
  exact map_lf ys
/-- a configuration of a counter model -/
structure CfgOK (m : Mod) (c : Val) : Prop where
  eq : c = cfgV (stV c) (nmV c)
  st : 0 ≤ stV c ∧ stV c < m.states.length
  len : (nmV c).length = m.places.length
  nm : ∀ y ∈ nmV c, 0 ≤ y ∧ y ≤ 1048576
theorem cfgOK (m : Mod) (s : Int) (hs : 0 ≤ s ∧ s < m.states.length) (ys : List Int) (hy : ys.length = m.places.length) (h : ∀ y ∈ ys, 0 ≤ y ∧ y ≤ 1048576) : CfgOK m (cfgV s ys) :=
  ⟨by rw [stV_cfg, nmV_cfg], by rw [stV_cfg]; exact hs, by rw [nmV_cfg]; exact hy, by rw [nmV_cfg]; exact h⟩
/-- a counter model without moves -/
structure PlC (m : Mod) : Prop where
  ok : m.ok
  kind : m.kind = 1
  move : ∀ r ∈ m.rules, r.move = []
  start : CfgOK m m.start
  few : m.states.length ≤ 2 ∧ m.places.length ≤ 2
/-- what is right with a rule -/
structure RulOK (m : Mod) (r : Rul) : Prop where
  frm : 0 ≤ r.frm ∧ r.frm < m.states.length
  to : 0 ≤ r.to ∧ r.to < m.states.length
  needL : r.need.length = m.places.length
  giveL : r.give.length = m.places.length
  need : ∀ x ∈ r.need, 0 ≤ x ∧ x ≤ 16
  give : ∀ x ∈ r.give, 0 ≤ x ∧ x ≤ 16
  move : r.move = []
theorem PlC.rule {m : Mod} (h : PlC m) {r : Rul} (hr : r ∈ m.rules) : RulOK m r := by
  have h1 := h.ok.right r hr
  rw [rightM, if_pos h.kind] at h1
  simp only [rightC, changesB, Bool.and_eq_true, List.all_eq_true, beq_iff_eq] at h1
  obtain ⟨h2, h3, ⟨h4, h5, h6, h7⟩, _⟩ := h1
  have h2 := betB_ok h2
  have h3 := betB_ok h3
  exact ⟨⟨h3.1, by omega⟩, ⟨h2.1, by omega⟩, by omega, by omega, fun x hx => betB_ok (h6 x hx), fun x hx => betB_ok (h7 x hx), h.move r hr⟩
theorem PlC.places {m : Mod} (h : PlC m) : 1 ≤ m.places.length ∧ m.places.length ≤ 6 ∧ 1 ≤ m.states.length ∧ m.states.length ≤ 8 ∧ m.rules.length ≤ 12 := by
  obtain ⟨h1, h2, h3, h4, h5, _⟩ := h.ok.sz
  omega
theorem CfgOK.size {m : Mod} (hm : PlC m) {c : Val} (h : CfgOK m c) : c.size ≤ 8 := by
  rw [h.eq, cfgV_size, h.len]
  have := hm.places; omega
theorem CfgOK.valid {m : Mod} (hm : PlC m) {c : Val} (h : CfgOK m c) : validB (typM m) c = true := by
  rw [h.eq]
  exact cfg_valid m hm.kind (by have := hm.places; omega) _ h.st _ h.len h.nm
/- STEPS -/
def apS (m : Mod) (c : Val) (i : Int) : List Val × Int := if i < 0 then ([], 0) else match m.rules[i.toNat]? with
  | some r => oneP (apM r (stV c) (nmV c))
  | none => ([], 0)
def stepsM (m : Mod) (c : Val) : List Stp × Int := allP (apS m c) (m.rules.length + 1) (-1) []
def afterM (r : Rul) (ys : List Int) : List Int := List.zipWith (fun w g => w + g) (subM r ys) r.give
theorem outP_or : ∀ (ws gs : List Int) (xs : List Val), ((outP xs ws gs).2 = 0 ∧ (outP xs ws gs).1 = .mk 0 (xs ++ (List.zipWith (fun w g => w + g) ws gs).map lf) ∧ ∀ y ∈ List.zipWith (fun w g => w + g) ws gs, y ≤ 1048576) ∨ outP xs ws gs = (.mk 0 [], 1)
  | [], gs, xs => .inl ⟨by simp [outP], by simp [outP], by simp⟩
  | w :: ws, [], xs => .inl ⟨by simp [outP], by simp [outP], by simp⟩
  | w :: ws, g :: gs, xs => by
    by_cases h : w + g > 1048576
    · exact .inr (by rw [outP, if_pos (decide_eq_true h)])
    · rw [outP, if_neg (by rw [decide_eq_false h]; decide)]
      rcases outP_or ws gs (xs ++ [lf (w + g)]) with ⟨h1, h2, h3⟩ | h1
      · refine .inl ⟨h1, by rw [h2]; simp, fun y hy => ?_⟩
        simp only [List.zipWith_cons_cons, List.mem_cons] at hy
        rcases hy with rfl | hy
        · omega
        · exact h3 y hy
      · exact .inr h1
theorem needB_at : ∀ {ns ys : List Int}, needB ns ys = true → ∀ (i : Nat) (n y : Int), ns[i]? = some n → ys[i]? = some y → n ≤ y
  | [], ys, _, i, n, y, h, _ => by simp at h
  | n :: ns, [], _, i, n', y, _, h => by simp at h
  | n :: ns, y :: ys, h, i, n', y', h1, h2 => by
    simp only [needB, Bool.and_eq_true, Bool.not_eq_true', decide_eq_false_iff_not] at h
    cases i with
    | zero => simp at h1 h2; subst h1; subst h2; omega
    | succ i => exact needB_at h.2 i n' y' (by simpa using h1) (by simpa using h2)
theorem afterM_len {m : Mod} {r : Rul} (hr : RulOK m r) {ys : List Int} (hy : ys.length = m.places.length) : (afterM r ys).length = m.places.length := by
  have h1 := hr.needL; have h2 := hr.giveL
  simp only [afterM, subM, List.length_zipWith]; omega
theorem afterM_at {r : Rul} {ys : List Int} {i : Nat} {z : Int} (h : (afterM r ys)[i]? = some z) : ∃ y n g, ys[i]? = some y ∧ r.need[i]? = some n ∧ r.give[i]? = some g ∧ z = y - n + g := by
  simp only [afterM, subM, List.getElem?_zipWith] at h
  split at h
  · rename_i w g h1 h2
    split at h1
    · rename_i y n h3 h4
      simp at h h1
      exact ⟨y, n, g, h3, h4, h2, by omega⟩
    · simp at h1
  · simp at h
theorem apM_or {m : Mod} {r : Rul} (hr : RulOK m r) {c : Val} (hc : CfgOK m c) :
    ((apM r (stV c) (nmV c)).2 = 0 ∧ stV c = r.frm ∧ (apM r (stV c) (nmV c)).1 = cfgV r.to (afterM r (nmV c)) ∧ CfgOK m (cfgV r.to (afterM r (nmV c)))) ∨ (apM r (stV c) (nmV c)).2 = 1 ∨ (apM r (stV c) (nmV c)).2 = 18 := by
  unfold apM
  split
  · rename_i he
    simp only [enB, Bool.and_eq_true, beq_iff_eq] at he
    rcases outP_or (subM r (nmV c)) r.give [lf r.to] with ⟨h1, h2, h3⟩ | h1
    · refine .inl ⟨h1, he.1, by rw [h2]; rfl, cfgOK m _ hr.to _ (afterM_len hr hc.len) fun z hz => ⟨?_, h3 z hz⟩⟩
      obtain ⟨i, hi⟩ := List.getElem?_of_mem hz
      obtain ⟨y, n, g, a1, a2, a3, rfl⟩ := afterM_at hi
      have b1 := needB_at he.2 i n y a2 a1
      have b2 := (hr.give g (List.mem_of_getElem? a3)).1
      omega
    · exact .inr (.inl (by rw [h1]))
  · exact .inr (.inr rfl)
/-- what a step does -/
structure StepOK (m : Mod) (c : Val) (s : Stp) : Prop where
  rule : ∃ (i : Nat) (r : Rul), s.1 = i ∧ m.rules[i]? = some r ∧ stV c = r.frm ∧ s.2 = cfgV r.to (afterM r (nmV c)) ∧ apM r (stV c) (nmV c) = (s.2, 0)
  ok : CfgOK m s.2
theorem apS_or {m : Mod} (hm : PlC m) {c : Val} (hc : CfgOK m c) (i : Int) : ((apS m c i).2 = 0 ∨ (apS m c i).2 = 1) ∧ (apS m c i).1.length ≤ 1 ∧ ∀ v ∈ (apS m c i).1, StepOK m c (i, v) := by
  unfold apS
  split
  · exact ⟨.inl rfl, by simp, by simp⟩
  · rename_i h0
    split
    · rename_i r hi
      have hr := hm.rule (List.mem_of_getElem? hi)
      rcases apM_or hr hc with ⟨h1, h2, h3, h4⟩ | h1 | h1
      · have : oneP (apM r (stV c) (nmV c)) = ([cfgV r.to (afterM r (nmV c))], 0) := by
          rw [oneP, if_neg (by rw [h1]; decide), if_neg (by rw [h1]; decide), h3]
        rw [this]
        refine ⟨.inl rfl, by simp, fun v hv => ?_⟩
        rw [List.mem_singleton.1 hv]
        exact ⟨⟨i.toNat, r, by show i = _; omega, hi, h2, rfl, by rw [← h3, ← h1]⟩, h4⟩
      · have : oneP (apM r (stV c) (nmV c)) = ([], 1) := by rw [oneP, if_neg (by rw [h1]; decide), if_pos (by rw [h1]; decide), h1]
        rw [this]; exact ⟨.inr rfl, by simp, by simp⟩
      · have : oneP (apM r (stV c) (nmV c)) = ([], 0) := by rw [oneP, if_pos (by rw [h1]; decide)]
        rw [this]; exact ⟨.inl rfl, by simp, by simp⟩
    · exact ⟨.inl rfl, by simp, by simp⟩
theorem allP_or {ap : Int → List Val × Int} (he : ∀ i, (ap i).2 = 0 ∨ (ap i).2 = 1) (hl : ∀ i, (ap i).1.length ≤ 1) {Q : Stp → Prop} (hq : ∀ i, ∀ v ∈ (ap i).1, Q (i, v)) : ∀ (n : Nat) (i : Int) (acc : List Stp), (∀ s ∈ acc, Q s) →
    ((allP ap n i acc).2 = 0 ∨ (allP ap n i acc).2 = 1) ∧ (allP ap n i acc).1.length ≤ acc.length + n ∧ ∀ s ∈ (allP ap n i acc).1, Q s
  | 0, i, acc, ha => by
    rw [allP]
    split
    · exact ⟨.inr rfl, by simp, by simp⟩
    · exact ⟨.inl rfl, by simp, ha⟩
  | n + 1, i, acc, ha => by
    rw [allP]
    split
    · exact ⟨he i, by simp, by simp⟩
    · obtain ⟨h1, h2, h3⟩ := allP_or he hl hq n (i + 1) (acc ++ (ap i).1.map fun v => (i, v)) (fun s hs => by
        rcases List.mem_append.1 hs with hs | hs
        · exact ha s hs
        · obtain ⟨v, hv, rfl⟩ := List.mem_map.1 hs
          exact hq i v hv)
      have := hl i
      exact ⟨h1, by simp only [List.length_append, List.length_map] at h2; omega, h3⟩
theorem stepsM_or {m : Mod} (hm : PlC m) {c : Val} (hc : CfgOK m c) : ((stepsM m c).2 = 0 ∨ (stepsM m c).2 = 1) ∧ (stepsM m c).1.length ≤ 13 ∧ ∀ s ∈ (stepsM m c).1, StepOK m c s := by
  have := hm.places
  obtain ⟨h1, h2, h3⟩ := allP_or (ap := apS m c) (fun i => (apS_or hm hc i).1) (fun i => (apS_or hm hc i).2.1) (Q := StepOK m c) (fun i => (apS_or hm hc i).2.2) (m.rules.length + 1) (-1) [] (by simp)
  exact ⟨h1, by simp only [List.length_nil] at h2; exact Nat.le_trans h2 (by omega), h3⟩
/-- a run by steps -/
inductive RunM (m : Mod) (c : Val) : List Stp → Val → Prop where
  | nil : RunM m c [] c
  | snoc {l : List Stp} {d : Val} {s : Stp} : RunM m c l d → (stepsM m d).2 = 0 → s ∈ (stepsM m d).1 → RunM m c (l ++ [s]) s.2
theorem RunM.ok {m : Mod} (hm : PlC m) {c d : Val} {l : List Stp} (hc : CfgOK m c) (h : RunM m c l d) : CfgOK m d := by
  induction h with
  | nil => exact hc
  | snoc _ _ hs ih => exact ((stepsM_or hm ih).2.2 _ hs).ok
end Go.Proofs.YtopbcpgmffppjaaGreatDoor


namespace Go.Proofs.YtopbcpgmffppjaaGreatDoor
open Go.Dv Go.Nv
/-- a comparison that is a total order, of what is asked for -/
structure Lin {α : Type} (c : α → α → Int) (S : α → Prop) : Prop where
  refl : ∀ x, S x → c x x = 0
  eq : ∀ x y, S x → S y → c x y = 0 → x = y
  swap : ∀ x y, S x → S y → (c x y < 0 ↔ 0 < c y x)
  trans : ∀ x y z, S x → S y → S z → c x y < 0 → c y z < 0 → c x z < 0
theorem cmpI_lin : Lin cmpI fun _ => True := by
  constructor <;> simp only [cmpI] <;> intros <;> (repeat' split at *) <;> (repeat' split) <;> omega
theorem cmpL_lin {α : Type} {c : α → α → Int} {S : α → Prop} (h : Lin c S) : Lin (cmpL c) fun l => ∀ x ∈ l, S x := by
  have rfl' : ∀ l : List α, (∀ x ∈ l, S x) → cmpL c l l = 0 := by
    intro l
    induction l with
    | nil => intro _; rfl
    | cons x l ih => intro hs; rw [cmpL, if_pos (h.refl x (hs x (by simp)))]; exact ih fun y hy => hs y (by simp [hy])
  have eq' : ∀ a b : List α, (∀ x ∈ a, S x) → (∀ x ∈ b, S x) → cmpL c a b = 0 → a = b := by
    intro a
    induction a with
    | nil => intro b _ _ e; cases b with
      | nil => rfl
      | cons y b => simp [cmpL] at e
    | cons x a ih => intro b ha hb e; cases b with
      | nil => simp [cmpL] at e
      | cons y b =>
        simp only [cmpL] at e
        split at e
        · rename_i h0
          rw [h.eq x y (ha x (by simp)) (hb y (by simp)) h0, ih b (fun z hz => ha z (by simp [hz])) (fun z hz => hb z (by simp [hz])) e]
        · exact absurd e (by assumption)
  have c0 : ∀ x y, S x → S y → (c x y = 0 ↔ c y x = 0) := fun x y hx hy => by
    have h1 := h.swap x y hx hy
    have h2 := h.swap y x hy hx
    constructor <;> intro _ <;> omega
  have sw : ∀ a b : List α, (∀ x ∈ a, S x) → (∀ x ∈ b, S x) → (cmpL c a b < 0 ↔ 0 < cmpL c b a) := by
    intro a
    induction a with
    | nil => intro b _ _; cases b <;> simp [cmpL]
    | cons x a ih => intro b ha hb; cases b with
      | nil => simp [cmpL]
      | cons y b =>
        have hx := ha x (by simp); have hy := hb y (by simp)
        simp only [cmpL]
        by_cases h0 : c x y = 0
        · rw [if_pos h0, if_pos ((c0 x y hx hy).1 h0)]; exact ih b (fun z hz => ha z (by simp [hz])) (fun z hz => hb z (by simp [hz]))
        · rw [if_neg h0, if_neg (fun e => h0 ((c0 x y hx hy).2 e))]; exact h.swap x y hx hy
  have tr : ∀ a b d : List α, (∀ x ∈ a, S x) → (∀ x ∈ b, S x) → (∀ x ∈ d, S x) → cmpL c a b < 0 → cmpL c b d < 0 → cmpL c a d < 0 := by
    intro a
    induction a with
    | nil => intro b d _ _ _ h1 h2; cases b with
      | nil => simp [cmpL] at h1
      | cons y b => cases d with
        | nil => simp [cmpL] at h2
        | cons z d => simp [cmpL]
    | cons x a ih => intro b d ha hb hd h1 h2; cases b with
      | nil => simp [cmpL] at h1
      | cons y b => cases d with
        | nil => simp [cmpL] at h2
        | cons z d =>
          have hx := ha x (by simp); have hy := hb y (by simp); have hz := hd z (by simp)
          have ha' : ∀ w ∈ a, S w := fun w hw => ha w (by simp [hw])
          have hb' : ∀ w ∈ b, S w := fun w hw => hb w (by simp [hw])
          have hd' : ∀ w ∈ d, S w := fun w hw => hd w (by simp [hw])
          simp only [cmpL] at *
          by_cases e1 : c x y = 0
          · have := h.eq x y hx hy e1; subst this
            rw [if_pos e1] at h1
            by_cases e2 : c x z = 0
            · rw [if_pos e2] at h2 ⊢
              exact ih b d ha' hb' hd' h1 h2
            · rw [if_neg e2] at h2 ⊢; exact h2
          · rw [if_neg e1] at h1
            by_cases e2 : c y z = 0
            · have := h.eq y z hy hz e2; subst this
              rw [if_neg e1]; exact h1
            · rw [if_neg e2] at h2
              have := h.trans x y z hx hy hz h1 h2
              rw [if_neg (by omega)]; exact this
  exact ⟨rfl', eq', sw, tr⟩
theorem cmpV_or3 (a b : Val) : cmpV a b = if cmpI a.n b.n = 0 then (if cmpI a.kids.length b.kids.length = 0 then cmpL cmpV a.kids b.kids else cmpI a.kids.length b.kids.length) else cmpI a.n b.n := by
  rw [cmpV_or, ← or3]
theorem Val.ext : ∀ {a b : Val}, a.n = b.n → a.kids = b.kids → a = b
  | .mk _ _, .mk _ _, rfl, rfl => rfl
theorem cmpV_linN (N : Nat) : Lin cmpV fun v => v.size ≤ N := by
  induction N with
  | zero => exact ⟨fun x h => absurd x.size_pos (by omega), fun x _ h => absurd x.size_pos (by omega), fun x _ h => absurd x.size_pos (by omega), fun x _ _ h => absurd x.size_pos (by omega)⟩
  | succ N ih =>
    have hL := cmpL_lin ih
    have hk : ∀ v : Val, v.size ≤ N + 1 → ∀ x ∈ v.kids, x.size ≤ N := fun v hv x hx => by
      have := v.size_eq; have := Val.size_mem hx; omega
    have h1 := cmpI_lin
    have i0 : ∀ x y : Int, cmpI x y = 0 ↔ cmpI y x = 0 := fun x y => by
      have a := h1.swap x y trivial trivial
      have b := h1.swap y x trivial trivial
      constructor <;> intro _ <;> omega
    refine ⟨fun x hx => ?_, fun x y hx hy e => ?_, fun x y hx hy => ?_, fun x y z hx hy hz e1 e2 => ?_⟩
    · rw [cmpV_or3, if_pos (h1.refl _ trivial), if_pos (h1.refl _ trivial)]; exact hL.refl _ (hk x hx)
    · rw [cmpV_or3] at e
      split at e
      · rename_i a1
        split at e
        · exact Val.ext (h1.eq _ _ trivial trivial a1) (hL.eq _ _ (hk x hx) (hk y hy) e)
        · exact absurd e (by assumption)
      · exact absurd e (by assumption)
    · rw [cmpV_or3, cmpV_or3 y x]
      by_cases a1 : cmpI x.n y.n = 0
      · rw [if_pos a1, if_pos ((i0 _ _).1 a1)]
        by_cases a2 : cmpI x.kids.length y.kids.length = 0
        · rw [if_pos a2, if_pos ((i0 _ _).1 a2)]; exact hL.swap _ _ (hk x hx) (hk y hy)
        · rw [if_neg a2, if_neg (fun e => a2 ((i0 _ _).2 e))]; exact h1.swap _ _ trivial trivial
      · rw [if_neg a1, if_neg (fun e => a1 ((i0 _ _).2 e))]; exact h1.swap _ _ trivial trivial
    · rw [cmpV_or3] at e1 e2 ⊢
      by_cases a1 : cmpI x.n y.n = 0
      · rw [if_pos a1] at e1
        have b1 := h1.eq _ _ trivial trivial a1
        rw [b1]
        by_cases c1 : cmpI y.n z.n = 0
        · rw [if_pos c1] at e2 ⊢
          by_cases a2 : cmpI x.kids.length y.kids.length = 0
          · rw [if_pos a2] at e1
            have b2 := h1.eq _ _ trivial trivial a2
            rw [b2]
            by_cases c2 : cmpI y.kids.length z.kids.length = 0
            · rw [if_pos c2] at e2 ⊢; exact hL.trans _ _ _ (hk x hx) (hk y hy) (hk z hz) e1 e2
            · rw [if_neg c2] at e2 ⊢; exact e2
          · rw [if_neg a2] at e1
            by_cases c2 : cmpI y.kids.length z.kids.length = 0
            · have b2 := h1.eq _ _ trivial trivial c2
              rw [← b2, if_neg a2]; exact e1
            · rw [if_neg c2] at e2
              have := h1.trans _ _ _ trivial trivial trivial e1 e2
              rw [if_neg (by omega)]; exact this
        · rw [if_neg c1] at e2 ⊢; exact e2
      · rw [if_neg a1] at e1
        by_cases c1 : cmpI y.n z.n = 0
        · have b1 := h1.eq _ _ trivial trivial c1
          rw [← b1, if_neg a1]; exact e1
        · rw [if_neg c1] at e2
          have := h1.trans _ _ _ trivial trivial trivial e1 e2
          rw [if_neg (by omega)]; exact this
theorem cmpV_lin : Lin cmpV fun _ => True := by
  have h : ∀ x y z : Val, Lin cmpV fun v => v.size ≤ x.size + y.size + z.size := fun x y z => cmpV_linN _
  exact ⟨fun x _ => (h x x x).refl x (by omega), fun x y _ _ e => (h x y y).eq x y (by omega) (by omega) e, fun x y _ _ => (h x y y).swap x y (by omega) (by omega), fun x y z _ _ _ e1 e2 => (h x y z).trans x y z (by omega) (by omega) (by omega) e1 e2⟩
theorem cmpV_eq {a b : Val} : cmpV a b = 0 ↔ a = b := ⟨fun h => cmpV_lin.eq a b trivial trivial h, fun h => by rw [h]; exact cmpV_lin.refl b trivial⟩
end Go.Proofs.YtopbcpgmffppjaaGreatDoor

namespace Go.Proofs.YtopbcpgmffppjaaGreatDoor
end Go.Proofs.YtopbcpgmffppjaaGreatDoor

namespace Go.Proofs.YtopbcpgmffppjaaGreatDoor
open Go.Dv Go.Nv
set_option maxRecDepth 20000
noncomputable abbrev fDCfg : Func := Tryz.f26
noncomputable def cDCfg : Code := fDCfg.body.getD .skip
end Go.Proofs.YtopbcpgmffppjaaGreatDoor


namespace Go.Proofs.YtopbcpgmffppjaaGreatDoor
open Go.Dv Go.Nv
set_option maxRecDepth 20000
/- STEPS -/
end Go.Proofs.YtopbcpgmffppjaaGreatDoor


namespace Go.Proofs.YtopbcpgmffppjaaGreatDoor
open Go.Dv Go.Nv
set_option maxRecDepth 20000
/-- what is right with a rule's moves -/
def MvOK (r : Rul) (N : Nat) : Prop := r.move = [] ∨ r.move.length = N ∧ ∀ t ∈ r.move, -1 ≤ t ∧ t < N
end Go.Proofs.YtopbcpgmffppjaaGreatDoor


namespace Go.Proofs.YtopbcpgmffppjaaGreatDoor
open Go.Dv Go.Nv
set_option maxRecDepth 20000
/-- a counter model, with moves or without -/
structure CtM (m : Mod) : Prop where
  ok : m.ok
  kind : m.kind = 1
  start : CfgOK m m.start
/-- what is right with a rule of a counter model -/
structure RulV (m : Mod) (r : Rul) : Prop where
  frm : 0 ≤ r.frm ∧ r.frm < m.states.length
  to : 0 ≤ r.to ∧ r.to < m.states.length
  needL : r.need.length = m.places.length
  giveL : r.give.length = m.places.length
  need : ∀ x ∈ r.need, 0 ≤ x ∧ x ≤ 16
  give : ∀ x ∈ r.give, 0 ≤ x ∧ x ≤ 16
  move : MvOK r m.places.length
theorem CtM.rule {m : Mod} (h : CtM m) {r : Rul} (hr : r ∈ m.rules) : RulV m r := by
  have h1 := h.ok.right r hr
  rw [rightM, if_pos h.kind] at h1
  simp only [rightC, changesB, movesB, Bool.and_eq_true, Bool.or_eq_true, List.all_eq_true, beq_iff_eq] at h1
  obtain ⟨h2, h3, ⟨h4, h5, h6, h7⟩, h8, _⟩ := h1
  have h2 := betB_ok h2
  have h3 := betB_ok h3
  refine ⟨⟨h3.1, by omega⟩, ⟨h2.1, by omega⟩, by omega, by omega, fun x hx => betB_ok (h6 x hx), fun x hx => betB_ok (h7 x hx), ?_⟩
  rcases h8 with h8 | ⟨h8, h9⟩
  · exact .inl (List.length_eq_zero_iff.1 (by omega))
  · exact .inr ⟨by omega, fun t ht => by have := betB_ok (h9 t ht); omega⟩
theorem CtM.places {m : Mod} (h : CtM m) : 1 ≤ m.places.length ∧ m.places.length ≤ 6 ∧ 1 ≤ m.states.length ∧ m.states.length ≤ 8 ∧ m.rules.length ≤ 12 := by
  obtain ⟨h1, h2, h3, h4, h5, _⟩ := h.ok.sz
  omega
/- MOVED SUMS -/
end Go.Proofs.YtopbcpgmffppjaaGreatDoor


namespace Go.Proofs.YtopbcpgmffppjaaGreatDoor
open Go.Dv Go.Nv
set_option maxRecDepth 20000
end Go.Proofs.YtopbcpgmffppjaaGreatDoor


namespace Go.Proofs.YtopbcpgmffppjaaGreatDoor
open Go.Dv Go.Nv
set_option maxRecDepth 20000
def mkV (nm : List UInt8) (f t : Int) (nd gv mv : List Int) : Rul := ⟨nm, f, t, nd, gv, mv, 0, 0, 0, [], [], [], [], 0⟩
/-- the dealt rules, with moves or without -/
structure MadeV (ns np : Nat) (k : Nat) (r : Rul) : Prop where
  name : dl3[k]? = some r.name
  frm : 0 ≤ r.frm ∧ r.frm < ns
  to : 0 ≤ r.to ∧ r.to < ns
  need : r.need.length = np ∧ ∀ x ∈ r.need, 0 ≤ x ∧ x ≤ 2
  give : r.give.length = np ∧ ∀ x ∈ r.give, 0 ≤ x ∧ x ≤ 2
  move : MvOK r np
  rest : r = mkV r.name r.frm r.to r.need r.give r.move
structure MadeM (m : Mod) : Prop where
  kind : m.kind = 1
  states : m.states = [[97]] ∨ m.states = [[97], [98]]
  places : m.places = [[120]] ∨ m.places = [[120], [121]]
  letters : m.letters = []
  ranks : m.ranks = []
  levels : m.levels = 0
  age : m.age = 0
  count : m.rules.length ≤ 3
  rules : ∀ k r, m.rules[k]? = some r → MadeV m.states.length m.places.length k r
  start : ∃ ys : List Int, ys.length = m.places.length ∧ (∀ x ∈ ys, 0 ≤ x ∧ x ≤ 3) ∧ m.start = cfgV 0 ys
theorem mkV_at {ns np : Nat} {rs : List Rul} {k : Nat} {nm : List UInt8} {f t : Int} {nd gv mv : List Int} (hnm : dl3[k]? = some nm) (hf : 0 ≤ f ∧ f < ns) (ht : 0 ≤ t ∧ t < ns) (hn : nd.length = np ∧ ∀ x ∈ nd, 0 ≤ x ∧ x ≤ 2) (hg : gv.length = np ∧ ∀ x ∈ gv, 0 ≤ x ∧ x ≤ 2) (hm : mv = [] ∨ mv.length = np ∧ ∀ t ∈ mv, -1 ≤ t ∧ t < np) (hrs : rs.length = k) (hR : ∀ i r, rs[i]? = some r → MadeV ns np i r) : ∀ i r, (rs ++ [mkV nm f t nd gv mv])[i]? = some r → MadeV ns np i r := fun i r hi => by
  by_cases hik : i < rs.length
  · rw [List.getElem?_append_left hik] at hi; exact hR i r hi
  · rw [List.getElem?_append_right (by omega)] at hi
    have h1 : i - rs.length = 0 := by
      have := (List.getElem?_eq_some_iff.1 hi).1
      simp at this; omega
    rw [h1] at hi
    simp at hi; subst hi
    have hik2 : i = k := by omega
    subst hik2
    exact ⟨hnm, hf, ht, hn, hg, hm, rfl⟩
/-- a rule whose moves were appended, seen as data -/
theorem cv_rule {H : List (Option (List D))} {own : List (Nat × Nat × List V)} {q tag : Nat} {nm : List UInt8} {f t : Int} {nd gv xs : List Int} (hq : H[q]? = some (some [.v (.str nm), di f, di t, .v (vIs nd), .v (vIs gv), .acc tag (xs.map vi), di 0, di 0, di 0, .v .nils, .v .nils, .v .nils, .v .nils, di 0])) (e : List D) : Cv e ⟨H, own⟩ e ⟨H.set q (some (cR (mkV nm f t nd gv xs))), own⟩ :=
  cv_cells (σ := ⟨H, own⟩) (q := q) hq (fun g us hr => by
    have := wkDs_rep (ts := []) (kn := false) hr
    exact this) (fun _ x hx => by
    simp only [cR, List.mem_cons, List.not_mem_nil, or_false] at hx
    rcases hx with rfl | rfl | rfl | rfl | rfl | rfl | rfl | rfl | rfl | rfl | rfl | rfl | rfl | rfl <;> rfl) e
theorem ctrT_loop (l : List UInt8) (hl : l.length ≤ 200) (S Pl : List (List UInt8)) (hS : S = [[97]] ∨ S = [[97], [98]]) (hP : Pl = [[120]] ∨ Pl = [[120], [121]]) (n : Nat) : ∀ (k a : Nat) (rs : List Rul), 3 - k = n → a ≤ l.length → k ≤ 3 → rs.length = k → (∀ i r, rs[i]? = some r → MadeV S.length Pl.length i r) →
    ∃ (m : Mod) (a' : Nat), MadeM m ∧ a' ≤ l.length ∧ Rn PP fCtr 1 (dMod m) (dz l a') ([.lp (sub cCtr [1, 1, 1, 0, 1, 0, 0]), .blk 0, .code (sub cCtr [1, 1, 1, 1])] ++ []) (mkE 85 [(0, .ptr 0 0), (1, db true), (4, .ptr 1 0), (5, .ptr 2 0), (6, di Pl.length), (7, di k)]) (stC l a S Pl rs) := by
  induction n using Nat.strongRecOn with
  | _ n ih =>
  intro k a rs hn ha hk3 hrs hR
  have hSl : 1 ≤ S.length ∧ S.length ≤ 2 := by rcases hS with rfl | rfl <;> decide
  have hPl : 1 ≤ Pl.length ∧ Pl.length ≤ 2 := by rcases hP with rfl | rfl <;> decide
  obtain ⟨r, a1, h1, h2, h3, h4⟩ := pick_ex l hl a ha 3 (by decide) (by decide)
  by_cases hk : (k : Int) < 1 + r
  · obtain ⟨f, a2, f1, f2, f3, f4⟩ := pick_ex l hl a1 h3 S.length (by omega) (by omega)
    obtain ⟨t, a3, t1, t2, t3, t4⟩ := pick_ex l hl a2 f3 S.length (by omega) (by omega)
    obtain ⟨nd, a4, n1, n2, n3, n4⟩ := ints_ex l hl a3 t3 Pl.length (by omega) 2 (by decide) (by decide)
    obtain ⟨gv, a5, g1, g2, g3, g4⟩ := ints_ex l hl a4 n1 Pl.length (by omega) 2 (by decide) (by decide)
    obtain ⟨nm, hnm⟩ : ∃ nm, dl3[k]? = some nm := ⟨_, List.getElem?_eq_getElem (show k < dl3.length by show k < 3; omega)⟩
    obtain ⟨w, a6, w1, w2, w3, w4⟩ := pick_ex l hl a5 g1 2 (by decide) (by decide)
    have hkr : decide ((k : Int) < IntKind.wrap IntKind.i64 (1 + r)) = true := by rw [wrap_id (by omega) (by omega)]; exact decide_eq_true hk
    have hSm : ((S.map V.str).length : Int) = (S.length : Int) := by rw [List.length_map]
    by_cases hw : (w == 0) = true
    · rcases hP with hP | hP
      · obtain ⟨v1, a7, v11, v12, v13, v14⟩ := pick_ex l hl a6 w3 2 (by decide) (by decide)
        obtain ⟨m, a', m1, m2, m3⟩ := ih (3 - (k + 1)) (by omega) (k + 1) a7 (rs ++ [mkV nm f t nd gv [v1 - 1]]) rfl v13 (by omega) (by simp [hrs]) (mkV_at hnm ⟨f1, f2⟩ ⟨t1, t2⟩ ⟨n2, n3⟩ ⟨g2, g3⟩ (.inr ⟨by rw [hP]; rfl, fun t ht => by rw [List.mem_singleton.1 ht, hP]; show -1 ≤ v1 - 1 ∧ v1 - 1 < ((1 : Nat) : Int); omega⟩) hrs hR)
        refine ⟨m, a', m1, m2, ?_⟩
        subst hP
        refine loop_vc mixed 85 [] (.c1 (cDz l a1) (di r) <| .t <| .h (.dr 21) <| .x (.str nm) <| .c1 (cDz l a2) (di f) <| .c1 (cDz l a3) (di t) <| .c1 (cDz l a4) (dIs nd) <| .c1 (cDz l a5) (dIs gv) <| .h .rn <| .c1 (cDz l a6) (di w) <| .t <| .h (.q 8 0) <| .h (.cl 3 5 3 1) <| .n <| .m (.acc 3 []) <| .c1 (cDz l a7) (di v1) <| .n <| .f <| .h (.q 12 2) <| .h (.cs ⟨[some (cDz l a7), some zM, some (cM S [[120]] rs), some (cR (mkV nm f t nd gv [v1 - 1]))], [(3, 1, [vi (v1 - 1)]), (2, 14, rs.map vRul)]⟩) <| .ls [ke 0, ke 1, ke 4, ke 5, ke 6, ch 7 (di (k + 1 : Nat))] (stC l a7 S [[120]] (rs ++ [mkV nm f t nd gv [v1 - 1]]))) ?_
        refine via (by kernel_rfl : (FSpec PP 18 [D.ptr 0 0, di 3] (St.mk [some (cDz l a)] []) (di r) (St.mk [some (cDz l a1)] []) ∧ decide ((↑k : Int) < IntKind.wrap IntKind.i64 (1 + r)) = true ∧ 0 ≤ (↑k : Int) ∧ [V.str (ByteArray.mk #[114]).data.toList, V.str (ByteArray.mk #[115]).data.toList, V.str (ByteArray.mk #[116]).data.toList][Int.toNat (↑k : Int)]? = some (V.str nm) ∧ FSpec PP 18 [D.ptr 0 0, di (↑(List.length (List.map V.str S)) : Int)] (St.mk [some (cDz l a1)] []) (di f) (St.mk [some (cDz l a2)] []) ∧ FSpec PP 18 [D.ptr 0 0, di (↑(List.length (List.map V.str S)) : Int)] (St.mk [some (cDz l a1)] []) (di f) (St.mk [some (cDz l a2)] []) ∧ di f = di f ∧ FSpec PP 18 [D.ptr 0 0, di (↑(List.length (List.map V.str S)) : Int)] (St.mk [some (cDz l a2)] []) (di t) (St.mk [some (cDz l a3)] []) ∧ FSpec PP 18 [D.ptr 0 0, di (↑(List.length (List.map V.str S)) : Int)] (St.mk [some (cDz l a2)] []) (di t) (St.mk [some (cDz l a3)] []) ∧ di t = di t ∧ FSpec PP 23 [D.ptr 0 0, di (↑(List.length [[120]]) : Int), di 2] (St.mk [some (cDz l a3)] []) (dIs nd) (St.mk [some (cDz l a4)] []) ∧ FSpec PP 23 [D.ptr 0 0, di (↑(List.length [[120]]) : Int), di 2] (St.mk [some (cDz l a3)] []) (dIs nd) (St.mk [some (cDz l a4)] []) ∧ dIs nd = dIs nd ∧ FSpec PP 23 [D.ptr 0 0, di (↑(List.length [[120]]) : Int), di 2] (St.mk [some (cDz l a4)] []) (dIs gv) (St.mk [some (cDz l a5)] []) ∧ FSpec PP 23 [D.ptr 0 0, di (↑(List.length [[120]]) : Int), di 2] (St.mk [some (cDz l a4)] []) (dIs gv) (St.mk [some (cDz l a5)] []) ∧ dIs gv = dIs gv ∧ [St.mk [some (cDz l a1), some zM, some (cM S [[120]] rs), some [D.v (V.str (ByteArray.mk #[]).data.toList), di 0, di 0, D.v V.nils, D.v V.nils, D.v V.nils, di 0, di 0, di 0, D.v V.nils, D.v V.nils, D.v V.nils, D.v V.nils, di 0]] [(2, 14, List.map vRul rs)], St.mk [some (cDz l a2), some zM, some (cM S [[120]] rs), some [D.v (V.str (ByteArray.mk #[]).data.toList), di 0, di 0, D.v V.nils, D.v V.nils, D.v V.nils, di 0, di 0, di 0, D.v V.nils, D.v V.nils, D.v V.nils, D.v V.nils, di 0]] [(2, 14, List.map vRul rs)], St.mk [some (cDz l a3), some zM, some (cM S [[120]] rs), some [D.v (V.str (ByteArray.mk #[]).data.toList), di 0, di 0, D.v V.nils, D.v V.nils, D.v V.nils, di 0, di 0, di 0, D.v V.nils, D.v V.nils, D.v V.nils, D.v V.nils, di 0]] [(2, 14, List.map vRul rs)], St.mk [some (cDz l a4), some zM, some (cM S [[120]] rs), some [D.v (V.str (ByteArray.mk #[]).data.toList), di 0, di 0, D.v V.nils, D.v V.nils, D.v V.nils, di 0, di 0, di 0, D.v V.nils, D.v V.nils, D.v V.nils, D.v V.nils, di 0]] [(2, 14, List.map vRul rs)], St.mk [some (cDz l a5), some zM, some (cM S [[120]] rs), some [D.v (V.str (ByteArray.mk #[]).data.toList), di 0, di 0, D.v V.nils, D.v V.nils, D.v V.nils, di 0, di 0, di 0, D.v V.nils, D.v V.nils, D.v V.nils, D.v V.nils, di 0]] [(2, 14, List.map vRul rs)]] = [St.mk [some (cDz l a1), some zM, some (cM S [[120]] rs), some [D.v (V.str (ByteArray.mk #[]).data.toList), di 0, di 0, D.v V.nils, D.v V.nils, D.v V.nils, di 0, di 0, di 0, D.v V.nils, D.v V.nils, D.v V.nils, D.v V.nils, di 0]] [(2, 14, List.map vRul rs)], St.mk [some (cDz l a2), some zM, some (cM S [[120]] rs), some [D.v (V.str (ByteArray.mk #[]).data.toList), di 0, di 0, D.v V.nils, D.v V.nils, D.v V.nils, di 0, di 0, di 0, D.v V.nils, D.v V.nils, D.v V.nils, D.v V.nils, di 0]] [(2, 14, List.map vRul rs)], St.mk [some (cDz l a3), some zM, some (cM S [[120]] rs), some [D.v (V.str (ByteArray.mk #[]).data.toList), di 0, di 0, D.v V.nils, D.v V.nils, D.v V.nils, di 0, di 0, di 0, D.v V.nils, D.v V.nils, D.v V.nils, D.v V.nils, di 0]] [(2, 14, List.map vRul rs)], St.mk [some (cDz l a4), some zM, some (cM S [[120]] rs), some [D.v (V.str (ByteArray.mk #[]).data.toList), di 0, di 0, D.v V.nils, D.v V.nils, D.v V.nils, di 0, di 0, di 0, D.v V.nils, D.v V.nils, D.v V.nils, D.v V.nils, di 0]] [(2, 14, List.map vRul rs)], St.mk [some (cDz l a5), some zM, some (cM S [[120]] rs), some [D.v (V.str (ByteArray.mk #[]).data.toList), di 0, di 0, D.v V.nils, D.v V.nils, D.v V.nils, di 0, di 0, di 0, D.v V.nils, D.v V.nils, D.v V.nils, D.v V.nils, di 0]] [(2, 14, List.map vRul rs)]] ∧ ((some [D.v (vSs S)] = some [D.v (vSs S)] ∧ some [D.v (vSs S)] = some [D.v (vSs S)] ∧ some [D.v (vSs S)] = some [D.v (vSs S)] ∧ some [D.v (vSs S)] = some [D.v (vSs S)] ∧ some [D.v (vSs S)] = some [D.v (vSs S)] ∧ some [D.v (vSs S)] = some [D.v (vSs S)] ∧ some [D.v (vSs S)] = some [D.v (vSs S)] ∧ some [D.v (vSs S)] = some [D.v (vSs S)] ∧ some [D.v (vSs S)] = some [D.v (vSs S)] ∧ some [D.v (vSs S)] = some [D.v (vSs S)] ∧ some [D.v (vSs S)] = some [D.v (vSs S)] ∧ True) ∧ (some [D.v (vSs S)] = some [D.v (vSs S)] ∧ some [D.v (vSs S)] = some [D.v (vSs S)] ∧ some [D.v (vSs S)] = some [D.v (vSs S)] ∧ some [D.v (vSs S)] = some [D.v (vSs S)] ∧ some [D.v (vSs S)] = some [D.v (vSs S)] ∧ some [D.v (vSs S)] = some [D.v (vSs S)] ∧ some [D.v (vSs S)] = some [D.v (vSs S)] ∧ some [D.v (vSs S)] = some [D.v (vSs S)] ∧ some [D.v (vSs S)] = some [D.v (vSs S)] ∧ some [D.v (vSs S)] = some [D.v (vSs S)] ∧ some [D.v (vSs S)] = some [D.v (vSs S)] ∧ True) ∧ True) ∧ FSpec PP 18 [D.ptr 0 0, di 2] (St.mk [some (cDz l a5)] []) (di w) (St.mk [some (cDz l a6)] []) ∧ (w == 0) = true ∧ some (D.acc 3 []) = some (D.acc 3 []) ∧ FSpec PP 18 [D.ptr 0 0, di (IntKind.wrap IntKind.i64 ((↑(List.length [[120]]) : Int) + 1))] (St.mk [some (cDz l a6)] []) (di v1) (St.mk [some (cDz l a7)] []) ∧ nV = nV ∧ LenOK 1 8 ∧ ((some [D.acc 3 []] = some [D.acc 3 []] ∧ True) ∧ True) ∧ decide (IntKind.wrap IntKind.i64 (0 + 1) < (↑(List.length [[120]]) : Int)) = false ∧ (∀ (e : List D) (E : Ent) (g : Gh) (a : Act) (w : World), FI E g (St.mk [some (cDz l a7), some zM, some (cM S [[120]] rs), some [D.v (V.str nm), D.v (V.int IntKind.i64 f), D.v (V.int IntKind.i64 t), D.v (vIs nd), D.v (vIs gv), D.acc 3 ([] ++ [V.int IntKind.i64 (IntKind.wrap IntKind.i64 (v1 - 1))]), D.v (V.int IntKind.i64 0), D.v (V.int IntKind.i64 0), D.v (V.int IntKind.i64 0), D.v V.nils, D.v V.nils, D.v V.nils, D.v V.nils, D.v (V.int IntKind.i64 0)]] [(3, 1, [] ++ [V.int IntKind.i64 (IntKind.wrap IntKind.i64 (v1 - 1))]), (2, 14, List.map vRul rs)]) e a w → ∃ g', FI E g' (St.mk [some (cDz l a7), some zM, some (cM S [[120]] rs), some (cR (mkV nm f t nd gv [v1 - 1]))] [(3, 1, [vi (v1 - 1)]), (2, 14, List.map vRul rs)]) e a w) ∧ List.map vRul rs = List.map vRul rs ∧ LenOK (List.length (List.map vRul rs) + List.length (V.agg (V.str (mkV nm f t nd gv [v1 - 1]).name :: V.int IntKind.i64 (mkV nm f t nd gv [v1 - 1]).frm :: V.int IntKind.i64 (mkV nm f t nd gv [v1 - 1]).to :: vIs (mkV nm f t nd gv [v1 - 1]).need :: vIs (mkV nm f t nd gv [v1 - 1]).give :: vIs (mkV nm f t nd gv [v1 - 1]).move :: V.int IntKind.i64 (mkV nm f t nd gv [v1 - 1]).chan :: V.int IntKind.i64 (mkV nm f t nd gv [v1 - 1]).act :: V.int IntKind.i64 (mkV nm f t nd gv [v1 - 1]).letter :: vIs (mkV nm f t nd gv [v1 - 1]).path :: vIs (mkV nm f t nd gv [v1 - 1]).next :: vTks (mkV nm f t nd gv [v1 - 1]).takes :: vIs (mkV nm f t nd gv [v1 - 1]).makes :: V.int IntKind.i64 (mkV nm f t nd gv [v1 - 1]).second :: nV) :: nV)) 232 ∧ di (IntKind.wrap IntKind.i64 ((↑k : Int) + 1)) = di (↑(k + 1) : Int) ∧ [some (cDz l a7), some zM, some [di 1, D.v (vSs S), D.v (vSs [[120]]), D.v V.nils, D.v V.nils, di 0, di 0, D.acc 2 (List.map vRul rs ++ V.agg (V.str (mkV nm f t nd gv [v1 - 1]).name :: vi (mkV nm f t nd gv [v1 - 1]).frm :: vi (mkV nm f t nd gv [v1 - 1]).to :: vIs (mkV nm f t nd gv [v1 - 1]).need :: vIs (mkV nm f t nd gv [v1 - 1]).give :: vIs (mkV nm f t nd gv [v1 - 1]).move :: vi (mkV nm f t nd gv [v1 - 1]).chan :: vi (mkV nm f t nd gv [v1 - 1]).act :: vi (mkV nm f t nd gv [v1 - 1]).letter :: vIs (mkV nm f t nd gv [v1 - 1]).path :: vIs (mkV nm f t nd gv [v1 - 1]).next :: vTks (mkV nm f t nd gv [v1 - 1]).takes :: vIs (mkV nm f t nd gv [v1 - 1]).makes :: vi (mkV nm f t nd gv [v1 - 1]).second :: nV) :: nV), di 0, D.v V.nils]] = [some (cDz l a7), some zM, some (cM S [[120]] (rs ++ [mkV nm f t nd gv [v1 - 1]]))] ∧ [(2, 14, List.map vRul rs ++ V.agg (V.str (mkV nm f t nd gv [v1 - 1]).name :: vi (mkV nm f t nd gv [v1 - 1]).frm :: vi (mkV nm f t nd gv [v1 - 1]).to :: vIs (mkV nm f t nd gv [v1 - 1]).need :: vIs (mkV nm f t nd gv [v1 - 1]).give :: vIs (mkV nm f t nd gv [v1 - 1]).move :: vi (mkV nm f t nd gv [v1 - 1]).chan :: vi (mkV nm f t nd gv [v1 - 1]).act :: vi (mkV nm f t nd gv [v1 - 1]).letter :: vIs (mkV nm f t nd gv [v1 - 1]).path :: vIs (mkV nm f t nd gv [v1 - 1]).next :: vTks (mkV nm f t nd gv [v1 - 1]).takes :: vIs (mkV nm f t nd gv [v1 - 1]).makes :: vi (mkV nm f t nd gv [v1 - 1]).second :: nV) :: nV)] = [(2, 14, List.map vRul (rs ++ [mkV nm f t nd gv [v1 - 1]]))] ∧ Nv.It (RunC (CN 1) PP (fun env σ1 => ResOK PP fCtr env σ1 (dMod m) (dz l a')) [KI.lp (sub cCtr [1, 1, 1, 0, 1, 0, 0]), KI.blk 0, KI.code (sub cCtr [1, 1, 1, 1])] (mkE 85 [(0, D.ptr 0 0), (1, db true), (4, D.ptr 1 0), (5, D.ptr 2 0), (6, di (↑(List.length [[120]]) : Int)), (7, di (↑(k + 1) : Int))]) (stC l a7 S [[120]] (rs ++ [mkV nm f t nd gv [v1 - 1]])))) = _) ?_
        rw [hSm, wrap_id (n := v1 - 1) (by omega) (by omega)]
        repeat' first | with_reducible refine And.intro ?_ ?_
        all_goals first | exact h4 | exact hkr | exact f4 | exact t4 | exact n4 | exact g4 | exact w4 | exact hw | exact v14 | exact idx_str hnm | exact ⟨m3⟩ | exact wrap_succ (by omega) | omega | rfl | trivial | skip
        all_goals first | exact congrArg (fun z => [some (cDz l a7), some zM, some [di 1, .v (vSs S), .v (vSs [[120]]), .v .nils, .v .nils, di 0, di 0, .acc 2 z, di 0, .v .nils]]) (vRul_snoc rs (mkV nm f t nd gv [v1 - 1])) | exact congrArg (fun z => [(2, 14, z)]) (vRul_snoc rs (mkV nm f t nd gv [v1 - 1])) | (simp only [List.length_map, List.length_cons, List.length_nil]; omega) | exact (fun e => cv_rule (H := [some (cDz l a7), some zM, some (cM S [[120]] rs), some [.v (.str nm), di f, di t, .v (vIs nd), .v (vIs gv), .acc 3 ([v1 - 1].map vi), di 0, di 0, di 0, .v .nils, .v .nils, .v .nils, .v .nils, di 0]]) (own := [(3, 1, [v1 - 1].map vi), (2, 14, rs.map vRul)]) (q := 3) (tag := 3) (nm := nm) (f := f) (t := t) (nd := nd) (gv := gv) (xs := [v1 - 1]) rfl e)
      · obtain ⟨v1, a7, v11, v12, v13, v14⟩ := pick_ex l hl a6 w3 3 (by decide) (by decide)
        obtain ⟨v2, a8, v21, v22, v23, v24⟩ := pick_ex l hl a7 v13 3 (by decide) (by decide)
        obtain ⟨m, a', m1, m2, m3⟩ := ih (3 - (k + 1)) (by omega) (k + 1) a8 (rs ++ [mkV nm f t nd gv [v1 - 1, v2 - 1]]) rfl v23 (by omega) (by simp [hrs]) (mkV_at hnm ⟨f1, f2⟩ ⟨t1, t2⟩ ⟨n2, n3⟩ ⟨g2, g3⟩ (.inr ⟨by rw [hP]; rfl, fun t ht => by
          rw [hP]; show -1 ≤ t ∧ t < ((2 : Nat) : Int)
          simp only [List.mem_cons, List.not_mem_nil, or_false] at ht
          omega⟩) hrs hR)
        refine ⟨m, a', m1, m2, ?_⟩
        subst hP
        refine loop_vc mixed 85 [] (.c1 (cDz l a1) (di r) <| .t <| .h (.dr 21) <| .x (.str nm) <| .c1 (cDz l a2) (di f) <| .c1 (cDz l a3) (di t) <| .c1 (cDz l a4) (dIs nd) <| .c1 (cDz l a5) (dIs gv) <| .h .rn <| .c1 (cDz l a6) (di w) <| .t <| .h (.q 8 0) <| .h (.cl 3 5 3 1) <| .n <| .m (.acc 3 []) <| .c1 (cDz l a7) (di v1) <| .n <| .t <| .m (.acc 3 [vi (v1 - 1)]) <| .c1 (cDz l a8) (di v2) <| .n <| .f <| .h (.q 12 2) <| .h (.cs ⟨[some (cDz l a8), some zM, some (cM S [[120], [121]] rs), some (cR (mkV nm f t nd gv [v1 - 1, v2 - 1]))], [(3, 1, [vi (v1 - 1), vi (v2 - 1)]), (2, 14, rs.map vRul)]⟩) <| .ls [ke 0, ke 1, ke 4, ke 5, ke 6, ch 7 (di (k + 1 : Nat))] (stC l a8 S [[120], [121]] (rs ++ [mkV nm f t nd gv [v1 - 1, v2 - 1]]))) ?_
        refine via (by kernel_rfl : (FSpec PP 18 [D.ptr 0 0, di 3] (St.mk [some (cDz l a)] []) (di r) (St.mk [some (cDz l a1)] []) ∧ decide ((↑k : Int) < IntKind.wrap IntKind.i64 (1 + r)) = true ∧ 0 ≤ (↑k : Int) ∧ [V.str (ByteArray.mk #[114]).data.toList, V.str (ByteArray.mk #[115]).data.toList, V.str (ByteArray.mk #[116]).data.toList][Int.toNat (↑k : Int)]? = some (V.str nm) ∧ FSpec PP 18 [D.ptr 0 0, di (↑(List.length (List.map V.str S)) : Int)] (St.mk [some (cDz l a1)] []) (di f) (St.mk [some (cDz l a2)] []) ∧ FSpec PP 18 [D.ptr 0 0, di (↑(List.length (List.map V.str S)) : Int)] (St.mk [some (cDz l a1)] []) (di f) (St.mk [some (cDz l a2)] []) ∧ di f = di f ∧ FSpec PP 18 [D.ptr 0 0, di (↑(List.length (List.map V.str S)) : Int)] (St.mk [some (cDz l a2)] []) (di t) (St.mk [some (cDz l a3)] []) ∧ FSpec PP 18 [D.ptr 0 0, di (↑(List.length (List.map V.str S)) : Int)] (St.mk [some (cDz l a2)] []) (di t) (St.mk [some (cDz l a3)] []) ∧ di t = di t ∧ FSpec PP 23 [D.ptr 0 0, di (↑(List.length [[120], [121]]) : Int), di 2] (St.mk [some (cDz l a3)] []) (dIs nd) (St.mk [some (cDz l a4)] []) ∧ FSpec PP 23 [D.ptr 0 0, di (↑(List.length [[120], [121]]) : Int), di 2] (St.mk [some (cDz l a3)] []) (dIs nd) (St.mk [some (cDz l a4)] []) ∧ dIs nd = dIs nd ∧ FSpec PP 23 [D.ptr 0 0, di (↑(List.length [[120], [121]]) : Int), di 2] (St.mk [some (cDz l a4)] []) (dIs gv) (St.mk [some (cDz l a5)] []) ∧ FSpec PP 23 [D.ptr 0 0, di (↑(List.length [[120], [121]]) : Int), di 2] (St.mk [some (cDz l a4)] []) (dIs gv) (St.mk [some (cDz l a5)] []) ∧ dIs gv = dIs gv ∧ [St.mk [some (cDz l a1), some zM, some (cM S [[120], [121]] rs), some [D.v (V.str (ByteArray.mk #[]).data.toList), di 0, di 0, D.v V.nils, D.v V.nils, D.v V.nils, di 0, di 0, di 0, D.v V.nils, D.v V.nils, D.v V.nils, D.v V.nils, di 0]] [(2, 14, List.map vRul rs)], St.mk [some (cDz l a2), some zM, some (cM S [[120], [121]] rs), some [D.v (V.str (ByteArray.mk #[]).data.toList), di 0, di 0, D.v V.nils, D.v V.nils, D.v V.nils, di 0, di 0, di 0, D.v V.nils, D.v V.nils, D.v V.nils, D.v V.nils, di 0]] [(2, 14, List.map vRul rs)], St.mk [some (cDz l a3), some zM, some (cM S [[120], [121]] rs), some [D.v (V.str (ByteArray.mk #[]).data.toList), di 0, di 0, D.v V.nils, D.v V.nils, D.v V.nils, di 0, di 0, di 0, D.v V.nils, D.v V.nils, D.v V.nils, D.v V.nils, di 0]] [(2, 14, List.map vRul rs)], St.mk [some (cDz l a4), some zM, some (cM S [[120], [121]] rs), some [D.v (V.str (ByteArray.mk #[]).data.toList), di 0, di 0, D.v V.nils, D.v V.nils, D.v V.nils, di 0, di 0, di 0, D.v V.nils, D.v V.nils, D.v V.nils, D.v V.nils, di 0]] [(2, 14, List.map vRul rs)], St.mk [some (cDz l a5), some zM, some (cM S [[120], [121]] rs), some [D.v (V.str (ByteArray.mk #[]).data.toList), di 0, di 0, D.v V.nils, D.v V.nils, D.v V.nils, di 0, di 0, di 0, D.v V.nils, D.v V.nils, D.v V.nils, D.v V.nils, di 0]] [(2, 14, List.map vRul rs)]] = [St.mk [some (cDz l a1), some zM, some (cM S [[120], [121]] rs), some [D.v (V.str (ByteArray.mk #[]).data.toList), di 0, di 0, D.v V.nils, D.v V.nils, D.v V.nils, di 0, di 0, di 0, D.v V.nils, D.v V.nils, D.v V.nils, D.v V.nils, di 0]] [(2, 14, List.map vRul rs)], St.mk [some (cDz l a2), some zM, some (cM S [[120], [121]] rs), some [D.v (V.str (ByteArray.mk #[]).data.toList), di 0, di 0, D.v V.nils, D.v V.nils, D.v V.nils, di 0, di 0, di 0, D.v V.nils, D.v V.nils, D.v V.nils, D.v V.nils, di 0]] [(2, 14, List.map vRul rs)], St.mk [some (cDz l a3), some zM, some (cM S [[120], [121]] rs), some [D.v (V.str (ByteArray.mk #[]).data.toList), di 0, di 0, D.v V.nils, D.v V.nils, D.v V.nils, di 0, di 0, di 0, D.v V.nils, D.v V.nils, D.v V.nils, D.v V.nils, di 0]] [(2, 14, List.map vRul rs)], St.mk [some (cDz l a4), some zM, some (cM S [[120], [121]] rs), some [D.v (V.str (ByteArray.mk #[]).data.toList), di 0, di 0, D.v V.nils, D.v V.nils, D.v V.nils, di 0, di 0, di 0, D.v V.nils, D.v V.nils, D.v V.nils, D.v V.nils, di 0]] [(2, 14, List.map vRul rs)], St.mk [some (cDz l a5), some zM, some (cM S [[120], [121]] rs), some [D.v (V.str (ByteArray.mk #[]).data.toList), di 0, di 0, D.v V.nils, D.v V.nils, D.v V.nils, di 0, di 0, di 0, D.v V.nils, D.v V.nils, D.v V.nils, D.v V.nils, di 0]] [(2, 14, List.map vRul rs)]] ∧ ((some [D.v (vSs S)] = some [D.v (vSs S)] ∧ some [D.v (vSs S)] = some [D.v (vSs S)] ∧ some [D.v (vSs S)] = some [D.v (vSs S)] ∧ some [D.v (vSs S)] = some [D.v (vSs S)] ∧ some [D.v (vSs S)] = some [D.v (vSs S)] ∧ some [D.v (vSs S)] = some [D.v (vSs S)] ∧ some [D.v (vSs S)] = some [D.v (vSs S)] ∧ some [D.v (vSs S)] = some [D.v (vSs S)] ∧ some [D.v (vSs S)] = some [D.v (vSs S)] ∧ some [D.v (vSs S)] = some [D.v (vSs S)] ∧ some [D.v (vSs S)] = some [D.v (vSs S)] ∧ True) ∧ (some [D.v (vSs S)] = some [D.v (vSs S)] ∧ some [D.v (vSs S)] = some [D.v (vSs S)] ∧ some [D.v (vSs S)] = some [D.v (vSs S)] ∧ some [D.v (vSs S)] = some [D.v (vSs S)] ∧ some [D.v (vSs S)] = some [D.v (vSs S)] ∧ some [D.v (vSs S)] = some [D.v (vSs S)] ∧ some [D.v (vSs S)] = some [D.v (vSs S)] ∧ some [D.v (vSs S)] = some [D.v (vSs S)] ∧ some [D.v (vSs S)] = some [D.v (vSs S)] ∧ some [D.v (vSs S)] = some [D.v (vSs S)] ∧ some [D.v (vSs S)] = some [D.v (vSs S)] ∧ True) ∧ True) ∧ FSpec PP 18 [D.ptr 0 0, di 2] (St.mk [some (cDz l a5)] []) (di w) (St.mk [some (cDz l a6)] []) ∧ (w == 0) = true ∧ some (D.acc 3 []) = some (D.acc 3 []) ∧ FSpec PP 18 [D.ptr 0 0, di (IntKind.wrap IntKind.i64 ((↑(List.length [[120], [121]]) : Int) + 1))] (St.mk [some (cDz l a6)] []) (di v1) (St.mk [some (cDz l a7)] []) ∧ nV = nV ∧ LenOK 1 8 ∧ ((some [D.acc 3 []] = some [D.acc 3 []] ∧ True) ∧ True) ∧ decide (IntKind.wrap IntKind.i64 (0 + 1) < (↑(List.length [[120], [121]]) : Int)) = true ∧ some (D.acc 3 [vi (IntKind.wrap IntKind.i64 (v1 - 1))]) = some (D.acc 3 [vi (v1 - 1)]) ∧ FSpec PP 18 [D.ptr 0 0, di (IntKind.wrap IntKind.i64 ((↑(List.length [[120], [121]]) : Int) + 1))] (St.mk [some (cDz l a7)] []) (di v2) (St.mk [some (cDz l a8)] []) ∧ vi (IntKind.wrap IntKind.i64 (v1 - 1)) :: nV = vi (v1 - 1) :: nV ∧ LenOK 2 8 ∧ ((some [D.acc 3 [vi (IntKind.wrap IntKind.i64 (v1 - 1))]] = some [D.acc 3 [vi (IntKind.wrap IntKind.i64 (v1 - 1))]] ∧ True) ∧ True) ∧ decide (IntKind.wrap IntKind.i64 (IntKind.wrap IntKind.i64 (0 + 1) + 1) < (↑(List.length [[120], [121]]) : Int)) = false ∧ (∀ (e : List D) (E : Ent) (g : Gh) (a : Act) (w : World), FI E g (St.mk [some (cDz l a8), some zM, some (cM S [[120], [121]] rs), some [D.v (V.str nm), D.v (V.int IntKind.i64 f), D.v (V.int IntKind.i64 t), D.v (vIs nd), D.v (vIs gv), D.acc 3 ([vi (v1 - 1)] ++ [V.int IntKind.i64 (IntKind.wrap IntKind.i64 (v2 - 1))]), D.v (V.int IntKind.i64 0), D.v (V.int IntKind.i64 0), D.v (V.int IntKind.i64 0), D.v V.nils, D.v V.nils, D.v V.nils, D.v V.nils, D.v (V.int IntKind.i64 0)]] [(3, 1, [vi (v1 - 1)] ++ [V.int IntKind.i64 (IntKind.wrap IntKind.i64 (v2 - 1))]), (2, 14, List.map vRul rs)]) e a w → ∃ g', FI E g' (St.mk [some (cDz l a8), some zM, some (cM S [[120], [121]] rs), some (cR (mkV nm f t nd gv [v1 - 1, v2 - 1]))] [(3, 1, [vi (v1 - 1), vi (v2 - 1)]), (2, 14, List.map vRul rs)]) e a w) ∧ List.map vRul rs = List.map vRul rs ∧ LenOK (List.length (List.map vRul rs) + List.length (V.agg (V.str (mkV nm f t nd gv [v1 - 1, v2 - 1]).name :: V.int IntKind.i64 (mkV nm f t nd gv [v1 - 1, v2 - 1]).frm :: V.int IntKind.i64 (mkV nm f t nd gv [v1 - 1, v2 - 1]).to :: vIs (mkV nm f t nd gv [v1 - 1, v2 - 1]).need :: vIs (mkV nm f t nd gv [v1 - 1, v2 - 1]).give :: vIs (mkV nm f t nd gv [v1 - 1, v2 - 1]).move :: V.int IntKind.i64 (mkV nm f t nd gv [v1 - 1, v2 - 1]).chan :: V.int IntKind.i64 (mkV nm f t nd gv [v1 - 1, v2 - 1]).act :: V.int IntKind.i64 (mkV nm f t nd gv [v1 - 1, v2 - 1]).letter :: vIs (mkV nm f t nd gv [v1 - 1, v2 - 1]).path :: vIs (mkV nm f t nd gv [v1 - 1, v2 - 1]).next :: vTks (mkV nm f t nd gv [v1 - 1, v2 - 1]).takes :: vIs (mkV nm f t nd gv [v1 - 1, v2 - 1]).makes :: V.int IntKind.i64 (mkV nm f t nd gv [v1 - 1, v2 - 1]).second :: nV) :: nV)) 232 ∧ di (IntKind.wrap IntKind.i64 ((↑k : Int) + 1)) = di (↑(k + 1) : Int) ∧ [some (cDz l a8), some zM, some [di 1, D.v (vSs S), D.v (vSs [[120], [121]]), D.v V.nils, D.v V.nils, di 0, di 0, D.acc 2 (List.map vRul rs ++ V.agg (V.str (mkV nm f t nd gv [v1 - 1, v2 - 1]).name :: vi (mkV nm f t nd gv [v1 - 1, v2 - 1]).frm :: vi (mkV nm f t nd gv [v1 - 1, v2 - 1]).to :: vIs (mkV nm f t nd gv [v1 - 1, v2 - 1]).need :: vIs (mkV nm f t nd gv [v1 - 1, v2 - 1]).give :: vIs (mkV nm f t nd gv [v1 - 1, v2 - 1]).move :: vi (mkV nm f t nd gv [v1 - 1, v2 - 1]).chan :: vi (mkV nm f t nd gv [v1 - 1, v2 - 1]).act :: vi (mkV nm f t nd gv [v1 - 1, v2 - 1]).letter :: vIs (mkV nm f t nd gv [v1 - 1, v2 - 1]).path :: vIs (mkV nm f t nd gv [v1 - 1, v2 - 1]).next :: vTks (mkV nm f t nd gv [v1 - 1, v2 - 1]).takes :: vIs (mkV nm f t nd gv [v1 - 1, v2 - 1]).makes :: vi (mkV nm f t nd gv [v1 - 1, v2 - 1]).second :: nV) :: nV), di 0, D.v V.nils]] = [some (cDz l a8), some zM, some (cM S [[120], [121]] (rs ++ [mkV nm f t nd gv [v1 - 1, v2 - 1]]))] ∧ [(2, 14, List.map vRul rs ++ V.agg (V.str (mkV nm f t nd gv [v1 - 1, v2 - 1]).name :: vi (mkV nm f t nd gv [v1 - 1, v2 - 1]).frm :: vi (mkV nm f t nd gv [v1 - 1, v2 - 1]).to :: vIs (mkV nm f t nd gv [v1 - 1, v2 - 1]).need :: vIs (mkV nm f t nd gv [v1 - 1, v2 - 1]).give :: vIs (mkV nm f t nd gv [v1 - 1, v2 - 1]).move :: vi (mkV nm f t nd gv [v1 - 1, v2 - 1]).chan :: vi (mkV nm f t nd gv [v1 - 1, v2 - 1]).act :: vi (mkV nm f t nd gv [v1 - 1, v2 - 1]).letter :: vIs (mkV nm f t nd gv [v1 - 1, v2 - 1]).path :: vIs (mkV nm f t nd gv [v1 - 1, v2 - 1]).next :: vTks (mkV nm f t nd gv [v1 - 1, v2 - 1]).takes :: vIs (mkV nm f t nd gv [v1 - 1, v2 - 1]).makes :: vi (mkV nm f t nd gv [v1 - 1, v2 - 1]).second :: nV) :: nV)] = [(2, 14, List.map vRul (rs ++ [mkV nm f t nd gv [v1 - 1, v2 - 1]]))] ∧ Nv.It (RunC (CN 1) PP (fun env σ1 => ResOK PP fCtr env σ1 (dMod m) (dz l a')) [KI.lp (sub cCtr [1, 1, 1, 0, 1, 0, 0]), KI.blk 0, KI.code (sub cCtr [1, 1, 1, 1])] (mkE 85 [(0, D.ptr 0 0), (1, db true), (4, D.ptr 1 0), (5, D.ptr 2 0), (6, di (↑(List.length [[120], [121]]) : Int)), (7, di (↑(k + 1) : Int))]) (stC l a8 S [[120], [121]] (rs ++ [mkV nm f t nd gv [v1 - 1, v2 - 1]])))) = _) ?_
        rw [hSm, wrap_id (n := v1 - 1) (by omega) (by omega), wrap_id (n := v2 - 1) (by omega) (by omega)]
        repeat' first | with_reducible refine And.intro ?_ ?_
        all_goals first | exact h4 | exact hkr | exact f4 | exact t4 | exact n4 | exact g4 | exact w4 | exact hw | exact v14 | exact v24 | exact idx_str hnm | exact ⟨m3⟩ | exact wrap_succ (by omega) | omega | rfl | trivial | skip
        all_goals first | exact congrArg (fun z => [some (cDz l a8), some zM, some [di 1, .v (vSs S), .v (vSs [[120], [121]]), .v .nils, .v .nils, di 0, di 0, .acc 2 z, di 0, .v .nils]]) (vRul_snoc rs (mkV nm f t nd gv [v1 - 1, v2 - 1])) | exact congrArg (fun z => [(2, 14, z)]) (vRul_snoc rs (mkV nm f t nd gv [v1 - 1, v2 - 1])) | (simp only [List.length_map, List.length_cons, List.length_nil]; omega) | exact (fun e => cv_rule (H := [some (cDz l a8), some zM, some (cM S [[120], [121]] rs), some [.v (.str nm), di f, di t, .v (vIs nd), .v (vIs gv), .acc 3 ([v1 - 1, v2 - 1].map vi), di 0, di 0, di 0, .v .nils, .v .nils, .v .nils, .v .nils, di 0]]) (own := [(3, 1, [v1 - 1, v2 - 1].map vi), (2, 14, rs.map vRul)]) (q := 3) (tag := 3) (nm := nm) (f := f) (t := t) (nd := nd) (gv := gv) (xs := [v1 - 1, v2 - 1]) rfl e)
    · obtain ⟨m, a', m1, m2, m3⟩ := ih (3 - (k + 1)) (by omega) (k + 1) a6 (rs ++ [mkV nm f t nd gv []]) rfl w3 (by omega) (by simp [hrs]) (mkV_at hnm ⟨f1, f2⟩ ⟨t1, t2⟩ ⟨n2, n3⟩ ⟨g2, g3⟩ (.inl rfl) hrs hR)
      refine ⟨m, a', m1, m2, ?_⟩
      refine loop_vc mixed 85 [] (.c1 (cDz l a1) (di r) <| .t <| .h (.dr 21) <| .x (.str nm) <| .c1 (cDz l a2) (di f) <| .c1 (cDz l a3) (di t) <| .c1 (cDz l a4) (dIs nd) <| .c1 (cDz l a5) (dIs gv) <| .c1 (cDz l a6) (di w) <| .f <| .ls [ke 0, ke 1, ke 4, ke 5, ke 6, ch 7 (di (k + 1 : Nat))] (stC l a6 S Pl (rs ++ [mkV nm f t nd gv []]))) ?_
      refine via (by kernel_rfl : (FSpec PP 18 [D.ptr 0 0, di 3] (St.mk [some (cDz l a)] []) (di r) (St.mk [some (cDz l a1)] []) ∧ decide ((↑k : Int) < IntKind.wrap IntKind.i64 (1 + r)) = true ∧ 0 ≤ (↑k : Int) ∧ [V.str (ByteArray.mk #[114]).data.toList, V.str (ByteArray.mk #[115]).data.toList, V.str (ByteArray.mk #[116]).data.toList][Int.toNat (↑k : Int)]? = some (V.str nm) ∧ FSpec PP 18 [D.ptr 0 0, di (↑(List.length (List.map V.str S)) : Int)] (St.mk [some (cDz l a1)] []) (di f) (St.mk [some (cDz l a2)] []) ∧ FSpec PP 18 [D.ptr 0 0, di (↑(List.length (List.map V.str S)) : Int)] (St.mk [some (cDz l a1)] []) (di f) (St.mk [some (cDz l a2)] []) ∧ di f = di f ∧ FSpec PP 18 [D.ptr 0 0, di (↑(List.length (List.map V.str S)) : Int)] (St.mk [some (cDz l a2)] []) (di t) (St.mk [some (cDz l a3)] []) ∧ FSpec PP 18 [D.ptr 0 0, di (↑(List.length (List.map V.str S)) : Int)] (St.mk [some (cDz l a2)] []) (di t) (St.mk [some (cDz l a3)] []) ∧ di t = di t ∧ FSpec PP 23 [D.ptr 0 0, di (↑(List.length Pl) : Int), di 2] (St.mk [some (cDz l a3)] []) (dIs nd) (St.mk [some (cDz l a4)] []) ∧ FSpec PP 23 [D.ptr 0 0, di (↑(List.length Pl) : Int), di 2] (St.mk [some (cDz l a3)] []) (dIs nd) (St.mk [some (cDz l a4)] []) ∧ dIs nd = dIs nd ∧ FSpec PP 23 [D.ptr 0 0, di (↑(List.length Pl) : Int), di 2] (St.mk [some (cDz l a4)] []) (dIs gv) (St.mk [some (cDz l a5)] []) ∧ FSpec PP 23 [D.ptr 0 0, di (↑(List.length Pl) : Int), di 2] (St.mk [some (cDz l a4)] []) (dIs gv) (St.mk [some (cDz l a5)] []) ∧ dIs gv = dIs gv ∧ [St.mk [some (cDz l a1), some zM, some (cM S Pl rs), some [D.v (V.str (ByteArray.mk #[]).data.toList), di 0, di 0, D.v V.nils, D.v V.nils, D.v V.nils, di 0, di 0, di 0, D.v V.nils, D.v V.nils, D.v V.nils, D.v V.nils, di 0]] [(2, 14, List.map vRul rs)], St.mk [some (cDz l a2), some zM, some (cM S Pl rs), some [D.v (V.str (ByteArray.mk #[]).data.toList), di 0, di 0, D.v V.nils, D.v V.nils, D.v V.nils, di 0, di 0, di 0, D.v V.nils, D.v V.nils, D.v V.nils, D.v V.nils, di 0]] [(2, 14, List.map vRul rs)], St.mk [some (cDz l a3), some zM, some (cM S Pl rs), some [D.v (V.str (ByteArray.mk #[]).data.toList), di 0, di 0, D.v V.nils, D.v V.nils, D.v V.nils, di 0, di 0, di 0, D.v V.nils, D.v V.nils, D.v V.nils, D.v V.nils, di 0]] [(2, 14, List.map vRul rs)], St.mk [some (cDz l a4), some zM, some (cM S Pl rs), some [D.v (V.str (ByteArray.mk #[]).data.toList), di 0, di 0, D.v V.nils, D.v V.nils, D.v V.nils, di 0, di 0, di 0, D.v V.nils, D.v V.nils, D.v V.nils, D.v V.nils, di 0]] [(2, 14, List.map vRul rs)], St.mk [some (cDz l a5), some zM, some (cM S Pl rs), some [D.v (V.str (ByteArray.mk #[]).data.toList), di 0, di 0, D.v V.nils, D.v V.nils, D.v V.nils, di 0, di 0, di 0, D.v V.nils, D.v V.nils, D.v V.nils, D.v V.nils, di 0]] [(2, 14, List.map vRul rs)]] = [St.mk [some (cDz l a1), some zM, some (cM S Pl rs), some [D.v (V.str (ByteArray.mk #[]).data.toList), di 0, di 0, D.v V.nils, D.v V.nils, D.v V.nils, di 0, di 0, di 0, D.v V.nils, D.v V.nils, D.v V.nils, D.v V.nils, di 0]] [(2, 14, List.map vRul rs)], St.mk [some (cDz l a2), some zM, some (cM S Pl rs), some [D.v (V.str (ByteArray.mk #[]).data.toList), di 0, di 0, D.v V.nils, D.v V.nils, D.v V.nils, di 0, di 0, di 0, D.v V.nils, D.v V.nils, D.v V.nils, D.v V.nils, di 0]] [(2, 14, List.map vRul rs)], St.mk [some (cDz l a3), some zM, some (cM S Pl rs), some [D.v (V.str (ByteArray.mk #[]).data.toList), di 0, di 0, D.v V.nils, D.v V.nils, D.v V.nils, di 0, di 0, di 0, D.v V.nils, D.v V.nils, D.v V.nils, D.v V.nils, di 0]] [(2, 14, List.map vRul rs)], St.mk [some (cDz l a4), some zM, some (cM S Pl rs), some [D.v (V.str (ByteArray.mk #[]).data.toList), di 0, di 0, D.v V.nils, D.v V.nils, D.v V.nils, di 0, di 0, di 0, D.v V.nils, D.v V.nils, D.v V.nils, D.v V.nils, di 0]] [(2, 14, List.map vRul rs)], St.mk [some (cDz l a5), some zM, some (cM S Pl rs), some [D.v (V.str (ByteArray.mk #[]).data.toList), di 0, di 0, D.v V.nils, D.v V.nils, D.v V.nils, di 0, di 0, di 0, D.v V.nils, D.v V.nils, D.v V.nils, D.v V.nils, di 0]] [(2, 14, List.map vRul rs)]] ∧ ((some [D.v (vSs S)] = some [D.v (vSs S)] ∧ some [D.v (vSs S)] = some [D.v (vSs S)] ∧ some [D.v (vSs S)] = some [D.v (vSs S)] ∧ some [D.v (vSs S)] = some [D.v (vSs S)] ∧ some [D.v (vSs S)] = some [D.v (vSs S)] ∧ some [D.v (vSs S)] = some [D.v (vSs S)] ∧ some [D.v (vSs S)] = some [D.v (vSs S)] ∧ some [D.v (vSs S)] = some [D.v (vSs S)] ∧ some [D.v (vSs S)] = some [D.v (vSs S)] ∧ some [D.v (vSs S)] = some [D.v (vSs S)] ∧ some [D.v (vSs S)] = some [D.v (vSs S)] ∧ True) ∧ (some [D.v (vSs S)] = some [D.v (vSs S)] ∧ some [D.v (vSs S)] = some [D.v (vSs S)] ∧ some [D.v (vSs S)] = some [D.v (vSs S)] ∧ some [D.v (vSs S)] = some [D.v (vSs S)] ∧ some [D.v (vSs S)] = some [D.v (vSs S)] ∧ some [D.v (vSs S)] = some [D.v (vSs S)] ∧ some [D.v (vSs S)] = some [D.v (vSs S)] ∧ some [D.v (vSs S)] = some [D.v (vSs S)] ∧ some [D.v (vSs S)] = some [D.v (vSs S)] ∧ some [D.v (vSs S)] = some [D.v (vSs S)] ∧ some [D.v (vSs S)] = some [D.v (vSs S)] ∧ True) ∧ True) ∧ FSpec PP 18 [D.ptr 0 0, di 2] (St.mk [some (cDz l a5)] []) (di w) (St.mk [some (cDz l a6)] []) ∧ (w == 0) = false ∧ List.map vRul rs = List.map vRul rs ∧ LenOK (List.length (List.map vRul rs) + List.length (V.agg (V.str nm :: V.int IntKind.i64 f :: V.int IntKind.i64 t :: vIs nd :: vIs gv :: V.list nV :: V.int IntKind.i64 0 :: V.int IntKind.i64 0 :: V.int IntKind.i64 0 :: V.list nV :: V.list nV :: V.list nV :: V.list nV :: V.int IntKind.i64 0 :: nV) :: nV)) 232 ∧ di (IntKind.wrap IntKind.i64 ((↑k : Int) + 1)) = di (↑(k + 1) : Int) ∧ [some (cDz l a6), some zM, some [di 1, D.v (vSs S), D.v (vSs Pl), D.v V.nils, D.v V.nils, di 0, di 0, D.acc 2 (List.map vRul rs ++ V.agg (V.str nm :: vi f :: vi t :: vIs nd :: vIs gv :: V.list nV :: vi 0 :: vi 0 :: vi 0 :: V.list nV :: V.list nV :: V.list nV :: V.list nV :: vi 0 :: nV) :: nV), di 0, D.v V.nils]] = [some (cDz l a6), some zM, some (cM S Pl (rs ++ [mkV nm f t nd gv []]))] ∧ [(2, 14, List.map vRul rs ++ V.agg (V.str nm :: vi f :: vi t :: vIs nd :: vIs gv :: V.list nV :: vi 0 :: vi 0 :: vi 0 :: V.list nV :: V.list nV :: V.list nV :: V.list nV :: vi 0 :: nV) :: nV)] = [(2, 14, List.map vRul (rs ++ [mkV nm f t nd gv []]))] ∧ Nv.It (RunC (CN 1) PP (fun env σ1 => ResOK PP fCtr env σ1 (dMod m) (dz l a')) [KI.lp (sub cCtr [1, 1, 1, 0, 1, 0, 0]), KI.blk 0, KI.code (sub cCtr [1, 1, 1, 1])] (mkE 85 [(0, D.ptr 0 0), (1, db true), (4, D.ptr 1 0), (5, D.ptr 2 0), (6, di (↑(List.length Pl) : Int)), (7, di (↑(k + 1) : Int))]) (stC l a6 S Pl (rs ++ [mkV nm f t nd gv []])))) = _) ?_
      rw [hSm]
      repeat' first | with_reducible refine And.intro ?_ ?_
      all_goals first | exact h4 | exact hkr | exact f4 | exact t4 | exact n4 | exact g4 | exact w4 | exact eq_false_of_ne_true hw | exact idx_str hnm | exact ⟨m3⟩ | exact wrap_succ (by omega) | omega | rfl | trivial | skip
      all_goals first | exact congrArg (fun z => [some (cDz l a6), some zM, some [di 1, .v (vSs S), .v (vSs Pl), .v .nils, .v .nils, di 0, di 0, .acc 2 z, di 0, .v .nils]]) (vRul_snoc rs (mkV nm f t nd gv [])) | exact congrArg (fun z => [(2, 14, z)]) (vRul_snoc rs (mkV nm f t nd gv [])) | (simp only [List.length_map, List.length_cons, List.length_nil]; omega)
  · obtain ⟨ys, a2, y1, y2, y3, y4⟩ := ints_ex l hl a1 h3 Pl.length (by omega) 3 (by decide) (by decide)
    obtain ⟨c, hc⟩ : ∃ c, c = cfgV 0 ys := ⟨_, rfl⟩
    refine ⟨⟨1, S, Pl, [], [], 0, 0, rs, c⟩, a2, ⟨rfl, hS, hP, rfl, rfl, rfl, rfl, by show rs.length ≤ 3; omega, hR, ys, y2, y3, hc⟩, y1, ?_⟩
    refine loop_vc mixed 85 [] (.c1 (cDz l a1) (di r) <| .f <| .c1 (cDz l a2) (dIs ys) <| .c (dV c) .r) ?_
    refine via (by kernel_rfl : (FSpec PP 18 [D.ptr 0 0, di 3] (St.mk [some (cDz l a)] []) (di r) (St.mk [some (cDz l a1)] []) ∧ decide ((↑k : Int) < IntKind.wrap IntKind.i64 (1 + r)) = false ∧ FSpec PP 23 [D.ptr 0 0, di (↑(List.length Pl) : Int), di 3] (St.mk [some (cDz l a1)] []) (dIs ys) (St.mk [some (cDz l a2)] []) ∧ FSpec PP 24 [di 0, D.v (vIs ys)] (St.mk [] []) (dV c) (St.mk [] []) ∧ [some (cDz l a2)] = [some (cDz l a2)] ∧ D.v (V.agg [vi 1, V.list (List.map V.str S), V.list (List.map V.str Pl), V.list [], V.list [], vi 0, vi 0, V.list (List.map vRul rs), vi (Val.n c), V.list (List.map eV (Val.kids c))]) = dMod (Mod.mk 1 S Pl [] [] 0 0 rs c)) = _) ?_
    refine ⟨h4, ?_, y4, hc ▸ cfg28_spec ys (by omega) 0, rfl, rfl⟩
    rw [wrap_id (by omega) (by omega)]; exact decide_eq_false hk
theorem ctrT_ex (l : List UInt8) (hl : l.length ≤ 200) (a : Nat) (ha : a ≤ l.length) :
    ∃ (m : Mod) (a' : Nat), MadeM m ∧ a' ≤ l.length ∧ FSpec PP 12 [.ptr 0 0, db true] (dz l a) (dMod m) (dz l a') := by
  obtain ⟨r1, a1, h1, h2, h3, h4⟩ := pick_ex l hl a ha 2 (by decide) (by decide)
  obtain ⟨r2, a2, h5, h6, h7, h8⟩ := pick_ex l hl a1 h3 2 (by decide) (by decide)
  obtain ⟨S, hS, hS2⟩ : ∃ S : List (List UInt8), (S = [[97]] ∨ S = [[97], [98]]) ∧ (r1 = 0 ∧ S = [[97]] ∨ r1 = 1 ∧ S = [[97], [98]]) := by
    rcases (show r1 = 0 ∨ r1 = 1 by omega) with h | h
    · exact ⟨_, .inl rfl, .inl ⟨h, rfl⟩⟩
    · exact ⟨_, .inr rfl, .inr ⟨h, rfl⟩⟩
  obtain ⟨Pl, hP, hP2⟩ : ∃ S : List (List UInt8), (S = [[120]] ∨ S = [[120], [121]]) ∧ (r2 = 0 ∧ S = [[120]] ∨ r2 = 1 ∧ S = [[120], [121]]) := by
    rcases (show r2 = 0 ∨ r2 = 1 by omega) with h | h
    · exact ⟨_, .inl rfl, .inl ⟨h, rfl⟩⟩
    · exact ⟨_, .inr rfl, .inr ⟨h, rfl⟩⟩
  obtain ⟨m, a', m1, m2, m3⟩ := ctrT_loop l hl S Pl hS hP _ 0 a2 [] rfl h7 (by omega) rfl (fun i r h => by simp at h)
  refine ⟨m, a', m1, m2, ?_⟩
  refine spec_vc mixed fCtr cCtr (by kernel_rfl) (by kernel_rfl) (by kernel_rfl) (by kernel_rfl) 85 (by kernel_rfl) [] (.h (.dr 11) <| .c1 (cDz l a1) (di r1) <| .c1 (cDz l a2) (di r2) <| .h .rn <| .h (.q 3 0) <| .h (.cl 2 7 2 14) <| .ls [ke 0, ke 1, ke 4, ke 5, ch 6 (di Pl.length), ch 7 (di (0 : Nat))] (stC l a2 S Pl [])) ?_
  refine via (by kernel_rfl : (FSpec PP 18 [D.ptr 0 0, di 2] (St.mk [some (cDz l a)] []) (di r1) (St.mk [some (cDz l a1)] []) ∧ FSpec PP 18 [D.ptr 0 0, di 2] (St.mk [some (cDz l a)] []) (di r1) (St.mk [some (cDz l a1)] []) ∧ di r1 = di r1 ∧ (∀ (x : V), x ∈ [V.str (ByteArray.mk #[97]).data.toList, V.str (ByteArray.mk #[98]).data.toList] → V.size x = 1) ∧ 0 ≤ (fun x => x.snd) (IntKind.i64, IntKind.wrap IntKind.i64 (1 + r1)) ∧ (fun x => x.snd) (IntKind.i64, IntKind.wrap IntKind.i64 (1 + r1)) ≤ (↑(List.length [V.str (ByteArray.mk #[97]).data.toList, V.str (ByteArray.mk #[98]).data.toList]) : Int) ∧ FSpec PP 18 [D.ptr 0 0, di 2] (St.mk [some (cDz l a1)] []) (di r2) (St.mk [some (cDz l a2)] []) ∧ FSpec PP 18 [D.ptr 0 0, di 2] (St.mk [some (cDz l a1)] []) (di r2) (St.mk [some (cDz l a2)] []) ∧ di r2 = di r2 ∧ (∀ (x : V), x ∈ [V.str (ByteArray.mk #[120]).data.toList, V.str (ByteArray.mk #[121]).data.toList] → V.size x = 1) ∧ 0 ≤ (fun x => x.snd) (IntKind.i64, IntKind.wrap IntKind.i64 (1 + r2)) ∧ (fun x => x.snd) (IntKind.i64, IntKind.wrap IntKind.i64 (1 + r2)) ≤ (↑(List.length [V.str (ByteArray.mk #[120]).data.toList, V.str (ByteArray.mk #[121]).data.toList]) : Int) ∧ [St.mk [some (cDz l a), some [di 0, D.v V.nils, D.v V.nils, D.v V.nils, D.v V.nils, di 0, di 0, D.v V.nils, di 0, D.v V.nils], some [di 0, D.v V.nils, D.v V.nils, D.v V.nils, D.v V.nils, di 0, di 0, D.v V.nils, di 0, D.v V.nils]] [], St.mk [some (cDz l a1), some [di 0, D.v V.nils, D.v V.nils, D.v V.nils, D.v V.nils, di 0, di 0, D.v V.nils, di 0, D.v V.nils], some [di 0, D.v V.nils, D.v V.nils, D.v V.nils, D.v V.nils, di 0, di 0, D.v V.nils, di 0, D.v V.nils]] [], St.mk [some (cDz l a2), some [di 0, D.v V.nils, D.v V.nils, D.v V.nils, D.v V.nils, di 0, di 0, D.v V.nils, di 0, D.v V.nils], some [di 0, D.v V.nils, D.v V.nils, D.v V.nils, D.v V.nils, di 0, di 0, D.v V.nils, di 0, D.v V.nils]] []] = [St.mk [some (cDz l a), some [di 0, D.v V.nils, D.v V.nils, D.v V.nils, D.v V.nils, di 0, di 0, D.v V.nils, di 0, D.v V.nils], some [di 0, D.v V.nils, D.v V.nils, D.v V.nils, D.v V.nils, di 0, di 0, D.v V.nils, di 0, D.v V.nils]] [], St.mk [some (cDz l a1), some [di 0, D.v V.nils, D.v V.nils, D.v V.nils, D.v V.nils, di 0, di 0, D.v V.nils, di 0, D.v V.nils], some [di 0, D.v V.nils, D.v V.nils, D.v V.nils, D.v V.nils, di 0, di 0, D.v V.nils, di 0, D.v V.nils]] [], St.mk [some (cDz l a2), some [di 0, D.v V.nils, D.v V.nils, D.v V.nils, D.v V.nils, di 0, di 0, D.v V.nils, di 0, D.v V.nils], some [di 0, D.v V.nils, D.v V.nils, D.v V.nils, D.v V.nils, di 0, di 0, D.v V.nils, di 0, D.v V.nils]] []] ∧ True ∧ di (↑(List.length (List.drop 0 (List.take (Int.toNat ((fun x => x.snd) (IntKind.i64, IntKind.wrap IntKind.i64 (1 + r2)))) (V.str (ByteArray.mk #[120]).data.toList :: V.str (ByteArray.mk #[121]).data.toList :: nV)))) : Int) = di (↑(List.length Pl) : Int) ∧ di 0 = di (↑0 : Int) ∧ [some (cDz l a2), some [di 0, D.v V.nils, D.v V.nils, D.v V.nils, D.v V.nils, di 0, di 0, D.v V.nils, di 0, D.v V.nils], some [di 1, D.v (V.list (List.drop 0 (List.take (Int.toNat ((fun x => x.snd) (IntKind.i64, IntKind.wrap IntKind.i64 (1 + r1)))) (V.str (ByteArray.mk #[97]).data.toList :: V.str (ByteArray.mk #[98]).data.toList :: nV)))), D.v (V.list (List.drop 0 (List.take (Int.toNat ((fun x => x.snd) (IntKind.i64, IntKind.wrap IntKind.i64 (1 + r2)))) (V.str (ByteArray.mk #[120]).data.toList :: V.str (ByteArray.mk #[121]).data.toList :: nV)))), D.v V.nils, D.v V.nils, di 0, di 0, D.acc 2 nV, di 0, D.v V.nils]] = [some (cDz l a2), some zM, some (cM S Pl [])] ∧ [(2, 14, nV)] = [(2, 14, nV)] ∧ Nv.It (RunC (CN (List.length (dz l a).H)) PP (fun env σ1 => ResOK PP fCtr env σ1 (dMod m) (dz l a')) [KI.lp (sub cCtr [1, 1, 1, 0, 1, 0, 0]), KI.blk 0, KI.code (sub cCtr [1, 1, 1, 1])] (mkE 85 [(0, D.ptr 0 0), (1, db true), (4, D.ptr 1 0), (5, D.ptr 2 0), (6, di (↑(List.length Pl) : Int)), (7, di (↑0 : Int))]) (stC l a2 S Pl []))) = _) ?_
  refine ⟨h4, h4, rfl, by simp [V.size], ?_, ?_, h8, h8, rfl, by simp [V.size], ?_, ?_, rfl, trivial, ?_, rfl, ?_, rfl, ⟨m3⟩⟩
  · show 0 ≤ IntKind.i64.wrap (1 + r1); rw [wrap_id (by omega) (by omega)]; omega
  · show IntKind.i64.wrap (1 + r1) ≤ 2; rw [wrap_id (by omega) (by omega)]; omega
  · show 0 ≤ IntKind.i64.wrap (1 + r2); rw [wrap_id (by omega) (by omega)]; omega
  · show IntKind.i64.wrap (1 + r2) ≤ 2; rw [wrap_id (by omega) (by omega)]; omega
  · rcases hP2 with ⟨rfl, rfl⟩ | ⟨rfl, rfl⟩ <;> rfl
  · rcases hS2 with ⟨rfl, rfl⟩ | ⟨rfl, rfl⟩ <;> rcases hP2 with ⟨rfl, rfl⟩ | ⟨rfl, rfl⟩ <;> rfl
theorem MadeV.short {ns np k : Nat} {r : Rul} (h : MadeV ns np k r) (hnp : np ≤ 2) : r.short := by
  have h1 := h.need.1
  have h2 := h.give.1
  have h3 : r.move.length ≤ 2 := by
    rcases h.move with e | e
    · rw [e]; decide
    · rw [e.1]; exact hnp
  rw [h.rest]
  exact ⟨by show r.need.length ≤ _; omega, by show r.give.length ≤ _; omega, by show r.move.length ≤ _; omega, Nat.zero_le _, Nat.zero_le _, Nat.zero_le _, Nat.zero_le _⟩
theorem mapNameV {rs : List Rul} (h3 : rs.length ≤ 3) {ns np : Nat} (h : ∀ k r, rs[k]? = some r → MadeV ns np k r) : rs.map Rul.name = dl3.take rs.length := by
  apply List.ext_getElem?
  intro i
  by_cases hi : i < rs.length
  · have hx : rs[i]? = some rs[i] := List.getElem?_eq_getElem hi
    rw [List.getElem?_map, hx, List.getElem?_take_of_lt hi, (h i _ hx).name]; rfl
  · rw [List.getElem?_eq_none (by simp; omega), List.getElem?_eq_none (by simp; omega)]
theorem MadeM.ok {m : Mod} (h : MadeM m) : m.ok := by
  have hst : 1 ≤ m.states.length ∧ m.states.length ≤ 2 := by rcases h.states with e | e <;> rw [e] <;> decide
  have hpl : 1 ≤ m.places.length ∧ m.places.length ≤ 2 := by rcases h.places with e | e <;> rw [e] <;> decide
  have hb : ∀ {x a b : Int}, a ≤ x → x ≤ b → betB x a b = true := fun h1 h2 => by simp [betB, h1, h2]
  have hget : ∀ r ∈ m.rules, MadeV m.states.length m.places.length (m.rules.idxOf r) r := fun r hr => by
    have hi := List.idxOf_lt_length_of_mem hr
    exact h.rules _ r (by rw [List.getElem?_eq_getElem hi, List.getElem_idxOf])
  have hc := h.count
  refine ⟨.inl h.kind, ?_, ?_, ?_, ?_, ?_, ?_, ?_⟩
  · simp only [sizedB, limM, if_pos h.kind, Bool.and_eq_true, decide_eq_true_eq, h.letters, h.levels, h.age]
    exact ⟨hb (by omega) (by omega), by omega, hb (by omega) (by omega), by decide, by decide, by decide⟩
  · rw [rankedB, if_pos (by rw [h.kind]; rfl), h.ranks]; rfl
  · have hn := mapNameV h.count h.rules
    rw [namedB, namesM, hn, baseM, h.letters]
    have : m.rules.length = 0 ∨ m.rules.length = 1 ∨ m.rules.length = 2 ∨ m.rules.length = 3 := by omega
    rcases h.states with e | e <;> rcases h.places with e' | e' <;> rcases this with e2 | e2 | e2 | e2 <;> rw [e, e', e2] <;> decide
  · intro r hr
    have hm := hget r hr
    exact hm.short (by omega)
  · intro r hr
    have hm := hget r hr
    obtain ⟨f1, f2⟩ := hm.frm
    obtain ⟨t1, t2⟩ := hm.to
    obtain ⟨n1, n2⟩ := hm.need
    obtain ⟨g1, g2⟩ := hm.give
    have hmv : r.move = [] ∨ r.move.length = m.places.length ∧ ∀ t ∈ r.move, -1 ≤ t ∧ t < m.places.length := hm.move
    have hr := hm.rest
    generalize r.name = nm at hr
    generalize r.frm = f at *
    generalize r.to = t at *
    generalize r.need = nd at *
    generalize r.give = gv at *
    generalize r.move = mv at *
    subst hr
    rw [rightM, if_pos h.kind]
    simp only [rightC, changesB, sameB, onlyC, mkV, Bool.and_eq_true, List.all_eq_true, beq_iff_eq, decide_eq_true_eq, and_true, true_and, List.length_nil]
    refine ⟨hb (by omega) (by omega), hb (by omega) (by omega), ⟨by omega, by omega, fun x hx => hb (n2 x hx).1 (by have := (n2 x hx).2; omega), fun x hx => hb (g2 x hx).1 (by have := (g2 x hx).2; omega)⟩, ?_⟩
    have hmb : movesB m (mkV nm f t nd gv mv) = true := by
      rcases hmv with e | ⟨e1, e2⟩
      · simp [movesB, mkV, e]
      · simp only [movesB, mkV, Bool.or_eq_true, Bool.and_eq_true, List.all_eq_true, beq_iff_eq]
        exact .inr ⟨by omega, fun x hx => hb (e2 x hx).1 (by have := (e2 x hx).2; omega)⟩
    exact hmb
  · obtain ⟨ys, y1, y2, y3⟩ := h.start
    rw [y3]
    exact cfg_valid m h.kind (by omega) 0 ⟨by omega, by omega⟩ ys y1 fun x hx => by have := y2 x hx; omega
  · obtain ⟨ys, y1, y2, y3⟩ := h.start
    rw [y3, cfgV_size]; omega
end Go.Proofs.YtopbcpgmffppjaaGreatDoor
