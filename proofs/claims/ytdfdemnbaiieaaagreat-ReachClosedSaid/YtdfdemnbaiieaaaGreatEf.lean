/-
  Counter models without moves: their steps, as data. Plain.
-/
import Derived.Test.YtdfdemnbaiieaaaGreatEe
import Derived.Shelf.SlSortCmp.WholeK
import Derived.Shelf.SlGeneric
import Derived.Ground.SlsfProg
import Derived.Test.YtdfdemnbaiieaaaGreatEb
namespace Go.Proofs.YtdfdemnbaiieaaaGreat
open Go.Dv Go.Nv
set_option maxRecDepth 20000
def stV (c : Val) : Int := (c.kids.headD (.mk 0 [])).n
def nmV (c : Val) : List Int := c.kids.tail.map Val.n
theorem map_lf (ys : List Int) : (ys.map lf).map Val.n = ys := by
  induction ys with
  | nil => rfl
  | cons y ys ih => simp only [List.map_cons, ih, lf, Val.n]
theorem stV_cfg (s : Int) (ys : List Int) : stV (cfgV s ys) = s := rfl
theorem nmV_cfg (s : Int) (ys : List Int) : nmV (cfgV s ys) = ys := by
  show (List.map lf ys).map Val.n = ys
  exact map_lf ys
/-- a configuration of a counter model -/
structure CfgOK (m : Mod) (c : Val) : Prop where
  eq : c = cfgV (stV c) (nmV c)
  st : 0 ≤ stV c ∧ stV c < m.states.length
  len : (nmV c).length = m.places.length
  nm : ∀ y ∈ nmV c, 0 ≤ y ∧ y ≤ 1048576
theorem cfgOK (m : Mod) (s : Int) (hs : 0 ≤ s ∧ s < m.states.length) (ys : List Int) (hy : ys.length = m.places.length) (h : ∀ y ∈ ys, 0 ≤ y ∧ y ≤ 1048576) : CfgOK m (cfgV s ys) :=
  ⟨by rw [stV_cfg, nmV_cfg], by rw [stV_cfg]; exact hs, by rw [nmV_cfg]; exact hy, by rw [nmV_cfg]; exact h⟩
/-- a counter model without moves -/
structure PlC (m : Mod) : Prop where
  ok : m.ok
  kind : m.kind = 1
  move : ∀ r ∈ m.rules, r.move = []
  start : CfgOK m m.start
  few : m.states.length ≤ 2 ∧ m.places.length ≤ 2
/-- what is right with a rule -/
structure RulOK (m : Mod) (r : Rul) : Prop where
  frm : 0 ≤ r.frm ∧ r.frm < m.states.length
  to : 0 ≤ r.to ∧ r.to < m.states.length
  needL : r.need.length = m.places.length
  giveL : r.give.length = m.places.length
  need : ∀ x ∈ r.need, 0 ≤ x ∧ x ≤ 16
  give : ∀ x ∈ r.give, 0 ≤ x ∧ x ≤ 16
  move : r.move = []
theorem PlC.rule {m : Mod} (h : PlC m) {r : Rul} (hr : r ∈ m.rules) : RulOK m r := by
  have h1 := h.ok.right r hr
  rw [rightM, if_pos h.kind] at h1
  simp only [rightC, changesB, Bool.and_eq_true, List.all_eq_true, beq_iff_eq] at h1
  obtain ⟨h2, h3, ⟨h4, h5, h6, h7⟩, _⟩ := h1
  have h2 := betB_ok h2
  have h3 := betB_ok h3
  exact ⟨⟨h3.1, by omega⟩, ⟨h2.1, by omega⟩, by omega, by omega, fun x hx => betB_ok (h6 x hx), fun x hx => betB_ok (h7 x hx), h.move r hr⟩
theorem PlC.places {m : Mod} (h : PlC m) : 1 ≤ m.places.length ∧ m.places.length ≤ 6 ∧ 1 ≤ m.states.length ∧ m.states.length ≤ 8 ∧ m.rules.length ≤ 12 := by
  obtain ⟨h1, h2, h3, h4, h5, _⟩ := h.ok.sz
  omega
theorem CfgOK.isC {m : Mod} {c : Val} (h : CfgOK m c) : IsC c (stV c) (nmV c) := by
  have := _root_.Go.Proofs.YtdfdemnbaiieaaaGreat.isC (stV c) (nmV c)
  rwa [← h.eq] at this
theorem CfgOK.size {m : Mod} (hm : PlC m) {c : Val} (h : CfgOK m c) : c.size ≤ 8 := by
  rw [h.eq, cfgV_size, h.len]
  have := hm.places; omega
theorem CfgOK.valid {m : Mod} (hm : PlC m) {c : Val} (h : CfgOK m c) : validB (typM m) c = true := by
  rw [h.eq]
  exact cfg_valid m hm.kind (by have := hm.places; omega) _ h.st _ h.len h.nm
theorem MadeC.plc {m : Mod} (h : MadeC m) : PlC m := by
  have hst : 1 ≤ m.states.length := by rcases h.states with e | e <;> rw [e] <;> decide
  refine ⟨h.ok, h.kind, fun r hr => ?_, ?_, by rcases h.states with e | e <;> rw [e] <;> decide, by rcases h.places with e | e <;> rw [e] <;> decide⟩
  · obtain ⟨i, hi⟩ := List.getElem?_of_mem hr
    rw [(h.rules i r hi).rest]; rfl
  · obtain ⟨ys, y1, y2, y3⟩ := h.start
    rw [y3]
    exact cfgOK m 0 ⟨by omega, by omega⟩ ys y1 fun x hx => by have := y2 x hx; omega
/- STEPS -/
def apS (m : Mod) (c : Val) (i : Int) : List Val × Int := if i < 0 then ([], 0) else match m.rules[i.toNat]? with
  | some r => oneP (apM r (stV c) (nmV c))
  | none => ([], 0)
def stepsM (m : Mod) (c : Val) : List Stp × Int := allP (apS m c) (m.rules.length + 1) (-1) []
def afterM (r : Rul) (ys : List Int) : List Int := List.zipWith (fun w g => w + g) (subM r ys) r.give
theorem outP_or : ∀ (ws gs : List Int) (xs : List Val), ((outP xs ws gs).2 = 0 ∧ (outP xs ws gs).1 = .mk 0 (xs ++ (List.zipWith (fun w g => w + g) ws gs).map lf) ∧ ∀ y ∈ List.zipWith (fun w g => w + g) ws gs, y ≤ 1048576) ∨ outP xs ws gs = (.mk 0 [], 1)
  | [], gs, xs => .inl ⟨by simp [outP], by simp [outP], by simp⟩
  | w :: ws, [], xs => .inl ⟨by simp [outP], by simp [outP], by simp⟩
  | w :: ws, g :: gs, xs => by
    by_cases h : w + g > 1048576
    · exact .inr (by rw [outP, if_pos (decide_eq_true h)])
    · rw [outP, if_neg (by rw [decide_eq_false h]; decide)]
      rcases outP_or ws gs (xs ++ [lf (w + g)]) with ⟨h1, h2, h3⟩ | h1
      · refine .inl ⟨h1, by rw [h2]; simp, fun y hy => ?_⟩
        simp only [List.zipWith_cons_cons, List.mem_cons] at hy
        rcases hy with rfl | hy
        · omega
        · exact h3 y hy
      · exact .inr h1
theorem needB_at : ∀ {ns ys : List Int}, needB ns ys = true → ∀ (i : Nat) (n y : Int), ns[i]? = some n → ys[i]? = some y → n ≤ y
  | [], ys, _, i, n, y, h, _ => by simp at h
  | n :: ns, [], _, i, n', y, _, h => by simp at h
  | n :: ns, y :: ys, h, i, n', y', h1, h2 => by
    simp only [needB, Bool.and_eq_true, Bool.not_eq_true', decide_eq_false_iff_not] at h
    cases i with
    | zero => simp at h1 h2; subst h1; subst h2; omega
    | succ i => exact needB_at h.2 i n' y' (by simpa using h1) (by simpa using h2)
theorem afterM_len {m : Mod} {r : Rul} (hr : RulOK m r) {ys : List Int} (hy : ys.length = m.places.length) : (afterM r ys).length = m.places.length := by
  have h1 := hr.needL; have h2 := hr.giveL
  simp only [afterM, subM, List.length_zipWith]; omega
theorem afterM_at {r : Rul} {ys : List Int} {i : Nat} {z : Int} (h : (afterM r ys)[i]? = some z) : ∃ y n g, ys[i]? = some y ∧ r.need[i]? = some n ∧ r.give[i]? = some g ∧ z = y - n + g := by
  simp only [afterM, subM, List.getElem?_zipWith] at h
  split at h
  · rename_i w g h1 h2
    split at h1
    · rename_i y n h3 h4
      simp at h h1
      exact ⟨y, n, g, h3, h4, h2, by omega⟩
    · simp at h1
  · simp at h
theorem apM_or {m : Mod} {r : Rul} (hr : RulOK m r) {c : Val} (hc : CfgOK m c) :
    ((apM r (stV c) (nmV c)).2 = 0 ∧ stV c = r.frm ∧ (apM r (stV c) (nmV c)).1 = cfgV r.to (afterM r (nmV c)) ∧ CfgOK m (cfgV r.to (afterM r (nmV c)))) ∨ (apM r (stV c) (nmV c)).2 = 1 ∨ (apM r (stV c) (nmV c)).2 = 18 := by
  unfold apM
  split
  · rename_i he
    simp only [enB, Bool.and_eq_true, beq_iff_eq] at he
    rcases outP_or (subM r (nmV c)) r.give [lf r.to] with ⟨h1, h2, h3⟩ | h1
    · refine .inl ⟨h1, he.1, by rw [h2]; rfl, cfgOK m _ hr.to _ (afterM_len hr hc.len) fun z hz => ⟨?_, h3 z hz⟩⟩
      obtain ⟨i, hi⟩ := List.getElem?_of_mem hz
      obtain ⟨y, n, g, a1, a2, a3, rfl⟩ := afterM_at hi
      have b1 := needB_at he.2 i n y a2 a1
      have b2 := (hr.give g (List.mem_of_getElem? a3)).1
      omega
    · exact .inr (.inl (by rw [h1]))
  · exact .inr (.inr rfl)
/-- what a step does -/
structure StepOK (m : Mod) (c : Val) (s : Stp) : Prop where
  rule : ∃ (i : Nat) (r : Rul), s.1 = i ∧ m.rules[i]? = some r ∧ stV c = r.frm ∧ s.2 = cfgV r.to (afterM r (nmV c)) ∧ apM r (stV c) (nmV c) = (s.2, 0)
  ok : CfgOK m s.2
theorem apS_or {m : Mod} (hm : PlC m) {c : Val} (hc : CfgOK m c) (i : Int) : ((apS m c i).2 = 0 ∨ (apS m c i).2 = 1) ∧ (apS m c i).1.length ≤ 1 ∧ ∀ v ∈ (apS m c i).1, StepOK m c (i, v) := by
  unfold apS
  split
  · exact ⟨.inl rfl, by simp, by simp⟩
  · rename_i h0
    split
    · rename_i r hi
      have hr := hm.rule (List.mem_of_getElem? hi)
      rcases apM_or hr hc with ⟨h1, h2, h3, h4⟩ | h1 | h1
      · have : oneP (apM r (stV c) (nmV c)) = ([cfgV r.to (afterM r (nmV c))], 0) := by
          rw [oneP, if_neg (by rw [h1]; decide), if_neg (by rw [h1]; decide), h3]
        rw [this]
        refine ⟨.inl rfl, by simp, fun v hv => ?_⟩
        rw [List.mem_singleton.1 hv]
        exact ⟨⟨i.toNat, r, by show i = _; omega, hi, h2, rfl, by rw [← h3, ← h1]⟩, h4⟩
      · have : oneP (apM r (stV c) (nmV c)) = ([], 1) := by rw [oneP, if_neg (by rw [h1]; decide), if_pos (by rw [h1]; decide), h1]
        rw [this]; exact ⟨.inr rfl, by simp, by simp⟩
      · have : oneP (apM r (stV c) (nmV c)) = ([], 0) := by rw [oneP, if_pos (by rw [h1]; decide)]
        rw [this]; exact ⟨.inl rfl, by simp, by simp⟩
    · exact ⟨.inl rfl, by simp, by simp⟩
theorem allP_or {ap : Int → List Val × Int} (he : ∀ i, (ap i).2 = 0 ∨ (ap i).2 = 1) (hl : ∀ i, (ap i).1.length ≤ 1) {Q : Stp → Prop} (hq : ∀ i, ∀ v ∈ (ap i).1, Q (i, v)) : ∀ (n : Nat) (i : Int) (acc : List Stp), (∀ s ∈ acc, Q s) →
    ((allP ap n i acc).2 = 0 ∨ (allP ap n i acc).2 = 1) ∧ (allP ap n i acc).1.length ≤ acc.length + n ∧ ∀ s ∈ (allP ap n i acc).1, Q s
  | 0, i, acc, ha => by
    rw [allP]
    split
    · exact ⟨.inr rfl, by simp, by simp⟩
    · exact ⟨.inl rfl, by simp, ha⟩
  | n + 1, i, acc, ha => by
    rw [allP]
    split
    · exact ⟨he i, by simp, by simp⟩
    · obtain ⟨h1, h2, h3⟩ := allP_or he hl hq n (i + 1) (acc ++ (ap i).1.map fun v => (i, v)) (fun s hs => by
        rcases List.mem_append.1 hs with hs | hs
        · exact ha s hs
        · obtain ⟨v, hv, rfl⟩ := List.mem_map.1 hs
          exact hq i v hv)
      have := hl i
      exact ⟨h1, by simp only [List.length_append, List.length_map] at h2; omega, h3⟩
theorem stepsM_or {m : Mod} (hm : PlC m) {c : Val} (hc : CfgOK m c) : ((stepsM m c).2 = 0 ∨ (stepsM m c).2 = 1) ∧ (stepsM m c).1.length ≤ 13 ∧ ∀ s ∈ (stepsM m c).1, StepOK m c s := by
  have := hm.places
  obtain ⟨h1, h2, h3⟩ := allP_or (ap := apS m c) (fun i => (apS_or hm hc i).1) (fun i => (apS_or hm hc i).2.1) (Q := StepOK m c) (fun i => (apS_or hm hc i).2.2) (m.rules.length + 1) (-1) [] (by simp)
  exact ⟨h1, by simp only [List.length_nil] at h2; exact Nat.le_trans h2 (by omega), h3⟩
theorem ap22_all {m : Mod} (hm : PlC m) {c : Val} (hc : CfgOK m c) (i : Int) (h1 : -1 ≤ i) (h2 : i < m.rules.length) : FSpec PP 29 [dMod m, di i, dV c] σ0 (dLP (apS m c i)) σ0 := by
  have hsz := hc.size hm
  by_cases h0 : i < 0
  · have : i = -1 := by omega
    subst this
    exact ap22_q m hm.ok hm.kind c (by omega) (hc.valid hm)
  · obtain ⟨k, rfl⟩ : ∃ k : Nat, i = k := ⟨i.toNat, by omega⟩
    have hk : k < m.rules.length := by omega
    have hr : m.rules[k]? = some m.rules[k] := List.getElem?_eq_getElem hk
    have hro := hm.rule (List.mem_of_getElem? hr)
    rw [apS, if_neg h0, show ((k : Nat) : Int).toNat = k by omega, hr]
    generalize m.rules[k] = r at hr hro
    have hp := hm.places
    exact ap22_c m hm.ok hm.kind k hk c (by omega) (hc.valid hm) _ (ap17_spec m hm.ok hm.kind k r hr hro.move c (by omega) (hc.valid hm) _ _ hc.isC (by rw [hro.needL, hc.len]) (by rw [hro.giveL, hc.len]) (by rw [hc.len]; omega) hc.nm hro.need hro.give)
theorem all22_c {m : Mod} (hm : PlC m) {c : Val} (hc : CfgOK m c) : FSpec PP 12 [dMod m, dV c] σ0 (dSP (stepsM m c)) σ0 := by
  have hsz := hc.size hm
  exact all22_spec m hm.ok c (by omega) (hc.valid hm) (apS m c) (fun i => by have := (apS_or hm hc i).2.1; omega) (fun i h1 h2 => ap22_all hm hc i h1 h2)
/-- a run by steps -/
inductive RunM (m : Mod) (c : Val) : List Stp → Val → Prop where
  | nil : RunM m c [] c
  | snoc {l : List Stp} {d : Val} {s : Stp} : RunM m c l d → (stepsM m d).2 = 0 → s ∈ (stepsM m d).1 → RunM m c (l ++ [s]) s.2
theorem RunM.ok {m : Mod} (hm : PlC m) {c d : Val} {l : List Stp} (hc : CfgOK m c) (h : RunM m c l d) : CfgOK m d := by
  induction h with
  | nil => exact hc
  | snoc _ _ hs ih => exact ((stepsM_or hm ih).2.2 _ hs).ok
end Go.Proofs.YtdfdemnbaiieaaaGreat

namespace Go.Proofs.YtdfdemnbaiieaaaGreat
open Go.Dv Go.Nv
/-- a comparison that is a total order, of what is asked for -/
structure Lin {α : Type} (c : α → α → Int) (S : α → Prop) : Prop where
  refl : ∀ x, S x → c x x = 0
  eq : ∀ x y, S x → S y → c x y = 0 → x = y
  swap : ∀ x y, S x → S y → (c x y < 0 ↔ 0 < c y x)
  trans : ∀ x y z, S x → S y → S z → c x y < 0 → c y z < 0 → c x z < 0
theorem cmpI_lin : Lin cmpI fun _ => True := by
  constructor <;> simp only [cmpI] <;> intros <;> (repeat' split at *) <;> (repeat' split) <;> omega
theorem cmpL_lin {α : Type} {c : α → α → Int} {S : α → Prop} (h : Lin c S) : Lin (cmpL c) fun l => ∀ x ∈ l, S x := by
  have rfl' : ∀ l : List α, (∀ x ∈ l, S x) → cmpL c l l = 0 := by
    intro l
    induction l with
    | nil => intro _; rfl
    | cons x l ih => intro hs; rw [cmpL, if_pos (h.refl x (hs x (by simp)))]; exact ih fun y hy => hs y (by simp [hy])
  have eq' : ∀ a b : List α, (∀ x ∈ a, S x) → (∀ x ∈ b, S x) → cmpL c a b = 0 → a = b := by
    intro a
    induction a with
    | nil => intro b _ _ e; cases b with
      | nil => rfl
      | cons y b => simp [cmpL] at e
    | cons x a ih => intro b ha hb e; cases b with
      | nil => simp [cmpL] at e
      | cons y b =>
        simp only [cmpL] at e
        split at e
        · rename_i h0
          rw [h.eq x y (ha x (by simp)) (hb y (by simp)) h0, ih b (fun z hz => ha z (by simp [hz])) (fun z hz => hb z (by simp [hz])) e]
        · exact absurd e (by assumption)
  have c0 : ∀ x y, S x → S y → (c x y = 0 ↔ c y x = 0) := fun x y hx hy => by
    have h1 := h.swap x y hx hy
    have h2 := h.swap y x hy hx
    constructor <;> intro _ <;> omega
  have sw : ∀ a b : List α, (∀ x ∈ a, S x) → (∀ x ∈ b, S x) → (cmpL c a b < 0 ↔ 0 < cmpL c b a) := by
    intro a
    induction a with
    | nil => intro b _ _; cases b <;> simp [cmpL]
    | cons x a ih => intro b ha hb; cases b with
      | nil => simp [cmpL]
      | cons y b =>
        have hx := ha x (by simp); have hy := hb y (by simp)
        simp only [cmpL]
        by_cases h0 : c x y = 0
        · rw [if_pos h0, if_pos ((c0 x y hx hy).1 h0)]; exact ih b (fun z hz => ha z (by simp [hz])) (fun z hz => hb z (by simp [hz]))
        · rw [if_neg h0, if_neg (fun e => h0 ((c0 x y hx hy).2 e))]; exact h.swap x y hx hy
  have tr : ∀ a b d : List α, (∀ x ∈ a, S x) → (∀ x ∈ b, S x) → (∀ x ∈ d, S x) → cmpL c a b < 0 → cmpL c b d < 0 → cmpL c a d < 0 := by
    intro a
    induction a with
    | nil => intro b d _ _ _ h1 h2; cases b with
      | nil => simp [cmpL] at h1
      | cons y b => cases d with
        | nil => simp [cmpL] at h2
        | cons z d => simp [cmpL]
    | cons x a ih => intro b d ha hb hd h1 h2; cases b with
      | nil => simp [cmpL] at h1
      | cons y b => cases d with
        | nil => simp [cmpL] at h2
        | cons z d =>
          have hx := ha x (by simp); have hy := hb y (by simp); have hz := hd z (by simp)
          have ha' : ∀ w ∈ a, S w := fun w hw => ha w (by simp [hw])
          have hb' : ∀ w ∈ b, S w := fun w hw => hb w (by simp [hw])
          have hd' : ∀ w ∈ d, S w := fun w hw => hd w (by simp [hw])
          simp only [cmpL] at *
          by_cases e1 : c x y = 0
          · have := h.eq x y hx hy e1; subst this
            rw [if_pos e1] at h1
            by_cases e2 : c x z = 0
            · rw [if_pos e2] at h2 ⊢
              exact ih b d ha' hb' hd' h1 h2
            · rw [if_neg e2] at h2 ⊢; exact h2
          · rw [if_neg e1] at h1
            by_cases e2 : c y z = 0
            · have := h.eq y z hy hz e2; subst this
              rw [if_neg e1]; exact h1
            · rw [if_neg e2] at h2
              have := h.trans x y z hx hy hz h1 h2
              rw [if_neg (by omega)]; exact this
  exact ⟨rfl', eq', sw, tr⟩
theorem cmpV_or3 (a b : Val) : cmpV a b = if cmpI a.n b.n = 0 then (if cmpI a.kids.length b.kids.length = 0 then cmpL cmpV a.kids b.kids else cmpI a.kids.length b.kids.length) else cmpI a.n b.n := by
  rw [cmpV_or, ← or3]
theorem Val.ext : ∀ {a b : Val}, a.n = b.n → a.kids = b.kids → a = b
  | .mk _ _, .mk _ _, rfl, rfl => rfl
theorem cmpV_linN (N : Nat) : Lin cmpV fun v => v.size ≤ N := by
  induction N with
  | zero => exact ⟨fun x h => absurd x.size_pos (by omega), fun x _ h => absurd x.size_pos (by omega), fun x _ h => absurd x.size_pos (by omega), fun x _ _ h => absurd x.size_pos (by omega)⟩
  | succ N ih =>
    have hL := cmpL_lin ih
    have hk : ∀ v : Val, v.size ≤ N + 1 → ∀ x ∈ v.kids, x.size ≤ N := fun v hv x hx => by
      have := v.size_eq; have := Val.size_mem hx; omega
    have h1 := cmpI_lin
    have i0 : ∀ x y : Int, cmpI x y = 0 ↔ cmpI y x = 0 := fun x y => by
      have a := h1.swap x y trivial trivial
      have b := h1.swap y x trivial trivial
      constructor <;> intro _ <;> omega
    refine ⟨fun x hx => ?_, fun x y hx hy e => ?_, fun x y hx hy => ?_, fun x y z hx hy hz e1 e2 => ?_⟩
    · rw [cmpV_or3, if_pos (h1.refl _ trivial), if_pos (h1.refl _ trivial)]; exact hL.refl _ (hk x hx)
    · rw [cmpV_or3] at e
      split at e
      · rename_i a1
        split at e
        · exact Val.ext (h1.eq _ _ trivial trivial a1) (hL.eq _ _ (hk x hx) (hk y hy) e)
        · exact absurd e (by assumption)
      · exact absurd e (by assumption)
    · rw [cmpV_or3, cmpV_or3 y x]
      by_cases a1 : cmpI x.n y.n = 0
      · rw [if_pos a1, if_pos ((i0 _ _).1 a1)]
        by_cases a2 : cmpI x.kids.length y.kids.length = 0
        · rw [if_pos a2, if_pos ((i0 _ _).1 a2)]; exact hL.swap _ _ (hk x hx) (hk y hy)
        · rw [if_neg a2, if_neg (fun e => a2 ((i0 _ _).2 e))]; exact h1.swap _ _ trivial trivial
      · rw [if_neg a1, if_neg (fun e => a1 ((i0 _ _).2 e))]; exact h1.swap _ _ trivial trivial
    · rw [cmpV_or3] at e1 e2 ⊢
      by_cases a1 : cmpI x.n y.n = 0
      · rw [if_pos a1] at e1
        have b1 := h1.eq _ _ trivial trivial a1
        rw [b1]
        by_cases c1 : cmpI y.n z.n = 0
        · rw [if_pos c1] at e2 ⊢
          by_cases a2 : cmpI x.kids.length y.kids.length = 0
          · rw [if_pos a2] at e1
            have b2 := h1.eq _ _ trivial trivial a2
            rw [b2]
            by_cases c2 : cmpI y.kids.length z.kids.length = 0
            · rw [if_pos c2] at e2 ⊢; exact hL.trans _ _ _ (hk x hx) (hk y hy) (hk z hz) e1 e2
            · rw [if_neg c2] at e2 ⊢; exact e2
          · rw [if_neg a2] at e1
            by_cases c2 : cmpI y.kids.length z.kids.length = 0
            · have b2 := h1.eq _ _ trivial trivial c2
              rw [← b2, if_neg a2]; exact e1
            · rw [if_neg c2] at e2
              have := h1.trans _ _ _ trivial trivial trivial e1 e2
              rw [if_neg (by omega)]; exact this
        · rw [if_neg c1] at e2 ⊢; exact e2
      · rw [if_neg a1] at e1
        by_cases c1 : cmpI y.n z.n = 0
        · have b1 := h1.eq _ _ trivial trivial c1
          rw [← b1, if_neg a1]; exact e1
        · rw [if_neg c1] at e2
          have := h1.trans _ _ _ trivial trivial trivial e1 e2
          rw [if_neg (by omega)]; exact this
theorem cmpV_lin : Lin cmpV fun _ => True := by
  have h : ∀ x y z : Val, Lin cmpV fun v => v.size ≤ x.size + y.size + z.size := fun x y z => cmpV_linN _
  exact ⟨fun x _ => (h x x x).refl x (by omega), fun x y _ _ e => (h x y y).eq x y (by omega) (by omega) e, fun x y _ _ => (h x y y).swap x y (by omega) (by omega), fun x y z _ _ _ e1 e2 => (h x y z).trans x y z (by omega) (by omega) (by omega) e1 e2⟩
theorem cmpV_eq {a b : Val} : cmpV a b = 0 ↔ a = b := ⟨fun h => cmpV_lin.eq a b trivial trivial h, fun h => by rw [h]; exact cmpV_lin.refl b trivial⟩
end Go.Proofs.YtdfdemnbaiieaaaGreat

namespace Go.Proofs
open Go.Shelf
def Tryz.sortV_ren : Go.Shelf.Ren := ⟨fun | 6 => 42 | 15 => 69 | 14 => 68 | 28 => 113 | 29 => 114 | 20 => 105 | 21 => 106 | 22 => 107 | 23 => 108 | 24 => 109 | 25 => 110 | 26 => 111 | 27 => 112 | 46 => 172 | 47 => 173 | 48 => 174 | 49 => 175 | 50 => 176 | 57 => 237 | n => n, fun | 22 => 29 | 24 => 31 | 25 => 45 | 3 => 3 | 39 => 113 | 0 => 0 | 53 => 146 | 55 => 148 | 4 => 4 | 46 => 139 | 45 => 138 | 50 => 143 | 5 => 5 | 9 => 9 | 66 => 185 | 70 => 189 | 76 => 233 | 77 => 234 | n => n, fun | n => n⟩
theorem Tryz.sortV : Go.Proofs.SlLaysF0.n6 Tryz.prog Tryz.sortV_ren := {
  mixed := by kernel_rfl
  f6 := ⟨Tryz.f42.name, by decide, Tryz.func42.trans (congrArg some (by kernel_rfl))⟩
  f14 := ⟨Tryz.f68.name, by decide, Tryz.func68.trans (congrArg some (by kernel_rfl))⟩
  f15 := Tryz.func69.trans (congrArg some (by kernel_rfl))
  f20 := ⟨Tryz.f105.name, by decide, Tryz.func105.trans (congrArg some (by kernel_rfl))⟩
  f21 := ⟨Tryz.f106.name, by decide, Tryz.func106.trans (congrArg some (by kernel_rfl))⟩
  f22 := ⟨Tryz.f107.name, by decide, Tryz.func107.trans (congrArg some (by kernel_rfl))⟩
  f23 := ⟨Tryz.f108.name, by decide, Tryz.func108.trans (congrArg some (by kernel_rfl))⟩
  f24 := ⟨Tryz.f109.name, by decide, Tryz.func109.trans (congrArg some (by kernel_rfl))⟩
  f25 := ⟨Tryz.f110.name, by decide, Tryz.func110.trans (congrArg some (by kernel_rfl))⟩
  f26 := ⟨Tryz.f111.name, by decide, Tryz.func111.trans (congrArg some (by kernel_rfl))⟩
  f27 := ⟨Tryz.f112.name, by decide, Tryz.func112.trans (congrArg some (by kernel_rfl))⟩
  f28 := Tryz.func113.trans (congrArg some (by kernel_rfl))
  f29 := Tryz.func114.trans (congrArg some (by kernel_rfl))
  f46 := ⟨Tryz.f172.name, by decide, Tryz.func172.trans (congrArg some (by kernel_rfl))⟩
  f47 := Tryz.func173.trans (congrArg some (by kernel_rfl))
  f48 := Tryz.func174.trans (congrArg some (by kernel_rfl))
  f49 := ⟨Tryz.f175.name, by decide, Tryz.func175.trans (congrArg some (by kernel_rfl))⟩
  f50 := ⟨Tryz.f176.name, by decide, Tryz.func176.trans (congrArg some (by kernel_rfl))⟩
  f57 := ⟨Tryz.f237.name, by decide, Tryz.func237.trans (congrArg some (by kernel_rfl))⟩
  t0 := Tryz.underlying0
  a0 := Tryz.isAgg0
  z0 := Tryz.sizeOf0
  v0 := Tryz.zeroValue0
  t3 := Tryz.underlying3
  a3 := Tryz.isAgg3
  z3 := Tryz.sizeOf3
  v3 := Tryz.zeroValue3
  t4 := Tryz.underlying4
  a4 := Tryz.isAgg4
  z4 := Tryz.sizeOf4
  v4 := Tryz.zeroValue4
  t5 := Tryz.underlying5
  a5 := Tryz.isAgg5
  z5 := Tryz.sizeOf5
  v5 := Tryz.zeroValue5
  t9 := Tryz.underlying9
  a9 := Tryz.isAgg9
  z9 := Tryz.sizeOf9
  v9 := Tryz.zeroValue9
  t22 := Tryz.underlying29
  a22 := Tryz.isAgg29
  z22 := Tryz.sizeOf29
  v22 := Tryz.zeroValue29
  t25 := Tryz.underlying45
  a25 := Tryz.isAgg45
  z25 := Tryz.sizeOf45
  v25 := Tryz.zeroValue45
  t39 := Tryz.underlying113
  a39 := Tryz.isAgg113
  z39 := Tryz.sizeOf113
  v39 := Tryz.zeroValue113
  t45 := Tryz.underlying138
  a45 := Tryz.isAgg138
  z45 := Tryz.sizeOf138
  v45 := Tryz.zeroValue138
  t46 := Tryz.underlying139
  a46 := Tryz.isAgg139
  z46 := Tryz.sizeOf139
  v46 := Tryz.zeroValue139
  t50 := Tryz.underlying143
  a50 := Tryz.isAgg143
  z50 := Tryz.sizeOf143
  v50 := Tryz.zeroValue143
  t53 := Tryz.underlying146
  a53 := Tryz.isAgg146
  z53 := Tryz.sizeOf146
  v53 := Tryz.zeroValue146
  t55 := Tryz.underlying148
  a55 := Tryz.isAgg148
  z55 := Tryz.sizeOf148
  v55 := Tryz.zeroValue148
  t66 := Tryz.underlying185
  a66 := Tryz.isAgg185
  z66 := Tryz.sizeOf185
  v66 := Tryz.zeroValue185
  t70 := Tryz.underlying189
  a70 := Tryz.isAgg189
  z70 := Tryz.sizeOf189
  v70 := Tryz.zeroValue189
  t76 := Tryz.underlying233
  a76 := Tryz.isAgg233
  z76 := Tryz.sizeOf233
  v76 := Tryz.zeroValue233
  t77 := Tryz.underlying234
  a77 := Tryz.isAgg234
  z77 := Tryz.sizeOf234
  v77 := Tryz.zeroValue234 }
end Go.Proofs
namespace Go.Proofs.YtdfdemnbaiieaaaGreat
open Go.Dv Go.Nv Go.Shelf Go.RowKit Go.Lib Go.Sort
set_option maxRecDepth 20000
/-- behind a call that was handed no object: draws, and blocks -/
theorem grow_of {g g' : Gh} {w w' : World} {σ' : St} (h : WI ⟨g, w, ⟨[], []⟩⟩ g' σ' w') : ∃ q os, w' = grow (w.drewN q) os := by
  refine ⟨w'.drawn - w.drawn, w'.heap.extract w.heap.size w'.heap.size, ?_⟩
  have h1 := h.drawn; have h2 := h.os; have h3 := h.tape; have h4 := h.output; have h5 := h.size
  have h6 : ∀ b, b < w.heap.size → w'.heap[b]? = w.heap[b]? := fun b hb => (h.keep b hb not_priv).1
  have e : w'.heap = w.heap ++ w'.heap.extract w.heap.size w'.heap.size := by
    apply Array.ext_getElem?
    intro i
    by_cases hi : i < w.heap.size
    · rw [h6 i hi, Array.getElem?_append_left hi]
    · rw [Array.getElem?_append_right (by omega), Array.getElem?_extract]
      have h5 : w.heap.size ≤ w'.heap.size := h5
      by_cases hj : i < w'.heap.size
      · rw [if_pos (by omega)]; congr 1; omega
      · rw [if_neg (by omega), Array.getElem?_eq_none (by omega)]
  cases w'
  simp only [grow, World.drewN] at *
  subst h2; subst h3; subst h4
  congr 1
  have h1 : w.drawn ≤ _ := h1
  omega
/-- cells of a value, with the value -/
abbrev Cel (M : Mem) := {p : Val × List Value // p.1.size ≤ 1000000 ∧ repC M (eV p.1) p.2}
instance (M : Mem) : Inhabited (Cel M) := ⟨⟨(.mk 0 [], [.int .i64 0, .slice none 0 0]), by decide, by simp [Val.enc, Val.encs, repC, repA, V.isAgg]; exact ⟨_, _, ⟨rfl, rfl⟩, rfl, _, rfl, _, _, rfl⟩⟩⟩
def encC {M : Mem} (x : Cel M) : List Value := x.1.2
def cfC {M : Mem} (x y : Cel M) : Int := cmpV x.1.1 y.1.1
theorem eV_size (v : Val) : (eV v).size = 2 := by rw [enc_eq]; rfl
theorem encC_len {M : Mem} (x : Cel M) : (encC x).length = 2 := by
  have := repC_length x.2.2
  rw [eV_size] at this; exact this
theorem swoC {M : Mem} : SWO (ltOf (cfC (M := M))) where
  irrefl x := by simp only [ltOf, cfC, cmpV_lin.refl _ trivial]; decide
  trans x y z h1 h2 := by
    exact decide_eq_true (cmpV_lin.trans _ _ _ trivial trivial trivial (of_decide_eq_true h1) (of_decide_eq_true h2))
  ntrans x y z h1 h2 := by
    have h1 : ¬ cmpV x.1.1 y.1.1 < 0 := of_decide_eq_false h1
    have h2 : ¬ cmpV y.1.1 z.1.1 < 0 := of_decide_eq_false h2
    refine decide_eq_false fun h3 => ?_
    have h3 : cmpV x.1.1 z.1.1 < 0 := h3
    by_cases e : cmpV x.1.1 y.1.1 = 0
    · have := cmpV_eq.1 e; rw [this] at h3; exact h2 h3
    · have h4 : cmpV y.1.1 x.1.1 < 0 := (cmpV_lin.swap _ _ trivial trivial).2 (by omega)
      exact h2 (cmpV_lin.trans _ _ _ trivial trivial trivial h4 h3)
theorem cells_of {g : Gh} {l : List Val} (hl : ∀ v ∈ l, v.size ≤ 1000000) {us : List Value} (h : repDs g (flatV (l.map eV)) us) (h1 : ∀ c ∈ flatV (l.map eV), c.one = true) : ∃ ps : List (Cel g.M), ps.map (fun p => p.1.1) = l ∧ ps.flatMap encC = us := by
  have hA : repA g.M ((l.map eV).flatMap V.cellsV) us := by
    have hlen := repDs_length h
    refine repA_of (by rw [hlen, flatV, List.length_map]) fun j y hj => ?_
    obtain ⟨v, h2, h3⟩ := repDs_get h (i := j) (d := .v y) (by rw [flatV, List.getElem?_map, hj]; rfl)
    refine ⟨?_, v, h2, by simpa only [repD] using h3⟩
    have := h1 (.v y) (List.mem_map.2 ⟨y, List.mem_of_getElem? hj, rfl⟩)
    simpa [D.one] using this
  have hE := repE_of_flat (sz := 2) (xs := l.map eV) (fun y hy => by obtain ⟨v, _, rfl⟩ := List.mem_map.1 hy; exact eV_size v) hA
  clear h h1 hA
  induction l generalizing us with
  | nil =>
    simp only [List.map_nil, repE] at hE
    exact ⟨[], rfl, by simp [hE]⟩
  | cons v l ih =>
    simp only [List.map_cons, repE] at hE
    obtain ⟨u1, u2, rfl, _, h3, h4⟩ := hE
    obtain ⟨ps, h5, h6⟩ := ih (fun v hv => hl v (by simp [hv])) h4
    exact ⟨⟨(v, u1), hl v (by simp), h3⟩ :: ps, by simp [h5], by simp [h6, encC]⟩
theorem cells_rep {g : Gh} (ps : List (Cel g.M)) : repDs g (flatV ((ps.map fun p => p.1.1).map eV)) (ps.flatMap encC) ∧ ∀ c ∈ flatV ((ps.map fun p => p.1.1).map eV), c.one = true := by
  refine repE_repDs (sz := 2) ?_
  induction ps with
  | nil => simp [repE]
  | cons p ps ih =>
    simp only [List.map_cons, List.flatMap_cons, repE]
    exact ⟨_, _, rfl, encC_len p, p.2.2, ih⟩
theorem flat_get {M : Mem} : ∀ (ps : List (Cel M)) (t : Nat), t < ps.length * 2 → (ps.flatMap encC)[t]? = some ((encC (ps.getD (t / 2) default))[t % 2]!)
  | [], t, h => by simp at h
  | p :: ps, t, h => by
    have h2 := encC_len p
    rw [List.flatMap_cons]
    by_cases ht : t < 2
    · rw [List.getElem?_append_left (by omega), show t / 2 = 0 by omega, show t % 2 = t by omega, List.getD_cons_zero]
      simp [h2, ht]
    · rw [List.getElem?_append_right (by omega), h2, flat_get ps (t - 2) (by simp at h; omega)]
      have e1 : t / 2 = (t - 2) / 2 + 1 := by omega
      have e2 : (t - 2) % 2 = t % 2 := by omega
      rw [e1, e2, List.getD_cons_succ]
theorem flatK_list {M : Mem} (d : Array (Cel M)) : (flatK encC 2 d).toList = d.toList.flatMap encC := by
  apply List.ext_getElem?
  intro t
  have hlen : ∀ l : List (Cel M), (l.flatMap encC).length = l.length * 2 := by
    intro l
    induction l with
    | nil => rfl
    | cons p l ih => rw [List.flatMap_cons, List.length_append, ih, encC_len, List.length_cons]; omega
  by_cases ht : t < d.size * 2
  · rw [flat_get _ t (by simpa using ht), Array.getElem?_toList]
    have h1 := get_flatK encC 2 d t ht
    have hs : t < (flatK encC 2 d).size := by rw [size_flatK]; exact ht
    rw [getElem!_pos (flatK encC 2 d) t hs] at h1
    rw [Array.getElem?_eq_getElem hs, h1]
    congr 3
    simp [Array.getElem!_eq_getD, Array.getD_eq_getD_getElem?, List.getD_eq_getElem?_getD]
  · rw [List.getElem?_eq_none (by rw [Array.length_toList, size_flatK]; omega), List.getElem?_eq_none (by rw [hlen]; simp; omega)]
/-- the list, sorted -/
def sortV (l : List Val) : List Val := l.mergeSort fun a b => decide (cmpV a b ≤ 0)
theorem sortV_perm (l : List Val) : (sortV l).Perm l := List.mergeSort_perm l _
theorem leV_iff (a b : Val) : cmpV a b ≤ 0 ↔ ¬ cmpV b a < 0 := by
  have := cmpV_lin.swap b a trivial trivial
  omega
theorem leV_trans {a b c : Val} (h1 : cmpV a b ≤ 0) (h2 : cmpV b c ≤ 0) : cmpV a c ≤ 0 := by
  by_cases e1 : cmpV a b = 0
  · rw [cmpV_eq.1 e1]; exact h2
  · by_cases e2 : cmpV b c = 0
    · rw [← cmpV_eq.1 e2]; exact h1
    · have := cmpV_lin.trans a b c trivial trivial trivial (by omega) (by omega)
      omega
theorem leV_total (a b : Val) : cmpV a b ≤ 0 ∨ cmpV b a ≤ 0 := by
  have := cmpV_lin.swap b a trivial trivial
  omega
theorem sortV_sorted (l : List Val) : (sortV l).Pairwise fun a b => decide (cmpV a b ≤ 0) = true :=
  List.pairwise_mergeSort (le := fun a b => decide (cmpV a b ≤ 0)) (fun a b c h1 h2 => decide_eq_true (leV_trans (of_decide_eq_true h1) (of_decide_eq_true h2))) (fun a b => by
    simp only [Bool.or_eq_true, decide_eq_true_eq]; exact leV_total a b) l
theorem sortV_eq {l k : List Val} (hp : k.Perm l) (hs : k.Pairwise fun a b => decide (cmpV a b ≤ 0) = true) : k = sortV l := by
  refine List.Perm.eq_of_pairwise (fun a b _ _ h1 h2 => ?_) hs (sortV_sorted l) (hp.trans (sortV_perm l).symm)
  have h1 : cmpV a b ≤ 0 := of_decide_eq_true h1
  have h2 : cmpV b a ≤ 0 := of_decide_eq_true h2
  have := cmpV_lin.swap b a trivial trivial
  have := cmpV_lin.swap a b trivial trivial
  exact cmpV_eq.1 (by omega)
theorem cmp_lays {g : Gh} {w : World} {σ : St} (hw : WRep g σ w) {blk : Nat} (hM : ∀ o, g.M blk o = none) (n : Nat) : CmpLays PP 43 #[] (encC (M := g.M)) 2 cfC blk 0 n w := by
  intro m os dk _ x y
  obtain ⟨W, hW⟩ : ∃ W, W = sortWorldK encC 2 w blk 0 m dk os := ⟨_, rfl⟩
  rw [← hW]
  have hmem : ∀ b o v, g.M b o = some v → W.cell? ⟨b, o, none⟩ = some v := by
    intro b o v h
    have hne : b ≠ blk := fun e => by rw [e, hM] at h; simp at h
    have hc := hw.mem b o v h
    have hlt : b < w.heap.size := hw.mem_lt h
    rw [hW, sortWorldK, cell?_grow _ _ _ (by rw [size_putRowK]; exact hlt), cell?_putRowK_other _ _ _ _ _ _ _ hne]
    exact hc
  have hrep : WRep { M := g.M, β := g.β, n := 0, ι := fun _ _ => none, κ := g.κ } ⟨[], []⟩ W :=
    { n := rfl, mem := hmem, obj := fun i cs hi => by simp at hi, inj := fun i j cs ds hi => by simp at hi, own := fun k sz xs hx => by simp at hx, tags := by simp, sep := fun x hx => by simp at hx, ownObj := fun x hx => by simp at hx, fresh := fun _ _ _ => rfl }
  have arg : ∀ z : Cel g.M, repD { M := g.M, β := g.β, n := 0, ι := fun _ _ => none, κ := g.κ } (dV z.1.1) (.agg (encC z).toArray) := by
    intro z
    simp only [repD]
    exact ⟨encC z, by rw [← enc_eq]; exact z.2.2, rfl⟩
  have hs := (cmpV_spec _ x.1.1 y.1.1 (Nat.le_refl _) x.2.1).2 _ W [.agg (encC x).toArray, .agg (encC y).toArray] hrep (repDs_two.2 ⟨_, _, rfl, arg x, arg y⟩)
  refine Calls.mono hs ?_
  rintro e w' ⟨u, g', rfl, hwi, hd⟩
  simp only [repD, repV_int] at hd
  exact ⟨by rw [hd]; rfl, grow_of hwi⟩
theorem sortV_spec (l : List Val) (hl : l.length ≤ 100000) (hs : ∀ v ∈ l, v.size ≤ 1000000) :
    FSpec PP 42 [.arr 0 0 l.length, dfn 43] ⟨[some (flatV (l.map eV))], []⟩ (.tup []) ⟨[some (flatV ((sortV l).map eV))], []⟩ := by
  refine ⟨⟨_, Tryz.func42, by kernel_rfl, by kernel_rfl⟩, fun g w args hw hargs => ?_⟩
  obtain ⟨u0, u1, rfl, h0, h1⟩ := repDs_two.1 hargs
  simp only [repD] at h0 h1
  obtain ⟨hn, cap, hcap, rfl⟩ := h0
  obtain ⟨us1, vs1, rfl, hu1, hv1⟩ := repV_fn.1 h1
  simp only [repL] at hu1 hv1
  subst hu1; subst hv1
  obtain ⟨us, rest, et, hb, hr, hone, hM, hκ⟩ := hw.obj 0 _ rfl
  obtain ⟨ps, hp1, hp2⟩ := cells_of hs hr hone
  have hpl : ps.length = l.length := by rw [← hp1, List.length_map]
  have hul : us.length = l.length * 2 := by
    have := congrArg Array.size (show flatK encC 2 ps.toArray = us.toArray by rw [← hp2]; apply Array.ext'; rw [flatK_list])
    rw [size_flatK] at this; simp at this; omega
  have hF : (flatK encC 2 ps.toArray).toList = us := by rw [flatK_list, ← hp2]
  have hH : HoldsK encC 2 w (g.β 0) 0 ps.toArray := by
    intro j hj
    have hj' : j < us.length := by rw [size_flatK] at hj; simp at hj; omega
    refine ⟨?_, by simp [World.frozen?, hb]⟩
    have hg : (us ++ rest)[j]? = some us[j] := by rw [List.getElem?_append_left hj', List.getElem?_eq_getElem hj']
    have hg2 : (flatK encC 2 ps.toArray)[j]! = us[j] := by
      rw [getElem!_pos (flatK encC 2 ps.toArray) j hj]
      have : (flatK encC 2 ps.toArray).toList[j]? = some us[j] := by rw [hF, List.getElem?_eq_getElem hj']
      rw [Array.getElem?_toList, Array.getElem?_eq_getElem hj] at this
      exact Option.some.inj this
    simp only [World.cell?, hb, Nat.zero_add, hg2, id]
    simpa using hg
  have hblk : g.β 0 < w.heap.size := heap_lt hb
  have eg : ∀ args w, (callFunc 43 args).run PP w = .ok (.enter 43 args) w := enters_of Tryz.func43 (by kernel_rfl) rfl
  have hcon := AnyQ.slices_SortFunc Tryz.sortV 2 Tryz.isAgg31 Tryz.sizeOf31 (encC (M := g.M)) encC_len (fun x v hv => repC_oneCell x.2.2 v hv) cfC swoC 43 #[] (g.β 0) 0 cap ps.toArray w eg (cmp_lays hw hM _) hH hblk (by simp; omega)
  change Calls PP 42 _ _ _ at hcon
  rw [show ps.toArray.size = l.length by simp [hpl]] at hcon
  refine Calls.mono hcon ?_
  rintro e w' ⟨rfl, d', n, os, hperm, hsorted, rfl⟩
  obtain ⟨hsz, _, hperm⟩ := hperm
  have hdl : d'.toList.map (fun p => p.1.1) = sortV l := by
    refine sortV_eq ?_ ?_
    · rw [← hp1]
      have h2 : d'.toList.Perm ps := by simpa [Array.extract_eq_self_of_le, hsz, hpl] using hperm
      exact h2.map _
    · rw [List.pairwise_iff_getElem]
      intro i j hi hj hij
      have hi' : i < d'.size := by simpa using hi
      have hj' : j < d'.size := by simpa using hj
      have h3 := hsorted i j (Nat.zero_le _) hij (by simp only [List.size_toArray] at hsz; omega)
      simp only [ltOf, cfC, decide_eq_false_iff_not, getElem!_pos d' i hi', getElem!_pos d' j hj'] at h3
      simp only [List.getElem_map, Array.getElem_toList, decide_eq_true_eq]
      exact (leV_iff _ _).2 h3
  have hd2 : d'.size = l.length := by rw [hsz]; simp [hpl]
  have hF2 : (flatK encC 2 d').toList = d'.toList.flatMap encC := flatK_list d'
  have hFl : (d'.toList.flatMap encC).length = us.length := by rw [← hF2, Array.length_toList, size_flatK, hd2]; omega
  have hcs := cells_rep d'.toList
  rw [hdl] at hcs
  have hb2 : (putRowK encC 2 (Sort.ahead w n) (g.β 0) 0 d').heap[g.β 0]? = some (.cells ((d'.toList.flatMap encC) ++ rest).toArray et (0, 0)) := by
    simp only [putRowK, putRow, mapBlock, Sort.ahead, Array.getElem?_modify, hb, onCells, if_true, Option.map_some]
    congr 2
    apply Array.ext_getElem?
    intro t
    simp only [putCells, Array.getElem?_mapIdx, Nat.sub_zero, Nat.zero_le, true_and, Nat.zero_add, id, List.getElem?_toArray, List.size_toArray]
    by_cases ht : t < us.length
    · have htF : t < (flatK encC 2 d').size := by rw [size_flatK, hd2]; omega
      rw [List.getElem?_append_left ht, List.getElem?_append_left (by omega), List.getElem?_eq_getElem ht, Option.map_some, if_pos htF, ← hF2, Array.getElem?_toList, getElem!_pos (flatK encC 2 d') t htF, Array.getElem?_eq_getElem htF]
    · have htF : ¬ t < (flatK encC 2 d').size := by rw [size_flatK, hd2]; omega
      rw [List.getElem?_append_right (by omega), List.getElem?_append_right (by omega), hFl]
      simp only [if_neg htF, Option.map_id']
  have h2 := (WI.start hw).setObj (cs' := flatV ((sortV l).map eV)) (q := 0) (w' := putRowK encC 2 (Sort.ahead w n) (g.β 0) 0 d') rfl hb2 (by rw [← hκ, List.length_append, List.length_append, hFl]) hcs.1 hcs.2 (fun b hb' => by
    simp only [putRowK, putRow, mapBlock, Sort.ahead, Array.getElem?_modify]
    rw [if_neg (fun h => hb' h.symm)]) (by rw [size_putRowK]; rfl) rfl rfl rfl (drawn := Nat.le_add_right _ _)
  have h3 := h2.grow (w' := sortWorldK encC 2 w (g.β 0) 0 n d' os) (M' := g.M) (Mem.le_refl _) (fun b hb' => ⟨heap_grow_old _ _ hb', fun _ => rfl⟩) (fun b o v h => by
    rw [sortWorldK, cell?_grow _ _ _ (h2.rep.mem_lt h)]; exact h2.rep.mem b o v h) (by rw [sortWorldK, size_grow]; exact Nat.le_add_right _ _) rfl rfl rfl
  exact ⟨_, g, rfl, h3, by simp only [repD]; exact ⟨[], rfl, by simp [repDs]⟩⟩
end Go.Proofs.YtdfdemnbaiieaaaGreat

namespace Go.Proofs.YtdfdemnbaiieaaaGreat
open Go.Dv Go.Nv
set_option maxRecDepth 20000
noncomputable abbrev fDCfg : Func := Tryz.f9
noncomputable def cDCfg : Code := fDCfg.body.getD .skip
theorem dcfg_ex (m : Mod) (hm : PlC m) (l : List UInt8) (hl : l.length ≤ 200) (a : Nat) (ha : a ≤ l.length) :
    ∃ (c : Val) (a' : Nat), CfgOK m c ∧ a' ≤ l.length ∧ FSpec PP 9 [.ptr 0 0, dMod m] (dz l a) (dV c) (dz l a') := by
  have hp := hm.places
  obtain ⟨s, a1, s1, s2, s3, s4⟩ := pick_ex l hl a ha m.states.length (by omega) (by omega)
  obtain ⟨ys, a2, y1, y2, y3, y4⟩ := ints_ex l hl a1 s3 m.places.length (by omega) 3 (by decide) (by decide)
  obtain ⟨c, hc⟩ : ∃ c, c = cfgV s ys := ⟨_, rfl⟩
  refine ⟨c, a2, by rw [hc]; exact cfgOK m s ⟨s1, s2⟩ ys y2 fun y hy => by have := y3 y hy; omega, y1, ?_⟩
  refine spec_vc mixed fDCfg cDCfg (by kernel_rfl) (by kernel_rfl) (by kernel_rfl) (by kernel_rfl) 47 (by kernel_rfl) [3] (.t <| .c1 (cDz l a1) (di s) <| .c1 (cDz l a2) (dIs ys) <| .c (dV c) .r) ?_
  refine via (by kernel_rfl : ((m.kind == 1) = true ∧ FSpec PP 21 [D.ptr 0 0, di (↑(List.length (List.map V.str m.states)) : Int)] (St.mk [some (cDz l a)] []) (di s) (St.mk [some (cDz l a1)] []) ∧ FSpec PP 22 [D.ptr 0 0, di (↑(List.length (List.map V.str m.places)) : Int), di 3] (St.mk [some (cDz l a1)] []) (dIs ys) (St.mk [some (cDz l a2)] []) ∧ FSpec PP 20 [di s, D.v (vIs ys)] (St.mk [] []) (dV c) (St.mk [] []) ∧ [some (cDz l a2)] = [some (cDz l a2)] ∧ D.v (V.agg [vi (Val.n c), V.list (List.map eV (Val.kids c))]) = dV c) = _) ?_
  refine ⟨by rw [hm.kind]; rfl, by rw [List.length_map]; exact s4, by rw [List.length_map]; exact y4, hc ▸ cfg28_spec ys (by omega) s, rfl, rfl⟩
end Go.Proofs.YtdfdemnbaiieaaaGreat

namespace Go.Proofs.YtdfdemnbaiieaaaGreat
open Go.Dv Go.Nv
set_option maxRecDepth 20000
noncomputable abbrev fCChk : Func := Tryz.f217
noncomputable def cCChk : Code := fCChk.body.getD .skip
theorem cchk_spec (m : Mod) (hm : PlC m) (i : Nat) (hi : i < m.rules.length) (c : Val) (hc : CfgOK m c) : FSpec PP 217 [dMod m, di i, dV c] σ0 (di 0) σ0 := by
  refine spec_vc mixed fCChk cCChk (by kernel_rfl) (by kernel_rfl) (by kernel_rfl) (by kernel_rfl) 32 (by kernel_rfl) [3, 5] (.c (di 0) <| .k <| .f <| .f <| .f <| .c (db true) .r) ?_
  refine via (by kernel_rfl : (FSpec PP 97 [D.v (vMod m)] (St.mk [] []) (di 0) (St.mk [] []) ∧ (m.kind != 1) = false ∧ decide ((↑i : Int) < 0) = false ∧ decide ((↑i : Int) ≥ (↑(List.length (List.map vRul m.rules)) : Int)) = false ∧ FSpec PP 61 [D.v (vMod m), D.v (vVal c)] (St.mk [] []) (db true) (St.mk [] []) ∧ di 0 = di 0) = _) ?_
  have hsz := hc.size hm
  have h1 := mval_spec m hm.ok c (by omega)
  rw [hc.valid hm] at h1
  exact ⟨chk_spec m hm.ok, by rw [hm.kind]; rfl, decide_eq_false (by omega), by rw [List.length_map]; exact decide_eq_false (by omega), h1, rfl⟩
noncomputable abbrev fCEn : Func := Tryz.f218
noncomputable def cCEn : Code := fCEn.body.getD .skip
theorem isC_kids {c : Val} {s : Int} {ys : List Int} (hc : IsC c s ys) : c.kids = lf s :: ys.map lf := by rw [hc.eq]; rfl
theorem kids_drop {c : Val} {s : Int} {ys : List Int} (hc : IsC c s ys) : List.drop 1 (List.take (c.kids.map eV).length (c.kids.map eV)) = (ys.map lf).map eV := by
  rw [List.take_length, isC_kids hc]; rfl
theorem cen_loop (r : Rul) (c : Val) (s : Int) (ys : List Int) (hl : r.need.length = ys.length) (hl2 : ys.length ≤ 1000) (n : Nat) : ∀ k : Nat, ys.length - k = n →
    Rn PP fCEn 0 (db (needB (r.need.drop k) (ys.drop k))) σ0 ([.lp (sub cCEn [1, 1, 0, 1, 0, 0]), .blk 0, .code (sub cCEn [1, 1, 1])] ++ []) (mkE 33 [(2, .v (.ref (vRul r))), (17, dVs (ys.map lf)), (18, di ys.length), (19, di k)]) σ0 := by
  induction n with
  | zero =>
    intro k hn
    refine loop_vc mixed 33 [2, 3] (.f .r) ?_
    refine via (by kernel_rfl : (decide ((↑k : Int) < (↑(List.length ys) : Int)) = false ∧ db true = db (needB (List.drop k r.need) (List.drop k ys))) = _) ?_
    refine ⟨decide_eq_false (by omega), ?_⟩
    rw [List.drop_of_length_le (show r.need.length ≤ k by omega)]; simp only [needB]
  | succ n ih =>
    intro k hn
    obtain ⟨x, hx⟩ : ∃ x, r.need[k]? = some x := ⟨_, List.getElem?_eq_getElem (show k < r.need.length by omega)⟩
    obtain ⟨y, hy⟩ : ∃ y, ys[k]? = some y := ⟨_, List.getElem?_eq_getElem (show k < ys.length by omega)⟩
    refine loop_vc mixed 33 [2, 3] (.t <| .h (.xs (vVal (lf y))) <| .x (vi x) <| .b .r (.ls [ke 2, ke 17, ke 18, ch 19 (di (k + 1 : Nat))] σ0)) ?_
    refine via (by kernel_rfl : (decide ((↑k : Int) < (↑(List.length ys) : Int)) = true ∧ 2 = 2 ∧ 0 ≤ (↑k : Int) ∧ (List.map eV (List.map lf ys))[Int.toNat (↑k : Int)]? = some (vVal (lf y)) ∧ 0 ≤ (↑k : Int) ∧ (List.map vi r.need)[Int.toNat (↑k : Int)]? = some (vi x) ∧ (True ∧ True) ∧ (decide (Val.n (lf y) < x) = true → db false = db (needB (List.drop k r.need) (List.drop k ys))) ∧ (decide (Val.n (lf y) < x) = false → di (IntKind.wrap IntKind.i64 ((↑k : Int) + 1)) = di (↑(k + 1) : Int) ∧ Nv.It (RunC (CN 0) PP (fun env σ1 => ResOK PP fCEn env σ1 (db (needB (List.drop k r.need) (List.drop k ys))) σ0) [KI.lp (sub cCEn [1, 1, 0, 1, 0, 0]), KI.blk 0, KI.code (sub cCEn [1, 1, 1])] (mkE 33 [(2, D.v (V.ref (vRul r))), (17, D.v (vVs (List.map lf ys))), (18, di (↑(List.length ys) : Int)), (19, di (↑(k + 1) : Int))]) σ0))) = _) ?_
    have e3 : r.need.drop k = x :: r.need.drop (k + 1) := by rw [List.drop_eq_getElem_cons (by omega)]; congr 1; rw [List.getElem?_eq_getElem (by omega)] at hx; simpa using hx
    have e4 : ys.drop k = y :: ys.drop (k + 1) := by rw [List.drop_eq_getElem_cons (by omega)]; congr 1; rw [List.getElem?_eq_getElem (by omega)] at hy; simpa using hy
    rw [e3, e4]
    refine ⟨decide_eq_true (by omega), rfl, by omega, idx_val (by rw [List.getElem?_map, hy]; rfl), by omega, idx_some hx, ⟨trivial, trivial⟩, fun h1 => ?_, fun h1 => ⟨wrap_succ (by omega), ⟨?_⟩⟩⟩
    · have h1 : decide (y < x) = true := h1
      simp only [needB, h1, Bool.not_true, Bool.false_and]
    · have h1 : decide (y < x) = false := h1
      simp only [needB, h1, Bool.not_false, Bool.true_and]
      have := ih (k + 1) (by omega)
      exact this
theorem cen_spec (r : Rul) (c : Val) (s : Int) (ys : List Int) (hc : IsC c s ys) (hl : r.need.length = ys.length) (hl2 : ys.length ≤ 1000) : FSpec PP 218 [dRul r, dV c] σ0 (db (enB r s ys)) σ0 := by
  refine spec_vc mixed fCEn cCEn (by kernel_rfl) (by kernel_rfl) (by kernel_rfl) (by kernel_rfl) 33 (by kernel_rfl) [2, 3] (.h (.xs (vVal (lf s))) <| .b .r (.l [ke 2, ch 17 (dVs (ys.map lf)), ch 18 (di ys.length), ch 19 (di (0 : Nat))])) ?_
  refine via (by kernel_rfl : (2 = 2 ∧ iz 0 ≤ 0 ∧ (List.map eV (Val.kids c))[Int.toNat 0]? = some (vVal (lf s)) ∧ ((Val.n (lf s) != r.frm) = true → db false = db (enB r s ys)) ∧ ((Val.n (lf s) != r.frm) = false → (∀ (x : V), x ∈ List.map eV (Val.kids c) → V.size x = 2) ∧ 0 ≤ (1 : Int) ∧ (1 : Int) ≤ (↑(List.length (List.map eV (Val.kids c))) : Int) ∧ D.v (V.list (List.drop (Int.toNat ((1 : Int))) (List.take (List.length (List.map eV (Val.kids c))) (List.map eV (Val.kids c))))) = dVs (List.map lf ys) ∧ di (↑(List.length (List.drop (Int.toNat ((1 : Int))) (List.take (List.length (List.map eV (Val.kids c))) (List.map eV (Val.kids c))))) : Int) = di (↑(List.length ys) : Int) ∧ di 0 = di (↑0 : Int) ∧ Nv.It (RunC (CN (List.length σ0.H)) PP (fun env σ1 => ResOK PP fCEn env σ1 (db (enB r s ys)) σ0) [KI.lp (sub cCEn [1, 1, 0, 1, 0, 0]), KI.blk 0, KI.code (sub cCEn [1, 1, 1])] (mkE 33 [(2, D.v (V.ref (vRul r))), (17, dVs (List.map lf ys)), (18, di (↑(List.length ys) : Int)), (19, di (↑0 : Int))]) (St.mk [] [])))) = _) ?_
  have hk := isC_kids hc
  have hd := kids_drop hc
  have hlen : c.kids.length = ys.length + 1 := hc.len
  refine ⟨rfl, by decide, idx_val (i := 0) hc.head, fun h => ?_, fun h => ⟨?_, by omega, ?_, ?_, ?_, rfl, ⟨?_⟩⟩⟩
  · have h : (s != r.frm) = true := h
    have h : (s == r.frm) = false := by simpa using h
    simp only [enB, h, Bool.false_and]
  · intro x hx; obtain ⟨v, _, rfl⟩ := List.mem_map.1 hx; rw [enc_eq]; rfl
  · rw [List.length_map]; omega
  · exact congrArg (fun l => D.v (.list l)) hd
  · have := congrArg (fun l : List V => di (l.length : Int)) hd
    simpa using this
  · have h : (s != r.frm) = false := h
    have h : (s == r.frm) = true := by simpa using h
    simp only [enB, h, Bool.true_and]
    exact cen_loop r c s ys hl hl2 _ 0 rfl
noncomputable abbrev fMvd : Func := Tryz.f219
noncomputable def cMvd : Code := fMvd.body.getD .skip
theorem mvd_spec (r : Rul) (hr : r.move = []) (i : Nat) : FSpec PP 219 [dRul r, di i] σ0 (di i) σ0 := by
  refine spec_vc mixed fMvd cMvd (by kernel_rfl) (by kernel_rfl) (by kernel_rfl) (by kernel_rfl) 15 (by kernel_rfl) [2] (.t .r) ?_
  refine via (by kernel_rfl : (((↑(List.length (List.map vi r.move)) : Int) == 0) = true ∧ di (↑i : Int) = di (↑i : Int)) = _) ?_
  exact ⟨by rw [hr]; rfl, rfl⟩
noncomputable abbrev fCAp : Func := Tryz.f168
noncomputable def cCAp : Code := fCAp.body.getD .skip
def outS : List Val → List Int → Val × Int
  | xs, v :: vs => if decide (v > 1048576) = true then (.mk 0 [], 1) else outS (xs ++ [lf v]) vs
  | xs, [] => (.mk 0 xs, 0)
theorem outS_eq : ∀ (ws gs : List Int) (xs : List Val), ws.length = gs.length → outS xs (List.zipWith (fun w g => w + g) ws gs) = outP xs ws gs
  | [], [], xs, _ => rfl
  | w :: ws, g :: gs, xs, h => by
    simp only [List.zipWith_cons_cons, outS, outP]
    rw [outS_eq ws gs _ (by simpa using h)]
theorem cap_l2 (r : Rul) (ws : List Int) (hw : ws.length ≤ 1000) (n : Nat) : ∀ (k : Nat) (xs : List Val), ws.length - k = n → xs.length ≤ k + 1 →
    Rn PP fCAp 0 (dP (outS xs (ws.drop k))) σ0 ([.lp (sub cCAp [1, 1, 1, 1, 1, 1, 1, 0, 1, 0, 0]), .blk 2, .code (sub cCAp [1, 1, 1, 1, 1, 1, 1, 1])] ++ []) (mkE 90 [(6, .ptr 0 0), (14, .ptr 3 0), (72, .arr 2 0 ws.length), (73, di ws.length), (74, di k)]) (stB r ws xs) := by
  induction n with
  | zero =>
    intro k xs hn hx
    refine loop_vc mixed 90 [3, 5] (.f .r) ?_
    refine via (by kernel_rfl : (decide ((↑k : Int) < (↑(List.length ws) : Int)) = false ∧ D.tup [D.v (V.agg [vi 0, V.list (List.map eV xs)]), di 0] = dP (outS xs (List.drop k ws))) = _) ?_
    refine ⟨decide_eq_false (by omega), ?_⟩
    rw [List.drop_of_length_le (show ws.length ≤ k by omega)]; rfl
  | succ n ih =>
    intro k xs hn hx
    obtain ⟨w, hw1⟩ : ∃ w, ws[k]? = some w := ⟨_, List.getElem?_eq_getElem (show k < ws.length by omega)⟩
    refine loop_vc mixed 90 [3, 5] (.t <| .m (di w) <| .b .r (.lo [ke 6, ke 14, ke 72, ke 73, ch 74 (di (k + 1 : Nat))] (stB r ws (xs ++ [lf w])))) ?_
    refine via (by kernel_rfl : (decide ((↑k : Int) < (↑(List.length ws) : Int)) = true ∧ 0 ≤ (↑k : Int) ∧ (↑k : Int) < (↑(List.length ws) : Int) ∧ (cIs ws)[0 + Int.toNat (↑k : Int) * 1]? = some (di w) ∧ (decide (w > 1048576) = true → D.tup [D.v (V.agg [vi 0, V.list []]), di 1] = dP (outS xs (List.drop k ws))) ∧ (decide (w > 1048576) = false → List.map eV xs = List.map eV xs ∧ LenOK (List.length (List.map eV xs) + List.length (V.agg (V.int IntKind.i64 w :: V.list nV :: nV) :: nV)) 32 ∧ di (IntKind.wrap IntKind.i64 ((↑k : Int) + 1)) = di (↑(k + 1) : Int) ∧ okH 4 [1] [some [di 0, D.v V.nils], some (cR r), some (cIs ws), some [di 0, D.acc 1 (List.map eV xs ++ [V.agg [vi w, V.list []]])]] = true ∧ [some [di 0, D.v V.nils], some (cR r), some (cIs ws), some [di 0, D.acc 1 (List.map eV xs ++ V.agg (vi w :: V.list nV :: nV) :: nV)]] = [some [di 0, D.v V.nils], some (cR r), some (cIs ws), some [di 0, D.acc 1 (List.map eV (xs ++ [lf w]))]] ∧ [(1, 2, List.map eV xs ++ V.agg (vi w :: V.list nV :: nV) :: nV)] = [(1, 2, List.map eV (xs ++ [lf w]))] ∧ Nv.It (RunC (CN 0) PP (fun env σ1 => ResOK PP fCAp env σ1 (dP (outS xs (List.drop k ws))) σ0) [KI.lp (sub cCAp [1, 1, 1, 1, 1, 1, 1, 0, 1, 0, 0]), KI.blk 2, KI.code (sub cCAp [1, 1, 1, 1, 1, 1, 1, 1])] (mkE 90 [(6, D.ptr 0 0), (14, D.ptr 3 0), (72, D.arr 2 0 (List.length ws)), (73, di (↑(List.length ws) : Int)), (74, di (↑(k + 1) : Int))]) (stB r ws (xs ++ [lf w]))))) = _) ?_
    have e3 : ws.drop k = w :: ws.drop (k + 1) := by rw [List.drop_eq_getElem_cons (by omega)]; congr 1; rw [List.getElem?_eq_getElem (by omega)] at hw1; simpa using hw1
    rw [e3]
    refine ⟨decide_eq_true (by omega), by omega, by omega, by simp [cIs, hw1], fun h => ?_, fun h => ⟨rfl, ⟨?_, ?_⟩, wrap_succ (by omega), ?_, ?_, ?_, ⟨?_⟩⟩⟩
    · simp only [outS, h, if_true]; rfl
    · simp only [List.length_map, List.length_cons, List.length_nil]; omega
    · simp only [List.length_map, List.length_cons, List.length_nil]; omega
    · simp [okH, D.okNs, D.okN, okNs_cIs]
    · rw [← append_val]; rfl
    · rw [← append_val]; rfl
    · have := ih (k + 1) (xs ++ [lf w]) (by omega) (by simp; omega)
      simp only [outS, h, Bool.false_eq_true, if_false]
      exact this
theorem cap_l1 (r : Rul) (hr : r.move = []) (ys : List Int) (hl : r.need.length = ys.length) (hg : r.give.length = ys.length) (hy : ys.length ≤ 1000) (by1 : ∀ y ∈ ys, 0 ≤ y ∧ y ≤ 1048576) (bn : ∀ y ∈ r.need, 0 ≤ y ∧ y ≤ 16) (bg : ∀ y ∈ r.give, 0 ≤ y ∧ y ≤ 16) (N : Nat) (hN : N = ys.length) (n : Nat) : ∀ (k : Nat) (ws : List Int), N - k = n → ws = (afterM r ys).take k ++ r.give.drop k →
    Rn PP fCAp 0 (dP (outS [lf r.to] (afterM r ys))) σ0 ([.lp (sub cCAp [1, 1, 1, 1, 1, 0, 1, 0, 0]), .blk 0, .code (sub cCAp [1, 1, 1, 1, 1, 1])] ++ []) (mkE 90 [(6, .ptr 0 0), (9, .ptr 1 0), (10, .arr 2 0 N), (40, dVs (ys.map lf)), (41, di ys.length), (42, di k)]) (stA r ws) := by
  induction n with
  | zero =>
    intro k ws hn hx
    refine loop_vc mixed 90 [3, 5] (.f <| .a 1 <| .h .g <| .lo [ke 6, ke 14, ch 72 (.arr 2 0 N), ch 73 (di N), ch 74 (di (0 : Nat))] (stB r ws [lf r.to])) ?_
    refine via (by kernel_rfl : (decide ((↑k : Int) < (↑(List.length ys) : Int)) = false ∧ D.arr 2 0 N = D.arr 2 0 N ∧ di (↑N : Int) = di (↑N : Int) ∧ di 0 = di (↑0 : Int) ∧ okH 4 [1] [some [di 0, D.v V.nils], some (cR r), some (cIs ws), some [di 0, D.acc 1 [V.agg [vi r.to, V.list []]]]] = true ∧ [some [di 0, D.v V.nils], some (cR r), some (cIs ws), some [di 0, D.acc 1 (V.agg (vi r.to :: V.list nV :: nV) :: nV)]] = [some [di 0, D.v V.nils], some (cR r), some (cIs ws), some [di 0, D.acc 1 (eV (lf r.to) :: nV)]] ∧ [(1, 2, V.agg (vi r.to :: V.list nV :: nV) :: nV)] = [(1, 2, eV (lf r.to) :: nV)] ∧ Nv.It (RunC (CN 0) PP (fun env σ1 => ResOK PP fCAp env σ1 (dP (outS [lf r.to] (afterM r ys))) σ0) [KI.lp (sub cCAp [1, 1, 1, 1, 1, 1, 1, 0, 1, 0, 0]), KI.blk 2, KI.code (sub cCAp [1, 1, 1, 1, 1, 1, 1, 1])] (mkE 90 [(6, D.ptr 0 0), (14, D.ptr 3 0), (72, D.arr 2 0 N), (73, di (↑N : Int)), (74, di (↑0 : Int))]) (stB r ws [lf r.to]))) = _) ?_
    have hsl : (afterM r ys).length = N := by simp only [afterM, subM, List.length_zipWith]; omega
    rw [List.take_of_length_le (by omega), List.drop_of_length_le (by omega), List.append_nil] at hx
    subst hx
    refine ⟨decide_eq_false (by omega), rfl, rfl, rfl, by simp [okH, D.okNs, D.okN, okNs_cIs], rfl, rfl, ⟨?_⟩⟩
    have := cap_l2 r (afterM r ys) (by omega) _ 0 [lf r.to] rfl (by simp)
    rw [hsl] at this
    exact this
  | succ n ih =>
    intro k ws hn hx
    obtain ⟨ws', hws⟩ : ∃ ws', ws' = (afterM r ys).take (k + 1) ++ r.give.drop (k + 1) := ⟨_, rfl⟩
    obtain ⟨x, hx1⟩ : ∃ x, r.need[k]? = some x := ⟨_, List.getElem?_eq_getElem (show k < r.need.length by omega)⟩
    obtain ⟨y, hy1⟩ : ∃ y, ys[k]? = some y := ⟨_, List.getElem?_eq_getElem (show k < ys.length by omega)⟩
    obtain ⟨z, hz1⟩ : ∃ z, r.give[k]? = some z := ⟨_, List.getElem?_eq_getElem (show k < r.give.length by omega)⟩
    refine loop_vc mixed 90 [3, 5] (.t <| .h (.xs (vVal (lf y))) <| .c (di k) <| .t <| .m (di z) <| .x (vi x) <| .w <| .lo [ke 6, ke 9, ke 10, ke 40, ke 41, ch 42 (di (k + 1 : Nat))] (stA r ws')) ?_
    refine via (by kernel_rfl : (decide ((↑k : Int) < (↑(List.length ys) : Int)) = true ∧ 2 = 2 ∧ 0 ≤ (↑k : Int) ∧ (List.map eV (List.map lf ys))[Int.toNat (↑k : Int)]? = some (vVal (lf y)) ∧ FSpec PP 219 [D.v (V.agg [V.str r.name, vi r.frm, vi r.to, vIs r.need, vIs r.give, vIs r.move, vi r.chan, vi r.act, vi r.letter, vIs r.path, vIs r.next, vTks r.takes, vIs r.makes, vi r.second]), di (↑k : Int)] (St.mk [] []) (di (↑k : Int)) (St.mk [] []) ∧ decide ((↑k : Int) ≥ 0) = true ∧ 0 ≤ (↑k : Int) ∧ (↑k : Int) < (↑N : Int) ∧ (cIs ws)[0 + Int.toNat (↑k : Int) * 1]? = some (di z) ∧ 0 ≤ (↑k : Int) ∧ (List.map vi r.need)[Int.toNat (↑k : Int)]? = some (vi x) ∧ 0 ≤ (↑k : Int) ∧ (↑k : Int) < (↑N : Int) ∧ 0 + Int.toNat (↑k : Int) * 1 < List.length (cIs ws) ∧ (True ∧ True ∧ True ∧ True) ∧ di (IntKind.wrap IntKind.i64 ((↑k : Int) + 1)) = di (↑(k + 1) : Int) ∧ okH 3 [] [some [di 0, D.v V.nils], some (cR r), some (List.set (cIs ws) (0 + Int.toNat (↑k : Int) * 1) (di (IntKind.wrap IntKind.i64 (z + IntKind.wrap IntKind.i64 (Val.n (lf y) - x)))))] = true ∧ [some [di 0, D.v V.nils], some (cR r), some (List.set (cIs ws) (0 + Int.toNat (↑k : Int) * 1) (di (IntKind.wrap IntKind.i64 (z + IntKind.wrap IntKind.i64 (Val.n (lf y) - x)))))] = [some [di 0, D.v V.nils], some (cR r), some (cIs ws')] ∧ Nv.It (RunC (CN 0) PP (fun env σ1 => ResOK PP fCAp env σ1 (dP (outS [lf r.to] (afterM r ys))) σ0) [KI.lp (sub cCAp [1, 1, 1, 1, 1, 0, 1, 0, 0]), KI.blk 0, KI.code (sub cCAp [1, 1, 1, 1, 1, 1])] (mkE 90 [(6, D.ptr 0 0), (9, D.ptr 1 0), (10, D.arr 2 0 N), (40, D.v (vVs (List.map lf ys))), (41, di (↑(List.length ys) : Int)), (42, di (↑(k + 1) : Int))]) (stA r ws'))) = _) ?_
    have hsl : (afterM r ys).length = N := by simp only [afterM, subM, List.length_zipWith]; omega
    have hs1 : (afterM r ys)[k]? = some (y - x + z) := by simp only [afterM, subM, List.getElem?_zipWith, hy1, hx1, hz1]
    have b1 := by1 _ (List.mem_of_getElem? hy1)
    have b2 := bn _ (List.mem_of_getElem? hx1)
    have b3 := bg _ (List.mem_of_getElem? hz1)
    have htl : ((afterM r ys).take k).length = k := by rw [List.length_take]; omega
    have hdz : r.give.drop k = z :: r.give.drop (k + 1) := by rw [List.drop_eq_getElem_cons (by omega)]; congr 1; rw [List.getElem?_eq_getElem (by omega)] at hz1; simpa using hz1
    have hw0 : ws[k]? = some z := by
      rw [hx, List.getElem?_append_right (by omega), htl, Nat.sub_self, hdz]; rfl
    have hset : ws.set k (y - x + z) = ws' := by
      rw [hx, hws, List.set_append_right _ _ (by omega), htl, Nat.sub_self, hdz, List.set_cons_zero]
      obtain ⟨hlt, he⟩ := List.getElem?_eq_some_iff.1 hs1
      rw [List.take_succ_eq_append_getElem hlt, he, List.append_assoc]; rfl
    have hwl : ws.length = N := by rw [hx, List.length_append, htl, List.length_drop]; omega
    have e2 : IntKind.i64.wrap (z + IntKind.i64.wrap (Val.n (lf y) - x)) = y - x + z := by
      rw [show Val.n (lf y) = y from rfl, wrap_id (n := y - x) (by omega) (by omega), wrap_id (by omega) (by omega)]; omega
    have e3 : List.set (cIs ws) (0 + Int.toNat (k : Int) * 1) (di (y - x + z)) = cIs ws' := by
      rw [← hset, show 0 + Int.toNat (k : Int) * 1 = k by simp]; simp [cIs, List.map_set]
    refine ⟨decide_eq_true (by omega), rfl, by omega, idx_val (by rw [List.getElem?_map, hy1]; rfl), mvd_spec r hr k, decide_eq_true (by omega), by omega, by omega, by simp [cIs, hw0], by omega, idx_some hx1, by omega, by omega, by simp [cIs]; omega, ⟨trivial, trivial, trivial, trivial⟩, wrap_succ (by omega), ?_, ?_, ⟨ih (k + 1) ws' (by omega) hws⟩⟩
    · rw [e2, e3]; simp [okH, D.okNs, D.okN, okNs_cIs]
    · rw [e2, e3]
theorem pls_cIs (l : List Int) : D.pls (cIs l) = true := by
  have : cIs l = (l.map vi).map .v := by simp [cIs]
  rw [this]; exact pls_map _
theorem cap_spec (m : Mod) (hm : PlC m) (i : Nat) (r : Rul) (hi : m.rules[i]? = some r) (c : Val) (hc : CfgOK m c) : FSpec PP 168 [dMod m, di i, dV c] σ0 (dP (apM r (stV c) (nmV c))) σ0 := by
  have hr := hm.rule (List.mem_of_getElem? hi)
  have hp := hm.places
  have hil := (List.getElem?_eq_some_iff.1 hi).1
  have hck := cchk_spec m hm i hil c hc
  have hcc := hc.isC
  have hyl := hc.len
  have hnm := hc.nm
  have he := cen_spec r c _ _ hcc (by rw [hr.needL, hc.len]) (by omega)
  generalize stV c = s at *
  generalize nmV c = ys at *
  cases hb : enB r s ys with
  | false =>
    rw [hb] at he
    refine spec_vc mixed fCAp cCAp (by kernel_rfl) (by kernel_rfl) (by kernel_rfl) (by kernel_rfl) 90 (by kernel_rfl) [3, 5] (.c (di 0) <| .x (vRul r) <| .c (db false) .r) ?_
    refine via (by kernel_rfl : (FSpec PP 217 [D.v (vMod m), di (↑i : Int), D.v (vVal c)] (St.mk [] []) (di 0) (St.mk [] []) ∧ 0 ≤ (↑i : Int) ∧ (List.map vRul m.rules)[Int.toNat (↑i : Int)]? = some (vRul r) ∧ FSpec PP 218 [D.v (V.agg [V.str r.name, vi r.frm, vi r.to, vIs r.need, vIs r.give, vIs r.move, vi r.chan, vi r.act, vi r.letter, vIs r.path, vIs r.next, vTks r.takes, vIs r.makes, vi r.second]), D.v (vVal c)] (St.mk [] []) (db false) (St.mk [] []) ∧ D.tup [D.v (V.agg [vi 0, V.list []]), di 18] = dP (apM r s ys)) = _) ?_
    exact ⟨hck, by omega, idx_some hi, he, by rw [apM, hb]; rfl⟩
  | true =>
    rw [hb] at he
    obtain ⟨N, hN⟩ : ∃ N, N = ys.length := ⟨_, rfl⟩
    have hN0 : r.give ≠ [] := by intro h; have := hr.giveL; rw [h] at this; simp at this; omega
    have hgl : r.give.length = N := by rw [hr.giveL]; omega
    refine spec_vc mixed fCAp cCAp (by kernel_rfl) (by kernel_rfl) (by kernel_rfl) (by kernel_rfl) 90 (by kernel_rfl) [3, 5] (.c (di 0) <| .x (vRul r) <| .c (db true) <| .h (.q 7 2) <| .h (.oc (.arr 2 0 N) (stA r r.give)) <| .lo [ke 6, ke 9, ke 10, ch 40 (dVs (ys.map lf)), ch 41 (di ys.length), ch 42 (di (0 : Nat))] (stA r r.give)) ?_
    refine via (by kernel_rfl : (FSpec PP 217 [D.v (vMod m), di (↑i : Int), D.v (vVal c)] (St.mk [] []) (di 0) (St.mk [] []) ∧ 0 ≤ (↑i : Int) ∧ (List.map vRul m.rules)[Int.toNat (↑i : Int)]? = some (vRul r) ∧ FSpec PP 218 [D.v (V.agg [V.str r.name, vi r.frm, vi r.to, vIs r.need, vIs r.give, vIs r.move, vi r.chan, vi r.act, vi r.letter, vIs r.path, vIs r.next, vTks r.takes, vIs r.makes, vi r.second]), D.v (vVal c)] (St.mk [] []) (db true) (St.mk [] []) ∧ (∀ (o : Oper) (c : Call) (fo : Operand), o.op = Op.call c → c.callee = Callee.value fo → OpOK PP o [D.v (V.fn 63 [] []), D.v (vIs r.give)] (St.mk [some [di 0, D.v V.nils], some [D.v (V.str r.name), di r.frm, di r.to, D.v (vIs r.need), D.v (vIs r.give), D.v (vIs r.move), di r.chan, di r.act, di r.letter, D.v (vIs r.path), D.v (vIs r.next), D.v (vTks r.takes), D.v (vIs r.makes), di r.second]] []) (D.arr 2 0 N) (stA r r.give)) ∧ (∀ (x : V), x ∈ List.map eV (Val.kids c) → V.size x = 2) ∧ 0 ≤ (1 : Int) ∧ (1 : Int) ≤ (↑(List.length (List.map eV (Val.kids c))) : Int) ∧ D.v (V.list (List.drop (Int.toNat ((1 : Int))) (List.take (List.length (List.map eV (Val.kids c))) (List.map eV (Val.kids c))))) = dVs (List.map lf ys) ∧ di (↑(List.length (List.drop (Int.toNat ((1 : Int))) (List.take (List.length (List.map eV (Val.kids c))) (List.map eV (Val.kids c))))) : Int) = di (↑(List.length ys) : Int) ∧ di 0 = di (↑0 : Int) ∧ okH 3 [] [some [di 0, D.v V.nils], some (cR r), some (cIs r.give)] = true ∧ [some [di 0, D.v V.nils], some (cR r), some (cIs r.give)] = [some [di 0, D.v V.nils], some (cR r), some (cIs r.give)] ∧ Nv.It (RunC (CN (List.length σ0.H)) PP (fun env σ1 => ResOK PP fCAp env σ1 (dP (apM r s ys)) σ0) [KI.lp (sub cCAp [1, 1, 1, 1, 1, 0, 1, 0, 0]), KI.blk 0, KI.code (sub cCAp [1, 1, 1, 1, 1, 1])] (mkE 90 [(6, D.ptr 0 0), (9, D.ptr 1 0), (10, D.arr 2 0 N), (40, dVs (List.map lf ys)), (41, di (↑(List.length ys) : Int)), (42, di (↑0 : Int))]) (stA r r.give))) = _) ?_
    have hd := kids_drop hcc
    have hlen : c.kids.length = ys.length + 1 := hcc.len
    refine ⟨hck, by omega, idx_some hi, he, fun o c' fo ho hc' => ?_, ?_, by omega, ?_, ?_, ?_, rfl, by simp [okH, D.okNs, D.okN, okNs_cIs], rfl, ⟨?_⟩⟩
    · exact op_call0_arrJ (σ := ⟨[some [di 0, .v .nils], some (cR r)], []⟩) (fs := []) (cs := []) (ds := [dIs r.give]) ho hc' rfl (Hc := [none, some (cIs r.give)]) (j := 1) rfl (pls_cIs _) (by rw [← hgl]; exact cloIA_spec r.give (by omega) hN0)
    · intro x hx; obtain ⟨v, _, rfl⟩ := List.mem_map.1 hx; rw [enc_eq]; rfl
    · rw [List.length_map]; omega
    · exact congrArg (fun l => D.v (.list l)) hd
    · have := congrArg (fun l : List V => di (l.length : Int)) hd
      simpa using this
    · have h1 := cap_l1 r hr.move ys (by rw [hr.needL]; omega) (by rw [hr.giveL]; omega) (by omega) hnm hr.need hr.give N hN _ 0 r.give rfl (by simp)
      rw [apM, if_pos hb, ← outS_eq _ _ _ (by rw [subM, List.length_zipWith, hr.needL, hr.giveL]; omega)]
      exact h1
/- STEPS -/
noncomputable abbrev fStp1 : Func := Tryz.f165
noncomputable def cStp1 : Code := fStp1.body.getD .skip
theorem stp1_spec (m : Mod) (hm : PlC m) : FSpec PP 165 [dMod m] σ0 (di 0) σ0 := by
  refine spec_vc mixed fStp1 cStp1 (by kernel_rfl) (by kernel_rfl) (by kernel_rfl) (by kernel_rfl) 12 (by kernel_rfl) [1] (.c (di 0) <| .k <| .f .r) ?_
  refine via (by kernel_rfl : (FSpec PP 97 [D.v (vMod m)] (St.mk [] []) (di 0) (St.mk [] []) ∧ (m.kind == 6) = false ∧ di 0 = di 0) = _) ?_
  exact ⟨chk_spec m hm.ok, by rw [hm.kind]; rfl, rfl⟩
noncomputable abbrev fSChk : Func := Tryz.f100
noncomputable def cSChk : Code := fSChk.body.getD .skip
theorem schk_spec (m : Mod) (hm : PlC m) (c : Val) (hc : CfgOK m c) : FSpec PP 100 [dMod m, dV c] σ0 (di 0) σ0 := by
  refine spec_vc mixed fSChk cSChk (by kernel_rfl) (by kernel_rfl) (by kernel_rfl) (by kernel_rfl) 15 (by kernel_rfl) [2, 3] (.c (di 0) <| .c (db true) .r) ?_
  refine via (by kernel_rfl : (FSpec PP 165 [D.v (vMod m)] (St.mk [] []) (di 0) (St.mk [] []) ∧ FSpec PP 61 [D.v (vMod m), D.v (vVal c)] (St.mk [] []) (db true) (St.mk [] []) ∧ di 0 = di 0) = _) ?_
  have hsz := hc.size hm
  have h1 := mval_spec m hm.ok c (by omega)
  rw [hc.valid hm] at h1
  exact ⟨stp1_spec m hm, h1, rfl⟩
noncomputable abbrev fSQt : Func := Tryz.f166
noncomputable def cSQt : Code := fSQt.body.getD .skip
theorem sqt_spec (m : Mod) (hm : PlC m) (c : Val) : FSpec PP 166 [dMod m, dV c] σ0 (dVs []) σ0 := by
  refine spec_vc mixed fSQt cSQt (by kernel_rfl) (by kernel_rfl) (by kernel_rfl) (by kernel_rfl) 31 (by kernel_rfl) [2, 3] (.f <| .f <| .f .r) ?_
  refine via (by kernel_rfl : ((m.kind == 2) = false ∧ (m.kind == 3) = false ∧ (m.kind == 5) = false ∧ D.v (V.list []) = dVs []) = _) ?_
  exact ⟨by rw [hm.kind]; rfl, by rw [hm.kind]; rfl, by rw [hm.kind]; rfl, rfl⟩
noncomputable abbrev fSSng : Func := Tryz.f167
noncomputable def cSSng : Code := fSSng.body.getD .skip
theorem ssng_spec (p : Val × Int) : FSpec PP 167 [dV p.1, di p.2] σ0 (dLP (oneP p)) σ0 := by
  refine spec_vc mixed fSSng cSSng (by kernel_rfl) (by kernel_rfl) (by kernel_rfl) (by kernel_rfl) 14 (by kernel_rfl) [2] (.b .r (.b .r .r)) ?_
  refine via (by kernel_rfl : (((p.snd == 0) = true → D.tup [D.v (V.list [vVal p.fst]), di 0] = dLP (oneP p)) ∧ ((p.snd == 0) = false → ((p.snd == 18) = true → D.tup [D.v (V.list []), di 0] = dLP (oneP p)) ∧ ((p.snd == 18) = false → D.tup [D.v (V.list []), di p.snd] = dLP (oneP p)))) = _) ?_
  refine ⟨fun h => ?_, fun h => ⟨fun h1 => ?_, fun h1 => ?_⟩⟩
  · have h : p.2 = 0 := by simpa using h
    rw [oneP, if_neg (by rw [h]; decide), if_neg (by rw [h]; decide)]
    show D.tup [.v (.list [vVal p.1]), di 0] = _
    rw [← enc_eq]; rfl
  · rw [oneP, if_pos h1]; rfl
  · have h : p.2 ≠ 0 := by simpa using h
    rw [oneP, if_neg (by rw [h1]; decide), if_pos (by simpa using h)]; rfl
noncomputable abbrev fBhd : Func := Tryz.f101
noncomputable def cBhd : Code := fBhd.body.getD .skip
theorem bhd_q (m : Mod) (hm : PlC m) (c : Val) : FSpec PP 101 [dMod m, di (-1), dV c] σ0 (dLP ([], 0)) σ0 := by
  refine spec_vc mixed fBhd cBhd (by kernel_rfl) (by kernel_rfl) (by kernel_rfl) (by kernel_rfl) 56 (by kernel_rfl) [3, 5] (.c (dVs []) .r) ?_
  refine via (by kernel_rfl : (FSpec PP 166 [D.v (vMod m), D.v (vVal c)] (St.mk [] []) (dVs []) (St.mk [] []) ∧ D.tup [D.v (vVs []), di 0] = dLP ([], 0)) = _) ?_
  exact ⟨sqt_spec m hm c, rfl⟩
theorem bhd_r (m : Mod) (hm : PlC m) (i : Nat) (c : Val) (p : Val × Int) (hp : FSpec PP 168 [dMod m, di i, dV c] σ0 (dP p) σ0) : FSpec PP 101 [dMod m, di i, dV c] σ0 (dLP (oneP p)) σ0 := by
  refine spec_vc mixed fBhd cBhd (by kernel_rfl) (by kernel_rfl) (by kernel_rfl) (by kernel_rfl) 56 (by kernel_rfl) [3, 5] (.f <| .t <| .c (dP p) <| .c (dLP (oneP p)) .r) ?_
  refine via (by kernel_rfl : (((↑i : Int) == -1) = false ∧ (m.kind == 1) = true ∧ FSpec PP 168 [D.v (vMod m), di (↑i : Int), D.v (vVal c)] (St.mk [] []) (dP p) (St.mk [] []) ∧ FSpec PP 167 [D.v (vVal p.fst), di p.snd] (St.mk [] []) (dLP (oneP p)) (St.mk [] []) ∧ D.tup [D.v (vVs (oneP p).fst), di (oneP p).snd] = dLP (oneP p)) = _) ?_
  exact ⟨beq_eq_false_iff_ne.2 (by omega), by rw [hm.kind]; rfl, hp, ssng_spec p, rfl⟩
theorem bhd_spec (m : Mod) (hm : PlC m) (c : Val) (hc : CfgOK m c) (i : Int) (h1 : -1 ≤ i) (h2 : i < m.rules.length) : FSpec PP 101 [dMod m, di i, dV c] σ0 (dLP (apS m c i)) σ0 := by
  by_cases h0 : i < 0
  · have : i = -1 := by omega
    subst this
    exact bhd_q m hm c
  · obtain ⟨k, rfl⟩ : ∃ k : Nat, i = k := ⟨i.toNat, by omega⟩
    have hr : m.rules[k]? = some m.rules[k] := List.getElem?_eq_getElem (show k < m.rules.length by omega)
    rw [apS, if_neg h0, show ((k : Nat) : Int).toNat = k by omega, hr]
    exact bhd_r m hm k c _ (cap_spec m hm k _ hr c hc)
noncomputable abbrev fSAll : Func := Tryz.f65
noncomputable def cSAll : Code := fSAll.body.getD .skip
theorem sall_in (m : Mod) (c : Val) (rl : Int) (hr1 : -1 ≤ rl) (hr2 : rl ≤ 1000) (l : List Val) (hl0 : l.length ≤ 1000) (p : List Stp × Int) (fin : List Stp) (hf : fin.length ≤ 100000)
    (hout : Rn PP fSAll 0 (dSP p) σ0 ([.lp (sub cSAll [1, 1, 1, 0, 1, 0, 0]), .blk 0, .code (sub cSAll [1, 1, 1, 1])] ++ []) (mkE 53 [(2, .v (.ref (vMod m))), (3, .v (.ref (vVal c))), (7, accP fin), (8, di (rl + 1))]) (ownP fin)) (n : Nat) : ∀ (k : Nat) (xs : List Stp), l.length - k = n → xs ++ (l.drop k).map (fun v => (rl, v)) = fin →
    Rn PP fSAll 0 (dSP p) σ0 ([.lp (sub cSAll [1, 1, 1, 0, 1, 0, 0, 1, 0, 0, 1, 1, 1, 0, 0]), .blk 2, .blk 1, .code (sub cSAll [1, 1, 1, 0, 1, 0, 0, 1, 1]), .lp (sub cSAll [1, 1, 1, 0, 1, 0, 0]), .blk 0, .code (sub cSAll [1, 1, 1, 1])] ++ []) (mkE 53 [(2, .v (.ref (vMod m))), (3, .v (.ref (vVal c))), (7, accP xs), (8, di rl), (36, dVs l), (37, di l.length), (38, di k)]) (ownP xs) := by
  induction n with
  | zero =>
    intro k xs hn hx
    rw [List.drop_of_length_le (by omega), List.map_nil, List.append_nil] at hx
    subst hx
    refine loop_vc mixed 53 [2, 3] (.f <| .l [ke 2, ke 3, ke 7, ch 8 (di (rl + 1))]) ?_
    refine via (by kernel_rfl : (decide ((↑k : Int) < (↑(List.length l) : Int)) = false ∧ di (IntKind.wrap IntKind.i64 (rl + 1)) = di (rl + 1) ∧ Nv.It (RunC (CN 0) PP (fun env σ1 => ResOK PP fSAll env σ1 (dSP p) σ0) [KI.lp (sub cSAll [1, 1, 1, 0, 1, 0, 0]), KI.blk 0, KI.code (sub cSAll [1, 1, 1, 1])] (mkE 53 [(2, D.v (V.ref (vMod m))), (3, D.v (V.ref (vVal c))), (7, D.acc 1 (List.map vSt xs)), (8, di (rl + 1))]) (ownP xs))) = _) ?_
    exact ⟨decide_eq_false (by omega), by rw [wrap_id (by omega) (by omega)], ⟨hout⟩⟩
  | succ n ih =>
    intro k xs hn hx
    have hk : k < l.length := by omega
    have hv : l[k]? = some l[k] := List.getElem?_eq_getElem hk
    rw [List.drop_eq_getElem_cons hk] at hx
    generalize l[k] = v at hv hx
    have hlen := congrArg List.length hx
    simp only [List.length_append, List.length_map, List.length_cons, List.length_drop] at hlen
    refine loop_vc mixed 53 [2, 3] (.t <| .h (.xs (vVal v)) <| .ls [ke 2, ke 3, ch 7 (accP (xs ++ [(rl, v)])), ke 8, ke 36, ke 37, ch 38 (di (k + 1 : Nat))] (ownP (xs ++ [(rl, v)]))) ?_
    refine via (by kernel_rfl : (decide ((↑k : Int) < (↑(List.length l) : Int)) = true ∧ 2 = 2 ∧ 0 ≤ (↑k : Int) ∧ (List.map eV l)[Int.toNat (↑k : Int)]? = some (vVal v) ∧ List.map vSt xs = List.map vSt xs ∧ LenOK (List.length (List.map vSt xs) + List.length (V.agg (V.int IntKind.i64 rl :: vi (Val.n v) :: vVs (Val.kids v) :: nV) :: nV)) 40 ∧ D.acc 1 (List.map vSt xs ++ [V.agg [vi rl, vi (Val.n v), vVs (Val.kids v)]]) = accP (xs ++ [(rl, v)]) ∧ di (IntKind.wrap IntKind.i64 ((↑k : Int) + 1)) = di (↑(k + 1) : Int) ∧ [(1, 3, List.map vSt xs ++ V.agg (vi rl :: vi (Val.n v) :: vVs (Val.kids v) :: nV) :: nV)] = [(1, 3, List.map vSt (xs ++ [(rl, v)]))] ∧ Nv.It (RunC (CN 0) PP (fun env σ1 => ResOK PP fSAll env σ1 (dSP p) σ0) [KI.lp (sub cSAll [1, 1, 1, 0, 1, 0, 0, 1, 0, 0, 1, 1, 1, 0, 0]), KI.blk 2, KI.blk 1, KI.code (sub cSAll [1, 1, 1, 0, 1, 0, 0, 1, 1]), KI.lp (sub cSAll [1, 1, 1, 0, 1, 0, 0]), KI.blk 0, KI.code (sub cSAll [1, 1, 1, 1])] (mkE 53 [(2, D.v (V.ref (vMod m))), (3, D.v (V.ref (vVal c))), (7, accP (xs ++ [(rl, v)])), (8, di rl), (36, D.v (vVs l)), (37, di (↑(List.length l) : Int)), (38, di (↑(k + 1) : Int))]) (ownP (xs ++ [(rl, v)])))) = _) ?_
    refine ⟨decide_eq_true (by omega), rfl, by omega, idx_val hv, rfl, ⟨?_, ?_⟩, ?_, wrap_succ (by omega), ?_, ⟨ih (k + 1) (xs ++ [(rl, v)]) (by omega) (by rw [← hx]; simp)⟩⟩
    · simp only [List.length_map, List.length_cons, List.length_nil]; omega
    · simp only [List.length_map, List.length_cons, List.length_nil]; omega
    · rw [accP, ← vSt_snoc]
    · rw [← vSt_snoc]
theorem sall_loop (m : Mod) (hm : m.rules.length ≤ 12) (c : Val) (ap : Int → List Val × Int) (hl : ∀ i, (ap i).1.length ≤ 1000) (hap : ∀ i : Int, -1 ≤ i → i < m.rules.length → FSpec PP 101 [dMod m, di i, dV c] σ0 (dLP (ap i)) σ0) (n : Nat) : ∀ (rl : Int) (xs : List Stp), -1 ≤ rl → rl ≤ m.rules.length → (m.rules.length - rl).toNat = n → xs.length ≤ (rl + 1).toNat * 1000 →
    Rn PP fSAll 0 (dSP (allP ap n rl xs)) σ0 ([.lp (sub cSAll [1, 1, 1, 0, 1, 0, 0]), .blk 0, .code (sub cSAll [1, 1, 1, 1])] ++ []) (mkE 53 [(2, .v (.ref (vMod m))), (3, .v (.ref (vVal c))), (7, accP xs), (8, di rl)]) (ownP xs) := by
  induction n with
  | zero =>
    intro rl xs h1 h2 hn hx
    refine loop_vc mixed 53 [2, 3] (.f <| .b .r .r) ?_
    refine via (by kernel_rfl : (decide (rl < (↑(List.length (List.map vRul m.rules)) : Int)) = false ∧ (decide ((↑(List.length (List.map vSt xs)) : Int) > 256) = true → D.tup [D.v (V.list []), di 1] = dSP (allP ap 0 rl xs)) ∧ (decide ((↑(List.length (List.map vSt xs)) : Int) > 256) = false → D.tup [D.v (V.list (List.map vSt xs)), di 0] = dSP (allP ap 0 rl xs))) = _) ?_
    refine ⟨by rw [List.length_map]; exact decide_eq_false (by omega), fun h => ?_, fun h => ?_⟩
    · rw [List.length_map] at h; rw [allP, if_pos h]; rfl
    · rw [List.length_map] at h; rw [allP, if_neg (by rw [h]; decide)]
  | succ n ih =>
    intro rl xs h1 h2 hn hx
    have hp := hap rl h1 (by omega)
    have hi := ih (rl + 1) (xs ++ (ap rl).1.map fun v => (rl, v)) (by omega) (by omega) (by omega) (by have := hl rl; simp only [List.length_append, List.length_map]; omega)
    have hll := hl rl
    rw [allP]
    generalize ap rl = q at *
    refine loop_vc mixed 53 [2, 3] (.t <| .c (dLP q) <| .b .r (.l [ke 2, ke 3, ke 7, ke 8, ke 36, ch 37 (di q.1.length), ch 38 (di (0 : Nat))])) ?_
    refine via (by kernel_rfl : (decide (rl < (↑(List.length (List.map vRul m.rules)) : Int)) = true ∧ FSpec PP 101 [D.v (vMod m), di rl, D.v (vVal c)] (St.mk [] []) (dLP q) (St.mk [] []) ∧ ((q.snd != 0) = true → D.tup [D.v (V.list []), di q.snd] = dSP (if (q.snd != 0) = true then ([], q.snd) else allP ap n (rl + 1) (xs ++ List.map (fun v => (rl, v)) q.fst))) ∧ ((q.snd != 0) = false → di (↑(List.length (List.map eV q.fst)) : Int) = di (↑(List.length q.fst) : Int) ∧ di 0 = di (↑0 : Int) ∧ Nv.It (RunC (CN 0) PP (fun env σ1 => ResOK PP fSAll env σ1 (dSP (if (q.snd != 0) = true then ([], q.snd) else allP ap n (rl + 1) (xs ++ List.map (fun v => (rl, v)) q.fst))) σ0) [KI.lp (sub cSAll [1, 1, 1, 0, 1, 0, 0, 1, 0, 0, 1, 1, 1, 0, 0]), KI.blk 2, KI.blk 1, KI.code (sub cSAll [1, 1, 1, 0, 1, 0, 0, 1, 1]), KI.lp (sub cSAll [1, 1, 1, 0, 1, 0, 0]), KI.blk 0, KI.code (sub cSAll [1, 1, 1, 1])] (mkE 53 [(2, D.v (V.ref (vMod m))), (3, D.v (V.ref (vVal c))), (7, D.acc 1 (List.map vSt xs)), (8, di rl), (36, dVs q.fst), (37, di (↑(List.length q.fst) : Int)), (38, di (↑0 : Int))]) (ownP xs)))) = _) ?_
    refine ⟨by rw [List.length_map]; exact decide_eq_true (by omega), hp, fun h => ?_, fun h => ⟨by rw [List.length_map], rfl, ⟨?_⟩⟩⟩
    · rw [if_pos h]; rfl
    · rw [if_neg (by rw [h]; decide)]
      exact sall_in m c rl h1 (by omega) q.1 hll _ _ (by simp only [List.length_append, List.length_map]; omega) hi _ 0 xs rfl (by simp)
theorem sall_spec (m : Mod) (hm : PlC m) (c : Val) (hc : CfgOK m c) : FSpec PP 65 [dMod m, dV c] σ0 (dSP (stepsM m c)) σ0 := by
  have hp := hm.places
  refine spec_vc mixed fSAll cSAll (by kernel_rfl) (by kernel_rfl) (by kernel_rfl) (by kernel_rfl) 53 (by kernel_rfl) [2, 3] (.c (di 0) <| .h (.q 5 0) <| .h (.nw 7 1 3) <| .ls [ke 2, ke 3, ke 7, ch 8 (di (-1))] (ownP [])) ?_
  refine via (by kernel_rfl : (FSpec PP 100 [D.v (vMod m), D.v (vVal c)] (St.mk [] []) (di 0) (St.mk [] []) ∧ di (-1) = di (-1) ∧ [(1, 3, nV)] = [(1, 3, nV)] ∧ Nv.It (RunC (CN (List.length σ0.H)) PP (fun env σ1 => ResOK PP fSAll env σ1 (dSP (stepsM m c)) σ0) [KI.lp (sub cSAll [1, 1, 1, 0, 1, 0, 0]), KI.blk 0, KI.code (sub cSAll [1, 1, 1, 1])] (mkE 53 [(2, D.v (V.ref (vMod m))), (3, D.v (V.ref (vVal c))), (7, D.acc 1 []), (8, di (-1))]) (ownP []))) = _) ?_
  refine ⟨schk_spec m hm c hc, rfl, rfl, ⟨?_⟩⟩
  exact sall_loop m (by omega) c (apS m c) (fun i => by have := (apS_or hm hc i).2.1; omega) (fun i h1 h2 => bhd_spec m hm c hc i h1 h2) (m.rules.length + 1) (-1) [] (by omega) (by omega) (by omega) (by simp)
end Go.Proofs.YtdfdemnbaiieaaaGreat

namespace Go.Proofs.YtdfdemnbaiieaaaGreat
open Go.Dv Go.Nv
set_option maxRecDepth 20000
theorem sizes_eV (l : List Val) : ∀ y ∈ l.map eV, y.size = 2 := fun y hy => by obtain ⟨v, _, rfl⟩ := List.mem_map.1 hy; exact eV_size v
theorem flatV_cons (v : Val) (l : List Val) : flatV ((v :: l).map eV) = [.v (vi v.n), .v (vVs v.kids)] ++ flatV (l.map eV) := by
  simp only [flatV, List.map_cons, List.flatMap_cons, List.map_append]
  rw [enc_eq]; rfl
theorem flatV_len : ∀ l : List Val, (flatV (l.map eV)).length = l.length * 2
  | [] => rfl
  | v :: l => by rw [flatV_cons, List.length_append, flatV_len l, List.length_cons]; simp; omega
theorem flatV_app (l k : List Val) : flatV ((l ++ k).map eV) = flatV (l.map eV) ++ flatV (k.map eV) := by
  simp only [flatV, List.map_append, List.flatMap_append]
theorem flatV_at {l : List Val} {i : Nat} {x : Val} (h : l[i]? = some x) : ((flatV (l.map eV)).drop (i * 2)).take 2 = [.v (vi x.n), .v (vVs x.kids)] := by
  obtain ⟨hi, rfl⟩ := List.getElem?_eq_some_iff.1 h
  have e : l = l.take i ++ l[i] :: l.drop (i + 1) := by rw [← List.drop_eq_getElem_cons hi, List.take_append_drop]
  conv => lhs; rw [e]
  rw [flatV_app, flatV_cons, List.drop_left' (by rw [flatV_len, List.length_take]; omega)]
  rfl
theorem flatV_put {l : List Val} {i : Nat} {x : Val} (h : l[i]? = some x) : (flatV (l.map eV)).take (i * 2) ++ [.v (vi x.n), .v (vVs x.kids)] ++ (flatV (l.map eV)).drop (i * 2 + 2) = flatV (l.map eV) := by
  rw [← flatV_at h, List.append_assoc]
  conv => rhs; rw [← List.take_append_drop (i * 2) (flatV (l.map eV))]
  rw [List.append_cancel_left_eq, ← List.drop_drop]
  exact List.take_append_drop 2 _
theorem pls_flatV (l : List V) : D.pls (flatV l) = true := pls_map _
theorem okNs_flatV (n : Nat) (ts : List Nat) (l : List V) : D.okNs n ts (flatV l) = true := by
  unfold flatV
  induction l.flatMap V.cellsV with
  | nil => rfl
  | cons x l ih => simp only [List.map_cons, D.okNs, D.okN, ih, Bool.true_and]
noncomputable abbrev fCloV : Func := Tryz.f62
noncomputable def cCloV : Code := fCloV.body.getD .skip
theorem cloV_nil : FSpec PP 62 [dVs []] σ0 (dVs []) σ0 := by
  refine spec_nil (ds := []) (ds' := []) fun a cap => ?_
  cases a with
  | none =>
    refine spec_vc mixed fCloV cCloV (by kernel_rfl) (by kernel_rfl) (by kernel_rfl) (by kernel_rfl) 8 (by kernel_rfl) [] .r ?_
    refine via (by kernel_rfl : (D.v (V.list []) = dVs []) = _) ?_
    rfl
  | some a =>
    refine spec_vc mixed fCloV cCloV (by kernel_rfl) (by kernel_rfl) (by kernel_rfl) (by kernel_rfl) 8 (by kernel_rfl) [] (.a 1 <| .h (.q 3 2) <| .h (.un 6) <| .r) ?_
    refine via (by kernel_rfl : (nV = nV ∧ LenOK 0 32 ∧ D.v (V.list []) = dVs []) = _) ?_
    refine ⟨rfl, ⟨by simp, by simp⟩, ?_⟩
    rfl
theorem cloVA_spec (l : List Val) (hl : l.length ≤ 1000000) (h : l ≠ []) : FSpec PP 62 [dVs l] σ0 (.arr 1 0 l.length) ⟨[none, some (flatV (l.map eV))], []⟩ := by
  refine spec_vc mixed fCloV cCloV (by kernel_rfl) (by kernel_rfl) (by kernel_rfl) (by kernel_rfl) 8 (by kernel_rfl) [] (.h .g <| .h (.q 3 3) <| .h (.ga 7) .ro) ?_
  refine via (by kernel_rfl : (List.map eV l ≠ [] ∧ 0 = 0 ∧ List.map eV l ≠ [] ∧ (∀ (y : V), y ∈ List.map eV l → V.size y = 2) ∧ LenOK (0 + List.length (List.map eV l)) 32 ∧ okH 2 [] [none, some ([] ++ flatV (List.map eV l))] = true ∧ [none, some ([] ++ flatV (List.map eV l))] = [none, some (flatV (List.map eV l))] ∧ D.arr 1 0 (0 + List.length (List.map eV l)) = D.arr 1 0 (List.length l)) = _) ?_
  refine ⟨by simpa using h, rfl, by simpa using h, sizes_eV l, ⟨by simp; omega, by simp; omega⟩, ?_, ?_, ?_⟩
  · simp [okH, okNs_flatV]
  · simp
  · simp
noncomputable abbrev fOwn : Func := Tryz.f36
noncomputable def cOwn : Code := fOwn.body.getD .skip
abbrev stO (l : List Val) : St := ⟨[some [di 0, .v .nils], some (flatV (l.map eV))], []⟩
theorem own_loop (v : Val) (hv : v.size ≤ 1000000) (hk : ∀ x ∈ v.kids, FSpec PP 36 [dV x] σ0 (dV x) σ0) (n : Nat) : ∀ k : Nat, v.kids.length - k = n →
    Rn PP fOwn 0 (dV v) σ0 ([.lp (sub cOwn [1, 1, 0, 1, 0, 0]), .blk 0, .code (sub cOwn [1, 1, 1])] ++ []) (mkE 26 [(1, .v (.ref (vVal v))), (2, .ptr 0 0), (3, .arr 1 0 v.kids.length), (9, .arr 1 0 v.kids.length), (10, di v.kids.length), (11, di k)]) (stO v.kids) := by
  induction n with
  | zero =>
    intro k hn
    refine loop_vc mixed 26 [1] (.f <| .h (.q 7 0) <| .h (.ct 3 (dVs v.kids) ⟨[some [di 0, .v .nils], none], []⟩) .r) ?_
    refine via (by kernel_rfl : (decide ((↑k : Int) < (↑(List.length (Val.kids v)) : Int)) = false ∧ (∀ (e : List D), e[3]? = some (D.arr 1 0 (List.length (Val.kids v))) → ∀ (E : Ent) (g : Gh) (a : Act) (w : World), FI E g (stO (Val.kids v)) e a w → ∃ g', FI E g' (St.mk [some [di 0, D.v V.nils], none] []) (List.set e 3 (dVs (Val.kids v))) a w) ∧ D.v (V.agg [vi (Val.n v), V.list (List.map eV (Val.kids v))]) = dV v) = _) ?_
    exact ⟨decide_eq_false (by omega), fun e he => cv_flz (σ := stO v.kids) (q := 1) (sz := 2) (by decide) (sizes_eV _) (by simp) rfl he, rfl⟩
  | succ n ih =>
    intro k hn
    obtain ⟨x, hx⟩ : ∃ x, v.kids[k]? = some x := ⟨_, List.getElem?_eq_getElem (show k < v.kids.length by omega)⟩
    refine loop_vc mixed 26 [1] (.t <| .m (dV x) <| .c (dV x) <| .h .ww <| .lo [ke 1, ke 2, ke 3, ke 9, ke 10, ch 11 (di (k + 1 : Nat))] (stO v.kids)) ?_
    refine via (by kernel_rfl : (decide ((↑k : Int) < (↑(List.length (Val.kids v)) : Int)) = true ∧ 0 ≤ (↑k : Int) ∧ (↑k : Int) < (↑(List.length (Val.kids v)) : Int) ∧ 0 + Int.toNat (↑k : Int) * 2 + 2 ≤ List.length (flatV (List.map eV (Val.kids v))) ∧ List.take 2 (List.drop (0 + Int.toNat (↑k : Int) * 2) (flatV (List.map eV (Val.kids v)))) = [di (Val.n x), D.v (vVs (Val.kids x))] ∧ FSpec PP 36 [D.v (V.agg [vi (Val.n x), vVs (Val.kids x)])] (St.mk [] []) (dV x) (St.mk [] []) ∧ 0 ≤ (↑k : Int) ∧ (↑k : Int) < (↑(List.length (Val.kids v)) : Int) ∧ 0 + Int.toNat (↑k : Int) * 2 + 2 ≤ List.length (flatV (List.map eV (Val.kids v))) ∧ di (IntKind.wrap IntKind.i64 ((↑k : Int) + 1)) = di (↑(k + 1) : Int) ∧ okH 2 [] [some [di 0, D.v V.nils], some (List.take (0 + Int.toNat (↑k : Int) * 2) (flatV (List.map eV (Val.kids v))) ++ [di (Val.n x), D.v (vVs (Val.kids x))] ++ List.drop (0 + Int.toNat (↑k : Int) * 2 + 2) (flatV (List.map eV (Val.kids v))))] = true ∧ [some [di 0, D.v V.nils], some (List.take (0 + Int.toNat (↑k : Int) * 2) (flatV (List.map eV (Val.kids v))) ++ [di (Val.n x), D.v (vVs (Val.kids x))] ++ List.drop (0 + Int.toNat (↑k : Int) * 2 + 2) (flatV (List.map eV (Val.kids v))))] = [some [di 0, D.v V.nils], some (flatV (List.map eV (Val.kids v)))] ∧ Nv.It (RunC (CN 0) PP (fun env σ1 => ResOK PP fOwn env σ1 (dV v) σ0) [KI.lp (sub cOwn [1, 1, 0, 1, 0, 0]), KI.blk 0, KI.code (sub cOwn [1, 1, 1])] (mkE 26 [(1, D.v (V.ref (vVal v))), (2, D.ptr 0 0), (3, D.arr 1 0 (List.length (Val.kids v))), (9, D.arr 1 0 (List.length (Val.kids v))), (10, di (↑(List.length (Val.kids v)) : Int)), (11, di (↑(k + 1) : Int))]) (stO (Val.kids v)))) = _) ?_
    have hk2 : k < v.kids.length := (List.getElem?_eq_some_iff.1 hx).1
    have e0 : 0 + Int.toNat (k : Int) * 2 = k * 2 := by omega
    have hl : k * 2 + 2 ≤ (flatV (v.kids.map eV)).length := by rw [flatV_len]; omega
    rw [e0]
    refine ⟨decide_eq_true (by omega), by omega, by omega, hl, flatV_at hx, hk x (List.mem_of_getElem? hx), by omega, by omega, hl, wrap_succ (by have := Val.length_le v.kids; have := v.size_eq; omega), ?_, ?_, ⟨ih (k + 1) (by omega)⟩⟩
    · rw [flatV_put hx]; simp [okH, D.okNs, D.okN, okNs_flatV]
    · rw [flatV_put hx]
theorem own_spec (N : Nat) : ∀ v : Val, v.size ≤ N → v.size ≤ 1000000 → FSpec PP 36 [dV v] σ0 (dV v) σ0 := by
  induction N with
  | zero => intro v h; have := v.size_pos; omega
  | succ N ih =>
  intro v hN hv
  have hs := v.size_eq
  have hl := Val.length_le v.kids
  by_cases h : v.kids = []
  · refine spec_vc mixed fOwn cOwn (by kernel_rfl) (by kernel_rfl) (by kernel_rfl) (by kernel_rfl) 26 (by kernel_rfl) [1] (.c (dVs []) <| .n <| .f .r) ?_
    refine via (by kernel_rfl : (FSpec PP 62 [D.v (vVs (Val.kids v))] (St.mk [] []) (dVs []) (St.mk [] []) ∧ decide (0 < (↑(List.length (List.map eV [])) : Int)) = false ∧ D.v (V.agg [vi (Val.n v), V.list []]) = dV v) = _) ?_
    refine ⟨?_, rfl, ?_⟩
    · rw [h]; exact cloV_nil
    · rw [show dV v = D.v (.agg [vi v.n, vVs v.kids]) from rfl, h]; rfl
  · refine spec_vc mixed fOwn cOwn (by kernel_rfl) (by kernel_rfl) (by kernel_rfl) (by kernel_rfl) 26 (by kernel_rfl) [1] (.h (.q 1 2) <| .h (.oc (.arr 1 0 v.kids.length) (stO v.kids)) <| .lo [ke 1, ke 2, ke 3, ke 9, ke 10, ch 11 (di (0 : Nat))] (stO v.kids)) ?_
    refine via (by kernel_rfl : ((∀ (o : Oper) (c : Call) (fo : Operand), o.op = Op.call c → c.callee = Callee.value fo → OpOK PP o [D.v (V.fn 62 [] []), D.v (vVs (Val.kids v))] (St.mk [some [di 0, D.v V.nils]] []) (D.arr 1 0 (List.length (Val.kids v))) (stO (Val.kids v))) ∧ di 0 = di (↑0 : Int) ∧ okH 2 [] [some [di 0, D.v V.nils], some (flatV (List.map eV (Val.kids v)))] = true ∧ [some [di 0, D.v V.nils], some (flatV (List.map eV (Val.kids v)))] = [some [di 0, D.v V.nils], some (flatV (List.map eV (Val.kids v)))] ∧ Nv.It (RunC (CN (List.length σ0.H)) PP (fun env σ1 => ResOK PP fOwn env σ1 (dV v) σ0) [KI.lp (sub cOwn [1, 1, 0, 1, 0, 0]), KI.blk 0, KI.code (sub cOwn [1, 1, 1])] (mkE 26 [(1, D.v (V.ref (vVal v))), (2, D.ptr 0 0), (3, D.arr 1 0 (List.length (Val.kids v))), (9, D.arr 1 0 (List.length (Val.kids v))), (10, di (↑(List.length (Val.kids v)) : Int)), (11, di (↑0 : Int))]) (stO (Val.kids v)))) = _) ?_
    refine ⟨fun o c fo ho hc => ?_, rfl, by simp [okH, D.okNs, D.okN, okNs_flatV], rfl, ⟨own_loop v hv (fun x hx => ?_) _ 0 rfl⟩⟩
    · exact op_call0_arrJ (σ := ⟨[some [di 0, .v .nils]], []⟩) (fs := []) (cs := []) (ds := [dVs v.kids]) ho hc rfl (Hc := [none, some (flatV (v.kids.map eV))]) (j := 1) rfl (pls_flatV _) (cloVA_spec v.kids (by omega) h)
    · have := Val.size_mem hx
      exact ih x (by omega) (by omega)
noncomputable abbrev fAll : Func := Tryz.f41
noncomputable def cAll : Code := fAll.body.getD .skip
abbrev ownV (l : List Val) : St := ⟨[], [(1, 2, l.map eV)]⟩
theorem all_loop (l : List Val) (hl : l.length ≤ 100000) (hs : ∀ v ∈ l, v.size ≤ 1000000) (n : Nat) : ∀ k : Nat, l.length - k = n →
    Rn PP fAll 0 (.acc 1 (l.map eV)) (ownV l) ([.lp (sub cAll [1, 1, 0, 1, 0, 0]), .blk 0, .code (sub cAll [1, 1, 1])] ++ []) (mkE 22 [(3, .acc 1 ((l.take k).map eV)), (9, dVs l), (10, di l.length), (11, di k)]) (ownV (l.take k)) := by
  induction n with
  | zero =>
    intro k hn
    refine loop_vc mixed 22 [] (.f .r) ?_
    refine via (by kernel_rfl : (decide ((↑k : Int) < (↑(List.length l) : Int)) = false ∧ [(1, 2, List.map eV (List.take k l))] = [(1, 2, List.map eV l)] ∧ D.acc 1 (List.map eV (List.take k l)) = D.acc 1 (List.map eV l)) = _) ?_
    rw [List.take_of_length_le (by omega)]
    exact ⟨decide_eq_false (by omega), rfl, rfl⟩
  | succ n ih =>
    intro k hn
    obtain ⟨x, hx⟩ : ∃ x, l[k]? = some x := ⟨_, List.getElem?_eq_getElem (show k < l.length by omega)⟩
    refine loop_vc mixed 22 [] (.t <| .h (.xs (vVal x)) <| .c (dV x) <| .ls [ch 3 (.acc 1 ((l.take (k + 1)).map eV)), ke 9, ke 10, ch 11 (di (k + 1 : Nat))] (ownV (l.take (k + 1)))) ?_
    refine via (by kernel_rfl : (decide ((↑k : Int) < (↑(List.length l) : Int)) = true ∧ 2 = 2 ∧ 0 ≤ (↑k : Int) ∧ (List.map eV l)[Int.toNat (↑k : Int)]? = some (vVal x) ∧ FSpec PP 36 [D.v (V.agg [vi (Val.n x), vVs (Val.kids x)])] (St.mk [] []) (dV x) (St.mk [] []) ∧ List.map eV (List.take k l) = List.map eV (List.take k l) ∧ LenOK (List.length (List.map eV (List.take k l)) + List.length (vVal x :: nV)) 32 ∧ D.acc 1 (List.map eV (List.take k l) ++ [vVal x]) = D.acc 1 (List.map eV (List.take (k + 1) l)) ∧ di (IntKind.wrap IntKind.i64 ((↑k : Int) + 1)) = di (↑(k + 1) : Int) ∧ [(1, 2, List.map eV (List.take k l) ++ vVal x :: nV)] = [(1, 2, List.map eV (List.take (k + 1) l))] ∧ Nv.It (RunC (CN 0) PP (fun env σ1 => ResOK PP fAll env σ1 (D.acc 1 (List.map eV l)) (ownV l)) [KI.lp (sub cAll [1, 1, 0, 1, 0, 0]), KI.blk 0, KI.code (sub cAll [1, 1, 1])] (mkE 22 [(3, D.acc 1 (List.map eV (List.take (k + 1) l))), (9, D.v (vVs l)), (10, di (↑(List.length l) : Int)), (11, di (↑(k + 1) : Int))]) (ownV (List.take (k + 1) l)))) = _) ?_
    have hk := (List.getElem?_eq_some_iff.1 hx).1
    have ht : l.take (k + 1) = l.take k ++ [x] := by rw [List.take_add_one, hx]; rfl
    have hxs := hs x (List.mem_of_getElem? hx)
    refine ⟨decide_eq_true (by omega), rfl, by omega, idx_val hx, own_spec _ x (Nat.le_refl _) hxs, rfl, ⟨?_, ?_⟩, ?_, wrap_succ (by omega), ?_, ⟨ih (k + 1) (by omega)⟩⟩
    · simp only [List.length_map, List.length_take, List.length_cons, List.length_nil]; omega
    · simp only [List.length_map, List.length_take, List.length_cons, List.length_nil]; omega
    · rw [append_val, ← ht]
    · rw [ht, ← append_val]
theorem all_spec (l : List Val) (hl : l.length ≤ 100000) (hs : ∀ v ∈ l, v.size ≤ 1000000) : FSpec PP 41 [dVs l] σ0 (.acc 1 (l.map eV)) (ownV l) := by
  refine spec_vc mixed fAll cAll (by kernel_rfl) (by kernel_rfl) (by kernel_rfl) (by kernel_rfl) 22 (by kernel_rfl) [] (.a 1 <| .ls [ke 3, ke 9, ch 10 (di l.length), ch 11 (di (0 : Nat))] (ownV [])) ?_
  refine via (by kernel_rfl : (iz 0 = 0 ∧ 0 ≤ (↑(List.length (List.map eV l)) : Int) ∧ (32 : Int) * (↑(List.length (List.map eV l)) : Int) ≤ 281474976710656 ∧ (↑(List.length (List.map eV l)) : Int) ≤ 9223372036854775807 ∧ di (↑(List.length (List.map eV l)) : Int) = di (↑(List.length l) : Int) ∧ di 0 = di (↑0 : Int) ∧ [(1, 2, nV)] = [(1, 2, nV)] ∧ Nv.It (RunC (CN (List.length σ0.H)) PP (fun env σ1 => ResOK PP fAll env σ1 (D.acc 1 (List.map eV l)) (ownV l)) [KI.lp (sub cAll [1, 1, 0, 1, 0, 0]), KI.blk 0, KI.code (sub cAll [1, 1, 1])] (mkE 22 [(3, D.acc 1 []), (9, dVs l), (10, di (↑(List.length l) : Int)), (11, di (↑0 : Int))]) (ownV []))) = _) ?_
  refine ⟨rfl, by omega, by rw [List.length_map]; omega, by rw [List.length_map]; omega, by rw [List.length_map], rfl, rfl, ⟨?_⟩⟩
  have := all_loop l hl hs _ 0 rfl
  simpa using this
def zerV (n : Nat) : List D := (List.replicate n [vi 0, V.nils]).flatten.map .v
theorem zerV_len (n : Nat) : (zerV n).length = n * 2 := by rw [zerV, List.length_map, flatten_len]; rfl
theorem zerV_drop (n : Nat) : (zerV (n + 1)).drop 2 = zerV n := rfl
theorem okNs_zerV (n : Nat) (ts : List Nat) (k : Nat) : D.okNs n ts (zerV k) = true := by
  unfold zerV
  induction (List.replicate k [vi 0, V.nils]).flatten with
  | nil => rfl
  | cons x l ih => simp only [List.map_cons, D.okNs, D.okN, ih, Bool.true_and]
theorem okNs_app {n : Nat} {ts : List Nat} : ∀ {a b : List D}, D.okNs n ts a = true → D.okNs n ts b = true → D.okNs n ts (a ++ b) = true
  | [], b, _, h => h
  | x :: a, b, h1, h2 => by
    simp only [List.cons_append, D.okNs, Bool.and_eq_true] at h1 ⊢
    exact ⟨h1.1, okNs_app h1.2 h2⟩
abbrev stZ (l : List Val) (k : Nat) : St := ⟨[some (flatV ((l.take k).map eV) ++ zerV (l.length - k))], []⟩
theorem allA_loop (l : List Val) (hl : l.length ≤ 100000) (hs : ∀ v ∈ l, v.size ≤ 1000000) (n : Nat) : ∀ k : Nat, l.length - k = n → k ≤ l.length →
    Rn PP fAll 0 (.arr 0 0 l.length) ⟨[some (flatV (l.map eV))], []⟩ ([.lp (sub cAll [1, 1, 0, 1, 0, 0]), .blk 0, .code (sub cAll [1, 1, 1])] ++ []) (mkE 22 [(3, .gro 0 k 2), (9, dVs l), (10, di l.length), (11, di k)]) (stZ l k) := by
  induction n with
  | zero =>
    intro k hn hkl
    refine loop_vc mixed 22 [] (.f <| .h (.q 7 0) <| .h (.ga 3) .ro) ?_
    refine via (by kernel_rfl : (decide ((↑k : Int) < (↑(List.length l) : Int)) = false ∧ okH 1 [] [some (flatV (List.map eV (List.take k l)) ++ zerV (List.length l - k))] = true ∧ [some (flatV (List.map eV (List.take k l)) ++ zerV (List.length l - k))] = [some (flatV (List.map eV l))] ∧ D.arr 0 0 k = D.arr 0 0 (List.length l)) = _) ?_
    have e : flatV ((l.take k).map eV) ++ zerV (l.length - k) = flatV (l.map eV) := by
      rw [List.take_of_length_le (by omega), show l.length - k = 0 by omega]; simp [zerV]
    have e2 : k = l.length := by omega
    rw [e]
    exact ⟨decide_eq_false (by omega), Bool.and_eq_true_iff.2 ⟨okNs_flatV 1 [] _, rfl⟩, rfl, by rw [e2]⟩
  | succ n ih =>
    intro k hn hkl
    obtain ⟨x, hx⟩ : ∃ x, l[k]? = some x := ⟨_, List.getElem?_eq_getElem (show k < l.length by omega)⟩
    refine loop_vc mixed 22 [] (.t <| .h (.xs (vVal x)) <| .c (dV x) <| .w <| .lo [ch 3 (.gro 0 (k + 1) 2), ke 9, ke 10, ch 11 (di (k + 1 : Nat))] (stZ l (k + 1))) ?_
    refine via (by kernel_rfl : (decide ((↑k : Int) < (↑(List.length l) : Int)) = true ∧ 2 = 2 ∧ 0 ≤ (↑k : Int) ∧ (List.map eV l)[Int.toNat (↑k : Int)]? = some (vVal x) ∧ FSpec PP 36 [D.v (V.agg [vi (Val.n x), vVs (Val.kids x)])] (St.mk [] []) (dV x) (St.mk [] []) ∧ (k + List.length (vVal x :: nV)) * 2 ≤ List.length (flatV (List.map eV (List.take k l)) ++ zerV (List.length l - k)) ∧ [vVal x] ≠ [] ∧ (∀ (y : V), y ∈ [vVal x] → V.size y = 2) ∧ D.gro 0 (k + List.length (vVal x :: nV)) 2 = D.gro 0 (k + 1) 2 ∧ di (IntKind.wrap IntKind.i64 ((↑k : Int) + 1)) = di (↑(k + 1) : Int) ∧ okH 1 [] [some (List.take (k * 2) (flatV (List.map eV (List.take k l)) ++ zerV (List.length l - k)) ++ [di (Val.n x), D.v (vVs (Val.kids x))] ++ List.drop (k * 2 + List.length (flatV [vVal x])) (flatV (List.map eV (List.take k l)) ++ zerV (List.length l - k)))] = true ∧ [some (List.take (k * 2) (flatV (List.map eV (List.take k l)) ++ zerV (List.length l - k)) ++ [di (Val.n x), D.v (vVs (Val.kids x))] ++ List.drop (k * 2 + List.length (flatV (vVal x :: nV))) (flatV (List.map eV (List.take k l)) ++ zerV (List.length l - k)))] = [some (flatV (List.map eV (List.take (k + 1) l)) ++ zerV (List.length l - (k + 1)))] ∧ Nv.It (RunC (CN 0) PP (fun env σ1 => ResOK PP fAll env σ1 (D.arr 0 0 (List.length l)) (St.mk [some (flatV (List.map eV l))] [])) [KI.lp (sub cAll [1, 1, 0, 1, 0, 0]), KI.blk 0, KI.code (sub cAll [1, 1, 1])] (mkE 22 [(3, D.gro 0 (k + 1) 2), (9, D.v (vVs l)), (10, di (↑(List.length l) : Int)), (11, di (↑(k + 1) : Int))]) (stZ l (k + 1)))) = _) ?_
    have hk := (List.getElem?_eq_some_iff.1 hx).1
    have ht : l.take (k + 1) = l.take k ++ [x] := by rw [List.take_add_one, hx]; rfl
    have hxs := hs x (List.mem_of_getElem? hx)
    have hfl : (flatV ((l.take k).map eV)).length = k * 2 := by rw [flatV_len, List.length_take]; omega
    have e : List.take (k * 2) (flatV ((l.take k).map eV) ++ zerV (l.length - k)) ++ [di x.n, D.v (vVs x.kids)] ++ List.drop (k * 2 + 2) (flatV ((l.take k).map eV) ++ zerV (l.length - k)) = flatV ((l.take (k + 1)).map eV) ++ zerV (l.length - (k + 1)) := by
      rw [List.take_left' hfl, ← List.drop_drop, List.drop_left' hfl, show l.length - k = (l.length - (k + 1)) + 1 by omega, zerV_drop, ht, flatV_app, flatV_cons, List.append_assoc, List.append_assoc]
      rfl
    have e2 : (flatV [vVal x]).length = 2 := rfl
    rw [e2, e]
    refine ⟨decide_eq_true (by omega), rfl, by omega, idx_val hx, own_spec _ x (Nat.le_refl _) hxs, ?_, by simp, fun y hy => by rw [List.mem_singleton.1 hy]; rfl, rfl, wrap_succ (by omega), ?_, ?_, ⟨ih (k + 1) (by omega) (by omega)⟩⟩
    · rw [List.length_append, hfl, zerV_len]; simp; omega
    · simp only [okH, Bool.and_true]; exact okNs_app (okNs_flatV _ _ _) (okNs_zerV _ _ _)
    · rfl
theorem allA_spec (l : List Val) (hl : l.length ≤ 100000) (hs : ∀ v ∈ l, v.size ≤ 1000000) : FSpec PP 41 [dVs l] σ0 (.arr 0 0 l.length) ⟨[some (flatV (l.map eV))], []⟩ := by
  refine spec_vc mixed fAll cAll (by kernel_rfl) (by kernel_rfl) (by kernel_rfl) (by kernel_rfl) 22 (by kernel_rfl) [] (.h .g <| .lo [ke 3, ke 9, ch 10 (di l.length), ch 11 (di (0 : Nat))] (stZ l 0)) ?_
  refine via (by kernel_rfl : (iz 0 = 0 ∧ 0 ≤ (↑(List.length (List.map eV l)) : Int) ∧ (32 : Int) * (↑(List.length (List.map eV l)) : Int) ≤ 281474976710656 ∧ (↑(List.length (List.map eV l)) : Int) ≤ 9223372036854775807 ∧ di (↑(List.length (List.map eV l)) : Int) = di (↑(List.length l) : Int) ∧ di 0 = di (↑0 : Int) ∧ okH 1 [] [some (List.map D.v (List.flatten (List.replicate (Int.toNat (↑(List.length (List.map eV l)) : Int)) [vi 0, V.nils])))] = true ∧ [some (List.map D.v (List.flatten (List.replicate (Int.toNat (↑(List.length (List.map eV l)) : Int)) (vi 0 :: V.nils :: nV))))] = [some ([] ++ zerV (List.length l - 0))] ∧ Nv.It (RunC (CN (List.length σ0.H)) PP (fun env σ1 => ResOK PP fAll env σ1 (D.arr 0 0 (List.length l)) (St.mk [some (flatV (List.map eV l))] [])) [KI.lp (sub cAll [1, 1, 0, 1, 0, 0]), KI.blk 0, KI.code (sub cAll [1, 1, 1])] (mkE 22 [(3, D.gro 0 0 2), (9, dVs l), (10, di (↑(List.length l) : Int)), (11, di (↑0 : Int))]) (stZ l 0))) = _) ?_
  refine ⟨rfl, by omega, by rw [List.length_map]; omega, by rw [List.length_map]; omega, by rw [List.length_map], rfl, ?_, ?_, ⟨allA_loop l hl hs _ 0 rfl (by omega)⟩⟩
  · rw [List.length_map]; exact Bool.and_eq_true_iff.2 ⟨okNs_zerV 1 [] _, rfl⟩
  · rw [List.length_map]; rfl
noncomputable abbrev fSIdx : Func := Tryz.f66
noncomputable def cSIdx : Code := fSIdx.body.getD .skip
noncomputable abbrev fSIdx1 : Func := Tryz.f103
noncomputable def cSIdx1 : Code := fSIdx1.body.getD .skip
theorem sidx1_spec (x v : Val) (hx : x.size ≤ 1000000) : FSpec PP 103 [dV x, .v (.ref (vVal v))] σ0 (db (cmpV x v == 0)) σ0 := by
  refine spec_vc mixed fSIdx1 cSIdx1 (by kernel_rfl) (by kernel_rfl) (by kernel_rfl) (by kernel_rfl) 7 (by kernel_rfl) [2] (.c (db (cmpV x v == 0)) .r) ?_
  refine via (by kernel_rfl : (FSpec PP 38 [D.v (vVal x), D.v (vVal v)] (St.mk [] []) (db (cmpV x v == 0)) (St.mk [] []) ∧ db (cmpV x v == 0) = db (cmpV x v == 0)) = _) ?_
  exact ⟨ssame_spec x v hx, rfl⟩
def idxV (l : List Val) (v : Val) : Int := ixM (fun x => cmpV x v == 0) l 0
theorem sidx_spec (l : List Val) (hl : l.length ≤ 1000000) (hs : ∀ v ∈ l, v.size ≤ 1000000) (v : Val) : FSpec PP 66 [dVs l, dV v] σ0 (di (idxV l v)) σ0 := by
  refine spec_vc mixed fSIdx cSIdx (by kernel_rfl) (by kernel_rfl) (by kernel_rfl) (by kernel_rfl) 8 (by kernel_rfl) [3] (.c (di (idxV l v)) .r) ?_
  refine via (by kernel_rfl : (FSpec PP 102 [D.v (vVs l), D.v (V.fn 103 [] [V.ref (vVal v)])] (St.mk [] []) (di (idxV l v)) (St.mk [] []) ∧ di (idxV l v) = di (idxV l v)) = _) ?_
  exact ⟨ixV_spec _ [] [_] _ l hl fun x hx => sidx1_spec x v (hs x hx), rfl⟩
end Go.Proofs.YtdfdemnbaiieaaaGreat
