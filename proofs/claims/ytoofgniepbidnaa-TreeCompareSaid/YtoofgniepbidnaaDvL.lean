/-
  A region that draws its order: what is shown in the order of the text holds in every order. No program is named here.
-/
import Derived.Test.YtoofgniepbidnaaDvK
import Derived.Orders
namespace Go.Dv

/- WHAT STANDS BEFORE WHAT -/
def maskOf (acc : List Nat) (o : Oper) : Nat := o.after.toList.foldl (fun s e => if Region.binds .any e then s ||| 2 ^ e.on ||| acc.getD e.on 0 else s) 0

def befGo : List Nat → List Oper → List Nat
  | acc, [] => acc
  | acc, o :: os => befGo (acc ++ [maskOf acc o]) os

theorem foldl_mask (acc : List Nat) (i : Nat) : ∀ (es : List Edge) (s : Nat), (es.foldl (fun s e => if Region.binds .any e then s ||| 2 ^ e.on ||| acc.getD e.on 0 else s) s).testBit i = true →
    s.testBit i = true ∨ ∃ e ∈ es, Region.binds .any e = true ∧ (i = e.on ∨ (acc.getD e.on 0).testBit i = true)
  | [], s, h => .inl h
  | e :: es, s, h => by
    simp only [List.foldl_cons] at h
    rcases foldl_mask acc i es _ h with h | ⟨e', he, hb, hi⟩
    · split at h
      · rename_i hb
        simp only [Nat.testBit_or, Bool.or_eq_true] at h
        rcases h with (h | h) | h
        · exact .inl h
        · refine .inr ⟨e, by simp, hb, .inl ?_⟩
          rw [Nat.testBit_two_pow] at h
          simpa using (of_decide_eq_true h).symm
        · exact .inr ⟨e, by simp, hb, .inr h⟩
      · exact .inl h
    · exact .inr ⟨e', by simp [he], hb, hi⟩

/-- listed operations have their predecessors listed -/
def DC (ops : Array Oper) (S : Nat → Bool) : Prop := ∀ i o, ops[i]? = some o → S i = true → ∀ e ∈ o.after, Region.binds .any e = true → S e.on = true

def Good (acc : List Nat) (S : Nat → Bool) : Prop := ∀ j m, acc[j]? = some m → S j = true → ∀ i, m.testBit i = true → S i = true

theorem good_step {acc : List Nat} {S : Nat → Bool} {o : Oper} (hg : Good acc S) (hd : ∀ e ∈ o.after, Region.binds .any e = true → S e.on = true) : ∀ i, (maskOf acc o).testBit i = true → S i = true := by
  intro i hi
  rcases foldl_mask acc i _ _ hi with h | ⟨e, he, hb, h⟩
  · simp at h
  · have hs := hd e (by simpa using he) hb
    rcases h with rfl | h
    · exact hs
    · cases hm : acc[e.on]? with
      | none => simp [List.getD_eq_getElem?_getD, hm] at h
      | some m =>
        rw [List.getD_eq_getElem?_getD, hm] at h
        exact hg e.on m hm hs i h

theorem good_go {ops : Array Oper} {S : Nat → Bool} (hdc : DC ops S) : ∀ (os : List Oper) (acc : List Nat), (∀ k, os[k]? = ops[acc.length + k]?) → Good acc S → Good (befGo acc os) S
  | [], acc, _, hg => hg
  | o :: os, acc, ha, hg => by
    simp only [befGo]
    refine good_go hdc os _ (fun k => ?_) ?_
    · have := ha (k + 1)
      simp only [List.length_append, List.length_singleton]
      rw [show acc.length + 1 + k = acc.length + (k + 1) by omega]
      simpa using this
    · intro j m hj hs i hi
      by_cases hlt : j < acc.length
      · rw [List.getElem?_append_left hlt] at hj
        exact hg j m hj hs i hi
      · have hj' : j = acc.length := by
          have := (List.getElem?_eq_some_iff.1 hj).1
          simp at this; omega
        subst hj'
        rw [List.getElem?_append_right (Nat.le_refl _)] at hj
        simp at hj
        subst hj
        have ho : ops[acc.length]? = some o := by have := ha 0; simpa using this.symm
        exact good_step hg (hdc _ o ho hs) i hi

/-- a prefix of what is reckoned stays -/
theorem befGo_head : ∀ (os : List Oper) (acc : List Nat), ∃ r, befGo acc os = acc ++ r
  | [], acc => ⟨[], by simp [befGo]⟩
  | o :: os, acc => by
    obtain ⟨r, h⟩ := befGo_head os (acc ++ [maskOf acc o])
    exact ⟨maskOf acc o :: r, by simp [befGo, h]⟩

theorem befGo_at : ∀ (os : List Oper) (acc : List Nat) (k : Nat) (o : Oper), os[k]? = some o → ∃ acc', (befGo acc os)[acc.length + k]? = some (maskOf acc' o) ∧ ∃ r, befGo acc os = acc' ++ r
  | [], acc, k, o, h => by simp at h
  | o0 :: os, acc, k, o, h => by
    simp only [befGo]
    cases k with
    | zero =>
      simp at h; subst h
      obtain ⟨r, hr⟩ := befGo_head os (acc ++ [maskOf acc o0])
      refine ⟨acc, ?_, maskOf acc o0 :: r, by rw [hr]; simp⟩
      rw [hr]; simp
    | succ k =>
      simp at h
      obtain ⟨acc', h1, h2⟩ := befGo_at os (acc ++ [maskOf acc o0]) k o h
      refine ⟨acc', ?_, h2⟩
      simp only [List.length_append, List.length_singleton] at h1
      rw [show acc.length + (k + 1) = acc.length + 1 + k by omega]
      exact h1

/-- an operation that is ready has all that stands before it behind it -/
theorem ready_before {ops : Array Oper} {S : Nat → Bool} (hdc : DC ops S) {j : Nat} {o : Oper} (ho : ops[j]? = some o) (hr : ∀ e ∈ o.after, Region.binds .any e = true → S e.on = true) :
    ∀ i, ((befGo [] ops.toList).getD j 0).testBit i = true → S i = true := by
  intro i hi
  obtain ⟨acc', h1, r, h2⟩ := befGo_at ops.toList [] j o (by simpa using ho)
  simp only [List.length_nil, Nat.zero_add] at h1
  rw [List.getD_eq_getElem?_getD, h1] at hi
  have hg := good_go hdc ops.toList [] (fun k => by simp) (fun j m hj => by simp at hj)
  rw [h2] at hg
  exact good_step (acc := acc') (fun j m hj => hg j m (by rw [List.getElem?_append_left (List.getElem?_eq_some_iff.1 hj).1]; exact hj)) hr i hi

theorem listed_before {ops : Array Oper} {S : Nat → Bool} (hdc : DC ops S) {j : Nat} (hs : S j = true) : ∀ i, ((befGo [] ops.toList).getD j 0).testBit i = true → S i = true := by
  intro i hi
  have hg := good_go hdc ops.toList [] (fun k => by simp) (fun j m hj => by simp at hj)
  cases hm : (befGo [] ops.toList)[j]? with
  | none => simp [List.getD_eq_getElem?_getD, hm] at hi
  | some m =>
    rw [List.getD_eq_getElem?_getD, hm] at hi
    exact hg j m hm hs i hi

/- WHAT IS READ AND WRITTEN -/
def readsOf (ops : Array Oper) (o : Oper) : List Tmp :=
  (o.op.operands.toList.filterMap fun | .tmp t => some t | _ => none) ++ (match o.guard with | some (j, _) => ((ops[j]?).bind (·.dst)).toList | none => [])

def confl (ops : Array Oper) (x y : Oper) : Bool :=
  (match x.dst with | some t => (readsOf ops y).contains t || y.dst == some t | none => false) || (match y.dst with | some t => (readsOf ops x).contains t | none => false)

/-- the static conditions: effs says which operations have an effect -/
def regOK (ops : Array Oper) (effs : List Bool) : Bool :=
  let b := befGo [] ops.toList
  (List.range ops.size).all fun j =>
    match ops[j]? with
    | none => false
    | some oj =>
      oj.after.all (fun e => !Region.binds .any e || decide (e.on < j)) &&
      (List.range j).all fun i =>
        match ops[i]? with
        | none => false
        | some oi => !(confl ops oi oj || (effs.getD i false && effs.getD j false)) || (b.getD j 0).testBit i

theorem regOK_edge {ops : Array Oper} {effs : List Bool} (h : regOK ops effs = true) {j : Nat} {o : Oper} (ho : ops[j]? = some o) : ∀ e ∈ o.after, Region.binds .any e = true → e.on < j := by
  intro e he hb
  have hlt : j < ops.size := (Array.getElem?_eq_some_iff.1 ho).1
  have h1 := List.all_eq_true.1 h j (by simpa using hlt)
  simp only [ho, Bool.and_eq_true] at h1
  have h2 := Array.all_eq_true_iff_forall_mem.1 h1.1 e he
  simpa [hb] using h2

theorem regOK_ord {ops : Array Oper} {effs : List Bool} (h : regOK ops effs = true) {i j : Nat} {oi oj : Oper} (hi : ops[i]? = some oi) (hj : ops[j]? = some oj) (hij : i < j) (hc : confl ops oi oj = true ∨ (effs.getD i false = true ∧ effs.getD j false = true)) :
    ((befGo [] ops.toList).getD j 0).testBit i = true := by
  have hlt : j < ops.size := (Array.getElem?_eq_some_iff.1 hj).1
  have h1 := List.all_eq_true.1 h j (by simpa using hlt)
  simp only [hj, Bool.and_eq_true] at h1
  have h2 := List.all_eq_true.1 h1.2 i (by simpa using hij)
  simp only [hi, Bool.or_eq_true, Bool.not_eq_true'] at h2
  rcases h2 with h2 | h2
  · rcases hc with hc | ⟨hc1, hc2⟩
    · simp [hc] at h2
    · simp only [hc1, hc2, Bool.and_self, Bool.or_true] at h2
      exact absurd h2 (by simp)
  · exact h2

/- THE ENVIRONMENT AFTER A SET OF OPERATIONS -/
abbrev It := Option Tmp × D × Bool

def stepE (S : Nat → Bool) (e : List D) (x : It × Nat) : List D := if S x.2 then putD e x.1.1 x.1.2.1 else e
def envS (items : List It) (S : Nat → Bool) (env0 : List D) : List D := (items.zipIdx 0).foldl (stepE S) env0
def stepC (S : Nat → Bool) (c : Nat) (x : It × Nat) : Nat := if S x.2 && x.1.2.2 then c + 1 else c
def cntS (items : List It) (S : Nat → Bool) : Nat := (items.zipIdx 0).foldl (stepC S) 0

theorem putD_get {e : List D} {t : Option Tmp} {d : D} (s : Nat) : (putD e t d)[s]? = if t = some s then (e[s]?).map (fun _ => d) else e[s]? := by
  cases t with
  | none => simp [putD]
  | some t =>
    simp only [putD, List.getElem?_set, Option.some.injEq]
    by_cases h : t = s
    · subst h
      simp only [if_true]
      by_cases hl : t < e.length <;> simp [hl]
    · simp [h]

theorem foldE_agree {S S' : Nat → Bool} {t : Tmp} : ∀ (l : List (It × Nat)) (e e' : List D), (∀ x ∈ l, x.1.1 = some t → S x.2 = S' x.2) → e[t]? = e'[t]? → (l.foldl (stepE S) e)[t]? = (l.foldl (stepE S') e')[t]?
  | [], e, e', _, h => h
  | x :: l, e, e', hl, h => by
    simp only [List.foldl_cons]
    refine foldE_agree l _ _ (fun y hy => hl y (by simp [hy])) ?_
    by_cases hx : x.1.1 = some t
    · have := hl x (by simp) hx
      unfold stepE
      rw [this]
      split
      · simp [putD_get, hx, h]
      · exact h
    · unfold stepE
      have hp : ∀ e : List D, (putD e x.1.1 x.1.2.1)[t]? = e[t]? := fun e => by rw [putD_get, if_neg hx]
      split <;> split <;> simp [hp, h]

theorem foldC_agree {S S' : Nat → Bool} : ∀ (l : List (It × Nat)) (c : Nat), (∀ x ∈ l, x.1.2.2 = true → S x.2 = S' x.2) → l.foldl (stepC S) c = l.foldl (stepC S') c
  | [], c, _ => rfl
  | x :: l, c, hl => by
    simp only [List.foldl_cons]
    have : stepC S c x = stepC S' c x := by
      unfold stepC
      cases hx : x.1.2.2 with
      | false => simp
      | true => rw [hl x (by simp) hx]
    rw [this]
    exact foldC_agree l _ (fun y hy => hl y (by simp [hy]))

theorem foldE_length {S : Nat → Bool} : ∀ (l : List (It × Nat)) (e : List D), (l.foldl (stepE S) e).length = e.length
  | [], e => rfl
  | x :: l, e => by
    simp only [List.foldl_cons]
    rw [foldE_length l]
    unfold stepE
    split
    · cases x.1.1 <;> simp [putD]
    · rfl

theorem mem_zipIdx {items : List It} {x : It × Nat} (h : x ∈ items.zipIdx 0) : items[x.2]? = some x.1 := by
  have := List.mem_zipIdx h
  simp only [Nat.zero_add, Nat.sub_zero, Nat.zero_le, true_and] at this
  obtain ⟨h1, h2⟩ := this
  rw [List.getElem?_eq_getElem h1, h2]

/-- one operation more, the last writer of its slot -/
theorem envS_add {items : List It} {S : Nat → Bool} {env0 : List D} {j : Nat} {it : It} (hj : items[j]? = some it) (hS : S j = false) (hlast : ∀ (i : Nat) (x : It), items[i]? = some x → S i = true → j < i → it.1 = none ∨ x.1 ≠ it.1) :
    envS items (fun i => S i || i == j) env0 = putD (envS items S env0) it.1 it.2.1 := by
  have hjl : j < items.length := (List.getElem?_eq_some_iff.1 hj).1
  have hsplit : items = items.take j ++ it :: items.drop (j + 1) := by
    have : items.drop j = it :: items.drop (j + 1) := by
      rw [List.drop_eq_getElem_cons hjl]
      congr 1
      exact (List.getElem?_eq_some_iff.1 hj).2
    rw [← this, List.take_append_drop]
  have hlen : (items.take j).length = j := by simp; omega
  have hz : items.zipIdx 0 = (items.take j).zipIdx 0 ++ (it, j) :: (items.drop (j + 1)).zipIdx (j + 1) := by
    conv => lhs; rw [hsplit]
    rw [List.zipIdx_append, List.zipIdx_cons, hlen]
    simp
  unfold envS
  rw [hz, List.foldl_append, List.foldl_append, List.foldl_cons, List.foldl_cons]
  have e1 : (items.take j).zipIdx.foldl (stepE fun i => S i || i == j) env0 = (items.take j).zipIdx.foldl (stepE S) env0 := by
    have : ∀ (l : List (It × Nat)) (e : List D), (∀ x ∈ l, x.2 ≠ j) → l.foldl (stepE fun i => S i || i == j) e = l.foldl (stepE S) e := by
      intro l
      induction l with
      | nil => intro e _; rfl
      | cons x l ih =>
        intro e hl
        simp only [List.foldl_cons]
        have hx := hl x (by simp)
        have : stepE (fun i => S i || i == j) e x = stepE S e x := by unfold stepE; simp [hx]
        rw [this]; exact ih _ (fun y hy => hl y (by simp [hy]))
    refine this _ _ (fun x hx => ?_)
    have := (List.mem_zipIdx hx).2.1
    omega
  rw [e1]
  generalize (items.take j).zipIdx.foldl (stepE S) env0 = E
  have s1 : stepE (fun i => S i || i == j) E (it, j) = putD E it.1 it.2.1 := by simp [stepE]
  have s2 : stepE S E (it, j) = E := by simp [stepE, hS]
  rw [s1, s2]
  -- what follows does not touch the slot
  have later : ∀ (l : List (It × Nat)) (e : List D), (∀ x ∈ l, x.2 ≠ j ∧ (S x.2 = true → it.1 = none ∨ x.1.1 ≠ it.1)) → l.foldl (stepE fun i => S i || i == j) (putD e it.1 it.2.1) = putD (l.foldl (stepE S) e) it.1 it.2.1 := by
    intro l
    induction l with
    | nil => intro e _; rfl
    | cons x l ih =>
      intro e hl
      simp only [List.foldl_cons]
      obtain ⟨hx, hd⟩ := hl x (by simp)
      have hh : stepE (fun i => S i || i == j) (putD e it.1 it.2.1) x = putD (stepE S e x) it.1 it.2.1 := by
        unfold stepE
        have hxj : (x.2 == j) = false := by simpa using hx
        simp only [hxj, Bool.or_false]
        split
        · rename_i hs
          rcases hd hs with h | h
          · rw [h]; simp [putD]
          · cases h1 : it.1 with
            | none => simp [putD]
            | some t =>
              cases h2 : x.1.1 with
              | none => simp [putD]
              | some t' =>
                simp only [putD]
                rw [h1, h2] at h
                have hne : t ≠ t' := fun e => h (by rw [e])
                exact List.set_comm _ _ hne
        · rfl
      rw [hh]
      exact ih _ (fun y hy => hl y (by simp [hy]))
  refine later _ _ (fun x hx => ?_)
  have hm := List.mem_zipIdx hx
  refine ⟨by omega, fun hs => hlast x.2 x.1 ?_ hs (by omega)⟩
  have h3 := hm.2.2
  have h4 := hm.2.1
  have h5 := hm.1
  rw [h3, List.getElem_drop]
  rw [List.getElem?_eq_getElem (by simp at h4; omega)]
  congr 2
  omega

theorem cntS_add {items : List It} {S : Nat → Bool} {j : Nat} {it : It} (hj : items[j]? = some it) (hS : S j = false) : cntS items (fun i => S i || i == j) = cntS items S + (if it.2.2 then 1 else 0) := by
  have hjl : j < items.length := (List.getElem?_eq_some_iff.1 hj).1
  have hsplit : items = items.take j ++ it :: items.drop (j + 1) := by
    have : items.drop j = it :: items.drop (j + 1) := by
      rw [List.drop_eq_getElem_cons hjl]
      congr 1
      exact (List.getElem?_eq_some_iff.1 hj).2
    rw [← this, List.take_append_drop]
  have hlen : (items.take j).length = j := by simp; omega
  have hz : items.zipIdx 0 = (items.take j).zipIdx 0 ++ (it, j) :: (items.drop (j + 1)).zipIdx (j + 1) := by
    conv => lhs; rw [hsplit]
    rw [List.zipIdx_append, List.zipIdx_cons, hlen]
    simp
  have same : ∀ (l : List (It × Nat)) (c : Nat), (∀ x ∈ l, x.2 ≠ j) → l.foldl (stepC fun i => S i || i == j) c = l.foldl (stepC S) c := by
    intro l
    induction l with
    | nil => intro c _; rfl
    | cons x l ih =>
      intro c hl
      simp only [List.foldl_cons]
      have hx := hl x (by simp)
      have : stepC (fun i => S i || i == j) c x = stepC S c x := by unfold stepC; simp [hx]
      rw [this]; exact ih _ (fun y hy => hl y (by simp [hy]))
  have shift : ∀ (l : List (It × Nat)) (c d : Nat), l.foldl (stepC S) (c + d) = l.foldl (stepC S) c + d := by
    intro l
    induction l with
    | nil => intro c d; rfl
    | cons x l ih =>
      intro c d
      simp only [List.foldl_cons]
      have : stepC S (c + d) x = stepC S c x + d := by unfold stepC; split <;> omega
      rw [this, ih]
  unfold cntS
  rw [hz, List.foldl_append, List.foldl_append, List.foldl_cons, List.foldl_cons]
  rw [same (items.take j).zipIdx 0 (fun x hx => by have := (List.mem_zipIdx hx).2.1; omega)]
  generalize (items.take j).zipIdx.foldl (stepC S) 0 = c
  have s1 : stepC (fun i => S i || i == j) c (it, j) = c + (if it.2.2 then 1 else 0) := by
    unfold stepC; simp; split <;> rfl
  have s2 : stepC S c (it, j) = c := by simp [stepC, hS]
  rw [s1, s2, same _ _ (fun x hx => by have := (List.mem_zipIdx hx).1; omega), shift]

end Go.Dv
