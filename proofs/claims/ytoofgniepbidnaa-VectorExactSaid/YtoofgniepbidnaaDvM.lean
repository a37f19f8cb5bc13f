/-
  A region that draws its order, continued: the theorem. No program is named here.
-/
import Derived.Test.YtoofgniepbidnaaDvL
namespace Go.Dv

inductive DRun (P : Program) (ops : Array Oper) (sts : List St) : List Oper → List D → Nat → List D → List Bool → List D → Nat → Prop
  | nil {env : List D} {j : Nat} : DRun P ops sts [] env j [] [] env j
  | skip {o : Oper} {rest : List Oper} {env env' : List D} {j j' : Nat} {vals : List D} {effs : List Bool} (hw : wantD env ops o = some false) (h : DRun P ops sts rest (putD env o.dst (.tup [])) j vals effs env' j') :
      DRun P ops sts (o :: rest) env j (.tup [] :: vals) (false :: effs) env' j'
  | quiet {o : Oper} {rest : List Oper} {env env' : List D} {j j' : Nat} {vals : List D} {effs : List Bool} {d : D} (hw : wantD env ops o = some true) (ho : ∀ s ∈ sts, OpOK P o (evDs env o) s d s) (h : DRun P ops sts rest (putD env o.dst d) j vals effs env' j') :
      DRun P ops sts (o :: rest) env j (d :: vals) (false :: effs) env' j'
  | eff {o : Oper} {rest : List Oper} {env env' : List D} {j j' : Nat} {vals : List D} {effs : List Bool} {d : D} {s s' : St} (hw : wantD env ops o = some true) (hs : sts[j]? = some s) (hs' : sts[j + 1]? = some s') (ho : OpOK P o (evDs env o) s d s')
      (h : DRun P ops sts rest (putD env o.dst d) (j + 1) vals effs env' j') : DRun P ops sts (o :: rest) env j (d :: vals) (true :: effs) env' j'

def itemsOf : List Oper → List D → List Bool → List It
  | o :: os, d :: ds, b :: bs => (o.dst, d, b) :: itemsOf os ds bs
  | _, _, _ => []

def envA (items : List It) (env0 : List D) : List D := items.foldl (fun e it => putD e it.1 it.2.1) env0
def cntA (items : List It) : Nat := items.foldl (fun c it => if it.2.2 then c + 1 else c) 0

theorem envA_snoc (items : List It) (it : It) (env0 : List D) : envA (items ++ [it]) env0 = putD (envA items env0) it.1 it.2.1 := by simp [envA]
theorem cntA_snoc (items : List It) (it : It) : cntA (items ++ [it]) = cntA items + if it.2.2 then 1 else 0 := by simp [cntA]; split <;> rfl

def Fact (P : Program) (ops : Array Oper) (sts : List St) (items : List It) (env0 : List D) (i : Nat) (o : Oper) : Prop :=
  ∃ d b, items[i]? = some (o.dst, d, b) ∧
    ((wantD (envA (items.take i) env0) ops o = some false ∧ d = .tup [] ∧ b = false) ∨
     (wantD (envA (items.take i) env0) ops o = some true ∧ b = false ∧ ∀ s ∈ sts, OpOK P o (evDs (envA (items.take i) env0) o) s d s) ∨
     (wantD (envA (items.take i) env0) ops o = some true ∧ b = true ∧ ∃ s s', sts[cntA (items.take i)]? = some s ∧ sts[cntA (items.take i) + 1]? = some s' ∧ OpOK P o (evDs (envA (items.take i) env0) o) s d s'))

theorem DRun.facts {P : Program} {ops : Array Oper} {sts : List St} {rest : List Oper} {env env' : List D} {j j' : Nat} {vals : List D} {effs : List Bool} (h : DRun P ops sts rest env j vals effs env' j') :
    ∀ (pre : List It) (env0 : List D), env = envA pre env0 → j = cntA pre →
      (∀ k o, rest[k]? = some o → Fact P ops sts (pre ++ itemsOf rest vals effs) env0 (pre.length + k) o) ∧ env' = envA (pre ++ itemsOf rest vals effs) env0 ∧ j' = cntA (pre ++ itemsOf rest vals effs) ∧ (itemsOf rest vals effs).length = rest.length ∧ effs = (itemsOf rest vals effs).map (·.2.2) := by
  induction h with
  | nil => intro pre env0 he hj; simp [itemsOf, he, hj]
  | @skip o rest env env' j j' vals effs hw h ih =>
    intro pre env0 he hj
    obtain ⟨f1, f2, f3, f4, f5⟩ := ih (pre ++ [(o.dst, .tup [], false)]) env0 (by rw [envA_snoc, he]) (by rw [cntA_snoc, hj]; simp)
    have hap : pre ++ [(o.dst, D.tup [], false)] ++ itemsOf rest vals effs = pre ++ itemsOf (o :: rest) (.tup [] :: vals) (false :: effs) := by simp [itemsOf]
    rw [hap] at f1 f2 f3
    refine ⟨fun k o' hk => ?_, f2, f3, by simp [itemsOf, f4], by simp only [itemsOf, List.map_cons]; rw [← f5]⟩
    cases k with
    | zero =>
      simp at hk; subst hk
      refine ⟨.tup [], false, by simp [itemsOf], .inl ⟨?_, rfl, rfl⟩⟩
      simp only [Nat.add_zero, List.take_left, ← he]; exact hw
    | succ k =>
      have := f1 k o' (by simpa using hk)
      simp only [List.length_append, List.length_singleton] at this
      rw [show pre.length + (k + 1) = pre.length + 1 + k by omega]; exact this
  | @quiet o rest env env' j j' vals effs d hw ho h ih =>
    intro pre env0 he hj
    obtain ⟨f1, f2, f3, f4, f5⟩ := ih (pre ++ [(o.dst, d, false)]) env0 (by rw [envA_snoc, he]) (by rw [cntA_snoc, hj]; simp)
    have hap : pre ++ [(o.dst, d, false)] ++ itemsOf rest vals effs = pre ++ itemsOf (o :: rest) (d :: vals) (false :: effs) := by simp [itemsOf]
    rw [hap] at f1 f2 f3
    refine ⟨fun k o' hk => ?_, f2, f3, by simp [itemsOf, f4], by simp only [itemsOf, List.map_cons]; rw [← f5]⟩
    cases k with
    | zero =>
      simp at hk; subst hk
      refine ⟨d, false, by simp [itemsOf], .inr (.inl ⟨?_, rfl, ?_⟩)⟩
      · simp only [Nat.add_zero, List.take_left, ← he]; exact hw
      · simp only [Nat.add_zero, List.take_left, ← he]; exact ho
    | succ k =>
      have := f1 k o' (by simpa using hk)
      simp only [List.length_append, List.length_singleton] at this
      rw [show pre.length + (k + 1) = pre.length + 1 + k by omega]; exact this
  | @eff o rest env env' j j' vals effs d s s' hw hs hs' ho h ih =>
    intro pre env0 he hj
    obtain ⟨f1, f2, f3, f4, f5⟩ := ih (pre ++ [(o.dst, d, true)]) env0 (by rw [envA_snoc, he]) (by rw [cntA_snoc, hj]; simp)
    have hap : pre ++ [(o.dst, d, true)] ++ itemsOf rest vals effs = pre ++ itemsOf (o :: rest) (d :: vals) (true :: effs) := by simp [itemsOf]
    rw [hap] at f1 f2 f3
    refine ⟨fun k o' hk => ?_, f2, f3, by simp [itemsOf, f4], by simp only [itemsOf, List.map_cons]; rw [← f5]⟩
    cases k with
    | zero =>
      simp at hk; subst hk
      refine ⟨d, true, by simp [itemsOf], .inr (.inr ⟨?_, rfl, s, s', ?_, ?_, ?_⟩)⟩
      · simp only [Nat.add_zero, List.take_left, ← he]; exact hw
      · simp only [Nat.add_zero, List.take_left, ← hj]; exact hs
      · simp only [Nat.add_zero, List.take_left, ← hj]; exact hs'
      · simp only [Nat.add_zero, List.take_left, ← he]; exact ho
    | succ k =>
      have := f1 k o' (by simpa using hk)
      simp only [List.length_append, List.length_singleton] at this
      rw [show pre.length + (k + 1) = pre.length + 1 + k by omega]; exact this

theorem envS_lt (items : List It) (i : Nat) (env0 : List D) : envS items (fun k => decide (k < i)) env0 = envA (items.take i) env0 := by
  have gen : ∀ (l : List It) (s : Nat) (e : List D), (l.zipIdx s).foldl (stepE fun k => decide (k < i)) e = (l.take (i - s)).foldl (fun e it => putD e it.1 it.2.1) e := by
    intro l
    induction l with
    | nil => intro s e; simp
    | cons x l ih =>
      intro s e
      simp only [List.zipIdx_cons, List.foldl_cons]
      rw [ih]
      by_cases h : s < i
      · rw [show i - s = (i - (s + 1)) + 1 by omega, List.take_succ_cons, List.foldl_cons]
        simp [stepE, h]
      · rw [show i - s = 0 by omega, show i - (s + 1) = 0 by omega]
        simp [stepE, h]
  simpa [envS, envA] using gen items 0 env0

theorem cntS_lt (items : List It) (i : Nat) : cntS items (fun k => decide (k < i)) = cntA (items.take i) := by
  have gen : ∀ (l : List It) (s c : Nat), (l.zipIdx s).foldl (stepC fun k => decide (k < i)) c = (l.take (i - s)).foldl (fun c it => if it.2.2 then c + 1 else c) c := by
    intro l
    induction l with
    | nil => intro s e; simp
    | cons x l ih =>
      intro s e
      simp only [List.zipIdx_cons, List.foldl_cons]
      rw [ih]
      by_cases h : s < i
      · rw [show i - s = (i - (s + 1)) + 1 by omega, List.take_succ_cons, List.foldl_cons]
        simp [stepC, h]
      · rw [show i - s = 0 by omega, show i - (s + 1) = 0 by omega]
        simp [stepC, h]
  simpa [cntS, cntA] using gen items 0 0

theorem evDs_congr {ops : Array Oper} {o : Oper} {env env' : List D} (h : ∀ t ∈ readsOf ops o, env[t]? = env'[t]?) : evDs env o = evDs env' o := by
  unfold evDs
  refine List.map_congr_left fun x hx => ?_
  cases x with
  | tmp t =>
    have := h t (by
      unfold readsOf
      exact List.mem_append.2 (.inl (List.mem_filterMap.2 ⟨.tmp t, hx, rfl⟩)))
    simp [evD, List.getD_eq_getElem?_getD, this]
  | _ => rfl

theorem wantD_congr {ops : Array Oper} {o : Oper} {env env' : List D} (h : ∀ t ∈ readsOf ops o, env[t]? = env'[t]?) : wantD env ops o = wantD env' ops o := by
  unfold wantD
  cases hg : o.guard with
  | none => rfl
  | some p =>
    obtain ⟨j, want⟩ := p
    simp only
    cases hj : (ops[j]?).bind (·.dst) with
    | none => rfl
    | some t =>
      have := h t (by unfold readsOf; rw [hg]; simp [hj])
      simp [this]

section
variable {P : Program} {R : List D → St → Prop} {k : List KI} {env : List D} {σ : St}

theorem wpAny_draw {ops : Array Oper} {sts : List St} {items : List It} {effs : List Bool} {env0 : List D} {Q : Exit → Act → World → Prop} {E : Ent} (hreg : regOK ops effs = true) (hlen : items.length = ops.size) (heff : effs = items.map (·.2.2))
    (hfact : ∀ i o, ops[i]? = some o → Fact P ops sts items env0 i o) (hsts : ∀ c, c ≤ cntA items → ∃ s, sts[c]? = some s)
    (hfin : ∀ g a w, (∃ s, sts[cntA items]? = some s ∧ FI E g s (envA items env0) a w) → Q .normal a w) :
    ∀ (fuel : Nat) (listed : Array Bool) (a : Act) (w : World) (g : Gh) (s : St), listed.size = ops.size → DC ops (fun i => listed.getD i false) →
      ((List.range ops.size).filter fun i => !listed.getD i false).length = fuel →
      sts[cntS items (fun i => listed.getD i false)]? = some s → FI E g s (envS items (fun i => listed.getD i false) env0) a w → wpAny P .any ops Q fuel listed a w := by
  -- nothing is ready: all are listed
  have done_ : ∀ (listed : Array Bool), listed.size = ops.size → Region.ready .any ops listed = [] → ∀ i, i < ops.size → listed.getD i false = true := by
    intro listed hsz hr i
    induction i using Nat.strongRecOn with
    | _ i ih =>
      intro hi
      cases hl : listed.getD i false with
      | true => rfl
      | false =>
        exfalso
        have hmem : i ∈ Region.ready .any ops listed := by
          unfold Region.ready
          rw [List.mem_filter]
          refine ⟨by simpa using hi, ?_⟩
          have ho : ops[i]? = some ops[i] := by simp [hi]
          have hl' : listed.getD i true = false := by
            rw [Array.getD_eq_getD_getElem?] at hl ⊢
            have : listed[i]? = some listed[i] := by simp [hsz, hi]
            rw [this] at hl ⊢; exact hl
          rw [ho]
          simp only [hl', Bool.not_false, Bool.true_and, Option.map_some, Option.getD_some]
          rw [Array.all_eq_true_iff_forall_mem]
          intro e he
          cases hb : Region.binds .any e with
          | false => simp
          | true =>
            have hlt := regOK_edge hreg ho e he hb
            simp [ih e.on hlt (by omega)]
        rw [hr] at hmem
        simp at hmem
  have finish : ∀ (listed : Array Bool) (a : Act) (w : World) (g : Gh) (s : St), listed.size = ops.size → (∀ i, i < ops.size → listed.getD i false = true) → sts[cntS items (fun i => listed.getD i false)]? = some s →
      FI E g s (envS items (fun i => listed.getD i false) env0) a w → Q .normal a w := by
    intro listed a w g s hsz hall hs hf
    have e1 : envS items (fun i => listed.getD i false) env0 = envA items env0 := by
      have := envS_lt items ops.size env0
      rw [List.take_of_length_le (by omega)] at this
      rw [← this]
      apply List.ext_getElem?
      intro t
      refine foldE_agree _ _ _ (fun x hx _ => ?_) rfl
      have hx2 := (List.getElem?_eq_some_iff.1 (mem_zipIdx hx)).1
      rw [hall x.2 (by omega)]; simp; omega
    have e2 : cntS items (fun i => listed.getD i false) = cntA items := by
      have := cntS_lt items ops.size
      rw [List.take_of_length_le (by omega)] at this
      rw [← this]
      refine foldC_agree _ _ (fun x hx _ => ?_)
      have hx2 := (List.getElem?_eq_some_iff.1 (mem_zipIdx hx)).1
      rw [hall x.2 (by omega)]; simp; omega
    rw [e1] at hf
    rw [e2] at hs
    exact hfin g a w ⟨s, hs, hf⟩
  intro fuel
  induction fuel with
  | zero =>
    intro listed a w g s hsz hdc hcount hs hf
    have hall : ∀ i, i < ops.size → listed.getD i false = true := by
      intro i hi
      cases hl : listed.getD i false with
      | true => rfl
      | false =>
        have hm : i ∈ (List.range ops.size).filter fun i => !listed.getD i false := List.mem_filter.2 ⟨by simpa using hi, by simp [hl]⟩
        have hnil := List.eq_nil_of_length_eq_zero hcount
        rw [hnil] at hm
        simp at hm
    refine ⟨?_, finish listed a w g s hsz hall hs hf⟩
    unfold Region.ready
    rw [List.filter_eq_nil_iff]
    intro i hi
    have hi' : i < ops.size := by simpa using hi
    have := hall i hi'
    have ht : listed.getD i true = true := by
      rw [Array.getD_eq_getD_getElem?] at this ⊢
      have h' : listed[i]? = some listed[i] := by simp [hsz, hi']
      rw [h'] at this ⊢; exact this
    simp [ht]
  | succ fuel ih =>
    intro listed a w g s hsz hdc hcount hs hf
    refine ⟨fun hr => finish listed a w g s hsz (done_ listed hsz hr) hs hf, fun i hi => ?_⟩
    -- an operation that is ready
    unfold Region.ready at hi
    rw [List.mem_filter] at hi
    obtain ⟨hi1, hi2⟩ := hi
    have hi' : i < ops.size := by simpa using hi1
    have ho : ops[i]? = some ops[i] := by simp [hi']
    generalize hoo : ops[i] = o at ho
    rw [ho] at hi2
    simp only [Bool.and_eq_true, Bool.not_eq_true', Option.map_some, Option.getD_some] at hi2
    obtain ⟨hnl, hall⟩ := hi2
    have hnl' : listed.getD i false = false := by
      rw [Array.getD_eq_getD_getElem?] at hnl ⊢
      have h' : listed[i]? = some listed[i] := by simp [hsz, hi']
      rw [h'] at hnl ⊢; exact hnl
    have hready : ∀ e ∈ o.after, Region.binds .any e = true → listed.getD e.on false = true := by
      intro e he hb
      have := Array.all_eq_true_iff_forall_mem.1 hall e he
      simpa [hb] using this
    have hpre := ready_before hdc ho hready
    have hpost := fun (j : Nat) (hs : listed.getD j false = true) => listed_before (S := fun i => listed.getD i false) hdc hs
    obtain ⟨d, b, hit, hcase⟩ := hfact i o ho
    have hil : i < items.length := by omega
    -- every other operation that shares a slot is ordered with it
    have opAt : ∀ (k : Nat) (x : It), items[k]? = some x → ∃ ok, ops[k]? = some ok ∧ x.1 = ok.dst := by
      intro k x hk
      have hkl : k < ops.size := by have := (List.getElem?_eq_some_iff.1 hk).1; omega
      have hok : ops[k]? = some ops[k] := by simp [hkl]
      obtain ⟨d', b', h1, _⟩ := hfact k _ hok
      rw [hk] at h1
      simp at h1
      exact ⟨_, hok, by rw [h1]⟩
    have lt_listed : ∀ (k : Nat) (ok : Oper), ops[k]? = some ok → k < i → (confl ops ok o = true ∨ (effs.getD k false = true ∧ effs.getD i false = true)) → listed.getD k false = true :=
      fun k ok hk hlt hc => hpre k (regOK_ord hreg hk ho hlt hc)
    have gt_not : ∀ (k : Nat) (ok : Oper), ops[k]? = some ok → i < k → (confl ops o ok = true ∨ (effs.getD i false = true ∧ effs.getD k false = true)) → listed.getD k false = false := by
      intro k ok hk hlt hc
      cases hl : listed.getD k false with
      | false => rfl
      | true =>
        have := hpost k hl i (regOK_ord hreg ho hk hlt hc)
        simp only [hnl'] at this
        exact absurd this (by simp)
    have agree : ∀ t ∈ readsOf ops o, (envS items (fun i => listed.getD i false) env0)[t]? = (envA (items.take i) env0)[t]? := by
      intro t ht
      rw [← envS_lt]
      refine foldE_agree _ _ _ (fun x hx hxt => ?_) rfl
      have hx2 := mem_zipIdx hx
      obtain ⟨ok, hok, hdst⟩ := opAt x.2 x.1 hx2
      rw [hdst] at hxt
      rcases Nat.lt_trichotomy x.2 i with h | h | h
      · rw [lt_listed x.2 ok hok h (.inl (by unfold confl; simp [hxt, ht]))]; simp [h]
      · rw [h, hnl']; simp
      · rw [gt_not x.2 ok hok h (.inl (by unfold confl; simp [hxt, ht]))]; simp; omega
    have hlast : ∀ (k : Nat) (x : It), items[k]? = some x → listed.getD k false = true → i < k → o.dst = none ∨ x.1 ≠ o.dst := by
      intro k x hk hl hlt
      cases hd : o.dst with
      | none => exact .inl rfl
      | some t =>
        refine .inr fun e => ?_
        obtain ⟨ok, hok, hdst⟩ := opAt k x hk
        have := gt_not k ok hok hlt (.inl (by unfold confl; simp [hd, ← hdst, e]))
        rw [this] at hl
        simp at hl
    have hadd := envS_add (S := fun i => listed.getD i false) (env0 := env0) hit hnl' hlast
    have hcadd := cntS_add (S := fun i => listed.getD i false) hit hnl'
    have hS' : (fun k => (listed.setIfInBounds i true).getD k false) = fun k => listed.getD k false || k == i := by
      funext k
      simp only [Array.getD_eq_getD_getElem?, Array.getElem?_setIfInBounds]
      by_cases hk : i = k
      · subst hk; simp [hsz, hi']
      · simp [hk, Ne.symm hk]
    have hcnt' : ((List.range ops.size).filter fun k => !(listed.setIfInBounds i true).getD k false).length = fuel := by
      have e1 : (List.range ops.size).filter (fun k => !(listed.setIfInBounds i true).getD k false) = ((List.range ops.size).filter fun k => !listed.getD k false).filter (fun k => k != i) := by
        rw [List.filter_filter]
        refine List.filter_congr fun k _ => ?_
        have := congrFun hS' k
        rw [this]
        cases listed.getD k false <;> cases hk : (k == i) <;> simp_all
      rw [e1]
      have hnd : ((List.range ops.size).filter fun k => !listed.getD k false).Nodup := List.filter_sublist.nodup List.nodup_range
      have hm : i ∈ (List.range ops.size).filter fun k => !listed.getD k false := List.mem_filter.2 ⟨hi1, by simp [hnl']⟩
      have hf1 := hnd.erase_eq_filter i
      rw [← hf1, List.length_erase_of_mem hm, hcount]; rfl
    have hdc' : DC ops (fun k => (listed.setIfInBounds i true).getD k false) := by
      rw [hS']
      intro k ok hk hsk e he hb
      simp only [Bool.or_eq_true, beq_iff_eq] at hsk ⊢
      rcases hsk with hsk | rfl
      · exact .inl (hdc k ok hk hsk e he hb)
      · rw [ho] at hk; simp at hk; subst hk
        exact .inl (hready e he hb)
    -- the count of effects so far
    have hcb : b = true → cntS items (fun k => listed.getD k false) = cntA (items.take i) := by
      intro hbt
      rw [← cntS_lt]
      have hei : effs.getD i false = true := by rw [heff, List.getD_eq_getElem?_getD, List.getElem?_map, hit]; simp [hbt]
      refine foldC_agree _ _ (fun x hx hxb => ?_)
      have hx2 := mem_zipIdx hx
      obtain ⟨ok, hok, _⟩ := opAt x.2 x.1 hx2
      have hex : effs.getD x.2 false = true := by rw [heff, List.getD_eq_getElem?_getD, List.getElem?_map, hx2]; simp [hxb]
      rcases Nat.lt_trichotomy x.2 i with h | h | h
      · rw [lt_listed x.2 ok hok h (.inr ⟨hex, hei⟩)]; simp [h]
      · rw [h, hnl']; simp
      · rw [gt_not x.2 ok hok h (.inr ⟨hei, hex⟩)]; simp; omega
    have hw := wantD_congr agree
    have hev := evDs_congr agree
    have next : ∀ (g' : Gh) (a' : Act) (w' : World) (s' : St), sts[cntS items (fun k => (listed.setIfInBounds i true).getD k false)]? = some s' → FI E g' s' (putD (envS items (fun k => listed.getD k false) env0) o.dst d) a' w' → wpAny P .any ops Q fuel (listed.setIfInBounds i true) a' w' := by
      intro g' a' w' s' hs' hf'
      refine ih _ a' w' g' s' (by simp [hsz]) hdc' hcnt' hs' ?_
      rw [hS', hadd]; exact hf'
    unfold wpOp
    rw [ho]
    simp only
    rcases hcase with ⟨hwant, rfl, rfl⟩ | ⟨hwant, rfl, hop⟩ | ⟨hwant, rfl, s1, s2, hs1, hs2, hop⟩
    · rw [if_neg (by rw [wanted_of hf.env (hw.trans hwant)]; simp)]
      refine next g _ w s ?_ (hf.put hf.wi g.le_refl (repD_undef g) o.dst)
      rw [hS', hcadd]; simpa using hs
    · rw [if_pos (wanted_of hf.env (hw.trans hwant))]
      refine .inl ?_
      have hmem : s ∈ sts := List.mem_of_getElem? hs
      rw [← hev] at hop
      refine hop s hmem E g a w _ _ hf.wi (repDs_map hf.env _) fun g' w' u h1 h2 h3 => ?_
      refine next g' _ w' s ?_ (hf.put h1 h2 h3 o.dst)
      rw [hS', hcadd]; simpa using hs
    · rw [if_pos (wanted_of hf.env (hw.trans hwant))]
      refine .inl ?_
      rw [hcb rfl] at hs
      obtain rfl : s = s1 := by rw [hs] at hs1; simpa using hs1
      rw [← hev] at hop
      refine hop E g a w _ _ hf.wi (repDs_map hf.env _) fun g' w' u h1 h2 h3 => ?_
      refine next g' _ w' s2 ?_ (hf.put h1 h2 h3 o.dst)
      rw [hS', hcadd, hcb rfl]; simpa using hs2

/-- A REGION THAT DRAWS ITS ORDER -/
theorem run_draw {id : Nat} {ops : Array Oper} (hm : P.follows .mixedOrders = true) (sts : List St) {vals : List D} {effs : List Bool} {env' : List D} {j' : Nat} {σ' : St} (h0 : sts[0]? = some σ) (hj : sts[j']? = some σ')
    (h : DRun P ops sts ops.toList env 0 vals effs env' j') (hreg : regOK ops effs = true) (hk : Run P R k env' σ') : Run P R (.code (.region id ops true) :: k) env σ := fun E g a w B hfi hB => by
  simp only [KQ]
  obtain ⟨f1, f2, f3, f4, f5⟩ := h.facts [] env (by simp [envA]) (by simp [cntA])
  simp only [List.nil_append, List.length_nil, Nat.zero_add] at f1 f2 f3
  refine wp_region_any hm ?_
  have hS0 : (fun i => (Array.replicate ops.size false).getD i false) = fun _ => false := by
    funext i
    simp only [Array.getD_eq_getD_getElem?, Array.getElem?_replicate]
    split <;> rfl
  have he0 : ∀ (l : List (It × Nat)) (e : List D), l.foldl (stepE fun _ => false) e = e := by
    intro l; induction l with
    | nil => intro e; rfl
    | cons x l ih => intro e; simp only [List.foldl_cons]; rw [show stepE (fun _ => false) e x = e from by simp [stepE]]; exact ih e
  have hc0 : ∀ (l : List (It × Nat)) (c : Nat), l.foldl (stepC fun _ => false) c = c := by
    intro l; induction l with
    | nil => intro e; rfl
    | cons x l ih => intro e; simp only [List.foldl_cons]; rw [show stepC (fun _ => false) e x = e from by simp [stepC]]; exact ih e
  have hfi' : FI E g σ env a { w with drawn := w.drawn + 1 } := ⟨hfi.wi.drew, hfi.env, hfi.defers⟩
  refine wpAny_draw (sts := sts) (items := itemsOf ops.toList vals effs) (effs := effs) (env0 := env) (E := E) hreg (by simpa using f4) f5 (fun i o ho => f1 i o (by simpa using ho)) (fun c hc => ?_) (fun g' a' w' hx => ?_) ops.size _ a _ g σ (by simp) ?_ ?_ ?_ ?_
  · rw [← f3] at hc
    have hlt := (List.getElem?_eq_some_iff.1 hj).1
    exact ⟨sts[c]'(by omega), List.getElem?_eq_getElem _⟩
  · obtain ⟨s, hs, hf⟩ := hx
    rw [← f3, hj] at hs
    simp at hs; subst hs
    rw [← f2] at hf
    exact hk E g' a' w' B hf hB
  · intro i o _ hs
    rw [hS0] at hs
    simp at hs
  · have : (List.range ops.size).filter (fun i => !(Array.replicate ops.size false).getD i false) = List.range ops.size := by
      rw [List.filter_eq_self]
      intro i _
      have := congrFun hS0 i
      rw [this]; rfl
    rw [this]; simp
  · rw [hS0]
    simp only [cntS, hc0]; exact h0
  · rw [hS0]
    simp only [envS, he0]; exact hfi'

end
end Go.Dv
