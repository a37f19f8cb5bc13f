/-
  A region that draws its order, continued: the theorem. No program is named here.
-/
import Derived.Test.YtoofgniepbidnaaDvL
namespace Go.Dv

/-- has it an effect; if not, the count of effects up to which it is known to hold (none: always) -/
abbrev Ef := Bool × Option Nat

/-- must the operation wait for another one? -/
def needs (ops : Array Oper) (i f : Nat) : Bool := ((befGo [] ops.toList).getD i 0).testBit f

inductive DRun (P : Program) (ops : Array Oper) (sts : Bool → List St) (fr : Nat) : List Oper → List D → Nat → List D → List Ef → List D → Nat → Prop
  | nil {env : List D} {j : Nat} : DRun P ops sts fr [] env j [] [] env j
  | skip {o : Oper} {rest : List Oper} {env env' : List D} {j j' : Nat} {vals : List D} {effs : List Ef} (hne : ops.size - (rest.length + 1) ≠ fr) (hw : wantD env ops o = some false) (h : DRun P ops sts fr rest (putD env o.dst (.tup [])) j vals effs env' j') :
      DRun P ops sts fr (o :: rest) env j (.tup [] :: vals) ((false, none) :: effs) env' j'
  | quiet {o : Oper} {rest : List Oper} {env env' : List D} {j j' : Nat} {vals : List D} {effs : List Ef} {d : D} (hne : ops.size - (rest.length + 1) ≠ fr) (hw : wantD env ops o = some true) (ho : ∀ b, ∀ s ∈ sts b, OpOK P o (evDs env o) s d s) (h : DRun P ops sts fr rest (putD env o.dst d) j vals effs env' j') :
      DRun P ops sts fr (o :: rest) env j (d :: vals) ((false, none) :: effs) env' j'
  | eff {o : Oper} {rest : List Oper} {env env' : List D} {j j' : Nat} {vals : List D} {effs : List Ef} {d : D} (hne : ops.size - (rest.length + 1) ≠ fr) (hw : wantD env ops o = some true) (ho : ∀ b s, (sts b)[j]? = some s → (b = false → needs ops (ops.size - (rest.length + 1)) fr = false) → ∃ s', (sts b)[j + 1]? = some s' ∧ OpOK P o (evDs env o) s d s')
      (h : DRun P ops sts fr rest (putD env o.dst d) (j + 1) vals effs env' j') : DRun P ops sts fr (o :: rest) env j (d :: vals) ((true, none) :: effs) env' j'
  | quietW {o : Oper} {rest : List Oper} {env env' : List D} {j j' : Nat} {vals : List D} {effs : List Ef} {d : D} (lim : Nat) (hne : ops.size - (rest.length + 1) ≠ fr) (hw : wantD env ops o = some true) (ho : ∀ (b : Bool) (c : Nat) (s : St), c ≤ lim → (sts b)[c]? = some s → OpOK P o (evDs env o) s d s) (h : DRun P ops sts fr rest (putD env o.dst d) j vals effs env' j') :
      DRun P ops sts fr (o :: rest) env j (d :: vals) ((false, some lim) :: effs) env' j'
  | free {o : Oper} {rest : List Oper} {env env' : List D} {j j' : Nat} {vals : List D} {effs : List Ef} {d : D} (hf : fr = ops.size - (rest.length + 1)) (hw : wantD env ops o = some true) (ho : ∀ (c : Nat) (s : St), (sts false)[c]? = some s → ∃ s', (sts true)[c]? = some s' ∧ OpOK P o (evDs env o) s d s') (h : DRun P ops sts fr rest (putD env o.dst d) j vals effs env' j') :
      DRun P ops sts fr (o :: rest) env j (d :: vals) ((false, none) :: effs) env' j'

def itemsOf : List Oper → List D → List Ef → List It
  | o :: os, d :: ds, b :: bs => (o.dst, d, b.1) :: itemsOf os ds bs
  | _, _, _ => []

def envA (items : List It) (env0 : List D) : List D := items.foldl (fun e it => putD e it.1 it.2.1) env0
def cntA (items : List It) : Nat := items.foldl (fun c it => if it.2.2 then c + 1 else c) 0

theorem envA_snoc (items : List It) (it : It) (env0 : List D) : envA (items ++ [it]) env0 = putD (envA items env0) it.1 it.2.1 := by simp [envA]
theorem cntA_snoc (items : List It) (it : It) : cntA (items ++ [it]) = cntA items + if it.2.2 then 1 else 0 := by simp [cntA]; split <;> rfl

def Fact (P : Program) (ops : Array Oper) (sts : Bool → List St) (fr : Nat) (items : List It) (lims : List Ef) (env0 : List D) (i : Nat) (o : Oper) : Prop :=
  ∃ d b, items[i]? = some (o.dst, d, b) ∧
    ((wantD (envA (items.take i) env0) ops o = some false ∧ d = .tup [] ∧ b = false ∧ i ≠ fr) ∨
     (wantD (envA (items.take i) env0) ops o = some true ∧ b = false ∧ i ≠ fr ∧ ∀ (b : Bool) (c : Nat) (s : St), (sts b)[c]? = some s → (∀ lim, (lims[i]?).bind (·.2) = some lim → c ≤ lim) → OpOK P o (evDs (envA (items.take i) env0) o) s d s) ∨
     (wantD (envA (items.take i) env0) ops o = some true ∧ b = true ∧ i ≠ fr ∧ ∀ bb s, (sts bb)[cntA (items.take i)]? = some s → (bb = false → needs ops i fr = false) → ∃ s', (sts bb)[cntA (items.take i) + 1]? = some s' ∧ OpOK P o (evDs (envA (items.take i) env0) o) s d s') ∨
     (wantD (envA (items.take i) env0) ops o = some true ∧ b = false ∧ i = fr ∧ ∀ (c : Nat) (s : St), (sts false)[c]? = some s → ∃ s', (sts true)[c]? = some s' ∧ OpOK P o (evDs (envA (items.take i) env0) o) s d s'))

theorem DRun.facts {P : Program} {ops : Array Oper} {sts : Bool → List St} {fr : Nat} {rest : List Oper} {env env' : List D} {j j' : Nat} {vals : List D} {effs : List Ef} (h : DRun P ops sts fr rest env j vals effs env' j') :
    ∀ (pre : List It) (pe : List Ef) (env0 : List D), pe.length = pre.length → pre.length + rest.length = ops.size → env = envA pre env0 → j = cntA pre →
      (∀ k o, rest[k]? = some o → Fact P ops sts fr (pre ++ itemsOf rest vals effs) (pe ++ effs) env0 (pre.length + k) o) ∧ env' = envA (pre ++ itemsOf rest vals effs) env0 ∧ j' = cntA (pre ++ itemsOf rest vals effs) ∧ (itemsOf rest vals effs).length = rest.length ∧ effs.map (·.1) = (itemsOf rest vals effs).map (·.2.2) := by
  induction h with
  | nil => intro pre pe env0 hp hl he hj; simp [itemsOf, he, hj]
  | @skip o rest env env' j j' vals effs hne hw h ih =>
    intro pre pe env0 hp hl he hj
    have hidx : ops.size - (rest.length + 1) = pre.length := by simp at hl; omega
    obtain ⟨f1, f2, f3, f4, f5⟩ := ih (pre ++ [(o.dst, D.tup [], false)]) (pe ++ [((false, none) : Ef)]) env0 (by simp [hp]) (by simp at hl ⊢; omega) (by rw [envA_snoc, he]) (by rw [cntA_snoc, hj]; simp)
    have hap : pre ++ [(o.dst, D.tup [], false)] ++ itemsOf rest vals effs = pre ++ itemsOf (o :: rest) (.tup [] :: vals) (((false, none) : Ef) :: effs) := by simp [itemsOf]
    have hap2 : pe ++ [((false, none) : Ef)] ++ effs = pe ++ ((false, none) : Ef) :: effs := by simp
    rw [hap] at f1 f2 f3
    rw [hap2] at f1
    refine ⟨fun k o' hk => ?_, f2, f3, by simp [itemsOf, f4], by simp only [itemsOf, List.map_cons]; rw [← f5]⟩
    cases k with
    | zero =>
      simp at hk; subst hk
      have hat : (pe ++ ((false, none) : Ef) :: effs)[pre.length + 0]? = some ((false, none) : Ef) := by rw [Nat.add_zero, ← hp]; simp
      rw [hidx] at hne
      refine ⟨.tup [], false, by simp [itemsOf], .inl ⟨?_, rfl, rfl, hne⟩⟩
      simp only [Nat.add_zero, List.take_left, ← he]; exact hw
    | succ k =>
      have := f1 k o' (by simpa using hk)
      simp only [List.length_append, List.length_singleton] at this
      rw [show pre.length + (k + 1) = pre.length + 1 + k by omega]; exact this
  | @quiet o rest env env' j j' vals effs d hne hw ho h ih =>
    intro pre pe env0 hp hl he hj
    have hidx : ops.size - (rest.length + 1) = pre.length := by simp at hl; omega
    obtain ⟨f1, f2, f3, f4, f5⟩ := ih (pre ++ [(o.dst, d, false)]) (pe ++ [((false, none) : Ef)]) env0 (by simp [hp]) (by simp at hl ⊢; omega) (by rw [envA_snoc, he]) (by rw [cntA_snoc, hj]; simp)
    have hap : pre ++ [(o.dst, d, false)] ++ itemsOf rest vals effs = pre ++ itemsOf (o :: rest) (d :: vals) (((false, none) : Ef) :: effs) := by simp [itemsOf]
    have hap2 : pe ++ [((false, none) : Ef)] ++ effs = pe ++ ((false, none) : Ef) :: effs := by simp
    rw [hap] at f1 f2 f3
    rw [hap2] at f1
    refine ⟨fun k o' hk => ?_, f2, f3, by simp [itemsOf, f4], by simp only [itemsOf, List.map_cons]; rw [← f5]⟩
    cases k with
    | zero =>
      simp at hk; subst hk
      have hat : (pe ++ ((false, none) : Ef) :: effs)[pre.length + 0]? = some ((false, none) : Ef) := by rw [Nat.add_zero, ← hp]; simp
      rw [hidx] at hne
      refine ⟨d, false, by simp [itemsOf], .inr (.inl ⟨?_, rfl, hne, ?_⟩)⟩
      · simp only [Nat.add_zero, List.take_left, ← he]; exact hw
      · simp only [Nat.add_zero, List.take_left, ← he]; exact fun b c s hs _ => ho b s (List.mem_of_getElem? hs)
    | succ k =>
      have := f1 k o' (by simpa using hk)
      simp only [List.length_append, List.length_singleton] at this
      rw [show pre.length + (k + 1) = pre.length + 1 + k by omega]; exact this
  | @eff o rest env env' j j' vals effs d hne hw ho h ih =>
    intro pre pe env0 hp hl he hj
    have hidx : ops.size - (rest.length + 1) = pre.length := by simp at hl; omega
    obtain ⟨f1, f2, f3, f4, f5⟩ := ih (pre ++ [(o.dst, d, true)]) (pe ++ [((true, none) : Ef)]) env0 (by simp [hp]) (by simp at hl ⊢; omega) (by rw [envA_snoc, he]) (by rw [cntA_snoc, hj]; simp)
    have hap : pre ++ [(o.dst, d, true)] ++ itemsOf rest vals effs = pre ++ itemsOf (o :: rest) (d :: vals) (((true, none) : Ef) :: effs) := by simp [itemsOf]
    have hap2 : pe ++ [((true, none) : Ef)] ++ effs = pe ++ ((true, none) : Ef) :: effs := by simp
    rw [hap] at f1 f2 f3
    rw [hap2] at f1
    refine ⟨fun k o' hk => ?_, f2, f3, by simp [itemsOf, f4], by simp only [itemsOf, List.map_cons]; rw [← f5]⟩
    cases k with
    | zero =>
      simp at hk; subst hk
      have hat : (pe ++ ((true, none) : Ef) :: effs)[pre.length + 0]? = some ((true, none) : Ef) := by rw [Nat.add_zero, ← hp]; simp
      rw [hidx] at hne ho
      refine ⟨d, true, by simp [itemsOf], .inr (.inr (.inl ⟨?_, rfl, hne, ?_⟩))⟩
      · simp only [Nat.add_zero, List.take_left, ← he]; exact hw
      · simp only [Nat.add_zero, List.take_left, ← hj, ← he]; exact ho
    | succ k =>
      have := f1 k o' (by simpa using hk)
      simp only [List.length_append, List.length_singleton] at this
      rw [show pre.length + (k + 1) = pre.length + 1 + k by omega]; exact this
  | @quietW o rest env env' j j' vals effs d lim hne hw ho h ih =>
    intro pre pe env0 hp hl he hj
    have hidx : ops.size - (rest.length + 1) = pre.length := by simp at hl; omega
    obtain ⟨f1, f2, f3, f4, f5⟩ := ih (pre ++ [(o.dst, d, false)]) (pe ++ [((false, some lim) : Ef)]) env0 (by simp [hp]) (by simp at hl ⊢; omega) (by rw [envA_snoc, he]) (by rw [cntA_snoc, hj]; simp)
    have hap : pre ++ [(o.dst, d, false)] ++ itemsOf rest vals effs = pre ++ itemsOf (o :: rest) (d :: vals) (((false, some lim) : Ef) :: effs) := by simp [itemsOf]
    have hap2 : pe ++ [((false, some lim) : Ef)] ++ effs = pe ++ ((false, some lim) : Ef) :: effs := by simp
    rw [hap] at f1 f2 f3
    rw [hap2] at f1
    refine ⟨fun k o' hk => ?_, f2, f3, by simp [itemsOf, f4], by simp only [itemsOf, List.map_cons]; rw [← f5]⟩
    cases k with
    | zero =>
      simp at hk; subst hk
      have hat : (pe ++ ((false, some lim) : Ef) :: effs)[pre.length + 0]? = some ((false, some lim) : Ef) := by rw [Nat.add_zero, ← hp]; simp
      rw [hidx] at hne
      refine ⟨d, false, by simp [itemsOf], .inr (.inl ⟨?_, rfl, hne, ?_⟩)⟩
      · simp only [Nat.add_zero, List.take_left, ← he]; exact hw
      · rw [hat]
        simp only [Nat.add_zero, List.take_left, ← he]
        exact fun b c s hs hc => ho b c s (hc lim rfl) hs
    | succ k =>
      have := f1 k o' (by simpa using hk)
      simp only [List.length_append, List.length_singleton] at this
      rw [show pre.length + (k + 1) = pre.length + 1 + k by omega]; exact this
  | @free o rest env env' j j' vals effs d hf hw ho h ih =>
    intro pre pe env0 hp hl he hj
    have hidx : ops.size - (rest.length + 1) = pre.length := by simp at hl; omega
    obtain ⟨f1, f2, f3, f4, f5⟩ := ih (pre ++ [(o.dst, d, false)]) (pe ++ [((false, none) : Ef)]) env0 (by simp [hp]) (by simp at hl ⊢; omega) (by rw [envA_snoc, he]) (by rw [cntA_snoc, hj]; simp)
    have hap : pre ++ [(o.dst, d, false)] ++ itemsOf rest vals effs = pre ++ itemsOf (o :: rest) (d :: vals) (((false, none) : Ef) :: effs) := by simp [itemsOf]
    have hap2 : pe ++ [((false, none) : Ef)] ++ effs = pe ++ ((false, none) : Ef) :: effs := by simp
    rw [hap] at f1 f2 f3
    rw [hap2] at f1
    refine ⟨fun k o' hk => ?_, f2, f3, by simp [itemsOf, f4], by simp only [itemsOf, List.map_cons]; rw [← f5]⟩
    cases k with
    | zero =>
      simp at hk; subst hk
      have hat : (pe ++ ((false, none) : Ef) :: effs)[pre.length + 0]? = some ((false, none) : Ef) := by rw [Nat.add_zero, ← hp]; simp
      rw [hidx] at hf
      refine ⟨d, false, by simp [itemsOf], .inr (.inr (.inr ⟨?_, rfl, hf.symm, ?_⟩))⟩
      · simp only [Nat.add_zero, List.take_left, ← he]; exact hw
      · simp only [Nat.add_zero, List.take_left, ← he]; exact ho
    | succ k =>
      have := f1 k o' (by simpa using hk)
      simp only [List.length_append, List.length_singleton] at this
      rw [show pre.length + (k + 1) = pre.length + 1 + k by omega]; exact this

theorem envS_lt (items : List It) (i : Nat) (env0 : List D) : envS items (fun k => decide (k < i)) env0 = envA (items.take i) env0 := by
  have gen : ∀ (l : List It) (s : Nat) (e : List D), (l.zipIdx s).foldl (stepE fun k => decide (k < i)) e = (l.take (i - s)).foldl (fun e it => putD e it.1 it.2.1) e := by
    intro l
    induction l with
    | nil => intro s e; simp
    | cons x l ih =>
      intro s e
      simp only [List.zipIdx_cons, List.foldl_cons]
      rw [ih]
      by_cases h : s < i
      · rw [show i - s = (i - (s + 1)) + 1 by omega, List.take_succ_cons, List.foldl_cons]
        simp [stepE, h]
      · rw [show i - s = 0 by omega, show i - (s + 1) = 0 by omega]
        simp [stepE, h]
  simpa [envS, envA] using gen items 0 env0

theorem cntS_lt (items : List It) (i : Nat) : cntS items (fun k => decide (k < i)) = cntA (items.take i) := by
  have gen : ∀ (l : List It) (s c : Nat), (l.zipIdx s).foldl (stepC fun k => decide (k < i)) c = (l.take (i - s)).foldl (fun c it => if it.2.2 then c + 1 else c) c := by
    intro l
    induction l with
    | nil => intro s e; simp
    | cons x l ih =>
      intro s e
      simp only [List.zipIdx_cons, List.foldl_cons]
      rw [ih]
      by_cases h : s < i
      · rw [show i - s = (i - (s + 1)) + 1 by omega, List.take_succ_cons, List.foldl_cons]
        simp [stepC, h]
      · rw [show i - s = 0 by omega, show i - (s + 1) = 0 by omega]
        simp [stepC, h]
  simpa [cntS, cntA] using gen items 0 0

theorem cntA_count (l : List It) : cntA l = (l.map (·.2.2)).count true := by
  have gen : ∀ (l : List It) (c : Nat), l.foldl (fun c it => if it.2.2 then c + 1 else c) c = c + (l.map (·.2.2)).count true := by
    intro l
    induction l with
    | nil => intro c; simp
    | cons x l ih =>
      intro c
      simp only [List.foldl_cons, List.map_cons]
      rw [ih]
      cases x.2.2 <;> simp <;> omega
  simpa [cntA] using gen l 0
theorem cntS_le {items : List It} {S S' : Nat → Bool} (h : ∀ (k : Nat) (x : It), items[k]? = some x → x.2.2 = true → S k = true → S' k = true) : cntS items S ≤ cntS items S' := by
  have gen : ∀ (l : List (It × Nat)) (c c' : Nat), (∀ x ∈ l, x.1.2.2 = true → S x.2 = true → S' x.2 = true) → c ≤ c' → l.foldl (stepC S) c ≤ l.foldl (stepC S') c' := by
    intro l
    induction l with
    | nil => intro c c' _ hc; exact hc
    | cons x l ih =>
      intro c c' hl hc
      simp only [List.foldl_cons]
      refine ih _ _ (fun y hy => hl y (List.mem_cons_of_mem _ hy)) ?_
      have := hl x List.mem_cons_self
      unfold stepC
      cases hx : x.1.2.2 <;> cases hs : S x.2 <;> cases hs' : S' x.2 <;> simp_all <;> omega
  exact gen _ 0 0 (fun x hx => h x.2 x.1 (mem_zipIdx hx)) (Nat.le_refl _)

/-- what is known to hold up to a count of effects is run before the next effect -/
def winOK (ops : Array Oper) (lims : List Ef) : Bool :=
  (List.range lims.length).all fun i =>
    match (lims[i]?).bind (·.2) with
    | none => true
    | some lim => (List.range lims.length).any fun e => (lims.map (·.1)).getD e false && decide (((lims.map (·.1)).take e).count true = lim) && ((befGo [] ops.toList).getD e 0).testBit i
def drawOK (ops : Array Oper) (lims : List Ef) : Bool := regOK ops (lims.map (·.1)) && winOK ops lims

theorem evDs_congr {ops : Array Oper} {o : Oper} {env env' : List D} (h : ∀ t ∈ readsOf ops o, env[t]? = env'[t]?) : evDs env o = evDs env' o := by
  unfold evDs
  refine List.map_congr_left fun x hx => ?_
  cases x with
  | tmp t =>
    have := h t (by
      unfold readsOf
      exact List.mem_append.2 (.inl (List.mem_filterMap.2 ⟨.tmp t, hx, rfl⟩)))
    simp [evD, List.getD_eq_getElem?_getD, this]
  | _ => rfl

theorem wantD_congr {ops : Array Oper} {o : Oper} {env env' : List D} (h : ∀ t ∈ readsOf ops o, env[t]? = env'[t]?) : wantD env ops o = wantD env' ops o := by
  unfold wantD
  cases hg : o.guard with
  | none => rfl
  | some p =>
    obtain ⟨j, want⟩ := p
    simp only
    cases hj : (ops[j]?).bind (·.dst) with
    | none => rfl
    | some t =>
      have := h t (by unfold readsOf; rw [hg]; simp [hj])
      simp [this]

section
variable {C : Ent → Prop} {P : Program} {R : List D → St → Prop} {k : List KI} {env : List D} {σ : St}

theorem wpAny_draw {ops : Array Oper} {sts : Bool → List St} {fr : Nat} {items : List It} {effs : List Bool} {lims : List Ef} {env0 : List D} {Q : Exit → Act → World → Prop} {E : Ent} (hreg : regOK ops effs = true) (hwin : winOK ops lims = true) (hle : effs = lims.map (·.1)) (hlen : items.length = ops.size) (heff : effs = items.map (·.2.2))
    (hfact : ∀ i o, ops[i]? = some o → Fact P ops sts fr items lims env0 i o)
    (hfin : ∀ g a w, (∃ s, (sts (decide (fr < ops.size)))[cntA items]? = some s ∧ FI E g s (envA items env0) a w) → Q .normal a w) :
    ∀ (fuel : Nat) (listed : Array Bool) (a : Act) (w : World) (g : Gh) (s : St), listed.size = ops.size → DC ops (fun i => listed.getD i false) →
      ((List.range ops.size).filter fun i => !listed.getD i false).length = fuel →
      (sts (listed.getD fr false))[cntS items (fun i => listed.getD i false)]? = some s → FI E g s (envS items (fun i => listed.getD i false) env0) a w → wpAny P .any ops Q fuel listed a w := by
  -- nothing is ready: all are listed
  have done_ : ∀ (listed : Array Bool), listed.size = ops.size → Region.ready .any ops listed = [] → ∀ i, i < ops.size → listed.getD i false = true := by
    intro listed hsz hr i
    induction i using Nat.strongRecOn with
    | _ i ih =>
      intro hi
      cases hl : listed.getD i false with
      | true => rfl
      | false =>
        exfalso
        have hmem : i ∈ Region.ready .any ops listed := by
          unfold Region.ready
          rw [List.mem_filter]
          refine ⟨by simpa using hi, ?_⟩
          have ho : ops[i]? = some ops[i] := by simp [hi]
          have hl' : listed.getD i true = false := by
            rw [Array.getD_eq_getD_getElem?] at hl ⊢
            have : listed[i]? = some listed[i] := by simp [hsz, hi]
            rw [this] at hl ⊢; exact hl
          rw [ho]
          simp only [hl', Bool.not_false, Bool.true_and, Option.map_some, Option.getD_some]
          rw [Array.all_eq_true_iff_forall_mem]
          intro e he
          cases hb : Region.binds .any e with
          | false => simp
          | true =>
            have hlt := regOK_edge hreg ho e he hb
            simp [ih e.on hlt (by omega)]
        rw [hr] at hmem
        simp at hmem
  have finish : ∀ (listed : Array Bool) (a : Act) (w : World) (g : Gh) (s : St), listed.size = ops.size → (∀ i, i < ops.size → listed.getD i false = true) → (sts (listed.getD fr false))[cntS items (fun i => listed.getD i false)]? = some s →
      FI E g s (envS items (fun i => listed.getD i false) env0) a w → Q .normal a w := by
    intro listed a w g s hsz hall hs hf
    have e1 : envS items (fun i => listed.getD i false) env0 = envA items env0 := by
      have := envS_lt items ops.size env0
      rw [List.take_of_length_le (by omega)] at this
      rw [← this]
      apply List.ext_getElem?
      intro t
      refine foldE_agree _ _ _ (fun x hx _ => ?_) rfl
      have hx2 := (List.getElem?_eq_some_iff.1 (mem_zipIdx hx)).1
      rw [hall x.2 (by omega)]; simp; omega
    have e2 : cntS items (fun i => listed.getD i false) = cntA items := by
      have := cntS_lt items ops.size
      rw [List.take_of_length_le (by omega)] at this
      rw [← this]
      refine foldC_agree _ _ (fun x hx _ => ?_)
      have hx2 := (List.getElem?_eq_some_iff.1 (mem_zipIdx hx)).1
      rw [hall x.2 (by omega)]; simp; omega
    have e3 : listed.getD fr false = decide (fr < ops.size) := by
      by_cases hfr : fr < ops.size
      · rw [hall fr hfr]; simp [hfr]
      · rw [Array.getD_eq_getD_getElem?, Array.getElem?_eq_none (by omega)]; simp [hfr]
    rw [e1] at hf
    rw [e2, e3] at hs
    exact hfin g a w ⟨s, hs, hf⟩
  intro fuel
  induction fuel with
  | zero =>
    intro listed a w g s hsz hdc hcount hs hf
    have hall : ∀ i, i < ops.size → listed.getD i false = true := by
      intro i hi
      cases hl : listed.getD i false with
      | true => rfl
      | false =>
        have hm : i ∈ (List.range ops.size).filter fun i => !listed.getD i false := List.mem_filter.2 ⟨by simpa using hi, by simp [hl]⟩
        have hnil := List.eq_nil_of_length_eq_zero hcount
        rw [hnil] at hm
        simp at hm
    refine ⟨?_, finish listed a w g s hsz hall hs hf⟩
    unfold Region.ready
    rw [List.filter_eq_nil_iff]
    intro i hi
    have hi' : i < ops.size := by simpa using hi
    have := hall i hi'
    have ht : listed.getD i true = true := by
      rw [Array.getD_eq_getD_getElem?] at this ⊢
      have h' : listed[i]? = some listed[i] := by simp [hsz, hi']
      rw [h'] at this ⊢; exact this
    simp [ht]
  | succ fuel ih =>
    intro listed a w g s hsz hdc hcount hs hf
    refine ⟨fun hr => finish listed a w g s hsz (done_ listed hsz hr) hs hf, fun i hi => ?_⟩
    -- an operation that is ready
    unfold Region.ready at hi
    rw [List.mem_filter] at hi
    obtain ⟨hi1, hi2⟩ := hi
    have hi' : i < ops.size := by simpa using hi1
    have ho : ops[i]? = some ops[i] := by simp [hi']
    generalize hoo : ops[i] = o at ho
    rw [ho] at hi2
    simp only [Bool.and_eq_true, Bool.not_eq_true', Option.map_some, Option.getD_some] at hi2
    obtain ⟨hnl, hall⟩ := hi2
    have hnl' : listed.getD i false = false := by
      rw [Array.getD_eq_getD_getElem?] at hnl ⊢
      have h' : listed[i]? = some listed[i] := by simp [hsz, hi']
      rw [h'] at hnl ⊢; exact hnl
    have hready : ∀ e ∈ o.after, Region.binds .any e = true → listed.getD e.on false = true := by
      intro e he hb
      have := Array.all_eq_true_iff_forall_mem.1 hall e he
      simpa [hb] using this
    have hpre := ready_before hdc ho hready
    have hpost := fun (j : Nat) (hs : listed.getD j false = true) => listed_before (S := fun i => listed.getD i false) hdc hs
    obtain ⟨d, b, hit, hcase⟩ := hfact i o ho
    have hil : i < items.length := by omega
    -- every other operation that shares a slot is ordered with it
    have opAt : ∀ (k : Nat) (x : It), items[k]? = some x → ∃ ok, ops[k]? = some ok ∧ x.1 = ok.dst := by
      intro k x hk
      have hkl : k < ops.size := by have := (List.getElem?_eq_some_iff.1 hk).1; omega
      have hok : ops[k]? = some ops[k] := by simp [hkl]
      obtain ⟨d', b', h1, _⟩ := hfact k _ hok
      rw [hk] at h1
      simp at h1
      exact ⟨_, hok, by rw [h1]⟩
    have lt_listed : ∀ (k : Nat) (ok : Oper), ops[k]? = some ok → k < i → (confl ops ok o = true ∨ (effs.getD k false = true ∧ effs.getD i false = true)) → listed.getD k false = true :=
      fun k ok hk hlt hc => hpre k (regOK_ord hreg hk ho hlt hc)
    have gt_not : ∀ (k : Nat) (ok : Oper), ops[k]? = some ok → i < k → (confl ops o ok = true ∨ (effs.getD i false = true ∧ effs.getD k false = true)) → listed.getD k false = false := by
      intro k ok hk hlt hc
      cases hl : listed.getD k false with
      | false => rfl
      | true =>
        have := hpost k hl i (regOK_ord hreg ho hk hlt hc)
        simp only [hnl'] at this
        exact absurd this (by simp)
    have agree : ∀ t ∈ readsOf ops o, (envS items (fun i => listed.getD i false) env0)[t]? = (envA (items.take i) env0)[t]? := by
      intro t ht
      rw [← envS_lt]
      refine foldE_agree _ _ _ (fun x hx hxt => ?_) rfl
      have hx2 := mem_zipIdx hx
      obtain ⟨ok, hok, hdst⟩ := opAt x.2 x.1 hx2
      rw [hdst] at hxt
      rcases Nat.lt_trichotomy x.2 i with h | h | h
      · rw [lt_listed x.2 ok hok h (.inl (by unfold confl; simp [hxt, ht]))]; simp [h]
      · rw [h, hnl']; simp
      · rw [gt_not x.2 ok hok h (.inl (by unfold confl; simp [hxt, ht]))]; simp; omega
    have hlast : ∀ (k : Nat) (x : It), items[k]? = some x → listed.getD k false = true → i < k → o.dst = none ∨ x.1 ≠ o.dst := by
      intro k x hk hl hlt
      cases hd : o.dst with
      | none => exact .inl rfl
      | some t =>
        refine .inr fun e => ?_
        obtain ⟨ok, hok, hdst⟩ := opAt k x hk
        have := gt_not k ok hok hlt (.inl (by unfold confl; simp [hd, ← hdst, e]))
        rw [this] at hl
        simp at hl
    have hadd := envS_add (S := fun i => listed.getD i false) (env0 := env0) hit hnl' hlast
    have hcadd := cntS_add (S := fun i => listed.getD i false) hit hnl'
    have hS' : (fun k => (listed.setIfInBounds i true).getD k false) = fun k => listed.getD k false || k == i := by
      funext k
      simp only [Array.getD_eq_getD_getElem?, Array.getElem?_setIfInBounds]
      by_cases hk : i = k
      · subst hk; simp [hsz, hi']
      · simp [hk, Ne.symm hk]
    have hcnt' : ((List.range ops.size).filter fun k => !(listed.setIfInBounds i true).getD k false).length = fuel := by
      have e1 : (List.range ops.size).filter (fun k => !(listed.setIfInBounds i true).getD k false) = ((List.range ops.size).filter fun k => !listed.getD k false).filter (fun k => k != i) := by
        rw [List.filter_filter]
        refine List.filter_congr fun k _ => ?_
        have := congrFun hS' k
        rw [this]
        cases listed.getD k false <;> cases hk : (k == i) <;> simp_all
      rw [e1]
      have hnd : ((List.range ops.size).filter fun k => !listed.getD k false).Nodup := List.filter_sublist.nodup List.nodup_range
      have hm : i ∈ (List.range ops.size).filter fun k => !listed.getD k false := List.mem_filter.2 ⟨hi1, by simp [hnl']⟩
      have hf1 := hnd.erase_eq_filter i
      rw [← hf1, List.length_erase_of_mem hm, hcount]; rfl
    have hdc' : DC ops (fun k => (listed.setIfInBounds i true).getD k false) := by
      rw [hS']
      intro k ok hk hsk e he hb
      simp only [Bool.or_eq_true, beq_iff_eq] at hsk ⊢
      rcases hsk with hsk | rfl
      · exact .inl (hdc k ok hk hsk e he hb)
      · rw [ho] at hk; simp at hk; subst hk
        exact .inl (hready e he hb)
    -- the count of effects so far
    have hcb : b = true → cntS items (fun k => listed.getD k false) = cntA (items.take i) := by
      intro hbt
      rw [← cntS_lt]
      have hei : effs.getD i false = true := by rw [heff, List.getD_eq_getElem?_getD, List.getElem?_map, hit]; simp [hbt]
      refine foldC_agree _ _ (fun x hx hxb => ?_)
      have hx2 := mem_zipIdx hx
      obtain ⟨ok, hok, _⟩ := opAt x.2 x.1 hx2
      have hex : effs.getD x.2 false = true := by rw [heff, List.getD_eq_getElem?_getD, List.getElem?_map, hx2]; simp [hxb]
      rcases Nat.lt_trichotomy x.2 i with h | h | h
      · rw [lt_listed x.2 ok hok h (.inr ⟨hex, hei⟩)]; simp [h]
      · rw [h, hnl']; simp
      · rw [gt_not x.2 ok hok h (.inr ⟨hei, hex⟩)]; simp; omega
    have hw := wantD_congr agree
    have hev := evDs_congr agree
    have next : ∀ (g' : Gh) (a' : Act) (w' : World) (s' : St), (sts ((listed.setIfInBounds i true).getD fr false))[cntS items (fun k => (listed.setIfInBounds i true).getD k false)]? = some s' → FI E g' s' (putD (envS items (fun k => listed.getD k false) env0) o.dst d) a' w' → wpAny P .any ops Q fuel (listed.setIfInBounds i true) a' w' := by
      intro g' a' w' s' hs' hf'
      refine ih _ a' w' g' s' (by simp [hsz]) hdc' hcnt' hs' ?_
      rw [hS', hadd]; exact hf'
    unfold wpOp
    rw [ho]
    simp only
    have hflag : i ≠ fr → (listed.setIfInBounds i true).getD fr false = listed.getD fr false := by
      intro hne
      have := congrFun hS' fr
      rw [this]
      have : (fr == i) = false := by simpa using Ne.symm hne
      rw [this, Bool.or_false]
    rcases hcase with ⟨hwant, rfl, rfl, hne⟩ | ⟨hwant, rfl, hne, hop⟩ | ⟨hwant, rfl, hne, hop⟩ | ⟨hwant, rfl, hfr, hop⟩
    · rw [if_neg (by rw [wanted_of hf.env (hw.trans hwant)]; simp)]
      refine next g _ w s ?_ (hf.put hf.wi g.le_refl (repD_undef g) o.dst)
      rw [hflag hne, hS', hcadd]; simpa using hs
    · rw [if_pos (wanted_of hf.env (hw.trans hwant))]
      refine .inl ?_
      rw [← hev] at hop
      have hlim : ∀ lim, (lims[i]?).bind (·.2) = some lim → cntS items (fun k => listed.getD k false) ≤ lim := by
        intro lim hlm
        have hil2 : i < lims.length := by
          have : lims.length = items.length := by have := congrArg List.length (hle.symm.trans heff); simpa using this
          omega
        have h1 := List.all_eq_true.1 hwin i (by simpa using hil2)
        rw [hlm] at h1
        obtain ⟨e, _, h2⟩ := List.any_eq_true.1 h1
        simp only [Bool.and_eq_true, decide_eq_true_eq, ← hle] at h2
        obtain ⟨⟨h3, h4⟩, h5⟩ := h2
        have hnote : listed.getD e false = false := by
          cases hl : listed.getD e false with
          | false => rfl
          | true => have := hpost e hl i h5; simp only [hnl'] at this; exact absurd this (by simp)
        rw [heff, ← List.map_take, ← cntA_count] at h4
        rw [← h4, ← cntS_lt]
        refine cntS_le fun k x hk hx hS => ?_
        obtain ⟨ok, hok, _⟩ := opAt k x hk
        have hex : effs.getD k false = true := by rw [heff, List.getD_eq_getElem?_getD, List.getElem?_map, hk]; simp [hx]
        rcases Nat.lt_trichotomy k e with h | h | h
        · simp [h]
        · subst h; simp only [hnote] at hS; exact absurd hS (by simp)
        · have hek : e < ops.size := by have := (Array.getElem?_eq_some_iff.1 hok).1; omega
          have := hpost k hS e (regOK_ord hreg (show ops[e]? = some ops[e] by simp [hek]) hok h (.inr ⟨h3, hex⟩))
          simp only [hnote] at this; exact absurd this (by simp)
      refine hop _ _ s hs hlim E g a w _ _ hf.wi (repDs_map hf.env _) fun g' w' u h1 h2 h3 => ?_
      refine next g' _ w' s ?_ (hf.put h1 h2 h3 o.dst)
      rw [hflag hne, hS', hcadd]; simpa using hs
    · rw [if_pos (wanted_of hf.env (hw.trans hwant))]
      refine .inl ?_
      rw [hcb rfl] at hs
      rw [← hev] at hop
      obtain ⟨s2, hs2, hop2⟩ := hop _ s hs (fun hb => by
        cases hn : needs ops i fr with
        | false => rfl
        | true => have := hpre fr hn; rw [hb] at this; exact absurd this (by simp))
      refine hop2 E g a w _ _ hf.wi (repDs_map hf.env _) fun g' w' u h1 h2 h3 => ?_
      refine next g' _ w' s2 ?_ (hf.put h1 h2 h3 o.dst)
      rw [hflag hne, hS', hcadd, hcb rfl]; simpa using hs2
    · rw [if_pos (wanted_of hf.env (hw.trans hwant))]
      refine .inl ?_
      rw [← hfr, hnl'] at hs
      rw [← hev] at hop
      obtain ⟨s2, hs2, hop2⟩ := hop _ s hs
      refine hop2 E g a w _ _ hf.wi (repDs_map hf.env _) fun g' w' u h1 h2 h3 => ?_
      refine next g' _ w' s2 ?_ (hf.put h1 h2 h3 o.dst)
      have hset : (listed.setIfInBounds i true).getD fr false = true := by
        have := congrFun hS' fr
        rw [this, ← hfr]; simp
      rw [hset, hS', hcadd]; simpa using hs2

/-- A REGION THAT DRAWS ITS ORDER -/
theorem run_draw {id : Nat} {ops : Array Oper} (hm : P.follows .mixedOrders = true) (sts : Bool → List St) (fr : Nat) {vals : List D} {effs : List Ef} {env' : List D} {j' : Nat} {σ' : St} (h0 : (sts false)[0]? = some σ) (hj : (sts (decide (fr < ops.size)))[j']? = some σ')
    (h : DRun P ops sts fr ops.toList env 0 vals effs env' j') (hreg : drawOK ops effs = true) (hk : RunC C P R k env' σ') : RunC C P R (.code (.region id ops true) :: k) env σ := fun E g a w B hC hfi hB => by
  simp only [KQ]
  obtain ⟨f1, f2, f3, f4, f5⟩ := h.facts [] [] env rfl (by simp) (by simp [envA]) (by simp [cntA])
  simp only [List.nil_append, List.length_nil, Nat.zero_add] at f1 f2 f3
  have hreg1 : regOK ops (effs.map (·.1)) = true := by unfold drawOK at hreg; rw [Bool.and_eq_true] at hreg; exact hreg.1
  have hreg2 : winOK ops effs = true := by unfold drawOK at hreg; rw [Bool.and_eq_true] at hreg; exact hreg.2
  clear hreg
  have f1' : ∀ i o, ops[i]? = some o → Fact P ops sts fr (itemsOf ops.toList vals effs) effs env i o := fun i o ho => f1 i o (by rw [Array.getElem?_toList]; exact ho)
  have f4' : (itemsOf ops.toList vals effs).length = ops.size := by rw [f4]; simp
  refine wp_region_any hm ?_
  have hS0 : (fun i => (Array.replicate ops.size false).getD i false) = fun _ => false := by
    funext i
    simp only [Array.getD_eq_getD_getElem?, Array.getElem?_replicate]
    split <;> rfl
  have he0 : ∀ (l : List (It × Nat)) (e : List D), l.foldl (stepE fun _ => false) e = e := by
    intro l; induction l with
    | nil => intro e; rfl
    | cons x l ih => intro e; simp only [List.foldl_cons]; rw [show stepE (fun _ => false) e x = e from by simp [stepE]]; exact ih e
  have hc0 : ∀ (l : List (It × Nat)) (c : Nat), l.foldl (stepC fun _ => false) c = c := by
    intro l; induction l with
    | nil => intro e; rfl
    | cons x l ih => intro e; simp only [List.foldl_cons]; rw [show stepC (fun _ => false) e x = e from by simp [stepC]]; exact ih e
  have hfi' : FI E g σ env a { w with drawn := w.drawn + 1 } := ⟨hfi.wi.drew, hfi.env, hfi.defers⟩
  obtain ⟨es, hes⟩ : ∃ es, es = effs.map (·.1) := ⟨_, rfl⟩
  rw [← hes] at hreg1 f5
  refine wpAny_draw (sts := sts) (fr := fr) (items := itemsOf ops.toList vals effs) (effs := es) (lims := effs) (env0 := env) (E := E) hreg1 hreg2 hes f4' f5 f1' (fun g' a' w' hx => ?_) ops.size _ a _ g σ (by simp) ?_ ?_ ?_ ?_
  · obtain ⟨s, hs, hf⟩ := hx
    rw [← f3, hj] at hs
    simp at hs; subst hs
    rw [← f2] at hf
    exact hk E g' a' w' B hC hf hB
  · intro i o _ hs
    rw [hS0] at hs
    simp at hs
  · have : (List.range ops.size).filter (fun i => !(Array.replicate ops.size false).getD i false) = List.range ops.size := by
      rw [List.filter_eq_self]
      intro i _
      have := congrFun hS0 i
      rw [this]; rfl
    rw [this]; simp
  · have h0f : (Array.replicate ops.size false).getD fr false = false := congrFun hS0 fr
    rw [hS0, h0f]
    simp only [cntS, hc0]; exact h0
  · rw [hS0]
    simp only [envS, he0]; exact hfi'

end
end Go.Dv
