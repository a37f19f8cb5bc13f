/-
  The state of a run (local objects, owned lists), what a function leaves alone, one operation's judgement, the stack of code. No program is named here.
-/
import Derived.Test.YtoofgniepbidnaaDvA
import Derived.Tactics
namespace Go.Dv

structure St where
  H : List (Option (List D))
  own : List (Nat × Nat × List V)

/-- slot values of one cell -/
def D.one : D → Bool
  | .v x => !x.isAgg
  | .acc .. | .ptr .. | .arr .. | .gro .. | .dfn .. => true
  | .raw x => x.oneCell'
  | .rv x _ => !x.isAgg
  | _ => false

/-- the block that an owned list may write -/
def ownB : Value → Option Nat
  | .slice (some a) _ cap => if cap = 0 then none else some a.block
  | _ => none

def Perm (M : Mem) (w : World) (sz : Nat) (u : Value) : Prop :=
  (∃ a, u = .slice a 0 0) ∨ ∃ b len cap cur e, u = .slice (some ⟨b, 0, none⟩) len cap ∧ w.heap[b]? = some (.cells cur e (0, 0)) ∧ len ≤ cap ∧ cap * sz ≤ cur.size ∧ ∀ o, len * sz ≤ o → M b o = none

structure WRep (g : Gh) (σ : St) (w : World) : Prop where
  n : g.n = σ.H.length
  mem : ∀ b o v, g.M b o = some v → w.cell? ⟨b, o, none⟩ = some v
  obj : ∀ i cs, σ.H[i]? = some (some cs) → ∃ us rest e, w.heap[g.β i]? = some (.cells (us ++ rest).toArray e (0, 0)) ∧ repDs g cs us ∧ (∀ c ∈ cs, c.one = true) ∧ (∀ o, g.M (g.β i) o = none) ∧ (us ++ rest).length = g.κ i
  inj : ∀ i j cs ds, σ.H[i]? = some (some cs) → σ.H[j]? = some (some ds) → g.β i = g.β j → i = j
  own : ∀ k sz xs, (k, sz, xs) ∈ σ.own → (0 < sz ∧ ∀ x ∈ xs, x.size = sz) ∧ ∃ u, g.ι k xs.length = some u ∧ repV g.M (.list xs) u ∧ Perm g.M w sz u ∧ ∀ m, xs.length < m → g.ι k m = none
  tags : (σ.own.map (·.1)).Nodup
  sep : ∀ x ∈ σ.own, ∀ y ∈ σ.own, x.1 ≠ y.1 → ∀ u u', g.ι x.1 x.2.2.length = some u → g.ι y.1 y.2.2.length = some u' → ∀ b, ownB u = some b → ownB u' ≠ some b
  ownObj : ∀ x ∈ σ.own, ∀ u, g.ι x.1 x.2.2.length = some u → ∀ b, ownB u = some b → ∀ i cs, σ.H[i]? = some (some cs) → g.β i ≠ b
  fresh : ∀ k, (∀ x ∈ σ.own, x.1 ≠ k) → ∀ m, g.ι k m = none

/-- where a call began -/
structure Ent where
  g : Gh
  w : World
  σ : St

/-- the blocks that the call may write -/
def Ent.priv (E : Ent) (b : Nat) : Prop :=
  (∃ i cs, E.σ.H[i]? = some (some cs) ∧ b = E.g.β i) ∨ (∃ x ∈ E.σ.own, ∃ u, E.g.ι x.1 x.2.2.length = some u ∧ ownB u = some b)

structure WI (E : Ent) (g : Gh) (σ : St) (w : World) : Prop where
  rep : WRep g σ w
  M : E.g.M.le g.M
  size : E.w.heap.size ≤ w.heap.size
  keep : ∀ b, b < E.w.heap.size → ¬ E.priv b → w.heap[b]? = E.w.heap[b]? ∧ ∀ o, g.M b o = E.g.M b o
  os : w.os = E.w.os
  tape : w.tape = E.w.tape
  output : w.output = E.w.output
  nE : E.g.n ≤ g.n
  βE : ∀ o, o < E.g.n → g.β o = E.g.β o
  κE : ∀ o, o < E.g.n → g.κ o = E.g.κ o
  objs : ∀ i cs, σ.H[i]? = some (some cs) → E.w.heap.size ≤ g.β i ∨ E.priv (g.β i)
  owns : ∀ x ∈ σ.own, ∀ u, g.ι x.1 x.2.2.length = some u → ∀ b, ownB u = some b → E.w.heap.size ≤ b ∨ E.priv b

structure FI (E : Ent) (g : Gh) (σ : St) (env : List D) (a : Act) (w : World) : Prop where
  wi : WI E g σ w
  env : repDs g env a.tmps.toList
  defers : a.defers = []

theorem WI.start {g : Gh} {w : World} {σ : St} (h : WRep g σ w) : WI ⟨g, w, σ⟩ g σ w where
  rep := h
  M := Mem.le_refl _
  size := Nat.le_refl _
  keep := fun _ _ _ => ⟨rfl, fun _ => rfl⟩
  os := rfl
  tape := rfl
  output := rfl
  nE := Nat.le_refl _
  βE := fun _ _ => rfl
  κE := fun _ _ => rfl
  objs := fun i cs h => .inr (.inl ⟨i, cs, h, rfl⟩)
  owns := fun x hx u hu _ hb => .inr (.inr ⟨x, hx, u, hu, hb⟩)

/- OPERANDS -/
def constD : Value → D
  | .int k n => .v (.int k n)
  | .bool b => .v (.bool b)
  | .string s => .v (.str s.data.toList)
  | .slice none 0 0 => .v (.list [])
  | .nilFunc => .v .nilfn
  | .pointer none => .v .nilp
  | _ => .undef

theorem repD_const (g : Gh) (u : Value) : repD g (constD u) u := by
  unfold constD
  split <;> simp [repD, repV_nil]

def evD (env : List D) : Operand → D
  | .tmp t => env.getD t .undef
  | .const u => constD u
  | .global _ => .undef
  | .func f => .v (.fn f [] [])

theorem repD_ev {g : Gh} {env : List D} {a : Act} (h : repDs g env a.tmps.toList) (x : Operand) : repD g (evD env x) (a.eval x) := by
  cases x with
  | tmp t =>
    simp only [evD, Act.eval]
    cases hd : env[t]? with
    | none => rw [List.getD_eq_getElem?_getD, hd]; simp [repD]
    | some d =>
      obtain ⟨u, hu, hr⟩ := repDs_get h hd
      rw [List.getD_eq_getElem?_getD, hd]
      have : a.tmps.getD t undef = u := by
        rw [Array.getD_eq_getD_getElem?]
        have : a.tmps[t]? = some u := by rw [← Array.getElem?_toList]; exact hu
        simp [this]
      rw [this]; exact hr
  | const u => exact repD_const g u
  | global n => simp [evD, repD]
  | func f => simp only [evD, repD, repV_fn, Act.eval]; exact ⟨[], [], rfl, by simp [repL], by simp [repL]⟩

def evDs (env : List D) (o : Oper) : List D := o.op.operands.toList.map (evD env)

theorem repDs_map {g : Gh} {env : List D} {a : Act} (h : repDs g env a.tmps.toList) : ∀ (l : List Operand), repDs g (l.map (evD env)) (l.map a.eval)
  | [] => by simp [repDs]
  | x :: l => by simp only [List.map_cons, repDs]; exact ⟨_, _, rfl, repD_ev h x, repDs_map h l⟩

/- ONE OPERATION -/
def OpOK (P : Program) (o : Oper) (ds : List D) (σ : St) (d : D) (σ' : St) : Prop :=
  ∀ (E : Ent) (g : Gh) (a : Act) (w : World) (K : Act → World → Prop) (Q : Exit → Act → World → Prop), WI E g σ w →
    repDs g ds (o.op.operands.toList.map a.eval) →
    (∀ g' w' u, WI E g' σ' w' → g.le g' → repD g' d u → K (a.put o.dst u) w') → o.wp P a w K Q

theorem repD_undef (g : Gh) : repD g (.tup []) undef := by simp only [repD]; exact ⟨[], rfl, by simp [repDs]⟩

def putD (env : List D) : Option Tmp → D → List D
  | some t, d => env.set t d
  | none, _ => env

theorem FI.put {E : Ent} {g g' : Gh} {σ σ' : St} {env : List D} {a : Act} {w w' : World} (h : FI E g σ env a w) (hw : WI E g' σ' w') (hg : g.le g') {u : Value} {d : D} (hd : repD g' d u) (t : Option Tmp) :
    FI E g' σ' (putD env t d) (a.put t u) w' := by
  refine ⟨hw, ?_, ?_⟩
  · cases t with
    | none => exact repDs.mono hg _ _ h.env
    | some t =>
      simp only [putD, Act.put, Array.toList_setIfInBounds]
      exact repDs_set (repDs.mono hg _ _ h.env) t hd
  · cases t <;> exact h.defers

/-- is a guarded operation run? -/
def wantD (env : List D) (ops : Array Oper) (o : Oper) : Option Bool :=
  match o.guard with
  | none => some true
  | some (j, want) => match ((ops[j]?).bind (·.dst)).bind (env[·]?) with
    | some (.v (.bool b)) => some (b == want)
    | some (.tup _) => some false
    | _ => none

theorem wanted_of {g : Gh} {env : List D} {a : Act} (h : repDs g env a.tmps.toList) {ops : Array Oper} {o : Oper} {b : Bool} (hw : wantD env ops o = some b) :
    Region.wanted o (yielded ops a.tmps) = b := by
  unfold wantD at hw
  unfold Region.wanted
  cases hg : o.guard with
  | none => simp [hg] at hw ⊢; exact hw
  | some p =>
    obtain ⟨j, want⟩ := p
    simp only [hg] at hw ⊢
    cases hj : (ops[j]?).bind (·.dst) with
    | none => simp [hj] at hw
    | some t =>
      simp only [hj, Option.bind_some] at hw
      cases he : env[t]? with
      | none => simp [he] at hw
      | some d =>
        simp only [he] at hw
        obtain ⟨u, hu, hr⟩ := repDs_get h he
        have hu' : a.tmps[t]? = some u := by rw [← Array.getElem?_toList]; exact hu
        split at hw
        · rename_i b' e
          simp only [Option.some.injEq] at e
          subst e
          simp only [repD, repV_bool] at hr
          subst hr
          simp only [yielded, hj, Option.bind_some, hu']
          simp at hw
          rw [← hw]
          cases b' <;> cases want <;> rfl
        · rename_i ds e
          simp only [Option.some.injEq] at e
          subst e
          simp only [repD] at hr
          obtain ⟨us, rfl, _⟩ := hr
          simp only [yielded, hj, Option.bind_some, hu']
          simp at hw
          subst hw
          rfl
        · simp at hw

/-- operations in the order of the text -/
def OpsOK (P : Program) (ops : Array Oper) (K : List D → St → Prop) : List Oper → List D → St → Prop
  | [], env, σ => K env σ
  | o :: L, env, σ =>
    (wantD env ops o = some true ∧ ∃ d σ', OpOK P o (evDs env o) σ d σ' ∧ OpsOK P ops K L (putD env o.dst d) σ') ∨
    (wantD env ops o = some false ∧ OpsOK P ops K L (putD env o.dst (.tup [])) σ)

/- THE STACK -/
inductive KI where
  | code (c : Code)
  | blk (id : Nat)
  | lp (c : Code)

/-- from a loop's head -/
def lpwp (P : Program) (c : Code) (Q : Exit → Act → World → Prop) (a : Act) (w : World) : Prop :=
  ∀ (b : Frame) (k : List Item) (cs : List Frame),
    ∃ e a' w', Q e a' w' ∧ Arrives P (lone (b.at a (.code c :: .inLoop c :: k)) cs w) b k cs e a' w'

def KQ (P : Program) (B : Exit → Act → World → Prop) : List KI → Exit → Act → World → Prop
  | [], e, a, w => B e a w
  | .code c :: k, e, a, w => match e with
    | .normal => c.wp P (KQ P B k) a w
    | e => KQ P B k e a w
  | .lp c :: k, e, a, w => match e with
    | .normal => lpwp P c (KQ P B k) a w
    | e => KQ P B k e a w
  | .blk id :: k, e, a, w => match e with
    | .exit id' => if id' = id then KQ P B k .normal a w else KQ P B k (.exit id') a w
    | e => KQ P B k e a w

/-- the code behaves as R says, wherever the call began under a condition -/
def RunC (C : Ent → Prop) (P : Program) (R : List D → St → Prop) (k : List KI) (env : List D) (σ : St) : Prop :=
  ∀ (E : Ent) (g : Gh) (a : Act) (w : World) (B : Exit → Act → World → Prop), C E → FI E g σ env a w →
    (∀ g' env' σ' a' w', FI E g' σ' env' a' w' → R env' σ' → B .ret a' w' ∧ B .normal a' w') → KQ P B k .normal a w
abbrev Run (P : Program) (R : List D → St → Prop) (k : List KI) (env : List D) (σ : St) : Prop := RunC (fun _ => True) P R k env σ

section
variable {C : Ent → Prop} {P : Program} {R : List D → St → Prop} {k : List KI} {env : List D} {σ : St}

theorem run_nil (h : R env σ) : RunC C P R [] env σ := fun _ _ _ _ _ _ hf hB => (hB _ _ _ _ _ hf h).2

theorem KQ_ret {B : Exit → Act → World → Prop} {a : Act} {w : World} (h : B .ret a w) : ∀ k : List KI, KQ P B k .ret a w
  | [] => h
  | .code _ :: k => by simp only [KQ]; exact KQ_ret h k
  | .lp _ :: k => by simp only [KQ]; exact KQ_ret h k
  | .blk _ :: k => by simp only [KQ]; exact KQ_ret h k

theorem run_ret (h : R env σ) : RunC C P R (.code .ret :: k) env σ := fun _ _ _ _ _ _ hf hB => by
  simp only [KQ]
  exact wp_ret (KQ_ret (hB _ _ _ _ _ hf h).1 k)

theorem run_skip (h : RunC C P R k env σ) : RunC C P R (.code .skip :: k) env σ := fun E g a w B hC hf hB => by
  simp only [KQ]
  exact wp_skip (h E g a w B hC hf hB)

theorem run_label {l : Nat} (h : RunC C P R k env σ) : RunC C P R (.code (.label l) :: k) env σ := fun E g a w B hC hf hB => by
  simp only [KQ]
  exact wp_label (h E g a w B hC hf hB)

theorem run_blk {id : Nat} (h : RunC C P R k env σ) : RunC C P R (.blk id :: k) env σ := fun E g a w B hC hf hB => by
  simp only [KQ]
  exact h E g a w B hC hf hB

theorem run_seq {x y : Code} (h : RunC C P R (.code x :: .code y :: k) env σ) : RunC C P R (.code (.seq x y) :: k) env σ := fun E g a w B hC hf hB => by
  have := h E g a w B hC hf hB
  simp only [KQ] at this ⊢
  exact wp_seq (wp_mono this fun e a w q => by cases e <;> exact q)

theorem run_block {id : Nat} {c : Code} (h : RunC C P R (.code c :: .blk id :: k) env σ) : RunC C P R (.code (.block id c) :: k) env σ := fun E g a w B hC hf hB => by
  have := h E g a w B hC hf hB
  simp only [KQ] at this ⊢
  exact wp_block (wp_mono this fun e a w q => by cases e <;> simpa only [KQ, Exit.inBlock] using q)

theorem run_cond {c : Operand} {x y : Code} {b : Bool} (hc : evD env c = .v (.bool b)) (ht : b = true → RunC C P R (.code x :: k) env σ) (hf : b = false → RunC C P R (.code y :: k) env σ) :
    RunC C P R (.code (.cond c x y) :: k) env σ := fun E g a w B hC hfi hB => by
  have hr := repD_ev hfi.env c
  rw [hc] at hr
  have hr' : a.eval c = .bool b := by simpa only [repD, repV_bool] using hr
  simp only [KQ]
  refine wp_cond_split hr' (fun hb => ?_) (fun hb => ?_)
  · have := ht hb E g a w B hC hfi hB; simpa only [KQ] using this
  · have := hf hb E g a w B hC hfi hB; simpa only [KQ] using this

theorem run_lp {c : Code} (h : RunC C P R (.code c :: .lp c :: k) env σ) : RunC C P R (.lp c :: k) env σ := fun E g a w B hC hfi hB => by
  have := h E g a w B hC hfi hB
  simp only [KQ] at this ⊢
  intro b kk cs
  obtain ⟨e, a₁, w₁, hq, harr⟩ := this b (.inLoop c :: kk) cs
  cases e with
  | normal =>
    simp only at hq
    obtain ⟨e₂, a₂, w₂, hq₂, harr₂⟩ := hq b kk cs
    exact ⟨e₂, a₂, w₂, hq₂, .of_steps (Steps.trans harr (.one step_inLoop)) harr₂⟩
  | exit id => exact ⟨_, a₁, w₁, hq, .pass (x := .inLoop c) rfl (fun _ _ => .inl (by simp)) harr⟩
  | goto l => exact ⟨_, a₁, w₁, hq, .pass (x := .inLoop c) rfl (fun _ _ => .inl (by simp)) harr⟩
  | ret => exact ⟨_, a₁, w₁, hq, .pass (x := .inLoop c) rfl (fun _ _ => .inl (by simp)) harr⟩
  | panic ch => exact ⟨_, a₁, w₁, hq, .pass (x := .inLoop c) rfl (fun _ _ => .inl (by simp)) harr⟩
  | outgrown => exact ⟨_, a₁, w₁, hq, .pass (x := .inLoop c) rfl (fun _ _ => .inl (by simp)) harr⟩

theorem run_loop {c : Code} (h : RunC C P R (.lp c :: k) env σ) : RunC C P R (.code (.loop c) :: k) env σ := fun E g a w B hC hfi hB => by
  have := h E g a w B hC hfi hB
  simp only [KQ] at this ⊢
  intro b kk cs
  obtain ⟨e, a', w', hq, harr⟩ := this b kk cs
  exact ⟨e, a', w', hq, .of_steps (.one step_loop) harr⟩

def popK (id : Nat) : List KI → Option (List KI)
  | [] => none
  | .blk id' :: k => if id' = id then some k else popK id k
  | _ :: k => popK id k

theorem KQ_exit {B : Exit → Act → World → Prop} {a : Act} {w : World} {id : Nat} : ∀ {k k' : List KI}, popK id k = some k' → KQ P B k' .normal a w → KQ P B k (.exit id) a w
  | [], k', h, _ => by simp [popK] at h
  | .code c :: k, k', h, q => by simp only [popK] at h; simp only [KQ]; exact KQ_exit h q
  | .lp c :: k, k', h, q => by simp only [popK] at h; simp only [KQ]; exact KQ_exit h q
  | .blk id' :: k, k', h, q => by
    simp only [popK] at h
    simp only [KQ]
    by_cases e : id' = id
    · rw [if_pos e] at h
      simp at h; subst h
      rw [if_pos e.symm]; exact q
    · rw [if_neg e] at h
      rw [if_neg (fun x => e x.symm)]
      exact KQ_exit h q

theorem run_exit {id : Nat} {k' : List KI} (hk : popK id k = some k') (h : RunC C P R k' env σ) : RunC C P R (.code (.exit id) :: k) env σ := fun E g a w B hC hfi hB => by
  simp only [KQ]
  exact wp_exit (KQ_exit hk (h E g a w B hC hfi hB))

theorem opsOK_sound {ops : Array Oper} {B : Exit → Act → World → Prop} {E : Ent} (hC : C E) (hB : ∀ g' env' σ' a' w', FI E g' σ' env' a' w' → R env' σ' → B .ret a' w' ∧ B .normal a' w') :
    ∀ (L : List Oper) (env : List D) (σ : St) (g : Gh) (a : Act) (w : World), OpsOK P ops (fun env σ => RunC C P R k env σ) L env σ → FI E g σ env a w → wpList P ops (KQ P B k) L a w
  | [], env, σ, g, a, w, h, hf => h E g a w B hC hf hB
  | o :: L, env, σ, g, a, w, h, hf => by
    unfold wpList
    rcases h with ⟨hw, d, σ', ho, h⟩ | ⟨hw, h⟩
    · rw [if_pos (wanted_of hf.env hw)]
      refine .inl (ho E g a w _ _ hf.wi (repDs_map hf.env _) fun g' w' u hw' hg hd => ?_)
      exact opsOK_sound hC hB L _ _ g' _ _ h (hf.put hw' hg hd o.dst)
    · rw [if_neg (by rw [wanted_of hf.env hw]; simp)]
      exact opsOK_sound hC hB L _ _ g _ _ h (hf.put hf.wi g.le_refl (repD_undef g) o.dst)

theorem run_region {id : Nat} {ops : Array Oper} (h : OpsOK P ops (fun env σ => RunC C P R k env σ) ops.toList env σ) : RunC C P R (.code (.region id ops false) :: k) env σ := fun E g a w B hC hfi hB => by
  simp only [KQ]
  exact wp_region_list (opsOK_sound hC hB _ _ _ g a w h hfi)

/-- forget what some slots hold -/
theorem run_forget {env' : List D} (hl : env'.length = env.length) (he : ∀ (i : Nat) (d' : D), env'[i]? = some d' → d' = .undef ∨ env[i]? = some d') (h : RunC C P R k env' σ) : RunC C P R k env σ := fun E g a w B hC hfi hB =>
  h E g a w B hC ⟨hfi.wi, repDs_weaken hfi.env hl he, hfi.defers⟩ hB
end

/- FUNCTIONS -/
def Callable (P : Program) (f : FuncId) : Prop := ∃ fn, P.funcs[f]? = some fn ∧ (fn.name == "runtime.NumGoroutine") = false ∧ fn.body.isNone = false

def FSpec (P : Program) (f : FuncId) (ds : List D) (σ : St) (d : D) (σ' : St) : Prop :=
  Callable P f ∧ ∀ (g : Gh) (w : World) (args : List Value), WRep g σ w → repDs g ds args →
    Calls P f args.toArray w fun e w' => ∃ u g', e = .returned u ∧ WI ⟨g, w, σ⟩ g' σ' w' ∧ repD g' d u

/-- what the results are -/
def ResOK (P : Program) (fn : Func) (env : List D) (σ : St) (d : D) (σ' : St) : Prop :=
  ∀ E g a w, FI E g σ env a w → E.g.n ≤ σ'.H.length → ∃ u g', (results fn a.tmps).run P w = .ok u w ∧ WI E g' σ' w ∧ repD g' d u

theorem spec_of_run {P : Program} {f : FuncId} {fn : Func} {c : Code} {ds : List D} {σ σ' : St} {d : D} (hf : P.funcs[f]? = some fn) (hb : fn.body = some c) (hn : (fn.name == "runtime.NumGoroutine") = false)
    (hH : σ.H.length ≤ σ'.H.length) (h : Run P (fun env σ1 => ResOK P fn env σ1 d σ') [.code c] (ds ++ List.replicate (fn.ntmps - ds.length) .undef) σ) : FSpec P f ds σ d σ' := by
  refine ⟨⟨fn, hf, hn, by simp [hb]⟩, fun g w args hw hargs => ?_⟩
  refine calls_of_wp hf hb ?_
  have hfi : FI ⟨g, w, σ⟩ g σ (ds ++ List.replicate (fn.ntmps - ds.length) .undef) { tmps := args.toArray ++ Array.replicate (fn.ntmps - args.toArray.size) undef, defers := [] } w := by
    refine ⟨WI.start hw, ?_, rfl⟩
    have hl := repDs_length hargs
    simp only [Array.toList_append, Array.toList_replicate, List.size_toArray, hl]
    refine repDs_append hargs ?_
    generalize fn.ntmps - ds.length = m
    induction m with
    | zero => simp [repDs]
    | succ m ih => simp only [List.replicate_succ, repDs]; exact ⟨_, _, rfl, by simp [repD], ih⟩
  have := h ⟨g, w, σ⟩ g _ w (bodyPost P fn fun e w' => ∃ u g', e = .returned u ∧ WI ⟨g, w, σ⟩ g' σ' w' ∧ repD g' d u) trivial hfi ?_
  · simp only [KQ] at this
    exact this
  · intro g' env' σ1 a' w' hfi' hR
    obtain ⟨u, g2, h1, h2, h3⟩ := hR _ _ _ _ hfi' (by rw [hw.n]; exact hH)
    have : a'.defers = [] ∧ ∃ v, (results fn a'.tmps).run P w' = .ok v w' ∧ ∃ u g', Ending.returned v = .returned u ∧ WI ⟨g, w, σ⟩ g' σ' w' ∧ repD g' d u :=
      ⟨hfi'.defers, u, h1, u, g2, rfl, h2, h3⟩
    exact ⟨this, this⟩

end Go.Dv
