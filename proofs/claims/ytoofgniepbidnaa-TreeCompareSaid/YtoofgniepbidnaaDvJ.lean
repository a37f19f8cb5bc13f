/-
  Calls by what the callee is known to do; results; an object that becomes a list. No program is named here.
-/
import Derived.Test.YtoofgniepbidnaaDvI
namespace Go.Dv

/-- an object's cells are written, and new memory is known -/
theorem WI.setObjG {E : Ent} {g : Gh} {σ : St} {w w' : World} (hw : WI E g σ w) {M' : Mem} (hle : g.M.le M') {q : Nat} {cs : List D} {oc : Option (List D)} (hq : σ.H[q]? = some (some cs))
    (hb : ∀ cs', oc = some cs' → ∃ us rest e, w'.heap[g.β q]? = some (.cells (us ++ rest).toArray e (0, 0)) ∧ repDs { g with M := M' } cs' us ∧ (∀ c ∈ cs', c.one = true) ∧ (∀ o, M' (g.β q) o = none) ∧ (us ++ rest).length = g.κ q)
    (keep : ∀ b, b < w.heap.size → b ≠ g.β q → w'.heap[b]? = w.heap[b]? ∧ ∀ o, M' b o = g.M b o) (mem : ∀ b o v, M' b o = some v → w'.cell? ⟨b, o, none⟩ = some v)
    (size : w.heap.size ≤ w'.heap.size) (os : w'.os = w.os) (tape : w'.tape = w.tape) (output : w'.output = w.output) :
    WI E { g with M := M' } ⟨σ.H.set q oc, σ.own⟩ w' := by
  have hlg : g.le { g with M := M' } := ⟨hle, Nat.le_refl _, fun _ _ => rfl, fun _ _ _ h => h, fun _ _ => rfl⟩
  have split : ∀ (i : Nat) (cs1 : List D), (σ.H.set q oc)[i]? = some (some cs1) → (i = q ∧ oc = some cs1) ∨ (i ≠ q ∧ σ.H[i]? = some (some cs1)) := by
    intro i cs1 hi
    rw [List.getElem?_set] at hi
    split at hi
    · rename_i e; subst e
      split at hi
      · simp at hi; exact .inl ⟨rfl, hi⟩
      · simp at hi
    · rename_i e; exact .inr ⟨fun h => e h.symm, hi⟩
  have live : ∀ (i : Nat) (cs1 : List D), (σ.H.set q oc)[i]? = some (some cs1) → ∃ cs2, σ.H[i]? = some (some cs2) := by
    intro i cs1 hi
    rcases split i cs1 hi with ⟨rfl, _⟩ | ⟨_, h⟩
    · exact ⟨cs, hq⟩
    · exact ⟨_, h⟩
  refine hw.update (fun b => b = g.β q) (fun b e => by subst e; exact hw.objs q cs hq) (fun b hb hne => keep b hb hne) hle (Nat.le_refl _) (fun _ _ => rfl) (fun _ _ => rfl) size os tape output ?_ ?_ hw.owns
  · refine ⟨by simp [hw.rep.n], mem, fun i cs1 hi => ?_, fun i j c1 c2 hi hj hij => ?_, fun k sz xs hx => ?_, hw.rep.tags, hw.rep.sep, fun x hx u hu b hb' i cs1 hi => ?_, hw.rep.fresh⟩
    · rcases split i cs1 hi with ⟨rfl, e⟩ | ⟨hne, h⟩
      · exact hb cs1 e
      · obtain ⟨us', rest', e', h2, h3, h4, h5, h6⟩ := hw.rep.obj i cs1 h
        obtain ⟨k1, k2⟩ := keep _ (heap_lt h2) (fun e => hne (hw.rep.inj i q _ _ h hq e))
        exact ⟨us', rest', e', k1.trans h2, repDs.mono hlg _ _ h3, h4, fun o => (k2 o).trans (h5 o), h6⟩
    · obtain ⟨c3, h3⟩ := live i c1 hi
      obtain ⟨c4, h4⟩ := live j c2 hj
      exact hw.rep.inj i j _ _ h3 h4 hij
    · obtain ⟨h0, u, hu, h3, h4, h5⟩ := hw.rep.own k sz xs hx
      refine ⟨h0, u, hu, h3.mono hle, h4.kept fun b hb' => keep b (hw.rep.own_lt hx hu hb') ?_, h5⟩
      exact fun e => hw.rep.ownObj _ hx u hu b hb' q cs hq e.symm
    · obtain ⟨c3, h3⟩ := live i cs1 hi
      exact hw.rep.ownObj x hx u hu b hb' i c3 h3
  · intro i cs1 hi
    obtain ⟨c3, h3⟩ := live i cs1 hi
    exact hw.objs i c3 h3

mutual
/-- data alone: no pointer to an object, no tag -/
def D.pl : D → Bool
  | .v _ => true
  | .raw _ => true
  | .rv .. => true
  | .tup ds => D.pls ds
  | .undef => true
  | _ => false
def D.pls : List D → Bool
  | [] => true
  | d :: ds => d.pl && D.pls ds
end

mutual
theorem repD_pl {g g' : Gh} (hM : g'.M = g.M) : ∀ {d : D} {u : Value}, d.pl = true → repD g d u → repD g' d u
  | .v x, u, _, h => by simp only [repD] at h ⊢; rw [hM]; exact h
  | .tup ds, u, hp, h => by
    simp only [repD] at h ⊢
    obtain ⟨us, e, h1⟩ := h
    exact ⟨us, e, repDs_pl hM (by simpa [D.pl] using hp) h1⟩
  | .undef, u, _, _ => by simp only [repD]
  | .raw x, u, _, h => by simpa only [repD] using h
  | .rv x u0, u, _, h => by simp only [repD] at h ⊢; rw [hM]; exact h
  | .acc .., _, hp, _ => by simp [D.pl] at hp
  | .ptr .., _, hp, _ => by simp [D.pl] at hp
  | .arr .., _, hp, _ => by simp [D.pl] at hp
  | .dagg .., _, hp, _ => by simp [D.pl] at hp
  | .dfn .., _, hp, _ => by simp [D.pl] at hp
theorem repDs_pl {g g' : Gh} (hM : g'.M = g.M) : ∀ {ds : List D} {us : List Value}, D.pls ds = true → repDs g ds us → repDs g' ds us
  | [], us, _, h => by simpa [repDs] using h
  | d :: ds, us, hp, h => by
    simp only [D.pls, Bool.and_eq_true] at hp
    simp only [repDs] at h ⊢
    obtain ⟨u, us', e, h1, h2⟩ := h
    exact ⟨u, us', e, repD_pl hM hp.1 h1, repDs_pl hM hp.2 h2⟩
end

theorem pls_map (xs : List V) : D.pls (xs.map .v) = true := by induction xs <;> simp_all [D.pls, D.pl]
theorem pls_append : ∀ (a b : List D), D.pls (a ++ b) = (D.pls a && D.pls b)
  | [], b => by simp [D.pls]
  | d :: a, b => by simp [D.pls, pls_append a b, Bool.and_assoc]

section
variable {P : Program} {o : Oper} {σ : St} {d : D}

/-- from the operation to the call -/
theorem wp_call {_E : Ent} {_g : Gh} {a : Act} {w : World} {K : Act → World → Prop} {Q : Exit → Act → World → Prop} {c : Call} {fo : Operand} (ho : o.op = .call c) (hc : c.callee = .value fo) {f : FuncId} (hcall : Callable P f) {us vs ws : List Value}
    (hf : a.eval fo = .func (.func f) us.toArray vs.toArray) (hargs : c.args.toList.map a.eval = ws)
    (h : Calls P f (us ++ ws ++ vs).toArray w fun e w' => ∃ u, e = .returned u ∧ K (a.put o.dst u) w') : o.wp P a w K Q := by
  obtain ⟨fn, h1, h2, h3⟩ := hcall
  have hargs' : c.args.map a.eval = ws.toArray := by apply Array.ext'; simpa using hargs
  unfold Oper.wp execOp
  simp only [ho, resolve, hc, hf, hargs', Deferred.ofValue, Sem.run_bind, Sem.run_pure, Result.andThen_ok, invoke, callFunc, run_program, h1, h2, h3, Bool.false_eq_true, if_false]
  have e : us.toArray ++ ws.toArray ++ vs.toArray = (us ++ ws ++ vs).toArray := by simp
  rw [e]
  refine Calls.mono h fun e w' he => ?_
  obtain ⟨u, rfl, hk⟩ := he
  exact hk

/-- the function value and the arguments of a call -/
theorem call_parts {g : Gh} {a : Act} {c : Call} {fo : Operand} (ho : o.op = .call c) (hc : c.callee = .value fo) {f : FuncId} {fs cs : List V} {ds : List D} (h : repDs g (.v (.fn f fs cs) :: ds) (o.op.operands.toList.map a.eval)) :
    ∃ us vs ws, a.eval fo = .func (.func f) us.toArray vs.toArray ∧ c.args.toList.map a.eval = ws ∧ repDs g (fs.map .v) us ∧ repDs g (cs.map .v) vs ∧ repDs g ds ws := by
  simp only [ho, Op.operands, Call.operands, hc] at h
  have h' : repDs g (.v (.fn f fs cs) :: ds) (a.eval fo :: c.args.toList.map a.eval) := by simpa using h
  simp only [repDs] at h'
  obtain ⟨u, us', e, h1, h2⟩ := h'
  simp only [List.cons.injEq] at e
  obtain ⟨e1, e2⟩ := e
  simp only [repD, repV_fn] at h1
  obtain ⟨us, vs, e3, h3, h4⟩ := h1
  exact ⟨us, vs, us', e1.trans e3, e2, repDs_of_L h3, repDs_of_L h4, h2⟩

theorem WRep.empty {g : Gh} {w : World} (h : WRep g σ w) : WRep { M := g.M, β := g.β, n := 0, ι := fun _ _ => none, κ := g.κ } ⟨[], []⟩ w where
  n := rfl
  mem := h.mem
  obj := fun i cs hi => by simp at hi
  inj := fun i j cs ds hi => by simp at hi
  own := fun k sz xs hx => by simp at hx
  tags := by simp
  sep := fun x hx => by simp at hx
  ownObj := fun x hx => by simp at hx
  fresh := fun _ _ _ => rfl

theorem not_priv {g : Gh} {w : World} {b : Nat} : ¬ Ent.priv ⟨g, w, ⟨[], []⟩⟩ b := by
  rintro (⟨i, cs, h, _⟩ | ⟨x, h, _⟩)
  · simp at h
  · simp at h

/-- back from a call that was handed no object -/
theorem WI.back0 {E : Ent} {g gc gc' : Gh} {w w' : World} {σc' : St} (hw : WI E g σ w) (hM : gc.M = g.M) (h : WI ⟨gc, w, ⟨[], []⟩⟩ gc' σc' w') : WI E { g with M := gc'.M } σ w' ∧ g.le { g with M := gc'.M } := by
  have hle : g.M.le gc'.M := by rw [← hM]; exact h.M
  refine ⟨hw.grow hle (fun b hb => ?_) h.rep.mem h.size h.os h.tape h.output, ⟨hle, Nat.le_refl _, fun _ _ => rfl, fun _ _ _ h => h, fun _ _ => rfl⟩⟩
  obtain ⟨h1, h2⟩ := h.keep b hb not_priv
  exact ⟨h1, fun o => by rw [h2 o]; simp only [hM]⟩

/-- a call of a function of data -/
theorem op_call0 {c : Call} {fo : Operand} (ho : o.op = .call c) (hc : c.callee = .value fo) {f : FuncId} {fs cs : List V} {ds : List D} (hp : D.pls ds = true) (hd : d.pl = true)
    (hspec : FSpec P f (fs.map .v ++ ds ++ cs.map .v) ⟨[], []⟩ d ⟨[], []⟩) : OpOK P o (.v (.fn f fs cs) :: ds) σ d σ := by
  intro E g a w K Q hw hds hK
  obtain ⟨us, vs, ws, hf, hargs, h1, h2, h3⟩ := call_parts ho hc hds
  refine wp_call (_E := E) (_g := g) ho hc hspec.1 hf hargs ?_
  have hargs' : repDs { M := g.M, β := g.β, n := 0, ι := fun _ _ => none, κ := g.κ } (fs.map .v ++ ds ++ cs.map .v) (us ++ ws ++ vs) :=
    repDs_pl (by rfl) (by simp [pls_append, pls_map, hp]) (repDs_append (repDs_append h1 h3) h2)
  refine Calls.mono (hspec.2 _ w _ hw.rep.empty hargs') ?_
  rintro e w' ⟨u, g', rfl, hw', hr⟩
  obtain ⟨h4, h5⟩ := hw.back0 (by rfl) hw'
  exact ⟨u, rfl, hK _ _ _ h4 h5 (repD_pl (by rfl) hd hr)⟩

/-- the same; the result is a list that the caller may append to -/
theorem op_call0_own {c : Call} {fo : Operand} (ho : o.op = .call c) (hc : c.callee = .value fo) {f : FuncId} {fs cs : List V} {ds : List D} (hp : D.pls ds = true) {k' sz : Nat} {xs : List V} (k : Nat) (hk : ∀ x ∈ σ.own, x.1 ≠ k)
    (hspec : FSpec P f (fs.map .v ++ ds ++ cs.map .v) ⟨[], []⟩ (.acc k' xs) ⟨[], [(k', sz, xs)]⟩) : OpOK P o (.v (.fn f fs cs) :: ds) σ (.acc k xs) ⟨σ.H, (k, sz, xs) :: σ.own⟩ := by
  intro E g a w K Q hw hds hK
  obtain ⟨us, vs, ws, hf, hargs, h1, h2, h3⟩ := call_parts ho hc hds
  refine wp_call (_E := E) (_g := g) ho hc hspec.1 hf hargs ?_
  have hargs' : repDs { M := g.M, β := g.β, n := 0, ι := fun _ _ => none, κ := g.κ } (fs.map .v ++ ds ++ cs.map .v) (us ++ ws ++ vs) :=
    repDs_pl (by rfl) (by simp [pls_append, pls_map, hp]) (repDs_append (repDs_append h1 h3) h2)
  refine Calls.mono (hspec.2 _ w _ hw.rep.empty hargs') ?_
  rintro e w' ⟨u, g', rfl, hw', hr⟩
  obtain ⟨h4, h5⟩ := hw.back0 (by rfl) hw'
  simp only [repD] at hr
  obtain ⟨hsz, u', hu', hr', hp', _⟩ := hw'.rep.own k' sz xs (by simp)
  obtain rfl : u = u' := by rw [hr.2] at hu'; simpa using hu'
  obtain ⟨h6, h7⟩ := h4.addOwn (k := k) (sz := sz) (xs := xs) (u := u) hk hsz hr' hp' (fun b hb => by
    rcases hw'.owns (k', sz, xs) (by simp) u hr.2 b hb with h | h
    · refine ⟨Nat.le_trans hw.size h, fun i cs hi => ?_, fun x hx v hv hvb => ?_⟩
      · have := hw.rep.obj_lt hi; simp only at h ⊢; omega
      · have := hw.rep.own_lt hx hv hvb; simp only at h; omega
    · exact absurd h not_priv)
  exact ⟨u, rfl, hK _ _ _ h6 (Gh.le_trans h5 h7) (by simp only [repD]; exact ⟨hr', by simp⟩)⟩

/-- a call that hands back a pointer to a new object -/
theorem op_call0_new {c : Call} {fo : Operand} (ho : o.op = .call c) (hc : c.callee = .value fo) {f : FuncId} {fs cs : List V} {ds : List D} (hp : D.pls ds = true) {os : List D} (hos : D.pls os = true)
    (hspec : FSpec P f (fs.map .v ++ ds ++ cs.map .v) ⟨[], []⟩ (.ptr 0 0) ⟨[some os], []⟩) : OpOK P o (.v (.fn f fs cs) :: ds) σ (.ptr σ.H.length 0) ⟨σ.H ++ [some os], σ.own⟩ := by
  intro E g a w K Q hw hds hK
  obtain ⟨us, vs, ws, hf, hargs, h1, h2, h3⟩ := call_parts ho hc hds
  refine wp_call (_E := E) (_g := g) ho hc hspec.1 hf hargs ?_
  have hargs' : repDs { M := g.M, β := g.β, n := 0, ι := fun _ _ => none, κ := g.κ } (fs.map .v ++ ds ++ cs.map .v) (us ++ ws ++ vs) :=
    repDs_pl (by rfl) (by simp [pls_append, pls_map, hp]) (repDs_append (repDs_append h1 h3) h2)
  refine Calls.mono (hspec.2 _ w _ hw.rep.empty hargs') ?_
  rintro e w' ⟨u, g', rfl, hw', hr⟩
  obtain ⟨h4, h5⟩ := hw.back0 (by rfl) hw'
  simp only [repD] at hr
  obtain ⟨vs', rest', e', hb, hrv, hone, hMn, _⟩ := hw'.rep.obj 0 os (by simp)
  have hge : w.heap.size ≤ g'.β 0 := by
    rcases hw'.objs 0 os (by simp) with h | h
    · exact h
    · exact absurd h not_priv
  obtain ⟨h6, h7⟩ := h4.addObj (b := g'.β 0) (us := vs') (rest := rest') (e := e') (cs := os) hb (.inl (Nat.le_trans hw.size hge)) hMn
    (fun i cs hi => by have := hw.rep.obj_lt hi; simp only; omega) (fun x hx v hv hvb => by have := hw.rep.own_lt hx hv hvb; omega) (repDs_pl (by rfl) hos hrv) hone
  refine ⟨u, rfl, hK _ _ _ h6 (Gh.le_trans h5 h7) ?_⟩
  simp only [repD]
  exact ⟨by rw [hw.rep.n]; omega, by rw [hw.rep.n]; simpa using hr.2⟩

/-- arguments for a callee that knows one object, as number 0 -/
inductive Args1 (q : Nat) : List D → List D → Prop
  | nil : Args1 q [] []
  | pl {d : D} {ds dc : List D} (hp : d.pl = true) (h : Args1 q ds dc) : Args1 q (d :: ds) (d :: dc)
  | ptr {off : Nat} {ds dc : List D} (h : Args1 q ds dc) : Args1 q (.ptr q off :: ds) (.ptr 0 off :: dc)
  | arr {off len : Nat} {ds dc : List D} (h : Args1 q ds dc) : Args1 q (.arr q off len :: ds) (.arr 0 off len :: dc)

theorem Args1.rep {q : Nat} {g gc : Gh} (hM : gc.M = g.M) (hβ : gc.β 0 = g.β q) (hn : 0 < gc.n) : ∀ {ds dc : List D}, Args1 q ds dc → ∀ {us : List Value}, repDs g ds us → repDs gc dc us
  | _, _, .nil, us, h => by simpa [repDs] using h
  | _, _, .pl hp h', us, h => by
    simp only [repDs] at h ⊢
    obtain ⟨u, us', e, h1, h2⟩ := h
    exact ⟨u, us', e, repD_pl hM hp h1, Args1.rep hM hβ hn h' h2⟩
  | _, _, .ptr h', us, h => by
    simp only [repDs] at h ⊢
    obtain ⟨u, us', e, h1, h2⟩ := h
    refine ⟨u, us', e, ?_, Args1.rep hM hβ hn h' h2⟩
    simp only [repD] at h1 ⊢
    exact ⟨hn, by rw [hβ]; exact h1.2⟩
  | _, _, .arr h', us, h => by
    simp only [repDs] at h ⊢
    obtain ⟨u, us', e, h1, h2⟩ := h
    refine ⟨u, us', e, ?_, Args1.rep hM hβ hn h' h2⟩
    simp only [repD] at h1 ⊢
    exact ⟨hn, by rw [hβ]; exact h1.2⟩

theorem WRep.one {g : Gh} {w : World} (h : WRep g σ w) {q : Nat} {cs : List D} (hq : σ.H[q]? = some (some cs)) (hp : D.pls cs = true) : WRep { M := g.M, β := fun _ => g.β q, n := 1, ι := fun _ _ => none, κ := fun _ => g.κ q } ⟨[some cs], []⟩ w where
  n := rfl
  mem := h.mem
  obj := fun i cs' hi => by
    cases i with
    | zero =>
      simp at hi; subst hi
      obtain ⟨us, rest, e, hb, hr, h1, hM, hκ⟩ := h.obj q cs hq
      exact ⟨us, rest, e, hb, repDs_pl (by rfl) hp hr, h1, hM, hκ⟩
    | succ i => simp at hi
  inj := fun i j cs1 cs2 hi hj _ => by
    cases i with
    | zero =>
      cases j with
      | zero => rfl
      | succ j => simp at hj
    | succ i => simp at hi
  own := fun k sz xs hx => by simp at hx
  tags := by simp
  sep := fun x hx => by simp at hx
  ownObj := fun x hx => by simp at hx
  fresh := fun _ _ _ => rfl

theorem priv_one {M : Mem} {b0 : Nat} {w : World} {b : Nat} {ι : Nat → Nat → Option Value} {κ : Nat → Nat} {cs : List D} (h : Ent.priv ⟨{ M, β := fun _ => b0, n := 1, ι, κ }, w, ⟨[some cs], []⟩⟩ b) : b = b0 := by
  rcases h with ⟨i, cs', hi, e⟩ | ⟨x, hx, _⟩
  · exact e
  · simp at hx

/-- back from a call that was handed one object -/
theorem WI.back1 {E : Ent} {g g' : Gh} {w w' : World} {q : Nat} {cs cs' : List D} {own' : List (Nat × Nat × List V)} (hw : WI E g σ w) (hq : σ.H[q]? = some (some cs)) (hp' : D.pls cs' = true)
    (h : WI ⟨{ M := g.M, β := fun _ => g.β q, n := 1, ι := fun _ _ => none, κ := fun _ => g.κ q }, w, ⟨[some cs], []⟩⟩ g' ⟨[some cs'], own'⟩ w') : WI E { g with M := g'.M } ⟨σ.H.set q (some cs'), σ.own⟩ w' ∧ g.le { g with M := g'.M } := by
  refine ⟨hw.setObjG h.M hq (fun c hc => ?_) (fun b hb hne => ?_) h.rep.mem h.size h.os h.tape h.output, ⟨h.M, Nat.le_refl _, fun _ _ => rfl, fun _ _ _ h => h, fun _ _ => rfl⟩⟩
  · simp at hc; subst hc
    obtain ⟨us, rest, e, hb, hr, h1, hM, hκ⟩ := h.rep.obj 0 cs' (by simp)
    have hβ : g'.β 0 = g.β q := h.βE 0 (by simp)
    have hκ' : g'.κ 0 = g.κ q := h.κE 0 (by simp)
    rw [hβ] at hb hM
    exact ⟨us, rest, e, hb, repDs_pl (by rfl) hp' hr, h1, hM, hκ.trans hκ'⟩
  · exact h.keep b hb (fun hpr => hne (priv_one hpr))

theorem op_call1 {c : Call} {fo : Operand} (ho : o.op = .call c) (hc : c.callee = .value fo) {f : FuncId} {fs cs : List V} {ds dc : List D} {q : Nat} {os os' : List D} (hq : σ.H[q]? = some (some os)) (hos : D.pls os = true) (hos' : D.pls os' = true) (ha : Args1 q ds dc) (hd : d.pl = true)
    (hspec : FSpec P f (fs.map .v ++ dc ++ cs.map .v) ⟨[some os], []⟩ d ⟨[some os'], []⟩) : OpOK P o (.v (.fn f fs cs) :: ds) σ d ⟨σ.H.set q (some os'), σ.own⟩ := by
  intro E g a w K Q hw hds hK
  obtain ⟨us, vs, ws, hf, hargs, h1, h2, h3⟩ := call_parts ho hc hds
  refine wp_call (_E := E) (_g := g) ho hc hspec.1 hf hargs ?_
  have hargs' : repDs { M := g.M, β := fun _ => g.β q, n := 1, ι := fun _ _ => none, κ := fun _ => g.κ q } (fs.map .v ++ dc ++ cs.map .v) (us ++ ws ++ vs) :=
    repDs_append (repDs_append (repDs_pl (by rfl) (pls_map fs) h1) (Args1.rep (q := q) (g := g) (by rfl) (by rfl) (by simp) ha h3)) (repDs_pl (by rfl) (pls_map cs) h2)
  refine Calls.mono (hspec.2 _ w _ (hw.rep.one hq hos) hargs') ?_
  rintro e w' ⟨u, g', rfl, hw', hr⟩
  obtain ⟨h4, h5⟩ := hw.back1 hq hos' hw'
  exact ⟨u, rfl, hK _ _ _ h4 h5 (repD_pl (by rfl) hd hr)⟩

theorem op_call1_own {c : Call} {fo : Operand} (ho : o.op = .call c) (hc : c.callee = .value fo) {f : FuncId} {fs cs : List V} {ds dc : List D} {q : Nat} {os os' : List D} (hq : σ.H[q]? = some (some os)) (hos : D.pls os = true) (hos' : D.pls os' = true) (ha : Args1 q ds dc)
    {k' sz : Nat} {xs : List V} (k : Nat) (hk : ∀ x ∈ σ.own, x.1 ≠ k) (hspec : FSpec P f (fs.map .v ++ dc ++ cs.map .v) ⟨[some os], []⟩ (.acc k' xs) ⟨[some os'], [(k', sz, xs)]⟩) :
    OpOK P o (.v (.fn f fs cs) :: ds) σ (.acc k xs) ⟨σ.H.set q (some os'), (k, sz, xs) :: σ.own⟩ := by
  intro E g a w K Q hw hds hK
  obtain ⟨us, vs, ws, hf, hargs, h1, h2, h3⟩ := call_parts ho hc hds
  refine wp_call (_E := E) (_g := g) ho hc hspec.1 hf hargs ?_
  have hargs' : repDs { M := g.M, β := fun _ => g.β q, n := 1, ι := fun _ _ => none, κ := fun _ => g.κ q } (fs.map .v ++ dc ++ cs.map .v) (us ++ ws ++ vs) :=
    repDs_append (repDs_append (repDs_pl (by rfl) (pls_map fs) h1) (Args1.rep (q := q) (g := g) (by rfl) (by rfl) (by simp) ha h3)) (repDs_pl (by rfl) (pls_map cs) h2)
  refine Calls.mono (hspec.2 _ w _ (hw.rep.one hq hos) hargs') ?_
  rintro e w' ⟨u, g', rfl, hw', hr⟩
  obtain ⟨h4, h5⟩ := hw.back1 hq hos' hw'
  simp only [repD] at hr
  obtain ⟨hsz, u', hu', hr', hp', _⟩ := hw'.rep.own k' sz xs (by simp)
  obtain rfl : u = u' := by rw [hr.2] at hu'; simpa using hu'
  have hβ : g'.β 0 = g.β q := hw'.βE 0 (by simp)
  obtain ⟨h6, h7⟩ := h4.addOwn (k := k) (sz := sz) (xs := xs) (u := u) hk hsz hr' hp' (fun b hb => by
    have hne : g'.β 0 ≠ b := hw'.rep.ownObj (k', sz, xs) (by simp) u hr.2 b hb 0 os' (by simp)
    rcases hw'.owns (k', sz, xs) (by simp) u hr.2 b hb with h | h
    · refine ⟨Nat.le_trans hw.size h, fun i cs hi => ?_, fun x hx v hv hvb => ?_⟩
      · obtain ⟨cs2, hc2⟩ : ∃ cs2, σ.H[i]? = some (some cs2) := by
          rw [List.getElem?_set] at hi
          split at hi
          · rename_i e; subst e; exact ⟨_, hq⟩
          · exact ⟨_, hi⟩
        have := hw.rep.obj_lt hc2; simp only at h ⊢; omega
      · have := hw.rep.own_lt hx hv hvb; simp only at h; omega
    · exact absurd (priv_one h) (fun e => hne (by rw [hβ, e])))
  exact ⟨u, rfl, hK _ _ _ h6 (Gh.le_trans h5 h7) (by simp only [repD]; exact ⟨hr', by simp⟩)⟩

end
end Go.Dv
