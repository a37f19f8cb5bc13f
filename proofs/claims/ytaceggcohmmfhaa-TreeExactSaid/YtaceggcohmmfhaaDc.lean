/-
  Constants known by value; nil slices that become lists to append to; growing lists, continued. No program is named here.
-/
import Derived.Test.YtaceggcohmmfhaaDb
import Derived.Laws.CopyRow
namespace Go.Dv

/-- operands that are constants may be taken as exactly their values -/
inductive ConstFix : List Operand → List D → List D → Prop
  | nil : ConstFix [] [] []
  | same {x : Operand} {d : D} {xs : List Operand} {ds ds' : List D} (h : ConstFix xs ds ds') : ConstFix (x :: xs) (d :: ds) (d :: ds')
  | const {u : Value} {d : D} {xs : List Operand} {ds ds' : List D} (h : ConstFix xs ds ds') : ConstFix (.const u :: xs) (d :: ds) (.raw u :: ds')
theorem ConstFix.rep {g : Gh} {a : Act} : ∀ {xs : List Operand} {ds ds' : List D}, ConstFix xs ds ds' → repDs g ds (xs.map a.eval) → repDs g ds' (xs.map a.eval)
  | _, _, _, .nil, h => by simpa only [repDs] using h
  | _, _, _, .same h', h => by
    simp only [List.map_cons, repDs] at h ⊢
    obtain ⟨u, us, e, h1, h2⟩ := h
    simp only [List.cons.injEq] at e
    obtain ⟨e1, e2⟩ := e
    exact ⟨_, _, rfl, by rw [e1]; exact h1, h'.rep (by rw [e2]; exact h2)⟩
  | _, _, _, .const h', h => by
    simp only [List.map_cons, repDs] at h ⊢
    obtain ⟨u, us, e, h1, h2⟩ := h
    simp only [List.cons.injEq] at e
    obtain ⟨e1, e2⟩ := e
    exact ⟨_, _, rfl, by simp only [repD, Act.eval], h'.rep (by rw [e2]; exact h2)⟩
theorem opOK_const {P : Program} {o : Oper} {ds ds' : List D} {σ σ' : St} {d : D} (hc : ConstFix o.op.operands.toList ds ds') (h : OpOK P o ds' σ d σ') : OpOK P o ds σ d σ' := by
  intro E g a w K Q hw hds hK
  exact h E g a w K Q hw (hc.rep hds) hK
section
variable {P : Program} {o : Oper} {σ : St} {d : D}

theorem op_idxG {t : TypeId} {x ix : Operand} (ho : o.op = .indexAddr t x ix) {e : TypeId} {sz by' : Nat} {z : Option Value} (hs : slTy P t = some (e, sz, by', z)) {q len : Nat} {k : IntKind} {i : Int} (h0 : 0 ≤ i) (h1 : i < len) :
    OpOK P o [.gro q len sz, .v (.int k i)] σ (.ptr q (i.toNat * sz)) σ := by
  refine opOK_run fun E g ρ w hw hds => ?_
  simp only [ho, Op.operands, repDs_two] at hds
  obtain ⟨u, v, eq, h1', h2⟩ := hds
  simp only [List.map_cons, List.map_nil, List.cons.injEq, and_true] at eq
  obtain ⟨e1, e2⟩ := eq
  simp only [repD, repV_int] at h1' h2
  subst h2
  obtain ⟨hq, cap, hc, _, rfl⟩ := h1'
  obtain ⟨inf, hu, hinf, hsize, _, _⟩ := slTy_parts hs
  refine ⟨.pointer (some ⟨g.β q, 0 + i.toNat * sz, none⟩), ?_, by simp [repD, hq]⟩
  simp [execOp, ho, e1, e2, Instr.indexAt, asIntOf, run_underlying hu, h0, h1, sizeOf, typeInfo, hinf, hsize, Addr.add_lit]

theorem op_lenG {x : Operand} {t : TypeId} (ho : o.op = .call { callee := .builtin .len, args := #[x], argTypes := #[t] }) {e : TypeId} (ht : P.underlying t = some (.slice e)) {q len sz : Nat} :
    OpOK P o [.gro q len sz] σ (.v (.int .i64 len)) σ := by
  refine opOK_run fun E g ρ w hw hds => ?_
  simp only [ho, Op.operands, Call.operands, repDs_one] at hds
  obtain ⟨u, e, h1⟩ := hds
  simp at e
  simp only [repD] at h1
  obtain ⟨_, cap, _, _, rfl⟩ := h1
  exact ⟨_, by simp [execOp, ho, e, resolve, invoke, builtin, Builtin.len_, run_underlying ht, goInt]; rfl, by simp [repD]⟩

end

/-- an object's cells, seen anew -/
theorem WI.review {E : Ent} {g : Gh} {σ : St} {w : World} (hw : WI E g σ w) {q : Nat} {cs cs' : List D} (hq : σ.H[q]? = some (some cs)) (h : ∀ us, repDs g cs us → repDs g cs' us) (h1 : ∀ c ∈ cs', c.one = true) : WI E g ⟨σ.H.set q (some cs'), σ.own⟩ w := by
  obtain ⟨us, rest, e, hb, hr, _, _, hκ⟩ := hw.rep.obj q cs hq
  exact hw.setObj hq hb hκ (h us hr) h1 (fun _ _ => rfl) rfl rfl rfl rfl

end Go.Dv

namespace Go.Dv

theorem set_self {α : Type} {l : List α} {s : Nat} {u : α} (h : l[s]? = some u) : l.set s u = l := by
  apply List.ext_getElem?
  intro i
  rw [List.getElem?_set]
  split
  · rename_i e; subst e
    split
    · exact h.symm
    · rw [List.getElem?_eq_none (by omega)]
  · rfl

theorem toV_cells {g : Gh} {d : D} {x : V} {u : Value} (h : d.toV = some x) (hr : repD g d u) : repC g.M x u.cells.toList := repV_cells (toV_rep h hr)

section
variable {P : Program} {o : Oper} {σ : St} {d : D}

/-- a closure that captures data -/
theorem op_makeFunc0 {f : FuncId} {first captured : Array Operand} (ho : o.op = .makeFunc (.func f) first captured) {cs : List D} {ys : List V} (hl : first.size = 0) (hc : toVs cs = some ys) : OpOK P o cs σ (.v (.fn f [] ys)) σ :=
  op_makeFunc (fs := []) (cs := cs) ho (by simp [hl]) rfl hc

/-- a variable that is never written again -/
theorem op_boxI {e : TypeId} {x : Operand} (ho : o.op = .box e x) {y : V} (hy : d.toV = some y) : OpOK P o [d] σ (.v (.ref y)) σ := by
  intro E g a w K Q hw hds hK
  simp only [ho, Op.operands, repDs_one] at hds
  obtain ⟨u, eu, hd⟩ := hds
  simp at eu
  have hc := toV_cells hy hd
  obtain ⟨hw', hle⟩ := hw.newImm u.cells.toList [] e
  rw [List.append_nil] at hw'
  have := hK _ _ (.pointer (some ⟨w.heap.size, 0, none⟩)) hw' hle (by
    simp only [repD, repV_ref]
    exact ⟨w.heap.size, 0, u.cells.toList, rfl, addM_in g.M w.heap.size _, repC.mono hle.M _ _ hc⟩)
  unfold Oper.wp execOp
  simpa [ho, eu, Instr.box, newVar, newRow, Oper.upon] using this
end

section
variable {P : Program} {o : Oper}

theorem wp_alloc {e : TypeId} (ho : o.op = .alloc e) {i : TypeInfo} {z : Value} (hi : P.info? e = some i) (hz : i.zero = some z) {a : Act} {w : World} {K : Act → World → Prop} {Q : Exit → Act → World → Prop}
    (h : K (a.put o.dst (.pointer (some ⟨w.heap.size, 0, none⟩))) (w.alloc (.cells z.cells e))) : o.wp P a w K Q := by
  unfold Oper.wp execOp
  simpa [ho, Instr.alloc, zeroValue, typeInfo, hi, hz, newVar, newRow, Oper.upon] using h

theorem wp_storeAll {t e : TypeId} {x y : Operand} (ho : o.op = .store t x y) {n : Nat} {f : Bool} (ht : szAgg P t = some (n, f)) {a : Act} {w : World} {K : Act → World → Prop} {Q : Exit → Act → World → Prop} {b : Nat} {v : Value} {old : Array Value}
    (ex : a.eval x = .pointer (some ⟨b, 0, none⟩)) (ev : a.eval y = v) (hb : w.heap[b]? = some (.cells old e (0, 0))) (hn : v.cells.size = n) (hold : old.size = n) (h1 : ∀ u ∈ v.cells.toList, u.oneCell' = true)
    (h : K (a.put o.dst undef) (w.setRow b v.cells)) : o.wp P a w K Q := by
  have hst := run_storeCells_at P b 0 e v.cells.toList 0 old w hb (by simp [hn, hold]) h1
  simp only [Nat.add_zero, List.take_zero, List.nil_append, Nat.zero_add] at hst
  rw [List.drop_of_length_le (by simp [hn, hold]), List.append_nil, Array.toArray_toList] at hst
  unfold Oper.wp execOp
  simp only [ho, ex, ev, Instr.storeAt, Instr.sureAddr, Sem.run_bind, Sem.run_pure, Result.andThen_ok, storeVar, run_sizeOf' ht, hn, ne_eq, not_true_eq_false, if_false, hst]
  exact h

theorem setRow_alloc (w : World) (zs us : Array Value) (e : TypeId) : (w.alloc (.cells zs e)).setRow w.heap.size us = w.alloc (.cells us e) := by
  unfold World.setRow World.alloc
  congr 1
  apply Array.ext'
  simp only [Array.toList_push]
  apply List.ext_getElem?
  intro k
  rw [Array.getElem?_toList, Array.getElem?_modify]
  by_cases hk : w.heap.size = k
  · subst hk; simp
  · simp [hk, Array.getElem?_push, Ne.symm hk, List.getElem?_append]
    intro hle
    rw [List.getElem?_eq_none (by simp; omega), Array.getElem?_eq_none (by omega)]
end

theorem eval_put_same {a : Act} {t : Nat} {u : Value} (h : t < a.tmps.size) : (a.put (some t) u).eval (.tmp t) = u := by
  simp [Act.eval, Act.put, Array.getD_eq_getD_getElem?, h]
theorem eval_put_other {a : Act} {t s : Nat} {u : Value} (h : s ≠ t) : (a.put (some t) u).eval (.tmp s) = a.eval (.tmp s) := by
  simp [Act.eval, Act.put, Array.getD_eq_getD_getElem?, Ne.symm h]

theorem zero_cells {P : Program} {t : TypeId} {xs : List V} (h : zeroV P t = some xs) : ∃ i z, P.info? t = some i ∧ i.zero = some z ∧ z.cells.size = xs.length := by
  obtain ⟨i, z, h1, h2, h3⟩ := zeroV_parts h
  refine ⟨i, z, h1, h2, ?_⟩
  rw [← Array.length_toList]
  exact repA_length (constVs_rep (M := fun _ _ => none) h3)

section
variable {C : Ent → Ent → Prop} {P : Program} {R : List D → St → Prop} {c : Code} {p : List Nat} {k : List KI} {env env' : List D} {σ σ' : St} {i : Nat} {o : Oper} {d : D}

/-- a new variable that is written once -/
theorem at_new (sv t : Nat) {oa os : Oper} {e : TypeId} {zs : List V} {n : Nat} {b : Bool} {x : V} (ha : (opsIn (sub c p))[i]? = some oa) (hga : wantD env (opsIn (sub c p)) oa = some true) (hta : oa.dst = some t) (hopa : oa.op = .alloc e) (hz : zeroV P e = some zs)
    (hs : (opsIn (sub c p))[i + 1]? = some os) (hgs : os.guard = none) (hts : os.dst = none) (hops : os.op = .store e (.tmp t) (.tmp sv)) (hne : sv ≠ t) (hsv : env[sv]? = some d) (hx : d.toV = some x) (hsz : szAgg P e = some (n, b)) (hxn : x.size = n) (hzn : zs.length = n) (ht : t < env.length) (he : env.set t (.v (.ref x)) = env')
    (hk : OpsAtC C P R c p (i + 2) k env' σ) : OpsAtC C P R c p i k env σ := by
  subst he
  intro E0 E g a w B hC hf hB
  obtain ⟨inf, z, hi, hz1, hzc⟩ := zero_cells hz
  have hsize : t < a.tmps.size := by rw [← Array.length_toList, repDs_length hf.env]; exact ht
  obtain ⟨v, hv, hrv⟩ := repDs_get hf.env hsv
  have hev : a.eval (.tmp sv) = v := by
    have hv' : a.tmps[sv]? = some v := by rw [← Array.getElem?_toList]; exact hv
    simp [Act.eval, Array.getD_eq_getD_getElem?, hv']
  have hcr := repV_cellsV (toV_rep hx hrv)
  rw [ops_drop ha]
  unfold wpList
  rw [if_pos (wanted_of hf.env hga)]
  refine .inl (wp_alloc hopa hi hz1 ?_)
  rw [ops_drop hs]
  unfold wpList
  rw [if_pos (by simp [Region.wanted, hgs])]
  refine .inl (wp_storeAll hops hsz (v := v) (e := e) (old := z.cells) (b := w.heap.size) ?_ ?_ (heap_alloc_new w _) (by rw [hcr.2, hxn]) (by rw [hzc, hzn]) (repA_oneCell hcr.1) ?_)
  · rw [hta]; exact eval_put_same hsize
  · rw [hta, eval_put_other hne]; exact hev
  rw [setRow_alloc, hts, hta]
  obtain ⟨hw', hle⟩ := hf.wi.newImm v.cells.toList [] e
  rw [List.append_nil, Array.toArray_toList] at hw'
  refine hk E0 E _ _ _ B hC (hf.put hw' hle (d := .v (.ref x)) ?_ (some t)) hB
  simp only [repD, repV_ref]
  exact ⟨w.heap.size, 0, v.cells.toList, rfl, addM_in g.M w.heap.size _, repC.mono hle.M _ _ (toV_cells hx hrv)⟩

/-- the same, with a copy between -/
theorem at_new1 (sv t s2 t2 : Nat) {oa om os : Oper} {e : TypeId} {zs : List V} {n : Nat} {b : Bool} {x : V} {d2 : D} (ha : (opsIn (sub c p))[i]? = some oa) (hga : wantD env (opsIn (sub c p)) oa = some true) (hta : oa.dst = some t) (hopa : oa.op = .alloc e) (hz : zeroV P e = some zs)
    (hm : (opsIn (sub c p))[i + 1]? = some om) (hgm : om.guard = none) (htm : om.dst = some t2) (hopm : om.op = .move (.tmp s2) ∨ om.op = .assign (.tmp s2)) (hs2 : env[s2]? = some d2) (hn1 : s2 ≠ t) (hn2 : t2 ≠ t) (hn3 : sv ≠ t2)
    (hs : (opsIn (sub c p))[i + 2]? = some os) (hgs : os.guard = none) (hts : os.dst = none) (hops : os.op = .store e (.tmp t) (.tmp sv)) (hne : sv ≠ t) (hsv : env[sv]? = some d) (hx : d.toV = some x) (hsz : szAgg P e = some (n, b)) (hxn : x.size = n) (hzn : zs.length = n) (ht : t < env.length) (he : (env.set t (.v (.ref x))).set t2 d2 = env')
    (hk : OpsAtC C P R c p (i + 3) k env' σ) : OpsAtC C P R c p i k env σ := by
  subst he
  intro E0 E g a w B hC hf hB
  obtain ⟨inf, z, hi, hz1, hzc⟩ := zero_cells hz
  have hsize : t < a.tmps.size := by rw [← Array.length_toList, repDs_length hf.env]; exact ht
  obtain ⟨v, hv, hrv⟩ := repDs_get hf.env hsv
  obtain ⟨v2, hv2, hrv2⟩ := repDs_get hf.env hs2
  have hev : a.eval (.tmp sv) = v := by
    have hv' : a.tmps[sv]? = some v := by rw [← Array.getElem?_toList]; exact hv
    simp [Act.eval, Array.getD_eq_getD_getElem?, hv']
  have hev2 : a.eval (.tmp s2) = v2 := by
    have hv' : a.tmps[s2]? = some v2 := by rw [← Array.getElem?_toList]; exact hv2
    simp [Act.eval, Array.getD_eq_getD_getElem?, hv']
  have hcr := repV_cellsV (toV_rep hx hrv)
  rw [ops_drop ha]
  unfold wpList
  rw [if_pos (wanted_of hf.env hga)]
  refine .inl (wp_alloc hopa hi hz1 ?_)
  rw [ops_drop hm]
  unfold wpList
  rw [if_pos (by simp [Region.wanted, hgm])]
  refine .inl ?_
  have hmid : ∀ (a' : Act) (w' : World) (K : Act → World → Prop) (Q : Exit → Act → World → Prop), a'.eval (.tmp s2) = v2 → K (a'.put om.dst v2) w' → om.wp P a' w' K Q := by
    intro a' w' K Q h1 h2
    unfold Oper.wp execOp
    rcases hopm with h | h <;> simpa [h, h1, Oper.upon] using h2
  refine hmid _ _ _ _ (by rw [hta, eval_put_other hn1]; exact hev2) ?_
  rw [ops_drop hs]
  unfold wpList
  rw [if_pos (by simp [Region.wanted, hgs])]
  refine .inl (wp_storeAll hops hsz (v := v) (e := e) (old := z.cells) (b := w.heap.size) ?_ ?_ (heap_alloc_new w _) (by rw [hcr.2, hxn]) (by rw [hzc, hzn]) (repA_oneCell hcr.1) ?_)
  · rw [hta, htm, eval_put_other (Ne.symm hn2)]; exact eval_put_same hsize
  · rw [hta, htm, eval_put_other hn3, eval_put_other hne]; exact hev
  rw [setRow_alloc, hts, hta, htm]
  obtain ⟨hw', hle⟩ := hf.wi.newImm v.cells.toList [] e
  rw [List.append_nil, Array.toArray_toList] at hw'
  have hf1 := hf.put hw' hle (u := .pointer (some ⟨w.heap.size, 0, none⟩)) (d := .v (.ref x)) (by
    simp only [repD, repV_ref]
    exact ⟨w.heap.size, 0, v.cells.toList, rfl, addM_in g.M w.heap.size _, repC.mono hle.M _ _ (toV_cells hx hrv)⟩) (some t)
  exact hk E0 E _ _ _ B hC (hf1.put hf1.wi (Gh.le_refl _) (repD.mono hle _ _ hrv2) (some t2)) hB
end

end Go.Dv

namespace Go.Dv

def constN : Value → Option V
  | .slice none 0 0 => some .nils
  | u => constV u
def constNs : List Value → Option (List V)
  | [] => some []
  | u :: us => match constN u, constNs us with
    | some x, some xs => some (x :: xs)
    | _, _ => none
theorem constN_rep {M : Mem} {u : Value} {x : V} (h : constN u = some x) : x.isAgg = false ∧ repC M x [u] := by
  unfold constN at h
  split at h
  · simp at h; subst h; simp [V.isAgg, repC]
  · exact constV_rep h
theorem constNs_rep {M : Mem} : ∀ {us : List Value} {xs : List V}, constNs us = some xs → repA M xs us
  | [], xs, h => by simp [constNs] at h; subst h; simp [repA]
  | u :: us, xs, h => by
    simp only [constNs] at h
    split at h
    · rename_i x xs' h1 h2
      simp at h; subst h
      obtain ⟨h3, h4⟩ := constN_rep (M := M) h1
      simp only [repA]
      exact ⟨u, us, rfl, h3, h4, constNs_rep h2⟩
    · simp at h
def zeroN (P : Program) (t : TypeId) : Option (List V) :=
  match (P.info? t).bind (·.zero) with
  | some z => constNs z.cells.toList
  | none => none
theorem zeroN_parts {P : Program} {t : TypeId} {xs : List V} (h : zeroN P t = some xs) : ∃ i z, P.info? t = some i ∧ i.zero = some z ∧ constNs z.cells.toList = some xs := by
  unfold zeroN at h
  split at h
  · rename_i z hz
    cases hi : P.info? t with
    | none => simp [hi] at hz
    | some i => exact ⟨i, z, rfl, by simpa [hi] using hz, h⟩
  · simp at h
/-- a struct's zero cells, nil slices as such, and the places of its parts -/
def bldN (P : Program) (t : TypeId) : Option (List V × List (Nat × Nat)) :=
  match zeroN P t, P.underlying t with
  | some z, some (.struct fs) => (fs.toList.mapM (fun f => (P.info? f.type).map fun i => (f.offset, i.size))).map fun p => (z, p)
  | _, _ => none

section
variable {P : Program} {o : Oper} {σ : St} {d : D}

theorem op_allocN {e : TypeId} (ho : o.op = .alloc e) {xs : List V} (hz : zeroN P e = some xs) : OpOK P o [] σ (.ptr σ.H.length 0) ⟨σ.H ++ [some (xs.map .v)], σ.own⟩ := by
  intro E g a w K Q hw hds hK
  obtain ⟨i, z, hi, hz1, hc⟩ := zeroN_parts hz
  obtain ⟨h2, h3⟩ := repA_repDs (g := g) (constNs_rep hc)
  obtain ⟨g', hw', hle, hβ, hn⟩ := hw.newObj e h2 h3
  have := hK g' _ (.pointer (some ⟨w.heap.size, 0, none⟩)) hw' hle (by simp only [repD]; exact ⟨by omega, by rw [hβ]⟩)
  unfold Oper.wp execOp
  simpa [ho, Instr.alloc, zeroValue, typeInfo, hi, hz1, newVar, newRow, Oper.upon] using this

theorem op_buildN {t : TypeId} {parts : Array (Nat × Operand)} (ho : o.op = .build t parts) {z : List V} {places : List (Nat × Nat)} (hb : bldN P t = some (z, places)) {ds : List D} {xs : List (Nat × V)} {out : List V}
    (hx : zipParts parts.toList ds = some xs) (hf : fillV (places[·]?) z xs = some out) : OpOK P o ds σ (.v (.agg out)) σ := by
  intro E g a w K Q hw hds hK
  simp only [ho, Op.operands] at hds
  have hpr := zipParts_rep hx (a := a) (g := g) (by simpa [Function.comp_def] using hds)
  unfold bldN at hb
  have key : ∃ U, P.built t (parts.toList.map fun p => (p.1, a.eval p.2)) = some U ∧ repA g.M out U.toList := by
    cases hz : zeroN P t with
    | none => simp [hz] at hb
    | some z0 =>
      obtain ⟨i, zv, hi, hz1, hcv⟩ := zeroN_parts hz
      cases hu : P.underlying t with
      | none => simp [hz, hu] at hb
      | some dd =>
        cases dd <;> simp only [hz, hu, reduceCtorEq] at hb
        case struct fs =>
          cases hp : fs.toList.mapM (fun f => (P.info? f.type).map fun i => (f.offset, i.size)) with
          | none => simp [hp] at hb
          | some pl =>
            simp [hp] at hb
            obtain ⟨rfl, rfl⟩ := hb
            obtain ⟨U, hU, hrU⟩ := fill_rep hpr (constNs_rep (M := g.M) hcv) hf
            exact ⟨U, by simpa [Program.built, hi, hu, hz1, hp] using hU, hrU⟩
  obtain ⟨U, hU, hrU⟩ := key
  have := hK g w (.agg U) hw g.le_refl (by simp only [repD, repV_agg]; exact ⟨U.toList, hrU, by simp⟩)
  have hrun := run_build (P := P) w t (parts.map fun p => (p.1, a.eval p.2)) U (by simpa using hU)
  unfold Oper.wp execOp
  simp only [ho]
  simp only [Sem.run_bind]
  rw [show (parts.map fun (x : Nat × Operand) => match x with | (i, x) => (i, a.eval x)) = parts.map fun p => (p.1, a.eval p.2) from rfl, hrun]
  exact this

/-- make([]T, n), T of one cell: a new object, nil slices as such -/
theorem op_makeN {t : TypeId} {x y : Operand} (ho : o.op = .makeSlice t x y) {e : TypeId} {by' : Nat} {z : Value} (hs : slTy P t = some (e, 1, by', some z)) {zv : V} (hz : constN z = some zv) {k k' : IntKind} {n : Int} (h0 : 0 ≤ n) (hn : (by' : Int) * n ≤ 281474976710656) (hn2 : n ≤ 9223372036854775807) :
    OpOK P o [.v (.int k n), .v (.int k' n)] σ (.arr σ.H.length 0 n.toNat) ⟨σ.H ++ [some (List.replicate n.toNat (.v zv))], σ.own⟩ := by
  intro E g a w K Q hw hds hK
  simp only [ho, Op.operands, repDs_two] at hds
  obtain ⟨u, v, eq, h1, h2⟩ := hds
  simp only [List.map_cons, List.map_nil, List.cons.injEq, and_true] at eq
  obtain ⟨e1, e2⟩ := eq
  simp only [repD, repV_int] at h1 h2
  subst h1 h2
  obtain ⟨i, hu, hi, hsz, hby, hzz⟩ := slTy_parts hs
  obtain ⟨hza, hzc⟩ := constN_rep (M := g.M) hz
  have hz1 : z.cells = #[z] := by
    obtain ⟨u', e, _, h3⟩ := repC_one hza hzc
    simp at e; subst e; exact cells_one h3
  have hrun := run_make (P := P) w t e i z hu hi hzz k k' n n h0 (Int.le_refl _) (by rw [hby]; exact hn) hn2
  rw [hsz, Nat.mul_one, hz1, madeCells_one] at hrun
  have hr : ∀ m, repDs g (List.replicate m (.v zv)) (List.replicate m z) := by
    intro m
    induction m with
    | zero => simp [repDs]
    | succ m ih => simp only [List.replicate_succ, repDs, repD]; exact ⟨z, _, rfl, (repV_one hza).2 hzc, ih⟩
  obtain ⟨g', hw', hle, hβ, hn'⟩ := hw.newObj e (hr n.toNat) (fun c hc => by rw [List.mem_replicate] at hc; rw [hc.2]; simp [D.one, hza])
  have := hK g' _ (.slice (some ⟨w.heap.size, 0, none⟩) n.toNat n.toNat) hw' hle (by simp only [repD]; exact ⟨by omega, n.toNat, Nat.le_refl _, by rw [hβ]⟩)
  unfold Oper.wp execOp
  simp only [ho, e1, e2, Sem.run_bind, hrun, Result.andThen_ok]
  exact this
end

/- CELLS SEEN ANEW -/

/-- what one cell list says, another one says -/
def Sees (cs cs' : List D) : Prop := (∀ g us, repDs g cs us → repDs g cs' us) ∧ ((∀ c ∈ cs, c.one = true) → ∀ c ∈ cs', c.one = true)

/-- one cell, seen as less -/
inductive See1 : D → D → Prop
  | same {d : D} : See1 d d
  | acc {k : Nat} {xs : List V} : See1 (.acc k xs) (.v (.list xs))
  | nils : See1 (.v .nils) (.v (.list []))
  | rawnil : See1 (.raw (.slice none 0 0)) (.v .nils)
  | rv {x : V} {u : Value} : See1 (.rv x u) (.v x)
theorem See1.rep {d d' : D} (h : See1 d d') {g : Gh} {u : Value} (hr : repD g d u) : repD g d' u := by
  cases h with
  | same => exact hr
  | acc => simp only [repD] at hr ⊢; exact hr.1
  | nils => simp only [repD, repV_nils] at hr ⊢; subst hr; exact repV_nil _
  | rawnil => simp only [repD, repV_nils] at hr ⊢; exact hr
  | rv => simp only [repD] at hr ⊢; rw [hr.1]; exact hr.2
theorem See1.one {d d' : D} (h : See1 d d') (h1 : d.one = true) : d'.one = true := by
  cases h with
  | same => exact h1
  | acc => rfl
  | nils => rfl
  | rawnil => rfl
  | rv => simpa [D.one] using h1
inductive SeeL : List D → List D → Prop
  | nil : SeeL [] []
  | cons {d d' : D} {cs cs' : List D} (h : See1 d d') (hs : SeeL cs cs') : SeeL (d :: cs) (d' :: cs')
theorem SeeL.sees : ∀ {cs cs' : List D}, SeeL cs cs' → Sees cs cs'
  | _, _, .nil => ⟨fun _ _ h => h, fun h => h⟩
  | _, _, .cons h hs => by
    refine ⟨fun g us hr => ?_, fun h1 c hc => ?_⟩
    · simp only [repDs] at hr ⊢
      obtain ⟨u, us', e, h2, h3⟩ := hr
      exact ⟨u, us', e, h.rep h2, hs.sees.1 g us' h3⟩
    · rcases List.mem_cons.1 hc with e | hc
      · rw [e]; exact h.one (h1 _ (List.mem_cons_self))
      · exact hs.sees.2 (fun c hc => h1 c (List.mem_cons_of_mem _ hc)) c hc
theorem SeeL.refl : ∀ cs : List D, SeeL cs cs
  | [] => .nil
  | _ :: cs => .cons .same (SeeL.refl cs)
theorem SeeL.set {d d' : D} (h : See1 d d') : ∀ {cs : List D} {j : Nat}, cs[j]? = some d → SeeL cs (cs.set j d')
  | [], j, hj => by simp at hj
  | c :: cs, 0, hj => by simp at hj; subst hj; exact .cons h (SeeL.refl cs)
  | c :: cs, j + 1, hj => by simp at hj; exact .cons .same (SeeL.set h hj)

/-- operands seen as less -/
theorem opOK_see {P : Program} {o : Oper} {ds ds' : List D} {σ σ' : St} {d : D} (hs : SeeL ds ds') (h : OpOK P o ds' σ d σ') : OpOK P o ds σ d σ' := fun E g a w K Q hw hds hK => h E g a w K Q hw (hs.sees.1 g _ hds) hK

/-- a result, seen otherwise before -/
theorem resOK_cv {P : Program} {fn : Func} {env env' : List D} {σ σ' σr : St} {d : D} (h : Cv env σ env' σ') (hr : ResOK P fn env' σ' d σr) : ResOK P fn env σ d σr := fun E g a w hf hE => by
  obtain ⟨g', hf'⟩ := h E g a w hf
  exact hr E g' a w hf' hE

/-- an object's cells, seen as less -/
theorem cv_see {env : List D} {σ : St} {q : Nat} {cs cs' : List D} (hq : σ.H[q]? = some (some cs)) (h : Sees cs cs') : Cv env σ env ⟨σ.H.set q (some cs'), σ.own⟩ := fun E g a w hf => by
  obtain ⟨_, _, _, _, _, h1, _⟩ := hf.wi.rep.obj q cs hq
  exact ⟨g, hf.wi.review hq (fun us hr => h.1 g us hr) (h.2 h1), hf.env, hf.defers⟩

/-- a nil cell becomes a list to append to -/
theorem cv_claim {env : List D} {σ : St} (q j k sz : Nat) {cs : List D} (hq : σ.H[q]? = some (some cs)) (hj : cs[j]? = some (.v .nils)) (hk : ∀ x ∈ σ.own, x.1 ≠ k) (hsz : 0 < sz) :
    Cv env σ env ⟨σ.H.set q (some (cs.set j (.acc k []))), (k, sz, []) :: σ.own⟩ := fun E g a w hf => by
  obtain ⟨hw1, hle1⟩ := hf.wi.addOwn (k := k) (sz := sz) (xs := []) (u := .slice none 0 0) hk ⟨hsz, by simp⟩ (repV_nil _) (.inl ⟨none, rfl⟩) (fun b hb => by simp [ownB] at hb)
  obtain ⟨_, _, _, _, _, h1, _⟩ := hf.wi.rep.obj q cs hq
  have hw2 := hw1.review (cs' := cs.set j (.acc k [])) hq (fun us hr => by
    obtain ⟨u, hu, hru⟩ := repDs_get hr hj
    simp only [repD, repV_nils] at hru
    subst hru
    have := repDs_set hr j (d := .acc k []) (u := .slice none 0 0) (by simp only [repD]; exact ⟨repV_nil _, by simp⟩)
    rwa [set_self hu] at this) (fun c hc => by
    rcases List.mem_or_eq_of_mem_set hc with h | h
    · exact h1 c h
    · subst h; rfl)
  exact ⟨_, hw2, repDs.mono hle1 _ _ hf.env, hf.defers⟩

/- GROWING LISTS, DATA APPENDED -/
theorem repE_repDs {g : Gh} {sz : Nat} : ∀ {ys : List V} {us : List Value}, repE g.M sz ys us → repDs g ((ys.flatMap V.cellsV).map .v) us ∧ ∀ c ∈ (ys.flatMap V.cellsV).map D.v, c.one = true
  | [], us, h => by simp only [repE] at h; subst h; simp [repDs]
  | y :: ys, us, h => by
    simp only [repE] at h
    obtain ⟨u1, u2, rfl, hl, h1, h2⟩ := h
    obtain ⟨h3, h4⟩ := repE_repDs h2
    have hA : repA g.M y.cellsV u1 := by
      cases hy : y.isAgg with
      | true =>
        cases y with
        | agg cs => simpa only [V.cellsV, repC] using h1
        | _ => simp [V.isAgg] at hy
      | false =>
        obtain ⟨u', e1, _, _⟩ := repC_one hy h1
        have e : y.cellsV = [y] := by cases y <;> simp_all [V.cellsV, V.isAgg]
        rw [e, e1]
        simp only [repA]
        exact ⟨u', [], rfl, hy, by rw [← e1]; exact h1, rfl⟩
    obtain ⟨h5, h6⟩ := repA_repDs (g := g) hA
    refine ⟨by simpa using repDs_append h5 h3, fun c hc => ?_⟩
    simp only [List.flatMap_cons, List.map_append, List.mem_append] at hc
    rcases hc with hc | hc
    · exact h6 c hc
    · exact h4 c hc

section
variable {P : Program} {o : Oper} {σ : St} {d : D}

theorem appendG_core {E : Ent} {g : Gh} {w : World} (hw : WI E g σ w) {t ty e : TypeId} {sz by' : Nat} {z : Value} (hs : slTy P t = some (e, sz, by', some z)) (hzc : z.cells.size = sz)
    {q len n cap cap2 : Nat} {cs cs2 : List D} {vs : List Value} {ad : Addr} (hq : σ.H[q]? = some (some cs)) (hl : cs.length = len * sz) (hvl0 : vs.length = n * sz) (hr2 : repDs g cs2 vs) (h12 : ∀ c ∈ cs2, c.one = true) (hnews : ∀ j u, vs[j]? = some u → w.cell? (ad.add j) = some u)
    (_hcap : len ≤ cap) (hκ : cap * sz = g.κ q) (_hpos : 0 < n) (hlen : (len + n) * by' ≤ 140737488355328) (hlen2 : len + n ≤ 140737488355328) :
    ∃ u' w' g', (Builtin.append_ #[t, t] ty #[.slice (some ⟨g.β q, 0, none⟩) len cap, .slice (some ad) n cap2]).run P w = .ok u' w' ∧
      WI E g' ⟨σ.H.set q none ++ [some (cs ++ cs2)], σ.own⟩ w' ∧ g.le g' ∧ repD g' (.gro σ.H.length (len + n) sz) u' := by
  obtain ⟨i, ht, hi, hisz, hib, hiz⟩ := slTy_parts hs
  obtain ⟨us, rest, et, hb, hr, h1, hM, hκ1⟩ := hw.rep.obj q cs hq
  have hul : us.length = len * sz := by rw [repDs_length hr, hl]
  have hvl : vs.length = n * i.size := by rw [hvl0, hisz]
  have holds : ∀ j u, us[j]? = some u → w.cell? ((⟨g.β q, 0, none⟩ : Addr).add j) = some u := fun j u hj => by
    rw [Addr.add_lit]; simp only [World.cell?, hb, Nat.zero_add, List.getElem?_toArray]; exact get_app hj
  have hone : ∀ u ∈ vs, u.oneCell' = true := repDs_oneCells h12 hr2
  have hcs : ∀ c ∈ cs ++ cs2, c.one = true := fun c hc => by
    rcases List.mem_append.1 hc with h | h
    · exact h1 c h
    · exact h12 c h
  by_cases hroom : len + n ≤ cap
  · have hfit : len * i.size + vs.length ≤ (us ++ rest).toArray.size := by
      rw [List.size_toArray, hκ1, ← hκ, hvl, hisz, ← Nat.add_mul]
      exact Nat.mul_le_mul_right _ hroom
    have hrun := run_append_room' (P := P) w t ty e et i ht hi (g.β q) len cap (us ++ rest).toArray hb ad n cap2 vs hvl hnews hone hroom hfit
    have hrow : (us ++ rest).toArray.toList.take (len * i.size) ++ vs ++ (us ++ rest).toArray.toList.drop (len * i.size + vs.length) = (us ++ vs) ++ rest.drop vs.length := by
      simp only [hisz, ← hul]
      rw [List.take_left', List.drop_append, List.drop_of_length_le (by omega)] <;> simp
    rw [hrow] at hrun
    have hlen3 : ((us ++ vs) ++ rest.drop vs.length).length = g.κ q := by
      rw [← hκ1]
      simp only [List.size_toArray, List.length_append] at hfit
      simp only [List.length_append, List.length_drop]
      rw [hisz, ← hul] at hfit
      omega
    have hw1 := hw.setObj (cs' := cs ++ cs2) (w' := w.setRow (g.β q) ((us ++ vs) ++ rest.drop vs.length).toArray) hq (us := us ++ vs) (rest := rest.drop vs.length) (e := et) (setRow_heap w _ _ _ et _ hb) hlen3 (repDs_append hr hr2) hcs (fun b hb => setRow_other w _ _ _ hb) (by simp) rfl rfl rfl
    have hq' : (σ.H.set q (some (cs ++ cs2)))[q]? = some (some (cs ++ cs2)) := by
      rw [List.getElem?_set]; simp; exact (List.getElem?_eq_some_iff.1 hq).1
    obtain ⟨g', h3, h4, h5, h6, h7⟩ := hw1.rename (q := q) hq'
    simp only [List.set_set, List.length_set] at h3 h5 h6 h7
    exact ⟨_, _, g', hrun, h3, h4, by simp only [repD]; exact ⟨by omega, cap, hroom, by rw [h6]; exact hκ, by rw [h5]⟩⟩
  · have hfitc : Builtin.nextslicecap (len + n) cap * i.bytes ≤ 281474976710656 := growslice_fits (by omega) (by rw [hib]; exact hlen)
    have hrun := run_append_grow (P := P) w t ty e i z ht hi hiz ⟨g.β q, 0, none⟩ len cap us (by rw [hul, hisz]) holds ad n cap2 vs hvl hnews (by omega) (by omega) hfitc
    have hge := grownCap_ge w (len + n) cap e
    have hcell : us.toArray ++ vs.toArray ++ Builtin.zeroCells z.cells (grownCap w (len + n) cap e - (len + n)) = ((us ++ vs) ++ (Builtin.zeroCells z.cells (grownCap w (len + n) cap e - (len + n))).toList).toArray := by
      apply Array.ext'; simp
    rw [hcell] at hrun
    obtain ⟨g', h3, h4, h5, h6, h7⟩ := (hw.drew.kill hq).newObjR (us := us ++ vs) (rest := (Builtin.zeroCells z.cells (grownCap w (len + n) cap e - (len + n))).toList) (cs := cs ++ cs2) e (repDs_append hr hr2) hcs
    simp only [List.length_set] at h3 h5 h6 h7
    refine ⟨_, _, g', hrun, h3, h4, ?_⟩
    simp only [repD]
    refine ⟨by omega, _, hge, ?_, by rw [h5]; rfl⟩
    rw [h6]
    simp only [List.length_append, Array.length_toList, size_zeroCells, hzc, hul, hvl, hisz, ← Nat.add_mul]
    congr 1; omega

/-- the cells of a list of data -/
def flatV (ys : List V) : List D := (ys.flatMap V.cellsV).map .v

/-- append data to a growing list -/
theorem op_appendGV {x y : Operand} {t : TypeId} (ho : o.op = .call { callee := .builtin .append, args := #[x, y], argTypes := #[t, t] }) {e : TypeId} {sz by' : Nat} {z : Value} (hs : slTy P t = some (e, sz, by', some z)) (hzc : z.cells.size = sz) (hsz : 0 < sz)
    {q len : Nat} {cs : List D} {ys : List V} (hq : σ.H[q]? = some (some cs)) (hl : cs.length = len * sz) (hys : ∀ y ∈ ys, y.size = sz) (hpos : ys ≠ []) (hlen : (len + ys.length) * by' ≤ 140737488355328) (hlen2 : len + ys.length ≤ 140737488355328) :
    OpOK P o [.gro q len sz, .v (.list ys)] σ (.gro σ.H.length (len + ys.length) sz) ⟨σ.H.set q none ++ [some (cs ++ flatV ys)], σ.own⟩ := by
  intro E g a w K Q hw hds hK
  simp only [ho, Op.operands, Call.operands] at hds
  obtain ⟨u, v, eq, hu, hv⟩ := repDs_two.1 (by simpa using hds)
  simp only [List.cons.injEq, and_true] at eq
  simp only [repD] at hu hv
  obtain ⟨hqn, cap, hcap, hκ, rfl⟩ := hu
  obtain ⟨ad, cap2, rfl, hc2, hor⟩ := repV_list_cells hv hys hsz
  rcases hor with h | ⟨b, off, us, rfl, hin, hE⟩
  · exact absurd h hpos
  obtain ⟨h5, h6⟩ := repE_repDs hE
  obtain ⟨u', w', g', hrun, hw', hle, hd⟩ := appendG_core (ty := o.type) (cap2 := cap2) hw hs hzc hq hl (repE_length hE) h5 h6 (mem_cells hw hin) hcap hκ (List.length_pos_iff.2 hpos) hlen hlen2
  have := hK g' w' u' hw' hle hd
  unfold Oper.wp execOp
  simp only [ho, resolve, invoke, builtin, Sem.run_bind, Sem.run_pure, Result.andThen_ok, List.map_toArray, List.map_cons, List.map_nil, eq.1, eq.2, hrun]
  exact this

/-- append data to what is exactly nil: a growing list -/
theorem op_appendG0V {x y : Operand} {t : TypeId} (ho : o.op = .call { callee := .builtin .append, args := #[x, y], argTypes := #[t, t] }) {e : TypeId} {sz by' : Nat} {z : Value} (hs : slTy P t = some (e, sz, by', some z)) (hzc : z.cells.size = sz) (hsz : 0 < sz)
    {ys : List V} (hys : ∀ y ∈ ys, y.size = sz) (hpos : ys ≠ []) (hlen : ys.length * by' ≤ 140737488355328) (hlen2 : ys.length ≤ 140737488355328) :
    OpOK P o [.v .nils, .v (.list ys)] σ (.gro σ.H.length ys.length sz) ⟨σ.H ++ [some (flatV ys)], σ.own⟩ := by
  intro E g a w K Q hw hds hK
  simp only [ho, Op.operands, Call.operands] at hds
  obtain ⟨u, v, eq, hu, hv⟩ := repDs_two.1 (by simpa using hds)
  simp only [List.cons.injEq, and_true] at eq
  simp only [repD, repV_nils] at hu hv
  subst hu
  obtain ⟨ad, cap2, rfl, hc2, hor⟩ := repV_list_cells hv hys hsz
  rcases hor with h | ⟨b, off, us, rfl, hin, hE⟩
  · exact absurd h hpos
  obtain ⟨h5, h6⟩ := repE_repDs hE
  obtain ⟨i, ht, hi, hisz, hib, hiz⟩ := slTy_parts hs
  have hvl : us.length = ys.length * i.size := by rw [repE_length hE, hisz]
  have hrun := run_append_nil (P := P) w t o.type e i z ht hi hiz ⟨b, off, none⟩ ys.length cap2 us hvl (mem_cells hw hin) (List.length_pos_iff.2 hpos) (by omega) (by rw [hib]; omega)
  have hge := grownCap_ge w ys.length 0 e
  have hcell : us.toArray ++ Builtin.zeroCells z.cells (grownCap w ys.length 0 e - ys.length) = (us ++ (Builtin.zeroCells z.cells (grownCap w ys.length 0 e - ys.length)).toList).toArray := by
    apply Array.ext'; simp
  rw [hcell] at hrun
  obtain ⟨g', h3, h4, h5', h6', h7⟩ := hw.drew.newObjR (us := us) (rest := (Builtin.zeroCells z.cells (grownCap w ys.length 0 e - ys.length)).toList) (cs := flatV ys) e h5 h6
  have hd : repD g' (.gro σ.H.length ys.length sz) (.slice (some ⟨w.heap.size, 0, none⟩) ys.length (grownCap w ys.length 0 e)) := by
    simp only [repD]
    refine ⟨by omega, _, hge, ?_, by rw [h5']; rfl⟩
    rw [h6']
    simp only [List.length_append, Array.length_toList, size_zeroCells, hzc, hvl, hisz, ← Nat.add_mul]
    congr 1; omega
  have := hK g' _ _ h3 h4 hd
  unfold Oper.wp execOp
  simp only [ho, resolve, invoke, builtin, Sem.run_bind, Sem.run_pure, Result.andThen_ok, List.map_toArray, List.map_cons, List.map_nil, eq.1, eq.2, hrun]
  exact this

/-- an operation that holds whatever the values of an object's cells are -/
theorem opOK_raws {ds : List D} {q q' : Nat} {cs new : List D} {H2 : List (Option (List D))} {own' : List (Nat × Nat × List V)} (hq : σ.H[q]? = some (some cs)) (hq' : q' < H2.length)
    (h : ∀ us : List Value, us.length = cs.length → (∀ u ∈ us, u.oneCell' = true) → OpOK P o ds ⟨σ.H.set q (some (us.map .raw)), σ.own⟩ d ⟨H2.set q' (some (us.map .raw ++ new)), own'⟩) :
    OpOK P o ds σ d ⟨H2.set q' (some (cs ++ new)), own'⟩ := by
  intro E g a w K Q hw hds hK
  obtain ⟨us, rest, e, hb, hr, h1, hM, hκ⟩ := hw.rep.obj q cs hq
  have hraw : ∀ (us : List Value), repDs g (us.map .raw) us := by
    intro us
    induction us with
    | nil => simp [repDs]
    | cons u us ih => simp only [List.map_cons, repDs, repD]; exact ⟨u, us, rfl, rfl, ih⟩
  have hone := repDs_oneCells h1 hr
  have hw1 := hw.setObj (cs' := us.map .raw) hq hb hκ (hraw us) (fun c hc => by
    obtain ⟨u, hu, rfl⟩ := List.mem_map.1 hc
    simpa [D.one] using hone u hu) (fun _ _ => rfl) rfl rfl rfl rfl
  refine h us (repDs_length hr) hone E g a w K Q hw1 hds fun g' w' u hw' hle hd => ?_
  refine hK g' w' u ?_ hle hd
  have hq2 : (H2.set q' (some (us.map .raw ++ new)))[q']? = some (some (us.map .raw ++ new)) := by simp [hq']
  obtain ⟨us', rest', e', hb', hr', h1', hM', hκ'⟩ := hw'.rep.obj q' _ hq2
  have hsplit : ∀ (us : List Value) (us' : List Value), repDs g' (us.map .raw ++ new) us' → ∃ vs, us' = us ++ vs ∧ repDs g' new vs := by
    intro us
    induction us with
    | nil => intro us' h; exact ⟨us', rfl, by simpa using h⟩
    | cons u us ih =>
      intro us' h
      simp only [List.map_cons, List.cons_append, repDs, repD] at h
      obtain ⟨v, us1, rfl, rfl, h2⟩ := h
      obtain ⟨vs, rfl, h3⟩ := ih us1 h2
      exact ⟨vs, rfl, h3⟩
  obtain ⟨vs, rfl, hnew⟩ := hsplit us us' hr'
  have := hw'.setObj (cs' := cs ++ new) (w' := w') hq2 hb' hκ' (repDs_append (repDs.mono hle _ _ hr) hnew) (fun c hc => by
    rcases List.mem_append.1 hc with hc | hc
    · exact h1 c hc
    · exact h1' c (List.mem_append_right _ hc)) (fun _ _ => rfl) rfl rfl rfl rfl
  simpa using this
end

end Go.Dv

namespace Go.Dv

/-- a slot value, seen as data through objects that are not written meanwhile -/
def lends (L : Nat → Option (List D)) : Nat → D → V → Prop
  | 0, d, x => ∃ d', See1 d d' ∧ d'.toV = some x
  | n + 1, d, x => (∃ d', See1 d d' ∧ d'.toV = some x) ∨
    (∃ o off cs x', d = .ptr o off ∧ x = .ref x' ∧ L o = some cs ∧ ∀ j y, x'.cellsV[j]? = some y → y.isAgg = false ∧ ∃ c, cs[off + j]? = some c ∧ lends L n c y) ∨
    (∃ o off sz cs xs, (d = .arr o off xs.length ∨ (∃ sz', d = .gro o xs.length sz' ∧ off = 0)) ∧ x = .list xs ∧ 0 < sz ∧ (∀ y ∈ xs, y.size = sz) ∧ L o = some cs ∧ ∀ j y, (xs.flatMap V.cellsV)[j]? = some y → y.isAgg = false ∧ ∃ c, cs[off + j]? = some c ∧ lends L n c y)

theorem repA_of {M : Mem} : ∀ {ys : List V} {us : List Value}, us.length = ys.length → (∀ (j : Nat) (y : V), ys[j]? = some y → y.isAgg = false ∧ ∃ v, us[j]? = some v ∧ repV M y v) → repA M ys us
  | [], us, hl, _ => by simp only [repA]; exact List.eq_nil_of_length_eq_zero (by simpa using hl)
  | y :: ys, [], hl, _ => by simp at hl
  | y :: ys, u :: us, hl, h => by
    simp only [repA]
    obtain ⟨h1, v, h2, h3⟩ := h 0 y rfl
    simp at h2; subst h2
    exact ⟨u, us, rfl, h1, (repV_one h1).1 h3, repA_of (by simpa using hl) (fun j y' hj => by have := h (j + 1) y' (by simpa using hj); simpa using this)⟩

theorem repC_of_cellsV {M : Mem} {x : V} {us : List Value} (h : repA M x.cellsV us) : repC M x us := by
  cases x with
  | agg cs => simpa only [V.cellsV, repC] using h
  | _ =>
    simp only [V.cellsV, repA] at h
    obtain ⟨u, us', rfl, _, h1, rfl⟩ := h
    exact h1

theorem cellsV_length (x : V) : x.cellsV.length = x.size := by cases x <;> simp [V.cellsV, V.size]

theorem repE_of_flat {M : Mem} {sz : Nat} : ∀ {xs : List V} {us : List Value}, (∀ y ∈ xs, y.size = sz) → repA M (xs.flatMap V.cellsV) us → repE M sz xs us
  | [], us, _, h => by simpa [repA, repE] using h
  | x :: xs, us, hs, h => by
    simp only [List.flatMap_cons] at h
    have h1 := repA_take h x.cellsV.length
    have h2 := repA_drop h x.cellsV.length
    rw [List.take_left] at h1
    rw [List.drop_left] at h2
    simp only [repE]
    have hl : (us.take x.cellsV.length).length = x.cellsV.length := repA_length h1
    exact ⟨us.take x.cellsV.length, us.drop x.cellsV.length, (List.take_append_drop _ _).symm, by rw [hl, cellsV_length]; exact hs x List.mem_cons_self, repC_of_cellsV h1, repE_of_flat (fun y hy => hs y (List.mem_cons_of_mem _ hy)) h2⟩

theorem lends_rep {g : Gh} {M' : Mem} {L : Nat → Option (List D)} (hM : g.M.le M') (hL : ∀ o cs, L o = some cs → ∃ us, repDs g cs us ∧ inM M' (g.β o) 0 us) : ∀ (n : Nat) (d : D) (x : V) (u : Value), lends L n d x → repD g d u → repV M' x u := by
  have base : ∀ (d : D) (x : V) (u : Value), (∃ d', See1 d d' ∧ d'.toV = some x) → repD g d u → repV M' x u := by
    rintro d x u ⟨d', h1, h2⟩ hr
    exact (toV_rep h2 (h1.rep hr)).mono hM
  intro n
  induction n with
  | zero => intro d x u h hr; exact base d x u (by simpa only [lends] using h) hr
  | succ n ih =>
    intro d x u h hr
    have cells : ∀ (o off : Nat) (cs : List D) (ys : List V), L o = some cs → (∀ (j : Nat) (y : V), ys[j]? = some y → y.isAgg = false ∧ ∃ c, cs[off + j]? = some c ∧ lends L n c y) → ∃ ws, inM M' (g.β o) off ws ∧ repA M' ys ws := by
      intro o off cs ys ho hys
      obtain ⟨us, h1, h2⟩ := hL o cs ho
      have hlen : off + ys.length ≤ us.length ∨ ys = [] := by
        by_cases hn : ys = []
        · exact .inr hn
        · left
          have hp : 0 < ys.length := List.length_pos_iff.2 hn
          obtain ⟨_, c, hc, _⟩ := hys (ys.length - 1) (ys[ys.length - 1]'(by omega)) (List.getElem?_eq_getElem (by omega))
          have := (List.getElem?_eq_some_iff.1 hc).1
          rw [repDs_length h1]; omega
      refine ⟨(us.drop off).take ys.length, ?_, ?_⟩
      · have := inM_take (inM_drop h2 off) ys.length
        simpa using this
      · refine repA_of ?_ (fun j y hj => ?_)
        · rcases hlen with h | h
          · simp; omega
          · simp [h]
        · obtain ⟨h3, c, hc, h4⟩ := hys j y hj
          obtain ⟨v, hv, hrv⟩ := repDs_get h1 hc
          refine ⟨h3, v, ?_, ih c y v h4 hrv⟩
          have hjl := (List.getElem?_eq_some_iff.1 hj).1
          rw [List.getElem?_take, if_pos hjl, List.getElem?_drop]; exact hv
    simp only [lends] at h
    rcases h with h | ⟨o, off, cs, x', rfl, rfl, ho, hc⟩ | ⟨o, off, sz, cs, xs, hd, rfl, hsz, hss, ho, hc⟩
    · exact base d x u h hr
    · obtain ⟨ws, h1, h2⟩ := cells o off cs _ ho hc
      simp only [repD] at hr
      rw [repV_ref]
      exact ⟨g.β o, off, ws, hr.2, h1, repC_of_cellsV h2⟩
    · obtain ⟨ws, h1, h2⟩ := cells o off cs _ ho hc
      have hE := repE_of_flat hss h2
      rw [repV_list]
      rcases hd with rfl | ⟨sz', rfl, rfl⟩
      · simp only [repD] at hr
        obtain ⟨_, cap, hcap, rfl⟩ := hr
        exact ⟨_, cap, rfl, hcap, .inr ⟨g.β o, off, sz, ws, rfl, hsz, h1, hE⟩⟩
      · simp only [repD] at hr
        obtain ⟨_, cap, hcap, _, rfl⟩ := hr
        exact ⟨_, cap, rfl, hcap, .inr ⟨g.β o, 0, sz, ws, rfl, hsz, h1, hE⟩⟩

/- A CALLEE THAT ONLY READS -/
def V.flat : V → Bool
  | .int .. | .bool _ | .str _ | .nilfn | .nilp | .nils => true
  | _ => false
mutual
def D.bor : D → D
  | .v x => if x.flat then .v x else .undef
  | .tup ds => .tup (D.bors ds)
  | _ => .undef
def D.bors : List D → List D
  | [] => []
  | d :: ds => d.bor :: D.bors ds
end
theorem repV_flat {M M' : Mem} {x : V} {u : Value} (hx : x.flat = true) (h : repV M x u) : repV M' x u := by
  cases x <;> simp_all [V.flat]
mutual
theorem repD_bor {g g' : Gh} : ∀ {d : D} {u : Value}, repD g d u → repD g' d.bor u
  | .v x, u, h => by
    simp only [D.bor]
    split
    · simp only [repD] at h ⊢; exact repV_flat (by assumption) h
    · simp only [repD]
  | .tup ds, u, h => by
    simp only [D.bor, repD] at h ⊢
    obtain ⟨us, e, h1⟩ := h
    exact ⟨us, e, repDs_bor h1⟩
  | .acc .., u, h => by simp only [D.bor, repD]
  | .ptr .., u, h => by simp only [D.bor, repD]
  | .arr .., u, h => by simp only [D.bor, repD]
  | .gro .., u, h => by simp only [D.bor, repD]
  | .raw .., u, h => by simp only [D.bor, repD]
  | .rv .., u, h => by simp only [D.bor, repD]
  | .dagg .., u, h => by simp only [D.bor, repD]
  | .dfn .., u, h => by simp only [D.bor, repD]
  | .err, u, h => by simp only [D.bor, repD]
  | .undef, u, h => by simp only [D.bor, repD]
theorem repDs_bor {g g' : Gh} : ∀ {ds : List D} {us : List Value}, repDs g ds us → repDs g' (D.bors ds) us
  | [], us, h => by simpa only [D.bors, repDs] using h
  | d :: ds, us, h => by
    simp only [D.bors, repDs] at h ⊢
    obtain ⟨u, us', e, h1, h2⟩ := h
    exact ⟨u, us', e, repD_bor h1, repDs_bor h2⟩
end

inductive LendL (L : Nat → Option (List D)) : List D → List V → Prop
  | nil : LendL L [] []
  | cons {n : Nat} {d : D} {x : V} {ds : List D} {xs : List V} (h : lends L n d x) (hs : LendL L ds xs) : LendL L (d :: ds) (x :: xs)
  | fn {f : FuncId} {cs : List D} {ys : List V} {ds : List D} {xs : List V} (h : LendL L cs ys) (hs : LendL L ds xs) : LendL L (.dfn f [] cs :: ds) (.fn f [] ys :: xs)
theorem LendL.rep {g : Gh} {M' : Mem} {L : Nat → Option (List D)} (hM : g.M.le M') (hL : ∀ o cs, L o = some cs → ∃ us, repDs g cs us ∧ inM M' (g.β o) 0 us) {gc : Gh} (hgc : gc.M = M') : ∀ {ds : List D} {xs : List V} {us : List Value}, LendL L ds xs → repDs g ds us → repDs gc (xs.map .v) us
  | _, _, us, .nil, h => by simpa only [List.map_nil, repDs] using h
  | _, _, us, .cons h hs, hr => by
    simp only [repDs, List.map_cons, repD] at hr ⊢
    obtain ⟨u, us', e, h1, h2⟩ := hr
    exact ⟨u, us', e, by rw [hgc]; exact lends_rep hM hL _ _ _ _ h h1, hs.rep hM hL hgc h2⟩
  | _, _, us, .fn h hs, hr => by
    simp only [repDs, List.map_cons, repD] at hr ⊢
    obtain ⟨u, us', e, ⟨u1, u2, e2, rfl, h2⟩, h3⟩ := hr
    refine ⟨u, us', e, repV_fn.2 ⟨[], u2, e2, by simp [repL], repL_of (toVs_map _) (h.rep hM hL hgc h2)⟩, hs.rep hM hL hgc h3⟩

section
variable {P : Program} {o : Oper} {σ : St} {d : D}
/-- a call of a function that is handed data only, some of it lying in the caller's objects -/
theorem op_callB {c : Call} {fo : Operand} (ho : o.op = .call c) (hc : c.callee = .value fo) {f : FuncId} {fs cs : List V} {ds : List D} {xs : List V} {d0 : D} (hl : LendL (fun o => (σ.H[o]?).join) ds xs) (hd : d0.bor = d)
    (hspec : FSpec P f (fs.map .v ++ xs.map .v ++ cs.map .v) ⟨[], []⟩ d0 ⟨[], []⟩) : OpOK P o (.v (.fn f fs cs) :: ds) σ d σ := by
  subst hd
  intro E g a w K Q hw hds hK
  obtain ⟨us, vs, ws, hf, hargs, h1, h2, h3⟩ := call_parts ho hc hds
  let M' : Mem := fun b o => w.cell? ⟨b, o, none⟩
  let gc : Gh := { M := M', β := g.β, n := 0, ι := fun _ _ => none, κ := g.κ }
  have hM : g.M.le M' := fun b o v h => hw.rep.mem b o v h
  have hrep : WRep gc ⟨[], []⟩ w := { n := rfl, mem := fun _ _ _ h => h, obj := fun i cs hi => by simp at hi, inj := fun i j cs ds hi => by simp at hi, own := fun k sz xs hx => by simp at hx, tags := by simp, sep := fun x hx => by simp at hx, ownObj := fun x hx => by simp at hx, fresh := fun _ _ _ => rfl, gl := hw.rep.gl.mono hM, gw := hw.rep.gw }
  have hL : ∀ o cs, (σ.H[o]?).join = some cs → ∃ us, repDs g cs us ∧ inM M' (g.β o) 0 us := by
    intro o cs ho
    have ho' : σ.H[o]? = some (some cs) := by
      cases h : σ.H[o]? with
      | none => simp [h] at ho
      | some c => simp [h] at ho; rw [ho]
    obtain ⟨us, rest, e, hb, hr, _⟩ := hw.rep.obj o cs ho'
    refine ⟨us, hr, fun j v hj => ?_⟩
    simp only [M', World.cell?, hb, Nat.zero_add, List.getElem?_toArray]; exact get_app hj
  have hmono : ∀ (l : List V) (us : List Value), repDs g (l.map .v) us → repDs gc (l.map .v) us := by
    intro l
    induction l with
    | nil => intro us h; simpa only [List.map_nil, repDs] using h
    | cons x l ih =>
      intro us h
      simp only [List.map_cons, repDs, repD] at h ⊢
      obtain ⟨u, us', e, h4, h5⟩ := h
      exact ⟨u, us', e, h4.mono hM, ih _ h5⟩
  refine wp_call (_E := E) (_g := g) ho hc hspec.1 hf hargs ?_
  refine Calls.mono (hspec.2 gc w _ hrep (repDs_append (repDs_append (hmono _ _ h1) (hl.rep hM hL rfl h3)) (hmono _ _ h2))) ?_
  rintro e w' ⟨r, gc', rfl, hw', hr⟩
  refine ⟨r, rfl, hK g w' r ?_ g.le_refl (repD_bor hr)⟩
  refine hw.grow (Mem.le_refl _) (fun b hb => ⟨(hw'.keep b hb not_priv).1, fun _ => rfl⟩) (fun b o v hm => ?_) hw'.size hw'.os hw'.tape hw'.output (drawn := hw'.drawn)
  have hlt := hw.rep.mem_lt hm
  have := hw.rep.mem b o v hm
  simp only [World.cell?] at this ⊢
  rw [(hw'.keep b hlt not_priv).1]; exact this
end

/- OBJECTS THAT BECOME DATA -/
def killH (F : List Nat) (H : List (Option (List D))) : List (Option (List D)) := F.foldl (fun H q => H.set q none) H
theorem killH_length : ∀ (F : List Nat) (H : List (Option (List D))), (killH F H).length = H.length
  | [], H => rfl
  | q :: F, H => by simp only [killH, List.foldl_cons]; exact (killH_length F _).trans (by simp)
theorem killH_get : ∀ (F : List Nat) (H : List (Option (List D))) {i : Nat} {cs : List D}, (killH F H)[i]? = some (some cs) → i ∉ F ∧ H[i]? = some (some cs)
  | [], H, i, cs, h => ⟨by simp, h⟩
  | q :: F, H, i, cs, h => by
    simp only [killH, List.foldl_cons] at h
    obtain ⟨h1, h2⟩ := killH_get F _ h
    obtain ⟨h3, h4⟩ := set_none_get h2
    exact ⟨by simp [h1, h3], h4⟩

/-- slots seen as data -/
inductive Fz (L : Nat → Option (List D)) : List D → List D → Prop
  | nil : Fz L [] []
  | keep {d : D} {ds ds' : List D} (hs : Fz L ds ds') : Fz L (d :: ds) (d :: ds')
  | view {n : Nat} {d : D} {x : V} {ds ds' : List D} (h : lends L n d x) (hs : Fz L ds ds') : Fz L (d :: ds) (.v x :: ds')
theorem Fz.rep {g g' : Gh} {L : Nat → Option (List D)} (hg : g.le g') (hL : ∀ o cs, L o = some cs → ∃ us, repDs g cs us ∧ inM g'.M (g.β o) 0 us) : ∀ {ds ds' : List D} {us : List Value}, Fz L ds ds' → repDs g ds us → repDs g' ds' us
  | _, _, us, .nil, h => by simpa only [repDs] using h
  | _, _, us, .keep hs, hr => by
    simp only [repDs] at hr ⊢
    obtain ⟨u, us', e, h1, h2⟩ := hr
    exact ⟨u, us', e, repD.mono hg _ _ h1, hs.rep hg hL h2⟩
  | _, _, us, .view h hs, hr => by
    simp only [repDs, repD] at hr ⊢
    obtain ⟨u, us', e, h1, h2⟩ := hr
    exact ⟨u, us', e, lends_rep hg.M hL _ _ _ _ h h1, hs.rep hg hL h2⟩

def lentIn (F : List Nat) (H : List (Option (List D))) (o : Nat) : Option (List D) := if o ∈ F then (H[o]?).join else none

/-- objects become data for good -/
theorem wi_frz {E : Ent} {g : Gh} {σ : St} {w : World} (F : List Nat) (hw : WI E g σ w) : ∃ g', g.le g' ∧ WI E g' ⟨killH F σ.H, σ.own⟩ w ∧ ∀ {env env' : List D} {us : List Value}, Fz (lentIn F σ.H) env env' → repDs g env us → repDs g' env' us := by
  classical
  let X : Nat → Prop := fun b => ∃ i ∈ F, ∃ cs, σ.H[i]? = some (some cs) ∧ b = g.β i
  let M' : Mem := fun b o => if X b then w.cell? ⟨b, o, none⟩ else g.M b o
  have hXnone : ∀ b, X b → ∀ o, g.M b o = none := by
    rintro b ⟨i, _, cs, hi, rfl⟩ o
    obtain ⟨_, _, _, _, _, _, h, _⟩ := hw.rep.obj i cs hi
    exact h o
  have hle : g.M.le M' := fun b o v h => by
    simp only [M']
    split
    · exact hw.rep.mem b o v h
    · exact h
  have hg : g.le { g with M := M' } := ⟨hle, Nat.le_refl _, fun _ _ => rfl, fun _ _ _ h => h, fun _ _ => rfl⟩
  have hXother : ∀ i cs, i ∉ F → σ.H[i]? = some (some cs) → ¬ X (g.β i) := by
    rintro i cs hi hH ⟨j, hj, cj, hcj, e⟩
    exact hi (by rw [hw.rep.inj i j _ _ hH hcj e]; exact hj)
  have hXown : ∀ x ∈ σ.own, ∀ u, g.ι x.1 x.2.2.length = some u → ∀ b, ownB u = some b → ¬ X b := by
    rintro x hx u hu b hb ⟨j, hj, cj, hcj, e⟩
    exact hw.rep.ownObj x hx u hu b hb j cj hcj e.symm
  refine ⟨{ g with M := M' }, hg, ?_, fun hz hr => hz.rep hg (fun o cs ho => ?_) hr⟩
  · refine hw.update X (fun b hb => ?_) (fun b _ hb => ⟨rfl, fun o => by simp only [M', if_neg hb]⟩) hle (Nat.le_refl _) (fun _ _ => rfl) (fun _ _ => rfl) (Nat.le_refl _) rfl rfl rfl ?_ (fun i cs hi => hw.objs i cs (killH_get F _ hi).2) hw.owns
    · obtain ⟨i, _, cs, hi, rfl⟩ := hb; exact hw.objs i cs hi
    · refine ⟨by rw [killH_length]; exact hw.rep.n, fun b o v hm => ?_, fun i cs hi => ?_, fun i j c1 c2 hi hj => hw.rep.inj i j _ _ (killH_get F _ hi).2 (killH_get F _ hj).2, fun k sz xs hx => ?_, hw.rep.tags, hw.rep.sep, fun x hx u hu b hb i cs hi => hw.rep.ownObj x hx u hu b hb i cs (killH_get F _ hi).2, hw.rep.fresh, hw.rep.gl.mono hle, hw.rep.gw⟩
      · simp only [M'] at hm
        split at hm
        · exact hm
        · exact hw.rep.mem b o v hm
      · obtain ⟨h1, h2⟩ := killH_get F _ hi
        obtain ⟨us, rest, e, h3, h4, h5, h6, h7⟩ := hw.rep.obj i cs h2
        exact ⟨us, rest, e, h3, repDs.mono hg _ _ h4, h5, fun o => by simp only [M', if_neg (hXother i cs h1 h2)]; exact h6 o, h7⟩
      · obtain ⟨h0, u, hu, h3, h4, h5⟩ := hw.rep.own k sz xs hx
        exact ⟨h0, u, hu, h3.mono hle, h4.kept fun b hb => ⟨rfl, fun o => by simp only [M', if_neg (hXown _ hx u hu b hb)]⟩, h5⟩
  · simp only [lentIn] at ho
    split at ho
    · rename_i hF
      have ho' : σ.H[o]? = some (some cs) := by
        cases h : σ.H[o]? with
        | none => simp [h] at ho
        | some c => simp [h] at ho; rw [ho]
      obtain ⟨us, rest, e, hb, hr, _⟩ := hw.rep.obj o cs ho'
      refine ⟨us, hr, fun j v hj => ?_⟩
      simp only [M', if_pos (show X (g.β o) from ⟨o, hF, cs, ho', rfl⟩), World.cell?, hb, Nat.zero_add, List.getElem?_toArray]
      exact get_app hj
    · simp at ho

theorem cv_frz {env env' : List D} {σ : St} (F : List Nat) (hz : Fz (lentIn F σ.H) env env') : Cv env σ env' ⟨killH F σ.H, σ.own⟩ := fun E g a w hf => by
  obtain ⟨g', _, hw', hr⟩ := wi_frz F hf.wi
  exact ⟨g', hw', hr hz hf.env, hf.defers⟩

end Go.Dv

namespace Go.Dv
section
variable {P : Program} {o : Oper} {σ : St} {d : D}

/-- a slice literal with all its elements written, as a list to append to -/
theorem op_buildSliceA {t : TypeId} {len : Nat} {parts : Array (Nat × Operand)} (ho : o.op = .buildSlice t len parts) (hp : parts.toList = ((parts.toList.map (·.2)).zipIdx 0).map fun x => (x.2, x.1)) (hlen : parts.size = len)
    {e : TypeId} {sz by' : Nat} {z : Option Value} (hs : slTy P t = some (e, sz, by', z)) (hz : z.isSome = true) {ds : List D} {xs : List V} (hx : toVs ds = some xs) (hsz : ∀ x ∈ xs, x.size = sz) (h0 : 0 < len) (h1 : 0 < sz) (h2 : len * sz ≤ 1000)
    (k : Nat) (hk : ∀ x ∈ σ.own, x.1 ≠ k) : OpOK P o ds σ (.acc k xs) ⟨σ.H, (k, sz, xs) :: σ.own⟩ := by
  intro E g a w K Q hw hds hK
  simp only [ho, Op.operands] at hds
  obtain ⟨i, hu, hi, rfl, rfl, rfl⟩ := slTy_parts hs
  obtain ⟨zz, hzz⟩ := Option.isSome_iff_exists.1 hz
  have hlm : (parts.toList.map fun p => a.eval p.2).length = len := by simp [hlen]
  have hds' : repDs g ds (parts.toList.map fun p => a.eval p.2) := by simpa [Function.comp_def] using hds
  obtain ⟨hr, hcs⟩ := toVs_vals hx hds' hsz
  have hxl : xs.length = len := by rw [toVs_length hx, ← repDs_length hds', hlm]
  have hpos : 0 < len * i.size := Nat.mul_pos h0 h1
  have hf := fill_all i.size (parts.toList.map fun p => a.eval p.2) 0 [] ((Array.range (len * i.size)).map (zz.cells[· % zz.cells.size]!)).toList (by simp) hcs (by simp [hlen])
  have hpp : ((parts.toList.map fun p => a.eval p.2).zipIdx 0).map (fun x => (x.2, x.1)) = parts.toList.map fun p => (p.1, a.eval p.2) := by
    have e1 : (parts.toList.map fun p => a.eval p.2) = (parts.toList.map (·.2)).map a.eval := by simp
    rw [e1, List.zipIdx_map, List.map_map]
    conv => rhs; rw [hp, List.map_map]
    rfl
  rw [hpp] at hf
  simp only [List.nil_append, Array.toArray_toList] at hf
  have hrun := run_buildSlice (P := P) w t e len (parts.map fun p => (p.1, a.eval p.2)) _ i zz hu hi hzz (by omega) (by omega) (by simpa using hf)
  generalize hus : (parts.toList.map fun p => a.eval p.2).flatMap (·.cells.toList) = us at hr hrun
  obtain ⟨hw1, hle1⟩ := hw.newImm us [] e
  rw [List.append_nil] at hw1
  have hul : us.length = len * i.size := by rw [repE_length hr, hxl]
  have hrep : repV (addM g.M w.heap.size us) (.list xs) (.slice (some ⟨w.heap.size, 0, none⟩) len len) := by
    have := repV_of_cells (cap := len) h1 (addM_in g.M w.heap.size us) (repE.mono hle1.M _ _ _ hr) (by omega)
    rwa [hxl] at this
  have hperm : Perm (addM g.M w.heap.size us) (w.alloc (.cells us.toArray e)) i.size (.slice (some ⟨w.heap.size, 0, none⟩) len len) :=
    .inr ⟨w.heap.size, 0, len, len, us.toArray, e, rfl, heap_alloc_new w _, Nat.le_refl _, by simp [hul], fun o ho' => by simp only [addM, if_true]; exact List.getElem?_eq_none (by omega), hw.rep.gw.new (Nat.le_refl _)⟩
  have hb : ∀ b, ownB (.slice (some ⟨w.heap.size, 0, none⟩) len len) = some b → b = w.heap.size := fun b hb => by
    simp only [ownB] at hb
    split at hb
    · simp at hb
    · simpa using hb.symm
  obtain ⟨hw', hle⟩ := hw1.addOwn (k := k) (sz := i.size) (xs := xs) hk ⟨h1, hsz⟩ hrep hperm (fun b hb' => by
    rw [hb b hb']
    exact ⟨hw.size, fun j cs hj => Nat.ne_of_lt (hw.rep.obj_lt hj), fun x hx' u' hu' hb2 => by have := hw.rep.own_lt hx' hu' hb2; omega⟩)
  have := hK _ _ (.slice (some ⟨w.heap.size, 0, none⟩) len len) hw' (Gh.le_trans hle1 hle) (by
    simp only [repD]
    exact ⟨hrep, by simp⟩)
  unfold Oper.wp execOp
  simp only [ho]
  simp only [Sem.run_bind]
  rw [show (parts.map fun (x : Nat × Operand) => match x with | (i, x) => (i, a.eval x)) = parts.map fun p => (p.1, a.eval p.2) from rfl, hrun]
  exact this
end
end Go.Dv

namespace Go.Dv

theorem Perm.drop {M : Mem} {w : World} {sz : Nat} {a : Option Addr} {len cap : Nat} (h : Perm M w sz (.slice a len cap)) {l : Nat} (hl : l ≤ len) : Perm M w sz (.slice (if cap = l then a else a.map (·.add (l * sz))) (len - l) (cap - l)) := by
  rcases h with ⟨a', e⟩ | ⟨b, f, len', cap', cur, e', e, hh, hlc, hc, hM⟩
  · simp only [Value.slice.injEq] at e
    obtain ⟨rfl, rfl, rfl⟩ := e
    obtain rfl : l = 0 := by omega
    exact .inl ⟨_, by simp; rfl⟩
  · simp only [Value.slice.injEq] at e
    obtain ⟨rfl, rfl, rfl⟩ := e
    by_cases hcl : cap = l
    · subst hcl
      obtain rfl : len = cap := by omega
      exact .inl ⟨some ⟨b, f, none⟩, by simp⟩
    · rw [if_neg hcl]
      refine .inr ⟨b, f + l * sz, len - l, cap - l, cur, e', by simp [Addr.add_lit], hh, by omega, ?_, fun o ho => hM o ?_, hM.ng⟩
      · have : l * sz + (cap - l) * sz = cap * sz := by rw [← Nat.add_mul]; congr 1; omega
        omega
      · have : l * sz + (len - l) * sz = len * sz := by rw [← Nat.add_mul]; congr 1; omega
        omega

section
variable {C : Ent → Ent → Prop} {P : Program} {R : List D → St → Prop} {c : Code} {p : List Nat} {κ : List KI} {env env1 env' : List D} {σ σ' : St} {i : Nat} {o : Oper} {d : D}

end
end Go.Dv

namespace Go.Dv

theorem WI.trans {E : Ent} {g g' : Gh} {σ σ' : St} {w w1 w' : World} (h : WI E g σ w) (hk : ∀ b, b < E.w.heap.size → ¬ E.priv b → w1.heap[b]? = w.heap[b]?) (hsz : w.heap.size ≤ w1.heap.size) (hos : w1.os = w.os) (htp : w1.tape = w.tape) (hou : w1.output = w.output)
    (h' : WI ⟨g, w1, σ⟩ g' σ' w') (hdr : drwLe w.drawn w1.drawn := by first | exact drwLe.refl _ | exact drwLe.succ _ | assumption) : WI E g' σ' w' where
  rep := h'.rep
  M := Mem.le_trans h.M h'.M
  size := Nat.le_trans h.size (Nat.le_trans hsz h'.size)
  keep := fun b hb hp => by
    have hnp : ¬ Ent.priv ⟨g, w1, σ⟩ b := by
      rintro (⟨i, cs, hi, e⟩ | ⟨x, hx, u, hu, hb'⟩)
      · have e' : b = g.β i := e
        rw [e'] at hb hp
        rcases h.objs i cs hi with h1 | h1
        · omega
        · exact hp h1
      · rcases h.owns x hx u hu b hb' with h1 | h1
        · omega
        · exact hp h1
    have hlt : b < w1.heap.size := by have := h.size; omega
    obtain ⟨h1, h2⟩ := h'.keep b hlt hnp
    obtain ⟨h3, h4⟩ := h.keep b hb hp
    exact ⟨h1.trans ((hk b hb hp).trans h3), fun o => (h2 o).trans (h4 o)⟩
  os := h'.os.trans (hos.trans h.os)
  tape := h'.tape.trans (htp.trans h.tape)
  output := h'.output.trans (hou.trans h.output)
  drawn := h.drawn.trans (hdr.trans h'.drawn)
  nE := Nat.le_trans h.nE h'.nE
  βE := fun o ho => (h'.βE o (Nat.lt_of_lt_of_le ho h.nE)).trans (h.βE o ho)
  κE := fun o ho => (h'.κE o (Nat.lt_of_lt_of_le ho h.nE)).trans (h.κE o ho)
  objs := fun i cs hi => by
    rcases h'.objs i cs hi with h1 | h1
    · left; have := h.size; simp only at h1; omega
    · rcases h1 with ⟨j, cj, hj, e⟩ | ⟨x, hx, u, hu, hb⟩
      · rw [e]; exact h.objs j cj hj
      · exact h.owns x hx u hu _ hb
  owns := fun x hx u hu b hb => by
    rcases h'.owns x hx u hu b hb with h1 | h1
    · left; have := h.size; simp only at h1; omega
    · rcases h1 with ⟨j, cj, hj, e⟩ | ⟨y, hy, u', hu', hb'⟩
      · rw [e]; exact h.objs j cj hj
      · exact h.owns y hy u' hu' b hb'

/-- a block that the layer does not know holds this object, and no one else writes it -/
structure SideIs (r : Nat) (o : Obj) (E : Ent) : Prop where
  at_ : E.w.heap[r]? = some o
  priv : ¬ E.priv r
  mem : ∀ x, E.g.M r x = none

theorem SideIs.now {r : Nat} {o : Obj} {E : Ent} {g : Gh} {σ : St} {w : World} (h : SideIs r o E) (hw : WI E g σ w) : w.heap[r]? = some o ∧ (∀ x, g.M r x = none) ∧ (∀ i cs, σ.H[i]? = some (some cs) → g.β i ≠ r) ∧ (∀ x ∈ σ.own, ∀ u, g.ι x.1 x.2.2.length = some u → ownB u ≠ some r) := by
  have hlt : r < E.w.heap.size := (Array.getElem?_eq_some_iff.1 h.at_).1
  obtain ⟨h1, h2⟩ := hw.keep r hlt h.priv
  refine ⟨h1.trans h.at_, fun x => (h2 x).trans (h.mem x), fun i cs hi e => ?_, fun x hx u hu hb => ?_⟩
  · rcases hw.objs i cs hi with h3 | h3
    · omega
    · rw [e] at h3; exact h.priv h3
  · rcases hw.owns x hx u hu r hb with h3 | h3
    · omega
    · exact h.priv h3

/-- the side block is written -/
theorem WRep.side {g : Gh} {σ : St} {w : World} (h : WRep g σ w) {r : Nat} (hM : ∀ x, g.M r x = none) (hobj : ∀ i cs, σ.H[i]? = some (some cs) → g.β i ≠ r) (hown : ∀ x ∈ σ.own, ∀ u, g.ι x.1 x.2.2.length = some u → ownB u ≠ some r)
    {w' : World} (hk : ∀ b, b ≠ r → w'.heap[b]? = w.heap[b]?) : WRep g σ w' where
  n := h.n
  gl := h.gl
  gw := h.gw.keepG fun p hp _ => hk p.1 fun e => by
    obtain ⟨v, hv⟩ := h.gl.sized p hp
    rw [e, hM 0] at hv; simp at hv
  mem := fun b o v hm => by
    have hne : b ≠ r := fun e => by subst e; rw [hM o] at hm; simp at hm
    have := h.mem b o v hm
    simp only [World.cell?] at this ⊢
    rw [hk b hne]; exact this
  obj := fun i cs hi => by
    obtain ⟨us, rest, e, h1, h2⟩ := h.obj i cs hi
    exact ⟨us, rest, e, by rw [hk _ (hobj i cs hi)]; exact h1, h2⟩
  inj := h.inj
  own := fun k sz xs hx => by
    obtain ⟨h0, u, hu, h1, h2, h3⟩ := h.own k sz xs hx
    exact ⟨h0, u, hu, h1, h2.kept fun b hb => ⟨hk b (fun e => hown _ hx u hu (by rw [← e]; exact hb)), fun _ => rfl⟩, h3⟩
  tags := h.tags
  sep := h.sep
  ownObj := h.ownObj
  fresh := h.fresh

/-- where what is known of memory began, with a side block -/
structure SideC (r : Nat) (o : Obj) (E0 E : Ent) : Prop where
  side : SideIs r o E
  new : E0.w.heap.size ≤ r
  link : ∀ (g : Gh) (σ : St) (w : World), WI E g σ w → WI E0 g σ w
section
variable {C : Ent → Ent → Prop} {P : Program} {R : List D → St → Prop} {c : Code} {p : List Nat} {k : List KI} {env env' : List D} {σ σ' : St} {i : Nat} {o : Oper} {d : D}

/-- from a new beginning on -/
theorem SideC.of {E0 : Ent} {g : Gh} {w w1 : World} {r : Nat} {ob : Obj} (hw : WI E0 g σ w) (hk : ∀ b, b ≠ r → w1.heap[b]? = w.heap[b]?) (hr : w1.heap[r]? = some ob) (hsz : w.heap.size ≤ w1.heap.size) (hos : w1.os = w.os) (htp : w1.tape = w.tape) (hou : w1.output = w.output) (hEr : E0.w.heap.size ≤ r)
    (hM : ∀ x, g.M r x = none) (hobj : ∀ i cs, σ.H[i]? = some (some cs) → g.β i ≠ r) (hown : ∀ x ∈ σ.own, ∀ u, g.ι x.1 x.2.2.length = some u → ownB u ≠ some r) (hdr : drwLe w.drawn w1.drawn := by first | exact drwLe.refl _ | exact drwLe.succ _ | assumption) :
    SideC r ob E0 ⟨g, w1, σ⟩ ∧ WI ⟨g, w1, σ⟩ g σ w1 := by
  refine ⟨⟨⟨hr, ?_, hM⟩, hEr, fun g' σ' w' h' => hw.trans (fun b hb _ => hk b (by omega)) hsz hos htp hou h'⟩, WI.start (hw.rep.side hM hobj hown hk)⟩
  rintro (⟨i, cs, hi, e⟩ | ⟨x, hx, u, hu, hb⟩)
  · exact hobj i cs hi e.symm
  · exact hown x hx u hu hb

end

/- SETS OF STRINGS -/
section
variable {C : Ent → Ent → Prop} {P : Program} {R : List D → St → Prop} {c : Code} {p : List Nat} {k : List KI} {env env' : List D} {σ σ' : St} {i : Nat} {o : Oper} {d : D}

end
end Go.Dv

namespace Go.Dv
section
variable {P : Program} {o : Oper} {σ : St} {d : D}

end
end Go.Dv

namespace Go.Dv

mutual
/-- the one is seen as the other -/
inductive VS : V → V → Prop
  | refl (x : V) : VS x x
  | nils : VS .nils (.list [])
  | agg {cs ds : List V} (h : VSL cs ds) : VS (.agg cs) (.agg ds)
  | list {cs ds : List V} (h : VSL cs ds) : VS (.list cs) (.list ds)
  | ref {x y : V} (h : VS x y) : VS (.ref x) (.ref y)
inductive VSL : List V → List V → Prop
  | nil : VSL [] []
  | cons {x y : V} {xs ys : List V} (h : VS x y) (hs : VSL xs ys) : VSL (x :: xs) (y :: ys)
end
theorem VS.isAgg {x y : V} (h : VS x y) : y.isAgg = x.isAgg := by cases h <;> rfl
theorem VSL.length : ∀ {xs ys : List V}, VSL xs ys → ys.length = xs.length
  | _, _, .nil => rfl
  | _, _, .cons _ hs => by simp [hs.length]
theorem VSL.refl : ∀ xs : List V, VSL xs xs
  | [] => .nil
  | x :: xs => .cons (.refl x) (VSL.refl xs)
mutual
theorem VS.repC {M : Mem} : ∀ {x y : V}, VS x y → ∀ {ws : List Value}, repC M x ws → Dv.repC M y ws
  | _, _, .refl _, _, h => h
  | _, _, .nils, ws, h => by
    simp only [Dv.repC] at h ⊢
    subst h
    exact ⟨none, 0, rfl, Nat.le_refl _, .inl trivial⟩
  | _, _, .agg h, _, hr => by simp only [Dv.repC] at hr ⊢; exact h.repA hr
  | _, _, .list h, _, hr => by
    simp only [Dv.repC] at hr ⊢
    obtain ⟨a, cap, e, hc, hor⟩ := hr
    rw [h.length]
    refine ⟨a, cap, e, hc, ?_⟩
    rcases hor with rfl | ⟨b, off, sz, us, h1, h2, h3, h4⟩
    · left; cases h; rfl
    · exact .inr ⟨b, off, sz, us, h1, h2, h3, h.repE h4⟩
  | _, _, .ref h, _, hr => by
    simp only [Dv.repC] at hr ⊢
    obtain ⟨b, off, us, e, hi, hx⟩ := hr
    exact ⟨b, off, us, e, hi, h.repC hx⟩
theorem VSL.repA {M : Mem} : ∀ {xs ys : List V}, VSL xs ys → ∀ {us : List Value}, Dv.repA M xs us → Dv.repA M ys us
  | _, _, .nil, _, h => h
  | _, _, .cons h hs, _, hr => by
    simp only [Dv.repA] at hr ⊢
    obtain ⟨u, us', e, ha, h1, h2⟩ := hr
    exact ⟨u, us', e, by rw [h.isAgg]; exact ha, h.repC h1, hs.repA h2⟩
theorem VSL.repE {M : Mem} {sz : Nat} : ∀ {xs ys : List V}, VSL xs ys → ∀ {us : List Value}, Dv.repE M sz xs us → Dv.repE M sz ys us
  | _, _, .nil, _, h => h
  | _, _, .cons h hs, _, hr => by
    simp only [Dv.repE] at hr ⊢
    obtain ⟨u1, u2, e, hl, h1, h2⟩ := hr
    exact ⟨u1, u2, e, hl, h.repC h1, hs.repE h2⟩
end
theorem VS.repV {M : Mem} {x y : V} (h : VS x y) {u : Value} (hr : repV M x u) : Dv.repV M y u := by
  obtain ⟨ws, h1, h2⟩ := hr
  refine ⟨ws, h.repC h1, ?_⟩
  rw [h2]
  cases h <;> rfl
/-- slots seen as less -/
inductive DS : D → D → Prop
  | same (d : D) : DS d d
  | v {x y : V} (h : VS x y) : DS (.v x) (.v y)
  | gro {q len sz : Nat} : DS (.gro q len sz) (.arr q 0 len)
  | acc {k : Nat} {xs : List V} : DS (.acc k xs) (.v (.list xs))
inductive DSL : List D → List D → Prop
  | nil : DSL [] []
  | cons {d e : D} {ds es : List D} (h : DS d e) (hs : DSL ds es) : DSL (d :: ds) (e :: es)
theorem DS.rep {g : Gh} {d e : D} (h : DS d e) {u : Value} (hr : repD g d u) : repD g e u := by
  cases h with
  | same => exact hr
  | v h => simp only [repD] at hr ⊢; exact h.repV hr
  | gro =>
    simp only [repD] at hr ⊢
    obtain ⟨h1, cap, h2, _, h3⟩ := hr
    exact ⟨h1, cap, h2, h3⟩
  | acc => simp only [repD] at hr ⊢; exact hr.1
theorem DSL.rep {g : Gh} : ∀ {ds es : List D}, DSL ds es → ∀ {us : List Value}, repDs g ds us → repDs g es us
  | _, _, .nil, _, h => h
  | _, _, .cons h hs, _, hr => by
    simp only [repDs] at hr ⊢
    obtain ⟨u, us', e, h1, h2⟩ := hr
    exact ⟨u, us', e, h.rep h1, hs.rep h2⟩
theorem DSL.refl : ∀ ds : List D, DSL ds ds
  | [] => .nil
  | d :: ds => .cons (.same d) (DSL.refl ds)
/-- a contract at arguments that say more, and with a result that says less -/
theorem FSpec.sub {P : Program} {f : FuncId} {ds es : List D} {σ σ' : St} {d e : D} (h : FSpec P f es σ d σ') (hs : DSL ds es) (hd : DS d e) : FSpec P f ds σ e σ' := by
  refine ⟨h.1, fun g w args hw hargs => Calls.mono (h.2 g w args hw (hs.rep hargs)) ?_⟩
  rintro x w' ⟨u, g', rfl, hw', hr⟩
  exact ⟨u, g', rfl, hw', hd.rep hr⟩
/-- slots of a function seen as less -/
theorem cv_sub {env env' : List D} {σ : St} (h : DSL env env') : Cv env σ env' σ := fun E g a w hf => ⟨g, hf.wi, h.rep hf.env, hf.defers⟩
end Go.Dv

namespace Go.Dv
section
variable {P : Program} {o : Oper} {σ : St}
theorem run_eqNil {op : BinOp} {t ty e : TypeId} {x : Operand} (ho : o.op = .binOp op t x (.const (.slice none 0 0)) ty) (hu : P.underlying t = some (.slice e)) (hop : op = .eql ∨ op = .neq) (ρ : Operand → Value) (w : World) {a : Option Addr} {len cap : Nat} (e1 : ρ x = .slice a len cap) (e2 : ρ (.const (.slice none 0 0)) = .slice none 0 0) :
    (execOp ρ o).run P w = .ok (.value (.bool (if op = .eql then a.isNone else !a.isNone))) w := by
  have heq : (Op.equal t (.slice a len cap) (.slice none 0 0)).run P w = .ok a.isNone w := by
    have gen : ∀ d, (Op.equalIn (d + 1) t (.slice a len cap) (.slice none 0 0)).run P w = .ok a.isNone w := fun d => by
      cases a <;> simp [Op.equalIn, run_underlying hu]
    exact gen 9999
  rcases hop with rfl | rfl <;> simp [execOp, ho, e1, e2, eqGuard, binOp, heq]
/-- an empty literal that grows -/
theorem op_buildSlice0G {t : TypeId} {parts : Array (Nat × Operand)} (ho : o.op = .buildSlice t 0 parts) (hp : parts = #[]) {e : TypeId} {sz by' : Nat} {z : Option Value} (hs : slTy P t = some (e, sz, by', z)) :
    OpOK P o [] σ (.gro σ.H.length 0 sz) ⟨σ.H ++ [some []], σ.own⟩ := by
  intro E g a w K Q hw hds hK
  obtain ⟨i, hu, hi, rfl, rfl, rfl⟩ := slTy_parts hs
  subst hp
  obtain ⟨g', h3, h4, h5, h6, h7⟩ := hw.newObjR (us := []) (rest := []) (cs := []) e (by simp [repDs]) (by simp)
  have := hK g' _ (.slice (some ⟨w.heap.size, 0, none⟩) 0 0) h3 h4 (by
    simp only [repD]
    exact ⟨by omega, 0, Nat.le_refl _, by rw [h6]; simp, by rw [h5]⟩)
  unfold Oper.wp execOp
  simpa [ho, Instr.buildSlice, run_underlying hu, sizeOf, typeInfo, hi, Instr.fill, newRow, Oper.upon, show Array.range 0 = #[] from rfl] using this
/-- a call that returns a new array, which is the callee's object `j` -/
theorem op_call0_arrJ {c : Call} {fo : Operand} (ho : o.op = .call c) (hc : c.callee = .value fo) {f : FuncId} {fs cs : List V} {ds : List D} (hp : D.pls ds = true) {Hc : List (Option (List D))} {j : Nat} {os : List D} (hj : Hc[j]? = some (some os)) (hos : D.pls os = true) {len : Nat}
    (hspec : FSpec P f (fs.map .v ++ ds ++ cs.map .v) ⟨[], []⟩ (.arr j 0 len) ⟨Hc, []⟩) : OpOK P o (.v (.fn f fs cs) :: ds) σ (.arr σ.H.length 0 len) ⟨σ.H ++ [some os], σ.own⟩ := by
  intro E g a w K Q hw hds hK
  obtain ⟨us, vs, ws, hf, hargs, h1, h2, h3⟩ := call_parts ho hc hds
  refine wp_call (_E := E) (_g := g) ho hc hspec.1 hf hargs ?_
  have hargs' : repDs { M := g.M, β := g.β, n := 0, ι := fun _ _ => none, κ := g.κ } (fs.map .v ++ ds ++ cs.map .v) (us ++ ws ++ vs) :=
    repDs_pl (by rfl) (by simp [pls_append, pls_map, hp]) (repDs_append (repDs_append h1 h3) h2)
  refine Calls.mono (hspec.2 _ w _ hw.rep.empty hargs') ?_
  rintro e w' ⟨u, g', rfl, hw', hr⟩
  obtain ⟨h4, h5⟩ := hw.back0 (by rfl) hw'
  simp only [repD] at hr
  obtain ⟨vs', rest', e', hb, hrv, hone, hMn, _⟩ := hw'.rep.obj j os hj
  have hge : w.heap.size ≤ g'.β j := by
    rcases hw'.objs j os hj with h | h
    · exact h
    · exact absurd h not_priv
  obtain ⟨h6, h7⟩ := h4.addObj (b := g'.β j) (us := vs') (rest := rest') (e := e') (cs := os) hb (.inl (Nat.le_trans hw.size hge)) hMn
    (fun i cs hi => by have := hw.rep.obj_lt hi; simp only; omega) (fun x hx v hv hvb => by have := hw.rep.own_lt hx hv hvb; omega) (repDs_pl (by rfl) hos hrv) hone
  refine ⟨u, rfl, hK _ _ _ h6 (Gh.le_trans h5 h7) ?_⟩
  simp only [repD]
  obtain ⟨_, cap, hcap, rfl⟩ := hr
  exact ⟨by rw [hw.rep.n]; omega, cap, hcap, by rw [hw.rep.n]; simp⟩
end
end Go.Dv

namespace Go.Dv
section
variable {P : Program} {o : Oper} {σ : St}
theorem op_loadPD {t : TypeId} {a : Operand} (ho : o.op = .load t a) {n : Nat} (ht : AggTy P t n) {q off : Nat} {cs : List D} (hH : σ.H[q]? = some (some cs)) (hn : off + n ≤ cs.length) {ds : List D} (hd : (cs.drop off).take n = ds) : OpOK P o [.ptr q off] σ (.dagg ds) σ := by
  subst hd
  refine opOK_run fun E g ρ w hw hds => ?_
  simp only [ho, Op.operands, repDs_one] at hds
  obtain ⟨u, e, h1⟩ := hds
  simp at e
  simp only [repD] at h1
  obtain ⟨_, rfl⟩ := h1
  obtain ⟨us, rest, et, hb, hr, h1, _⟩ := hw.rep.obj q cs hH
  have hra := repDs_take (repDs_drop hr off) n
  have hl : us.length = cs.length := repDs_length hr
  have hld := run_loadCells_list (P := P) w ⟨g.β q, off, none⟩ ((us.drop off).take n) (fun j v hj => by
    rw [List.getElem?_take] at hj
    split at hj
    · rw [List.getElem?_drop] at hj
      rw [Addr.add_lit]
      simp only [World.cell?, hb, List.getElem?_toArray]; exact get_app hj
    · simp at hj)
  have hlen : ((us.drop off).take n).length = n := by simp; omega
  rw [hlen] at hld
  refine ⟨.agg ((us.drop off).take n).toArray, ?_, by simp only [repD]; exact ⟨_, rfl, hra⟩⟩
  simp only [execOp, ho, e, Instr.loadAt, Instr.sureAddr, loadVar, Sem.run_bind, Sem.run_pure, Result.andThen_ok, run_isAgg ht, run_sizeOf' ht, hld, if_true]
end
end Go.Dv
