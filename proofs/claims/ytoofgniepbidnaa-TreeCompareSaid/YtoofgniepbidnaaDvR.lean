/-
  Variables that are written once; nil slices kept as such in zero values; more about growing lists. No program is named here.
-/
import Derived.Test.YtoofgniepbidnaaDvQ
namespace Go.Dv

theorem set_self {α : Type} {l : List α} {s : Nat} {u : α} (h : l[s]? = some u) : l.set s u = l := by
  apply List.ext_getElem?
  intro i
  rw [List.getElem?_set]
  split
  · rename_i e; subst e
    split
    · exact h.symm
    · rw [List.getElem?_eq_none (by omega)]
  · rfl

theorem toV_cells {g : Gh} {d : D} {x : V} {u : Value} (h : d.toV = some x) (hr : repD g d u) : repC g.M x u.cells.toList := repV_cells (toV_rep h hr)

section
variable {P : Program} {o : Oper} {σ : St} {d : D}

/-- a closure that captures data -/
theorem op_makeFunc0 {f : FuncId} {first captured : Array Operand} (ho : o.op = .makeFunc (.func f) first captured) {cs : List D} {ys : List V} (hl : first.size = 0) (hc : toVs cs = some ys) : OpOK P o cs σ (.v (.fn f [] ys)) σ :=
  op_makeFunc (fs := []) (cs := cs) ho (by simp [hl]) rfl hc

/-- a variable that is never written again -/
theorem op_boxI {e : TypeId} {x : Operand} (ho : o.op = .box e x) {y : V} (hy : d.toV = some y) : OpOK P o [d] σ (.v (.ref y)) σ := by
  intro E g a w K Q hw hds hK
  simp only [ho, Op.operands, repDs_one] at hds
  obtain ⟨u, eu, hd⟩ := hds
  simp at eu
  have hc := toV_cells hy hd
  obtain ⟨hw', hle⟩ := hw.newImm u.cells.toList [] e
  rw [List.append_nil] at hw'
  have := hK _ _ (.pointer (some ⟨w.heap.size, 0, none⟩)) hw' hle (by
    simp only [repD, repV_ref]
    exact ⟨w.heap.size, 0, u.cells.toList, rfl, addM_in g.M w.heap.size _, repC.mono hle.M _ _ hc⟩)
  unfold Oper.wp execOp
  simpa [ho, eu, Instr.box, newVar, newRow, Oper.upon] using this
end

section
variable {P : Program} {o : Oper}

theorem wp_alloc {e : TypeId} (ho : o.op = .alloc e) {i : TypeInfo} {z : Value} (hi : P.info? e = some i) (hz : i.zero = some z) {a : Act} {w : World} {K : Act → World → Prop} {Q : Exit → Act → World → Prop}
    (h : K (a.put o.dst (.pointer (some ⟨w.heap.size, 0, none⟩))) (w.alloc (.cells z.cells e))) : o.wp P a w K Q := by
  unfold Oper.wp execOp
  simpa [ho, Instr.alloc, zeroValue, typeInfo, hi, hz, newVar, newRow, Oper.upon] using h

theorem wp_storeAll {t e : TypeId} {x y : Operand} (ho : o.op = .store t x y) {n : Nat} {f : Bool} (ht : szAgg P t = some (n, f)) {a : Act} {w : World} {K : Act → World → Prop} {Q : Exit → Act → World → Prop} {b : Nat} {v : Value} {old : Array Value}
    (ex : a.eval x = .pointer (some ⟨b, 0, none⟩)) (ev : a.eval y = v) (hb : w.heap[b]? = some (.cells old e (0, 0))) (hn : v.cells.size = n) (hold : old.size = n) (h1 : ∀ u ∈ v.cells.toList, u.oneCell' = true)
    (h : K (a.put o.dst undef) (w.setRow b v.cells)) : o.wp P a w K Q := by
  have hst := run_storeCells_at P b 0 e v.cells.toList 0 old w hb (by simp [hn, hold]) h1
  simp only [Nat.add_zero, List.take_zero, List.nil_append, Nat.zero_add] at hst
  rw [List.drop_of_length_le (by simp [hn, hold]), List.append_nil, Array.toArray_toList] at hst
  unfold Oper.wp execOp
  simp only [ho, ex, ev, Instr.storeAt, Instr.sureAddr, Sem.run_bind, Sem.run_pure, Result.andThen_ok, storeVar, run_sizeOf' ht, hn, ne_eq, not_true_eq_false, if_false, hst]
  exact h

theorem setRow_alloc (w : World) (zs us : Array Value) (e : TypeId) : (w.alloc (.cells zs e)).setRow w.heap.size us = w.alloc (.cells us e) := by
  unfold World.setRow World.alloc
  congr 1
  apply Array.ext'
  simp only [Array.toList_push]
  apply List.ext_getElem?
  intro k
  rw [Array.getElem?_toList, Array.getElem?_modify]
  by_cases hk : w.heap.size = k
  · subst hk; simp
  · simp [hk, Array.getElem?_push, Ne.symm hk, List.getElem?_append]
    intro hle
    rw [List.getElem?_eq_none (by simp; omega), Array.getElem?_eq_none (by omega)]
end

theorem eval_put_same {a : Act} {t : Nat} {u : Value} (h : t < a.tmps.size) : (a.put (some t) u).eval (.tmp t) = u := by
  simp [Act.eval, Act.put, Array.getD_eq_getD_getElem?, h]
theorem eval_put_other {a : Act} {t s : Nat} {u : Value} (h : s ≠ t) : (a.put (some t) u).eval (.tmp s) = a.eval (.tmp s) := by
  simp [Act.eval, Act.put, Array.getD_eq_getD_getElem?, Ne.symm h]

theorem zero_cells {P : Program} {t : TypeId} {xs : List V} (h : zeroV P t = some xs) : ∃ i z, P.info? t = some i ∧ i.zero = some z ∧ z.cells.size = xs.length := by
  obtain ⟨i, z, h1, h2, h3⟩ := zeroV_parts h
  refine ⟨i, z, h1, h2, ?_⟩
  rw [← Array.length_toList]
  exact repA_length (constVs_rep (M := fun _ _ => none) h3)

section
variable {C : Ent → Prop} {P : Program} {R : List D → St → Prop} {c : Code} {p : List Nat} {k : List KI} {env env' : List D} {σ σ' : St} {i : Nat} {o : Oper} {d : D}

/-- a new variable that is written once -/
theorem at_new (sv t : Nat) {oa os : Oper} {e : TypeId} {zs : List V} {n : Nat} {b : Bool} {x : V} (ha : (opsIn (sub c p))[i]? = some oa) (hga : wantD env (opsIn (sub c p)) oa = some true) (hta : oa.dst = some t) (hopa : oa.op = .alloc e) (hz : zeroV P e = some zs)
    (hs : (opsIn (sub c p))[i + 1]? = some os) (hgs : os.guard = none) (hts : os.dst = none) (hops : os.op = .store e (.tmp t) (.tmp sv)) (hne : sv ≠ t) (hsv : env[sv]? = some d) (hx : d.toV = some x) (hsz : szAgg P e = some (n, b)) (hxn : x.size = n) (hzn : zs.length = n) (ht : t < env.length) (he : env.set t (.v (.ref x)) = env')
    (hk : OpsAtC C P R c p (i + 2) k env' σ) : OpsAtC C P R c p i k env σ := by
  subst he
  intro E g a w B hC hf hB
  obtain ⟨inf, z, hi, hz1, hzc⟩ := zero_cells hz
  have hsize : t < a.tmps.size := by rw [← Array.length_toList, repDs_length hf.env]; exact ht
  obtain ⟨v, hv, hrv⟩ := repDs_get hf.env hsv
  have hev : a.eval (.tmp sv) = v := by
    have hv' : a.tmps[sv]? = some v := by rw [← Array.getElem?_toList]; exact hv
    simp [Act.eval, Array.getD_eq_getD_getElem?, hv']
  have hcr := repV_cellsV (toV_rep hx hrv)
  rw [ops_drop ha]
  unfold wpList
  rw [if_pos (wanted_of hf.env hga)]
  refine .inl (wp_alloc hopa hi hz1 ?_)
  rw [ops_drop hs]
  unfold wpList
  rw [if_pos (by simp [Region.wanted, hgs])]
  refine .inl (wp_storeAll hops hsz (v := v) (e := e) (old := z.cells) (b := w.heap.size) ?_ ?_ (heap_alloc_new w _) (by rw [hcr.2, hxn]) (by rw [hzc, hzn]) (repA_oneCell hcr.1) ?_)
  · rw [hta]; exact eval_put_same hsize
  · rw [hta, eval_put_other hne]; exact hev
  rw [setRow_alloc, hts, hta]
  obtain ⟨hw', hle⟩ := hf.wi.newImm v.cells.toList [] e
  rw [List.append_nil, Array.toArray_toList] at hw'
  refine hk E _ _ _ B hC (hf.put hw' hle (d := .v (.ref x)) ?_ (some t)) hB
  simp only [repD, repV_ref]
  exact ⟨w.heap.size, 0, v.cells.toList, rfl, addM_in g.M w.heap.size _, repC.mono hle.M _ _ (toV_cells hx hrv)⟩

/-- the same, with a copy between -/
theorem at_new1 (sv t s2 t2 : Nat) {oa om os : Oper} {e : TypeId} {zs : List V} {n : Nat} {b : Bool} {x : V} {d2 : D} (ha : (opsIn (sub c p))[i]? = some oa) (hga : wantD env (opsIn (sub c p)) oa = some true) (hta : oa.dst = some t) (hopa : oa.op = .alloc e) (hz : zeroV P e = some zs)
    (hm : (opsIn (sub c p))[i + 1]? = some om) (hgm : om.guard = none) (htm : om.dst = some t2) (hopm : om.op = .move (.tmp s2) ∨ om.op = .assign (.tmp s2)) (hs2 : env[s2]? = some d2) (hn1 : s2 ≠ t) (hn2 : t2 ≠ t) (hn3 : sv ≠ t2)
    (hs : (opsIn (sub c p))[i + 2]? = some os) (hgs : os.guard = none) (hts : os.dst = none) (hops : os.op = .store e (.tmp t) (.tmp sv)) (hne : sv ≠ t) (hsv : env[sv]? = some d) (hx : d.toV = some x) (hsz : szAgg P e = some (n, b)) (hxn : x.size = n) (hzn : zs.length = n) (ht : t < env.length) (he : (env.set t (.v (.ref x))).set t2 d2 = env')
    (hk : OpsAtC C P R c p (i + 3) k env' σ) : OpsAtC C P R c p i k env σ := by
  subst he
  intro E g a w B hC hf hB
  obtain ⟨inf, z, hi, hz1, hzc⟩ := zero_cells hz
  have hsize : t < a.tmps.size := by rw [← Array.length_toList, repDs_length hf.env]; exact ht
  obtain ⟨v, hv, hrv⟩ := repDs_get hf.env hsv
  obtain ⟨v2, hv2, hrv2⟩ := repDs_get hf.env hs2
  have hev : a.eval (.tmp sv) = v := by
    have hv' : a.tmps[sv]? = some v := by rw [← Array.getElem?_toList]; exact hv
    simp [Act.eval, Array.getD_eq_getD_getElem?, hv']
  have hev2 : a.eval (.tmp s2) = v2 := by
    have hv' : a.tmps[s2]? = some v2 := by rw [← Array.getElem?_toList]; exact hv2
    simp [Act.eval, Array.getD_eq_getD_getElem?, hv']
  have hcr := repV_cellsV (toV_rep hx hrv)
  rw [ops_drop ha]
  unfold wpList
  rw [if_pos (wanted_of hf.env hga)]
  refine .inl (wp_alloc hopa hi hz1 ?_)
  rw [ops_drop hm]
  unfold wpList
  rw [if_pos (by simp [Region.wanted, hgm])]
  refine .inl ?_
  have hmid : ∀ (a' : Act) (w' : World) (K : Act → World → Prop) (Q : Exit → Act → World → Prop), a'.eval (.tmp s2) = v2 → K (a'.put om.dst v2) w' → om.wp P a' w' K Q := by
    intro a' w' K Q h1 h2
    unfold Oper.wp execOp
    rcases hopm with h | h <;> simpa [h, h1, Oper.upon] using h2
  refine hmid _ _ _ _ (by rw [hta, eval_put_other hn1]; exact hev2) ?_
  rw [ops_drop hs]
  unfold wpList
  rw [if_pos (by simp [Region.wanted, hgs])]
  refine .inl (wp_storeAll hops hsz (v := v) (e := e) (old := z.cells) (b := w.heap.size) ?_ ?_ (heap_alloc_new w _) (by rw [hcr.2, hxn]) (by rw [hzc, hzn]) (repA_oneCell hcr.1) ?_)
  · rw [hta, htm, eval_put_other (Ne.symm hn2)]; exact eval_put_same hsize
  · rw [hta, htm, eval_put_other hn3, eval_put_other hne]; exact hev
  rw [setRow_alloc, hts, hta, htm]
  obtain ⟨hw', hle⟩ := hf.wi.newImm v.cells.toList [] e
  rw [List.append_nil, Array.toArray_toList] at hw'
  have hf1 := hf.put hw' hle (u := .pointer (some ⟨w.heap.size, 0, none⟩)) (d := .v (.ref x)) (by
    simp only [repD, repV_ref]
    exact ⟨w.heap.size, 0, v.cells.toList, rfl, addM_in g.M w.heap.size _, repC.mono hle.M _ _ (toV_cells hx hrv)⟩) (some t)
  exact hk E _ _ _ B hC (hf1.put hf1.wi (Gh.le_refl _) (repD.mono hle _ _ hrv2) (some t2)) hB
end

end Go.Dv
