/-
  New lists: slice literals, append to an owned list, make, parts of lists. No program is named here.
-/
import Derived.Test.YtoofgniepbidnaaDvF
namespace Go.Dv

def repl (k sz : Nat) (zs : List V) (x : Nat × Nat × List V) : Nat × Nat × List V := if x.1 = k then (k, sz, zs) else x

theorem repl_fst {k sz : Nat} {zs : List V} (x : Nat × Nat × List V) : (repl k sz zs x).1 = x.1 := by unfold repl; split <;> simp_all

/-- an owned list has grown -/
theorem WI.setOwn {E : Ent} {g : Gh} {σ : St} {w w' : World} (hw : WI E g σ w) {k sz : Nat} {xs zs : List V} (hx : (k, sz, xs) ∈ σ.own) {u u' : Value} (hu : g.ι k xs.length = some u) {M' : Mem} (hle : g.M.le M')
    (keep : ∀ b, b < w.heap.size → ownB u ≠ some b → w'.heap[b]? = w.heap[b]? ∧ ∀ o, M' b o = g.M b o) (mem : ∀ b o v, M' b o = some v → w'.cell? ⟨b, o, none⟩ = some v)
    (size : w.heap.size ≤ w'.heap.size) (os : w'.os = w.os) (tape : w'.tape = w.tape) (output : w'.output = w.output)
    (hzs : ∀ x ∈ zs, x.size = sz) (hr : repV M' (.list zs) u') (hp : Perm M' w' sz u') (hb : ∀ b, ownB u' = some b → ownB u = some b ∨ w.heap.size ≤ b) (hlen : xs.length < zs.length ∨ (zs.length = xs.length ∧ u' = u)) :
    WI E { g with M := M', ι := fun k' m => if k' = k ∧ m = zs.length then some u' else g.ι k' m } ⟨σ.H, σ.own.map (repl k sz zs)⟩ w' ∧
    g.le { g with M := M', ι := fun k' m => if k' = k ∧ m = zs.length then some u' else g.ι k' m } := by
  obtain ⟨hsz, u0, hu0, _, _, hfr⟩ := hw.rep.own k sz xs hx
  have hlg : g.le { g with M := M', ι := fun k' m => if k' = k ∧ m = zs.length then some u' else g.ι k' m } := by
    refine ⟨hle, Nat.le_refl _, fun _ _ => rfl, fun k' m v h => ?_, fun _ _ => rfl⟩
    by_cases e : k' = k ∧ m = zs.length
    · obtain ⟨rfl, rfl⟩ := e
      simp only [and_self, if_true]
      rcases hlen with hl | ⟨hl, rfl⟩
      · rw [hfr _ hl] at h; simp at h
      · rw [hl] at h; exact hu.symm.trans h
    · simp only [if_neg e]; exact h
  -- two entries with one tag are one
  have uniq : ∀ y ∈ σ.own, y.1 = k → y = (k, sz, xs) := by
    intro y hy e
    have hnd := hw.rep.tags
    clear hfr hlg hw
    generalize σ.own = l at *
    induction l with
    | nil => simp at hy
    | cons z l ih =>
      simp only [List.map_cons, List.nodup_cons] at hnd
      rcases List.mem_cons.1 hy with rfl | hy' <;> rcases List.mem_cons.1 hx with hx' | hx'
      · exact hx'.symm
      · exact absurd (List.mem_map.2 ⟨_, hx', e.symm⟩) hnd.1
      · subst hx'; exact absurd (List.mem_map.2 ⟨_, hy', e⟩) hnd.1
      · exact ih hx' hy' hnd.2
  have old : ∀ y ∈ σ.own, y.1 ≠ k → (if y.1 = k ∧ y.2.2.length = zs.length then some u' else g.ι y.1 y.2.2.length) = g.ι y.1 y.2.2.length := fun y _ e => if_neg (fun h => e h.1)
  -- each new entry
  have cases_ : ∀ y' ∈ σ.own.map (repl k sz zs), (y' = (k, sz, zs)) ∨ (y' ∈ σ.own ∧ y'.1 ≠ k) := by
    intro y' hy'
    obtain ⟨y, hy, rfl⟩ := List.mem_map.1 hy'
    by_cases e : y.1 = k
    · exact .inl (by simp [repl, e])
    · exact .inr (by simp only [repl, if_neg e]; exact ⟨hy, e⟩)
  have sep0 : ∀ y ∈ σ.own, y.1 ≠ k → ∀ v, g.ι y.1 y.2.2.length = some v → ∀ b, ownB v = some b → ownB u' ≠ some b := by
    intro y hy e v hv b hvb hub
    rcases hb b hub with h | h
    · exact hw.rep.sep (k, sz, xs) hx y hy (fun h => e h.symm) u v hu hv b h hvb
    · have := hw.rep.own_lt hy hv hvb; omega
  refine ⟨hw.update (fun b => ownB u = some b) (fun b h => hw.owns _ hx u hu b h) (fun b hb1 h => keep b hb1 h) hle (Nat.le_refl _) (fun _ _ => rfl) (fun _ _ => rfl) size os tape output ?_ hw.objs ?_, hlg⟩
  · refine ⟨hw.rep.n, mem, fun i cs hi => ?_, hw.rep.inj, fun k' sz' xs' hx' => ?_, ?_, fun x1 hx1 y1 hy1 hne u1 u2 h1 h2 b hb1 => ?_, fun x1 hx1 u1 h1 b hb1 i cs hi => ?_, fun k' hk' m => ?_⟩
    · obtain ⟨us, rest, e, h2, h3, h4, h5, h6⟩ := hw.rep.obj i cs hi
      obtain ⟨k1, k2⟩ := keep _ (heap_lt h2) (fun h => hw.rep.ownObj _ hx u hu _ h i cs hi rfl)
      exact ⟨us, rest, e, k1.trans h2, repDs.mono hlg _ _ h3, h4, fun o => (k2 o).trans (h5 o), h6⟩
    · rcases cases_ _ hx' with e | ⟨hy, e⟩
      · simp only [Prod.mk.injEq] at e
        obtain ⟨rfl, rfl, rfl⟩ := e
        refine ⟨⟨hsz.1, hzs⟩, u', by simp, hr, hp, fun m hm => ?_⟩
        show (if k' = k' ∧ m = xs'.length then some u' else g.ι k' m) = none
        rw [if_neg (by omega)]
        exact hfr m (by rcases hlen with h | ⟨h, _⟩ <;> omega)
      · obtain ⟨h0, v, hv, h3, h4, h5⟩ := hw.rep.own k' sz' xs' hy
        refine ⟨h0, v, (old _ hy e).trans hv, h3.mono hle, h4.kept fun b hvb => keep b (hw.rep.own_lt hy hv hvb) ?_, fun m hm => ?_⟩
        · exact fun h => hw.rep.sep (k, sz, xs) hx _ hy (fun h => e h.symm) u v hu hv b h hvb
        · simp only [if_neg (show ¬ (k' = k ∧ m = zs.length) from fun h => e h.1)]
          exact h5 m hm
    · rw [List.map_map]
      have : (Prod.fst ∘ repl k sz zs) = Prod.fst := funext fun x => repl_fst x
      rw [this]; exact hw.rep.tags
    · rcases cases_ _ hx1 with rfl | ⟨hy, e⟩ <;> rcases cases_ _ hy1 with rfl | ⟨hy', e'⟩
      · exact absurd rfl hne
      · simp at h1; subst h1
        have h2' := (old _ hy' e').symm.trans h2
        exact fun h => sep0 y1 hy' e' u2 h2' b h hb1
      · simp at h2; subst h2
        exact sep0 x1 hy e u1 ((old _ hy e).symm.trans h1) b hb1
      · exact hw.rep.sep x1 hy y1 hy' hne u1 u2 ((old _ hy e).symm.trans h1) ((old _ hy' e').symm.trans h2) b hb1
    · rcases cases_ _ hx1 with rfl | ⟨hy, e⟩
      · simp at h1; subst h1
        rcases hb b hb1 with h | h
        · exact hw.rep.ownObj _ hx u hu b h i cs hi
        · have := hw.rep.obj_lt hi
          intro h'; simp only at h'; omega
      · exact hw.rep.ownObj x1 hy u1 ((old _ hy e).symm.trans h1) b hb1 i cs hi
    · have hne : ¬ (k' = k) := fun e => hk' (k, sz, zs) (List.mem_map.2 ⟨_, hx, by simp [repl]⟩) e.symm
      simp only [if_neg (show ¬ (k' = k ∧ m = zs.length) from fun h => hne h.1)]
      refine hw.rep.fresh k' (fun y hy e => ?_) m
      have := hk' (repl k sz zs y) (List.mem_map.2 ⟨y, hy, rfl⟩)
      rw [repl_fst] at this
      exact this e
  · intro x1 hx1 u1 h1 b hb1
    rcases cases_ _ hx1 with rfl | ⟨hy, e⟩
    · simp at h1; subst h1
      rcases hb b hb1 with h | h
      · exact hw.owns _ hx u hu b h
      · exact .inl (Nat.le_trans hw.size h)
    · exact hw.owns x1 hy u1 ((old _ hy e).symm.trans h1) b hb1

/-- cells of a new block, known from now on -/
def addM (M : Mem) (b : Nat) (us : List Value) : Mem := fun b' o => if b' = b then us[o]? else M b' o

theorem addM_le {g : Gh} {σ : St} {w : World} (h : WRep g σ w) {b : Nat} (hb : w.heap.size ≤ b) (us : List Value) : g.M.le (addM g.M b us) := fun b' o v hm => by
  have := h.mem_lt hm
  simp only [addM, if_neg (show ¬ b' = b by omega)]; exact hm

theorem addM_in (M : Mem) (b : Nat) (us : List Value) : inM (addM M b us) b 0 us := fun j v hj => by simp [addM, hj]

theorem addM_other {M : Mem} {b b' : Nat} {us : List Value} (h : b' ≠ b) (o : Nat) : addM M b us b' o = M b' o := by simp [addM, h]

/-- a new block whose first cells are known from now on -/
theorem WI.newImm {E : Ent} {g : Gh} {σ : St} {w : World} (hw : WI E g σ w) (us rest : List Value) (e : TypeId) :
    WI E { g with M := addM g.M w.heap.size us } σ (w.alloc (.cells (us ++ rest).toArray e)) ∧ g.le { g with M := addM g.M w.heap.size us } := by
  refine ⟨hw.grow (addM_le hw.rep (Nat.le_refl _) us) (fun b hb => ⟨heap_alloc_old w _ b hb, addM_other (Nat.ne_of_lt hb)⟩) (fun b o v hm => ?_) (by simp) rfl rfl rfl, ⟨addM_le hw.rep (Nat.le_refl _) us, Nat.le_refl _, fun _ _ => rfl, fun _ _ _ h => h, fun _ _ => rfl⟩⟩
  unfold addM at hm
  split at hm
  · rename_i e; subst e
    rw [World.cell?_alloc_new]
    have hlt := (List.getElem?_eq_some_iff.1 hm).1
    simp [List.getElem?_append_left hlt, hm]
  · exact cell_alloc w _ (hw.rep.mem b o v hm)

theorem repE_append {M : Mem} {sz : Nat} : ∀ {xs ys : List V} {us vs : List Value}, repE M sz xs us → repE M sz ys vs → repE M sz (xs ++ ys) (us ++ vs)
  | [], ys, us, vs, h, h' => by simp only [repE] at h; simpa [h] using h'
  | x :: xs, ys, us, vs, h, h' => by
    simp only [repE] at h
    obtain ⟨u1, u2, rfl, hl, h1, h2⟩ := h
    simp only [List.cons_append, repE]
    exact ⟨u1, u2 ++ vs, by simp, hl, h1, repE_append h2 h'⟩

theorem repE_oneCell {M : Mem} {sz : Nat} : ∀ {xs : List V} {us : List Value}, repE M sz xs us → ∀ u ∈ us, u.oneCell' = true
  | [], us, h => by simp only [repE] at h; simp [h]
  | x :: xs, us, h => by
    simp only [repE] at h
    obtain ⟨u1, u2, rfl, hl, h1, h2⟩ := h
    intro u hu
    rcases List.mem_append.1 hu with hu | hu
    · exact repC_oneCell h1 u hu
    · exact repE_oneCell h2 u hu

/-- the cells of a list of elements of sz cells -/
theorem repV_list_cells {M : Mem} {xs : List V} {u : Value} {sz : Nat} (h : repV M (.list xs) u) (hs : ∀ x ∈ xs, x.size = sz) (hsz : 0 < sz) :
    ∃ a cap, u = .slice a xs.length cap ∧ xs.length ≤ cap ∧ (xs = [] ∨ ∃ b off us, a = some ⟨b, off, none⟩ ∧ inM M b off us ∧ repE M sz xs us) := by
  rw [repV_list] at h
  obtain ⟨a, cap, e, hc, h⟩ := h
  refine ⟨a, cap, e, hc, ?_⟩
  rcases h with h | ⟨b, off, sz', us, ha, hsz', hi, hr⟩
  · exact .inl h
  · cases xs with
    | nil => exact .inl rfl
    | cons x xs =>
      have hx := hs x (by simp)
      have : sz' = sz := by
        obtain ⟨u1, h1, h2, _⟩ := repE_get hr (i := 0) (x := x) (by simp)
        rw [← h2, repC_length h1, hx]
      subst this
      exact .inr ⟨b, off, us, ha, hi, hr⟩

theorem repV_of_cells {M : Mem} {xs : List V} {b sz cap : Nat} {us : List Value} (hsz : 0 < sz) (hi : inM M b 0 us) (hr : repE M sz xs us) (hc : xs.length ≤ cap) : repV M (.list xs) (.slice (some ⟨b, 0, none⟩) xs.length cap) := by
  rw [repV_list]
  exact ⟨_, cap, rfl, hc, .inr ⟨b, 0, sz, us, rfl, hsz, hi, hr⟩⟩

section
variable {P : Program} {o : Oper} {σ : St} {d : D}

theorem fill_all (s : Nat) : ∀ (vs : List Value) (i0 : Nat) (pre rest : List Value), pre.length = i0 * s → (∀ v ∈ vs, v.cells.size = s) → rest.length = vs.length * s →
    Instr.fill (fun i => some (i * s, s)) (pre ++ rest).toArray ((vs.zipIdx i0).map fun x => (x.2, x.1)) = some (pre ++ vs.flatMap (·.cells.toList)).toArray
  | [], i0, pre, rest, _, _, hr => by
    have : rest = [] := List.eq_nil_of_length_eq_zero (by simpa using hr)
    subst this; simp [Instr.fill]
  | v :: vs, i0, pre, rest, hp, hv, hr => by
    have hvs := hv v (by simp)
    have hr' : rest.length = s + vs.length * s := by rw [hr, List.length_cons, Nat.add_mul, Nat.one_mul, Nat.add_comm]
    have hsp := splice (i0 * s) v.cells.toList (pre ++ rest).toArray (by simp only [List.size_toArray, List.length_append, Array.length_toList]; omega)
    simp only [Array.length_toList, hvs] at hsp
    have e1 : (pre ++ rest).take (i0 * s) = pre := by rw [← hp]; simp
    have e2 : (pre ++ rest).drop (i0 * s + s) = rest.drop s := by rw [← hp]; simp
    simp only [e1, e2] at hsp
    have ih := fill_all s vs (i0 + 1) (pre ++ v.cells.toList) (rest.drop s) (by simp [hp, hvs, Nat.add_mul]) (fun x hx => hv x (by simp [hx])) (by simp; omega)
    simp only [List.zipIdx_cons, List.map_cons]
    unfold Instr.fill
    simp only [hvs]
    rw [if_neg (by simp; omega)]
    have e3 : (v.cells.zipIdx.foldl (fun cs (x : Value × Nat) => cs.setIfInBounds (i0 * s + x.2) x.1) (pre ++ rest).toArray) = (pre ++ v.cells.toList ++ rest.drop s).toArray := by
      rw [← Array.foldl_toList, Array.toList_zipIdx]
      apply Array.ext'
      rw [hsp]
    rw [e3, ih]
    simp

theorem toVs_vals {g : Gh} {sz : Nat} : ∀ {ds : List D} {xs : List V} {us : List Value}, toVs ds = some xs → repDs g ds us → (∀ x ∈ xs, x.size = sz) → repE g.M sz xs (us.flatMap (·.cells.toList)) ∧ (∀ v ∈ us, v.cells.size = sz)
  | [], xs, us, h, hr, _ => by simp [toVs] at h; subst h; simp only [repDs] at hr; subst hr; simp [repE]
  | d :: ds, xs, us, h, hr, hs => by
    simp only [toVs] at h
    split at h
    · rename_i x xs' hx hxs
      simp at h; subst h
      simp only [repDs] at hr
      obtain ⟨u, us', rfl, h2, h3⟩ := hr
      have hv := toV_rep hx h2
      obtain ⟨_, hsz⟩ := repV_cellsV hv
      obtain ⟨h4, h5⟩ := toVs_vals hxs h3 (fun y hy => hs y (by simp [hy]))
      have hu : u.cells.size = sz := hsz.trans (hs x (by simp))
      refine ⟨?_, ?_⟩
      · simp only [List.flatMap_cons, repE]
        exact ⟨_, _, rfl, by simpa using hu, repV_cells hv, h4⟩
      · intro v hv'
        rcases List.mem_cons.1 hv' with rfl | h
        · exact hu
        · exact h5 v h
    · simp at h

theorem toVs_length : ∀ {ds : List D} {xs : List V}, toVs ds = some xs → xs.length = ds.length
  | [], xs, h => by simp [toVs] at h; simp [← h]
  | d :: ds, xs, h => by
    simp only [toVs] at h
    split at h
    · rename_i x xs' hx hxs
      simp at h; subst h
      simp [toVs_length hxs]
    · simp at h

/-- a slice literal with all its elements written -/
theorem op_buildSlice {t : TypeId} {len : Nat} {parts : Array (Nat × Operand)} (ho : o.op = .buildSlice t len parts) (hp : parts.toList = ((parts.toList.map (·.2)).zipIdx 0).map fun x => (x.2, x.1)) (hlen : parts.size = len)
    {e : TypeId} {sz by' : Nat} {z : Option Value} (hs : slTy P t = some (e, sz, by', z)) (hz : z.isSome = true) {ds : List D} {xs : List V} (hx : toVs ds = some xs) (hsz : ∀ x ∈ xs, x.size = sz) (h0 : 0 < len) (h1 : 0 < sz) (h2 : len * sz ≤ 1000) :
    OpOK P o ds σ (.v (.list xs)) σ := by
  intro E g a w K Q hw hds hK
  simp only [ho, Op.operands] at hds
  obtain ⟨i, hu, hi, rfl, rfl, rfl⟩ := slTy_parts hs
  obtain ⟨zz, hzz⟩ := Option.isSome_iff_exists.1 hz
  have hlm : (parts.toList.map fun p => a.eval p.2).length = len := by simp [hlen]
  have hds' : repDs g ds (parts.toList.map fun p => a.eval p.2) := by simpa [Function.comp_def] using hds
  obtain ⟨hr, hcs⟩ := toVs_vals hx hds' hsz
  have hxl : xs.length = len := by rw [toVs_length hx, ← repDs_length hds', hlm]
  have hpos : 0 < len * i.size := Nat.mul_pos h0 h1
  have hf := fill_all i.size (parts.toList.map fun p => a.eval p.2) 0 [] ((Array.range (len * i.size)).map (zz.cells[· % zz.cells.size]!)).toList (by simp) hcs (by simp [hlen])
  have hpp : ((parts.toList.map fun p => a.eval p.2).zipIdx 0).map (fun x => (x.2, x.1)) = parts.toList.map fun p => (p.1, a.eval p.2) := by
    have e1 : (parts.toList.map fun p => a.eval p.2) = (parts.toList.map (·.2)).map a.eval := by simp
    rw [e1, List.zipIdx_map, List.map_map]
    conv => rhs; rw [hp, List.map_map]
    rfl
  rw [hpp] at hf
  simp only [List.nil_append, Array.toArray_toList] at hf
  have hrun := run_buildSlice (P := P) w t e len (parts.map fun p => (p.1, a.eval p.2)) _ i zz hu hi hzz (by omega) (by omega) (by simpa using hf)
  obtain ⟨hw', hle⟩ := hw.newImm ((parts.toList.map fun p => a.eval p.2).flatMap (·.cells.toList)) [] e
  rw [List.append_nil] at hw'
  have := hK _ _ (.slice (some ⟨w.heap.size, 0, none⟩) len len) hw' hle (by
    simp only [repD]
    have := repV_of_cells (cap := len) h1 (addM_in g.M w.heap.size _) (repE.mono hle.M _ _ _ hr) (by omega)
    rw [hxl] at this
    exact this)
  unfold Oper.wp execOp
  simp only [ho]
  simp only [Sem.run_bind]
  rw [show (parts.map fun (x : Nat × Operand) => match x with | (i, x) => (i, a.eval x)) = parts.map fun p => (p.1, a.eval p.2) from rfl, hrun]
  exact this

/-- an empty slice literal -/
theorem op_buildSlice0 {t : TypeId} {parts : Array (Nat × Operand)} (ho : o.op = .buildSlice t 0 parts) (hp : parts = #[]) {e : TypeId} {sz by' : Nat} {z : Option Value} (hs : slTy P t = some (e, sz, by', z)) :
    OpOK P o [] σ (.v (.list [])) σ := by
  intro E g a w K Q hw hds hK
  obtain ⟨i, hu, hi, rfl, rfl, rfl⟩ := slTy_parts hs
  subst hp
  have := hK g _ (.slice (some ⟨w.heap.size, 0, none⟩) 0 0) (hw.alloc (.cells #[] e)) g.le_refl (by
    simp only [repD]; rw [repV_list]; exact ⟨_, 0, rfl, Nat.le_refl _, .inl rfl⟩)
  unfold Oper.wp execOp
  simpa [ho, Instr.buildSlice, run_underlying hu, sizeOf, typeInfo, hi, Instr.fill, newRow, Oper.upon, show Array.range 0 = #[] from rfl] using this

/-- a nil slice as the beginning of an owned list -/
theorem op_nilOwn (ho : o.op = .assign (.const (.slice none 0 0)) ∨ o.op = .move (.const (.slice none 0 0))) (k sz : Nat) (hk : ∀ y ∈ σ.own, y.1 ≠ k) (hsz : 0 < sz) :
    OpOK P o [.v (.list [])] σ (.acc k []) ⟨σ.H, (k, sz, []) :: σ.own⟩ := by
  intro E g a w K Q hw hds hK
  obtain ⟨hw', hle⟩ := hw.addOwn (k := k) (sz := sz) (xs := []) (u := .slice none 0 0) hk ⟨hsz, by simp⟩ (repV_nil _) (.inl ⟨none, rfl⟩) (fun b hb => by simp [ownB] at hb)
  have := hK _ w (.slice none 0 0) hw' hle (by simp only [repD]; exact ⟨repV_nil _, by simp⟩)
  unfold Oper.wp execOp
  rcases ho with ho | ho <;> simpa [ho, Act.eval, Oper.upon] using this

end
end Go.Dv
