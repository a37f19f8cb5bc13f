/-
  Boxes, stores, struct and slice literals. No program is named here.
-/
import Derived.Test.YtoofgniepbidnaaDvE
import Derived.Great.BuildSlice
namespace Go.Dv

def cellsD : D → List D
  | .v (.agg xs) => xs.map .v
  | .dagg cs => cs
  | d => [d]

/-- what can be stored -/
def D.sto : D → Bool
  | .v _ | .acc .. | .ptr .. | .arr .. | .gro .. | .dfn .. => true
  | .dagg cs => cs.all D.one
  | .raw x => x.oneCell'
  | .rv x _ => !x.isAgg
  | _ => false

theorem repA_repDs {g : Gh} : ∀ {xs : List V} {us : List Value}, repA g.M xs us → repDs g (xs.map .v) us ∧ ∀ c ∈ xs.map D.v, c.one = true
  | [], us, h => by simp only [repA] at h; simp [h, repDs]
  | x :: xs, us, h => by
    simp only [repA] at h
    obtain ⟨u, us', rfl, ha, h1, h2⟩ := h
    obtain ⟨h3, h4⟩ := repA_repDs h2
    refine ⟨?_, ?_⟩
    · simp only [List.map_cons, repDs, repD]
      exact ⟨u, us', rfl, (repV_one ha).2 h1, h3⟩
    · intro c hc
      simp only [List.map_cons, List.mem_cons] at hc
      rcases hc with rfl | hc
      · simp [D.one, ha]
      · exact h4 c hc

theorem cells_one {u : Value} (h : u.oneCell' = true) : u.cells = #[u] := by cases u <;> simp_all [Value.cells, Value.oneCell']

theorem repD_oneCell {g : Gh} {d : D} {u : Value} (h1 : d.one = true) (h : repD g d u) : u.oneCell' = true := by
  cases d with
  | v x => simp only [repD] at h; exact repV_oneCell (by simpa [D.one] using h1) h
  | acc k xs => simp only [repD] at h; exact repV_oneCell (x := .list xs) rfl h.1
  | ptr q off => simp only [repD] at h; rw [h.2]; rfl
  | arr q off len => simp only [repD] at h; obtain ⟨_, cap, _, rfl⟩ := h; rfl
  | gro q len sz => simp only [repD] at h; obtain ⟨_, cap, _, _, rfl⟩ := h; rfl
  | dfn f fs cs => simp only [repD] at h; obtain ⟨us, vs, rfl, _⟩ := h; rfl
  | raw x => simp only [repD] at h; subst h; simpa [D.one] using h1
  | rv x u0 => simp only [repD] at h; rw [h.1]; exact repV_oneCell (by simpa [D.one] using h1) h.2
  | dagg cs => simp [D.one] at h1
  | tup ds => simp [D.one] at h1
  | undef => simp [D.one] at h1
theorem repDs_oneCells {g : Gh} : ∀ {cs : List D} {us : List Value}, (∀ c ∈ cs, c.one = true) → repDs g cs us → ∀ u ∈ us, u.oneCell' = true
  | [], us, _, h => by simp only [repDs] at h; simp [h]
  | c :: cs, us, h1, h => by
    simp only [repDs] at h
    obtain ⟨u, us', rfl, h2, h3⟩ := h
    intro x hx
    simp only [List.mem_cons] at hx
    rcases hx with rfl | hx
    · exact repD_oneCell (h1 c (by simp)) h2
    · exact repDs_oneCells (fun c hc => h1 c (by simp [hc])) h3 x hx

theorem cells_rep {g : Gh} {d : D} {u : Value} (hs : d.sto = true) (h : repD g d u) : repDs g (cellsD d) u.cells.toList ∧ (∀ c ∈ cellsD d, c.one = true) ∧ (∀ x ∈ u.cells.toList, x.oneCell' = true) := by
  have one : d.one = true → u.oneCell' = true → cellsD d = [d] → repDs g (cellsD d) u.cells.toList ∧ (∀ c ∈ cellsD d, c.one = true) ∧ (∀ x ∈ u.cells.toList, x.oneCell' = true) := by
    intro h1 h2 h3
    rw [h3, cells_one h2]
    exact ⟨repDs_one.2 ⟨u, rfl, h⟩, by simp [h1], by simp [h2]⟩
  cases d with
  | v x =>
    cases hx : x.isAgg with
    | false => exact one (by simp [D.one, hx]) (by simp only [repD] at h; exact repV_oneCell hx h) (by cases x with | agg _ => simp [V.isAgg] at hx | _ => rfl)
    | true =>
      cases x with
      | agg cs =>
        simp only [repD, repV_agg] at h
        obtain ⟨ws, hr, rfl⟩ := h
        simp only [cellsD, Value.cells]
        obtain ⟨h3, h4⟩ := repA_repDs hr
        exact ⟨h3, h4, repA_oneCell hr⟩
      | _ => simp [V.isAgg] at hx
  | acc k xs => exact one rfl (by simp only [repD] at h; exact repV_oneCell (x := .list xs) rfl h.1) rfl
  | ptr q off => exact one rfl (by simp only [repD] at h; rw [h.2]; rfl) rfl
  | arr q off len => exact one rfl (by simp only [repD] at h; obtain ⟨_, cap, _, rfl⟩ := h; rfl) rfl
  | dfn f fs cs => exact one rfl (by simp only [repD] at h; obtain ⟨us, vs, rfl, _⟩ := h; rfl) rfl
  | gro q len sz => exact one rfl (repD_oneCell rfl h) rfl
  | rv x u0 => exact one (by simpa [D.sto, D.one] using hs) (repD_oneCell (by simpa [D.sto, D.one] using hs) h) rfl
  | raw x => exact one (by simpa [D.sto, D.one] using hs) (repD_oneCell (by simpa [D.sto, D.one] using hs) h) rfl
  | dagg cs =>
    simp only [repD] at h
    obtain ⟨us, rfl, hr⟩ := h
    have h1 : ∀ c ∈ cs, c.one = true := by simpa [D.sto] using hs
    simp only [cellsD, Value.cells]
    exact ⟨hr, h1, repDs_oneCells h1 hr⟩
  | tup ds => simp [D.sto] at hs
  | undef => simp [D.sto] at hs

/-- an object's cells are written -/
theorem WI.setObj {E : Ent} {g : Gh} {σ : St} {w w' : World} (hw : WI E g σ w) {q : Nat} {cs cs' : List D} (hq : σ.H[q]? = some (some cs)) {us rest : List Value} {e : TypeId} (hb : w'.heap[g.β q]? = some (.cells (us ++ rest).toArray e (0, 0))) (hκ : (us ++ rest).length = g.κ q)
    (hr : repDs g cs' us) (h1 : ∀ c ∈ cs', c.one = true) (keep : ∀ b, b ≠ g.β q → w'.heap[b]? = w.heap[b]?) (size : w'.heap.size = w.heap.size) (os : w'.os = w.os) (tape : w'.tape = w.tape) (output : w'.output = w.output) :
    WI E g ⟨σ.H.set q (some cs'), σ.own⟩ w' := by
  have hMq : ∀ o, g.M (g.β q) o = none := by obtain ⟨_, _, _, _, _, _, h, _⟩ := hw.rep.obj q cs hq; exact h
  have split : ∀ (i : Nat) (cs1 : List D), (σ.H.set q (some cs'))[i]? = some (some cs1) → (i = q ∧ cs1 = cs') ∨ (i ≠ q ∧ σ.H[i]? = some (some cs1)) := by
    intro i cs1 hi
    rw [List.getElem?_set] at hi
    split at hi
    · rename_i e; subst e
      split at hi
      · simp at hi; exact .inl ⟨rfl, hi.symm⟩
      · simp at hi
    · rename_i e; exact .inr ⟨fun h => e h.symm, hi⟩
  have live : ∀ (i : Nat) (cs1 : List D), (σ.H.set q (some cs'))[i]? = some (some cs1) → ∃ cs2, σ.H[i]? = some (some cs2) := by
    intro i cs1 hi
    rcases split i cs1 hi with ⟨rfl, _⟩ | ⟨_, h⟩
    · exact ⟨cs, hq⟩
    · exact ⟨_, h⟩
  refine hw.update (fun b => b = g.β q) (fun b e => by subst e; exact hw.objs q cs hq) (fun b _ hne => ⟨keep b hne, fun _ => rfl⟩) (Mem.le_refl _) (Nat.le_refl _) (fun _ _ => rfl) (fun _ _ => rfl) (by omega) os tape output ?_ ?_ hw.owns
  · refine ⟨by simp [hw.rep.n], fun b o v hm => ?_, fun i cs1 hi => ?_, fun i j c1 c2 hi hj hij => ?_, fun k sz xs hx => ?_, hw.rep.tags, hw.rep.sep, fun x hx u hu b hb' i cs1 hi => ?_, hw.rep.fresh⟩
    · have hne : b ≠ g.β q := fun e => by subst e; rw [hMq o] at hm; simp at hm
      have := hw.rep.mem b o v hm
      simp only [World.cell?] at this ⊢
      rw [keep b hne]; exact this
    · rcases split i cs1 hi with ⟨rfl, rfl⟩ | ⟨hne, h⟩
      · exact ⟨us, rest, e, hb, hr, h1, hMq, hκ⟩
      · obtain ⟨us', rest', e', h2, h3, h4, h5⟩ := hw.rep.obj i cs1 h
        refine ⟨us', rest', e', ?_, h3, h4, h5⟩
        rw [keep _ (fun e => hne (hw.rep.inj i q _ _ h hq e))]; exact h2
    · obtain ⟨c3, h3⟩ := live i c1 hi
      obtain ⟨c4, h4⟩ := live j c2 hj
      exact hw.rep.inj i j _ _ h3 h4 hij
    · obtain ⟨h0, u, hu, h3, h4, h5⟩ := hw.rep.own k sz xs hx
      refine ⟨h0, u, hu, h3, h4.kept fun b hb' => ⟨keep b ?_, fun _ => rfl⟩, h5⟩
      exact fun e => hw.rep.ownObj _ hx u hu b hb' q cs hq e.symm
    · obtain ⟨c3, h3⟩ := live i cs1 hi
      exact hw.rep.ownObj x hx u hu b hb' i c3 h3
  · intro i cs1 hi
    obtain ⟨c3, h3⟩ := live i cs1 hi
    exact hw.objs i c3 h3

section
variable {P : Program} {o : Oper} {σ : St} {d : D}

/-- a fresh block as a new object -/
theorem WI.newObj {E : Ent} {g : Gh} {w : World} (hw : WI E g σ w) {us : List Value} {cs : List D} (e : TypeId) (hr : repDs g cs us) (h1 : ∀ c ∈ cs, c.one = true) :
    ∃ g', WI E g' ⟨σ.H ++ [some cs], σ.own⟩ (w.alloc (.cells us.toArray e)) ∧ g.le g' ∧ g'.β σ.H.length = w.heap.size ∧ g'.n = σ.H.length + 1 := by
  have h2 := (hw.alloc (.cells us.toArray e)).addObj (b := w.heap.size) (us := us) (rest := []) (e := e) (cs := cs) (by rw [List.append_nil]; exact heap_alloc_new w _) (.inl hw.size) (hw.rep.new_none (Nat.le_refl _))
    (fun i cs hi => Nat.ne_of_lt (hw.rep.obj_lt hi)) (fun x hx u hu hb => by have := hw.rep.own_lt hx hu hb; omega) hr h1
  exact ⟨_, h2.1, h2.2, by simp [hw.rep.n], by simp [hw.rep.n]⟩

theorem op_box {e : TypeId} {x : Operand} (ho : o.op = .box e x) (hs : d.sto = true) : OpOK P o [d] σ (.ptr σ.H.length 0) ⟨σ.H ++ [some (cellsD d)], σ.own⟩ := by
  intro E g a w K Q hw hds hK
  simp only [ho, Op.operands, repDs_one] at hds
  obtain ⟨u, eu, hd⟩ := hds
  simp at eu
  obtain ⟨h2, h3, _⟩ := cells_rep hs hd
  obtain ⟨g', hw', hle, hβ, hn⟩ := hw.newObj e h2 h3
  have := hK g' _ (.pointer (some ⟨w.heap.size, 0, none⟩)) hw' hle (by simp only [repD]; exact ⟨by omega, by rw [hβ]⟩)
  unfold Oper.wp execOp
  simpa [ho, eu, Instr.box, newVar, newRow, Oper.upon] using this

def constV : Value → Option V
  | .int k n => some (.int k n)
  | .bool b => some (.bool b)
  | .string s => some (.str s.data.toList)
  | .slice none 0 0 => some (.list [])
  | .nilFunc => some .nilfn
  | .pointer none => some .nilp
  | _ => none

def constVs : List Value → Option (List V)
  | [] => some []
  | u :: us => match constV u, constVs us with
    | some x, some xs => some (x :: xs)
    | _, _ => none

theorem constV_rep {M : Mem} {u : Value} {x : V} (h : constV u = some x) : x.isAgg = false ∧ repC M x [u] := by
  unfold constV at h
  split at h <;> simp at h <;> subst h <;> simp [V.isAgg, repC]

theorem constVs_rep {M : Mem} : ∀ {us : List Value} {xs : List V}, constVs us = some xs → repA M xs us
  | [], xs, h => by simp [constVs] at h; subst h; simp [repA]
  | u :: us, xs, h => by
    simp only [constVs] at h
    split at h
    · rename_i x xs' h1 h2
      simp at h; subst h
      obtain ⟨h3, h4⟩ := constV_rep (M := M) h1
      simp only [repA]
      exact ⟨u, us, rfl, h3, h4, constVs_rep h2⟩
    · simp at h

/-- the zero value's cells -/
def zeroV (P : Program) (t : TypeId) : Option (List V) :=
  match (P.info? t).bind (·.zero) with
  | some z => constVs z.cells.toList
  | none => none

theorem zeroV_parts {t : TypeId} {xs : List V} (h : zeroV P t = some xs) : ∃ i z, P.info? t = some i ∧ i.zero = some z ∧ constVs z.cells.toList = some xs := by
  unfold zeroV at h
  split at h
  · rename_i z hz
    cases hi : P.info? t with
    | none => simp [hi] at hz
    | some i => exact ⟨i, z, rfl, by simpa [hi] using hz, h⟩
  · simp at h

theorem op_alloc {e : TypeId} (ho : o.op = .alloc e) {xs : List V} (hz : zeroV P e = some xs) : OpOK P o [] σ (.ptr σ.H.length 0) ⟨σ.H ++ [some (xs.map .v)], σ.own⟩ := by
  intro E g a w K Q hw hds hK
  obtain ⟨i, z, hi, hz1, hc⟩ := zeroV_parts hz
  obtain ⟨h2, h3⟩ := repA_repDs (g := g) (constVs_rep hc)
  obtain ⟨g', hw', hle, hβ, hn⟩ := hw.newObj e h2 h3
  have := hK g' _ (.pointer (some ⟨w.heap.size, 0, none⟩)) hw' hle (by simp only [repD]; exact ⟨by omega, by rw [hβ]⟩)
  unfold Oper.wp execOp
  simpa [ho, Instr.alloc, zeroValue, typeInfo, hi, hz1, newVar, newRow, Oper.upon] using this

/-- a store into an object -/
theorem op_store {t : TypeId} {x y : Operand} (ho : o.op = .store t x y) (hs : d.sto = true) {n : Nat} {b : Bool} (ht : szAgg P t = some (n, b)) (hn : (cellsD d).length = n) {q off : Nat} {cs : List D} (hq : σ.H[q]? = some (some cs)) (hoff : off + n ≤ cs.length) :
    OpOK P o [.ptr q off, d] σ .undef ⟨σ.H.set q (some (cs.take off ++ cellsD d ++ cs.drop (off + n))), σ.own⟩ := by
  intro E g a w K Q hw hds hK
  simp only [ho, Op.operands, repDs_two] at hds
  obtain ⟨u, v, eq, h1, h2⟩ := hds
  simp only [List.map_cons, List.map_nil, List.cons.injEq, and_true] at eq
  obtain ⟨e1, e2⟩ := eq
  simp only [repD] at h1
  obtain ⟨hlt, rfl⟩ := h1
  obtain ⟨us, rest, e, hb, hr, hone, hM, hκ⟩ := hw.rep.obj q cs hq
  obtain ⟨h3, h4, h5⟩ := cells_rep hs h2
  have hl : us.length = cs.length := repDs_length hr
  have hl2 : v.cells.toList.length = n := by rw [repDs_length h3, hn]
  have hst := run_storeCells_at P (g.β q) off e v.cells.toList 0 (us ++ rest).toArray w hb (by simp only [List.size_toArray, List.length_append]; omega) h5
  simp only [Nat.add_zero, hl2] at hst
  rw [show (us ++ rest).take off ++ v.cells.toList ++ (us ++ rest).drop (off + n) = (us.take off ++ v.cells.toList ++ us.drop (off + n)) ++ rest from by
    rw [List.take_append_of_le_length (by omega), List.drop_append_of_le_length (by omega)]; simp] at hst
  have hw' := hw.setObj (cs' := cs.take off ++ cellsD d ++ cs.drop (off + n)) hq (us := us.take off ++ v.cells.toList ++ us.drop (off + n)) (rest := rest) (e := e)
    (w' := w.setRow (g.β q) ((us.take off ++ v.cells.toList ++ us.drop (off + n)) ++ rest).toArray) (setRow_heap w _ _ _ e _ hb) (by rw [← hκ]; simp only [List.length_append, List.length_take, List.length_drop]; omega)
    (repDs_append (repDs_append (repDs_take hr off) h3) (repDs_drop hr (off + n)))
    (fun c hc => by
      simp only [List.mem_append] at hc
      rcases hc with (hc | hc) | hc
      · exact hone c (List.mem_of_mem_take hc)
      · exact h4 c hc
      · exact hone c (List.mem_of_mem_drop hc))
    (fun b hb => setRow_other w _ _ _ hb) (by simp) rfl rfl rfl
  have := hK g _ undef hw' g.le_refl (by simp [repD])
  have hsz : v.cells.size = n := by rw [← Array.length_toList]; exact hl2
  unfold Oper.wp execOp
  simp only [ho, e1, e2, Instr.storeAt, Instr.sureAddr, Sem.run_bind, Sem.run_pure, Result.andThen_ok, storeVar, run_sizeOf' ht, hsz, ne_eq, not_true_eq_false, if_false, hst]
  exact this

theorem op_store1 {t : TypeId} {x y : Operand} (ho : o.op = .store t x y) (hs : d.one = true) (ht : OneTy P t) {q off : Nat} {cs : List D} (hq : σ.H[q]? = some (some cs)) (hoff : off < cs.length) :
    OpOK P o [.ptr q off, d] σ .undef ⟨σ.H.set q (some (cs.set off d)), σ.own⟩ := by
  have hc : cellsD d = [d] := by
    cases d with
    | v x => cases x <;> simp_all [D.one, cellsD, V.isAgg]
    | dagg cs => simp [D.one] at hs
    | _ => rfl
  have hs' : d.sto = true := by cases d <;> simp_all [D.one, D.sto]
  have h := op_store (P := P) (σ := σ) (n := 1) (off := off) ho hs' ht (by rw [hc]; rfl) hq (by omega)
  rw [hc] at h
  have e : cs.take off ++ [d] ++ cs.drop (off + 1) = cs.set off d := by
    rw [List.set_eq_take_append_cons_drop, if_pos hoff]; simp
  rw [e] at h
  exact h

/- LITERALS -/
def V.cellsV : V → List V
  | .agg cs => cs
  | x => [x]

theorem repV_cellsV {M : Mem} {x : V} {u : Value} (h : repV M x u) : repA M x.cellsV u.cells.toList ∧ u.cells.size = x.size := by
  have hc := repV_cells h
  have hl : u.cells.size = x.size := by rw [← Array.length_toList]; exact repC_length hc
  refine ⟨?_, hl⟩
  cases hx : x.isAgg with
  | true =>
    cases x with
    | agg cs => simpa only [V.cellsV, repC] using hc
    | _ => simp [V.isAgg] at hx
  | false =>
    have e : x.cellsV = [x] := by cases x <;> simp_all [V.cellsV, V.isAgg]
    obtain ⟨u', e1, _, _⟩ := repC_one hx hc
    rw [e, e1]
    simp only [repA]
    exact ⟨u', [], rfl, hx, by rw [← e1]; exact hc, rfl⟩

def fillV (place : Nat → Option (Nat × Nat)) (cells : List V) : List (Nat × V) → Option (List V)
  | [] => some cells
  | (i, x) :: rest =>
    match place i with
    | none => none
    | some (off, size) => if x.size = size ∧ off + size ≤ cells.length then fillV place (cells.take off ++ x.cellsV ++ cells.drop (off + size)) rest else none

theorem fillV_mono {place place' : Nat → Option (Nat × Nat)} {out : List V} (hp : ∀ i p, place i = some p → place' i = some p) : ∀ (xs : List (Nat × V)) (cells : List V), fillV place cells xs = some out → fillV place' cells xs = some out
  | [], cells, h => by simpa [fillV] using h
  | (i, x) :: xs, cells, h => by
    simp only [fillV] at h ⊢
    cases hi : place i with
    | none => simp [hi] at h
    | some p =>
      rw [hp i p hi]
      simp only [hi] at h ⊢
      split at h
      · rename_i hc; rw [if_pos hc]; exact fillV_mono hp xs _ h
      · simp at h

theorem repA_append {M : Mem} : ∀ {xs ys : List V} {us vs : List Value}, repA M xs us → repA M ys vs → repA M (xs ++ ys) (us ++ vs)
  | [], ys, us, vs, h, h' => by simp only [repA] at h; simpa [h] using h'
  | x :: xs, ys, us, vs, h, h' => by
    simp only [repA] at h
    obtain ⟨u, us1, rfl, ha, h1, h2⟩ := h
    simp only [List.cons_append, repA]
    exact ⟨u, _, rfl, ha, h1, repA_append h2 h'⟩

theorem splice (off : Nat) (l : List Value) (cs : Array Value) (h : off + l.length ≤ cs.size) :
    ((l.zipIdx 0).foldl (fun cs (x : Value × Nat) => cs.setIfInBounds (off + x.2) x.1) cs).toList = cs.toList.take off ++ l ++ cs.toList.drop (off + l.length) := by
  obtain ⟨h1, h2⟩ := Great.foldl_set off l 0 cs
  apply List.ext_getElem?
  intro k
  have e : ((l.zipIdx 0).foldl (fun cs (x : Value × Nat) => cs.setIfInBounds (off + x.2) x.1) cs).toList[k]? = ((l.zipIdx 0).foldl (fun cs (x : Value × Nat) => cs.setIfInBounds (off + x.2) x.1) cs)[k]? := by simp
  rw [e, h2 k]
  simp only [Nat.add_zero]
  have hlt : (cs.toList.take off).length = off := by simp; omega
  by_cases hk : k < off
  · rw [if_neg (by omega), List.append_assoc, List.getElem?_append_left (by omega), List.getElem?_take, if_pos hk]; simp
  · by_cases hk2 : k < off + l.length
    · rw [if_pos (by omega), List.append_assoc, List.getElem?_append_right (by omega), hlt, List.getElem?_append_left (by omega)]
    · rw [if_neg (by omega), List.getElem?_append_right (by simp; omega), List.getElem?_drop]
      simp only [List.length_append, hlt]
      rw [show off + l.length + (k - (off + l.length)) = k by omega]; simp

inductive PartsRep (M : Mem) : List (Nat × V) → List (Nat × Value) → Prop
  | nil : PartsRep M [] []
  | cons {i : Nat} {x : V} {u : Value} {xs : List (Nat × V)} {us : List (Nat × Value)} (h : repV M x u) (hr : PartsRep M xs us) : PartsRep M ((i, x) :: xs) ((i, u) :: us)

theorem fill_rep {M : Mem} {place : Nat → Option (Nat × Nat)} : ∀ {xs : List (Nat × V)} {us : List (Nat × Value)} {cells out : List V} {cu : Array Value}, PartsRep M xs us → repA M cells cu.toList → fillV place cells xs = some out →
    ∃ U, Instr.fill place cu us = some U ∧ repA M out U.toList
  | [], us, cells, out, cu, h, hc, hf => by
    cases h
    simp [fillV] at hf; subst hf
    exact ⟨cu, rfl, hc⟩
  | (i, x) :: xs, us, cells, out, cu, h, hc, hf => by
    cases h with
    | cons hx hr =>
      rename_i u us
      simp only [fillV] at hf
      cases hp : place i with
      | none => simp [hp] at hf
      | some p =>
        obtain ⟨off, size⟩ := p
        simp only [hp] at hf
        split at hf
        · rename_i hcond
          obtain ⟨hA, hsz⟩ := repV_cellsV hx
          have hl : cu.size = cells.length := by rw [← Array.length_toList]; exact repA_length hc
          have hs : u.cells.size = size := hsz.trans hcond.1
          have hsp := splice off u.cells.toList cu (by simp only [Array.length_toList]; omega)
          simp only [Array.length_toList, hs] at hsp
          have hc' : repA M (cells.take off ++ x.cellsV ++ cells.drop (off + size)) ((u.cells.toList.zipIdx 0).foldl (fun cs (x : Value × Nat) => cs.setIfInBounds (off + x.2) x.1) cu).toList := by
            rw [hsp]
            exact repA_append (repA_append (repA_take hc off) hA) (repA_drop hc (off + size))
          obtain ⟨U, hU, hrU⟩ := fill_rep hr hc' hf
          refine ⟨U, ?_, hrU⟩
          unfold Instr.fill
          simp only [hp, hs]
          rw [if_neg (by simp; omega), ← hU]
          congr 1
          rw [← Array.foldl_toList, Array.toList_zipIdx]
        · simp at hf

/-- a struct's (or array's) zero cells and the places of its parts -/
def bldTy (P : Program) (t : TypeId) : Option (List V × List (Nat × Nat)) :=
  match zeroV P t, P.underlying t with
  | some z, some (.struct fs) => (fs.toList.mapM (fun f => (P.info? f.type).map fun i => (f.offset, i.size))).map fun p => (z, p)
  | some z, some (.array n e) => (P.info? e).map fun i => (z, (List.range n).map fun j => (j * i.size, i.size))
  | _, _ => none

def zipParts : List (Nat × Operand) → List D → Option (List (Nat × V))
  | [], [] => some []
  | (i, _) :: ps, d :: ds => match d.toV, zipParts ps ds with
    | some x, some xs => some ((i, x) :: xs)
    | _, _ => none
  | _, _ => none

theorem zipParts_rep {g : Gh} {a : Act} : ∀ {ps : List (Nat × Operand)} {ds : List D} {xs : List (Nat × V)}, zipParts ps ds = some xs → repDs g ds (ps.map fun p => a.eval p.2) → PartsRep g.M xs (ps.map fun p => (p.1, a.eval p.2))
  | [], [], xs, h, _ => by simp [zipParts] at h; subst h; exact .nil
  | [], _ :: _, xs, h, _ => by simp [zipParts] at h
  | (i, _) :: ps, [], xs, h, _ => by simp [zipParts] at h
  | (i, x) :: ps, d :: ds, xs, h, hr => by
    simp only [zipParts] at h
    split at h
    · rename_i y ys hy hys
      simp at h; subst h
      simp only [List.map_cons, repDs] at hr
      obtain ⟨u, us', e, h1, h2⟩ := hr
      simp at e
      obtain ⟨rfl, rfl⟩ := e
      exact .cons (toV_rep hy h1) (zipParts_rep hys h2)
    · simp at h

theorem op_build {t : TypeId} {parts : Array (Nat × Operand)} (ho : o.op = .build t parts) {z : List V} {places : List (Nat × Nat)} (hb : bldTy P t = some (z, places)) {ds : List D} {xs : List (Nat × V)} {out : List V}
    (hx : zipParts parts.toList ds = some xs) (hf : fillV (places[·]?) z xs = some out) : OpOK P o ds σ (.v (.agg out)) σ := by
  intro E g a w K Q hw hds hK
  simp only [ho, Op.operands] at hds
  have hpr := zipParts_rep hx (a := a) (g := g) (by simpa [Function.comp_def] using hds)
  unfold bldTy at hb
  have key : ∃ U, P.built t (parts.toList.map fun p => (p.1, a.eval p.2)) = some U ∧ repA g.M out U.toList := by
    cases hz : zeroV P t with
    | none => simp [hz] at hb
    | some z0 =>
      obtain ⟨i, zv, hi, hz1, hcv⟩ := zeroV_parts hz
      cases hu : P.underlying t with
      | none => simp [hz, hu] at hb
      | some dd =>
        cases dd <;> simp only [hz, hu, reduceCtorEq] at hb
        case struct fs =>
          cases hp : fs.toList.mapM (fun f => (P.info? f.type).map fun i => (f.offset, i.size)) with
          | none => simp [hp] at hb
          | some pl =>
            simp [hp] at hb
            obtain ⟨rfl, rfl⟩ := hb
            obtain ⟨U, hU, hrU⟩ := fill_rep hpr (constVs_rep (M := g.M) hcv) hf
            exact ⟨U, by simpa [Program.built, hi, hu, hz1, hp] using hU, hrU⟩
        case array n e =>
          cases hp : P.info? e with
          | none => simp [hp] at hb
          | some ie =>
            simp [hp] at hb
            obtain ⟨rfl, rfl⟩ := hb
            have hf' : fillV (fun i => some (i * ie.size, ie.size)) z0 xs = some out := by
              refine fillV_mono (fun i p hp' => ?_) xs z0 hf
              have hlt := (List.getElem?_eq_some_iff.1 hp').1
              simp at hlt
              simpa [hlt] using hp'
            obtain ⟨U, hU, hrU⟩ := fill_rep hpr (constVs_rep (M := g.M) hcv) hf'
            exact ⟨U, by simpa [Program.built, hi, hu, hz1, hp] using hU, hrU⟩
  obtain ⟨U, hU, hrU⟩ := key
  have := hK g w (.agg U) hw g.le_refl (by simp only [repD, repV_agg]; exact ⟨U.toList, hrU, by simp⟩)
  have hrun := run_build (P := P) w t (parts.map fun p => (p.1, a.eval p.2)) U (by simpa using hU)
  unfold Oper.wp execOp
  simp only [ho]
  simp only [Sem.run_bind]
  rw [show (parts.map fun (x : Nat × Operand) => match x with | (i, x) => (i, a.eval x)) = parts.map fun p => (p.1, a.eval p.2) from rfl, hrun]
  exact this

end
end Go.Dv
