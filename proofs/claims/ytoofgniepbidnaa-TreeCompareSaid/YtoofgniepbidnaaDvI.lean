/-
  Parts of lists and strings, make, function values, results, calls. No program is named here.
-/
import Derived.Test.YtoofgniepbidnaaDvH
import Derived.Lib.Strings
namespace Go.Dv

section
variable {P : Program} {o : Oper} {σ : St} {d : D}

theorem slice_rep {M : Mem} {xs : List V} {a : Option Addr} {len cap sz : Nat} (hr : repV M (.list xs) (.slice a len cap)) (hs : ∀ x ∈ xs, x.size = sz) (hsz : 0 < sz) {l h : Nat} (hl : l ≤ h) (hh : h ≤ xs.length) :
    len = xs.length ∧ xs.length ≤ cap ∧ repV M (.list ((xs.take h).drop l)) (.slice (if cap = l then a else a.map (·.add (l * sz))) (h - l) (cap - l)) := by
  obtain ⟨a', cap', e, hc, hr2⟩ := repV_list_cells hr hs hsz
  simp only [Value.slice.injEq] at e
  obtain ⟨rfl, rfl, rfl⟩ := e
  refine ⟨rfl, hc, ?_⟩
  have hlen : ((xs.take h).drop l).length = h - l := by simp; omega
  rw [repV_list]
  refine ⟨_, cap - l, by rw [hlen], by rw [hlen]; omega, ?_⟩
  rcases Nat.lt_or_ge l h with hlt | hge
  · rcases hr2 with rfl | ⟨b, off, us, rfl, hi, hr3⟩
    · simp at hh; omega
    refine .inr ⟨b, off + l * sz, sz, (us.take (h * sz)).drop (l * sz), ?_, hsz, inM_drop (inM_take hi _) _, repE_drop (repE_take hr3 h) l⟩
    rw [if_neg (by omega)]
    simp [Addr.add_lit]
  · left
    exact List.eq_nil_of_length_eq_zero (by rw [hlen]; omega)

def sliceI (n : Nat) (l h : Option Int) : Option (Nat × Nat) :=
  let h' := h.getD n
  let l' := l.getD 0
  if 0 ≤ l' ∧ l' ≤ h' ∧ h' ≤ n then some (l'.toNat, h'.toNat) else none

theorem run_bounds (w : World) (isS : Bool) (len cap : Nat) (hc : len ≤ cap) (l h : Option (IntKind × Int)) {l' h' : Nat} (hb : sliceI len (l.map (·.2)) (h.map (·.2)) = some (l', h')) :
    (Instr.sliceBounds isS len cap (l.map fun p => .int p.1 p.2) (h.map fun p => .int p.1 p.2) none).run P w = .ok (l', h', cap) w := by
  unfold sliceI at hb
  simp only at hb
  split at hb
  · rename_i hcond
    simp only [Option.some.injEq, Prod.mk.injEq] at hb
    obtain ⟨rfl, rfl⟩ := hb
    cases l with
    | none =>
      cases h with
      | none => simp [Instr.sliceBounds]
      | some p =>
        simp only [Option.map_none, Option.map_some, Option.getD_none, Option.getD_some] at hcond ⊢
        simp [Instr.sliceBounds, run_sliceBound w p.1 p.2 cap _ (by omega) (by omega)]
    | some q =>
      cases h with
      | none =>
        simp only [Option.map_none, Option.map_some, Option.getD_none, Option.getD_some] at hcond ⊢
        simp [Instr.sliceBounds, run_sliceBound w q.1 q.2 len _ (by omega) (by omega)]
      | some p =>
        simp only [Option.map_some, Option.getD_some] at hcond ⊢
        simp [Instr.sliceBounds, run_sliceBound w p.1 p.2 cap _ (by omega) (by omega), run_sliceBound w q.1 q.2 p.2.toNat _ (by omega) (by omega)]
  · simp at hb

/-- operands of a slice expression -/
def bndD : Option (IntKind × Int) → List D
  | none => []
  | some p => [.v (.int p.1 p.2)]

theorem op_sliceL {t : TypeId} {x : Operand} {lo hi : Option Operand} (ho : o.op = .slice t x lo hi none) {e : TypeId} {sz by' : Nat} {z : Option Value} (hs : slTy P t = some (e, sz, by', z)) {xs : List V} (hsx : ∀ x ∈ xs, x.size = sz) (hsz : 0 < sz)
    (l h : Option (IntKind × Int)) (hlo : lo.isSome = l.isSome) (hhi : hi.isSome = h.isSome) {l' h' : Nat} (hb : sliceI xs.length (l.map (·.2)) (h.map (·.2)) = some (l', h')) :
    OpOK P o (.v (.list xs) :: (bndD l ++ bndD h)) σ (.v (.list ((xs.take h').drop l'))) σ := by
  refine opOK_run fun E g ρ w hw hds => ?_
  obtain ⟨i, hu, hi', rfl, rfl, rfl⟩ := slTy_parts hs
  have hb2 := hb
  unfold sliceI at hb2
  simp only at hb2
  split at hb2
  case isFalse => simp at hb2
  rename_i hcond
  simp only [Option.some.injEq, Prod.mk.injEq] at hb2
  have main : ∀ u (lv hv : Option Value), ρ x = u → lv = l.map (fun p => Value.int p.1 p.2) → hv = h.map (fun p => Value.int p.1 p.2) → lo.map ρ = lv → hi.map ρ = hv → repV g.M (.list xs) u →
      ∃ u, (execOp ρ o).run P w = .ok (.value u) w ∧ repD g (.v (.list ((xs.take h').drop l'))) u := by
    intro u lv hv eu el eh e1 e2 hr
    obtain ⟨a, cap, rfl, hc, _⟩ := repV_list.1 hr
    obtain ⟨_, _, hres⟩ := slice_rep hr hsx hsz (l := l') (h := h') (by omega) (by omega)
    refine ⟨_, ?_, by simp only [repD]; exact hres⟩
    have hbr := run_bounds (P := P) w true xs.length cap hc l h hb
    simp only [execOp, ho, eu, e1, e2, el, eh, Option.map_none, Instr.sliceAt, Instr.slice, Sem.run_bind, run_underlying hu, Result.andThen_ok, hbr]
    simp [sizeOf, typeInfo, hi']
  simp only [ho, Op.operands] at hds
  cases lo with
  | none =>
    cases l with
    | some _ => simp at hlo
    | none =>
      cases hi with
      | none =>
        cases h with
        | some _ => simp at hhi
        | none =>
          obtain ⟨u, eu, h1⟩ := repDs_one.1 (by simpa [bndD] using hds)
          simp at eu
          exact main u none none eu rfl rfl rfl rfl (by simpa only [repD] using h1)
      | some ho' =>
        cases h with
        | none => simp at hhi
        | some p =>
          obtain ⟨u, v, eu, h1, h2⟩ := repDs_two.1 (by simpa [bndD] using hds)
          simp only [List.cons.injEq, and_true] at eu
          simp only [repD, repV_int] at h2
          exact main u none _ eu.1 rfl (by simp; rfl) rfl (by simp [eu.2, h2]) (by simpa only [repD] using h1)
  | some lo' =>
    cases l with
    | none => simp at hlo
    | some q =>
      cases hi with
      | none =>
        cases h with
        | some _ => simp at hhi
        | none =>
          obtain ⟨u, v, eu, h1, h2⟩ := repDs_two.1 (by simpa [bndD] using hds)
          simp only [List.cons.injEq, and_true] at eu
          simp only [repD, repV_int] at h2
          exact main u _ none eu.1 (by simp; rfl) rfl (by simp [eu.2, h2]) rfl (by simpa only [repD] using h1)
      | some ho' =>
        cases h with
        | none => simp at hhi
        | some p =>
          obtain ⟨u, v, v2, eu, h1, h2, h3⟩ := repDs_three.1 (by simpa [bndD] using hds)
          simp only [List.cons.injEq, and_true] at eu
          simp only [repD, repV_int] at h2 h3
          exact main u _ _ eu.1 (by simp; rfl) (by simp; rfl) (by simp [eu.2.1, h2]) (by simp [eu.2.2, h3]) (by simpa only [repD] using h1)

theorem op_sliceS {t : TypeId} {x : Operand} {lo hi : Option Operand} (ho : o.op = .slice t x lo hi none) (hu : P.underlying t = some .string) {s : List UInt8}
    (l h : Option (IntKind × Int)) (hlo : lo.isSome = l.isSome) (hhi : hi.isSome = h.isSome) {l' h' : Nat} (hb : sliceI s.length (l.map (·.2)) (h.map (·.2)) = some (l', h')) :
    OpOK P o (.v (.str s) :: (bndD l ++ bndD h)) σ (.v (.str ((s.take h').drop l'))) σ := by
  refine opOK_run fun E g ρ w hw hds => ?_
  have main : ∀ u (lv hv : Option Value), ρ x = u → lv = l.map (fun p => Value.int p.1 p.2) → hv = h.map (fun p => Value.int p.1 p.2) → lo.map ρ = lv → hi.map ρ = hv → u = .string ⟨s.toArray⟩ →
      ∃ u, (execOp ρ o).run P w = .ok (.value u) w ∧ repD g (.v (.str ((s.take h').drop l'))) u := by
    intro u lv hv eu el eh e1 e2 hr
    subst hr
    refine ⟨.string ⟨((s.take h').drop l').toArray⟩, ?_, by simp only [repD, repV_str]⟩
    have hbr := run_bounds (P := P) w false s.length s.length (Nat.le_refl _) l h hb
    have hx : (⟨s.toArray⟩ : ByteArray).extract l' h' = ⟨((s.take h').drop l').toArray⟩ := by
      apply ByteArray.ext
      apply Array.ext'
      rw [Lib.extract_data]
      simp [List.drop_take]
    simp only [execOp, ho, eu, e1, e2, el, eh, Option.map_none, Instr.sliceAt, Instr.slice, Sem.run_bind, run_underlying hu, Result.andThen_ok, Option.isSome_none, Bool.false_eq_true, if_false, size_mk]
    simp [hbr, hx]
  simp only [ho, Op.operands] at hds
  cases lo with
  | none =>
    cases l with
    | some _ => simp at hlo
    | none =>
      cases hi with
      | none =>
        cases h with
        | some _ => simp at hhi
        | none =>
          obtain ⟨u, eu, h1⟩ := repDs_one.1 (by simpa [bndD] using hds)
          simp at eu
          exact main u none none eu rfl rfl rfl rfl (by simpa only [repD, repV_str] using h1)
      | some ho' =>
        cases h with
        | none => simp at hhi
        | some p =>
          obtain ⟨u, v, eu, h1, h2⟩ := repDs_two.1 (by simpa [bndD] using hds)
          simp only [List.cons.injEq, and_true] at eu
          simp only [repD, repV_int] at h2
          exact main u none _ eu.1 rfl (by simp; rfl) rfl (by simp [eu.2, h2]) (by simpa only [repD, repV_str] using h1)
  | some lo' =>
    cases l with
    | none => simp at hlo
    | some q =>
      cases hi with
      | none =>
        cases h with
        | some _ => simp at hhi
        | none =>
          obtain ⟨u, v, eu, h1, h2⟩ := repDs_two.1 (by simpa [bndD] using hds)
          simp only [List.cons.injEq, and_true] at eu
          simp only [repD, repV_int] at h2
          exact main u _ none eu.1 (by simp; rfl) rfl (by simp [eu.2, h2]) rfl (by simpa only [repD, repV_str] using h1)
      | some ho' =>
        cases h with
        | none => simp at hhi
        | some p =>
          obtain ⟨u, v, v2, eu, h1, h2, h3⟩ := repDs_three.1 (by simpa [bndD] using hds)
          simp only [List.cons.injEq, and_true] at eu
          simp only [repD, repV_int] at h2 h3
          exact main u _ _ eu.1 (by simp; rfl) (by simp; rfl) (by simp [eu.2.1, h2]) (by simp [eu.2.2, h3]) (by simpa only [repD, repV_str] using h1)

theorem madeCells_one (z : Value) (n : Nat) : madeCells #[z] n = (List.replicate n z).toArray := by
  apply Array.ext'
  apply List.ext_getElem?
  intro k
  simp only [madeCells]
  by_cases hk : k < n
  · simp [hk, Nat.mod_one]
  · simp [hk]

/-- make([]T, n), T of one cell: a new object -/
theorem op_make {t : TypeId} {x y : Operand} (ho : o.op = .makeSlice t x y) {e : TypeId} {by' : Nat} {z : Value} (hs : slTy P t = some (e, 1, by', some z)) {zv : V} (hz : constV z = some zv) {k k' : IntKind} {n : Int} (h0 : 0 ≤ n) (hn : (by' : Int) * n ≤ 281474976710656) (hn2 : n ≤ 9223372036854775807) :
    OpOK P o [.v (.int k n), .v (.int k' n)] σ (.arr σ.H.length 0 n.toNat) ⟨σ.H ++ [some (List.replicate n.toNat (.v zv))], σ.own⟩ := by
  intro E g a w K Q hw hds hK
  simp only [ho, Op.operands, repDs_two] at hds
  obtain ⟨u, v, eq, h1, h2⟩ := hds
  simp only [List.map_cons, List.map_nil, List.cons.injEq, and_true] at eq
  obtain ⟨e1, e2⟩ := eq
  simp only [repD, repV_int] at h1 h2
  subst h1 h2
  obtain ⟨i, hu, hi, hsz, hby, hzz⟩ := slTy_parts hs
  obtain ⟨hza, hzc⟩ := constV_rep (M := g.M) hz
  have hz1 : z.cells = #[z] := by
    obtain ⟨u', e, _, h3⟩ := repC_one hza hzc
    simp at e; subst e; exact cells_one h3
  have hrun := run_make (P := P) w t e i z hu hi hzz k k' n n h0 (Int.le_refl _) (by rw [hby]; exact hn) hn2
  rw [hsz, Nat.mul_one, hz1, madeCells_one] at hrun
  have hr : ∀ m, repDs g (List.replicate m (.v zv)) (List.replicate m z) := by
    intro m
    induction m with
    | zero => simp [repDs]
    | succ m ih => simp only [List.replicate_succ, repDs, repD]; exact ⟨z, _, rfl, (repV_one hza).2 hzc, ih⟩
  obtain ⟨g', hw', hle, hβ, hn'⟩ := hw.newObj e (hr n.toNat) (fun c hc => by rw [List.mem_replicate] at hc; rw [hc.2]; simp [D.one, hza])
  have := hK g' _ (.slice (some ⟨w.heap.size, 0, none⟩) n.toNat n.toNat) hw' hle (by simp only [repD]; exact ⟨by omega, n.toNat, Nat.le_refl _, by rw [hβ]⟩)
  unfold Oper.wp execOp
  simp only [ho, e1, e2, Sem.run_bind, hrun, Result.andThen_ok]
  exact this

/-- make([]T, 0, c): an owned list -/
theorem op_make0 {t : TypeId} {x y : Operand} (ho : o.op = .makeSlice t x y) {e : TypeId} {sz by' : Nat} {z : Value} (hs : slTy P t = some (e, sz, by', some z)) (h1 : 0 < sz) (k : Nat) (hk : ∀ x ∈ σ.own, x.1 ≠ k) {k1 k2 : IntKind} {n : Int} (h0 : 0 ≤ n) (hn : (by' : Int) * n ≤ 281474976710656) (hn2 : n ≤ 9223372036854775807) :
    OpOK P o [.v (.int k1 0), .v (.int k2 n)] σ (.acc k []) ⟨σ.H, (k, sz, []) :: σ.own⟩ := by
  intro E g a w K Q hw hds hK
  simp only [ho, Op.operands, repDs_two] at hds
  obtain ⟨u, v, eq, h1', h2⟩ := hds
  simp only [List.map_cons, List.map_nil, List.cons.injEq, and_true] at eq
  obtain ⟨e1, e2⟩ := eq
  simp only [repD, repV_int] at h1' h2
  subst h1' h2
  obtain ⟨i, hu, hi, hsz, hby, hzz⟩ := slTy_parts hs
  have hrun := run_make (P := P) w t e i z hu hi hzz k1 k2 0 n (Int.le_refl _) h0 (by rw [hby]; exact hn) hn2
  have hrep : repV g.M (.list []) (.slice (some ⟨w.heap.size, 0, none⟩) 0 n.toNat) := by rw [repV_list]; exact ⟨_, n.toNat, rfl, Nat.zero_le _, .inl rfl⟩
  obtain ⟨hw', hle⟩ := (hw.alloc (.cells (madeCells z.cells (n.toNat * i.size)) e)).addOwn (k := k) (sz := sz) (xs := []) (u := .slice (some ⟨w.heap.size, 0, none⟩) 0 n.toNat) hk ⟨h1, by simp⟩
    hrep (.inr ⟨w.heap.size, 0, n.toNat, _, e, rfl, heap_alloc_new w _, Nat.zero_le _, by rw [size_madeCells, hsz]; exact Nat.le_refl _, fun o _ => hw.rep.new_none (Nat.le_refl _) o⟩) (fun b hb => by
      simp only [ownB] at hb
      split at hb
      · simp at hb
      · simp at hb; subst hb
        exact ⟨hw.size, fun i cs hi => Nat.ne_of_lt (hw.rep.obj_lt hi), fun x hx u' hu' hb' => by have := hw.rep.own_lt hx hu' hb'; omega⟩)
  have := hK _ _ _ hw' hle (by simp only [repD]; exact ⟨hrep, by simp⟩)
  unfold Oper.wp execOp
  simp only [ho, e1, e2, Sem.run_bind, hrun, Result.andThen_ok]
  exact this

end

/- FUNCTION VALUES -/
def D.plain : D → Bool
  | .v _ => true
  | _ => false

theorem repL_of {g : Gh} : ∀ {ds : List D} {xs : List V} {us : List Value}, toVs ds = some xs → repDs g ds us → repL g.M xs us
  | [], xs, us, h, hr => by simp [toVs] at h; subst h; simpa [repDs, repL] using hr
  | d :: ds, xs, us, h, hr => by
    simp only [toVs] at h
    split at h
    · rename_i x xs' hx hxs
      simp at h; subst h
      simp only [repDs] at hr
      obtain ⟨u, us', rfl, h2, h3⟩ := hr
      simp only [repL]
      obtain ⟨ws, h4, h5⟩ := toV_rep hx h2
      exact ⟨u, us', ws, rfl, h4, h5, repL_of hxs h3⟩
    · simp at h

theorem repDs_of_L {g : Gh} : ∀ {xs : List V} {us : List Value}, repL g.M xs us → repDs g (xs.map .v) us
  | [], us, h => by simpa [repDs, repL] using h
  | x :: xs, us, h => by
    simp only [repL] at h
    obtain ⟨u, us', ws, rfl, h1, h2, h3⟩ := h
    simp only [List.map_cons, repDs, repD]
    exact ⟨u, us', rfl, ⟨ws, h1, h2⟩, repDs_of_L h3⟩

section
variable {P : Program} {o : Oper} {σ : St} {d : D}

/-- a closure over data -/
theorem op_makeFunc {f : FuncId} {first captured : Array Operand} (ho : o.op = .makeFunc (.func f) first captured) {fs cs : List D} {xs ys : List V} (hl : fs.length = first.size) (hf : toVs fs = some xs) (hc : toVs cs = some ys) :
    OpOK P o (fs ++ cs) σ (.v (.fn f xs ys)) σ := by
  refine opOK_run fun E g ρ w hw hds => ?_
  simp only [ho, Op.operands, Array.toList_append, List.map_append] at hds
  have h1 := repDs_take hds fs.length
  have h2 := repDs_drop hds fs.length
  have hl' : (first.toList.map ρ).length = fs.length := by simp [hl]
  rw [List.take_left, List.take_left' hl'] at h1
  rw [List.drop_left, List.drop_left' hl'] at h2
  refine ⟨.func (.func f) (first.map ρ) (captured.map ρ), ?_, ?_⟩
  · simp [execOp, ho, Instr.makeFunc]
  · simp only [repD, repV_fn]
    exact ⟨first.toList.map ρ, captured.toList.map ρ, by simp [← Array.toList_map], repL_of hf h1, repL_of hc h2⟩
end

end Go.Dv
