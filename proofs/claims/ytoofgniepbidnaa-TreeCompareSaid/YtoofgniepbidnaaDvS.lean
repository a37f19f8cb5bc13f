/-
  Nil slices kept as such in zero values; appending data to growing lists; views of cells; reading through lent objects. No program is named here.
-/
import Derived.Test.YtoofgniepbidnaaDvR
namespace Go.Dv

def constN : Value → Option V
  | .slice none 0 0 => some .nils
  | u => constV u
def constNs : List Value → Option (List V)
  | [] => some []
  | u :: us => match constN u, constNs us with
    | some x, some xs => some (x :: xs)
    | _, _ => none
theorem constN_rep {M : Mem} {u : Value} {x : V} (h : constN u = some x) : x.isAgg = false ∧ repC M x [u] := by
  unfold constN at h
  split at h
  · simp at h; subst h; simp [V.isAgg, repC]
  · exact constV_rep h
theorem constNs_rep {M : Mem} : ∀ {us : List Value} {xs : List V}, constNs us = some xs → repA M xs us
  | [], xs, h => by simp [constNs] at h; subst h; simp [repA]
  | u :: us, xs, h => by
    simp only [constNs] at h
    split at h
    · rename_i x xs' h1 h2
      simp at h; subst h
      obtain ⟨h3, h4⟩ := constN_rep (M := M) h1
      simp only [repA]
      exact ⟨u, us, rfl, h3, h4, constNs_rep h2⟩
    · simp at h
def zeroN (P : Program) (t : TypeId) : Option (List V) :=
  match (P.info? t).bind (·.zero) with
  | some z => constNs z.cells.toList
  | none => none
theorem zeroN_parts {P : Program} {t : TypeId} {xs : List V} (h : zeroN P t = some xs) : ∃ i z, P.info? t = some i ∧ i.zero = some z ∧ constNs z.cells.toList = some xs := by
  unfold zeroN at h
  split at h
  · rename_i z hz
    cases hi : P.info? t with
    | none => simp [hi] at hz
    | some i => exact ⟨i, z, rfl, by simpa [hi] using hz, h⟩
  · simp at h
/-- a struct's zero cells, nil slices as such, and the places of its parts -/
def bldN (P : Program) (t : TypeId) : Option (List V × List (Nat × Nat)) :=
  match zeroN P t, P.underlying t with
  | some z, some (.struct fs) => (fs.toList.mapM (fun f => (P.info? f.type).map fun i => (f.offset, i.size))).map fun p => (z, p)
  | _, _ => none

section
variable {P : Program} {o : Oper} {σ : St} {d : D}

theorem op_allocN {e : TypeId} (ho : o.op = .alloc e) {xs : List V} (hz : zeroN P e = some xs) : OpOK P o [] σ (.ptr σ.H.length 0) ⟨σ.H ++ [some (xs.map .v)], σ.own⟩ := by
  intro E g a w K Q hw hds hK
  obtain ⟨i, z, hi, hz1, hc⟩ := zeroN_parts hz
  obtain ⟨h2, h3⟩ := repA_repDs (g := g) (constNs_rep hc)
  obtain ⟨g', hw', hle, hβ, hn⟩ := hw.newObj e h2 h3
  have := hK g' _ (.pointer (some ⟨w.heap.size, 0, none⟩)) hw' hle (by simp only [repD]; exact ⟨by omega, by rw [hβ]⟩)
  unfold Oper.wp execOp
  simpa [ho, Instr.alloc, zeroValue, typeInfo, hi, hz1, newVar, newRow, Oper.upon] using this

theorem op_buildN {t : TypeId} {parts : Array (Nat × Operand)} (ho : o.op = .build t parts) {z : List V} {places : List (Nat × Nat)} (hb : bldN P t = some (z, places)) {ds : List D} {xs : List (Nat × V)} {out : List V}
    (hx : zipParts parts.toList ds = some xs) (hf : fillV (places[·]?) z xs = some out) : OpOK P o ds σ (.v (.agg out)) σ := by
  intro E g a w K Q hw hds hK
  simp only [ho, Op.operands] at hds
  have hpr := zipParts_rep hx (a := a) (g := g) (by simpa [Function.comp_def] using hds)
  unfold bldN at hb
  have key : ∃ U, P.built t (parts.toList.map fun p => (p.1, a.eval p.2)) = some U ∧ repA g.M out U.toList := by
    cases hz : zeroN P t with
    | none => simp [hz] at hb
    | some z0 =>
      obtain ⟨i, zv, hi, hz1, hcv⟩ := zeroN_parts hz
      cases hu : P.underlying t with
      | none => simp [hz, hu] at hb
      | some dd =>
        cases dd <;> simp only [hz, hu, reduceCtorEq] at hb
        case struct fs =>
          cases hp : fs.toList.mapM (fun f => (P.info? f.type).map fun i => (f.offset, i.size)) with
          | none => simp [hp] at hb
          | some pl =>
            simp [hp] at hb
            obtain ⟨rfl, rfl⟩ := hb
            obtain ⟨U, hU, hrU⟩ := fill_rep hpr (constNs_rep (M := g.M) hcv) hf
            exact ⟨U, by simpa [Program.built, hi, hu, hz1, hp] using hU, hrU⟩
  obtain ⟨U, hU, hrU⟩ := key
  have := hK g w (.agg U) hw g.le_refl (by simp only [repD, repV_agg]; exact ⟨U.toList, hrU, by simp⟩)
  have hrun := run_build (P := P) w t (parts.map fun p => (p.1, a.eval p.2)) U (by simpa using hU)
  unfold Oper.wp execOp
  simp only [ho]
  simp only [Sem.run_bind]
  rw [show (parts.map fun (x : Nat × Operand) => match x with | (i, x) => (i, a.eval x)) = parts.map fun p => (p.1, a.eval p.2) from rfl, hrun]
  exact this

/-- make([]T, n), T of one cell: a new object, nil slices as such -/
theorem op_makeN {t : TypeId} {x y : Operand} (ho : o.op = .makeSlice t x y) {e : TypeId} {by' : Nat} {z : Value} (hs : slTy P t = some (e, 1, by', some z)) {zv : V} (hz : constN z = some zv) {k k' : IntKind} {n : Int} (h0 : 0 ≤ n) (hn : (by' : Int) * n ≤ 281474976710656) (hn2 : n ≤ 9223372036854775807) :
    OpOK P o [.v (.int k n), .v (.int k' n)] σ (.arr σ.H.length 0 n.toNat) ⟨σ.H ++ [some (List.replicate n.toNat (.v zv))], σ.own⟩ := by
  intro E g a w K Q hw hds hK
  simp only [ho, Op.operands, repDs_two] at hds
  obtain ⟨u, v, eq, h1, h2⟩ := hds
  simp only [List.map_cons, List.map_nil, List.cons.injEq, and_true] at eq
  obtain ⟨e1, e2⟩ := eq
  simp only [repD, repV_int] at h1 h2
  subst h1 h2
  obtain ⟨i, hu, hi, hsz, hby, hzz⟩ := slTy_parts hs
  obtain ⟨hza, hzc⟩ := constN_rep (M := g.M) hz
  have hz1 : z.cells = #[z] := by
    obtain ⟨u', e, _, h3⟩ := repC_one hza hzc
    simp at e; subst e; exact cells_one h3
  have hrun := run_make (P := P) w t e i z hu hi hzz k k' n n h0 (Int.le_refl _) (by rw [hby]; exact hn) hn2
  rw [hsz, Nat.mul_one, hz1, madeCells_one] at hrun
  have hr : ∀ m, repDs g (List.replicate m (.v zv)) (List.replicate m z) := by
    intro m
    induction m with
    | zero => simp [repDs]
    | succ m ih => simp only [List.replicate_succ, repDs, repD]; exact ⟨z, _, rfl, (repV_one hza).2 hzc, ih⟩
  obtain ⟨g', hw', hle, hβ, hn'⟩ := hw.newObj e (hr n.toNat) (fun c hc => by rw [List.mem_replicate] at hc; rw [hc.2]; simp [D.one, hza])
  have := hK g' _ (.slice (some ⟨w.heap.size, 0, none⟩) n.toNat n.toNat) hw' hle (by simp only [repD]; exact ⟨by omega, n.toNat, Nat.le_refl _, by rw [hβ]⟩)
  unfold Oper.wp execOp
  simp only [ho, e1, e2, Sem.run_bind, hrun, Result.andThen_ok]
  exact this
end

/- CELLS SEEN ANEW -/

/-- what one cell list says, another one says -/
def Sees (cs cs' : List D) : Prop := (∀ g us, repDs g cs us → repDs g cs' us) ∧ ((∀ c ∈ cs, c.one = true) → ∀ c ∈ cs', c.one = true)

/-- one cell, seen as less -/
inductive See1 : D → D → Prop
  | same {d : D} : See1 d d
  | acc {k : Nat} {xs : List V} : See1 (.acc k xs) (.v (.list xs))
  | nils : See1 (.v .nils) (.v (.list []))
  | rawnil : See1 (.raw (.slice none 0 0)) (.v .nils)
  | rv {x : V} {u : Value} : See1 (.rv x u) (.v x)
theorem See1.rep {d d' : D} (h : See1 d d') {g : Gh} {u : Value} (hr : repD g d u) : repD g d' u := by
  cases h with
  | same => exact hr
  | acc => simp only [repD] at hr ⊢; exact hr.1
  | nils => simp only [repD, repV_nils] at hr ⊢; subst hr; exact repV_nil _
  | rawnil => simp only [repD, repV_nils] at hr ⊢; exact hr
  | rv => simp only [repD] at hr ⊢; rw [hr.1]; exact hr.2
theorem See1.one {d d' : D} (h : See1 d d') (h1 : d.one = true) : d'.one = true := by
  cases h with
  | same => exact h1
  | acc => rfl
  | nils => rfl
  | rawnil => rfl
  | rv => simpa [D.one] using h1
inductive SeeL : List D → List D → Prop
  | nil : SeeL [] []
  | cons {d d' : D} {cs cs' : List D} (h : See1 d d') (hs : SeeL cs cs') : SeeL (d :: cs) (d' :: cs')
theorem SeeL.sees : ∀ {cs cs' : List D}, SeeL cs cs' → Sees cs cs'
  | _, _, .nil => ⟨fun _ _ h => h, fun h => h⟩
  | _, _, .cons h hs => by
    refine ⟨fun g us hr => ?_, fun h1 c hc => ?_⟩
    · simp only [repDs] at hr ⊢
      obtain ⟨u, us', e, h2, h3⟩ := hr
      exact ⟨u, us', e, h.rep h2, hs.sees.1 g us' h3⟩
    · rcases List.mem_cons.1 hc with e | hc
      · rw [e]; exact h.one (h1 _ (List.mem_cons_self))
      · exact hs.sees.2 (fun c hc => h1 c (List.mem_cons_of_mem _ hc)) c hc
theorem SeeL.refl : ∀ cs : List D, SeeL cs cs
  | [] => .nil
  | _ :: cs => .cons .same (SeeL.refl cs)
theorem SeeL.set {d d' : D} (h : See1 d d') : ∀ {cs : List D} {j : Nat}, cs[j]? = some d → SeeL cs (cs.set j d')
  | [], j, hj => by simp at hj
  | c :: cs, 0, hj => by simp at hj; subst hj; exact .cons h (SeeL.refl cs)
  | c :: cs, j + 1, hj => by simp at hj; exact .cons .same (SeeL.set h hj)

/-- operands seen as less -/
theorem opOK_see {P : Program} {o : Oper} {ds ds' : List D} {σ σ' : St} {d : D} (hs : SeeL ds ds') (h : OpOK P o ds' σ d σ') : OpOK P o ds σ d σ' := fun E g a w K Q hw hds hK => h E g a w K Q hw (hs.sees.1 g _ hds) hK

/-- a result, seen otherwise before -/
theorem resOK_cv {P : Program} {fn : Func} {env env' : List D} {σ σ' σr : St} {d : D} (h : Cv env σ env' σ') (hr : ResOK P fn env' σ' d σr) : ResOK P fn env σ d σr := fun E g a w hf hE => by
  obtain ⟨g', hf'⟩ := h E g a w hf
  exact hr E g' a w hf' hE

/-- an object's cells, seen as less -/
theorem cv_see {env : List D} {σ : St} {q : Nat} {cs cs' : List D} (hq : σ.H[q]? = some (some cs)) (h : Sees cs cs') : Cv env σ env ⟨σ.H.set q (some cs'), σ.own⟩ := fun E g a w hf => by
  obtain ⟨_, _, _, _, _, h1, _⟩ := hf.wi.rep.obj q cs hq
  exact ⟨g, hf.wi.review hq (fun us hr => h.1 g us hr) (h.2 h1), hf.env, hf.defers⟩

/-- a nil cell becomes a list to append to -/
theorem cv_claim {env : List D} {σ : St} (q j k sz : Nat) {cs : List D} (hq : σ.H[q]? = some (some cs)) (hj : cs[j]? = some (.v .nils)) (hk : ∀ x ∈ σ.own, x.1 ≠ k) (hsz : 0 < sz) :
    Cv env σ env ⟨σ.H.set q (some (cs.set j (.acc k []))), (k, sz, []) :: σ.own⟩ := fun E g a w hf => by
  obtain ⟨hw1, hle1⟩ := hf.wi.addOwn (k := k) (sz := sz) (xs := []) (u := .slice none 0 0) hk ⟨hsz, by simp⟩ (repV_nil _) (.inl ⟨none, rfl⟩) (fun b hb => by simp [ownB] at hb)
  obtain ⟨_, _, _, _, _, h1, _⟩ := hf.wi.rep.obj q cs hq
  have hw2 := hw1.review (cs' := cs.set j (.acc k [])) hq (fun us hr => by
    obtain ⟨u, hu, hru⟩ := repDs_get hr hj
    simp only [repD, repV_nils] at hru
    subst hru
    have := repDs_set hr j (d := .acc k []) (u := .slice none 0 0) (by simp only [repD]; exact ⟨repV_nil _, by simp⟩)
    rwa [set_self hu] at this) (fun c hc => by
    rcases List.mem_or_eq_of_mem_set hc with h | h
    · exact h1 c h
    · subst h; rfl)
  exact ⟨_, hw2, repDs.mono hle1 _ _ hf.env, hf.defers⟩

/- GROWING LISTS, DATA APPENDED -/
theorem repE_repDs {g : Gh} {sz : Nat} : ∀ {ys : List V} {us : List Value}, repE g.M sz ys us → repDs g ((ys.flatMap V.cellsV).map .v) us ∧ ∀ c ∈ (ys.flatMap V.cellsV).map D.v, c.one = true
  | [], us, h => by simp only [repE] at h; subst h; simp [repDs]
  | y :: ys, us, h => by
    simp only [repE] at h
    obtain ⟨u1, u2, rfl, hl, h1, h2⟩ := h
    obtain ⟨h3, h4⟩ := repE_repDs h2
    have hA : repA g.M y.cellsV u1 := by
      cases hy : y.isAgg with
      | true =>
        cases y with
        | agg cs => simpa only [V.cellsV, repC] using h1
        | _ => simp [V.isAgg] at hy
      | false =>
        obtain ⟨u', e1, _, _⟩ := repC_one hy h1
        have e : y.cellsV = [y] := by cases y <;> simp_all [V.cellsV, V.isAgg]
        rw [e, e1]
        simp only [repA]
        exact ⟨u', [], rfl, hy, by rw [← e1]; exact h1, rfl⟩
    obtain ⟨h5, h6⟩ := repA_repDs (g := g) hA
    refine ⟨by simpa using repDs_append h5 h3, fun c hc => ?_⟩
    simp only [List.flatMap_cons, List.map_append, List.mem_append] at hc
    rcases hc with hc | hc
    · exact h6 c hc
    · exact h4 c hc

section
variable {P : Program} {o : Oper} {σ : St} {d : D}

theorem appendG_core {E : Ent} {g : Gh} {w : World} (hw : WI E g σ w) {t ty e : TypeId} {sz by' : Nat} {z : Value} (hs : slTy P t = some (e, sz, by', some z)) (hzc : z.cells.size = sz)
    {q len n cap cap2 : Nat} {cs cs2 : List D} {vs : List Value} {ad : Addr} (hq : σ.H[q]? = some (some cs)) (hl : cs.length = len * sz) (hvl0 : vs.length = n * sz) (hr2 : repDs g cs2 vs) (h12 : ∀ c ∈ cs2, c.one = true) (hnews : ∀ j u, vs[j]? = some u → w.cell? (ad.add j) = some u)
    (_hcap : len ≤ cap) (hκ : cap * sz = g.κ q) (_hpos : 0 < n) (hlen : (len + n) * by' ≤ 140737488355328) (hlen2 : len + n ≤ 140737488355328) :
    ∃ u' w' g', (Builtin.append_ #[t, t] ty #[.slice (some ⟨g.β q, 0, none⟩) len cap, .slice (some ad) n cap2]).run P w = .ok u' w' ∧
      WI E g' ⟨σ.H.set q none ++ [some (cs ++ cs2)], σ.own⟩ w' ∧ g.le g' ∧ repD g' (.gro σ.H.length (len + n) sz) u' := by
  obtain ⟨i, ht, hi, hisz, hib, hiz⟩ := slTy_parts hs
  obtain ⟨us, rest, et, hb, hr, h1, hM, hκ1⟩ := hw.rep.obj q cs hq
  have hul : us.length = len * sz := by rw [repDs_length hr, hl]
  have hvl : vs.length = n * i.size := by rw [hvl0, hisz]
  have holds : ∀ j u, us[j]? = some u → w.cell? ((⟨g.β q, 0, none⟩ : Addr).add j) = some u := fun j u hj => by
    rw [Addr.add_lit]; simp only [World.cell?, hb, Nat.zero_add, List.getElem?_toArray]; exact get_app hj
  have hone : ∀ u ∈ vs, u.oneCell' = true := repDs_oneCells h12 hr2
  have hcs : ∀ c ∈ cs ++ cs2, c.one = true := fun c hc => by
    rcases List.mem_append.1 hc with h | h
    · exact h1 c h
    · exact h12 c h
  by_cases hroom : len + n ≤ cap
  · have hfit : len * i.size + vs.length ≤ (us ++ rest).toArray.size := by
      rw [List.size_toArray, hκ1, ← hκ, hvl, hisz, ← Nat.add_mul]
      exact Nat.mul_le_mul_right _ hroom
    have hrun := run_append_room' (P := P) w t ty e et i ht hi (g.β q) len cap (us ++ rest).toArray hb ad n cap2 vs hvl hnews hone hroom hfit
    have hrow : (us ++ rest).toArray.toList.take (len * i.size) ++ vs ++ (us ++ rest).toArray.toList.drop (len * i.size + vs.length) = (us ++ vs) ++ rest.drop vs.length := by
      simp only [hisz, ← hul]
      rw [List.take_left', List.drop_append, List.drop_of_length_le (by omega)] <;> simp
    rw [hrow] at hrun
    have hlen3 : ((us ++ vs) ++ rest.drop vs.length).length = g.κ q := by
      rw [← hκ1]
      simp only [List.size_toArray, List.length_append] at hfit
      simp only [List.length_append, List.length_drop]
      rw [hisz, ← hul] at hfit
      omega
    have hw1 := hw.setObj (cs' := cs ++ cs2) (w' := w.setRow (g.β q) ((us ++ vs) ++ rest.drop vs.length).toArray) hq (us := us ++ vs) (rest := rest.drop vs.length) (e := et) (setRow_heap w _ _ _ et _ hb) hlen3 (repDs_append hr hr2) hcs (fun b hb => setRow_other w _ _ _ hb) (by simp) rfl rfl rfl
    have hq' : (σ.H.set q (some (cs ++ cs2)))[q]? = some (some (cs ++ cs2)) := by
      rw [List.getElem?_set]; simp; exact (List.getElem?_eq_some_iff.1 hq).1
    obtain ⟨g', h3, h4, h5, h6, h7⟩ := hw1.rename (q := q) hq'
    simp only [List.set_set, List.length_set] at h3 h5 h6 h7
    exact ⟨_, _, g', hrun, h3, h4, by simp only [repD]; exact ⟨by omega, cap, hroom, by rw [h6]; exact hκ, by rw [h5]⟩⟩
  · have hfitc : Builtin.nextslicecap (len + n) cap * i.bytes ≤ 281474976710656 := growslice_fits (by omega) (by rw [hib]; exact hlen)
    have hrun := run_append_grow (P := P) w t ty e i z ht hi hiz ⟨g.β q, 0, none⟩ len cap us (by rw [hul, hisz]) holds ad n cap2 vs hvl hnews (by omega) (by omega) hfitc
    have hge := grownCap_ge w (len + n) cap e
    have hcell : us.toArray ++ vs.toArray ++ Builtin.zeroCells z.cells (grownCap w (len + n) cap e - (len + n)) = ((us ++ vs) ++ (Builtin.zeroCells z.cells (grownCap w (len + n) cap e - (len + n))).toList).toArray := by
      apply Array.ext'; simp
    rw [hcell] at hrun
    obtain ⟨g', h3, h4, h5, h6, h7⟩ := (hw.drew.kill hq).newObjR (us := us ++ vs) (rest := (Builtin.zeroCells z.cells (grownCap w (len + n) cap e - (len + n))).toList) (cs := cs ++ cs2) e (repDs_append hr hr2) hcs
    simp only [List.length_set] at h3 h5 h6 h7
    refine ⟨_, _, g', hrun, h3, h4, ?_⟩
    simp only [repD]
    refine ⟨by omega, _, hge, ?_, by rw [h5]; rfl⟩
    rw [h6]
    simp only [List.length_append, Array.length_toList, size_zeroCells, hzc, hul, hvl, hisz, ← Nat.add_mul]
    congr 1; omega

/-- the cells of a list of data -/
def flatV (ys : List V) : List D := (ys.flatMap V.cellsV).map .v

/-- append data to a growing list -/
theorem op_appendGV {x y : Operand} {t : TypeId} (ho : o.op = .call { callee := .builtin .append, args := #[x, y], argTypes := #[t, t] }) {e : TypeId} {sz by' : Nat} {z : Value} (hs : slTy P t = some (e, sz, by', some z)) (hzc : z.cells.size = sz) (hsz : 0 < sz)
    {q len : Nat} {cs : List D} {ys : List V} (hq : σ.H[q]? = some (some cs)) (hl : cs.length = len * sz) (hys : ∀ y ∈ ys, y.size = sz) (hpos : ys ≠ []) (hlen : (len + ys.length) * by' ≤ 140737488355328) (hlen2 : len + ys.length ≤ 140737488355328) :
    OpOK P o [.gro q len sz, .v (.list ys)] σ (.gro σ.H.length (len + ys.length) sz) ⟨σ.H.set q none ++ [some (cs ++ flatV ys)], σ.own⟩ := by
  intro E g a w K Q hw hds hK
  simp only [ho, Op.operands, Call.operands] at hds
  obtain ⟨u, v, eq, hu, hv⟩ := repDs_two.1 (by simpa using hds)
  simp only [List.cons.injEq, and_true] at eq
  simp only [repD] at hu hv
  obtain ⟨hqn, cap, hcap, hκ, rfl⟩ := hu
  obtain ⟨ad, cap2, rfl, hc2, hor⟩ := repV_list_cells hv hys hsz
  rcases hor with h | ⟨b, off, us, rfl, hin, hE⟩
  · exact absurd h hpos
  obtain ⟨h5, h6⟩ := repE_repDs hE
  obtain ⟨u', w', g', hrun, hw', hle, hd⟩ := appendG_core (ty := o.type) (cap2 := cap2) hw hs hzc hq hl (repE_length hE) h5 h6 (mem_cells hw hin) hcap hκ (List.length_pos_iff.2 hpos) hlen hlen2
  have := hK g' w' u' hw' hle hd
  unfold Oper.wp execOp
  simp only [ho, resolve, invoke, builtin, Sem.run_bind, Sem.run_pure, Result.andThen_ok, List.map_toArray, List.map_cons, List.map_nil, eq.1, eq.2, hrun]
  exact this

/-- append data to what is exactly nil: a growing list -/
theorem op_appendG0V {x y : Operand} {t : TypeId} (ho : o.op = .call { callee := .builtin .append, args := #[x, y], argTypes := #[t, t] }) {e : TypeId} {sz by' : Nat} {z : Value} (hs : slTy P t = some (e, sz, by', some z)) (hzc : z.cells.size = sz) (hsz : 0 < sz)
    {ys : List V} (hys : ∀ y ∈ ys, y.size = sz) (hpos : ys ≠ []) (hlen : ys.length * by' ≤ 140737488355328) (hlen2 : ys.length ≤ 140737488355328) :
    OpOK P o [.v .nils, .v (.list ys)] σ (.gro σ.H.length ys.length sz) ⟨σ.H ++ [some (flatV ys)], σ.own⟩ := by
  intro E g a w K Q hw hds hK
  simp only [ho, Op.operands, Call.operands] at hds
  obtain ⟨u, v, eq, hu, hv⟩ := repDs_two.1 (by simpa using hds)
  simp only [List.cons.injEq, and_true] at eq
  simp only [repD, repV_nils] at hu hv
  subst hu
  obtain ⟨ad, cap2, rfl, hc2, hor⟩ := repV_list_cells hv hys hsz
  rcases hor with h | ⟨b, off, us, rfl, hin, hE⟩
  · exact absurd h hpos
  obtain ⟨h5, h6⟩ := repE_repDs hE
  obtain ⟨i, ht, hi, hisz, hib, hiz⟩ := slTy_parts hs
  have hvl : us.length = ys.length * i.size := by rw [repE_length hE, hisz]
  have hrun := run_append_nil (P := P) w t o.type e i z ht hi hiz ⟨b, off, none⟩ ys.length cap2 us hvl (mem_cells hw hin) (List.length_pos_iff.2 hpos) (by omega) (by rw [hib]; omega)
  have hge := grownCap_ge w ys.length 0 e
  have hcell : us.toArray ++ Builtin.zeroCells z.cells (grownCap w ys.length 0 e - ys.length) = (us ++ (Builtin.zeroCells z.cells (grownCap w ys.length 0 e - ys.length)).toList).toArray := by
    apply Array.ext'; simp
  rw [hcell] at hrun
  obtain ⟨g', h3, h4, h5', h6', h7⟩ := hw.drew.newObjR (us := us) (rest := (Builtin.zeroCells z.cells (grownCap w ys.length 0 e - ys.length)).toList) (cs := flatV ys) e h5 h6
  have hd : repD g' (.gro σ.H.length ys.length sz) (.slice (some ⟨w.heap.size, 0, none⟩) ys.length (grownCap w ys.length 0 e)) := by
    simp only [repD]
    refine ⟨by omega, _, hge, ?_, by rw [h5']; rfl⟩
    rw [h6']
    simp only [List.length_append, Array.length_toList, size_zeroCells, hzc, hvl, hisz, ← Nat.add_mul]
    congr 1; omega
  have := hK g' _ _ h3 h4 hd
  unfold Oper.wp execOp
  simp only [ho, resolve, invoke, builtin, Sem.run_bind, Sem.run_pure, Result.andThen_ok, List.map_toArray, List.map_cons, List.map_nil, eq.1, eq.2, hrun]
  exact this

/-- an operation that holds whatever the values of an object's cells are -/
theorem opOK_raws {ds : List D} {q q' : Nat} {cs new : List D} {H2 : List (Option (List D))} {own' : List (Nat × Nat × List V)} (hq : σ.H[q]? = some (some cs)) (hq' : q' < H2.length)
    (h : ∀ us : List Value, us.length = cs.length → (∀ u ∈ us, u.oneCell' = true) → OpOK P o ds ⟨σ.H.set q (some (us.map .raw)), σ.own⟩ d ⟨H2.set q' (some (us.map .raw ++ new)), own'⟩) :
    OpOK P o ds σ d ⟨H2.set q' (some (cs ++ new)), own'⟩ := by
  intro E g a w K Q hw hds hK
  obtain ⟨us, rest, e, hb, hr, h1, hM, hκ⟩ := hw.rep.obj q cs hq
  have hraw : ∀ (us : List Value), repDs g (us.map .raw) us := by
    intro us
    induction us with
    | nil => simp [repDs]
    | cons u us ih => simp only [List.map_cons, repDs, repD]; exact ⟨u, us, rfl, rfl, ih⟩
  have hone := repDs_oneCells h1 hr
  have hw1 := hw.setObj (cs' := us.map .raw) hq hb hκ (hraw us) (fun c hc => by
    obtain ⟨u, hu, rfl⟩ := List.mem_map.1 hc
    simpa [D.one] using hone u hu) (fun _ _ => rfl) rfl rfl rfl rfl
  refine h us (repDs_length hr) hone E g a w K Q hw1 hds fun g' w' u hw' hle hd => ?_
  refine hK g' w' u ?_ hle hd
  have hq2 : (H2.set q' (some (us.map .raw ++ new)))[q']? = some (some (us.map .raw ++ new)) := by simp [hq']
  obtain ⟨us', rest', e', hb', hr', h1', hM', hκ'⟩ := hw'.rep.obj q' _ hq2
  have hsplit : ∀ (us : List Value) (us' : List Value), repDs g' (us.map .raw ++ new) us' → ∃ vs, us' = us ++ vs ∧ repDs g' new vs := by
    intro us
    induction us with
    | nil => intro us' h; exact ⟨us', rfl, by simpa using h⟩
    | cons u us ih =>
      intro us' h
      simp only [List.map_cons, List.cons_append, repDs, repD] at h
      obtain ⟨v, us1, rfl, rfl, h2⟩ := h
      obtain ⟨vs, rfl, h3⟩ := ih us1 h2
      exact ⟨vs, rfl, h3⟩
  obtain ⟨vs, rfl, hnew⟩ := hsplit us us' hr'
  have := hw'.setObj (cs' := cs ++ new) (w' := w') hq2 hb' hκ' (repDs_append (repDs.mono hle _ _ hr) hnew) (fun c hc => by
    rcases List.mem_append.1 hc with hc | hc
    · exact h1 c hc
    · exact h1' c (List.mem_append_right _ hc)) (fun _ _ => rfl) rfl rfl rfl rfl
  simpa using this
end

end Go.Dv
