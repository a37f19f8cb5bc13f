/-
  Lists that grow and whose elements may be written (D.gro). No program is named here.
-/
import Derived.Test.YtoofgniepbidnaaDvO
namespace Go.Dv

/-- an object is given up -/
theorem WI.kill {E : Ent} {g : Gh} {σ : St} {w : World} (hw : WI E g σ w) {q : Nat} {cs : List D} (hq : σ.H[q]? = some (some cs)) : WI E g ⟨σ.H.set q none, σ.own⟩ w :=
  hw.setObjG (M' := g.M) (oc := none) (Mem.le_refl _) hq (fun _ h => by simp at h) (fun _ _ _ => ⟨rfl, fun _ => rfl⟩) hw.rep.mem (Nat.le_refl _) rfl rfl rfl

theorem set_none_get {H : List (Option (List D))} {q i : Nat} {cs : List D} (h : (H.set q none)[i]? = some (some cs)) : i ≠ q ∧ H[i]? = some (some cs) := by
  rw [List.getElem?_set] at h
  split at h
  · split at h <;> simp at h
  · rename_i e; exact ⟨fun e' => e e'.symm, h⟩

/-- an object under a new number -/
theorem WI.rename {E : Ent} {g : Gh} {σ : St} {w : World} (hw : WI E g σ w) {q : Nat} {cs : List D} (hq : σ.H[q]? = some (some cs)) :
    ∃ g', WI E g' ⟨σ.H.set q none ++ [some cs], σ.own⟩ w ∧ g.le g' ∧ g'.β σ.H.length = g.β q ∧ g'.κ σ.H.length = g.κ q ∧ g'.n = σ.H.length + 1 := by
  obtain ⟨us, rest, e, hb, hr, h1, hM, hκ⟩ := hw.rep.obj q cs hq
  obtain ⟨h2, h3⟩ := (hw.kill hq).addObj (b := g.β q) (us := us) (rest := rest) (e := e) (cs := cs) hb (hw.objs q cs hq) hM
    (fun i ci hi e' => by
      obtain ⟨hne, hi'⟩ := set_none_get hi
      exact hne (hw.rep.inj i q _ _ hi' hq e'))
    (fun x hx u hu hb' => hw.rep.ownObj x hx u hu _ hb' q cs hq rfl) hr h1
  refine ⟨_, h2, h3, ?_, ?_, ?_⟩
  · simp [hw.rep.n]
  · simp only [hw.rep.n, if_true]; exact hκ
  · simp [hw.rep.n]

/-- a new block as a new object, with room behind -/
theorem WI.newObjR {E : Ent} {g : Gh} {σ : St} {w : World} (hw : WI E g σ w) {us rest : List Value} {cs : List D} (e : TypeId) (hr : repDs g cs us) (h1 : ∀ c ∈ cs, c.one = true) :
    ∃ g', WI E g' ⟨σ.H ++ [some cs], σ.own⟩ (w.alloc (.cells (us ++ rest).toArray e)) ∧ g.le g' ∧ g'.β σ.H.length = w.heap.size ∧ g'.κ σ.H.length = (us ++ rest).length ∧ g'.n = σ.H.length + 1 := by
  have h2 := (hw.alloc (.cells (us ++ rest).toArray e)).addObj (b := w.heap.size) (us := us) (rest := rest) (e := e) (cs := cs) (heap_alloc_new w _) (.inl hw.size) (hw.rep.new_none (Nat.le_refl _))
    (fun i cs hi => Nat.ne_of_lt (hw.rep.obj_lt hi)) (fun x hx u hu hb => by have := hw.rep.own_lt hx hu hb; omega) hr h1
  exact ⟨_, h2.1, h2.2, by simp [hw.rep.n], by simp [hw.rep.n], by simp [hw.rep.n]⟩

section
variable {P : Program} {o : Oper} {σ : St} {d : D}

/-- append to a growing list: it moves to a new number -/
theorem op_appendG {x y : Operand} {t : TypeId} (ho : o.op = .call { callee := .builtin .append, args := #[x, y], argTypes := #[t, t] }) {e : TypeId} {sz by' : Nat} {z : Value} (hs : slTy P t = some (e, sz, by', some z)) (hzc : z.cells.size = sz) (_hsz : 0 < sz)
    {q q2 len n : Nat} {cs cs2 : List D} (hq : σ.H[q]? = some (some cs)) (hl : cs.length = len * sz) (hq2 : σ.H[q2]? = some (some cs2)) (hl2 : cs2.length = n * sz) (_hpos : 0 < n) (hlen : (len + n) * by' ≤ 140737488355328) (hlen2 : len + n ≤ 140737488355328) :
    OpOK P o [.gro q len sz, .gro q2 n sz] σ (.gro σ.H.length (len + n) sz) ⟨σ.H.set q none ++ [some (cs ++ cs2)], σ.own⟩ := by
  intro E g a w K Q hw hds hK
  simp only [ho, Op.operands, Call.operands] at hds
  have hds' : repDs g [.gro q len sz, .gro q2 n sz] [a.eval x, a.eval y] := by simpa using hds
  simp only [repDs] at hds'
  obtain ⟨u, us0, eu, hu, v, vs0, ev, hv, rfl⟩ := hds'
  simp only [List.cons.injEq] at eu
  obtain ⟨ex, rfl⟩ := eu
  simp only [List.cons.injEq, and_true] at ev
  simp only [repD] at hu hv
  obtain ⟨hqn, cap, hcap, hκ, rfl⟩ := hu
  obtain ⟨_, cap2, hcap2, _, rfl⟩ := hv
  obtain ⟨i, ht, hi, hisz, hib, hiz⟩ := slTy_parts hs
  obtain ⟨us, rest, et, hb, hr, h1, hM, hκ1⟩ := hw.rep.obj q cs hq
  obtain ⟨vs, rest2, et2, hb2, hr2, h12, hM2, _⟩ := hw.rep.obj q2 cs2 hq2
  have hul : us.length = len * sz := by rw [repDs_length hr, hl]
  have hvl : vs.length = n * i.size := by rw [repDs_length hr2, hl2, hisz]
  have hnews : ∀ j u, vs[j]? = some u → w.cell? ((⟨g.β q2, 0, none⟩ : Addr).add j) = some u := fun j u hj => by
    rw [Addr.add_lit]; simp only [World.cell?, hb2, Nat.zero_add, List.getElem?_toArray]; exact get_app hj
  have holds : ∀ j u, us[j]? = some u → w.cell? ((⟨g.β q, 0, none⟩ : Addr).add j) = some u := fun j u hj => by
    rw [Addr.add_lit]; simp only [World.cell?, hb, Nat.zero_add, List.getElem?_toArray]; exact get_app hj
  have hone : ∀ u ∈ vs, u.oneCell' = true := repDs_oneCells h12 hr2
  have hcs : ∀ c ∈ cs ++ cs2, c.one = true := fun c hc => by
    rcases List.mem_append.1 hc with h | h
    · exact h1 c h
    · exact h12 c h
  have hlt : us.length ≤ (us ++ rest).length := by simp
  obtain ⟨u', w', g', hrun, hw', hle, hd⟩ : ∃ u' w' g', (Builtin.append_ #[t, t] o.type #[.slice (some ⟨g.β q, 0, none⟩) len cap, .slice (some ⟨g.β q2, 0, none⟩) n cap2]).run P w = .ok u' w' ∧
      WI E g' ⟨σ.H.set q none ++ [some (cs ++ cs2)], σ.own⟩ w' ∧ g.le g' ∧ repD g' (.gro σ.H.length (len + n) sz) u' := by
    by_cases hroom : len + n ≤ cap
    · have hfit : len * i.size + vs.length ≤ (us ++ rest).toArray.size := by
        rw [List.size_toArray, hκ1, ← hκ, hvl, hisz, ← Nat.add_mul]
        exact Nat.mul_le_mul_right _ hroom
      have hrun := run_append_room' (P := P) w t o.type e et i ht hi (g.β q) len cap (us ++ rest).toArray hb ⟨g.β q2, 0, none⟩ n cap2 vs hvl hnews hone hroom hfit
      have hrow : (us ++ rest).toArray.toList.take (len * i.size) ++ vs ++ (us ++ rest).toArray.toList.drop (len * i.size + vs.length) = (us ++ vs) ++ rest.drop vs.length := by
        simp only [hisz, ← hul]
        rw [List.take_left', List.drop_append, List.drop_of_length_le (by omega)] <;> simp
      rw [hrow] at hrun
      have hlen3 : ((us ++ vs) ++ rest.drop vs.length).length = g.κ q := by
        rw [← hκ1]
        simp only [List.size_toArray, List.length_append] at hfit
        simp only [List.length_append, List.length_drop]
        rw [hisz, ← hul] at hfit
        omega
      have hw1 := hw.setObj (cs' := cs ++ cs2) (w' := w.setRow (g.β q) ((us ++ vs) ++ rest.drop vs.length).toArray) hq (us := us ++ vs) (rest := rest.drop vs.length) (e := et) (setRow_heap w _ _ _ et _ hb) hlen3 (repDs_append hr hr2) hcs (fun b hb => setRow_other w _ _ _ hb) (by simp) rfl rfl rfl
      have hq' : (σ.H.set q (some (cs ++ cs2)))[q]? = some (some (cs ++ cs2)) := by
        rw [List.getElem?_set]; simp; exact (List.getElem?_eq_some_iff.1 hq).1
      obtain ⟨g', h3, h4, h5, h6, h7⟩ := hw1.rename (q := q) hq'
      simp only [List.set_set, List.length_set] at h3 h5 h6 h7
      exact ⟨_, _, g', hrun, h3, h4, by simp only [repD]; exact ⟨by omega, cap, hroom, by rw [h6]; exact hκ, by rw [h5]⟩⟩
    · have hfitc : Builtin.nextslicecap (len + n) cap * i.bytes ≤ 281474976710656 := growslice_fits (by omega) (by rw [hib]; exact hlen)
      have hrun := run_append_grow (P := P) w t o.type e i z ht hi hiz ⟨g.β q, 0, none⟩ len cap us (by rw [hul, hisz]) holds ⟨g.β q2, 0, none⟩ n cap2 vs hvl hnews (by omega) (by omega) hfitc
      have hge := grownCap_ge w (len + n) cap e
      have hcell : us.toArray ++ vs.toArray ++ Builtin.zeroCells z.cells (grownCap w (len + n) cap e - (len + n)) = ((us ++ vs) ++ (Builtin.zeroCells z.cells (grownCap w (len + n) cap e - (len + n))).toList).toArray := by
        apply Array.ext'; simp
      rw [hcell] at hrun
      obtain ⟨g', h3, h4, h5, h6, h7⟩ := (hw.drew.kill hq).newObjR (us := us ++ vs) (rest := (Builtin.zeroCells z.cells (grownCap w (len + n) cap e - (len + n))).toList) (cs := cs ++ cs2) e (repDs_append hr hr2) hcs
      simp only [List.length_set] at h3 h5 h6 h7
      refine ⟨_, _, g', hrun, h3, h4, ?_⟩
      simp only [repD]
      refine ⟨by omega, _, hge, ?_, by rw [h5]; rfl⟩
      rw [h6]
      simp only [List.length_append, Array.length_toList, size_zeroCells, hzc, hul, hvl, hisz, ← Nat.add_mul]
      congr 1; omega
  have := hK g' w' u' hw' hle hd
  unfold Oper.wp execOp
  simp only [ho, resolve, invoke, builtin, Sem.run_bind, Sem.run_pure, Result.andThen_ok, List.map_toArray, List.map_cons, List.map_nil, ex, ev, hrun]
  exact this
end
end Go.Dv
