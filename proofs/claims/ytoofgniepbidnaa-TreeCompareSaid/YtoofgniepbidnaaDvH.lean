/-
  Append to an owned list; make; parts of lists and strings; function values. No program is named here.
-/
import Derived.Test.YtoofgniepbidnaaDvG
namespace Go.Dv

section
variable {P : Program} {o : Oper} {σ : St} {d : D}

theorem run_append_none (w : World) (t ty e : TypeId) (i : TypeInfo) (ht : P.underlying t = some (.slice e)) (hi : P.info? e = some i) (a a2 : Option Addr) (n c c2 : Nat) (hc : n ≤ c) :
    (Builtin.append_ #[t, t] ty #[.slice a n c, .slice a2 0 c2]).run P w = .ok (.slice a n c) w := by
  have hf : (Builtin.firstCells i.size 0 (.slice a2 0 c2)).run P w = .ok #[] w := by
    cases a2 <;> simp [Builtin.firstCells, loadCells, loadCellsFrom]
  cases a <;> simp [Builtin.append_, run_underlying ht, sizeOf, typeInfo, hi, Builtin.lenOf, hc, hf, storeCells]

theorem run_append_room' (w : World) (t ty e e' : TypeId) (i : TypeInfo) (ht : P.underlying t = some (.slice e)) (hi : P.info? e = some i)
    (g sLen sCap : Nat) (cur : Array Value) (hg : w.heap[g]? = some (.cells cur e' (0, 0)))
    (a : Addr) (m c : Nat) (news : List Value) (hl : news.length = m * i.size) (hnews : ∀ j u, news[j]? = some u → w.cell? (a.add j) = some u) (h1 : ∀ u ∈ news, u.oneCell' = true)
    (hroom : sLen + m ≤ sCap) (hfit : sLen * i.size + news.length ≤ cur.size) :
    (Builtin.append_ #[t, t] ty #[.slice (some ⟨g, 0, none⟩) sLen sCap, .slice (some a) m c]).run P w =
      .ok (.slice (some ⟨g, 0, none⟩) (sLen + m) sCap) (w.setRow g (cur.toList.take (sLen * i.size) ++ news ++ cur.toList.drop (sLen * i.size + news.length)).toArray) := by
  have hf := run_firstCells_some (P := P) w i.size m a m c news hl hnews
  have hst := run_storeCells_at P g (sLen * i.size) e' news 0 cur w hg (by simpa using hfit) h1
  simp only [Nat.add_zero] at hst
  simp [Builtin.append_, run_underlying ht, sizeOf, typeInfo, hi, Builtin.lenOf, hroom, hf, Addr.add_lit, hst]

/-- the run of an append to an owned list -/
theorem append_core {E : Ent} {g : Gh} {w : World} (hw : WI E g σ w) {t ty e : TypeId} {sz by' : Nat} {z : Value} (hs : slTy P t = some (e, sz, by', some z)) (hzc : z.cells.size = sz) {k : Nat} {xs ys : List V} (hx : (k, sz, xs) ∈ σ.own)
    (hsy : ∀ y ∈ ys, y.size = sz) (hlen : (xs.length + ys.length) * by' ≤ 140737488355328) (hlen2 : xs.length + ys.length ≤ 140737488355328) {u v : Value} (hu : g.ι k xs.length = some u) (hv : repV g.M (.list ys) v) :
    ∃ u' w' g', (Builtin.append_ #[t, t] ty #[u, v]).run P w = .ok u' w' ∧ WI E g' ⟨σ.H, σ.own.map (repl k sz (xs ++ ys))⟩ w' ∧ g.le g' ∧ repD g' (.acc k (xs ++ ys)) u' := by
  obtain ⟨⟨hsz, hsx⟩, u0, hu0, hr0, hp0, hfr⟩ := hw.rep.own k sz xs hx
  obtain rfl : u = u0 := by rw [hu] at hu0; simpa using hu0
  obtain ⟨i, ht, hi, hisz, hib, hiz⟩ := slTy_parts hs
  have hzs : ∀ x ∈ xs ++ ys, x.size = sz := fun x hx => by
    rcases List.mem_append.1 hx with h | h
    · exact hsx x h
    · exact hsy x h
  obtain ⟨a2, cap2, rfl, hc2, hv⟩ := repV_list_cells hv hsy hsz
  obtain ⟨a1, cap1, e1, hc1, hr1⟩ := repV_list_cells hr0 hsx hsz
  -- what is left to do once the run and the new header are known
  have fin : ∀ (u' : Value) (w' : World) (M' : Mem), (Builtin.append_ #[t, t] ty #[u, .slice a2 ys.length cap2]).run P w = .ok u' w' → g.M.le M' →
      (∀ b, b < w.heap.size → ownB u ≠ some b → w'.heap[b]? = w.heap[b]? ∧ ∀ o, M' b o = g.M b o) → (∀ b o v, M' b o = some v → w'.cell? ⟨b, o, none⟩ = some v) →
      w.heap.size ≤ w'.heap.size → w'.os = w.os → w'.tape = w.tape → w'.output = w.output → repV M' (.list (xs ++ ys)) u' → Perm M' w' sz u' → (∀ b, ownB u' = some b → ownB u = some b ∨ w.heap.size ≤ b) →
      (xs.length < (xs ++ ys).length ∨ ((xs ++ ys).length = xs.length ∧ u' = u)) →
      ∃ u' w' g', (Builtin.append_ #[t, t] ty #[u, .slice a2 ys.length cap2]).run P w = .ok u' w' ∧ WI E g' ⟨σ.H, σ.own.map (repl k sz (xs ++ ys))⟩ w' ∧ g.le g' ∧ repD g' (.acc k (xs ++ ys)) u' := by
    intro u' w' M' hrun hle keep mem size os tape output hr hp hb hl
    obtain ⟨h1, h2⟩ := hw.setOwn hx hu hle keep mem size os tape output hzs hr hp hb hl
    exact ⟨u', w', _, hrun, h1, h2, by simp only [repD]; exact ⟨hr, by simp⟩⟩
  cases hys : ys with
  | nil =>
    subst hys
    refine fin u w g.M ?_ (Mem.le_refl _) (fun b _ _ => ⟨rfl, fun _ => rfl⟩) hw.rep.mem (Nat.le_refl _) rfl rfl rfl (by simpa using hr0) hp0 (fun b hb => .inl hb) (.inr ⟨by simp, rfl⟩)
    rw [e1]
    exact run_append_none w t ty e i ht hi _ _ _ _ _ hc1
  | cons y0 ys0 =>
    rw [← hys]
    have hne : ys ≠ [] := by rw [hys]; simp
    have hpos : 0 < ys.length := List.length_pos_iff.2 hne
    rcases hv with h | ⟨b2, off2, vs, rfl, hi2, hr2⟩
    · exact absurd h hne
    have hvl : vs.length = ys.length * i.size := by rw [repE_length hr2, hisz]
    have hcells2 := mem_cells hw hi2
    have hvone := repE_oneCell hr2
    have grows : ∀ (us : List Value) (old : Nat), repE g.M sz xs us → old < xs.length + ys.length →
        (Builtin.append_ #[t, t] ty #[u, .slice (some ⟨b2, off2, none⟩) ys.length cap2]).run P w =
          .ok (.slice (some ⟨w.heap.size, 0, none⟩) (xs.length + ys.length) (grownCap w (xs.length + ys.length) old e))
            (w.drew.alloc (.cells (us.toArray ++ vs.toArray ++ Builtin.zeroCells z.cells (grownCap w (xs.length + ys.length) old e - (xs.length + ys.length))) e)) →
        ∃ u' w' g', (Builtin.append_ #[t, t] ty #[u, .slice (some ⟨b2, off2, none⟩) ys.length cap2]).run P w = .ok u' w' ∧ WI E g' ⟨σ.H, σ.own.map (repl k sz (xs ++ ys))⟩ w' ∧ g.le g' ∧ repD g' (.acc k (xs ++ ys)) u' := by
      intro us old hus hold hrun
      have hge := grownCap_ge w (xs.length + ys.length) old e
      have hcell : us.toArray ++ vs.toArray ++ Builtin.zeroCells z.cells (grownCap w (xs.length + ys.length) old e - (xs.length + ys.length)) = ((us ++ vs) ++ (Builtin.zeroCells z.cells (grownCap w (xs.length + ys.length) old e - (xs.length + ys.length))).toList).toArray := by
        apply Array.ext'; simp
      rw [hcell] at hrun
      have hE := repE_append hus hr2
      obtain ⟨hw2, hle2⟩ := hw.drew.newImm (us ++ vs) (Builtin.zeroCells z.cells (grownCap w (xs.length + ys.length) old e - (xs.length + ys.length))).toList e
      refine fin _ _ (addM g.M w.heap.size (us ++ vs)) hrun hle2.M (fun b hb _ => ⟨heap_alloc_old w.drew _ b hb, addM_other (Nat.ne_of_lt hb)⟩) hw2.rep.mem (by simp) rfl rfl rfl ?_ ?_ ?_ (.inl (by simp; omega))
      · have := repV_of_cells (cap := grownCap w (xs.length + ys.length) old e) hsz (addM_in g.M w.heap.size (us ++ vs)) (repE.mono hle2.M _ _ _ hE) (by simp; omega)
        simpa using this
      · refine .inr ⟨w.heap.size, xs.length + ys.length, _, _, e, rfl, heap_alloc_new w.drew _, hge, ?_, fun o ho => ?_⟩
        · simp only [List.size_toArray, List.length_append, Array.length_toList, size_zeroCells, hzc, repE_length hus, repE_length hr2, ← Nat.add_mul]
          exact Nat.mul_le_mul_right _ (by omega)
        · simp only [addM, if_true]
          refine List.getElem?_eq_none ?_
          rw [repE_length hE]; simpa using ho
      · intro b hb
        simp only [ownB] at hb
        split at hb
        · simp at hb
        · simp at hb; exact .inr (by omega)
    have h63 : ((xs.length + ys.length : Nat) : Int) ≤ 9223372036854775807 := by omega
    have hfit : ∀ old, old < xs.length + ys.length → Builtin.nextslicecap (xs.length + ys.length) old * i.bytes ≤ 281474976710656 := fun old ho => growslice_fits ho (by rw [hib]; exact hlen)
    have hdrew : ∀ j v, vs[j]? = some v → w.cell? ((⟨b2, off2, none⟩ : Addr).add j) = some v := hcells2
    rcases hp0 with ⟨a, ea⟩ | ⟨b, len, cap, cur, et, eu, hb, hlc, hcc, hMb⟩
    · -- no room at all
      have hxn : xs = [] := by
        rw [ea] at e1
        simp at e1
        exact List.eq_nil_of_length_eq_zero e1.2.1.symm
      subst hxn
      simp only [List.length_nil, Nat.zero_add] at *
      subst ea
      cases a with
      | none =>
        refine grows [] 0 (by simp [repE]) hpos ?_
        have := run_append_nil (P := P) w t ty e i z ht hi hiz ⟨b2, off2, none⟩ ys.length cap2 vs hvl hdrew hpos (by omega) (by have := hfit 0 hpos; rw [nextslicecap_zero hpos] at this; exact this)
        simpa using this
      | some a =>
        refine grows [] 0 (by simp [repE]) hpos ?_
        have := run_append_grow (P := P) w t ty e i z ht hi hiz a 0 0 [] (by simp) (by simp) ⟨b2, off2, none⟩ ys.length cap2 vs hvl hdrew (by omega) (by simpa using h63) (by simpa using hfit 0 hpos)
        simpa using this
    · obtain ⟨rfl, rfl, rfl⟩ : a1 = some ⟨b, 0, none⟩ ∧ xs.length = len ∧ cap1 = cap := by
        rw [eu] at e1; simp at e1; exact ⟨e1.1.symm, e1.2.1.symm, e1.2.2.symm⟩
      obtain ⟨us, hus, hui⟩ : ∃ us, repE g.M sz xs us ∧ inM g.M b 0 us := by
        rcases hr1 with rfl | ⟨b', off', us, ea, hi1, hr1⟩
        · exact ⟨[], by simp [repE], fun j v hj => by simp at hj⟩
        · simp at ea; obtain ⟨rfl, rfl⟩ := ea
          exact ⟨us, hr1, hi1⟩
      have hul := repE_length hus
      by_cases hroom : xs.length + ys.length ≤ cap1
      · -- in place
        have hcur : xs.length * i.size + vs.length ≤ cur.size := by
          rw [hvl, hisz, ← Nat.add_mul]
          exact Nat.le_trans (Nat.mul_le_mul_right _ hroom) hcc
        have hrun := run_append_room' (P := P) w t ty e et i ht hi b xs.length cap1 cur hb ⟨b2, off2, none⟩ ys.length cap2 vs hvl hdrew hvone hroom hcur
        rw [← eu] at hrun
        have hcap0 : cap1 ≠ 0 := by omega
        have hob : ownB u = some b := by rw [eu]; simp [ownB, hcap0]
        -- the new cells
        let M' : Mem := fun b' o => if b' = b ∧ xs.length * sz ≤ o then vs[o - xs.length * sz]? else g.M b' o
        have hM' : g.M.le M' := fun b' o v hm => by
          simp only [M']
          rw [if_neg]; · exact hm
          rintro ⟨rfl, ho⟩
          rw [hMb o ho] at hm; simp at hm
        have hin : inM M' b 0 (us ++ vs) := fun j v hj => by
          simp only [M', Nat.zero_add]
          by_cases hj1 : xs.length * sz ≤ j
          · rw [if_pos ⟨trivial, hj1⟩]
            rw [List.getElem?_append_right (by omega), hul] at hj; exact hj
          · rw [if_neg (fun h => hj1 h.2)]
            rw [List.getElem?_append_left (by omega)] at hj
            have := hui j v hj; simpa using this
        refine fin _ _ M' hrun hM' (fun b' _ hne => ?_) (fun b' o v hm => ?_) (by simp) rfl rfl rfl ?_ ?_ (fun b' hb' => ?_) (.inl (by simp; omega))
        · have hbb : b' ≠ b := fun h => hne (by rw [hob, h])
          refine ⟨setRow_other w b b' _ hbb, fun o => ?_⟩
          simp only [M']; rw [if_neg (fun h => hbb h.1)]
        · simp only [M'] at hm
          by_cases hb' : b' = b
          · subst hb'
            rw [cell_setRow_same w b' o cur _ et _ hb]
            have hl1 : (cur.toList.take (xs.length * i.size)).length = xs.length * sz := by
              simp only [List.length_take, Array.length_toList, hisz]
              have := Nat.le_trans (Nat.mul_le_mul_right sz hlc) hcc
              omega
            by_cases ho : xs.length * sz ≤ o
            · rw [if_pos ⟨rfl, ho⟩] at hm
              have hlt := (List.getElem?_eq_some_iff.1 hm).1
              simp only [List.getElem?_toArray]
              rw [List.append_assoc, List.getElem?_append_right (by omega), hl1, List.getElem?_append_left hlt]
              exact hm
            · rw [if_neg (fun h => ho h.2)] at hm
              have hold := hw.rep.mem b' o v hm
              simp only [World.cell?, hb] at hold
              simp only [List.getElem?_toArray]
              rw [List.append_assoc, List.getElem?_append_left (by omega), List.getElem?_take, if_pos (by rw [hisz]; omega)]
              simpa using hold
          · rw [if_neg (fun h => hb' h.1)] at hm
            rw [cell_setRow_other w b _ _ hb']
            exact hw.rep.mem b' o v hm
        · have := repV_of_cells (cap := cap1) hsz hin (repE.mono hM' _ _ _ (repE_append hus hr2)) (by simp; omega)
          simpa using this
        · refine .inr ⟨b, xs.length + ys.length, cap1, _, et, rfl, setRow_heap w b cur _ et _ hb, hroom, ?_, fun o ho => ?_⟩
          · simp only [List.size_toArray, List.length_append, List.length_take, List.length_drop, Array.length_toList]
            omega
          · simp only [M']
            rw [if_pos ⟨trivial, by rw [Nat.add_mul] at ho; omega⟩]
            refine List.getElem?_eq_none ?_
            rw [hvl, hisz]; rw [Nat.add_mul] at ho; omega
        · simp only [ownB] at hb'
          rw [if_neg hcap0] at hb'
          simp at hb'
          exact .inl (by rw [hob, hb'])
      · have := run_append_grow (P := P) w t ty e i z ht hi hiz ⟨b, 0, none⟩ xs.length cap1 us (by rw [hul, hisz]) (mem_cells hw hui) ⟨b2, off2, none⟩ ys.length cap2 vs hvl hdrew (by omega) h63 (hfit cap1 (by omega))
        refine grows us cap1 hus (by omega) ?_
        rw [eu]; exact this

theorem op_append {x y : Operand} {t : TypeId} (ho : o.op = .call { callee := .builtin .append, args := #[x, y], argTypes := #[t, t] }) {e : TypeId} {sz by' : Nat} {z : Value} (hs : slTy P t = some (e, sz, by', some z)) (hzc : z.cells.size = sz)
    {k : Nat} {xs ys : List V} (hx : (k, sz, xs) ∈ σ.own) (hsy : ∀ y ∈ ys, y.size = sz) (hlen : (xs.length + ys.length) * by' ≤ 140737488355328) (hlen2 : xs.length + ys.length ≤ 140737488355328) :
    OpOK P o [.acc k xs, .v (.list ys)] σ (.acc k (xs ++ ys)) ⟨σ.H, σ.own.map (repl k sz (xs ++ ys))⟩ := by
  intro E g a w K Q hw hds hK
  simp only [ho, Op.operands, Call.operands] at hds
  obtain ⟨u, v, eq, h1, h2⟩ := repDs_two.1 (by simpa using hds)
  simp only [List.cons.injEq, and_true] at eq
  simp only [repD] at h1 h2
  obtain ⟨u', w', g', hrun, hw', hle, hr⟩ := append_core (P := P) (ty := o.type) hw hs hzc hx hsy hlen hlen2 h1.2 h2
  have := hK g' w' u' hw' hle hr
  unfold Oper.wp execOp
  simp only [ho, resolve, invoke, builtin, Sem.run_bind, Sem.run_pure, Result.andThen_ok, List.map_toArray, List.map_cons, List.map_nil, eq.1, eq.2, hrun]
  exact this

/-- append to the literal nil -/
theorem op_appendNil {y : Operand} {t : TypeId} (ho : o.op = .call { callee := .builtin .append, args := #[.const (.slice none 0 0), y], argTypes := #[t, t] }) {e : TypeId} {sz by' : Nat} {z : Value} (hs : slTy P t = some (e, sz, by', some z)) (hzc : z.cells.size = sz)
    (k : Nat) (hk : ∀ x ∈ σ.own, x.1 ≠ k) (h0 : 0 < sz) {ys : List V} (hsy : ∀ y ∈ ys, y.size = sz) (hlen : ys.length * by' ≤ 140737488355328) (hlen2 : ys.length ≤ 140737488355328) :
    OpOK P o [.v (.list []), .v (.list ys)] σ (.acc k ys) ⟨σ.H, (k, sz, ys) :: σ.own⟩ := by
  intro E g a w K Q hw hds hK
  simp only [ho, Op.operands, Call.operands] at hds
  obtain ⟨u, v, eq, h1, h2⟩ := repDs_two.1 (by simpa using hds)
  simp only [List.cons.injEq, and_true] at eq
  have ev : a.eval (.const (.slice none 0 0)) = .slice none 0 0 := rfl
  simp only [repD] at h2
  obtain ⟨hw1, hle1⟩ := hw.addOwn (k := k) (sz := sz) (xs := []) (u := .slice none 0 0) hk ⟨h0, by simp⟩ (repV_nil _) (.inl ⟨none, rfl⟩) (fun b hb => by simp [ownB] at hb)
  obtain ⟨u', w', g', hrun, hw', hle, hr⟩ := append_core (P := P) (ty := o.type) hw1 hs hzc (k := k) (xs := []) (by simp) hsy (by simpa using hlen) (by simpa using hlen2) (u := .slice none 0 0) (by simp) (h2.mono hle1.M)
  have hown : σ.own.map (repl k sz ys) = σ.own := by
    conv => rhs; rw [← List.map_id σ.own]
    exact List.map_congr_left fun x hx => by simp [repl, hk x hx]
  simp only [List.nil_append, List.map_cons, hown] at hw' hr
  have e1 : repl k sz ys (k, sz, []) = (k, sz, ys) := by simp [repl]
  rw [e1] at hw'
  have := hK g' w' u' hw' (Gh.le_trans hle1 hle) hr
  unfold Oper.wp execOp
  simp only [ho, resolve, invoke, builtin, Sem.run_bind, Sem.run_pure, Result.andThen_ok, List.map_toArray, List.map_cons, List.map_nil, ev, eq.2, hrun]
  exact this

end
end Go.Dv
