/-
  Append to an owned list; make; parts of lists and strings; function values. No program is named here.
-/
import Derived.Test.YtaceggcohmmfhaaDa
import Derived.Lib.Strings
import Derived.Orders
namespace Go.Dv

section
variable {P : Program} {o : Oper} {σ : St} {d : D}

theorem run_append_none (w : World) (t ty e : TypeId) (i : TypeInfo) (ht : P.underlying t = some (.slice e)) (hi : P.info? e = some i) (a a2 : Option Addr) (n c c2 : Nat) (hc : n ≤ c) :
    (Builtin.append_ #[t, t] ty #[.slice a n c, .slice a2 0 c2]).run P w = .ok (.slice a n c) w := by
  have hf : (Builtin.firstCells i.size 0 (.slice a2 0 c2)).run P w = .ok #[] w := by
    cases a2 <;> simp [Builtin.firstCells, loadCells, loadCellsFrom]
  cases a <;> simp [Builtin.append_, run_underlying ht, sizeOf, typeInfo, hi, Builtin.lenOf, hc, hf, storeCells]

theorem run_append_room' (w : World) (t ty e e' : TypeId) (i : TypeInfo) (ht : P.underlying t = some (.slice e)) (hi : P.info? e = some i)
    (g sLen sCap : Nat) (cur : Array Value) (hg : w.heap[g]? = some (.cells cur e' (0, 0)))
    (a : Addr) (m c : Nat) (news : List Value) (hl : news.length = m * i.size) (hnews : ∀ j u, news[j]? = some u → w.cell? (a.add j) = some u) (h1 : ∀ u ∈ news, u.oneCell' = true)
    (hroom : sLen + m ≤ sCap) (hfit : sLen * i.size + news.length ≤ cur.size) :
    (Builtin.append_ #[t, t] ty #[.slice (some ⟨g, 0, none⟩) sLen sCap, .slice (some a) m c]).run P w =
      .ok (.slice (some ⟨g, 0, none⟩) (sLen + m) sCap) (w.setRow g (cur.toList.take (sLen * i.size) ++ news ++ cur.toList.drop (sLen * i.size + news.length)).toArray) := by
  have hf := run_firstCells_some (P := P) w i.size m a m c news hl hnews
  have hst := run_storeCells_at P g (sLen * i.size) e' news 0 cur w hg (by simpa using hfit) h1
  simp only [Nat.add_zero] at hst
  simp [Builtin.append_, run_underlying ht, sizeOf, typeInfo, hi, Builtin.lenOf, hroom, hf, Addr.add_lit, hst]

theorem run_append_roomF (w : World) (t ty e e' : TypeId) (i : TypeInfo) (ht : P.underlying t = some (.slice e)) (hi : P.info? e = some i)
    (g p sLen sCap : Nat) (cur : Array Value) (hg : w.heap[g]? = some (.cells cur e' (0, 0)))
    (a : Addr) (m c : Nat) (news : List Value) (hl : news.length = m * i.size) (hnews : ∀ j u, news[j]? = some u → w.cell? (a.add j) = some u) (h1 : ∀ u ∈ news, u.oneCell' = true)
    (hroom : sLen + m ≤ sCap) (hfit : p + sLen * i.size + news.length ≤ cur.size) :
    (Builtin.append_ #[t, t] ty #[.slice (some ⟨g, p, none⟩) sLen sCap, .slice (some a) m c]).run P w =
      .ok (.slice (some ⟨g, p, none⟩) (sLen + m) sCap) (w.setRow g (cur.toList.take (p + sLen * i.size) ++ news ++ cur.toList.drop (p + sLen * i.size + news.length)).toArray) := by
  have hf := run_firstCells_some (P := P) w i.size m a m c news hl hnews
  have hst := run_storeCells_at P g (p + sLen * i.size) e' news 0 cur w hg (by simpa using hfit) h1
  simp only [Nat.add_zero] at hst
  simp [Builtin.append_, run_underlying ht, sizeOf, typeInfo, hi, Builtin.lenOf, hroom, hf, Addr.add_lit, hst]

/-- the run of an append to an owned list -/
theorem append_core {E : Ent} {g : Gh} {w : World} (hw : WI E g σ w) {t ty e : TypeId} {sz by' : Nat} {z : Value} (hs : slTy P t = some (e, sz, by', some z)) (hzc : z.cells.size = sz) {k : Nat} {xs ys : List V} (hx : (k, sz, xs) ∈ σ.own)
    (hsy : ∀ y ∈ ys, y.size = sz) (hlen : (xs.length + ys.length) * by' ≤ 140737488355328) (hlen2 : xs.length + ys.length ≤ 140737488355328) {u v : Value} (hu : g.ι k xs.length = some u) (hv : repV g.M (.list ys) v) :
    ∃ u' w' g', (Builtin.append_ #[t, t] ty #[u, v]).run P w = .ok u' w' ∧ WI E g' ⟨σ.H, σ.own.map (repl k sz (xs ++ ys))⟩ w' ∧ g.le g' ∧ repD g' (.acc k (xs ++ ys)) u' := by
  obtain ⟨⟨hsz, hsx⟩, u0, hu0, hr0, hp0, hfr⟩ := hw.rep.own k sz xs hx
  obtain rfl : u = u0 := by rw [hu] at hu0; simpa using hu0
  obtain ⟨i, ht, hi, hisz, hib, hiz⟩ := slTy_parts hs
  have hzs : ∀ x ∈ xs ++ ys, x.size = sz := fun x hx => by
    rcases List.mem_append.1 hx with h | h
    · exact hsx x h
    · exact hsy x h
  obtain ⟨a2, cap2, rfl, hc2, hv⟩ := repV_list_cells hv hsy hsz
  obtain ⟨a1, cap1, e1, hc1, hr1⟩ := repV_list_cells hr0 hsx hsz
  -- what is left to do once the run and the new header are known
  have fin : ∀ (u' : Value) (w' : World) (M' : Mem), (Builtin.append_ #[t, t] ty #[u, .slice a2 ys.length cap2]).run P w = .ok u' w' → g.M.le M' →
      (∀ b, b < w.heap.size → ownB u ≠ some b → w'.heap[b]? = w.heap[b]? ∧ ∀ o, M' b o = g.M b o) → (∀ b o v, M' b o = some v → w'.cell? ⟨b, o, none⟩ = some v) →
      w.heap.size ≤ w'.heap.size → w'.os = w.os → w'.tape = w.tape → w'.output = w.output → repV M' (.list (xs ++ ys)) u' → Perm M' w' sz u' → (∀ b, ownB u' = some b → ownB u = some b ∨ w.heap.size ≤ b) →
      (xs.length < (xs ++ ys).length ∨ ((xs ++ ys).length = xs.length ∧ u' = u)) → drwLe w.drawn w'.drawn →
      ∃ u' w' g', (Builtin.append_ #[t, t] ty #[u, .slice a2 ys.length cap2]).run P w = .ok u' w' ∧ WI E g' ⟨σ.H, σ.own.map (repl k sz (xs ++ ys))⟩ w' ∧ g.le g' ∧ repD g' (.acc k (xs ++ ys)) u' := by
    intro u' w' M' hrun hle keep mem size os tape output hr hp hb hl dr
    obtain ⟨h1, h2⟩ := hw.setOwn hx hu hle keep mem size os tape output hzs hr hp hb hl
    exact ⟨u', w', _, hrun, h1, h2, by simp only [repD]; exact ⟨hr, by simp⟩⟩
  cases hys : ys with
  | nil =>
    subst hys
    refine fin u w g.M ?_ (Mem.le_refl _) (fun b _ _ => ⟨rfl, fun _ => rfl⟩) hw.rep.mem (Nat.le_refl _) rfl rfl rfl (by simpa using hr0) hp0 (fun b hb => .inl hb) (.inr ⟨by simp, rfl⟩) (drwLe.refl _)
    rw [e1]
    exact run_append_none w t ty e i ht hi _ _ _ _ _ hc1
  | cons y0 ys0 =>
    rw [← hys]
    have hne : ys ≠ [] := by rw [hys]; simp
    have hpos : 0 < ys.length := List.length_pos_iff.2 hne
    rcases hv with h | ⟨b2, off2, vs, rfl, hi2, hr2⟩
    · exact absurd h hne
    have hvl : vs.length = ys.length * i.size := by rw [repE_length hr2, hisz]
    have hcells2 := mem_cells hw hi2
    have hvone := repE_oneCell hr2
    have grows : ∀ (us : List Value) (old : Nat), repE g.M sz xs us → old < xs.length + ys.length →
        (Builtin.append_ #[t, t] ty #[u, .slice (some ⟨b2, off2, none⟩) ys.length cap2]).run P w =
          .ok (.slice (some ⟨w.heap.size, 0, none⟩) (xs.length + ys.length) (grownCap w (xs.length + ys.length) old e))
            (w.drew.alloc (.cells (us.toArray ++ vs.toArray ++ Builtin.zeroCells z.cells (grownCap w (xs.length + ys.length) old e - (xs.length + ys.length))) e)) →
        ∃ u' w' g', (Builtin.append_ #[t, t] ty #[u, .slice (some ⟨b2, off2, none⟩) ys.length cap2]).run P w = .ok u' w' ∧ WI E g' ⟨σ.H, σ.own.map (repl k sz (xs ++ ys))⟩ w' ∧ g.le g' ∧ repD g' (.acc k (xs ++ ys)) u' := by
      intro us old hus hold hrun
      have hge := grownCap_ge w (xs.length + ys.length) old e
      have hcell : us.toArray ++ vs.toArray ++ Builtin.zeroCells z.cells (grownCap w (xs.length + ys.length) old e - (xs.length + ys.length)) = ((us ++ vs) ++ (Builtin.zeroCells z.cells (grownCap w (xs.length + ys.length) old e - (xs.length + ys.length))).toList).toArray := by
        apply Array.ext'; simp
      rw [hcell] at hrun
      have hE := repE_append hus hr2
      obtain ⟨hw2, hle2⟩ := hw.drew.newImm (us ++ vs) (Builtin.zeroCells z.cells (grownCap w (xs.length + ys.length) old e - (xs.length + ys.length))).toList e
      refine fin _ _ (addM g.M w.heap.size (us ++ vs)) hrun hle2.M (fun b hb _ => ⟨heap_alloc_old w.drew _ b hb, addM_other (Nat.ne_of_lt hb)⟩) hw2.rep.mem (by simp) rfl rfl rfl ?_ ?_ ?_ (.inl (by simp; omega)) (drwLe.succ _)
      · have := repV_of_cells (cap := grownCap w (xs.length + ys.length) old e) hsz (addM_in g.M w.heap.size (us ++ vs)) (repE.mono hle2.M _ _ _ hE) (by simp; omega)
        simpa using this
      · refine .inr ⟨w.heap.size, 0, xs.length + ys.length, _, _, e, rfl, heap_alloc_new w.drew _, hge, ?_, fun o ho => ?_, hw.rep.gw.new (Nat.le_refl _)⟩
        · simp only [List.size_toArray, List.length_append, Array.length_toList, size_zeroCells, hzc, repE_length hus, repE_length hr2, ← Nat.add_mul, Nat.zero_add]
          exact Nat.mul_le_mul_right _ (by omega)
        · simp only [addM, if_true]
          refine List.getElem?_eq_none ?_
          rw [repE_length hE]; simpa using ho
      · intro b hb
        simp only [ownB] at hb
        split at hb
        · simp at hb
        · simp at hb; exact .inr (by omega)
    have h63 : ((xs.length + ys.length : Nat) : Int) ≤ 9223372036854775807 := by omega
    have hfit : ∀ old, old < xs.length + ys.length → Builtin.nextslicecap (xs.length + ys.length) old * i.bytes ≤ 281474976710656 := fun old ho => growslice_fits ho (by rw [hib]; exact hlen)
    have hdrew : ∀ j v, vs[j]? = some v → w.cell? ((⟨b2, off2, none⟩ : Addr).add j) = some v := hcells2
    rcases hp0 with ⟨a, ea⟩ | ⟨b, f, len, cap, cur, et, eu, hb, hlc, hcc, hMb⟩
    · -- no room at all
      have hxn : xs = [] := by
        rw [ea] at e1
        simp at e1
        exact List.eq_nil_of_length_eq_zero e1.2.1.symm
      subst hxn
      simp only [List.length_nil, Nat.zero_add] at *
      subst ea
      cases a with
      | none =>
        refine grows [] 0 (by simp [repE]) hpos ?_
        have := run_append_nil (P := P) w t ty e i z ht hi hiz ⟨b2, off2, none⟩ ys.length cap2 vs hvl hdrew hpos (by omega) (by have := hfit 0 hpos; rw [nextslicecap_zero hpos] at this; exact this)
        simpa using this
      | some a =>
        refine grows [] 0 (by simp [repE]) hpos ?_
        have := run_append_grow (P := P) w t ty e i z ht hi hiz a 0 0 [] (by simp) (by simp) ⟨b2, off2, none⟩ ys.length cap2 vs hvl hdrew (by omega) (by simpa using h63) (by simpa using hfit 0 hpos)
        simpa using this
    · obtain ⟨rfl, rfl, rfl⟩ : a1 = some ⟨b, f, none⟩ ∧ xs.length = len ∧ cap1 = cap := by
        rw [eu] at e1; simp at e1; exact ⟨e1.1.symm, e1.2.1.symm, e1.2.2.symm⟩
      obtain ⟨us, hus, hui⟩ : ∃ us, repE g.M sz xs us ∧ inM g.M b f us := by
        rcases hr1 with rfl | ⟨b', off', us, ea, hi1, hr1⟩
        · exact ⟨[], by simp [repE], fun j v hj => by simp at hj⟩
        · simp at ea; obtain ⟨rfl, rfl⟩ := ea
          exact ⟨us, hr1, hi1⟩
      have hul := repE_length hus
      by_cases hroom : xs.length + ys.length ≤ cap1
      · -- in place
        have hcur : f + xs.length * i.size + vs.length ≤ cur.size := by
          rw [hvl, hisz, Nat.add_assoc, ← Nat.add_mul]
          exact Nat.le_trans (Nat.add_le_add_left (Nat.mul_le_mul_right _ hroom) f) hcc
        have hrun := run_append_roomF (P := P) w t ty e et i ht hi b f xs.length cap1 cur hb ⟨b2, off2, none⟩ ys.length cap2 vs hvl hdrew hvone hroom hcur
        rw [← eu] at hrun
        have hcap0 : cap1 ≠ 0 := by omega
        have hob : ownB u = some b := by rw [eu]; simp [ownB, hcap0]
        -- the new cells
        let M' : Mem := fun b' o => if b' = b ∧ f + xs.length * sz ≤ o then vs[o - (f + xs.length * sz)]? else g.M b' o
        have hM' : g.M.le M' := fun b' o v hm => by
          simp only [M']
          rw [if_neg]; · exact hm
          rintro ⟨rfl, ho⟩
          rw [hMb o ho] at hm; simp at hm
        have hin : inM M' b f (us ++ vs) := fun j v hj => by
          simp only [M']
          by_cases hj1 : f + xs.length * sz ≤ f + j
          · rw [if_pos ⟨trivial, hj1⟩, show f + j - (f + xs.length * sz) = j - xs.length * sz by omega]
            rw [List.getElem?_append_right (by omega), hul] at hj; exact hj
          · rw [if_neg (fun h => hj1 h.2)]
            rw [List.getElem?_append_left (by omega)] at hj
            have := hui j v hj; simpa using this
        refine fin _ _ M' hrun hM' (fun b' _ hne => ?_) (fun b' o v hm => ?_) (by simp) rfl rfl rfl ?_ ?_ (fun b' hb' => ?_) (.inl (by simp; omega)) (drwLe.refl _)
        · have hbb : b' ≠ b := fun h => hne (by rw [hob, h])
          refine ⟨setRow_other w b b' _ hbb, fun o => ?_⟩
          simp only [M']; rw [if_neg (fun h => hbb h.1)]
        · simp only [M'] at hm
          by_cases hb' : b' = b
          · subst hb'
            rw [cell_setRow_same w b' o cur _ et _ hb]
            have hl1 : (cur.toList.take (f + xs.length * i.size)).length = f + xs.length * sz := by
              simp only [List.length_take, Array.length_toList, hisz]
              have := Nat.le_trans (Nat.add_le_add_left (Nat.mul_le_mul_right sz hlc) f) hcc
              omega
            by_cases ho : f + xs.length * sz ≤ o
            · rw [if_pos ⟨rfl, ho⟩] at hm
              have hlt := (List.getElem?_eq_some_iff.1 hm).1
              simp only [List.getElem?_toArray]
              rw [List.append_assoc, List.getElem?_append_right (by omega), hl1, List.getElem?_append_left hlt]
              exact hm
            · rw [if_neg (fun h => ho h.2)] at hm
              have hold := hw.rep.mem b' o v hm
              simp only [World.cell?, hb] at hold
              simp only [List.getElem?_toArray]
              rw [List.append_assoc, List.getElem?_append_left (by omega), List.getElem?_take, if_pos (by rw [hisz]; omega)]
              simpa using hold
          · rw [if_neg (fun h => hb' h.1)] at hm
            rw [cell_setRow_other w b _ _ hb']
            exact hw.rep.mem b' o v hm
        · have := repV_of_cells (cap := cap1) hsz hin (repE.mono hM' _ _ _ (repE_append hus hr2)) (by simp; omega)
          simpa using this
        · refine .inr ⟨b, f, xs.length + ys.length, cap1, _, et, rfl, setRow_heap w b cur _ et _ hb, hroom, ?_, fun o ho => ?_, hw.rep.own_ng hx hu hob⟩
          · simp only [List.size_toArray, List.length_append, List.length_take, List.length_drop, Array.length_toList]
            omega
          · simp only [M']
            rw [if_pos ⟨trivial, by rw [Nat.add_mul] at ho; omega⟩]
            refine List.getElem?_eq_none ?_
            rw [hvl, hisz]; rw [Nat.add_mul] at ho; omega
        · simp only [ownB] at hb'
          rw [if_neg hcap0] at hb'
          simp at hb'
          exact .inl (by rw [hob, hb'])
      · have := run_append_grow (P := P) w t ty e i z ht hi hiz ⟨b, f, none⟩ xs.length cap1 us (by rw [hul, hisz]) (mem_cells hw hui) ⟨b2, off2, none⟩ ys.length cap2 vs hvl hdrew (by omega) h63 (hfit cap1 (by omega))
        refine grows us cap1 hus (by omega) ?_
        rw [eu]; exact this

theorem op_append {x y : Operand} {t : TypeId} (ho : o.op = .call { callee := .builtin .append, args := #[x, y], argTypes := #[t, t] }) {e : TypeId} {sz by' : Nat} {z : Value} (hs : slTy P t = some (e, sz, by', some z)) (hzc : z.cells.size = sz)
    {k : Nat} {xs ys : List V} (hx : (k, sz, xs) ∈ σ.own) (hsy : ∀ y ∈ ys, y.size = sz) (hlen : (xs.length + ys.length) * by' ≤ 140737488355328) (hlen2 : xs.length + ys.length ≤ 140737488355328) :
    OpOK P o [.acc k xs, .v (.list ys)] σ (.acc k (xs ++ ys)) ⟨σ.H, σ.own.map (repl k sz (xs ++ ys))⟩ := by
  intro E g a w K Q hw hds hK
  simp only [ho, Op.operands, Call.operands] at hds
  obtain ⟨u, v, eq, h1, h2⟩ := repDs_two.1 (by simpa using hds)
  simp only [List.cons.injEq, and_true] at eq
  simp only [repD] at h1 h2
  obtain ⟨u', w', g', hrun, hw', hle, hr⟩ := append_core (P := P) (ty := o.type) hw hs hzc hx hsy hlen hlen2 h1.2 h2
  have := hK g' w' u' hw' hle hr
  unfold Oper.wp execOp
  simp only [ho, resolve, invoke, builtin, Sem.run_bind, Sem.run_pure, Result.andThen_ok, List.map_toArray, List.map_cons, List.map_nil, eq.1, eq.2, hrun]
  exact this

end
end Go.Dv

namespace Go.Dv

section
variable {P : Program} {o : Oper} {σ : St} {d : D}

theorem slice_rep {M : Mem} {xs : List V} {a : Option Addr} {len cap sz : Nat} (hr : repV M (.list xs) (.slice a len cap)) (hs : ∀ x ∈ xs, x.size = sz) (hsz : 0 < sz) {l h : Nat} (hl : l ≤ h) (hh : h ≤ xs.length) :
    len = xs.length ∧ xs.length ≤ cap ∧ repV M (.list ((xs.take h).drop l)) (.slice (if cap = l then a else a.map (·.add (l * sz))) (h - l) (cap - l)) := by
  obtain ⟨a', cap', e, hc, hr2⟩ := repV_list_cells hr hs hsz
  simp only [Value.slice.injEq] at e
  obtain ⟨rfl, rfl, rfl⟩ := e
  refine ⟨rfl, hc, ?_⟩
  have hlen : ((xs.take h).drop l).length = h - l := by simp; omega
  rw [repV_list]
  refine ⟨_, cap - l, by rw [hlen], by rw [hlen]; omega, ?_⟩
  rcases Nat.lt_or_ge l h with hlt | hge
  · rcases hr2 with rfl | ⟨b, off, us, rfl, hi, hr3⟩
    · simp at hh; omega
    refine .inr ⟨b, off + l * sz, sz, (us.take (h * sz)).drop (l * sz), ?_, hsz, inM_drop (inM_take hi _) _, repE_drop (repE_take hr3 h) l⟩
    rw [if_neg (by omega)]
    simp [Addr.add_lit]
  · left
    exact List.eq_nil_of_length_eq_zero (by rw [hlen]; omega)

def sliceI (n : Nat) (l h : Option Int) : Option (Nat × Nat) :=
  let h' := h.getD n
  let l' := l.getD 0
  if 0 ≤ l' ∧ l' ≤ h' ∧ h' ≤ n then some (l'.toNat, h'.toNat) else none

theorem run_bounds (w : World) (isS : Bool) (len cap : Nat) (hc : len ≤ cap) (l h : Option (IntKind × Int)) {l' h' : Nat} (hb : sliceI len (l.map (·.2)) (h.map (·.2)) = some (l', h')) :
    (Instr.sliceBounds isS len cap (l.map fun p => .int p.1 p.2) (h.map fun p => .int p.1 p.2) none).run P w = .ok (l', h', cap) w := by
  unfold sliceI at hb
  simp only at hb
  split at hb
  · rename_i hcond
    simp only [Option.some.injEq, Prod.mk.injEq] at hb
    obtain ⟨rfl, rfl⟩ := hb
    cases l with
    | none =>
      cases h with
      | none => simp [Instr.sliceBounds]
      | some p =>
        simp only [Option.map_none, Option.map_some, Option.getD_none, Option.getD_some] at hcond ⊢
        simp [Instr.sliceBounds, run_sliceBound w p.1 p.2 cap _ (by omega) (by omega)]
    | some q =>
      cases h with
      | none =>
        simp only [Option.map_none, Option.map_some, Option.getD_none, Option.getD_some] at hcond ⊢
        simp [Instr.sliceBounds, run_sliceBound w q.1 q.2 len _ (by omega) (by omega)]
      | some p =>
        simp only [Option.map_some, Option.getD_some] at hcond ⊢
        simp [Instr.sliceBounds, run_sliceBound w p.1 p.2 cap _ (by omega) (by omega), run_sliceBound w q.1 q.2 p.2.toNat _ (by omega) (by omega)]
  · simp at hb

/-- operands of a slice expression -/
def bndD : Option (IntKind × Int) → List D
  | none => []
  | some p => [.v (.int p.1 p.2)]

theorem op_sliceL {t : TypeId} {x : Operand} {lo hi : Option Operand} (ho : o.op = .slice t x lo hi none) {e : TypeId} {sz by' : Nat} {z : Option Value} (hs : slTy P t = some (e, sz, by', z)) {xs : List V} (hsx : ∀ x ∈ xs, x.size = sz) (hsz : 0 < sz)
    (l h : Option (IntKind × Int)) (hlo : lo.isSome = l.isSome) (hhi : hi.isSome = h.isSome) {l' h' : Nat} (hb : sliceI xs.length (l.map (·.2)) (h.map (·.2)) = some (l', h')) :
    OpOK P o (.v (.list xs) :: (bndD l ++ bndD h)) σ (.v (.list ((xs.take h').drop l'))) σ := by
  refine opOK_run fun E g ρ w hw hds => ?_
  obtain ⟨i, hu, hi', rfl, rfl, rfl⟩ := slTy_parts hs
  have hb2 := hb
  unfold sliceI at hb2
  simp only at hb2
  split at hb2
  case isFalse => simp at hb2
  rename_i hcond
  simp only [Option.some.injEq, Prod.mk.injEq] at hb2
  have main : ∀ u (lv hv : Option Value), ρ x = u → lv = l.map (fun p => Value.int p.1 p.2) → hv = h.map (fun p => Value.int p.1 p.2) → lo.map ρ = lv → hi.map ρ = hv → repV g.M (.list xs) u →
      ∃ u, (execOp ρ o).run P w = .ok (.value u) w ∧ repD g (.v (.list ((xs.take h').drop l'))) u := by
    intro u lv hv eu el eh e1 e2 hr
    obtain ⟨a, cap, rfl, hc, _⟩ := repV_list.1 hr
    obtain ⟨_, _, hres⟩ := slice_rep hr hsx hsz (l := l') (h := h') (by omega) (by omega)
    refine ⟨_, ?_, by simp only [repD]; exact hres⟩
    have hbr := run_bounds (P := P) w true xs.length cap hc l h hb
    simp only [execOp, ho, eu, e1, e2, el, eh, Option.map_none, Instr.sliceAt, Instr.slice, Sem.run_bind, run_underlying hu, Result.andThen_ok, hbr]
    simp [sizeOf, typeInfo, hi']
  simp only [ho, Op.operands] at hds
  cases lo with
  | none =>
    cases l with
    | some _ => simp at hlo
    | none =>
      cases hi with
      | none =>
        cases h with
        | some _ => simp at hhi
        | none =>
          obtain ⟨u, eu, h1⟩ := repDs_one.1 (by simpa [bndD] using hds)
          simp at eu
          exact main u none none eu rfl rfl rfl rfl (by simpa only [repD] using h1)
      | some ho' =>
        cases h with
        | none => simp at hhi
        | some p =>
          obtain ⟨u, v, eu, h1, h2⟩ := repDs_two.1 (by simpa [bndD] using hds)
          simp only [List.cons.injEq, and_true] at eu
          simp only [repD, repV_int] at h2
          exact main u none _ eu.1 rfl (by simp; rfl) rfl (by simp [eu.2, h2]) (by simpa only [repD] using h1)
  | some lo' =>
    cases l with
    | none => simp at hlo
    | some q =>
      cases hi with
      | none =>
        cases h with
        | some _ => simp at hhi
        | none =>
          obtain ⟨u, v, eu, h1, h2⟩ := repDs_two.1 (by simpa [bndD] using hds)
          simp only [List.cons.injEq, and_true] at eu
          simp only [repD, repV_int] at h2
          exact main u _ none eu.1 (by simp; rfl) rfl (by simp [eu.2, h2]) rfl (by simpa only [repD] using h1)
      | some ho' =>
        cases h with
        | none => simp at hhi
        | some p =>
          obtain ⟨u, v, v2, eu, h1, h2, h3⟩ := repDs_three.1 (by simpa [bndD] using hds)
          simp only [List.cons.injEq, and_true] at eu
          simp only [repD, repV_int] at h2 h3
          exact main u _ _ eu.1 (by simp; rfl) (by simp; rfl) (by simp [eu.2.1, h2]) (by simp [eu.2.2, h3]) (by simpa only [repD] using h1)

theorem op_sliceS {t : TypeId} {x : Operand} {lo hi : Option Operand} (ho : o.op = .slice t x lo hi none) (hu : P.underlying t = some .string) {s : List UInt8}
    (l h : Option (IntKind × Int)) (hlo : lo.isSome = l.isSome) (hhi : hi.isSome = h.isSome) {l' h' : Nat} (hb : sliceI s.length (l.map (·.2)) (h.map (·.2)) = some (l', h')) :
    OpOK P o (.v (.str s) :: (bndD l ++ bndD h)) σ (.v (.str ((s.take h').drop l'))) σ := by
  refine opOK_run fun E g ρ w hw hds => ?_
  have main : ∀ u (lv hv : Option Value), ρ x = u → lv = l.map (fun p => Value.int p.1 p.2) → hv = h.map (fun p => Value.int p.1 p.2) → lo.map ρ = lv → hi.map ρ = hv → u = .string ⟨s.toArray⟩ →
      ∃ u, (execOp ρ o).run P w = .ok (.value u) w ∧ repD g (.v (.str ((s.take h').drop l'))) u := by
    intro u lv hv eu el eh e1 e2 hr
    subst hr
    refine ⟨.string ⟨((s.take h').drop l').toArray⟩, ?_, by simp only [repD, repV_str]⟩
    have hbr := run_bounds (P := P) w false s.length s.length (Nat.le_refl _) l h hb
    have hx : (⟨s.toArray⟩ : ByteArray).extract l' h' = ⟨((s.take h').drop l').toArray⟩ := by
      apply ByteArray.ext
      apply Array.ext'
      rw [Lib.extract_data]
      simp [List.drop_take]
    simp only [execOp, ho, eu, e1, e2, el, eh, Option.map_none, Instr.sliceAt, Instr.slice, Sem.run_bind, run_underlying hu, Result.andThen_ok, Option.isSome_none, Bool.false_eq_true, if_false, size_mk]
    simp [hbr, hx]
  simp only [ho, Op.operands] at hds
  cases lo with
  | none =>
    cases l with
    | some _ => simp at hlo
    | none =>
      cases hi with
      | none =>
        cases h with
        | some _ => simp at hhi
        | none =>
          obtain ⟨u, eu, h1⟩ := repDs_one.1 (by simpa [bndD] using hds)
          simp at eu
          exact main u none none eu rfl rfl rfl rfl (by simpa only [repD, repV_str] using h1)
      | some ho' =>
        cases h with
        | none => simp at hhi
        | some p =>
          obtain ⟨u, v, eu, h1, h2⟩ := repDs_two.1 (by simpa [bndD] using hds)
          simp only [List.cons.injEq, and_true] at eu
          simp only [repD, repV_int] at h2
          exact main u none _ eu.1 rfl (by simp; rfl) rfl (by simp [eu.2, h2]) (by simpa only [repD, repV_str] using h1)
  | some lo' =>
    cases l with
    | none => simp at hlo
    | some q =>
      cases hi with
      | none =>
        cases h with
        | some _ => simp at hhi
        | none =>
          obtain ⟨u, v, eu, h1, h2⟩ := repDs_two.1 (by simpa [bndD] using hds)
          simp only [List.cons.injEq, and_true] at eu
          simp only [repD, repV_int] at h2
          exact main u _ none eu.1 (by simp; rfl) rfl (by simp [eu.2, h2]) rfl (by simpa only [repD, repV_str] using h1)
      | some ho' =>
        cases h with
        | none => simp at hhi
        | some p =>
          obtain ⟨u, v, v2, eu, h1, h2, h3⟩ := repDs_three.1 (by simpa [bndD] using hds)
          simp only [List.cons.injEq, and_true] at eu
          simp only [repD, repV_int] at h2 h3
          exact main u _ _ eu.1 (by simp; rfl) (by simp; rfl) (by simp [eu.2.1, h2]) (by simp [eu.2.2, h3]) (by simpa only [repD, repV_str] using h1)

theorem madeCells_one (z : Value) (n : Nat) : madeCells #[z] n = (List.replicate n z).toArray := by
  apply Array.ext'
  apply List.ext_getElem?
  intro k
  simp only [madeCells]
  by_cases hk : k < n
  · simp [hk, Nat.mod_one]
  · simp [hk]

/-- make([]T, n), T of one cell: a new object -/
theorem op_make {t : TypeId} {x y : Operand} (ho : o.op = .makeSlice t x y) {e : TypeId} {by' : Nat} {z : Value} (hs : slTy P t = some (e, 1, by', some z)) {zv : V} (hz : constV z = some zv) {k k' : IntKind} {n : Int} (h0 : 0 ≤ n) (hn : (by' : Int) * n ≤ 281474976710656) (hn2 : n ≤ 9223372036854775807) :
    OpOK P o [.v (.int k n), .v (.int k' n)] σ (.arr σ.H.length 0 n.toNat) ⟨σ.H ++ [some (List.replicate n.toNat (.v zv))], σ.own⟩ := by
  intro E g a w K Q hw hds hK
  simp only [ho, Op.operands, repDs_two] at hds
  obtain ⟨u, v, eq, h1, h2⟩ := hds
  simp only [List.map_cons, List.map_nil, List.cons.injEq, and_true] at eq
  obtain ⟨e1, e2⟩ := eq
  simp only [repD, repV_int] at h1 h2
  subst h1 h2
  obtain ⟨i, hu, hi, hsz, hby, hzz⟩ := slTy_parts hs
  obtain ⟨hza, hzc⟩ := constV_rep (M := g.M) hz
  have hz1 : z.cells = #[z] := by
    obtain ⟨u', e, _, h3⟩ := repC_one hza hzc
    simp at e; subst e; exact cells_one h3
  have hrun := run_make (P := P) w t e i z hu hi hzz k k' n n h0 (Int.le_refl _) (by rw [hby]; exact hn) hn2
  rw [hsz, Nat.mul_one, hz1, madeCells_one] at hrun
  have hr : ∀ m, repDs g (List.replicate m (.v zv)) (List.replicate m z) := by
    intro m
    induction m with
    | zero => simp [repDs]
    | succ m ih => simp only [List.replicate_succ, repDs, repD]; exact ⟨z, _, rfl, (repV_one hza).2 hzc, ih⟩
  obtain ⟨g', hw', hle, hβ, hn'⟩ := hw.newObj e (hr n.toNat) (fun c hc => by rw [List.mem_replicate] at hc; rw [hc.2]; simp [D.one, hza])
  have := hK g' _ (.slice (some ⟨w.heap.size, 0, none⟩) n.toNat n.toNat) hw' hle (by simp only [repD]; exact ⟨by omega, n.toNat, Nat.le_refl _, by rw [hβ]⟩)
  unfold Oper.wp execOp
  simp only [ho, e1, e2, Sem.run_bind, hrun, Result.andThen_ok]
  exact this

/-- make([]T, 0, c): an owned list -/
theorem op_make0 {t : TypeId} {x y : Operand} (ho : o.op = .makeSlice t x y) {e : TypeId} {sz by' : Nat} {z : Value} (hs : slTy P t = some (e, sz, by', some z)) (h1 : 0 < sz) (k : Nat) (hk : ∀ x ∈ σ.own, x.1 ≠ k) {k1 k2 : IntKind} {n : Int} (h0 : 0 ≤ n) (hn : (by' : Int) * n ≤ 281474976710656) (hn2 : n ≤ 9223372036854775807) :
    OpOK P o [.v (.int k1 0), .v (.int k2 n)] σ (.acc k []) ⟨σ.H, (k, sz, []) :: σ.own⟩ := by
  intro E g a w K Q hw hds hK
  simp only [ho, Op.operands, repDs_two] at hds
  obtain ⟨u, v, eq, h1', h2⟩ := hds
  simp only [List.map_cons, List.map_nil, List.cons.injEq, and_true] at eq
  obtain ⟨e1, e2⟩ := eq
  simp only [repD, repV_int] at h1' h2
  subst h1' h2
  obtain ⟨i, hu, hi, hsz, hby, hzz⟩ := slTy_parts hs
  have hrun := run_make (P := P) w t e i z hu hi hzz k1 k2 0 n (Int.le_refl _) h0 (by rw [hby]; exact hn) hn2
  have hrep : repV g.M (.list []) (.slice (some ⟨w.heap.size, 0, none⟩) 0 n.toNat) := by rw [repV_list]; exact ⟨_, n.toNat, rfl, Nat.zero_le _, .inl rfl⟩
  obtain ⟨hw', hle⟩ := (hw.alloc (.cells (madeCells z.cells (n.toNat * i.size)) e)).addOwn (k := k) (sz := sz) (xs := []) (u := .slice (some ⟨w.heap.size, 0, none⟩) 0 n.toNat) hk ⟨h1, by simp⟩
    hrep (.inr ⟨w.heap.size, 0, 0, n.toNat, _, e, rfl, heap_alloc_new w _, Nat.zero_le _, by rw [size_madeCells, hsz, Nat.zero_add]; exact Nat.le_refl _, fun o _ => hw.rep.new_none (Nat.le_refl _) o, hw.rep.gw.new (Nat.le_refl _)⟩) (fun b hb => by
      simp only [ownB] at hb
      split at hb
      · simp at hb
      · simp at hb; subst hb
        exact ⟨hw.size, fun i cs hi => Nat.ne_of_lt (hw.rep.obj_lt hi), fun x hx u' hu' hb' => by have := hw.rep.own_lt hx hu' hb'; omega⟩)
  have := hK _ _ _ hw' hle (by simp only [repD]; exact ⟨hrep, by simp⟩)
  unfold Oper.wp execOp
  simp only [ho, e1, e2, Sem.run_bind, hrun, Result.andThen_ok]
  exact this

end

/- FUNCTION VALUES -/
def D.plain : D → Bool
  | .v _ => true
  | _ => false

theorem repL_of {g : Gh} : ∀ {ds : List D} {xs : List V} {us : List Value}, toVs ds = some xs → repDs g ds us → repL g.M xs us
  | [], xs, us, h, hr => by simp [toVs] at h; subst h; simpa [repDs, repL] using hr
  | d :: ds, xs, us, h, hr => by
    simp only [toVs] at h
    split at h
    · rename_i x xs' hx hxs
      simp at h; subst h
      simp only [repDs] at hr
      obtain ⟨u, us', rfl, h2, h3⟩ := hr
      simp only [repL]
      obtain ⟨ws, h4, h5⟩ := toV_rep hx h2
      exact ⟨u, us', ws, rfl, h4, h5, repL_of hxs h3⟩
    · simp at h

theorem repDs_of_L {g : Gh} : ∀ {xs : List V} {us : List Value}, repL g.M xs us → repDs g (xs.map .v) us
  | [], us, h => by simpa [repDs, repL] using h
  | x :: xs, us, h => by
    simp only [repL] at h
    obtain ⟨u, us', ws, rfl, h1, h2, h3⟩ := h
    simp only [List.map_cons, repDs, repD]
    exact ⟨u, us', rfl, ⟨ws, h1, h2⟩, repDs_of_L h3⟩

section
variable {P : Program} {o : Oper} {σ : St} {d : D}

/-- a closure over data -/
theorem op_makeFunc {f : FuncId} {first captured : Array Operand} (ho : o.op = .makeFunc (.func f) first captured) {fs cs : List D} {xs ys : List V} (hl : fs.length = first.size) (hf : toVs fs = some xs) (hc : toVs cs = some ys) :
    OpOK P o (fs ++ cs) σ (.v (.fn f xs ys)) σ := by
  refine opOK_run fun E g ρ w hw hds => ?_
  simp only [ho, Op.operands, Array.toList_append, List.map_append] at hds
  have h1 := repDs_take hds fs.length
  have h2 := repDs_drop hds fs.length
  have hl' : (first.toList.map ρ).length = fs.length := by simp [hl]
  rw [List.take_left, List.take_left' hl'] at h1
  rw [List.drop_left, List.drop_left' hl'] at h2
  refine ⟨.func (.func f) (first.map ρ) (captured.map ρ), ?_, ?_⟩
  · simp [execOp, ho, Instr.makeFunc]
  · simp only [repD, repV_fn]
    exact ⟨first.toList.map ρ, captured.toList.map ρ, by simp [← Array.toList_map], repL_of hf h1, repL_of hc h2⟩
end

end Go.Dv

namespace Go.Dv

/-- an object's cells are written, and new memory is known -/
theorem WI.setObjG {E : Ent} {g : Gh} {σ : St} {w w' : World} (hw : WI E g σ w) {M' : Mem} (hle : g.M.le M') {q : Nat} {cs : List D} {oc : Option (List D)} (hq : σ.H[q]? = some (some cs))
    (hb : ∀ cs', oc = some cs' → ∃ us rest e, w'.heap[g.β q]? = some (.cells (us ++ rest).toArray e (0, 0)) ∧ repDs { g with M := M' } cs' us ∧ (∀ c ∈ cs', c.one = true) ∧ (∀ o, M' (g.β q) o = none) ∧ (us ++ rest).length = g.κ q)
    (keep : ∀ b, b < w.heap.size → b ≠ g.β q → w'.heap[b]? = w.heap[b]? ∧ ∀ o, M' b o = g.M b o) (mem : ∀ b o v, M' b o = some v → w'.cell? ⟨b, o, none⟩ = some v)
    (size : w.heap.size ≤ w'.heap.size) (os : w'.os = w.os) (tape : w'.tape = w.tape) (output : w'.output = w.output) (drawn : drwLe w.drawn w'.drawn := by first | exact drwLe.refl _ | exact drwLe.succ _ | assumption) :
    WI E { g with M := M' } ⟨σ.H.set q oc, σ.own⟩ w' := by
  have hlg : g.le { g with M := M' } := ⟨hle, Nat.le_refl _, fun _ _ => rfl, fun _ _ _ h => h, fun _ _ => rfl⟩
  have split : ∀ (i : Nat) (cs1 : List D), (σ.H.set q oc)[i]? = some (some cs1) → (i = q ∧ oc = some cs1) ∨ (i ≠ q ∧ σ.H[i]? = some (some cs1)) := by
    intro i cs1 hi
    rw [List.getElem?_set] at hi
    split at hi
    · rename_i e; subst e
      split at hi
      · simp at hi; exact .inl ⟨rfl, hi⟩
      · simp at hi
    · rename_i e; exact .inr ⟨fun h => e h.symm, hi⟩
  have live : ∀ (i : Nat) (cs1 : List D), (σ.H.set q oc)[i]? = some (some cs1) → ∃ cs2, σ.H[i]? = some (some cs2) := by
    intro i cs1 hi
    rcases split i cs1 hi with ⟨rfl, _⟩ | ⟨_, h⟩
    · exact ⟨cs, hq⟩
    · exact ⟨_, h⟩
  refine hw.update (fun b => b = g.β q) (fun b e => by subst e; exact hw.objs q cs hq) (fun b hb hne => keep b hb hne) hle (Nat.le_refl _) (fun _ _ => rfl) (fun _ _ => rfl) size os tape output ?_ ?_ hw.owns
  · refine ⟨by simp [hw.rep.n], mem, fun i cs1 hi => ?_, fun i j c1 c2 hi hj hij => ?_, fun k sz xs hx => ?_, hw.rep.tags, hw.rep.sep, fun x hx u hu b hb' i cs1 hi => ?_, hw.rep.fresh, hw.rep.gl.mono hle, hw.rep.gw.keepG fun p hp hlt => (keep p.1 hlt (hw.rep.obj_ng hq p hp)).1⟩
    · rcases split i cs1 hi with ⟨rfl, e⟩ | ⟨hne, h⟩
      · exact hb cs1 e
      · obtain ⟨us', rest', e', h2, h3, h4, h5, h6⟩ := hw.rep.obj i cs1 h
        obtain ⟨k1, k2⟩ := keep _ (heap_lt h2) (fun e => hne (hw.rep.inj i q _ _ h hq e))
        exact ⟨us', rest', e', k1.trans h2, repDs.mono hlg _ _ h3, h4, fun o => (k2 o).trans (h5 o), h6⟩
    · obtain ⟨c3, h3⟩ := live i c1 hi
      obtain ⟨c4, h4⟩ := live j c2 hj
      exact hw.rep.inj i j _ _ h3 h4 hij
    · obtain ⟨h0, u, hu, h3, h4, h5⟩ := hw.rep.own k sz xs hx
      refine ⟨h0, u, hu, h3.mono hle, h4.kept fun b hb' => keep b (hw.rep.own_lt hx hu hb') ?_, h5⟩
      exact fun e => hw.rep.ownObj _ hx u hu b hb' q cs hq e.symm
    · obtain ⟨c3, h3⟩ := live i cs1 hi
      exact hw.rep.ownObj x hx u hu b hb' i c3 h3
  · intro i cs1 hi
    obtain ⟨c3, h3⟩ := live i cs1 hi
    exact hw.objs i c3 h3

mutual
/-- data alone: no pointer to an object, no tag -/
def D.pl : D → Bool
  | .v _ => true
  | .raw _ => true
  | .rv .. => true
  | .tup ds => D.pls ds
  | .err => true
  | .undef => true
  | _ => false
def D.pls : List D → Bool
  | [] => true
  | d :: ds => d.pl && D.pls ds
end

mutual
theorem repD_pl {g g' : Gh} (hM : g'.M = g.M) : ∀ {d : D} {u : Value}, d.pl = true → repD g d u → repD g' d u
  | .v x, u, _, h => by simp only [repD] at h ⊢; rw [hM]; exact h
  | .tup ds, u, hp, h => by
    simp only [repD] at h ⊢
    obtain ⟨us, e, h1⟩ := h
    exact ⟨us, e, repDs_pl hM (by simpa [D.pl] using hp) h1⟩
  | .undef, u, _, _ => by simp only [repD]
  | .raw x, u, _, h => by simpa only [repD] using h
  | .err, u, _, h => by simpa only [repD] using h
  | .rv x u0, u, _, h => by simp only [repD] at h ⊢; rw [hM]; exact h
  | .acc .., _, hp, _ => by simp [D.pl] at hp
  | .ptr .., _, hp, _ => by simp [D.pl] at hp
  | .arr .., _, hp, _ => by simp [D.pl] at hp
  | .dagg .., _, hp, _ => by simp [D.pl] at hp
  | .dfn .., _, hp, _ => by simp [D.pl] at hp
theorem repDs_pl {g g' : Gh} (hM : g'.M = g.M) : ∀ {ds : List D} {us : List Value}, D.pls ds = true → repDs g ds us → repDs g' ds us
  | [], us, _, h => by simpa [repDs] using h
  | d :: ds, us, hp, h => by
    simp only [D.pls, Bool.and_eq_true] at hp
    simp only [repDs] at h ⊢
    obtain ⟨u, us', e, h1, h2⟩ := h
    exact ⟨u, us', e, repD_pl hM hp.1 h1, repDs_pl hM hp.2 h2⟩
end

theorem pls_map (xs : List V) : D.pls (xs.map .v) = true := by induction xs <;> simp_all [D.pls, D.pl]
theorem pls_append : ∀ (a b : List D), D.pls (a ++ b) = (D.pls a && D.pls b)
  | [], b => by simp [D.pls]
  | d :: a, b => by simp [D.pls, pls_append a b, Bool.and_assoc]

section
variable {P : Program} {o : Oper} {σ : St} {d : D}

/-- from the operation to the call -/
theorem wp_call {_E : Ent} {_g : Gh} {a : Act} {w : World} {K : Act → World → Prop} {Q : Exit → Act → World → Prop} {c : Call} {fo : Operand} (ho : o.op = .call c) (hc : c.callee = .value fo) {f : FuncId} (hcall : Callable P f) {us vs ws : List Value}
    (hf : a.eval fo = .func (.func f) us.toArray vs.toArray) (hargs : c.args.toList.map a.eval = ws)
    (h : Calls P f (us ++ ws ++ vs).toArray w fun e w' => ∃ u, e = .returned u ∧ K (a.put o.dst u) w') : o.wp P a w K Q := by
  obtain ⟨fn, h1, h2, h3⟩ := hcall
  have hargs' : c.args.map a.eval = ws.toArray := by apply Array.ext'; simpa using hargs
  unfold Oper.wp execOp
  simp only [ho, resolve, hc, hf, hargs', Deferred.ofValue, Sem.run_bind, Sem.run_pure, Result.andThen_ok, invoke, callFunc, run_program, h1, h2, h3, Bool.false_eq_true, if_false]
  have e : us.toArray ++ ws.toArray ++ vs.toArray = (us ++ ws ++ vs).toArray := by simp
  rw [e]
  refine Calls.mono h fun e w' he => ?_
  obtain ⟨u, rfl, hk⟩ := he
  exact hk

/-- the function value and the arguments of a call -/
theorem call_parts {g : Gh} {a : Act} {c : Call} {fo : Operand} (ho : o.op = .call c) (hc : c.callee = .value fo) {f : FuncId} {fs cs : List V} {ds : List D} (h : repDs g (.v (.fn f fs cs) :: ds) (o.op.operands.toList.map a.eval)) :
    ∃ us vs ws, a.eval fo = .func (.func f) us.toArray vs.toArray ∧ c.args.toList.map a.eval = ws ∧ repDs g (fs.map .v) us ∧ repDs g (cs.map .v) vs ∧ repDs g ds ws := by
  simp only [ho, Op.operands, Call.operands, hc] at h
  have h' : repDs g (.v (.fn f fs cs) :: ds) (a.eval fo :: c.args.toList.map a.eval) := by simpa using h
  simp only [repDs] at h'
  obtain ⟨u, us', e, h1, h2⟩ := h'
  simp only [List.cons.injEq] at e
  obtain ⟨e1, e2⟩ := e
  simp only [repD, repV_fn] at h1
  obtain ⟨us, vs, e3, h3, h4⟩ := h1
  exact ⟨us, vs, us', e1.trans e3, e2, repDs_of_L h3, repDs_of_L h4, h2⟩

theorem WRep.empty {g : Gh} {w : World} (h : WRep g σ w) : WRep { M := g.M, β := g.β, n := 0, ι := fun _ _ => none, κ := g.κ } ⟨[], []⟩ w where
  n := rfl
  mem := h.mem
  gl := h.gl
  gw := h.gw
  obj := fun i cs hi => by simp at hi
  inj := fun i j cs ds hi => by simp at hi
  own := fun k sz xs hx => by simp at hx
  tags := by simp
  sep := fun x hx => by simp at hx
  ownObj := fun x hx => by simp at hx
  fresh := fun _ _ _ => rfl

theorem not_priv {g : Gh} {w : World} {b : Nat} : ¬ Ent.priv ⟨g, w, ⟨[], []⟩⟩ b := by
  rintro (⟨i, cs, h, _⟩ | ⟨x, h, _⟩)
  · simp at h
  · simp at h

/-- back from a call that was handed no object -/
theorem WI.back0 {E : Ent} {g gc gc' : Gh} {w w' : World} {σc' : St} (hw : WI E g σ w) (hM : gc.M = g.M) (h : WI ⟨gc, w, ⟨[], []⟩⟩ gc' σc' w') : WI E { g with M := gc'.M } σ w' ∧ g.le { g with M := gc'.M } := by
  have hle : g.M.le gc'.M := by rw [← hM]; exact h.M
  refine ⟨hw.grow hle (fun b hb => ?_) h.rep.mem h.size h.os h.tape h.output (drawn := h.drawn), ⟨hle, Nat.le_refl _, fun _ _ => rfl, fun _ _ _ h => h, fun _ _ => rfl⟩⟩
  obtain ⟨h1, h2⟩ := h.keep b hb not_priv
  exact ⟨h1, fun o => by rw [h2 o]; simp only [hM]⟩

/-- a call of a function of data -/
theorem op_call0 {c : Call} {fo : Operand} (ho : o.op = .call c) (hc : c.callee = .value fo) {f : FuncId} {fs cs : List V} {ds : List D} (hp : D.pls ds = true) (hd : d.pl = true)
    (hspec : FSpec P f (fs.map .v ++ ds ++ cs.map .v) ⟨[], []⟩ d ⟨[], []⟩) : OpOK P o (.v (.fn f fs cs) :: ds) σ d σ := by
  intro E g a w K Q hw hds hK
  obtain ⟨us, vs, ws, hf, hargs, h1, h2, h3⟩ := call_parts ho hc hds
  refine wp_call (_E := E) (_g := g) ho hc hspec.1 hf hargs ?_
  have hargs' : repDs { M := g.M, β := g.β, n := 0, ι := fun _ _ => none, κ := g.κ } (fs.map .v ++ ds ++ cs.map .v) (us ++ ws ++ vs) :=
    repDs_pl (by rfl) (by simp [pls_append, pls_map, hp]) (repDs_append (repDs_append h1 h3) h2)
  refine Calls.mono (hspec.2 _ w _ hw.rep.empty hargs') ?_
  rintro e w' ⟨u, g', rfl, hw', hr⟩
  obtain ⟨h4, h5⟩ := hw.back0 (by rfl) hw'
  exact ⟨u, rfl, hK _ _ _ h4 h5 (repD_pl (by rfl) hd hr)⟩

/-- the same; the result is a list that the caller may append to -/
theorem op_call0_own {c : Call} {fo : Operand} (ho : o.op = .call c) (hc : c.callee = .value fo) {f : FuncId} {fs cs : List V} {ds : List D} (hp : D.pls ds = true) {k' sz : Nat} {xs : List V} (k : Nat) (hk : ∀ x ∈ σ.own, x.1 ≠ k)
    (hspec : FSpec P f (fs.map .v ++ ds ++ cs.map .v) ⟨[], []⟩ (.acc k' xs) ⟨[], [(k', sz, xs)]⟩) : OpOK P o (.v (.fn f fs cs) :: ds) σ (.acc k xs) ⟨σ.H, (k, sz, xs) :: σ.own⟩ := by
  intro E g a w K Q hw hds hK
  obtain ⟨us, vs, ws, hf, hargs, h1, h2, h3⟩ := call_parts ho hc hds
  refine wp_call (_E := E) (_g := g) ho hc hspec.1 hf hargs ?_
  have hargs' : repDs { M := g.M, β := g.β, n := 0, ι := fun _ _ => none, κ := g.κ } (fs.map .v ++ ds ++ cs.map .v) (us ++ ws ++ vs) :=
    repDs_pl (by rfl) (by simp [pls_append, pls_map, hp]) (repDs_append (repDs_append h1 h3) h2)
  refine Calls.mono (hspec.2 _ w _ hw.rep.empty hargs') ?_
  rintro e w' ⟨u, g', rfl, hw', hr⟩
  obtain ⟨h4, h5⟩ := hw.back0 (by rfl) hw'
  simp only [repD] at hr
  obtain ⟨hsz, u', hu', hr', hp', _⟩ := hw'.rep.own k' sz xs (by simp)
  obtain rfl : u = u' := by rw [hr.2] at hu'; simpa using hu'
  obtain ⟨h6, h7⟩ := h4.addOwn (k := k) (sz := sz) (xs := xs) (u := u) hk hsz hr' hp' (fun b hb => by
    rcases hw'.owns (k', sz, xs) (by simp) u hr.2 b hb with h | h
    · refine ⟨Nat.le_trans hw.size h, fun i cs hi => ?_, fun x hx v hv hvb => ?_⟩
      · have := hw.rep.obj_lt hi; simp only at h ⊢; omega
      · have := hw.rep.own_lt hx hv hvb; simp only at h; omega
    · exact absurd h not_priv)
  exact ⟨u, rfl, hK _ _ _ h6 (Gh.le_trans h5 h7) (by simp only [repD]; exact ⟨hr', by simp⟩)⟩

/-- arguments for a callee that knows one object, as number 0 -/
inductive Args1 (q : Nat) : List D → List D → Prop
  | nil : Args1 q [] []
  | pl {d : D} {ds dc : List D} (hp : d.pl = true) (h : Args1 q ds dc) : Args1 q (d :: ds) (d :: dc)
  | ptr {off : Nat} {ds dc : List D} (h : Args1 q ds dc) : Args1 q (.ptr q off :: ds) (.ptr 0 off :: dc)
  | arr {off len : Nat} {ds dc : List D} (h : Args1 q ds dc) : Args1 q (.arr q off len :: ds) (.arr 0 off len :: dc)

theorem Args1.rep {q : Nat} {g gc : Gh} (hM : gc.M = g.M) (hβ : gc.β 0 = g.β q) (hn : 0 < gc.n) : ∀ {ds dc : List D}, Args1 q ds dc → ∀ {us : List Value}, repDs g ds us → repDs gc dc us
  | _, _, .nil, us, h => by simpa [repDs] using h
  | _, _, .pl hp h', us, h => by
    simp only [repDs] at h ⊢
    obtain ⟨u, us', e, h1, h2⟩ := h
    exact ⟨u, us', e, repD_pl hM hp h1, Args1.rep hM hβ hn h' h2⟩
  | _, _, .ptr h', us, h => by
    simp only [repDs] at h ⊢
    obtain ⟨u, us', e, h1, h2⟩ := h
    refine ⟨u, us', e, ?_, Args1.rep hM hβ hn h' h2⟩
    simp only [repD] at h1 ⊢
    exact ⟨hn, by rw [hβ]; exact h1.2⟩
  | _, _, .arr h', us, h => by
    simp only [repDs] at h ⊢
    obtain ⟨u, us', e, h1, h2⟩ := h
    refine ⟨u, us', e, ?_, Args1.rep hM hβ hn h' h2⟩
    simp only [repD] at h1 ⊢
    exact ⟨hn, by rw [hβ]; exact h1.2⟩

theorem WRep.one {g : Gh} {w : World} (h : WRep g σ w) {q : Nat} {cs : List D} (hq : σ.H[q]? = some (some cs)) (hp : D.pls cs = true) : WRep { M := g.M, β := fun _ => g.β q, n := 1, ι := fun _ _ => none, κ := fun _ => g.κ q } ⟨[some cs], []⟩ w where
  n := rfl
  mem := h.mem
  gl := h.gl
  gw := h.gw
  obj := fun i cs' hi => by
    cases i with
    | zero =>
      simp at hi; subst hi
      obtain ⟨us, rest, e, hb, hr, h1, hM, hκ⟩ := h.obj q cs hq
      exact ⟨us, rest, e, hb, repDs_pl (by rfl) hp hr, h1, hM, hκ⟩
    | succ i => simp at hi
  inj := fun i j cs1 cs2 hi hj _ => by
    cases i with
    | zero =>
      cases j with
      | zero => rfl
      | succ j => simp at hj
    | succ i => simp at hi
  own := fun k sz xs hx => by simp at hx
  tags := by simp
  sep := fun x hx => by simp at hx
  ownObj := fun x hx => by simp at hx
  fresh := fun _ _ _ => rfl

theorem priv_one {M : Mem} {b0 : Nat} {w : World} {b : Nat} {ι : Nat → Nat → Option Value} {κ : Nat → Nat} {cs : List D} (h : Ent.priv ⟨{ M, β := fun _ => b0, n := 1, ι, κ }, w, ⟨[some cs], []⟩⟩ b) : b = b0 := by
  rcases h with ⟨i, cs', hi, e⟩ | ⟨x, hx, _⟩
  · exact e
  · simp at hx

/-- back from a call that was handed one object -/
theorem WI.back1 {E : Ent} {g g' : Gh} {w w' : World} {q : Nat} {cs cs' : List D} {own' : List (Nat × Nat × List V)} (hw : WI E g σ w) (hq : σ.H[q]? = some (some cs)) (hp' : D.pls cs' = true)
    (h : WI ⟨{ M := g.M, β := fun _ => g.β q, n := 1, ι := fun _ _ => none, κ := fun _ => g.κ q }, w, ⟨[some cs], []⟩⟩ g' ⟨[some cs'], own'⟩ w') : WI E { g with M := g'.M } ⟨σ.H.set q (some cs'), σ.own⟩ w' ∧ g.le { g with M := g'.M } := by
  refine ⟨hw.setObjG h.M hq (fun c hc => ?_) (fun b hb hne => ?_) h.rep.mem h.size h.os h.tape h.output (drawn := h.drawn), ⟨h.M, Nat.le_refl _, fun _ _ => rfl, fun _ _ _ h => h, fun _ _ => rfl⟩⟩
  · simp at hc; subst hc
    obtain ⟨us, rest, e, hb, hr, h1, hM, hκ⟩ := h.rep.obj 0 cs' (by simp)
    have hβ : g'.β 0 = g.β q := h.βE 0 (by simp)
    have hκ' : g'.κ 0 = g.κ q := h.κE 0 (by simp)
    rw [hβ] at hb hM
    exact ⟨us, rest, e, hb, repDs_pl (by rfl) hp' hr, h1, hM, hκ.trans hκ'⟩
  · exact h.keep b hb (fun hpr => hne (priv_one hpr))

theorem op_call1 {c : Call} {fo : Operand} (ho : o.op = .call c) (hc : c.callee = .value fo) {f : FuncId} {fs cs : List V} {ds dc : List D} {q : Nat} {os os' : List D} (hq : σ.H[q]? = some (some os)) (hos : D.pls os = true) (hos' : D.pls os' = true) (ha : Args1 q ds dc) (hd : d.pl = true)
    (hspec : FSpec P f (fs.map .v ++ dc ++ cs.map .v) ⟨[some os], []⟩ d ⟨[some os'], []⟩) : OpOK P o (.v (.fn f fs cs) :: ds) σ d ⟨σ.H.set q (some os'), σ.own⟩ := by
  intro E g a w K Q hw hds hK
  obtain ⟨us, vs, ws, hf, hargs, h1, h2, h3⟩ := call_parts ho hc hds
  refine wp_call (_E := E) (_g := g) ho hc hspec.1 hf hargs ?_
  have hargs' : repDs { M := g.M, β := fun _ => g.β q, n := 1, ι := fun _ _ => none, κ := fun _ => g.κ q } (fs.map .v ++ dc ++ cs.map .v) (us ++ ws ++ vs) :=
    repDs_append (repDs_append (repDs_pl (by rfl) (pls_map fs) h1) (Args1.rep (q := q) (g := g) (by rfl) (by rfl) (by simp) ha h3)) (repDs_pl (by rfl) (pls_map cs) h2)
  refine Calls.mono (hspec.2 _ w _ (hw.rep.one hq hos) hargs') ?_
  rintro e w' ⟨u, g', rfl, hw', hr⟩
  obtain ⟨h4, h5⟩ := hw.back1 hq hos' hw'
  exact ⟨u, rfl, hK _ _ _ h4 h5 (repD_pl (by rfl) hd hr)⟩

theorem op_call1_own {c : Call} {fo : Operand} (ho : o.op = .call c) (hc : c.callee = .value fo) {f : FuncId} {fs cs : List V} {ds dc : List D} {q : Nat} {os os' : List D} (hq : σ.H[q]? = some (some os)) (hos : D.pls os = true) (hos' : D.pls os' = true) (ha : Args1 q ds dc)
    {k' sz : Nat} {xs : List V} (k : Nat) (hk : ∀ x ∈ σ.own, x.1 ≠ k) (hspec : FSpec P f (fs.map .v ++ dc ++ cs.map .v) ⟨[some os], []⟩ (.acc k' xs) ⟨[some os'], [(k', sz, xs)]⟩) :
    OpOK P o (.v (.fn f fs cs) :: ds) σ (.acc k xs) ⟨σ.H.set q (some os'), (k, sz, xs) :: σ.own⟩ := by
  intro E g a w K Q hw hds hK
  obtain ⟨us, vs, ws, hf, hargs, h1, h2, h3⟩ := call_parts ho hc hds
  refine wp_call (_E := E) (_g := g) ho hc hspec.1 hf hargs ?_
  have hargs' : repDs { M := g.M, β := fun _ => g.β q, n := 1, ι := fun _ _ => none, κ := fun _ => g.κ q } (fs.map .v ++ dc ++ cs.map .v) (us ++ ws ++ vs) :=
    repDs_append (repDs_append (repDs_pl (by rfl) (pls_map fs) h1) (Args1.rep (q := q) (g := g) (by rfl) (by rfl) (by simp) ha h3)) (repDs_pl (by rfl) (pls_map cs) h2)
  refine Calls.mono (hspec.2 _ w _ (hw.rep.one hq hos) hargs') ?_
  rintro e w' ⟨u, g', rfl, hw', hr⟩
  obtain ⟨h4, h5⟩ := hw.back1 hq hos' hw'
  simp only [repD] at hr
  obtain ⟨hsz, u', hu', hr', hp', _⟩ := hw'.rep.own k' sz xs (by simp)
  obtain rfl : u = u' := by rw [hr.2] at hu'; simpa using hu'
  have hβ : g'.β 0 = g.β q := hw'.βE 0 (by simp)
  obtain ⟨h6, h7⟩ := h4.addOwn (k := k) (sz := sz) (xs := xs) (u := u) hk hsz hr' hp' (fun b hb => by
    have hne : g'.β 0 ≠ b := hw'.rep.ownObj (k', sz, xs) (by simp) u hr.2 b hb 0 os' (by simp)
    rcases hw'.owns (k', sz, xs) (by simp) u hr.2 b hb with h | h
    · refine ⟨Nat.le_trans hw.size h, fun i cs hi => ?_, fun x hx v hv hvb => ?_⟩
      · obtain ⟨cs2, hc2⟩ : ∃ cs2, σ.H[i]? = some (some cs2) := by
          rw [List.getElem?_set] at hi
          split at hi
          · rename_i e; subst e; exact ⟨_, hq⟩
          · exact ⟨_, hi⟩
        have := hw.rep.obj_lt hc2; simp only at h ⊢; omega
      · have := hw.rep.own_lt hx hv hvb; simp only at h; omega
    · exact absurd (priv_one h) (fun e => hne (by rw [hβ, e])))
  exact ⟨u, rfl, hK _ _ _ h6 (Gh.le_trans h5 h7) (by simp only [repD]; exact ⟨hr', by simp⟩)⟩

end
end Go.Dv

namespace Go.Dv

/-- objects and owned lists that are no longer wanted -/
theorem WI.restrict {E : Ent} {g : Gh} {σ σ' : St} {w : World} (hw : WI E g σ w) {m : Nat} (hH : σ'.H = σ.H.take m) (hm : m ≤ σ.H.length) (hE : E.g.n ≤ m) (hc : ∀ (i : Nat) (cs : List D), σ'.H[i]? = some (some cs) → D.pls cs = true) (hown : σ'.own.Sublist σ.own) :
    WI E { g with n := m, ι := fun k j => if k ∈ σ'.own.map (·.1) then g.ι k j else none } σ' w := by
  have get : ∀ (i : Nat) (cs : List D), σ'.H[i]? = some (some cs) → σ.H[i]? = some (some cs) ∧ i < m := by
    intro i cs hi
    rw [hH, List.getElem?_take] at hi
    split at hi
    · exact ⟨hi, by assumption⟩
    · simp at hi
  have hι : ∀ x ∈ σ'.own, (if x.1 ∈ σ'.own.map (·.1) then g.ι x.1 x.2.2.length else none) = g.ι x.1 x.2.2.length := fun x hx => if_pos (List.mem_map.2 ⟨x, hx, rfl⟩)
  refine { rep := ⟨?_, hw.rep.mem, fun i cs hi => ?_, fun i j cs ds hi hj => hw.rep.inj i j cs ds (get i cs hi).1 (get j ds hj).1, fun k sz xs hx => ?_, ?_, fun x hx y hy hne u u' hu hu' b hb => ?_, fun x hx u hu b hb i cs hi => ?_, fun k hk j => ?_, hw.rep.gl, hw.rep.gw⟩, M := hw.M, size := hw.size, keep := hw.keep, os := hw.os, tape := hw.tape, output := hw.output, nE := hE, βE := fun o ho => hw.βE o ho, κE := fun o ho => hw.κE o ho, objs := fun i cs hi => hw.objs i cs (get i cs hi).1, owns := fun x hx u hu b hb => ?_, drawn := hw.drawn }
  · simp [hH]; omega
  · obtain ⟨us, rest, e, h1, h2, h3, h4⟩ := hw.rep.obj i cs (get i cs hi).1
    exact ⟨us, rest, e, h1, repDs_pl (by rfl) (hc i cs hi) h2, h3, h4⟩
  · obtain ⟨h0, u, hu, h1, h2, h3⟩ := hw.rep.own k sz xs (hown.subset hx)
    refine ⟨h0, u, (hι _ hx).trans hu, h1, h2, fun j hj => ?_⟩
    simp only
    split
    · exact h3 j hj
    · rfl
  · exact (hown.map _).nodup hw.rep.tags
  · exact hw.rep.sep x (hown.subset hx) y (hown.subset hy) hne u u' ((hι x hx).symm.trans hu) ((hι y hy).symm.trans hu') b hb
  · exact hw.rep.ownObj x (hown.subset hx) u ((hι x hx).symm.trans hu) b hb i cs (get i cs hi).1
  · simp only
    rw [if_neg]
    intro h
    obtain ⟨x, hx, e⟩ := List.mem_map.1 h
    exact hk x hx e
  · exact hw.owns x (hown.subset hx) u ((hι x hx).symm.trans hu) b hb

inductive ResL (P : Program) (env : List D) (σ : St) : List ResultVar → List D → Prop
  | nil : ResL P env σ [] []
  | tmp {t : Tmp} {d : D} {rs : List ResultVar} {ds : List D} (h : env[t]? = some d) (hr : ResL P env σ rs ds) : ResL P env σ (.tmp t :: rs) (d :: ds)
  | cellA {a : Tmp} {t : TypeId} {q off n : Nat} {cs : List D} {xs : List V} {rs : List ResultVar} {ds : List D} (h : env[a]? = some (.ptr q off)) (hH : σ.H[q]? = some (some cs)) (ht : AggTy P t n) (hn : off + n ≤ cs.length)
      (hc : toVs ((cs.drop off).take n) = some xs) (hr : ResL P env σ rs ds) : ResL P env σ (.cell a t :: rs) (.v (.agg xs) :: ds)
  | cell1 {a : Tmp} {t : TypeId} {q off : Nat} {cs : List D} {d : D} {rs : List ResultVar} {ds : List D} (h : env[a]? = some (.ptr q off)) (hH : σ.H[q]? = some (some cs)) (ht : OneTy P t) (hc : cs[off]? = some d) (hr : ResL P env σ rs ds) :
      ResL P env σ (.cell a t :: rs) (d :: ds)
  | cellD {a : Tmp} {t : TypeId} {q off n : Nat} {cs : List D} {rs : List ResultVar} {ds : List D} (h : env[a]? = some (.ptr q off)) (hH : σ.H[q]? = some (some cs)) (ht : AggTy P t n) (hn : off + n ≤ cs.length) (hr : ResL P env σ rs ds) :
      ResL P env σ (.cell a t :: rs) (.dagg ((cs.drop off).take n) :: ds)

theorem getD_of {g : Gh} {env : List D} {a : Act} (h : repDs g env a.tmps.toList) {t : Nat} {d : D} (hd : env[t]? = some d) : repD g d (a.tmps.getD t undef) := by
  have := repD_tmp h t
  simpa [evD, List.getD_eq_getElem?_getD, hd, Act.eval] using this

def resF (tmps : Array Value) : ResultVar → Sem Value
  | .tmp t => pure (tmps.getD t undef)
  | .cell a t => do loadVar t (← asAddr (tmps.getD a undef))

theorem results_eq (fn : Func) (tmps : Array Value) : results fn tmps = (do let vs ← fn.results.mapM (resF tmps); pure (if h : vs.size = 1 then vs[0] else .tuple vs)) := by
  unfold results
  rfl

theorem ResL.run {P : Program} {env : List D} {σ : St} {E : Ent} {g : Gh} {a : Act} {w : World} (hf : FI E g σ env a w) : ∀ {rs : List ResultVar} {ds : List D}, ResL P env σ rs ds →
    ∃ us, (rs.mapM (resF a.tmps)).run P w = .ok us w ∧ repDs g ds us
  | _, _, .nil => ⟨[], by simp, by simp [repDs]⟩
  | _, _, .tmp (t := t) h hr => by
    obtain ⟨us, h1, h2⟩ := ResL.run hf hr
    refine ⟨a.tmps.getD t undef :: us, ?_, ?_⟩
    · rw [List.mapM_cons]
      simp only [resF, Sem.run_bind, Sem.run_pure, Result.andThen_ok, h1]
    · simp only [repDs]; exact ⟨_, us, rfl, getD_of hf.env h, h2⟩
  | _, _, .cellA (n := n) (cs := cs) (off := off) (q := q) h hH ht hn hc hr => by
    obtain ⟨us, h1, h2⟩ := ResL.run hf hr
    have hp := getD_of hf.env h
    simp only [repD] at hp
    obtain ⟨us', rest', et, hb, hrr, hone, _⟩ := hf.wi.rep.obj q cs hH
    have hra := toVs_rep hc (repDs_take (repDs_drop hrr off) n) (fun c hc' => hone c (List.mem_of_mem_drop (List.mem_of_mem_take hc')))
    have hl : us'.length = cs.length := repDs_length hrr
    have hld := run_loadCells_list (P := P) w ⟨g.β q, off, none⟩ ((us'.drop off).take n) (fun j v hj => by
      rw [List.getElem?_take] at hj
      split at hj
      · rw [List.getElem?_drop] at hj
        rw [Addr.add_lit]
        simp only [World.cell?, hb, List.getElem?_toArray]; exact get_app hj
      · simp at hj)
    have hlen : ((us'.drop off).take n).length = n := by simp; omega
    rw [hlen] at hld
    refine ⟨.agg ((us'.drop off).take n).toArray :: us, ?_, ?_⟩
    · rw [List.mapM_cons]
      simp only [resF, Sem.run_bind, Sem.run_pure, Result.andThen_ok, hp.2, asAddr, loadVar, run_isAgg ht, run_sizeOf' ht, hld, if_true, h1]
    · simp only [repDs, repD, repV_agg]; exact ⟨_, us, rfl, ⟨_, hra, rfl⟩, h2⟩
  | _, _, .cell1 (cs := cs) (off := off) (q := q) h hH ht hc hr => by
    obtain ⟨us, h1, h2⟩ := ResL.run hf hr
    have hp := getD_of hf.env h
    simp only [repD] at hp
    obtain ⟨us', rest', et, hb, hrr, hone, _⟩ := hf.wi.rep.obj q cs hH
    obtain ⟨u', hu, hd⟩ := repDs_get hrr hc
    have hcell : w.cell? ⟨g.β q, off, none⟩ = some u' := by simp only [World.cell?, hb, List.getElem?_toArray]; exact get_app hu
    refine ⟨u' :: us, ?_, ?_⟩
    · rw [List.mapM_cons]
      simp only [resF, Sem.run_bind, hp.2, asAddr, Sem.run_pure, Result.andThen_ok, loadVar, run_isAgg ht, Bool.false_eq_true, if_false, run_load, hcell, h1]
    · simp only [repDs]; exact ⟨u', us, rfl, hd, h2⟩
  | _, _, .cellD (n := n) (cs := cs) (off := off) (q := q) h hH ht hn hr => by
    obtain ⟨us, h1, h2⟩ := ResL.run hf hr
    have hp := getD_of hf.env h
    simp only [repD] at hp
    obtain ⟨us', rest', et, hb, hrr, hone, _⟩ := hf.wi.rep.obj q cs hH
    have hra := repDs_take (repDs_drop hrr off) n
    have hl : us'.length = cs.length := repDs_length hrr
    have hld := run_loadCells_list (P := P) w ⟨g.β q, off, none⟩ ((us'.drop off).take n) (fun j v hj => by
      rw [List.getElem?_take] at hj
      split at hj
      · rw [List.getElem?_drop] at hj
        rw [Addr.add_lit]
        simp only [World.cell?, hb, List.getElem?_toArray]; exact get_app hj
      · simp at hj)
    have hlen : ((us'.drop off).take n).length = n := by simp; omega
    rw [hlen] at hld
    refine ⟨.agg ((us'.drop off).take n).toArray :: us, ?_, ?_⟩
    · rw [List.mapM_cons]
      simp only [resF, Sem.run_bind, Sem.run_pure, Result.andThen_ok, hp.2, asAddr, loadVar, run_isAgg ht, run_sizeOf' ht, hld, if_true, h1]
    · simp only [repDs, repD]; exact ⟨_, us, rfl, ⟨_, rfl, hra⟩, h2⟩

def okR (m : Nat) (tags : List Nat) : D → Bool
  | .acc k _ => tags.contains k
  | .ptr q _ => decide (q < m)
  | d => d.pl

def packD : List D → D
  | [d] => d
  | ds => .tup ds

theorem res_ok {P : Program} {fn : Func} {env : List D} {σ σ' : St} {ds : List D} {d : D} (hr : ResL P env σ fn.results.toList ds) (hd : d = packD ds) (m : Nat) (hH : σ'.H = σ.H.take m) (hm : m ≤ σ.H.length) (hc : ∀ (i : Nat) (cs : List D), σ'.H[i]? = some (some cs) → D.pls cs = true)
    (hown : σ'.own.Sublist σ.own) (hok : okR m (σ'.own.map (·.1)) d = true) : ResOK P fn env σ d σ' := by
  intro E g a w hf hE
  obtain ⟨us, h1, h2⟩ := hr.run hf
  have hml : σ'.H.length = m := by rw [hH]; simp; omega
  have hrun : (results fn a.tmps).run P w = .ok (if h : us.length = 1 then us[0] else .tuple us.toArray) w := by
    rw [results_eq, Array.mapM_eq_mapM_toList]
    simp only [Sem.run_bind, Sem.run_map, h1, Result.andThen_ok]
    by_cases h : us.length = 1 <;> simp [h]
  refine ⟨_, _, hrun, hf.wi.restrict hH hm (by omega) hc hown, ?_⟩
  have base : repD g d (if h : us.length = 1 then us[0] else .tuple us.toArray) := by
    subst hd
    have hl := repDs_length h2
    unfold packD
    split
    · rename_i d0
      obtain ⟨u, rfl, h3⟩ := repDs_one.1 h2
      simpa using h3
    · rename_i hne
      have : us.length ≠ 1 := by
        rw [hl]
        intro h
        match ds, h with
        | [d0], _ => exact hne d0 rfl
      rw [dif_neg this]
      simp only [repD]
      exact ⟨us, rfl, h2⟩
  generalize (if h : us.length = 1 then us[0] else Value.tuple us.toArray) = u at base
  cases d with
  | acc k xs =>
    simp only [okR, List.contains_iff_mem] at hok
    simp only [repD] at base ⊢
    refine ⟨base.1, ?_⟩
    rw [if_pos hok]; exact base.2
  | ptr q off =>
    simp only [okR, decide_eq_true_eq] at hok
    simp only [repD] at base ⊢
    exact ⟨hok, base.2⟩
  | _ => exact repD_pl (by rfl) (by simpa [okR] using hok) base

/-- less may be said of the result -/
theorem FSpec.un {P : Program} {f : FuncId} {ds : List D} {σ : St} {k sz : Nat} {xs : List V} {H : List (Option (List D))} (hH : ∀ (i : Nat) (cs : List D), H[i]? = some (some cs) → D.pls cs = true) (hn : σ.H.length ≤ H.length)
    (h : FSpec P f ds σ (.acc k xs) ⟨H, [(k, sz, xs)]⟩) : FSpec P f ds σ (.v (.list xs)) ⟨H, []⟩ := by
  refine ⟨h.1, fun g w args hw hargs => ?_⟩
  refine Calls.mono (h.2 g w args hw hargs) ?_
  rintro e w' ⟨u, g', rfl, hw', hr⟩
  refine ⟨u, _, rfl, hw'.restrict (σ' := ⟨H, []⟩) (m := H.length) (by simp) (Nat.le_refl _) (by simp only [hw.n]; exact hn) hH (by simp), ?_⟩
  simp only [repD] at hr ⊢
  exact hr.1

section
variable {C : Ent → Ent → Prop} {P : Program} {R : List D → St → Prop} {k : List KI} {env : List D} {σ : St}

theorem toVs_map : ∀ xs : List V, toVs (xs.map .v) = some xs
  | [] => rfl
  | x :: xs => by simp [toVs, D.toV, toVs_map xs]

end

/-- does a slot value bear the tag? -/
def D.noTag (k : Nat) : D → Bool
  | .acc k' _ => k' != k
  | .v _ | .ptr .. | .arr .. | .gro .. | .raw _ | .rv .. | .err | .undef => true
  | _ => false

theorem repD_noTag {g : Gh} {k : Nat} {d : D} {u : Value} (hn : d.noTag k = true) (h : repD g d u) : repD { g with ι := fun k' m => if k' = k then none else g.ι k' m } d u := by
  cases d with
  | acc k' xs =>
    simp only [D.noTag, bne_iff_ne, ne_eq] at hn
    simp only [repD] at h ⊢
    exact ⟨h.1, by rw [if_neg hn]; exact h.2⟩
  | v x => simpa only [repD] using h
  | ptr q off => simpa only [repD] using h
  | arr q off len => simpa only [repD] using h
  | gro q len sz => simpa only [repD] using h
  | raw x => simpa only [repD] using h
  | rv x u0 => simpa only [repD] using h
  | err => simpa only [repD] using h
  | undef => simp only [repD]
  | dagg cs => simp [D.noTag] at hn
  | dfn f fs cs => simp [D.noTag] at hn
  | tup ds => simp [D.noTag] at hn

theorem repDs_noTag {g : Gh} {k : Nat} : ∀ {ds : List D} {us : List Value}, (∀ d ∈ ds, d.noTag k = true) → repDs g ds us → repDs { g with ι := fun k' m => if k' = k then none else g.ι k' m } ds us
  | [], us, _, h => by simpa [repDs] using h
  | d :: ds, us, hn, h => by
    simp only [repDs] at h ⊢
    obtain ⟨u, us', e, h1, h2⟩ := h
    exact ⟨u, us', e, repD_noTag (hn d (by simp)) h1, repDs_noTag (fun d hd => hn d (by simp [hd])) h2⟩

/-- give up an owned list whose tag stands nowhere -/
theorem run_drop {C : Ent → Ent → Prop} {P : Program} {R : List D → St → Prop} {k : List KI} {env : List D} {σ : St} (tag : Nat) (he : ∀ d ∈ env, d.noTag tag = true) (hH : ∀ (i : Nat) (cs : List D), σ.H[i]? = some (some cs) → ∀ d ∈ cs, d.noTag tag = true)
    (h : RunC C P R k env ⟨σ.H, σ.own.filter (·.1 != tag)⟩) : RunC C P R k env σ := fun E0 E g a w B hC hf hB => by
  refine h E0 E { g with ι := fun k' m => if k' = tag then none else g.ι k' m } a w B hC ⟨?_, repDs_noTag he hf.env, hf.defers⟩ hB
  have hw := hf.wi
  have mem : ∀ x ∈ σ.own.filter (·.1 != tag), x ∈ σ.own ∧ x.1 ≠ tag := fun x hx => by simpa [List.mem_filter] using hx
  have hι : ∀ x ∈ σ.own.filter (·.1 != tag), (if x.1 = tag then none else g.ι x.1 x.2.2.length) = g.ι x.1 x.2.2.length := fun x hx => if_neg (mem x hx).2
  refine { rep := ⟨hw.rep.n, hw.rep.mem, fun i cs hi => ?_, hw.rep.inj, fun k sz xs hx => ?_, ?_, fun x hx y hy hne u u' hu hu' b hb => ?_, fun x hx u hu b hb i cs hi => ?_, fun k hk j => ?_, hw.rep.gl, hw.rep.gw⟩, M := hw.M, size := hw.size, keep := hw.keep, os := hw.os, tape := hw.tape, output := hw.output, nE := hw.nE, βE := hw.βE, κE := hw.κE, objs := hw.objs, owns := fun x hx u hu b hb => ?_, drawn := hw.drawn }
  · obtain ⟨us, rest, e, h1, h2, h3, h4⟩ := hw.rep.obj i cs hi
    exact ⟨us, rest, e, h1, repDs_noTag (hH i cs hi) h2, h3, h4⟩
  · obtain ⟨h0, u, hu, h1, h2, h3⟩ := hw.rep.own k sz xs (mem _ hx).1
    refine ⟨h0, u, (hι _ hx).trans hu, h1, h2, fun j hj => ?_⟩
    simp only
    rw [if_neg (mem _ hx).2]; exact h3 j hj
  · exact (List.filter_sublist.map _).nodup hw.rep.tags
  · exact hw.rep.sep x (mem x hx).1 y (mem y hy).1 hne u u' ((hι x hx).symm.trans hu) ((hι y hy).symm.trans hu') b hb
  · exact hw.rep.ownObj x (mem x hx).1 u ((hι x hx).symm.trans hu) b hb i cs hi
  · simp only
    split
    · rfl
    · rename_i hne
      exact hw.rep.fresh k (fun x hx e => hk x (List.mem_filter.2 ⟨hx, by simp; rw [e]; exact hne⟩) e) j
  · exact hw.owns x (mem x hx).1 u ((hι x hx).symm.trans hu) b hb

end Go.Dv

namespace Go.Dv

/- WHAT STANDS BEFORE WHAT -/
def maskOf (acc : List Nat) (o : Oper) : Nat := o.after.toList.foldl (fun s e => if Region.binds .any e then s ||| 2 ^ e.on ||| acc.getD e.on 0 else s) 0

def befGo : List Nat → List Oper → List Nat
  | acc, [] => acc
  | acc, o :: os => befGo (acc ++ [maskOf acc o]) os

theorem foldl_mask (acc : List Nat) (i : Nat) : ∀ (es : List Edge) (s : Nat), (es.foldl (fun s e => if Region.binds .any e then s ||| 2 ^ e.on ||| acc.getD e.on 0 else s) s).testBit i = true →
    s.testBit i = true ∨ ∃ e ∈ es, Region.binds .any e = true ∧ (i = e.on ∨ (acc.getD e.on 0).testBit i = true)
  | [], s, h => .inl h
  | e :: es, s, h => by
    simp only [List.foldl_cons] at h
    rcases foldl_mask acc i es _ h with h | ⟨e', he, hb, hi⟩
    · split at h
      · rename_i hb
        simp only [Nat.testBit_or, Bool.or_eq_true] at h
        rcases h with (h | h) | h
        · exact .inl h
        · refine .inr ⟨e, by simp, hb, .inl ?_⟩
          rw [Nat.testBit_two_pow] at h
          simpa using (of_decide_eq_true h).symm
        · exact .inr ⟨e, by simp, hb, .inr h⟩
      · exact .inl h
    · exact .inr ⟨e', by simp [he], hb, hi⟩

/-- listed operations have their predecessors listed -/
def DC (ops : Array Oper) (S : Nat → Bool) : Prop := ∀ i o, ops[i]? = some o → S i = true → ∀ e ∈ o.after, Region.binds .any e = true → S e.on = true

def Good (acc : List Nat) (S : Nat → Bool) : Prop := ∀ j m, acc[j]? = some m → S j = true → ∀ i, m.testBit i = true → S i = true

theorem good_step {acc : List Nat} {S : Nat → Bool} {o : Oper} (hg : Good acc S) (hd : ∀ e ∈ o.after, Region.binds .any e = true → S e.on = true) : ∀ i, (maskOf acc o).testBit i = true → S i = true := by
  intro i hi
  rcases foldl_mask acc i _ _ hi with h | ⟨e, he, hb, h⟩
  · simp at h
  · have hs := hd e (by simpa using he) hb
    rcases h with rfl | h
    · exact hs
    · cases hm : acc[e.on]? with
      | none => simp [List.getD_eq_getElem?_getD, hm] at h
      | some m =>
        rw [List.getD_eq_getElem?_getD, hm] at h
        exact hg e.on m hm hs i h

theorem good_go {ops : Array Oper} {S : Nat → Bool} (hdc : DC ops S) : ∀ (os : List Oper) (acc : List Nat), (∀ k, os[k]? = ops[acc.length + k]?) → Good acc S → Good (befGo acc os) S
  | [], acc, _, hg => hg
  | o :: os, acc, ha, hg => by
    simp only [befGo]
    refine good_go hdc os _ (fun k => ?_) ?_
    · have := ha (k + 1)
      simp only [List.length_append, List.length_singleton]
      rw [show acc.length + 1 + k = acc.length + (k + 1) by omega]
      simpa using this
    · intro j m hj hs i hi
      by_cases hlt : j < acc.length
      · rw [List.getElem?_append_left hlt] at hj
        exact hg j m hj hs i hi
      · have hj' : j = acc.length := by
          have := (List.getElem?_eq_some_iff.1 hj).1
          simp at this; omega
        subst hj'
        rw [List.getElem?_append_right (Nat.le_refl _)] at hj
        simp at hj
        subst hj
        have ho : ops[acc.length]? = some o := by have := ha 0; simpa using this.symm
        exact good_step hg (hdc _ o ho hs) i hi

/-- the first part of what is reckoned stays -/
theorem befGo_head : ∀ (os : List Oper) (acc : List Nat), ∃ r, befGo acc os = acc ++ r
  | [], acc => ⟨[], by simp [befGo]⟩
  | o :: os, acc => by
    obtain ⟨r, h⟩ := befGo_head os (acc ++ [maskOf acc o])
    exact ⟨maskOf acc o :: r, by simp [befGo, h]⟩

theorem befGo_at : ∀ (os : List Oper) (acc : List Nat) (k : Nat) (o : Oper), os[k]? = some o → ∃ acc', (befGo acc os)[acc.length + k]? = some (maskOf acc' o) ∧ ∃ r, befGo acc os = acc' ++ r
  | [], acc, k, o, h => by simp at h
  | o0 :: os, acc, k, o, h => by
    simp only [befGo]
    cases k with
    | zero =>
      simp at h; subst h
      obtain ⟨r, hr⟩ := befGo_head os (acc ++ [maskOf acc o0])
      refine ⟨acc, ?_, maskOf acc o0 :: r, by rw [hr]; simp⟩
      rw [hr]; simp
    | succ k =>
      simp at h
      obtain ⟨acc', h1, h2⟩ := befGo_at os (acc ++ [maskOf acc o0]) k o h
      refine ⟨acc', ?_, h2⟩
      simp only [List.length_append, List.length_singleton] at h1
      rw [show acc.length + (k + 1) = acc.length + 1 + k by omega]
      exact h1

/-- an operation that is ready has all that stands before it behind it -/
theorem ready_before {ops : Array Oper} {S : Nat → Bool} (hdc : DC ops S) {j : Nat} {o : Oper} (ho : ops[j]? = some o) (hr : ∀ e ∈ o.after, Region.binds .any e = true → S e.on = true) :
    ∀ i, ((befGo [] ops.toList).getD j 0).testBit i = true → S i = true := by
  intro i hi
  obtain ⟨acc', h1, r, h2⟩ := befGo_at ops.toList [] j o (by simpa using ho)
  simp only [List.length_nil, Nat.zero_add] at h1
  rw [List.getD_eq_getElem?_getD, h1] at hi
  have hg := good_go hdc ops.toList [] (fun k => by simp) (fun j m hj => by simp at hj)
  rw [h2] at hg
  exact good_step (acc := acc') (fun j m hj => hg j m (by rw [List.getElem?_append_left (List.getElem?_eq_some_iff.1 hj).1]; exact hj)) hr i hi

theorem listed_before {ops : Array Oper} {S : Nat → Bool} (hdc : DC ops S) {j : Nat} (hs : S j = true) : ∀ i, ((befGo [] ops.toList).getD j 0).testBit i = true → S i = true := by
  intro i hi
  have hg := good_go hdc ops.toList [] (fun k => by simp) (fun j m hj => by simp at hj)
  cases hm : (befGo [] ops.toList)[j]? with
  | none => simp [List.getD_eq_getElem?_getD, hm] at hi
  | some m =>
    rw [List.getD_eq_getElem?_getD, hm] at hi
    exact hg j m hm hs i hi

/- WHAT IS READ AND WRITTEN -/
def readsOf (ops : Array Oper) (o : Oper) : List Tmp :=
  (o.op.operands.toList.filterMap fun | .tmp t => some t | _ => none) ++ (match o.guard with | some (j, _) => ((ops[j]?).bind (·.dst)).toList | none => [])

def confl (ops : Array Oper) (x y : Oper) : Bool :=
  (match x.dst with | some t => (readsOf ops y).contains t || y.dst == some t | none => false) || (match y.dst with | some t => (readsOf ops x).contains t | none => false)

/-- the static conditions: effs says which operations have an effect -/
def regOK (ops : Array Oper) (effs : List Bool) : Bool :=
  let b := befGo [] ops.toList
  (List.range ops.size).all fun j =>
    match ops[j]? with
    | none => false
    | some oj =>
      oj.after.all (fun e => !Region.binds .any e || decide (e.on < j)) &&
      (List.range j).all fun i =>
        match ops[i]? with
        | none => false
        | some oi => !(confl ops oi oj || (effs.getD i false && effs.getD j false)) || (b.getD j 0).testBit i

theorem regOK_edge {ops : Array Oper} {effs : List Bool} (h : regOK ops effs = true) {j : Nat} {o : Oper} (ho : ops[j]? = some o) : ∀ e ∈ o.after, Region.binds .any e = true → e.on < j := by
  intro e he hb
  have hlt : j < ops.size := (Array.getElem?_eq_some_iff.1 ho).1
  have h1 := List.all_eq_true.1 h j (by simpa using hlt)
  simp only [ho, Bool.and_eq_true] at h1
  have h2 := Array.all_eq_true_iff_forall_mem.1 h1.1 e he
  simpa [hb] using h2

theorem regOK_ord {ops : Array Oper} {effs : List Bool} (h : regOK ops effs = true) {i j : Nat} {oi oj : Oper} (hi : ops[i]? = some oi) (hj : ops[j]? = some oj) (hij : i < j) (hc : confl ops oi oj = true ∨ (effs.getD i false = true ∧ effs.getD j false = true)) :
    ((befGo [] ops.toList).getD j 0).testBit i = true := by
  have hlt : j < ops.size := (Array.getElem?_eq_some_iff.1 hj).1
  have h1 := List.all_eq_true.1 h j (by simpa using hlt)
  simp only [hj, Bool.and_eq_true] at h1
  have h2 := List.all_eq_true.1 h1.2 i (by simpa using hij)
  simp only [hi, Bool.or_eq_true, Bool.not_eq_true'] at h2
  rcases h2 with h2 | h2
  · rcases hc with hc | ⟨hc1, hc2⟩
    · simp [hc] at h2
    · simp only [hc1, hc2, Bool.and_self, Bool.or_true] at h2
      exact absurd h2 (by simp)
  · exact h2

/- THE ENVIRONMENT AFTER A SET OF OPERATIONS -/
abbrev It := Option Tmp × D × Bool

def stepE (S : Nat → Bool) (e : List D) (x : It × Nat) : List D := if S x.2 then putD e x.1.1 x.1.2.1 else e
def envS (items : List It) (S : Nat → Bool) (env0 : List D) : List D := (items.zipIdx 0).foldl (stepE S) env0
def stepC (S : Nat → Bool) (c : Nat) (x : It × Nat) : Nat := if S x.2 && x.1.2.2 then c + 1 else c
def cntS (items : List It) (S : Nat → Bool) : Nat := (items.zipIdx 0).foldl (stepC S) 0

theorem putD_get {e : List D} {t : Option Tmp} {d : D} (s : Nat) : (putD e t d)[s]? = if t = some s then (e[s]?).map (fun _ => d) else e[s]? := by
  cases t with
  | none => simp [putD]
  | some t =>
    simp only [putD, List.getElem?_set, Option.some.injEq]
    by_cases h : t = s
    · subst h
      simp only [if_true]
      by_cases hl : t < e.length <;> simp [hl]
    · simp [h]

theorem foldE_agree {S S' : Nat → Bool} {t : Tmp} : ∀ (l : List (It × Nat)) (e e' : List D), (∀ x ∈ l, x.1.1 = some t → S x.2 = S' x.2) → e[t]? = e'[t]? → (l.foldl (stepE S) e)[t]? = (l.foldl (stepE S') e')[t]?
  | [], e, e', _, h => h
  | x :: l, e, e', hl, h => by
    simp only [List.foldl_cons]
    refine foldE_agree l _ _ (fun y hy => hl y (by simp [hy])) ?_
    by_cases hx : x.1.1 = some t
    · have := hl x (by simp) hx
      unfold stepE
      rw [this]
      split
      · simp [putD_get, hx, h]
      · exact h
    · unfold stepE
      have hp : ∀ e : List D, (putD e x.1.1 x.1.2.1)[t]? = e[t]? := fun e => by rw [putD_get, if_neg hx]
      split <;> split <;> simp [hp, h]

theorem foldC_agree {S S' : Nat → Bool} : ∀ (l : List (It × Nat)) (c : Nat), (∀ x ∈ l, x.1.2.2 = true → S x.2 = S' x.2) → l.foldl (stepC S) c = l.foldl (stepC S') c
  | [], c, _ => rfl
  | x :: l, c, hl => by
    simp only [List.foldl_cons]
    have : stepC S c x = stepC S' c x := by
      unfold stepC
      cases hx : x.1.2.2 with
      | false => simp
      | true => rw [hl x (by simp) hx]
    rw [this]
    exact foldC_agree l _ (fun y hy => hl y (by simp [hy]))

theorem mem_zipIdx {items : List It} {x : It × Nat} (h : x ∈ items.zipIdx 0) : items[x.2]? = some x.1 := by
  have := List.mem_zipIdx h
  simp only [Nat.zero_add, Nat.sub_zero, Nat.zero_le, true_and] at this
  obtain ⟨h1, h2⟩ := this
  rw [List.getElem?_eq_getElem h1, h2]

/-- one operation more, the last writer of its slot -/
theorem envS_add {items : List It} {S : Nat → Bool} {env0 : List D} {j : Nat} {it : It} (hj : items[j]? = some it) (hS : S j = false) (hlast : ∀ (i : Nat) (x : It), items[i]? = some x → S i = true → j < i → it.1 = none ∨ x.1 ≠ it.1) :
    envS items (fun i => S i || i == j) env0 = putD (envS items S env0) it.1 it.2.1 := by
  have hjl : j < items.length := (List.getElem?_eq_some_iff.1 hj).1
  have hsplit : items = items.take j ++ it :: items.drop (j + 1) := by
    have : items.drop j = it :: items.drop (j + 1) := by
      rw [List.drop_eq_getElem_cons hjl]
      congr 1
      exact (List.getElem?_eq_some_iff.1 hj).2
    rw [← this, List.take_append_drop]
  have hlen : (items.take j).length = j := by simp; omega
  have hz : items.zipIdx 0 = (items.take j).zipIdx 0 ++ (it, j) :: (items.drop (j + 1)).zipIdx (j + 1) := by
    conv => lhs; rw [hsplit]
    rw [List.zipIdx_append, List.zipIdx_cons, hlen]
    simp
  unfold envS
  rw [hz, List.foldl_append, List.foldl_append, List.foldl_cons, List.foldl_cons]
  have e1 : (items.take j).zipIdx.foldl (stepE fun i => S i || i == j) env0 = (items.take j).zipIdx.foldl (stepE S) env0 := by
    have : ∀ (l : List (It × Nat)) (e : List D), (∀ x ∈ l, x.2 ≠ j) → l.foldl (stepE fun i => S i || i == j) e = l.foldl (stepE S) e := by
      intro l
      induction l with
      | nil => intro e _; rfl
      | cons x l ih =>
        intro e hl
        simp only [List.foldl_cons]
        have hx := hl x (by simp)
        have : stepE (fun i => S i || i == j) e x = stepE S e x := by unfold stepE; simp [hx]
        rw [this]; exact ih _ (fun y hy => hl y (by simp [hy]))
    refine this _ _ (fun x hx => ?_)
    have := (List.mem_zipIdx hx).2.1
    omega
  rw [e1]
  generalize (items.take j).zipIdx.foldl (stepE S) env0 = E
  have s1 : stepE (fun i => S i || i == j) E (it, j) = putD E it.1 it.2.1 := by simp [stepE]
  have s2 : stepE S E (it, j) = E := by simp [stepE, hS]
  rw [s1, s2]
  -- what follows does not touch the slot
  have later : ∀ (l : List (It × Nat)) (e : List D), (∀ x ∈ l, x.2 ≠ j ∧ (S x.2 = true → it.1 = none ∨ x.1.1 ≠ it.1)) → l.foldl (stepE fun i => S i || i == j) (putD e it.1 it.2.1) = putD (l.foldl (stepE S) e) it.1 it.2.1 := by
    intro l
    induction l with
    | nil => intro e _; rfl
    | cons x l ih =>
      intro e hl
      simp only [List.foldl_cons]
      obtain ⟨hx, hd⟩ := hl x (by simp)
      have hh : stepE (fun i => S i || i == j) (putD e it.1 it.2.1) x = putD (stepE S e x) it.1 it.2.1 := by
        unfold stepE
        have hxj : (x.2 == j) = false := by simpa using hx
        simp only [hxj, Bool.or_false]
        split
        · rename_i hs
          rcases hd hs with h | h
          · rw [h]; simp [putD]
          · cases h1 : it.1 with
            | none => simp [putD]
            | some t =>
              cases h2 : x.1.1 with
              | none => simp [putD]
              | some t' =>
                simp only [putD]
                rw [h1, h2] at h
                have hne : t ≠ t' := fun e => h (by rw [e])
                exact List.set_comm _ _ hne
        · rfl
      rw [hh]
      exact ih _ (fun y hy => hl y (by simp [hy]))
  refine later _ _ (fun x hx => ?_)
  have hm := List.mem_zipIdx hx
  refine ⟨by omega, fun hs => hlast x.2 x.1 ?_ hs (by omega)⟩
  have h3 := hm.2.2
  have h4 := hm.2.1
  have h5 := hm.1
  rw [h3, List.getElem_drop]
  rw [List.getElem?_eq_getElem (by simp at h4; omega)]
  congr 2
  omega

theorem cntS_add {items : List It} {S : Nat → Bool} {j : Nat} {it : It} (hj : items[j]? = some it) (hS : S j = false) : cntS items (fun i => S i || i == j) = cntS items S + (if it.2.2 then 1 else 0) := by
  have hjl : j < items.length := (List.getElem?_eq_some_iff.1 hj).1
  have hsplit : items = items.take j ++ it :: items.drop (j + 1) := by
    have : items.drop j = it :: items.drop (j + 1) := by
      rw [List.drop_eq_getElem_cons hjl]
      congr 1
      exact (List.getElem?_eq_some_iff.1 hj).2
    rw [← this, List.take_append_drop]
  have hlen : (items.take j).length = j := by simp; omega
  have hz : items.zipIdx 0 = (items.take j).zipIdx 0 ++ (it, j) :: (items.drop (j + 1)).zipIdx (j + 1) := by
    conv => lhs; rw [hsplit]
    rw [List.zipIdx_append, List.zipIdx_cons, hlen]
    simp
  have same : ∀ (l : List (It × Nat)) (c : Nat), (∀ x ∈ l, x.2 ≠ j) → l.foldl (stepC fun i => S i || i == j) c = l.foldl (stepC S) c := by
    intro l
    induction l with
    | nil => intro c _; rfl
    | cons x l ih =>
      intro c hl
      simp only [List.foldl_cons]
      have hx := hl x (by simp)
      have : stepC (fun i => S i || i == j) c x = stepC S c x := by unfold stepC; simp [hx]
      rw [this]; exact ih _ (fun y hy => hl y (by simp [hy]))
  have shift : ∀ (l : List (It × Nat)) (c d : Nat), l.foldl (stepC S) (c + d) = l.foldl (stepC S) c + d := by
    intro l
    induction l with
    | nil => intro c d; rfl
    | cons x l ih =>
      intro c d
      simp only [List.foldl_cons]
      have : stepC S (c + d) x = stepC S c x + d := by unfold stepC; split <;> omega
      rw [this, ih]
  unfold cntS
  rw [hz, List.foldl_append, List.foldl_append, List.foldl_cons, List.foldl_cons]
  rw [same (items.take j).zipIdx 0 (fun x hx => by have := (List.mem_zipIdx hx).2.1; omega)]
  generalize (items.take j).zipIdx.foldl (stepC S) 0 = c
  have s1 : stepC (fun i => S i || i == j) c (it, j) = c + (if it.2.2 then 1 else 0) := by
    unfold stepC; simp; split <;> rfl
  have s2 : stepC S c (it, j) = c := by simp [stepC, hS]
  rw [s1, s2, same _ _ (fun x hx => by have := (List.mem_zipIdx hx).1; omega), shift]

end Go.Dv

namespace Go.Dv

/-- has it an effect; if not, the count of effects up to which it is known to hold (none: always) -/
abbrev Ef := Bool × Option Nat

/-- must the operation wait for another one? -/
def needs (ops : Array Oper) (i f : Nat) : Bool := ((befGo [] ops.toList).getD i 0).testBit f

inductive DRun (P : Program) (ops : Array Oper) (sts : Bool → List St) (fr : Nat) : List Oper → List D → Nat → List D → List Ef → List D → Nat → Prop
  | nil {env : List D} {j : Nat} : DRun P ops sts fr [] env j [] [] env j
  | skip {o : Oper} {rest : List Oper} {env env' : List D} {j j' : Nat} {vals : List D} {effs : List Ef} (hne : ops.size - (rest.length + 1) ≠ fr) (hw : wantD env ops o = some false) (h : DRun P ops sts fr rest (putD env o.dst (.tup [])) j vals effs env' j') :
      DRun P ops sts fr (o :: rest) env j (.tup [] :: vals) ((false, none) :: effs) env' j'
  | quiet {o : Oper} {rest : List Oper} {env env' : List D} {j j' : Nat} {vals : List D} {effs : List Ef} {d : D} (hne : ops.size - (rest.length + 1) ≠ fr) (hw : wantD env ops o = some true) (ho : ∀ b, ∀ s ∈ sts b, OpOK P o (evDs env o) s d s) (h : DRun P ops sts fr rest (putD env o.dst d) j vals effs env' j') :
      DRun P ops sts fr (o :: rest) env j (d :: vals) ((false, none) :: effs) env' j'
  | eff {o : Oper} {rest : List Oper} {env env' : List D} {j j' : Nat} {vals : List D} {effs : List Ef} {d : D} (hne : ops.size - (rest.length + 1) ≠ fr) (hw : wantD env ops o = some true) (ho : ∀ b s, (sts b)[j]? = some s → (b = false → needs ops (ops.size - (rest.length + 1)) fr = false) → ∃ s', (sts b)[j + 1]? = some s' ∧ OpOK P o (evDs env o) s d s')
      (h : DRun P ops sts fr rest (putD env o.dst d) (j + 1) vals effs env' j') : DRun P ops sts fr (o :: rest) env j (d :: vals) ((true, none) :: effs) env' j'
  | quietW {o : Oper} {rest : List Oper} {env env' : List D} {j j' : Nat} {vals : List D} {effs : List Ef} {d : D} (lim : Nat) (hne : ops.size - (rest.length + 1) ≠ fr) (hw : wantD env ops o = some true) (ho : ∀ (b : Bool) (c : Nat) (s : St), c ≤ lim → (sts b)[c]? = some s → OpOK P o (evDs env o) s d s) (h : DRun P ops sts fr rest (putD env o.dst d) j vals effs env' j') :
      DRun P ops sts fr (o :: rest) env j (d :: vals) ((false, some lim) :: effs) env' j'
  | free {o : Oper} {rest : List Oper} {env env' : List D} {j j' : Nat} {vals : List D} {effs : List Ef} {d : D} (hf : fr = ops.size - (rest.length + 1)) (hw : wantD env ops o = some true) (ho : ∀ (c : Nat) (s : St), (sts false)[c]? = some s → ∃ s', (sts true)[c]? = some s' ∧ OpOK P o (evDs env o) s d s') (h : DRun P ops sts fr rest (putD env o.dst d) j vals effs env' j') :
      DRun P ops sts fr (o :: rest) env j (d :: vals) ((false, none) :: effs) env' j'

def itemsOf : List Oper → List D → List Ef → List It
  | o :: os, d :: ds, b :: bs => (o.dst, d, b.1) :: itemsOf os ds bs
  | _, _, _ => []

def envA (items : List It) (env0 : List D) : List D := items.foldl (fun e it => putD e it.1 it.2.1) env0
def cntA (items : List It) : Nat := items.foldl (fun c it => if it.2.2 then c + 1 else c) 0

theorem envA_snoc (items : List It) (it : It) (env0 : List D) : envA (items ++ [it]) env0 = putD (envA items env0) it.1 it.2.1 := by simp [envA]
theorem cntA_snoc (items : List It) (it : It) : cntA (items ++ [it]) = cntA items + if it.2.2 then 1 else 0 := by simp [cntA]; split <;> rfl

def Fact (P : Program) (ops : Array Oper) (sts : Bool → List St) (fr : Nat) (items : List It) (lims : List Ef) (env0 : List D) (i : Nat) (o : Oper) : Prop :=
  ∃ d b, items[i]? = some (o.dst, d, b) ∧
    ((wantD (envA (items.take i) env0) ops o = some false ∧ d = .tup [] ∧ b = false ∧ i ≠ fr) ∨
     (wantD (envA (items.take i) env0) ops o = some true ∧ b = false ∧ i ≠ fr ∧ ∀ (b : Bool) (c : Nat) (s : St), (sts b)[c]? = some s → (∀ lim, (lims[i]?).bind (·.2) = some lim → c ≤ lim) → OpOK P o (evDs (envA (items.take i) env0) o) s d s) ∨
     (wantD (envA (items.take i) env0) ops o = some true ∧ b = true ∧ i ≠ fr ∧ ∀ bb s, (sts bb)[cntA (items.take i)]? = some s → (bb = false → needs ops i fr = false) → ∃ s', (sts bb)[cntA (items.take i) + 1]? = some s' ∧ OpOK P o (evDs (envA (items.take i) env0) o) s d s') ∨
     (wantD (envA (items.take i) env0) ops o = some true ∧ b = false ∧ i = fr ∧ ∀ (c : Nat) (s : St), (sts false)[c]? = some s → ∃ s', (sts true)[c]? = some s' ∧ OpOK P o (evDs (envA (items.take i) env0) o) s d s'))

theorem DRun.facts {P : Program} {ops : Array Oper} {sts : Bool → List St} {fr : Nat} {rest : List Oper} {env env' : List D} {j j' : Nat} {vals : List D} {effs : List Ef} (h : DRun P ops sts fr rest env j vals effs env' j') :
    ∀ (pre : List It) (pe : List Ef) (env0 : List D), pe.length = pre.length → pre.length + rest.length = ops.size → env = envA pre env0 → j = cntA pre →
      (∀ k o, rest[k]? = some o → Fact P ops sts fr (pre ++ itemsOf rest vals effs) (pe ++ effs) env0 (pre.length + k) o) ∧ env' = envA (pre ++ itemsOf rest vals effs) env0 ∧ j' = cntA (pre ++ itemsOf rest vals effs) ∧ (itemsOf rest vals effs).length = rest.length ∧ effs.map (·.1) = (itemsOf rest vals effs).map (·.2.2) := by
  induction h with
  | nil => intro pre pe env0 hp hl he hj; simp [itemsOf, he, hj]
  | @skip o rest env env' j j' vals effs hne hw h ih =>
    intro pre pe env0 hp hl he hj
    have hidx : ops.size - (rest.length + 1) = pre.length := by simp at hl; omega
    obtain ⟨f1, f2, f3, f4, f5⟩ := ih (pre ++ [(o.dst, D.tup [], false)]) (pe ++ [((false, none) : Ef)]) env0 (by simp [hp]) (by simp at hl ⊢; omega) (by rw [envA_snoc, he]) (by rw [cntA_snoc, hj]; simp)
    have hap : pre ++ [(o.dst, D.tup [], false)] ++ itemsOf rest vals effs = pre ++ itemsOf (o :: rest) (.tup [] :: vals) (((false, none) : Ef) :: effs) := by simp [itemsOf]
    have hap2 : pe ++ [((false, none) : Ef)] ++ effs = pe ++ ((false, none) : Ef) :: effs := by simp
    rw [hap] at f1 f2 f3
    rw [hap2] at f1
    refine ⟨fun k o' hk => ?_, f2, f3, by simp [itemsOf, f4], by simp only [itemsOf, List.map_cons]; rw [← f5]⟩
    cases k with
    | zero =>
      simp at hk; subst hk
      have hat : (pe ++ ((false, none) : Ef) :: effs)[pre.length + 0]? = some ((false, none) : Ef) := by rw [Nat.add_zero, ← hp]; simp
      rw [hidx] at hne
      refine ⟨.tup [], false, by simp [itemsOf], .inl ⟨?_, rfl, rfl, hne⟩⟩
      simp only [Nat.add_zero, List.take_left, ← he]; exact hw
    | succ k =>
      have := f1 k o' (by simpa using hk)
      simp only [List.length_append, List.length_singleton] at this
      rw [show pre.length + (k + 1) = pre.length + 1 + k by omega]; exact this
  | @quiet o rest env env' j j' vals effs d hne hw ho h ih =>
    intro pre pe env0 hp hl he hj
    have hidx : ops.size - (rest.length + 1) = pre.length := by simp at hl; omega
    obtain ⟨f1, f2, f3, f4, f5⟩ := ih (pre ++ [(o.dst, d, false)]) (pe ++ [((false, none) : Ef)]) env0 (by simp [hp]) (by simp at hl ⊢; omega) (by rw [envA_snoc, he]) (by rw [cntA_snoc, hj]; simp)
    have hap : pre ++ [(o.dst, d, false)] ++ itemsOf rest vals effs = pre ++ itemsOf (o :: rest) (d :: vals) (((false, none) : Ef) :: effs) := by simp [itemsOf]
    have hap2 : pe ++ [((false, none) : Ef)] ++ effs = pe ++ ((false, none) : Ef) :: effs := by simp
    rw [hap] at f1 f2 f3
    rw [hap2] at f1
    refine ⟨fun k o' hk => ?_, f2, f3, by simp [itemsOf, f4], by simp only [itemsOf, List.map_cons]; rw [← f5]⟩
    cases k with
    | zero =>
      simp at hk; subst hk
      have hat : (pe ++ ((false, none) : Ef) :: effs)[pre.length + 0]? = some ((false, none) : Ef) := by rw [Nat.add_zero, ← hp]; simp
      rw [hidx] at hne
      refine ⟨d, false, by simp [itemsOf], .inr (.inl ⟨?_, rfl, hne, ?_⟩)⟩
      · simp only [Nat.add_zero, List.take_left, ← he]; exact hw
      · simp only [Nat.add_zero, List.take_left, ← he]; exact fun b c s hs _ => ho b s (List.mem_of_getElem? hs)
    | succ k =>
      have := f1 k o' (by simpa using hk)
      simp only [List.length_append, List.length_singleton] at this
      rw [show pre.length + (k + 1) = pre.length + 1 + k by omega]; exact this
  | @eff o rest env env' j j' vals effs d hne hw ho h ih =>
    intro pre pe env0 hp hl he hj
    have hidx : ops.size - (rest.length + 1) = pre.length := by simp at hl; omega
    obtain ⟨f1, f2, f3, f4, f5⟩ := ih (pre ++ [(o.dst, d, true)]) (pe ++ [((true, none) : Ef)]) env0 (by simp [hp]) (by simp at hl ⊢; omega) (by rw [envA_snoc, he]) (by rw [cntA_snoc, hj]; simp)
    have hap : pre ++ [(o.dst, d, true)] ++ itemsOf rest vals effs = pre ++ itemsOf (o :: rest) (d :: vals) (((true, none) : Ef) :: effs) := by simp [itemsOf]
    have hap2 : pe ++ [((true, none) : Ef)] ++ effs = pe ++ ((true, none) : Ef) :: effs := by simp
    rw [hap] at f1 f2 f3
    rw [hap2] at f1
    refine ⟨fun k o' hk => ?_, f2, f3, by simp [itemsOf, f4], by simp only [itemsOf, List.map_cons]; rw [← f5]⟩
    cases k with
    | zero =>
      simp at hk; subst hk
      have hat : (pe ++ ((true, none) : Ef) :: effs)[pre.length + 0]? = some ((true, none) : Ef) := by rw [Nat.add_zero, ← hp]; simp
      rw [hidx] at hne ho
      refine ⟨d, true, by simp [itemsOf], .inr (.inr (.inl ⟨?_, rfl, hne, ?_⟩))⟩
      · simp only [Nat.add_zero, List.take_left, ← he]; exact hw
      · simp only [Nat.add_zero, List.take_left, ← hj, ← he]; exact ho
    | succ k =>
      have := f1 k o' (by simpa using hk)
      simp only [List.length_append, List.length_singleton] at this
      rw [show pre.length + (k + 1) = pre.length + 1 + k by omega]; exact this
  | @quietW o rest env env' j j' vals effs d lim hne hw ho h ih =>
    intro pre pe env0 hp hl he hj
    have hidx : ops.size - (rest.length + 1) = pre.length := by simp at hl; omega
    obtain ⟨f1, f2, f3, f4, f5⟩ := ih (pre ++ [(o.dst, d, false)]) (pe ++ [((false, some lim) : Ef)]) env0 (by simp [hp]) (by simp at hl ⊢; omega) (by rw [envA_snoc, he]) (by rw [cntA_snoc, hj]; simp)
    have hap : pre ++ [(o.dst, d, false)] ++ itemsOf rest vals effs = pre ++ itemsOf (o :: rest) (d :: vals) (((false, some lim) : Ef) :: effs) := by simp [itemsOf]
    have hap2 : pe ++ [((false, some lim) : Ef)] ++ effs = pe ++ ((false, some lim) : Ef) :: effs := by simp
    rw [hap] at f1 f2 f3
    rw [hap2] at f1
    refine ⟨fun k o' hk => ?_, f2, f3, by simp [itemsOf, f4], by simp only [itemsOf, List.map_cons]; rw [← f5]⟩
    cases k with
    | zero =>
      simp at hk; subst hk
      have hat : (pe ++ ((false, some lim) : Ef) :: effs)[pre.length + 0]? = some ((false, some lim) : Ef) := by rw [Nat.add_zero, ← hp]; simp
      rw [hidx] at hne
      refine ⟨d, false, by simp [itemsOf], .inr (.inl ⟨?_, rfl, hne, ?_⟩)⟩
      · simp only [Nat.add_zero, List.take_left, ← he]; exact hw
      · rw [hat]
        simp only [Nat.add_zero, List.take_left, ← he]
        exact fun b c s hs hc => ho b c s (hc lim rfl) hs
    | succ k =>
      have := f1 k o' (by simpa using hk)
      simp only [List.length_append, List.length_singleton] at this
      rw [show pre.length + (k + 1) = pre.length + 1 + k by omega]; exact this
  | @free o rest env env' j j' vals effs d hf hw ho h ih =>
    intro pre pe env0 hp hl he hj
    have hidx : ops.size - (rest.length + 1) = pre.length := by simp at hl; omega
    obtain ⟨f1, f2, f3, f4, f5⟩ := ih (pre ++ [(o.dst, d, false)]) (pe ++ [((false, none) : Ef)]) env0 (by simp [hp]) (by simp at hl ⊢; omega) (by rw [envA_snoc, he]) (by rw [cntA_snoc, hj]; simp)
    have hap : pre ++ [(o.dst, d, false)] ++ itemsOf rest vals effs = pre ++ itemsOf (o :: rest) (d :: vals) (((false, none) : Ef) :: effs) := by simp [itemsOf]
    have hap2 : pe ++ [((false, none) : Ef)] ++ effs = pe ++ ((false, none) : Ef) :: effs := by simp
    rw [hap] at f1 f2 f3
    rw [hap2] at f1
    refine ⟨fun k o' hk => ?_, f2, f3, by simp [itemsOf, f4], by simp only [itemsOf, List.map_cons]; rw [← f5]⟩
    cases k with
    | zero =>
      simp at hk; subst hk
      have hat : (pe ++ ((false, none) : Ef) :: effs)[pre.length + 0]? = some ((false, none) : Ef) := by rw [Nat.add_zero, ← hp]; simp
      rw [hidx] at hf
      refine ⟨d, false, by simp [itemsOf], .inr (.inr (.inr ⟨?_, rfl, hf.symm, ?_⟩))⟩
      · simp only [Nat.add_zero, List.take_left, ← he]; exact hw
      · simp only [Nat.add_zero, List.take_left, ← he]; exact ho
    | succ k =>
      have := f1 k o' (by simpa using hk)
      simp only [List.length_append, List.length_singleton] at this
      rw [show pre.length + (k + 1) = pre.length + 1 + k by omega]; exact this

theorem envS_lt (items : List It) (i : Nat) (env0 : List D) : envS items (fun k => decide (k < i)) env0 = envA (items.take i) env0 := by
  have gen : ∀ (l : List It) (s : Nat) (e : List D), (l.zipIdx s).foldl (stepE fun k => decide (k < i)) e = (l.take (i - s)).foldl (fun e it => putD e it.1 it.2.1) e := by
    intro l
    induction l with
    | nil => intro s e; simp
    | cons x l ih =>
      intro s e
      simp only [List.zipIdx_cons, List.foldl_cons]
      rw [ih]
      by_cases h : s < i
      · rw [show i - s = (i - (s + 1)) + 1 by omega, List.take_succ_cons, List.foldl_cons]
        simp [stepE, h]
      · rw [show i - s = 0 by omega, show i - (s + 1) = 0 by omega]
        simp [stepE, h]
  simpa [envS, envA] using gen items 0 env0

theorem cntS_lt (items : List It) (i : Nat) : cntS items (fun k => decide (k < i)) = cntA (items.take i) := by
  have gen : ∀ (l : List It) (s c : Nat), (l.zipIdx s).foldl (stepC fun k => decide (k < i)) c = (l.take (i - s)).foldl (fun c it => if it.2.2 then c + 1 else c) c := by
    intro l
    induction l with
    | nil => intro s e; simp
    | cons x l ih =>
      intro s e
      simp only [List.zipIdx_cons, List.foldl_cons]
      rw [ih]
      by_cases h : s < i
      · rw [show i - s = (i - (s + 1)) + 1 by omega, List.take_succ_cons, List.foldl_cons]
        simp [stepC, h]
      · rw [show i - s = 0 by omega, show i - (s + 1) = 0 by omega]
        simp [stepC, h]
  simpa [cntS, cntA] using gen items 0 0

theorem cntA_count (l : List It) : cntA l = (l.map (·.2.2)).count true := by
  have gen : ∀ (l : List It) (c : Nat), l.foldl (fun c it => if it.2.2 then c + 1 else c) c = c + (l.map (·.2.2)).count true := by
    intro l
    induction l with
    | nil => intro c; simp
    | cons x l ih =>
      intro c
      simp only [List.foldl_cons, List.map_cons]
      rw [ih]
      cases x.2.2 <;> simp <;> omega
  simpa [cntA] using gen l 0
theorem cntS_le {items : List It} {S S' : Nat → Bool} (h : ∀ (k : Nat) (x : It), items[k]? = some x → x.2.2 = true → S k = true → S' k = true) : cntS items S ≤ cntS items S' := by
  have gen : ∀ (l : List (It × Nat)) (c c' : Nat), (∀ x ∈ l, x.1.2.2 = true → S x.2 = true → S' x.2 = true) → c ≤ c' → l.foldl (stepC S) c ≤ l.foldl (stepC S') c' := by
    intro l
    induction l with
    | nil => intro c c' _ hc; exact hc
    | cons x l ih =>
      intro c c' hl hc
      simp only [List.foldl_cons]
      refine ih _ _ (fun y hy => hl y (List.mem_cons_of_mem _ hy)) ?_
      have := hl x List.mem_cons_self
      unfold stepC
      cases hx : x.1.2.2 <;> cases hs : S x.2 <;> cases hs' : S' x.2 <;> simp_all <;> omega
  exact gen _ 0 0 (fun x hx => h x.2 x.1 (mem_zipIdx hx)) (Nat.le_refl _)

/-- what is known to hold up to a count of effects is run before the next effect -/
def winOK (ops : Array Oper) (lims : List Ef) : Bool :=
  (List.range lims.length).all fun i =>
    match (lims[i]?).bind (·.2) with
    | none => true
    | some lim => (List.range lims.length).any fun e => (lims.map (·.1)).getD e false && decide (((lims.map (·.1)).take e).count true = lim) && ((befGo [] ops.toList).getD e 0).testBit i
def drawOK (ops : Array Oper) (lims : List Ef) : Bool := regOK ops (lims.map (·.1)) && winOK ops lims

theorem evDs_congr {ops : Array Oper} {o : Oper} {env env' : List D} (h : ∀ t ∈ readsOf ops o, env[t]? = env'[t]?) : evDs env o = evDs env' o := by
  unfold evDs
  refine List.map_congr_left fun x hx => ?_
  cases x with
  | tmp t =>
    have := h t (by
      unfold readsOf
      exact List.mem_append.2 (.inl (List.mem_filterMap.2 ⟨.tmp t, hx, rfl⟩)))
    simp [evD, List.getD_eq_getElem?_getD, this]
  | _ => rfl

theorem wantD_congr {ops : Array Oper} {o : Oper} {env env' : List D} (h : ∀ t ∈ readsOf ops o, env[t]? = env'[t]?) : wantD env ops o = wantD env' ops o := by
  unfold wantD
  cases hg : o.guard with
  | none => rfl
  | some p =>
    obtain ⟨j, want⟩ := p
    simp only
    cases hj : (ops[j]?).bind (·.dst) with
    | none => rfl
    | some t =>
      have := h t (by unfold readsOf; rw [hg]; simp [hj])
      simp [this]

section
variable {C : Ent → Ent → Prop} {P : Program} {R : List D → St → Prop} {k : List KI} {env : List D} {σ : St}

theorem wpAny_draw {ops : Array Oper} {sts : Bool → List St} {fr : Nat} {items : List It} {effs : List Bool} {lims : List Ef} {env0 : List D} {Q : Exit → Act → World → Prop} {E : Ent} {J : Gh → Prop} (hJ : ∀ g g' : Gh, g.le g' → J g → J g') (hreg : regOK ops effs = true) (hwin : winOK ops lims = true) (hle : effs = lims.map (·.1)) (hlen : items.length = ops.size) (heff : effs = items.map (·.2.2))
    (hfact : ∀ i o, ops[i]? = some o → Fact P ops sts fr items lims env0 i o)
    (hfin : ∀ g a w, J g → (∃ s, (sts (decide (fr < ops.size)))[cntA items]? = some s ∧ FI E g s (envA items env0) a w) → Q .normal a w) :
    ∀ (fuel : Nat) (listed : Array Bool) (a : Act) (w : World) (g : Gh) (s : St), listed.size = ops.size → DC ops (fun i => listed.getD i false) →
      ((List.range ops.size).filter fun i => !listed.getD i false).length = fuel →
      (sts (listed.getD fr false))[cntS items (fun i => listed.getD i false)]? = some s → J g → FI E g s (envS items (fun i => listed.getD i false) env0) a w → wpAny P .any ops Q fuel listed a w := by
  -- nothing is ready: all are listed
  have done_ : ∀ (listed : Array Bool), listed.size = ops.size → Region.ready .any ops listed = [] → ∀ i, i < ops.size → listed.getD i false = true := by
    intro listed hsz hr i
    induction i using Nat.strongRecOn with
    | _ i ih =>
      intro hi
      cases hl : listed.getD i false with
      | true => rfl
      | false =>
        exfalso
        have hmem : i ∈ Region.ready .any ops listed := by
          unfold Region.ready
          rw [List.mem_filter]
          refine ⟨by simpa using hi, ?_⟩
          have ho : ops[i]? = some ops[i] := by simp [hi]
          have hl' : listed.getD i true = false := by
            rw [Array.getD_eq_getD_getElem?] at hl ⊢
            have : listed[i]? = some listed[i] := by simp [hsz, hi]
            rw [this] at hl ⊢; exact hl
          rw [ho]
          simp only [hl', Bool.not_false, Bool.true_and, Option.map_some, Option.getD_some]
          rw [Array.all_eq_true_iff_forall_mem]
          intro e he
          cases hb : Region.binds .any e with
          | false => simp
          | true =>
            have hlt := regOK_edge hreg ho e he hb
            simp [ih e.on hlt (by omega)]
        rw [hr] at hmem
        simp at hmem
  have finish : ∀ (listed : Array Bool) (a : Act) (w : World) (g : Gh) (s : St), listed.size = ops.size → (∀ i, i < ops.size → listed.getD i false = true) → (sts (listed.getD fr false))[cntS items (fun i => listed.getD i false)]? = some s →
      J g → FI E g s (envS items (fun i => listed.getD i false) env0) a w → Q .normal a w := by
    intro listed a w g s hsz hall hs hj hf
    have e1 : envS items (fun i => listed.getD i false) env0 = envA items env0 := by
      have := envS_lt items ops.size env0
      rw [List.take_of_length_le (by omega)] at this
      rw [← this]
      apply List.ext_getElem?
      intro t
      refine foldE_agree _ _ _ (fun x hx _ => ?_) rfl
      have hx2 := (List.getElem?_eq_some_iff.1 (mem_zipIdx hx)).1
      rw [hall x.2 (by omega)]; simp; omega
    have e2 : cntS items (fun i => listed.getD i false) = cntA items := by
      have := cntS_lt items ops.size
      rw [List.take_of_length_le (by omega)] at this
      rw [← this]
      refine foldC_agree _ _ (fun x hx _ => ?_)
      have hx2 := (List.getElem?_eq_some_iff.1 (mem_zipIdx hx)).1
      rw [hall x.2 (by omega)]; simp; omega
    have e3 : listed.getD fr false = decide (fr < ops.size) := by
      by_cases hfr : fr < ops.size
      · rw [hall fr hfr]; simp [hfr]
      · rw [Array.getD_eq_getD_getElem?, Array.getElem?_eq_none (by omega)]; simp [hfr]
    rw [e1] at hf
    rw [e2, e3] at hs
    exact hfin g a w hj ⟨s, hs, hf⟩
  intro fuel
  induction fuel with
  | zero =>
    intro listed a w g s hsz hdc hcount hs hj hf
    have hall : ∀ i, i < ops.size → listed.getD i false = true := by
      intro i hi
      cases hl : listed.getD i false with
      | true => rfl
      | false =>
        have hm : i ∈ (List.range ops.size).filter fun i => !listed.getD i false := List.mem_filter.2 ⟨by simpa using hi, by simp [hl]⟩
        have hnil := List.eq_nil_of_length_eq_zero hcount
        rw [hnil] at hm
        simp at hm
    refine ⟨?_, finish listed a w g s hsz hall hs hj hf⟩
    unfold Region.ready
    rw [List.filter_eq_nil_iff]
    intro i hi
    have hi' : i < ops.size := by simpa using hi
    have := hall i hi'
    have ht : listed.getD i true = true := by
      rw [Array.getD_eq_getD_getElem?] at this ⊢
      have h' : listed[i]? = some listed[i] := by simp [hsz, hi']
      rw [h'] at this ⊢; exact this
    simp [ht]
  | succ fuel ih =>
    intro listed a w g s hsz hdc hcount hs hj hf
    refine ⟨fun hr => finish listed a w g s hsz (done_ listed hsz hr) hs hj hf, fun i hi => ?_⟩
    -- an operation that is ready
    unfold Region.ready at hi
    rw [List.mem_filter] at hi
    obtain ⟨hi1, hi2⟩ := hi
    have hi' : i < ops.size := by simpa using hi1
    have ho : ops[i]? = some ops[i] := by simp [hi']
    generalize hoo : ops[i] = o at ho
    rw [ho] at hi2
    simp only [Bool.and_eq_true, Bool.not_eq_true', Option.map_some, Option.getD_some] at hi2
    obtain ⟨hnl, hall⟩ := hi2
    have hnl' : listed.getD i false = false := by
      rw [Array.getD_eq_getD_getElem?] at hnl ⊢
      have h' : listed[i]? = some listed[i] := by simp [hsz, hi']
      rw [h'] at hnl ⊢; exact hnl
    have hready : ∀ e ∈ o.after, Region.binds .any e = true → listed.getD e.on false = true := by
      intro e he hb
      have := Array.all_eq_true_iff_forall_mem.1 hall e he
      simpa [hb] using this
    have hpre := ready_before hdc ho hready
    have hpost := fun (j : Nat) (hs : listed.getD j false = true) => listed_before (S := fun i => listed.getD i false) hdc hs
    obtain ⟨d, b, hit, hcase⟩ := hfact i o ho
    have hil : i < items.length := by omega
    -- every other operation that shares a slot is ordered with it
    have opAt : ∀ (k : Nat) (x : It), items[k]? = some x → ∃ ok, ops[k]? = some ok ∧ x.1 = ok.dst := by
      intro k x hk
      have hkl : k < ops.size := by have := (List.getElem?_eq_some_iff.1 hk).1; omega
      have hok : ops[k]? = some ops[k] := by simp [hkl]
      obtain ⟨d', b', h1, _⟩ := hfact k _ hok
      rw [hk] at h1
      simp at h1
      exact ⟨_, hok, by rw [h1]⟩
    have lt_listed : ∀ (k : Nat) (ok : Oper), ops[k]? = some ok → k < i → (confl ops ok o = true ∨ (effs.getD k false = true ∧ effs.getD i false = true)) → listed.getD k false = true :=
      fun k ok hk hlt hc => hpre k (regOK_ord hreg hk ho hlt hc)
    have gt_not : ∀ (k : Nat) (ok : Oper), ops[k]? = some ok → i < k → (confl ops o ok = true ∨ (effs.getD i false = true ∧ effs.getD k false = true)) → listed.getD k false = false := by
      intro k ok hk hlt hc
      cases hl : listed.getD k false with
      | false => rfl
      | true =>
        have := hpost k hl i (regOK_ord hreg ho hk hlt hc)
        simp only [hnl'] at this
        exact absurd this (by simp)
    have agree : ∀ t ∈ readsOf ops o, (envS items (fun i => listed.getD i false) env0)[t]? = (envA (items.take i) env0)[t]? := by
      intro t ht
      rw [← envS_lt]
      refine foldE_agree _ _ _ (fun x hx hxt => ?_) rfl
      have hx2 := mem_zipIdx hx
      obtain ⟨ok, hok, hdst⟩ := opAt x.2 x.1 hx2
      rw [hdst] at hxt
      rcases Nat.lt_trichotomy x.2 i with h | h | h
      · rw [lt_listed x.2 ok hok h (.inl (by unfold confl; simp [hxt, ht]))]; simp [h]
      · rw [h, hnl']; simp
      · rw [gt_not x.2 ok hok h (.inl (by unfold confl; simp [hxt, ht]))]; simp; omega
    have hlast : ∀ (k : Nat) (x : It), items[k]? = some x → listed.getD k false = true → i < k → o.dst = none ∨ x.1 ≠ o.dst := by
      intro k x hk hl hlt
      cases hd : o.dst with
      | none => exact .inl rfl
      | some t =>
        refine .inr fun e => ?_
        obtain ⟨ok, hok, hdst⟩ := opAt k x hk
        have := gt_not k ok hok hlt (.inl (by unfold confl; simp [hd, ← hdst, e]))
        rw [this] at hl
        simp at hl
    have hadd := envS_add (S := fun i => listed.getD i false) (env0 := env0) hit hnl' hlast
    have hcadd := cntS_add (S := fun i => listed.getD i false) hit hnl'
    have hS' : (fun k => (listed.setIfInBounds i true).getD k false) = fun k => listed.getD k false || k == i := by
      funext k
      simp only [Array.getD_eq_getD_getElem?, Array.getElem?_setIfInBounds]
      by_cases hk : i = k
      · subst hk; simp [hsz, hi']
      · simp [hk, Ne.symm hk]
    have hcnt' : ((List.range ops.size).filter fun k => !(listed.setIfInBounds i true).getD k false).length = fuel := by
      have e1 : (List.range ops.size).filter (fun k => !(listed.setIfInBounds i true).getD k false) = ((List.range ops.size).filter fun k => !listed.getD k false).filter (fun k => k != i) := by
        rw [List.filter_filter]
        refine List.filter_congr fun k _ => ?_
        have := congrFun hS' k
        rw [this]
        cases listed.getD k false <;> cases hk : (k == i) <;> simp_all
      rw [e1]
      have hnd : ((List.range ops.size).filter fun k => !listed.getD k false).Nodup := List.filter_sublist.nodup List.nodup_range
      have hm : i ∈ (List.range ops.size).filter fun k => !listed.getD k false := List.mem_filter.2 ⟨hi1, by simp [hnl']⟩
      have hf1 := hnd.erase_eq_filter i
      rw [← hf1, List.length_erase_of_mem hm, hcount]; rfl
    have hdc' : DC ops (fun k => (listed.setIfInBounds i true).getD k false) := by
      rw [hS']
      intro k ok hk hsk e he hb
      simp only [Bool.or_eq_true, beq_iff_eq] at hsk ⊢
      rcases hsk with hsk | rfl
      · exact .inl (hdc k ok hk hsk e he hb)
      · rw [ho] at hk; simp at hk; subst hk
        exact .inl (hready e he hb)
    -- the count of effects so far
    have hcb : b = true → cntS items (fun k => listed.getD k false) = cntA (items.take i) := by
      intro hbt
      rw [← cntS_lt]
      have hei : effs.getD i false = true := by rw [heff, List.getD_eq_getElem?_getD, List.getElem?_map, hit]; simp [hbt]
      refine foldC_agree _ _ (fun x hx hxb => ?_)
      have hx2 := mem_zipIdx hx
      obtain ⟨ok, hok, _⟩ := opAt x.2 x.1 hx2
      have hex : effs.getD x.2 false = true := by rw [heff, List.getD_eq_getElem?_getD, List.getElem?_map, hx2]; simp [hxb]
      rcases Nat.lt_trichotomy x.2 i with h | h | h
      · rw [lt_listed x.2 ok hok h (.inr ⟨hex, hei⟩)]; simp [h]
      · rw [h, hnl']; simp
      · rw [gt_not x.2 ok hok h (.inr ⟨hei, hex⟩)]; simp; omega
    have hw := wantD_congr agree
    have hev := evDs_congr agree
    have next : ∀ (g' : Gh) (a' : Act) (w' : World) (s' : St), (sts ((listed.setIfInBounds i true).getD fr false))[cntS items (fun k => (listed.setIfInBounds i true).getD k false)]? = some s' → J g' → FI E g' s' (putD (envS items (fun k => listed.getD k false) env0) o.dst d) a' w' → wpAny P .any ops Q fuel (listed.setIfInBounds i true) a' w' := by
      intro g' a' w' s' hs' hj' hf'
      refine ih _ a' w' g' s' (by simp [hsz]) hdc' hcnt' hs' hj' ?_
      rw [hS', hadd]; exact hf'
    unfold wpOp
    rw [ho]
    simp only
    have hflag : i ≠ fr → (listed.setIfInBounds i true).getD fr false = listed.getD fr false := by
      intro hne
      have := congrFun hS' fr
      rw [this]
      have : (fr == i) = false := by simpa using Ne.symm hne
      rw [this, Bool.or_false]
    rcases hcase with ⟨hwant, rfl, rfl, hne⟩ | ⟨hwant, rfl, hne, hop⟩ | ⟨hwant, rfl, hne, hop⟩ | ⟨hwant, rfl, hfr, hop⟩
    · rw [if_neg (by rw [wanted_of hf.env (hw.trans hwant)]; simp)]
      refine next g _ w s ?_ hj (hf.put hf.wi g.le_refl (repD_undef g) o.dst)
      rw [hflag hne, hS', hcadd]; simpa using hs
    · rw [if_pos (wanted_of hf.env (hw.trans hwant))]
      refine .inl ?_
      rw [← hev] at hop
      have hlim : ∀ lim, (lims[i]?).bind (·.2) = some lim → cntS items (fun k => listed.getD k false) ≤ lim := by
        intro lim hlm
        have hil2 : i < lims.length := by
          have : lims.length = items.length := by have := congrArg List.length (hle.symm.trans heff); simpa using this
          omega
        have h1 := List.all_eq_true.1 hwin i (by simpa using hil2)
        rw [hlm] at h1
        obtain ⟨e, _, h2⟩ := List.any_eq_true.1 h1
        simp only [Bool.and_eq_true, decide_eq_true_eq, ← hle] at h2
        obtain ⟨⟨h3, h4⟩, h5⟩ := h2
        have hnote : listed.getD e false = false := by
          cases hl : listed.getD e false with
          | false => rfl
          | true => have := hpost e hl i h5; simp only [hnl'] at this; exact absurd this (by simp)
        rw [heff, ← List.map_take, ← cntA_count] at h4
        rw [← h4, ← cntS_lt]
        refine cntS_le fun k x hk hx hS => ?_
        obtain ⟨ok, hok, _⟩ := opAt k x hk
        have hex : effs.getD k false = true := by rw [heff, List.getD_eq_getElem?_getD, List.getElem?_map, hk]; simp [hx]
        rcases Nat.lt_trichotomy k e with h | h | h
        · simp [h]
        · subst h; simp only [hnote] at hS; exact absurd hS (by simp)
        · have hek : e < ops.size := by have := (Array.getElem?_eq_some_iff.1 hok).1; omega
          have := hpost k hS e (regOK_ord hreg (show ops[e]? = some ops[e] by simp [hek]) hok h (.inr ⟨h3, hex⟩))
          simp only [hnote] at this; exact absurd this (by simp)
      refine hop _ _ s hs hlim E g a w _ _ hf.wi (repDs_map hf.wi.rep.gl hf.env _) fun g' w' u h1 h2 h3 => ?_
      refine next g' _ w' s ?_ (hJ g g' h2 hj) (hf.put h1 h2 h3 o.dst)
      rw [hflag hne, hS', hcadd]; simpa using hs
    · rw [if_pos (wanted_of hf.env (hw.trans hwant))]
      refine .inl ?_
      rw [hcb rfl] at hs
      rw [← hev] at hop
      obtain ⟨s2, hs2, hop2⟩ := hop _ s hs (fun hb => by
        cases hn : needs ops i fr with
        | false => rfl
        | true => have := hpre fr hn; rw [hb] at this; exact absurd this (by simp))
      refine hop2 E g a w _ _ hf.wi (repDs_map hf.wi.rep.gl hf.env _) fun g' w' u h1 h2 h3 => ?_
      refine next g' _ w' s2 ?_ (hJ g g' h2 hj) (hf.put h1 h2 h3 o.dst)
      rw [hflag hne, hS', hcadd, hcb rfl]; simpa using hs2
    · rw [if_pos (wanted_of hf.env (hw.trans hwant))]
      refine .inl ?_
      rw [← hfr, hnl'] at hs
      rw [← hev] at hop
      obtain ⟨s2, hs2, hop2⟩ := hop _ s hs
      refine hop2 E g a w _ _ hf.wi (repDs_map hf.wi.rep.gl hf.env _) fun g' w' u h1 h2 h3 => ?_
      refine next g' _ w' s2 ?_ (hJ g g' h2 hj) (hf.put h1 h2 h3 o.dst)
      have hset : (listed.setIfInBounds i true).getD fr false = true := by
        have := congrFun hS' fr
        rw [this, ← hfr]; simp
      rw [hset, hS', hcadd]; simpa using hs2

theorem draw_core {id : Nat} {ops : Array Oper} {E : Ent} {J : Gh → Prop} (hJ : ∀ g g' : Gh, g.le g' → J g → J g') {B : Exit → Act → World → Prop} {g : Gh} {a : Act} {w : World} (hm : P.follows .mixedOrders = true) (sts : Bool → List St) (fr : Nat) {vals : List D} {effs : List Ef} {env' : List D} {j' : Nat} {σ' : St} (h0 : (sts false)[0]? = some σ) (hj : (sts (decide (fr < ops.size)))[j']? = some σ')
    (h : DRun P ops sts fr ops.toList env 0 vals effs env' j') (hreg : drawOK ops effs = true) (hfi : FI E g σ env a w) (hjg : J g) (hk : ∀ g' a' w', J g' → FI E g' σ' env' a' w' → KQ P B k .normal a' w') : KQ P B (.code (.region id ops true) :: k) .normal a w := by
  simp only [KQ]
  obtain ⟨f1, f2, f3, f4, f5⟩ := h.facts [] [] env rfl (by simp) (by simp [envA]) (by simp [cntA])
  simp only [List.nil_append, List.length_nil, Nat.zero_add] at f1 f2 f3
  have hreg1 : regOK ops (effs.map (·.1)) = true := by unfold drawOK at hreg; rw [Bool.and_eq_true] at hreg; exact hreg.1
  have hreg2 : winOK ops effs = true := by unfold drawOK at hreg; rw [Bool.and_eq_true] at hreg; exact hreg.2
  clear hreg
  have f1' : ∀ i o, ops[i]? = some o → Fact P ops sts fr (itemsOf ops.toList vals effs) effs env i o := fun i o ho => f1 i o (by rw [Array.getElem?_toList]; exact ho)
  have f4' : (itemsOf ops.toList vals effs).length = ops.size := by rw [f4]; simp
  refine wp_region_any hm ?_
  have hS0 : (fun i => (Array.replicate ops.size false).getD i false) = fun _ => false := by
    funext i
    simp only [Array.getD_eq_getD_getElem?, Array.getElem?_replicate]
    split <;> rfl
  have he0 : ∀ (l : List (It × Nat)) (e : List D), l.foldl (stepE fun _ => false) e = e := by
    intro l; induction l with
    | nil => intro e; rfl
    | cons x l ih => intro e; simp only [List.foldl_cons]; rw [show stepE (fun _ => false) e x = e from by simp [stepE]]; exact ih e
  have hc0 : ∀ (l : List (It × Nat)) (c : Nat), l.foldl (stepC fun _ => false) c = c := by
    intro l; induction l with
    | nil => intro e; rfl
    | cons x l ih => intro e; simp only [List.foldl_cons]; rw [show stepC (fun _ => false) e x = e from by simp [stepC]]; exact ih e
  have hfi' : FI E g σ env a { w with drawn := w.drawn + 1 } := ⟨hfi.wi.drew, hfi.env, hfi.defers⟩
  obtain ⟨es, hes⟩ : ∃ es, es = effs.map (·.1) := ⟨_, rfl⟩
  rw [← hes] at hreg1 f5
  refine wpAny_draw (sts := sts) (fr := fr) (items := itemsOf ops.toList vals effs) (effs := es) (lims := effs) (env0 := env) (E := E) hJ hreg1 hreg2 hes f4' f5 f1' (fun g' a' w' hj' hx => ?_) ops.size _ a _ g σ (by simp) ?_ ?_ ?_ hjg ?_
  · obtain ⟨s, hs, hf⟩ := hx
    rw [← f3, hj] at hs
    simp at hs; subst hs
    rw [← f2] at hf
    exact hk g' a' w' hj' hf
  · intro i o _ hs
    rw [hS0] at hs
    simp at hs
  · have : (List.range ops.size).filter (fun i => !(Array.replicate ops.size false).getD i false) = List.range ops.size := by
      rw [List.filter_eq_self]
      intro i _
      have := congrFun hS0 i
      rw [this]; rfl
    rw [this]; simp
  · have h0f : (Array.replicate ops.size false).getD fr false = false := congrFun hS0 fr
    rw [hS0, h0f]
    simp only [cntS, hc0]; exact h0
  · rw [hS0]
    simp only [envS, he0]; exact hfi'

/-- A REGION THAT DRAWS ITS ORDER -/
theorem run_draw {id : Nat} {ops : Array Oper} (hm : P.follows .mixedOrders = true) (sts : Bool → List St) (fr : Nat) {vals : List D} {effs : List Ef} {env' : List D} {j' : Nat} {σ' : St} (h0 : (sts false)[0]? = some σ) (hj : (sts (decide (fr < ops.size)))[j']? = some σ')
    (h : DRun P ops sts fr ops.toList env 0 vals effs env' j') (hreg : drawOK ops effs = true) (hk : RunC C P R k env' σ') : RunC C P R (.code (.region id ops true) :: k) env σ := fun E0 E _ _ _ B hC hfi hB =>
  draw_core (J := fun _ => True) (fun _ _ _ _ => trivial) hm sts fr h0 hj h hreg hfi trivial fun g' a' w' _ hf => hk E0 E g' a' w' B hC hf hB

end
end Go.Dv

namespace Go.Dv

/-- the piece of code at a place -/
def sub : Code → List Nat → Code
  | c, [] => c
  | .seq a b, n :: p => if n = 0 then sub a p else sub b p
  | .cond _ a b, n :: p => if n = 0 then sub a p else sub b p
  | .block _ a, _ :: p => sub a p
  | .loop a, _ :: p => sub a p
  | .scope a, _ :: p => sub a p
  | _, _ :: _ => .skip

def opsIn : Code → Array Oper
  | .region _ ops _ => ops
  | _ => #[]

/-- what is left of a region, from operation i on -/
def OpsAtC (C : Ent → Ent → Prop) (P : Program) (R : List D → St → Prop) (c : Code) (p : List Nat) (i : Nat) (k : List KI) (env : List D) (σ : St) : Prop :=
  ∀ (E0 E : Ent) (g : Gh) (a : Act) (w : World) (B : Exit → Act → World → Prop), C E0 E → FI E g σ env a w →
    (∀ g' env' σ' a' w', FI E0 g' σ' env' a' w' → R env' σ' → B .ret a' w' ∧ B .normal a' w') → wpList P (opsIn (sub c p)) (KQ P B k) ((opsIn (sub c p)).toList.drop i) a w
/-- the same memory and slots, seen otherwise -/
def Cv (env : List D) (σ : St) (env' : List D) (σ' : St) : Prop := ∀ (E : Ent) (g : Gh) (a : Act) (w : World), FI E g σ env a w → ∃ g', FI E g' σ' env' a w

section
variable {C : Ent → Ent → Prop} {P : Program} {R : List D → St → Prop} {c : Code} {p : List Nat} {k : List KI} {env env' : List D} {σ σ' : St} {i : Nat} {o : Oper} {d : D}

theorem at_seq (q r : List Nat) (h : sub c p = .seq (sub c q) (sub c r)) (hk : RunC C P R (.code (sub c q) :: .code (sub c r) :: k) env σ) : RunC C P R (.code (sub c p) :: k) env σ := by rw [h]; exact run_seq hk
theorem at_block (q : List Nat) (id : Nat) (h : sub c p = .block id (sub c q)) (hk : RunC C P R (.code (sub c q) :: .blk id :: k) env σ) : RunC C P R (.code (sub c p) :: k) env σ := by rw [h]; exact run_block hk
theorem at_loop (q : List Nat) (h : sub c p = .loop (sub c q)) (hk : RunC C P R (.lp (sub c q) :: k) env σ) : RunC C P R (.code (sub c p) :: k) env σ := by rw [h]; exact run_loop hk
theorem at_cond (q r : List Nat) {t : Operand} {b : Bool} (h : sub c p = .cond t (sub c q) (sub c r)) (hc : evD env t = .v (.bool b)) (ht : b = true → RunC C P R (.code (sub c q) :: k) env σ) (hf : b = false → RunC C P R (.code (sub c r) :: k) env σ) :
    RunC C P R (.code (sub c p) :: k) env σ := by rw [h]; exact run_cond hc ht hf
theorem at_true (q r : List Nat) {t : Operand} (h : sub c p = .cond t (sub c q) (sub c r)) (hc : evD env t = .v (.bool true)) (ht : RunC C P R (.code (sub c q) :: k) env σ) : RunC C P R (.code (sub c p) :: k) env σ :=
  at_cond q r h hc (fun _ => ht) (fun h => by simp at h)
theorem at_false (q r : List Nat) {t : Operand} (h : sub c p = .cond t (sub c q) (sub c r)) (hc : evD env t = .v (.bool false)) (hf : RunC C P R (.code (sub c r) :: k) env σ) : RunC C P R (.code (sub c p) :: k) env σ :=
  at_cond q r h hc (fun h => by simp at h) (fun _ => hf)
theorem at_skip (h : sub c p = .skip) (hk : RunC C P R k env σ) : RunC C P R (.code (sub c p) :: k) env σ := by rw [h]; exact run_skip hk
theorem at_exit {id : Nat} {k' : List KI} (h : sub c p = .exit id) (hp : popK id k = some k') (hk : RunC C P R k' env σ) : RunC C P R (.code (sub c p) :: k) env σ := by rw [h]; exact run_exit hp hk
theorem at_retC (L : LinkC C) (h : sub c p = .ret) (hk : R env σ) : RunC C P R (.code (sub c p) :: k) env σ := by rw [h]; exact run_retC L hk
theorem at_ret (h : sub c p = .ret) (hk : R env σ) : Run P R (.code (sub c p) :: k) env σ := at_retC sameLink h hk

theorem at_region {id : Nat} (h : sub c p = .region id (opsIn (sub c p)) false) (hk : OpsAtC C P R c p 0 k env σ) : RunC C P R (.code (sub c p) :: k) env σ := by
  rw [h]
  intro E0 E g a w B hC hfi hB
  simp only [KQ]
  exact wp_region_list (by have := hk E0 E g a w B hC hfi hB; rwa [List.drop_zero] at this)

theorem run_cv (h : Cv env σ env' σ') (hk : RunC C P R k env' σ') : RunC C P R k env σ := fun E0 E g a w B hC hf hB => by
  obtain ⟨g', hf'⟩ := h E g a w hf
  exact hk E0 E g' a w B hC hf' hB
theorem ops_drop (ho : (opsIn (sub c p))[i]? = some o) : ((opsIn (sub c p)).toList.drop i) = o :: (opsIn (sub c p)).toList.drop (i + 1) := by
  have ho' : (opsIn (sub c p)).toList[i]? = some o := by simpa using ho
  rw [List.drop_eq_getElem_cons (List.getElem?_eq_some_iff.1 ho').1, (List.getElem?_eq_some_iff.1 ho').2]

theorem at_op (t : Option Tmp) (ho : (opsIn (sub c p))[i]? = some o) {ds : List D} (hg : wantD env (opsIn (sub c p)) o = some true) (ht : o.dst = t) (hds : evDs env o = ds) (h : OpOK P o ds σ d σ') (he : putD env t d = env') (hk : OpsAtC C P R c p (i + 1) k env' σ') : OpsAtC C P R c p i k env σ := by
  subst ht he hds
  intro E0 E g a w B hC hf hB
  rw [ops_drop ho]
  unfold wpList
  rw [if_pos (wanted_of hf.env hg)]
  refine .inl (h E g a w _ _ hf.wi (repDs_map hf.wi.rep.gl hf.env _) fun g' w' u hw' hg' hd => ?_)
  exact hk E0 E g' _ _ B hC (hf.put hw' hg' hd o.dst) hB

/-- an operation with an effect -/
theorem at_opS {σ2 : St} (t : Option Tmp) (ho : (opsIn (sub c p))[i]? = some o) {ds : List D} (hg : wantD env (opsIn (sub c p)) o = some true) (ht : o.dst = t) (hds : evDs env o = ds) (h : OpOK P o ds σ d σ') (he : putD env t d = env') (hσ : σ' = σ2) (hk : OpsAtC C P R c p (i + 1) k env' σ2) : OpsAtC C P R c p i k env σ := by
  subst hσ; exact at_op t ho hg ht hds h he hk

/-- '&&', '||' -/
theorem at_pk (b : Bool) (s s1 t : Nat) {x y : Operand} (ho : (opsIn (sub c p))[i]? = some o) (hg : wantD env (opsIn (sub c p)) o = some true) (ht : o.dst = some t) (hop : o.op = .pick (.tmp s) x y) (hs : env[s]? = some (.v (.bool b))) (hx : (if b then x else y) = .tmp s1) (h1 : env[s1]? = some d) (he : env.set t d = env')
    (hk : OpsAtC C P R c p (i + 1) k env' σ) : OpsAtC C P R c p i k env σ := by
  refine at_op (some t) ho hg ht (ds := [.v (.bool b), evD env x, evD env y]) ?_ (op_pick hop) ?_ hk
  · simp [evDs, hop, Op.operands, evD, List.getD_eq_getElem?_getD, hs]
  · rw [← he]
    simp only [putD]
    congr 1
    cases b <;> simp at hx <;> subst hx <;> simp [evD, List.getD_eq_getElem?_getD, h1]
theorem at_pkc (b : Bool) (s t : Nat) {x y : Operand} {u : Value} (ho : (opsIn (sub c p))[i]? = some o) (hg : wantD env (opsIn (sub c p)) o = some true) (ht : o.dst = some t) (hop : o.op = .pick (.tmp s) x y) (hs : env[s]? = some (.v (.bool b))) (hx : (if b then x else y) = .const u) (h1 : constD u = d) (he : env.set t d = env')
    (hk : OpsAtC C P R c p (i + 1) k env' σ) : OpsAtC C P R c p i k env σ := by
  refine at_op (some t) ho hg ht (ds := [.v (.bool b), evD env x, evD env y]) ?_ (op_pick hop) ?_ hk
  · simp [evDs, hop, Op.operands, evD, List.getD_eq_getElem?_getD, hs]
  · rw [← he]
    simp only [putD]
    congr 1
    cases b <;> simp at hx <;> subst hx <;> simp [evD, h1]

theorem ev_tmp {s : Nat} (hs : env[s]? = some d) : evD env (.tmp s) = d := by simp [evD, List.getD_eq_getElem?_getD, hs]

/-- a store into an object -/
theorem at_st1 (sa : Nat) (xv : Operand) {ty : TypeId} {q off : Nat} {cs : List D} {σ2 : St} (ho : (opsIn (sub c p))[i]? = some o) (hg : wantD env (opsIn (sub c p)) o = some true) (ht : o.dst = none) (hop : o.op = .store ty (.tmp sa) xv) (ha : env[sa]? = some (.ptr q off)) (hv : evD env xv = d) (h1 : d.one = true) (hty : OneTy P ty)
    (hq : σ.H[q]? = some (some cs)) (hoff : off < cs.length) (hσ : ⟨σ.H.set q (some (cs.set off d)), σ.own⟩ = σ2) (hk : OpsAtC C P R c p (i + 1) k env σ2) : OpsAtC C P R c p i k env σ := by
  subst hσ
  refine at_op none ho hg ht (ds := [.ptr q off, d]) ?_ (op_store1 hop h1 hty hq hoff) rfl hk
  simp [evDs, hop, Op.operands, ev_tmp ha, hv]
theorem at_stA (sa : Nat) (xv : Operand) {ty : TypeId} {q off n : Nat} {cs : List D} {σ2 : St} {b : Bool} (ho : (opsIn (sub c p))[i]? = some o) (hg : wantD env (opsIn (sub c p)) o = some true) (ht : o.dst = none) (hop : o.op = .store ty (.tmp sa) xv) (ha : env[sa]? = some (.ptr q off)) (hv : evD env xv = d) (h1 : d.sto = true) (hty : szAgg P ty = some (n, b))
    (hn : (cellsD d).length = n) (hq : σ.H[q]? = some (some cs)) (hoff : off + n ≤ cs.length) (hσ : ⟨σ.H.set q (some (cs.take off ++ cellsD d ++ cs.drop (off + n))), σ.own⟩ = σ2) (hk : OpsAtC C P R c p (i + 1) k env σ2) : OpsAtC C P R c p i k env σ := by
  subst hσ
  refine at_op none ho hg ht (ds := [.ptr q off, d]) ?_ (op_store hop h1 hty hn hq hoff) rfl hk
  simp [evDs, hop, Op.operands, ev_tmp ha, hv]
theorem at_box (x : Operand) (t : Nat) {ty : TypeId} {σ2 : St} (ho : (opsIn (sub c p))[i]? = some o) (hg : wantD env (opsIn (sub c p)) o = some true) (ht : o.dst = some t) (hop : o.op = .box ty x) (hv : evD env x = d) (h1 : d.sto = true) (he : env.set t (.ptr σ.H.length 0) = env') (hσ : ⟨σ.H ++ [some (cellsD d)], σ.own⟩ = σ2)
    (hk : OpsAtC C P R c p (i + 1) k env' σ2) : OpsAtC C P R c p i k env σ := by
  subst hσ
  refine at_op (some t) ho hg ht (ds := [d]) ?_ (op_box hop h1) he hk
  simp [evDs, hop, Op.operands, hv]

/-- a copy -/
theorem at_mv (s t : Nat) (ho : (opsIn (sub c p))[i]? = some o) (hg : wantD env (opsIn (sub c p)) o = some true) (ht : o.dst = some t) (hop : o.op = .move (.tmp s) ∨ o.op = .assign (.tmp s)) (hs : env[s]? = some d) (he : env.set t d = env') (hk : OpsAtC C P R c p (i + 1) k env' σ) : OpsAtC C P R c p i k env σ := by
  have hds : evDs env o = [d] := by rcases hop with h | h <;> simp [evDs, h, Op.operands, evD, List.getD_eq_getElem?_getD, hs]
  refine at_op (some t) ho hg ht hds ?_ he hk
  rcases hop with h | h
  · exact op_move h
  · exact op_assign h

/-- a constant -/
theorem at_mc {u : Value} (t : Nat) (ho : (opsIn (sub c p))[i]? = some o) (hg : wantD env (opsIn (sub c p)) o = some true) (ht : o.dst = some t) (hop : o.op = .move (.const u) ∨ o.op = .assign (.const u)) (hs : constD u = d) (he : env.set t d = env') (hk : OpsAtC C P R c p (i + 1) k env' σ) : OpsAtC C P R c p i k env σ := by
  have hds : evDs env o = [d] := by rcases hop with h | h <;> simp [evDs, h, Op.operands, evD, hs]
  refine at_op (some t) ho hg ht hds ?_ he hk
  rcases hop with h | h
  · exact op_move h
  · exact op_assign h

/-- a guarded operation that is not run -/
theorem at_opN (t : Option Tmp) (ho : (opsIn (sub c p))[i]? = some o) (hg : wantD env (opsIn (sub c p)) o = some false) (ht : o.dst = t) (he : putD env t (.tup []) = env') (hk : OpsAtC C P R c p (i + 1) k env' σ) : OpsAtC C P R c p i k env σ := by
  subst ht he
  intro E0 E g a w B hC hf hB
  rw [ops_drop ho]
  unfold wpList
  rw [if_neg (by rw [wanted_of hf.env hg]; simp)]
  exact hk E0 E g _ _ B hC (hf.put hf.wi g.le_refl (repD_undef g) o.dst) hB

theorem at_end (h : (opsIn (sub c p)).size = i) (hk : RunC C P R k env σ) : OpsAtC C P R c p i k env σ := by
  intro E0 E g a w B hC hf hB
  rw [List.drop_of_length_le (by simp [h])]
  exact hk E0 E g a w B hC hf hB

/-- a slot's truth value, by cases -/
theorem at_split (t : Nat) {b : Bool} (hs : env[t]? = some (.v (.bool b))) (ht : b = true → ∀ env', env.set t (.v (.bool true)) = env' → OpsAtC C P R c p i k env' σ) (hf : b = false → ∀ env', env.set t (.v (.bool false)) = env' → OpsAtC C P R c p i k env' σ) : OpsAtC C P R c p i k env σ := by
  have key : ∀ b', b = b' → env.set t (.v (.bool b')) = env := by
    intro b' e; subst e
    apply List.ext_getElem?
    intro j
    rw [List.getElem?_set]
    split
    · rename_i e; subst e
      split
      · exact hs.symm
      · rename_i hl; rw [List.getElem?_eq_none (by omega)] at hs; simp at hs
    · rfl
  cases b with
  | true => exact ht rfl env (key true rfl)
  | false => exact hf rfl env (key false rfl)

/-- slots that are forgotten -/
inductive Wk : List D → List D → Prop
  | nil : Wk [] []
  | keep {d : D} {l l' : List D} (h : Wk l l') : Wk (d :: l) (d :: l')
  | drop {d : D} {l l' : List D} (h : Wk l l') : Wk (d :: l) (.undef :: l')

theorem Wk.ok : ∀ {l l' : List D}, Wk l l' → l'.length = l.length ∧ ∀ (i : Nat) (d' : D), l'[i]? = some d' → d' = .undef ∨ l[i]? = some d'
  | _, _, .nil => ⟨rfl, fun i d' h => by simp at h⟩
  | _, _, .keep h => by
    obtain ⟨h1, h2⟩ := h.ok
    refine ⟨by simp [h1], fun i d' hi => ?_⟩
    cases i with
    | zero => exact .inr hi
    | succ i => exact h2 i d' (by simpa using hi)
  | _, _, .drop h => by
    obtain ⟨h1, h2⟩ := h.ok
    refine ⟨by simp [h1], fun i d' hi => ?_⟩
    cases i with
    | zero => simp at hi; exact .inl hi.symm
    | succ i => exact h2 i d' (by simpa using hi)

theorem run_wk (hw : Wk env env') (h : RunC C P R k env' σ) : RunC C P R k env σ := run_forget hw.ok.1 hw.ok.2 h

/- results of functions that were handed no object -/
theorem ret_one {fn : Func} {t : Tmp} {d' : D} (hr : fn.results.toList = [.tmp t]) (hs : env[t]? = some d') (he : d' = d) (hp : d'.pl = true) : ResOK P fn env σ d ⟨[], []⟩ := by
  subst he
  refine res_ok (ds := [d']) (by rw [hr]; exact .tmp hs .nil) rfl 0 (by simp) (by simp) (fun i cs h => by simp at h) (by simp) ?_
  cases d' <;> simp_all [okR, D.pl]

theorem ret_un {fn : Func} {t : Tmp} {tag : Nat} {xs ys : List V} (hr : fn.results.toList = [.tmp t]) (hs : env[t]? = some (.acc tag xs)) (he : xs = ys) : ResOK P fn env σ (.v (.list ys)) ⟨[], []⟩ := by
  subst he
  intro E g a w hf hE
  obtain ⟨us, h1, h2⟩ := (ResL.tmp (P := P) hs .nil).run hf
  obtain ⟨u, rfl, h3⟩ := repDs_one.1 h2
  refine ⟨u, _, ?_, hf.wi.restrict (σ' := ⟨[], []⟩) (m := 0) (by simp) (by simp) (by simpa using hE) (fun i cs h => by simp at h) (by simp), ?_⟩
  · rw [results_eq, Array.mapM_eq_mapM_toList, hr]
    simp only [Sem.run_bind, Sem.run_map, h1, Result.andThen_ok]
    rfl
  · simp only [repD] at h3 ⊢; exact h3.1

theorem ret_two {fn : Func} {t t2 : Tmp} {d1 d2 e1 e2 : D} (hr : fn.results.toList = [.tmp t, .tmp t2]) (hs : env[t]? = some d1) (hs2 : env[t2]? = some d2) (h1 : d1.un = e1) (h2 : d2.un = e2) (hp : e1.pl = true) (hp2 : e2.pl = true) : ResOK P fn env σ (.tup [e1, e2]) ⟨[], []⟩ := by
  subst h1 h2
  intro E g a w hf hE
  obtain ⟨us, h1, h2⟩ := (ResL.tmp (P := P) hs (.tmp hs2 .nil)).run hf
  obtain ⟨u, v, rfl, h3, h4⟩ := repDs_two.1 h2
  refine ⟨.tuple #[u, v], _, ?_, hf.wi.restrict (σ' := ⟨[], []⟩) (m := 0) (by simp) (by simp) (by simpa using hE) (fun i cs h => by simp at h) (by simp), ?_⟩
  · rw [results_eq, Array.mapM_eq_mapM_toList, hr]
    simp only [Sem.run_bind, Sem.run_map, h1, Result.andThen_ok]
    rfl
  · simp only [repD]
    exact ⟨[u, v], rfl, repDs_two.2 ⟨u, v, rfl, repD_pl (by rfl) hp (repD_un h3), repD_pl (by rfl) hp2 (repD_un h4)⟩⟩

/- results of functions that were handed one object -/
theorem ret_one1 {fn : Func} {t : Tmp} {d' : D} {os : List D} (hr : fn.results.toList = [.tmp t]) (hs : env[t]? = some d') (he : d' = d) (hp : d'.pl = true) (hH : σ.H.take 1 = [some os]) (hos : D.pls os = true) : ResOK P fn env σ d ⟨[some os], []⟩ := by
  subst he
  refine res_ok (ds := [d']) (by rw [hr]; exact .tmp hs .nil) rfl 1 hH.symm ?_ (fun i cs h => ?_) (by simp) ?_
  · have := congrArg List.length hH; simp at this; omega
  · cases i with
    | zero => simp at h; subst h; exact hos
    | succ i => simp at h
  · cases d' <;> simp_all [okR, D.pl]

/- regions that draw their order -/
def DAt (P : Program) (c : Code) (p : List Nat) (sts : Bool → List St) (fr : Nat) (i : Nat) (env : List D) (j : Nat) (effs : List Ef) (K : List D → Nat → List Ef → Prop) : Prop :=
  ∃ vals effs' env' j', DRun P (opsIn (sub c p)) sts fr ((opsIn (sub c p)).toList.drop i) env j vals effs' env' j' ∧ K env' j' (effs ++ effs')

theorem da_end {sts : Bool → List St} {fr : Nat} {j : Nat} {effs : List Ef} {K : List D → Nat → List Ef → Prop} (h : (opsIn (sub c p)).size = i) (hk : K env j effs) : DAt P c p sts fr i env j effs K := by
  refine ⟨[], [], env, j, ?_, by simpa using hk⟩
  rw [List.drop_of_length_le (by simp [h])]
  exact .nil

theorem drop_cons (ho : (opsIn (sub c p))[i]? = some o) : ((opsIn (sub c p)).toList.drop i) = o :: (opsIn (sub c p)).toList.drop (i + 1) := by
  have ho' : (opsIn (sub c p)).toList[i]? = some o := by simpa using ho
  rw [List.drop_eq_getElem_cons (List.getElem?_eq_some_iff.1 ho').1, (List.getElem?_eq_some_iff.1 ho').2]

theorem idx_rest (ho : (opsIn (sub c p))[i]? = some o) : (opsIn (sub c p)).size - (((opsIn (sub c p)).toList.drop (i + 1)).length + 1) = i := by
  have := (Array.getElem?_eq_some_iff.1 ho).1
  simp; omega

theorem da_quietG (t : Option Tmp) {sts : Bool → List St} {fr : Nat} {j : Nat} {effs : List Ef} {K : List D → Nat → List Ef → Prop} (ho : (opsIn (sub c p))[i]? = some o) (hg : wantD env (opsIn (sub c p)) o = some true) {ds : List D} (hds : evDs env o = ds)
    (ht : o.dst = t) (h : ∀ b, ∀ s ∈ sts b, OpOK P o ds s d s) (he : putD env t d = env') (hk : DAt P c p sts fr (i + 1) env' j (effs ++ [(false, none)]) K) (hne : i ≠ fr := by decide) : DAt P c p sts fr i env j effs K := by
  obtain ⟨vals, effs', env2, j', h1, h2⟩ := hk
  subst ht hds he
  refine ⟨d :: vals, (false, none) :: effs', env2, j', ?_, by simpa using h2⟩
  rw [drop_cons ho]
  exact .quiet (by rw [idx_rest ho]; exact hne) hg h h1

theorem da_quiet (t : Option Tmp) {sts : List St} {fr : Nat} {j : Nat} {effs : List Ef} {K : List D → Nat → List Ef → Prop} (ho : (opsIn (sub c p))[i]? = some o) (hg : wantD env (opsIn (sub c p)) o = some true) {ds : List D} (hds : evDs env o = ds)
    (ht : o.dst = t) (h : ∀ s ∈ sts, OpOK P o ds s d s) (he : putD env t d = env') (hk : DAt P c p (fun _ => sts) fr (i + 1) env' j (effs ++ [(false, none)]) K) (hne : i ≠ fr := by decide) : DAt P c p (fun _ => sts) fr i env j effs K :=
  da_quietG t ho hg hds ht (fun _ => h) he hk hne

def stsOf (LF LT : List St) : Bool → List St
  | false => LF
  | true => LT
/-- known to hold up to a count of effects alone -/
theorem da_quietW (lim : Nat) (t : Option Tmp) {sts : List St} {fr : Nat} {j : Nat} {effs : List Ef} {K : List D → Nat → List Ef → Prop} (ho : (opsIn (sub c p))[i]? = some o) (hg : wantD env (opsIn (sub c p)) o = some true) {ds : List D} (hds : evDs env o = ds)
    (ht : o.dst = t) (h : ∀ s ∈ sts.take (lim + 1), OpOK P o ds s d s) (he : putD env t d = env') (hk : DAt P c p (fun _ => sts) fr (i + 1) env' j (effs ++ [(false, some lim)]) K) (hne : i ≠ fr := by decide) : DAt P c p (fun _ => sts) fr i env j effs K := by
  obtain ⟨vals, effs', env2, j', h1, h2⟩ := hk
  subst ht hds he
  refine ⟨d :: vals, (false, some lim) :: effs', env2, j', ?_, by simpa using h2⟩
  rw [drop_cons ho]
  exact .quietW lim (by rw [idx_rest ho]; exact hne) hg (fun _ c s hc hs => h s (List.mem_of_getElem? (i := c) (by rw [List.getElem?_take, if_pos (by omega)]; exact hs))) h1
theorem da_skip (t : Option Tmp) {sts : Bool → List St} {fr : Nat} {j : Nat} {effs : List Ef} {K : List D → Nat → List Ef → Prop} (ho : (opsIn (sub c p))[i]? = some o) (hg : wantD env (opsIn (sub c p)) o = some false) (ht : o.dst = t) (he : putD env t (.tup []) = env')
    (hk : DAt P c p sts fr (i + 1) env' j (effs ++ [(false, none)]) K) (hne : i ≠ fr := by decide) : DAt P c p sts fr i env j effs K := by
  obtain ⟨vals, effs', env2, j', h1, h2⟩ := hk
  subst ht he
  refine ⟨.tup [] :: vals, (false, none) :: effs', env2, j', ?_, by simpa using h2⟩
  rw [drop_cons ho]
  exact .skip (by rw [idx_rest ho]; exact hne) hg h1

theorem da_eff (t : Option Tmp) {sts : List St} {fr : Nat} {j : Nat} {effs : List Ef} {K : List D → Nat → List Ef → Prop} (ho : (opsIn (sub c p))[i]? = some o) (hg : wantD env (opsIn (sub c p)) o = some true) {ds : List D} (hds : evDs env o = ds) {s s' : St} (hs : sts[j]? = some s) (hs' : sts[j + 1]? = some s')
    (ht : o.dst = t) (h : OpOK P o ds s d s') (he : putD env t d = env') (hk : DAt P c p (fun _ => sts) fr (i + 1) env' (j + 1) (effs ++ [(true, none)]) K) (hne : i ≠ fr := by decide) : DAt P c p (fun _ => sts) fr i env j effs K := by
  obtain ⟨vals, effs', env2, j', h1, h2⟩ := hk
  subst ht hds he
  refine ⟨d :: vals, (true, none) :: effs', env2, j', ?_, by simpa using h2⟩
  rw [drop_cons ho]
  exact .eff (by rw [idx_rest ho]; exact hne) hg (fun b x hx _ => ⟨s', hs', by rw [hs] at hx; simp at hx; subst hx; exact h⟩) h1

theorem da_split {sts : Bool → List St} {fr : Nat} {j : Nat} {effs : List Ef} {K : List D → Nat → List Ef → Prop} (t : Nat) {b : Bool} (hs : env[t]? = some (.v (.bool b))) (ht : b = true → ∀ env', env.set t (.v (.bool true)) = env' → DAt P c p sts fr i env' j effs K)
    (hf : b = false → ∀ env', env.set t (.v (.bool false)) = env' → DAt P c p sts fr i env' j effs K) : DAt P c p sts fr i env j effs K := by
  have key : ∀ b', b = b' → env.set t (.v (.bool b')) = env := by
    intro b' e; subst e
    apply List.ext_getElem?
    intro j
    rw [List.getElem?_set]
    split
    · rename_i e; subst e
      split
      · exact hs.symm
      · rename_i hl; rw [List.getElem?_eq_none (by omega)] at hs; simp at hs
    · rfl
  cases b with
  | true => exact ht rfl env (key true rfl)
  | false => exact hf rfl env (key false rfl)

/-- a copy, a constant, in a region that draws -/
theorem da_mv {sts : Bool → List St} {fr : Nat} {j : Nat} {effs : List Ef} {K : List D → Nat → List Ef → Prop} (s t : Nat) (ho : (opsIn (sub c p))[i]? = some o) (hg : wantD env (opsIn (sub c p)) o = some true) (ht : o.dst = some t) (hop : o.op = .move (.tmp s) ∨ o.op = .assign (.tmp s)) (hs : env[s]? = some d)
    (he : env.set t d = env') (hk : DAt P c p sts fr (i + 1) env' j (effs ++ [(false, none)]) K) (hne : i ≠ fr := by decide) : DAt P c p sts fr i env j effs K := by
  have hds : evDs env o = [d] := by rcases hop with h | h <;> simp [evDs, h, Op.operands, evD, List.getD_eq_getElem?_getD, hs]
  refine da_quietG (some t) ho hg hds ht (fun _ _ _ => ?_) he hk hne
  rcases hop with h | h
  · exact op_move h
  · exact op_assign h
theorem da_pk {sts : Bool → List St} {fr : Nat} {j : Nat} {effs : List Ef} {K : List D → Nat → List Ef → Prop} (b : Bool) (s s1 t : Nat) {x y : Operand} (ho : (opsIn (sub c p))[i]? = some o) (hg : wantD env (opsIn (sub c p)) o = some true) (ht : o.dst = some t) (hop : o.op = .pick (.tmp s) x y) (hs : env[s]? = some (.v (.bool b)))
    (hx : (if b then x else y) = .tmp s1) (h1 : env[s1]? = some d) (he : env.set t d = env') (hk : DAt P c p sts fr (i + 1) env' j (effs ++ [(false, none)]) K) (hne : i ≠ fr := by decide) : DAt P c p sts fr i env j effs K := by
  refine da_quietG (some t) ho hg (ds := [.v (.bool b), evD env x, evD env y]) ?_ ht (fun _ _ _ => op_pick hop) ?_ hk hne
  · simp [evDs, hop, Op.operands, evD, List.getD_eq_getElem?_getD, hs]
  · rw [← he]
    simp only [putD]
    congr 1
    cases b <;> simp at hx <;> subst hx <;> simp [evD, List.getD_eq_getElem?_getD, h1]
theorem da_pkc {sts : Bool → List St} {fr : Nat} {j : Nat} {effs : List Ef} {K : List D → Nat → List Ef → Prop} (b : Bool) (s t : Nat) {x y : Operand} {u : Value} (ho : (opsIn (sub c p))[i]? = some o) (hg : wantD env (opsIn (sub c p)) o = some true) (ht : o.dst = some t) (hop : o.op = .pick (.tmp s) x y) (hs : env[s]? = some (.v (.bool b)))
    (hx : (if b then x else y) = .const u) (h1 : constD u = d) (he : env.set t d = env') (hk : DAt P c p sts fr (i + 1) env' j (effs ++ [(false, none)]) K) (hne : i ≠ fr := by decide) : DAt P c p sts fr i env j effs K := by
  refine da_quietG (some t) ho hg (ds := [.v (.bool b), evD env x, evD env y]) ?_ ht (fun _ _ _ => op_pick hop) ?_ hk hne
  · simp [evDs, hop, Op.operands, evD, List.getD_eq_getElem?_getD, hs]
  · rw [← he]
    simp only [putD]
    congr 1
    cases b <;> simp at hx <;> subst hx <;> simp [evD, h1]

theorem da_st1 {sts : List St} {fr : Nat} {j : Nat} {effs : List Ef} {K : List D → Nat → List Ef → Prop} (sa : Nat) (xv : Operand) {ty : TypeId} {q off : Nat} {cs : List D} {s s' : St} (ho : (opsIn (sub c p))[i]? = some o) (hg : wantD env (opsIn (sub c p)) o = some true) (ht : o.dst = none) (hs : sts[j]? = some s) (hs' : sts[j + 1]? = some s')
    (hop : o.op = .store ty (.tmp sa) xv) (ha : env[sa]? = some (.ptr q off)) (hv : evD env xv = d) (h1 : d.one = true) (hty : OneTy P ty)
    (hq : s.H[q]? = some (some cs)) (hoff : off < cs.length) (hσ : ⟨s.H.set q (some (cs.set off d)), s.own⟩ = s') (hk : DAt P c p (fun _ => sts) fr (i + 1) env (j + 1) (effs ++ [(true, none)]) K) (hne : i ≠ fr := by decide) : DAt P c p (fun _ => sts) fr i env j effs K := by
  subst hσ
  refine da_eff none ho hg (ds := [.ptr q off, d]) ?_ hs hs' ht (op_store1 hop h1 hty hq hoff) rfl hk hne
  simp [evDs, hop, Op.operands, ev_tmp ha, hv]

theorem at_draw {id : Nat} (hm : P.follows .mixedOrders = true) (h : sub c p = .region id (opsIn (sub c p)) true) (sts : List St) (h0 : sts[0]? = some σ)
    (hk : DAt P c p (fun _ => sts) 1000000 0 env 0 [] (fun env' j' effs => drawOK (opsIn (sub c p)) effs = true ∧ ∃ σ', sts[j']? = some σ' ∧ RunC C P R k env' σ')) : RunC C P R (.code (sub c p) :: k) env σ := by
  obtain ⟨vals, effs, env', j', h1, h2, σ', h3, h4⟩ := hk
  rw [h]
  exact run_draw hm (fun _ => sts) 1000000 h0 h3 (by simpa using h1) (by simpa using h2) h4

/-- a function's body by its place -/
theorem spec_at {f : FuncId} {fn : Func} {ds : List D} {σ σ' : St} {d : D} (c : Code) (hf : P.funcs[f]? = some fn) (hb : fn.body = some c) (hn : (fn.name == "runtime.NumGoroutine") = false) (hH : σ.H.length ≤ σ'.H.length)
    (env : List D) (he : ds ++ List.replicate (fn.ntmps - ds.length) .undef = env) (h : Run P (fun env σ1 => ResOK P fn env σ1 d σ') [.code (sub c [])] env σ) : FSpec P f ds σ d σ' := by
  subst he
  refine spec_of_run hf hb hn hH ?_
  have : sub c [] = c := by cases c <;> rfl
  rwa [this] at h

end
end Go.Dv

namespace Go.Dv

/-- objects handed back: the handed ones in their places, new ones behind -/
def backH : List (Option (List D)) → List Nat → List (Option (List D)) → List (Option (List D))
  | H, q :: qs, o :: os => backH (H.set q o) qs os
  | H, [], os => H ++ os
  | H, _ :: _, [] => H
def rho (n : Nat) (qs : List Nat) (j : Nat) : Nat := match qs[j]? with
  | some q => q
  | none => n + (j - qs.length)

theorem backH_length : ∀ (qs : List Nat) (H os : List (Option (List D))), qs.length ≤ os.length → (backH H qs os).length = H.length + (os.length - qs.length)
  | [], H, os, _ => by simp [backH]
  | q :: qs, H, [], h => by simp at h
  | q :: qs, H, o :: os, h => by
    simp only [backH]
    rw [backH_length qs _ os (by simpa using h)]
    simp

theorem backH_get : ∀ (qs : List Nat) (H os : List (Option (List D))), qs.length ≤ os.length → ∀ {i : Nat} {cs : List D}, (backH H qs os)[i]? = some (some cs) →
    (∃ j, rho H.length qs j = i ∧ os[j]? = some (some cs)) ∨ (i < H.length ∧ i ∉ qs ∧ H[i]? = some (some cs))
  | [], H, os, _, i, cs, h => by
    simp only [backH] at h
    by_cases hi : i < H.length
    · rw [List.getElem?_append_left hi] at h
      exact .inr ⟨hi, by simp, h⟩
    · rw [List.getElem?_append_right (by omega)] at h
      exact .inl ⟨i - H.length, by simp [rho]; omega, h⟩
  | q :: qs, H, [], h, _, _, _ => by simp at h
  | q :: qs, H, o :: os, h, i, cs, hg => by
    simp only [backH] at hg
    rcases backH_get qs (H.set q o) os (by simpa using h) hg with ⟨j, h1, h2⟩ | ⟨h1, h2, h3⟩
    · refine .inl ⟨j + 1, ?_, by simpa using h2⟩
      rw [← h1]
      simp [rho]
    · simp only [List.length_set] at h1
      rw [List.getElem?_set] at h3
      split at h3
      · rename_i e; subst e
        simp only [h1, if_true, Option.some.injEq] at h3
        exact .inl ⟨0, by simp [rho], by simp [h3]⟩
      · rename_i e
        exact .inr ⟨h1, by simp only [List.mem_cons, not_or]; exact ⟨fun e' => e e'.symm, h2⟩, h3⟩

/-- the ghost that a callee begins with -/
def gIn (g : Gh) (qs : List Nat) : Gh := { M := g.M, β := fun j => g.β (qs.getD j 0), n := qs.length, ι := fun _ _ => none, κ := fun j => g.κ (qs.getD j 0) }

theorem getD_get {qs : List Nat} {j q : Nat} (h : qs[j]? = some q) : qs.getD j 0 = q := by simp [List.getD_eq_getElem?_getD, h]

theorem WRep.callee {g : Gh} {σ σc : St} {w : World} (h : WRep g σ w) {qs : List Nat} (hnd : qs.Nodup) (hown : σc.own = []) (hlen : σc.H.length = qs.length)
    (hq : ∀ (j q : Nat) (csc : List D), qs[j]? = some q → σc.H[j]? = some (some csc) → ∃ cs, σ.H[q]? = some (some cs) ∧ (∀ us, repDs g cs us → repDs (gIn g qs) csc us) ∧ ∀ c ∈ csc, c.one = true) : WRep (gIn g qs) σc w where
  n := hlen.symm
  mem := h.mem
  gl := h.gl
  gw := h.gw
  obj := fun j csc hj => by
    have hlt : j < qs.length := by rw [← hlen]; exact (List.getElem?_eq_some_iff.1 hj).1
    have hqj : qs[j]? = some qs[j] := List.getElem?_eq_getElem hlt
    obtain ⟨cs, h1, h2, h3⟩ := hq j _ csc hqj hj
    obtain ⟨us, rest, e, hb, hr, _, hM, hκ⟩ := h.obj _ cs h1
    have e1 : (gIn g qs).β j = g.β qs[j] := by simp only [gIn, getD_get hqj]
    have e2 : (gIn g qs).κ j = g.κ qs[j] := by simp only [gIn, getD_get hqj]
    exact ⟨us, rest, e, by rw [e1]; exact hb, h2 us hr, h3, by rw [e1]; exact hM, by rw [e2]; exact hκ⟩
  inj := fun i j c1 c2 hi hj hij => by
    have hlti : i < qs.length := by rw [← hlen]; exact (List.getElem?_eq_some_iff.1 hi).1
    have hltj : j < qs.length := by rw [← hlen]; exact (List.getElem?_eq_some_iff.1 hj).1
    have hqi : qs[i]? = some qs[i] := List.getElem?_eq_getElem hlti
    have hqj : qs[j]? = some qs[j] := List.getElem?_eq_getElem hltj
    obtain ⟨ci, h1, _⟩ := hq i _ c1 hqi hi
    obtain ⟨cj, h2, _⟩ := hq j _ c2 hqj hj
    simp only [gIn, getD_get hqi, getD_get hqj] at hij
    have := h.inj _ _ _ _ h1 h2 hij
    exact (List.getElem_inj hnd).1 this
  own := fun k sz xs hx => by rw [hown] at hx; simp at hx
  tags := by rw [hown]; simp
  sep := fun x hx => by rw [hown] at hx; simp at hx
  ownObj := fun x hx => by rw [hown] at hx; simp at hx
  fresh := fun _ _ _ => rfl

/-- the ghost behind the call -/
def gOut (g gc' : Gh) (k : Nat) (own' : List (Nat × Nat × List V)) (τ : Nat → Nat) : Gh :=
  { M := gc'.M, n := g.n + (gc'.n - k), β := fun j => if j < g.n then g.β j else gc'.β (k + (j - g.n)), κ := fun j => if j < g.n then g.κ j else gc'.κ (k + (j - g.n)),
    ι := fun t m => match own'.find? (fun x => τ x.1 == t) with | some x => gc'.ι x.1 m | none => g.ι t m }

theorem find_tag {own' : List (Nat × Nat × List V)} {τ : Nat → Nat} (hτ : ∀ x ∈ own', ∀ y ∈ own', τ x.1 = τ y.1 → x.1 = y.1) {y : Nat × Nat × List V} (hy : y ∈ own') : ∃ x, own'.find? (fun x => τ x.1 == τ y.1) = some x ∧ x.1 = y.1 := by
  cases h : own'.find? (fun x => τ x.1 == τ y.1) with
  | none => have := List.find?_eq_none.1 h y hy; simp at this
  | some x => exact ⟨x, rfl, hτ x (List.mem_of_find?_eq_some h) y hy (by have := List.find?_some h; simpa using this)⟩
theorem find_none {own' : List (Nat × Nat × List V)} {τ : Nat → Nat} {t : Nat} (h : ∀ x ∈ own', τ x.1 ≠ t) : own'.find? (fun x => τ x.1 == t) = none := List.find?_eq_none.2 fun x hx => by simp [h x hx]

/-- own entries under the caller's tags -/
def renOwn (τ : Nat → Nat) (own' : List (Nat × Nat × List V)) : List (Nat × Nat × List V) := own'.map fun x => (τ x.1, x.2)

theorem gOut_ι {g gc' : Gh} {k : Nat} {own' : List (Nat × Nat × List V)} {τ : Nat → Nat} (hτ : ∀ x ∈ own', ∀ y ∈ own', τ x.1 = τ y.1 → x.1 = y.1) {y : Nat × Nat × List V} (hy : y ∈ own') (m : Nat) : (gOut g gc' k own' τ).ι (τ y.1) m = gc'.ι y.1 m := by
  obtain ⟨x, h1, h2⟩ := find_tag hτ hy
  simp only [gOut, h1, h2]
theorem gOut_ι_old {g gc' : Gh} {k : Nat} {own' : List (Nat × Nat × List V)} {τ : Nat → Nat} {t : Nat} (h : ∀ x ∈ own', τ x.1 ≠ t) (m : Nat) : (gOut g gc' k own' τ).ι t m = g.ι t m := by
  simp only [gOut, find_none h]

theorem WI.back {E : Ent} {g gc' : Gh} {σ σc σc' : St} {w w' : World} (hw : WI E g σ w) {qs : List Nat} (hown : σc.own = []) (hlen : σc.H.length = qs.length)
    (hq : ∀ (j q : Nat), qs[j]? = some q → ∃ cs, σ.H[q]? = some (some cs)) (h : WI ⟨gIn g qs, w, σc⟩ gc' σc' w') {τ : Nat → Nat} (hτ : ∀ x ∈ σc'.own, ∀ y ∈ σc'.own, τ x.1 = τ y.1 → x.1 = y.1)
    (hfr : ∀ x ∈ σc'.own, ∀ y ∈ σ.own, τ x.1 ≠ y.1) {H2 : List (Option (List D))} (hlen2 : H2.length = σc'.H.length)
    (hout : ∀ (j : Nat) (cs2 : List D), H2[j]? = some (some cs2) → ∃ csc, σc'.H[j]? = some (some csc) ∧ (∀ us, repDs gc' csc us → repDs (gOut g gc' qs.length σc'.own τ) cs2 us) ∧ ∀ c ∈ cs2, c.one = true) :
    WI E (gOut g gc' qs.length σc'.own τ) ⟨backH σ.H qs H2, renOwn τ σc'.own ++ σ.own⟩ w' ∧ g.le (gOut g gc' qs.length σc'.own τ) := by
  have hn' : gc'.n = σc'.H.length := h.rep.n
  have hkn : qs.length ≤ gc'.n := h.nE
  have hgn : g.n = σ.H.length := hw.rep.n
  have hold : ∀ y ∈ σ.own, ∀ x ∈ σc'.own, τ x.1 ≠ y.1 := fun y hy x hx => hfr x hx y hy
  have hle : g.le (gOut g gc' qs.length σc'.own τ) := by
    refine ⟨h.M, Nat.le_add_right _ _, fun o ho => if_pos ho, fun t m u ht => ?_, fun o ho => if_pos ho⟩
    by_cases hx : ∃ x ∈ σc'.own, τ x.1 = t
    · obtain ⟨x, hx, rfl⟩ := hx
      rw [hw.rep.fresh (τ x.1) (fun y hy e => hfr x hx y hy e.symm) m] at ht
      simp at ht
    · rw [gOut_ι_old (fun x hx' e => hx ⟨x, hx', e⟩)]; exact ht
  -- the callee's blocks
  have hpriv : ∀ b, Ent.priv ⟨gIn g qs, w, σc⟩ b → ∃ (j q : Nat), qs[j]? = some q ∧ b = g.β q := by
    rintro b (⟨j, cs, hj, e⟩ | ⟨x, hx, _⟩)
    · have hlt : j < qs.length := by rw [← hlen]; exact (List.getElem?_eq_some_iff.1 hj).1
      have hqj : qs[j]? = some qs[j] := List.getElem?_eq_getElem hlt
      exact ⟨j, _, hqj, by rw [e]; simp only [gIn, getD_get hqj]⟩
    · simp only [hown] at hx; simp at hx
  have hβ : ∀ j, j < gc'.n → (gOut g gc' qs.length σc'.own τ).β (rho σ.H.length qs j) = gc'.β j ∧ (gOut g gc' qs.length σc'.own τ).κ (rho σ.H.length qs j) = gc'.κ j := by
    intro j hj
    by_cases hlt : j < qs.length
    · have hqj : qs[j]? = some qs[j] := List.getElem?_eq_getElem hlt
      obtain ⟨cs, hcs⟩ := hq j _ hqj
      have h1 : qs[j] < g.n := hw.rep.lt_n hcs
      have h2 := h.βE j hlt
      have h3 := h.κE j hlt
      simp only [gIn, getD_get hqj] at h2 h3
      simp only [rho, hqj, gOut, if_pos h1, h2, h3, and_self]
    · have hqj : qs[j]? = none := List.getElem?_eq_none (by omega)
      have h1 : ¬ σ.H.length + (j - qs.length) < g.n := by omega
      have h2 : qs.length + (σ.H.length + (j - qs.length) - g.n) = j := by omega
      simp only [rho, hqj, gOut, if_neg h1, h2, and_self]
  -- what a block of the callee can be
  have hobjc : ∀ (j : Nat) (csc : List D), σc'.H[j]? = some (some csc) → w.heap.size ≤ gc'.β j ∨ ∃ (j' q : Nat), qs[j']? = some q ∧ gc'.β j = g.β q := by
    intro j csc hj
    rcases h.objs j csc hj with h1 | h1
    · exact .inl h1
    · exact .inr (hpriv _ h1)
  have hownc : ∀ x ∈ σc'.own, ∀ u, gc'.ι x.1 x.2.2.length = some u → ∀ b, ownB u = some b → w.heap.size ≤ b ∨ ∃ (j' q : Nat), qs[j']? = some q ∧ b = g.β q := by
    intro x hx u hu b hb
    rcases h.owns x hx u hu b hb with h1 | h1
    · exact .inl h1
    · exact .inr (hpriv _ h1)
  have hoff : ∀ (i : Nat) (cs : List D), σ.H[i]? = some (some cs) → i ∉ qs → ∀ (j q : Nat), qs[j]? = some q → g.β i ≠ g.β q := by
    intro i cs hi hni j q hj e
    obtain ⟨c2, h2⟩ := hq j q hj
    have := hw.rep.inj i q _ _ hi h2 e
    subst this
    exact hni (List.mem_of_getElem? hj)
  have keepOld : ∀ (i : Nat) (cs : List D), σ.H[i]? = some (some cs) → i ∉ qs → w'.heap[g.β i]? = w.heap[g.β i]? ∧ ∀ o, gc'.M (g.β i) o = g.M (g.β i) o := by
    intro i cs hi hni
    refine h.keep (g.β i) (hw.rep.obj_lt hi) (fun hp => ?_)
    obtain ⟨j, q, hj, e⟩ := hpriv _ hp
    exact hoff i cs hi hni j q hj e
  have keepOwn : ∀ x ∈ σ.own, ∀ u, g.ι x.1 x.2.2.length = some u → ∀ b, ownB u = some b → (b < w.heap.size ∧ ∀ (j q : Nat), qs[j]? = some q → b ≠ g.β q) ∧ w'.heap[b]? = w.heap[b]? ∧ ∀ o, gc'.M b o = g.M b o := by
    intro x hx u hu b hb
    have hlt := hw.rep.own_lt hx hu hb
    have hne : ∀ (j q : Nat), qs[j]? = some q → b ≠ g.β q := fun j q hj e => by
      obtain ⟨c2, h2⟩ := hq j q hj
      exact hw.rep.ownObj x hx u hu b hb q c2 h2 e.symm
    refine ⟨⟨hlt, hne⟩, h.keep b hlt (fun hp => ?_)⟩
    obtain ⟨j, q, hj, e⟩ := hpriv _ hp
    exact hne j q hj e
  have get : ∀ {i : Nat} {cs : List D}, (backH σ.H qs H2)[i]? = some (some cs) → (∃ j, rho σ.H.length qs j = i ∧ H2[j]? = some (some cs) ∧ j < gc'.n) ∨ (i < σ.H.length ∧ i ∉ qs ∧ σ.H[i]? = some (some cs)) := by
    intro i cs hi
    rcases backH_get qs σ.H H2 (by omega) hi with ⟨j, h1, h2⟩ | h1
    · exact .inl ⟨j, h1, h2, by rw [hn', ← hlen2]; exact (List.getElem?_eq_some_iff.1 h2).1⟩
    · exact .inr h1
  have memO : ∀ {x : Nat × Nat × List V}, x ∈ renOwn τ σc'.own ++ σ.own → (∃ y ∈ σc'.own, x = (τ y.1, y.2)) ∨ x ∈ σ.own := by
    intro x hx
    rcases List.mem_append.1 hx with hx | hx
    · obtain ⟨y, hy, e⟩ := List.mem_map.1 hx; exact .inl ⟨y, hy, e.symm⟩
    · exact .inr hx
  refine ⟨hw.update (fun b => ∃ (j q : Nat), qs[j]? = some q ∧ b = g.β q) ?_ (fun b hb hx => h.keep b hb (fun hp => hx (hpriv b hp))) h.M (Nat.le_add_right _ _) (fun o ho => if_pos ho) (fun o ho => if_pos ho) h.size h.os h.tape h.output ?_ ?_ ?_ (drawn := h.drawn), hle⟩
  · rintro b ⟨j, q, hj, rfl⟩
    obtain ⟨c2, h2⟩ := hq j q hj
    exact hw.objs q c2 h2
  · refine ⟨?_, h.rep.mem, fun i cs hi => ?_, fun i j c1 c2 hi hj hij => ?_, fun k sz xs hx => ?_, ?_, fun x hx y hy hne u u' hu hu' b hb => ?_, fun x hx u hu b hb i cs hi => ?_, fun k hk m => ?_, h.rep.gl, h.rep.gw⟩
    · simp only [gOut]; rw [backH_length qs _ _ (by omega)]; omega
    · rcases get hi with ⟨j, rfl, h2, hj⟩ | ⟨h1, h2, h3⟩
      · obtain ⟨csc, h4, h5, h6⟩ := hout j cs h2
        obtain ⟨us, rest, e, hb, hr, _, hM, hκ⟩ := h.rep.obj j csc h4
        obtain ⟨e1, e2⟩ := hβ j hj
        exact ⟨us, rest, e, by rw [e1]; exact hb, h5 us hr, h6, by rw [e1]; exact hM, by rw [e2]; exact hκ⟩
      · obtain ⟨us, rest, e, hb, hr, h4, hM, hκ⟩ := hw.rep.obj i cs h3
        obtain ⟨k1, k2⟩ := keepOld i cs h3 h2
        have e1 : (gOut g gc' qs.length σc'.own τ).β i = g.β i := if_pos (by omega)
        have e2 : (gOut g gc' qs.length σc'.own τ).κ i = g.κ i := if_pos (by omega)
        exact ⟨us, rest, e, by rw [e1]; exact k1.trans hb, repDs.mono hle _ _ hr, h4, by rw [e1]; exact fun o => (k2 o).trans (hM o), by rw [e2]; exact hκ⟩
    · rcases get hi with ⟨ji, rfl, h2, hji⟩ | ⟨h1, h2, h3⟩ <;> rcases get hj with ⟨jj, rfl, h5, hjj⟩ | ⟨h4, h5, h6⟩
      · rw [(hβ ji hji).1, (hβ jj hjj).1] at hij
        obtain ⟨ci, hci, _⟩ := hout ji _ h2
        obtain ⟨cj, hcj, _⟩ := hout jj _ h5
        rw [h.rep.inj ji jj _ _ hci hcj hij]
      · rw [(hβ ji hji).1, show (gOut g gc' qs.length σc'.own τ).β j = g.β j from if_pos (by omega)] at hij
        obtain ⟨ci, hci, _⟩ := hout ji _ h2
        have hlt := hw.rep.obj_lt h6
        rcases hobjc ji ci hci with h7 | ⟨j', q, h7, h8⟩
        · omega
        · exact absurd (hij.symm.trans h8) (hoff j _ h6 h5 j' q h7)
      · rw [(hβ jj hjj).1, show (gOut g gc' qs.length σc'.own τ).β i = g.β i from if_pos (by omega)] at hij
        obtain ⟨cj, hcj, _⟩ := hout jj _ h5
        have hlt := hw.rep.obj_lt h3
        rcases hobjc jj cj hcj with h7 | ⟨j', q, h7, h8⟩
        · omega
        · exact absurd (hij.trans h8) (hoff i _ h3 h2 j' q h7)
      · rw [show (gOut g gc' qs.length σc'.own τ).β i = g.β i from if_pos (by omega), show (gOut g gc' qs.length σc'.own τ).β j = g.β j from if_pos (by omega)] at hij
        exact hw.rep.inj i j _ _ h3 h6 hij
    · rcases memO hx with ⟨y, hy, e⟩ | hx
      · simp only [Prod.mk.injEq] at e
        obtain ⟨rfl, e2⟩ := e
        obtain ⟨h0, u, hu, h3, h4, h5⟩ := h.rep.own y.1 sz xs (by rw [show (y.1, sz, xs) = y from by rw [e2]]; exact hy)
        exact ⟨h0, u, by rw [gOut_ι hτ hy]; exact hu, h3, h4, fun m hm => by rw [gOut_ι hτ hy]; exact h5 m hm⟩
      · obtain ⟨h0, u, hu, h3, h4, h5⟩ := hw.rep.own k sz xs hx
        exact ⟨h0, u, by rw [gOut_ι_old (hold _ hx)]; exact hu, h3.mono h.M, h4.kept fun b hb => (keepOwn _ hx u hu b hb).2, fun m hm => by rw [gOut_ι_old (hold _ hx)]; exact h5 m hm⟩
    · simp only [List.map_append]
      refine List.nodup_append.2 ⟨?_, hw.rep.tags, fun a ha b hb e => ?_⟩
      · have : (renOwn τ σc'.own).map (·.1) = (σc'.own.map (·.1)).map τ := by simp [renOwn, Function.comp_def]
        rw [this]
        refine List.pairwise_map.2 (List.Pairwise.imp_of_mem ?_ h.rep.tags)
        intro a b ha hb hne e
        obtain ⟨x, hx, rfl⟩ := List.mem_map.1 ha
        obtain ⟨y, hy, rfl⟩ := List.mem_map.1 hb
        exact hne (hτ x hx y hy e)
      · obtain ⟨x, hx, rfl⟩ := List.mem_map.1 ha
        obtain ⟨y, hy, rfl⟩ := List.mem_map.1 hb
        obtain ⟨z, hz, rfl⟩ := List.mem_map.1 hx
        exact hfr z hz y hy e
    · rcases memO hx with ⟨x', hx', rfl⟩ | hx <;> rcases memO hy with ⟨y', hy', rfl⟩ | hy
      · rw [gOut_ι hτ hx'] at hu; rw [gOut_ι hτ hy'] at hu'
        exact h.rep.sep x' hx' y' hy' (fun e => hne (by simp only [e])) u u' hu hu' b hb
      · rw [gOut_ι hτ hx'] at hu; rw [gOut_ι_old (hold _ hy)] at hu'
        intro hb'
        obtain ⟨⟨hlt, hne'⟩, _⟩ := keepOwn y hy u' hu' b hb'
        rcases hownc x' hx' u hu b hb with h7 | ⟨j', q, h7, h8⟩
        · omega
        · exact hne' j' q h7 h8
      · rw [gOut_ι_old (hold _ hx)] at hu; rw [gOut_ι hτ hy'] at hu'
        intro hb'
        obtain ⟨⟨hlt, hne'⟩, _⟩ := keepOwn x hx u hu b hb
        rcases hownc y' hy' u' hu' b hb' with h7 | ⟨j', q, h7, h8⟩
        · omega
        · exact hne' j' q h7 h8
      · rw [gOut_ι_old (hold _ hx)] at hu; rw [gOut_ι_old (hold _ hy)] at hu'
        exact hw.rep.sep x hx y hy hne u u' hu hu' b hb
    · rcases memO hx with ⟨x', hx', rfl⟩ | hx <;> rcases get hi with ⟨ji, rfl, h2, hji⟩ | ⟨h1, h2, h3⟩
      · rw [gOut_ι hτ hx'] at hu
        obtain ⟨ci, hci, _⟩ := hout ji _ h2
        rw [(hβ ji hji).1]
        exact h.rep.ownObj x' hx' u hu b hb ji ci hci
      · rw [gOut_ι hτ hx'] at hu
        rw [show (gOut g gc' qs.length σc'.own τ).β i = g.β i from if_pos (by omega)]
        have hlt := hw.rep.obj_lt h3
        rcases hownc x' hx' u hu b hb with h7 | ⟨j', q, h7, h8⟩
        · omega
        · rw [h8]; exact hoff i _ h3 h2 j' q h7
      · rw [gOut_ι_old (hold _ hx)] at hu
        obtain ⟨ci, hci, _⟩ := hout ji _ h2
        rw [(hβ ji hji).1]
        obtain ⟨⟨hlt, hne'⟩, _⟩ := keepOwn x hx u hu b hb
        rcases hobjc ji ci hci with h7 | ⟨j', q, h7, h8⟩
        · omega
        · rw [h8]; exact fun e => hne' j' q h7 e.symm
      · rw [gOut_ι_old (hold _ hx)] at hu
        rw [show (gOut g gc' qs.length σc'.own τ).β i = g.β i from if_pos (by omega)]
        exact hw.rep.ownObj x hx u hu b hb i cs h3
    · rw [gOut_ι_old (fun x hx e => hk (τ x.1, x.2) (List.mem_append.2 (.inl (List.mem_map.2 ⟨x, hx, rfl⟩))) e)]
      exact hw.rep.fresh k (fun x hx => hk x (List.mem_append.2 (.inr hx))) m
  · intro i cs hi
    rcases get hi with ⟨j, rfl, h2, hj⟩ | ⟨h1, h2, h3⟩
    · obtain ⟨csc, h4, _⟩ := hout j cs h2
      rw [(hβ j hj).1]
      rcases hobjc j csc h4 with h5 | ⟨j', q, h5, h6⟩
      · exact .inl (Nat.le_trans hw.size h5)
      · obtain ⟨c2, h7⟩ := hq j' q h5
        rw [h6]; exact hw.objs q c2 h7
    · rw [show (gOut g gc' qs.length σc'.own τ).β i = g.β i from if_pos (by omega)]
      exact hw.objs i cs h3
  · intro x hx u hu b hb
    rcases memO hx with ⟨x', hx', rfl⟩ | hx
    · rw [gOut_ι hτ hx'] at hu
      rcases hownc x' hx' u hu b hb with h5 | ⟨j', q, h5, h6⟩
      · exact .inl (Nat.le_trans hw.size h5)
      · obtain ⟨c2, h7⟩ := hq j' q h5
        rw [h6]; exact hw.objs q c2 h7
    · rw [gOut_ι_old (hold _ hx)] at hu
      exact hw.owns x hx u hu b hb

/- RENAMING -/
mutual
def D.ren (ρ τ : Nat → Nat) : D → D
  | .v x => .v x
  | .acc t xs => .acc (τ t) xs
  | .ptr o off => .ptr (ρ o) off
  | .arr o off len => .arr (ρ o) off len
  | .gro o len sz => .gro (ρ o) len sz
  | .raw x => .raw x
  | .rv x u => .rv x u
  | .dagg cs => .dagg (D.rens ρ τ cs)
  | .dfn f fs cs => .dfn f (D.rens ρ τ fs) (D.rens ρ τ cs)
  | .tup ds => .tup (D.rens ρ τ ds)
  | .err => .err
  | .undef => .undef
def D.rens (ρ τ : Nat → Nat) : List D → List D
  | [] => []
  | d :: ds => d.ren ρ τ :: D.rens ρ τ ds
end
mutual
/-- objects below n alone, tags out of ts alone -/
def D.okN (n : Nat) (ts : List Nat) : D → Bool
  | .acc t _ => ts.contains t
  | .ptr o _ | .arr o _ _ | .gro o _ _ => decide (o < n)
  | .dagg cs => D.okNs n ts cs
  | .dfn _ fs cs => D.okNs n ts fs && D.okNs n ts cs
  | .tup ds => D.okNs n ts ds
  | _ => true
def D.okNs (n : Nat) (ts : List Nat) : List D → Bool
  | [] => true
  | d :: ds => d.okN n ts && D.okNs n ts ds
end

mutual
/-- representation moves from one ghost to another along a renaming -/
theorem repD_ren {g g' : Gh} {ρ τ ρ' τ' : Nat → Nat} {n : Nat} {ts : List Nat} (hM : ∀ x u, repV g.M x u → repV g'.M x u) (ho : ∀ o, o < n → ρ o < g.n → ρ' o < g'.n ∧ g'.β (ρ' o) = g.β (ρ o) ∧ g'.κ (ρ' o) = g.κ (ρ o))
    (hι : ∀ t, ts.contains t = true → ∀ m u, g.ι (τ t) m = some u → g'.ι (τ' t) m = some u) : ∀ (d : D) (u : Value), d.okN n ts = true → repD g (d.ren ρ τ) u → repD g' (d.ren ρ' τ') u
  | .v x, u, _, h => by simp only [D.ren, repD] at h ⊢; exact hM _ _ h
  | .acc t xs, u, hk, h => by simp only [D.ren, repD] at h ⊢; exact ⟨hM _ _ h.1, hι t (by simpa [D.okN] using hk) _ _ h.2⟩
  | .ptr o off, u, hk, h => by
    simp only [D.okN, decide_eq_true_eq] at hk
    simp only [D.ren, repD] at h ⊢
    obtain ⟨h1, h2, _⟩ := ho o hk h.1
    exact ⟨h1, by rw [h2]; exact h.2⟩
  | .arr o off len, u, hk, h => by
    simp only [D.okN, decide_eq_true_eq] at hk
    simp only [D.ren, repD] at h ⊢
    obtain ⟨h1, h2, _⟩ := ho o hk h.1
    exact ⟨h1, by rw [h2]; exact h.2⟩
  | .gro o len sz, u, hk, h => by
    simp only [D.okN, decide_eq_true_eq] at hk
    simp only [D.ren, repD] at h ⊢
    obtain ⟨h1, h2, h3⟩ := ho o hk h.1
    exact ⟨h1, by rw [h2, h3]; exact h.2⟩
  | .raw x, u, _, h => by simpa only [D.ren, repD] using h
  | .rv x u0, u, _, h => by simp only [D.ren, repD] at h ⊢; exact ⟨h.1, hM _ _ h.2⟩
  | .dagg cs, u, hk, h => by
    simp only [D.ren, repD] at h ⊢
    obtain ⟨us, e, h1⟩ := h
    exact ⟨us, e, repDs_ren hM ho hι cs us (by simpa [D.okN] using hk) h1⟩
  | .dfn f fs cs, u, hk, h => by
    simp only [D.okN, Bool.and_eq_true] at hk
    simp only [D.ren, repD] at h ⊢
    obtain ⟨us, vs, e, h1, h2⟩ := h
    exact ⟨us, vs, e, repDs_ren hM ho hι fs us hk.1 h1, repDs_ren hM ho hι cs vs hk.2 h2⟩
  | .tup ds, u, hk, h => by
    simp only [D.ren, repD] at h ⊢
    obtain ⟨us, e, h1⟩ := h
    exact ⟨us, e, repDs_ren hM ho hι ds us (by simpa [D.okN] using hk) h1⟩
  | .err, u, _, h => by simpa only [D.ren, repD] using h
  | .undef, u, _, _ => by simp only [D.ren, repD]
theorem repDs_ren {g g' : Gh} {ρ τ ρ' τ' : Nat → Nat} {n : Nat} {ts : List Nat} (hM : ∀ x u, repV g.M x u → repV g'.M x u) (ho : ∀ o, o < n → ρ o < g.n → ρ' o < g'.n ∧ g'.β (ρ' o) = g.β (ρ o) ∧ g'.κ (ρ' o) = g.κ (ρ o))
    (hι : ∀ t, ts.contains t = true → ∀ m u, g.ι (τ t) m = some u → g'.ι (τ' t) m = some u) : ∀ (ds : List D) (us : List Value), D.okNs n ts ds = true → repDs g (D.rens ρ τ ds) us → repDs g' (D.rens ρ' τ' ds) us
  | [], us, _, h => by simpa only [D.rens, repDs] using h
  | d :: ds, us, hk, h => by
    simp only [D.okNs, Bool.and_eq_true] at hk
    simp only [D.rens, repDs] at h ⊢
    obtain ⟨u, us', e, h1, h2⟩ := h
    exact ⟨u, us', e, repD_ren hM ho hι d u hk.1 h1, repDs_ren hM ho hι ds us' hk.2 h2⟩
end
mutual
theorem ren_id : ∀ d : D, d.ren id id = d
  | .v _ | .acc .. | .ptr .. | .arr .. | .gro .. | .raw _ | .rv .. | .err | .undef => by simp [D.ren]
  | .dagg cs => by simp [D.ren, rens_id cs]
  | .dfn f fs cs => by simp [D.ren, rens_id fs, rens_id cs]
  | .tup ds => by simp [D.ren, rens_id ds]
theorem rens_id : ∀ ds : List D, D.rens id id ds = ds
  | [] => rfl
  | d :: ds => by simp [D.rens, ren_id d, rens_id ds]
end

mutual
theorem ren_one : ∀ (ρ τ : Nat → Nat) (d : D), (d.ren ρ τ).one = d.one
  | ρ, τ, d => by cases d <;> simp [D.ren, D.one]
end
theorem rens_one {ρ τ : Nat → Nat} : ∀ {ds : List D}, (∀ c ∈ ds, c.one = true) → ∀ c ∈ D.rens ρ τ ds, c.one = true
  | [], _, c, hc => by simp [D.rens] at hc
  | d :: ds, h, c, hc => by
    simp only [D.rens, List.mem_cons] at hc
    rcases hc with rfl | hc
    · rw [ren_one]; exact h d (by simp)
    · exact rens_one (fun c hc => h c (by simp [hc])) c hc

/-- how a value of the caller stands with the callee -/
inductive ArgR (n : Nat) (qs : List Nat) : D → D → Prop
  | ren {dc : D} (h : dc.okN qs.length [] = true) : ArgR n qs (dc.ren (rho n qs) id) dc
  | acc {t : Nat} {xs : List V} : ArgR n qs (.acc t xs) (.v (.list xs))
  | undef {d : D} : ArgR n qs d .undef
inductive ArgsR (n : Nat) (qs : List Nat) : List D → List D → Prop
  | nil : ArgsR n qs [] []
  | cons {d dc : D} {ds dcs : List D} (h : ArgR n qs d dc) (hs : ArgsR n qs ds dcs) : ArgsR n qs (d :: ds) (dc :: dcs)
/-- how the objects handed over stand with the callee -/
inductive ObjsR (H : List (Option (List D))) (qs : List Nat) : List Nat → List (Option (List D)) → Prop
  | nil : ObjsR H qs [] []
  | cons {q : Nat} {js : List Nat} {cs csc : List D} {os : List (Option (List D))} (h : H[q]? = some (some cs)) (ha : ArgsR H.length qs cs csc) (h1 : csc.all D.one = true) (hs : ObjsR H qs js os) : ObjsR H qs (q :: js) (some csc :: os)

theorem ObjsR.length {H : List (Option (List D))} {qs : List Nat} : ∀ {js : List Nat} {os : List (Option (List D))}, ObjsR H qs js os → os.length = js.length
  | _, _, .nil => rfl
  | _, _, .cons _ _ _ hs => by simp [hs.length]
theorem ObjsR.get {H : List (Option (List D))} {qs : List Nat} : ∀ {js : List Nat} {os : List (Option (List D))}, ObjsR H qs js os → ∀ {j q : Nat}, js[j]? = some q → ∃ cs csc, H[q]? = some (some cs) ∧ os[j]? = some (some csc) ∧ ArgsR H.length qs cs csc ∧ ∀ c ∈ csc, c.one = true
  | _, _, .nil, j, q, h => by simp at h
  | _, _, .cons h ha h1 hs, j, q, hj => by
    cases j with
    | zero => simp at hj; subst hj; exact ⟨_, _, h, by simp, ha, by simpa using h1⟩
    | succ j => simp at hj; obtain ⟨cs, csc, h2, h3, h4⟩ := hs.get hj; exact ⟨cs, csc, h2, by simpa using h3, h4⟩

theorem rho_lt {n : Nat} {qs : List Nat} {j : Nat} (h : j < qs.length) : rho n qs j = qs.getD j 0 := by
  have hqj : qs[j]? = some qs[j] := List.getElem?_eq_getElem h
  simp only [rho, hqj, getD_get hqj]

theorem ArgR.rep {g : Gh} {qs : List Nat} {d dc : D} (h : ArgR g.n qs d dc) {u : Value} (hr : repD g d u) : repD (gIn g qs) dc u := by
  cases h with
  | ren hk =>
    have := repD_ren (g := g) (g' := gIn g qs) (ρ := rho g.n qs) (τ := id) (ρ' := id) (τ' := id) (n := qs.length) (ts := []) (fun _ _ h => h) (fun o ho _ => ⟨ho, by simp only [gIn, id, rho_lt ho, and_self]⟩) (fun t ht => by simp at ht) dc u hk hr
    rwa [ren_id] at this
  | acc => simp only [repD] at hr ⊢; exact hr.1
  | undef => simp only [repD]
theorem ArgsR.rep {g : Gh} {qs : List Nat} : ∀ {ds dcs : List D}, ArgsR g.n qs ds dcs → ∀ {us : List Value}, repDs g ds us → repDs (gIn g qs) dcs us
  | _, _, .nil, us, h => by simpa only [repDs] using h
  | _, _, .cons h hs, us, hr => by
    simp only [repDs] at hr ⊢
    obtain ⟨u, us', e, h1, h2⟩ := hr
    exact ⟨u, us', e, h.rep h1, hs.rep h2⟩

def fnParts : D → Option (FuncId × List D × List D)
  | .v (.fn f fs cs) => some (f, fs.map .v, cs.map .v)
  | .dfn f fs cs => some (f, fs, cs)
  | _ => none
theorem fnParts_rep {g : Gh} {d : D} {f : FuncId} {fs cs : List D} (h : fnParts d = some (f, fs, cs)) {u : Value} (hr : repD g d u) : ∃ us vs, u = .func (.func f) us.toArray vs.toArray ∧ repDs g fs us ∧ repDs g cs vs := by
  unfold fnParts at h
  split at h
  · simp only [Option.some.injEq, Prod.mk.injEq] at h
    obtain ⟨rfl, rfl, rfl⟩ := h
    simp only [repD, repV_fn] at hr
    obtain ⟨us, vs, e, h1, h2⟩ := hr
    exact ⟨us, vs, e, repDs_of_L h1, repDs_of_L h2⟩
  · simp only [Option.some.injEq, Prod.mk.injEq] at h
    obtain ⟨rfl, rfl, rfl⟩ := h
    simpa only [repD] using hr
  · simp at h

def okH (n : Nat) (ts : List Nat) : List (Option (List D)) → Bool
  | [] => true
  | some cs :: H => D.okNs n ts cs && okH n ts H
  | none :: H => okH n ts H
theorem okH_get {n : Nat} {ts : List Nat} : ∀ {H : List (Option (List D))}, okH n ts H = true → ∀ {j : Nat} {cs : List D}, H[j]? = some (some cs) → D.okNs n ts cs = true
  | [], _, j, cs, h => by simp at h
  | some c :: H, hk, j, cs, h => by
    simp only [okH, Bool.and_eq_true] at hk
    cases j with
    | zero => simp at h; subst h; exact hk.1
    | succ j => exact okH_get hk.2 (by simpa using h)
  | none :: H, hk, j, cs, h => by
    simp only [okH] at hk
    cases j with
    | zero => simp at h
    | succ j => exact okH_get hk (by simpa using h)
def renH (ρ τ : Nat → Nat) (H : List (Option (List D))) : List (Option (List D)) := H.map (Option.map (D.rens ρ τ))

section
variable {P : Program} {o : Oper} {σ : St}
/-- a call, in general -/
theorem op_callG {c : Call} {fo : Operand} (ho : o.op = .call c) (hc : c.callee = .value fo) {fD : D} {f : FuncId} {fs cs : List D} (hf : fnParts fD = some (f, fs, cs)) {ds dsc : List D} {σc σc' : St} {dc : D} (qs : List Nat) (τ : Nat → Nat)
    (hspec : FSpec P f dsc σc dc σc') (hargs : ArgsR σ.H.length qs (fs ++ ds ++ cs) dsc) (hobjs : ObjsR σ.H qs qs σc.H) (hnd : qs.Nodup) (hown : σc.own = []) (hτ : ∀ x ∈ σc'.own, ∀ y ∈ σc'.own, τ x.1 = τ y.1 → x.1 = y.1)
    (hfr : ∀ x ∈ σc'.own, ∀ y ∈ σ.own, τ x.1 ≠ y.1) (hokd : dc.okN σc'.H.length (σc'.own.map (·.1)) = true) (hokH : okH σc'.H.length (σc'.own.map (·.1)) σc'.H = true) :
    OpOK P o (fD :: ds) σ (dc.ren (rho σ.H.length qs) τ) ⟨backH σ.H qs (renH (rho σ.H.length qs) τ σc'.H), renOwn τ σc'.own ++ σ.own⟩ := by
  intro E g a w K Q hw hds hK
  have hn : g.n = σ.H.length := hw.rep.n
  simp only [ho, Op.operands, Call.operands, hc] at hds
  have h' : repDs g (fD :: ds) (a.eval fo :: c.args.toList.map a.eval) := by simpa using hds
  simp only [repDs] at h'
  obtain ⟨u, us', e, h1, h2⟩ := h'
  simp only [List.cons.injEq] at e
  obtain ⟨e1, e2⟩ := e
  obtain ⟨us, vs, e3, h3, h4⟩ := fnParts_rep hf h1
  refine wp_call (_E := E) (_g := g) ho hc hspec.1 (e1.trans e3) e2 ?_
  rw [← hn] at hargs
  have hq : ∀ (j q : Nat), qs[j]? = some q → ∃ cs csc, σ.H[q]? = some (some cs) ∧ σc.H[j]? = some (some csc) ∧ ArgsR g.n qs cs csc ∧ ∀ c ∈ csc, c.one = true := fun j q hj => by rw [hn]; exact hobjs.get hj
  have hrep : WRep (gIn g qs) σc w := hw.rep.callee hnd hown hobjs.length (fun j q csc hj hcj => by
    obtain ⟨cs, csc', h5, h6, h7, h8⟩ := hq j q hj
    rw [h6] at hcj; simp at hcj; subst hcj
    exact ⟨cs, h5, fun us hr => h7.rep hr, h8⟩)
  refine Calls.mono (hspec.2 _ w _ hrep (hargs.rep (repDs_append (repDs_append h3 h2) h4))) ?_
  rintro e w' ⟨r, gc', rfl, hw', hr⟩
  have hn' : gc'.n = σc'.H.length := hw'.rep.n
  have hkn : qs.length ≤ gc'.n := hw'.nE
  have hρ : ∀ j, j < σc'.H.length → rho σ.H.length qs j < (gOut g gc' qs.length σc'.own τ).n ∧ (gOut g gc' qs.length σc'.own τ).β (rho σ.H.length qs j) = gc'.β j ∧ (gOut g gc' qs.length σc'.own τ).κ (rho σ.H.length qs j) = gc'.κ j := by
    intro j hj
    by_cases hlt : j < qs.length
    · have hqj : qs[j]? = some qs[j] := List.getElem?_eq_getElem hlt
      obtain ⟨cs, _, hcs, _⟩ := hq j _ hqj
      have h5 : qs[j] < g.n := hw.rep.lt_n hcs
      have h6 := hw'.βE j hlt
      have h7 := hw'.κE j hlt
      simp only [gIn, getD_get hqj] at h6 h7
      simp only [rho, hqj, gOut, if_pos h5, h6, h7, and_self, and_true]
      omega
    · have hqj : qs[j]? = none := List.getElem?_eq_none (by omega)
      have h5 : ¬ σ.H.length + (j - qs.length) < g.n := by omega
      have h6 : qs.length + (σ.H.length + (j - qs.length) - g.n) = j := by omega
      simp only [rho, hqj, gOut, if_neg h5, h6, and_self, and_true]
      omega
  have hren : ∀ (dd : D) (v : Value), dd.okN σc'.H.length (σc'.own.map (·.1)) = true → repD gc' dd v → repD (gOut g gc' qs.length σc'.own τ) (dd.ren (rho σ.H.length qs) τ) v := by
    intro dd v hk hv
    refine repD_ren (g := gc') (g' := gOut g gc' qs.length σc'.own τ) (ρ := id) (τ := id) (ρ' := rho σ.H.length qs) (τ' := τ) (n := σc'.H.length) (ts := σc'.own.map (·.1)) (fun _ _ h => h) (fun o ho _ => hρ o ho) (fun t ht m x hx => ?_) dd v hk (by rw [ren_id]; exact hv)
    simp only [List.contains_iff_mem, List.mem_map] at ht
    obtain ⟨y, hy, rfl⟩ := ht
    rw [gOut_ι hτ hy]; exact hx
  have hrens : ∀ (dd : List D) (v : List Value), D.okNs σc'.H.length (σc'.own.map (·.1)) dd = true → repDs gc' dd v → repDs (gOut g gc' qs.length σc'.own τ) (D.rens (rho σ.H.length qs) τ dd) v := by
    intro dd v hk hv
    refine repDs_ren (g := gc') (g' := gOut g gc' qs.length σc'.own τ) (ρ := id) (τ := id) (ρ' := rho σ.H.length qs) (τ' := τ) (n := σc'.H.length) (ts := σc'.own.map (·.1)) (fun _ _ h => h) (fun o ho _ => hρ o ho) (fun t ht m x hx => ?_) dd v hk (by rw [rens_id]; exact hv)
    simp only [List.contains_iff_mem, List.mem_map] at ht
    obtain ⟨y, hy, rfl⟩ := ht
    rw [gOut_ι hτ hy]; exact hx
  obtain ⟨h8, h9⟩ := hw.back hown hobjs.length (fun j q hj => by obtain ⟨cs, _, h5, _⟩ := hq j q hj; exact ⟨cs, h5⟩) hw' hτ hfr (H2 := renH (rho σ.H.length qs) τ σc'.H) (by simp [renH]) (fun j cs2 hj => by
    simp only [renH, List.getElem?_map] at hj
    cases hcj : σc'.H[j]? with
    | none => simp [hcj] at hj
    | some oc =>
      cases oc with
      | none => simp [hcj] at hj
      | some csc =>
        simp [hcj] at hj
        subst hj
        obtain ⟨_, _, _, _, _, h1c, _⟩ := hw'.rep.obj j csc hcj
        exact ⟨csc, rfl, fun us hus => hrens csc us (okH_get hokH hcj) hus, rens_one h1c⟩)
  exact ⟨r, rfl, hK _ _ _ h8 h9 (hren dc r hokd hr)⟩
end
end Go.Dv

namespace Go.Dv

/-- an object is given up -/
theorem WI.kill {E : Ent} {g : Gh} {σ : St} {w : World} (hw : WI E g σ w) {q : Nat} {cs : List D} (hq : σ.H[q]? = some (some cs)) : WI E g ⟨σ.H.set q none, σ.own⟩ w :=
  hw.setObjG (M' := g.M) (oc := none) (Mem.le_refl _) hq (fun _ h => by simp at h) (fun _ _ _ => ⟨rfl, fun _ => rfl⟩) hw.rep.mem (Nat.le_refl _) rfl rfl rfl

theorem set_none_get {H : List (Option (List D))} {q i : Nat} {cs : List D} (h : (H.set q none)[i]? = some (some cs)) : i ≠ q ∧ H[i]? = some (some cs) := by
  rw [List.getElem?_set] at h
  split at h
  · split at h <;> simp at h
  · rename_i e; exact ⟨fun e' => e e'.symm, h⟩

/-- an object under a new number -/
theorem WI.rename {E : Ent} {g : Gh} {σ : St} {w : World} (hw : WI E g σ w) {q : Nat} {cs : List D} (hq : σ.H[q]? = some (some cs)) :
    ∃ g', WI E g' ⟨σ.H.set q none ++ [some cs], σ.own⟩ w ∧ g.le g' ∧ g'.β σ.H.length = g.β q ∧ g'.κ σ.H.length = g.κ q ∧ g'.n = σ.H.length + 1 := by
  obtain ⟨us, rest, e, hb, hr, h1, hM, hκ⟩ := hw.rep.obj q cs hq
  obtain ⟨h2, h3⟩ := (hw.kill hq).addObj (b := g.β q) (us := us) (rest := rest) (e := e) (cs := cs) hb (hw.objs q cs hq) hM
    (fun i ci hi e' => by
      obtain ⟨hne, hi'⟩ := set_none_get hi
      exact hne (hw.rep.inj i q _ _ hi' hq e'))
    (fun x hx u hu hb' => hw.rep.ownObj x hx u hu _ hb' q cs hq rfl) hr h1
  refine ⟨_, h2, h3, ?_, ?_, ?_⟩
  · simp [hw.rep.n]
  · simp only [hw.rep.n, if_true]; exact hκ
  · simp [hw.rep.n]

/-- a new block as a new object, with room behind -/
theorem WI.newObjR {E : Ent} {g : Gh} {σ : St} {w : World} (hw : WI E g σ w) {us rest : List Value} {cs : List D} (e : TypeId) (hr : repDs g cs us) (h1 : ∀ c ∈ cs, c.one = true) :
    ∃ g', WI E g' ⟨σ.H ++ [some cs], σ.own⟩ (w.alloc (.cells (us ++ rest).toArray e)) ∧ g.le g' ∧ g'.β σ.H.length = w.heap.size ∧ g'.κ σ.H.length = (us ++ rest).length ∧ g'.n = σ.H.length + 1 := by
  have h2 := (hw.alloc (.cells (us ++ rest).toArray e)).addObj (b := w.heap.size) (us := us) (rest := rest) (e := e) (cs := cs) (heap_alloc_new w _) (.inl hw.size) (hw.rep.new_none (Nat.le_refl _))
    (fun i cs hi => Nat.ne_of_lt (hw.rep.obj_lt hi)) (fun x hx u hu hb => by have := hw.rep.own_lt hx hu hb; omega) hr h1
  exact ⟨_, h2.1, h2.2, by simp [hw.rep.n], by simp [hw.rep.n], by simp [hw.rep.n]⟩

section
variable {P : Program} {o : Oper} {σ : St} {d : D}

end
end Go.Dv
