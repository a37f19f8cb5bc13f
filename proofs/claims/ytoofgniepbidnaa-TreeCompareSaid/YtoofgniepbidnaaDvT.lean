/-
  Objects lent to a callee that only reads, and objects that become data. No program is named here.
-/
import Derived.Test.YtoofgniepbidnaaDvS
namespace Go.Dv

/-- a slot value, seen as data through objects that are not written meanwhile -/
def lends (L : Nat → Option (List D)) : Nat → D → V → Prop
  | 0, d, x => ∃ d', See1 d d' ∧ d'.toV = some x
  | n + 1, d, x => (∃ d', See1 d d' ∧ d'.toV = some x) ∨
    (∃ o off cs x', d = .ptr o off ∧ x = .ref x' ∧ L o = some cs ∧ ∀ j y, x'.cellsV[j]? = some y → y.isAgg = false ∧ ∃ c, cs[off + j]? = some c ∧ lends L n c y) ∨
    (∃ o off sz cs xs, (d = .arr o off xs.length ∨ (∃ sz', d = .gro o xs.length sz' ∧ off = 0)) ∧ x = .list xs ∧ 0 < sz ∧ (∀ y ∈ xs, y.size = sz) ∧ L o = some cs ∧ ∀ j y, (xs.flatMap V.cellsV)[j]? = some y → y.isAgg = false ∧ ∃ c, cs[off + j]? = some c ∧ lends L n c y)

theorem repA_of {M : Mem} : ∀ {ys : List V} {us : List Value}, us.length = ys.length → (∀ (j : Nat) (y : V), ys[j]? = some y → y.isAgg = false ∧ ∃ v, us[j]? = some v ∧ repV M y v) → repA M ys us
  | [], us, hl, _ => by simp only [repA]; exact List.eq_nil_of_length_eq_zero (by simpa using hl)
  | y :: ys, [], hl, _ => by simp at hl
  | y :: ys, u :: us, hl, h => by
    simp only [repA]
    obtain ⟨h1, v, h2, h3⟩ := h 0 y rfl
    simp at h2; subst h2
    exact ⟨u, us, rfl, h1, (repV_one h1).1 h3, repA_of (by simpa using hl) (fun j y' hj => by have := h (j + 1) y' (by simpa using hj); simpa using this)⟩

theorem repC_of_cellsV {M : Mem} {x : V} {us : List Value} (h : repA M x.cellsV us) : repC M x us := by
  cases x with
  | agg cs => simpa only [V.cellsV, repC] using h
  | _ =>
    simp only [V.cellsV, repA] at h
    obtain ⟨u, us', rfl, _, h1, rfl⟩ := h
    exact h1

theorem cellsV_length (x : V) : x.cellsV.length = x.size := by cases x <;> simp [V.cellsV, V.size]

theorem repE_of_flat {M : Mem} {sz : Nat} : ∀ {xs : List V} {us : List Value}, (∀ y ∈ xs, y.size = sz) → repA M (xs.flatMap V.cellsV) us → repE M sz xs us
  | [], us, _, h => by simpa [repA, repE] using h
  | x :: xs, us, hs, h => by
    simp only [List.flatMap_cons] at h
    have h1 := repA_take h x.cellsV.length
    have h2 := repA_drop h x.cellsV.length
    rw [List.take_left] at h1
    rw [List.drop_left] at h2
    simp only [repE]
    have hl : (us.take x.cellsV.length).length = x.cellsV.length := repA_length h1
    exact ⟨us.take x.cellsV.length, us.drop x.cellsV.length, (List.take_append_drop _ _).symm, by rw [hl, cellsV_length]; exact hs x List.mem_cons_self, repC_of_cellsV h1, repE_of_flat (fun y hy => hs y (List.mem_cons_of_mem _ hy)) h2⟩

theorem lends_rep {g : Gh} {M' : Mem} {L : Nat → Option (List D)} (hM : g.M.le M') (hL : ∀ o cs, L o = some cs → ∃ us, repDs g cs us ∧ inM M' (g.β o) 0 us) : ∀ (n : Nat) (d : D) (x : V) (u : Value), lends L n d x → repD g d u → repV M' x u := by
  have base : ∀ (d : D) (x : V) (u : Value), (∃ d', See1 d d' ∧ d'.toV = some x) → repD g d u → repV M' x u := by
    rintro d x u ⟨d', h1, h2⟩ hr
    exact (toV_rep h2 (h1.rep hr)).mono hM
  intro n
  induction n with
  | zero => intro d x u h hr; exact base d x u (by simpa only [lends] using h) hr
  | succ n ih =>
    intro d x u h hr
    have cells : ∀ (o off : Nat) (cs : List D) (ys : List V), L o = some cs → (∀ (j : Nat) (y : V), ys[j]? = some y → y.isAgg = false ∧ ∃ c, cs[off + j]? = some c ∧ lends L n c y) → ∃ ws, inM M' (g.β o) off ws ∧ repA M' ys ws := by
      intro o off cs ys ho hys
      obtain ⟨us, h1, h2⟩ := hL o cs ho
      have hlen : off + ys.length ≤ us.length ∨ ys = [] := by
        by_cases hn : ys = []
        · exact .inr hn
        · left
          have hp : 0 < ys.length := List.length_pos_iff.2 hn
          obtain ⟨_, c, hc, _⟩ := hys (ys.length - 1) (ys[ys.length - 1]'(by omega)) (List.getElem?_eq_getElem (by omega))
          have := (List.getElem?_eq_some_iff.1 hc).1
          rw [repDs_length h1]; omega
      refine ⟨(us.drop off).take ys.length, ?_, ?_⟩
      · have := inM_take (inM_drop h2 off) ys.length
        simpa using this
      · refine repA_of ?_ (fun j y hj => ?_)
        · rcases hlen with h | h
          · simp; omega
          · simp [h]
        · obtain ⟨h3, c, hc, h4⟩ := hys j y hj
          obtain ⟨v, hv, hrv⟩ := repDs_get h1 hc
          refine ⟨h3, v, ?_, ih c y v h4 hrv⟩
          have hjl := (List.getElem?_eq_some_iff.1 hj).1
          rw [List.getElem?_take, if_pos hjl, List.getElem?_drop]; exact hv
    simp only [lends] at h
    rcases h with h | ⟨o, off, cs, x', rfl, rfl, ho, hc⟩ | ⟨o, off, sz, cs, xs, hd, rfl, hsz, hss, ho, hc⟩
    · exact base d x u h hr
    · obtain ⟨ws, h1, h2⟩ := cells o off cs _ ho hc
      simp only [repD] at hr
      rw [repV_ref]
      exact ⟨g.β o, off, ws, hr.2, h1, repC_of_cellsV h2⟩
    · obtain ⟨ws, h1, h2⟩ := cells o off cs _ ho hc
      have hE := repE_of_flat hss h2
      rw [repV_list]
      rcases hd with rfl | ⟨sz', rfl, rfl⟩
      · simp only [repD] at hr
        obtain ⟨_, cap, hcap, rfl⟩ := hr
        exact ⟨_, cap, rfl, hcap, .inr ⟨g.β o, off, sz, ws, rfl, hsz, h1, hE⟩⟩
      · simp only [repD] at hr
        obtain ⟨_, cap, hcap, _, rfl⟩ := hr
        exact ⟨_, cap, rfl, hcap, .inr ⟨g.β o, 0, sz, ws, rfl, hsz, h1, hE⟩⟩

/- A CALLEE THAT ONLY READS -/
def V.flat : V → Bool
  | .int .. | .bool _ | .str _ | .nilfn | .nilp | .nils => true
  | _ => false
mutual
def D.bor : D → D
  | .v x => if x.flat then .v x else .undef
  | .tup ds => .tup (D.bors ds)
  | _ => .undef
def D.bors : List D → List D
  | [] => []
  | d :: ds => d.bor :: D.bors ds
end
theorem repV_flat {M M' : Mem} {x : V} {u : Value} (hx : x.flat = true) (h : repV M x u) : repV M' x u := by
  cases x <;> simp_all [V.flat]
mutual
theorem repD_bor {g g' : Gh} : ∀ {d : D} {u : Value}, repD g d u → repD g' d.bor u
  | .v x, u, h => by
    simp only [D.bor]
    split
    · simp only [repD] at h ⊢; exact repV_flat (by assumption) h
    · simp only [repD]
  | .tup ds, u, h => by
    simp only [D.bor, repD] at h ⊢
    obtain ⟨us, e, h1⟩ := h
    exact ⟨us, e, repDs_bor h1⟩
  | .acc .., u, h => by simp only [D.bor, repD]
  | .ptr .., u, h => by simp only [D.bor, repD]
  | .arr .., u, h => by simp only [D.bor, repD]
  | .gro .., u, h => by simp only [D.bor, repD]
  | .raw .., u, h => by simp only [D.bor, repD]
  | .rv .., u, h => by simp only [D.bor, repD]
  | .dagg .., u, h => by simp only [D.bor, repD]
  | .dfn .., u, h => by simp only [D.bor, repD]
  | .undef, u, h => by simp only [D.bor, repD]
theorem repDs_bor {g g' : Gh} : ∀ {ds : List D} {us : List Value}, repDs g ds us → repDs g' (D.bors ds) us
  | [], us, h => by simpa only [D.bors, repDs] using h
  | d :: ds, us, h => by
    simp only [D.bors, repDs] at h ⊢
    obtain ⟨u, us', e, h1, h2⟩ := h
    exact ⟨u, us', e, repD_bor h1, repDs_bor h2⟩
end

inductive LendL (L : Nat → Option (List D)) : List D → List V → Prop
  | nil : LendL L [] []
  | cons {n : Nat} {d : D} {x : V} {ds : List D} {xs : List V} (h : lends L n d x) (hs : LendL L ds xs) : LendL L (d :: ds) (x :: xs)
theorem LendL.rep {g : Gh} {M' : Mem} {L : Nat → Option (List D)} (hM : g.M.le M') (hL : ∀ o cs, L o = some cs → ∃ us, repDs g cs us ∧ inM M' (g.β o) 0 us) {gc : Gh} (hgc : gc.M = M') : ∀ {ds : List D} {xs : List V} {us : List Value}, LendL L ds xs → repDs g ds us → repDs gc (xs.map .v) us
  | _, _, us, .nil, h => by simpa only [List.map_nil, repDs] using h
  | _, _, us, .cons h hs, hr => by
    simp only [repDs, List.map_cons, repD] at hr ⊢
    obtain ⟨u, us', e, h1, h2⟩ := hr
    exact ⟨u, us', e, by rw [hgc]; exact lends_rep hM hL _ _ _ _ h h1, hs.rep hM hL hgc h2⟩

section
variable {P : Program} {o : Oper} {σ : St} {d : D}
/-- a call of a function that is handed data only, some of it lying in the caller's objects -/
theorem op_callB {c : Call} {fo : Operand} (ho : o.op = .call c) (hc : c.callee = .value fo) {f : FuncId} {fs cs : List V} {ds : List D} {xs : List V} {d0 : D} (hl : LendL (fun o => (σ.H[o]?).join) ds xs) (hd : d0.bor = d)
    (hspec : FSpec P f (fs.map .v ++ xs.map .v ++ cs.map .v) ⟨[], []⟩ d0 ⟨[], []⟩) : OpOK P o (.v (.fn f fs cs) :: ds) σ d σ := by
  subst hd
  intro E g a w K Q hw hds hK
  obtain ⟨us, vs, ws, hf, hargs, h1, h2, h3⟩ := call_parts ho hc hds
  let M' : Mem := fun b o => w.cell? ⟨b, o, none⟩
  let gc : Gh := { M := M', β := g.β, n := 0, ι := fun _ _ => none, κ := g.κ }
  have hM : g.M.le M' := fun b o v h => hw.rep.mem b o v h
  have hrep : WRep gc ⟨[], []⟩ w := { n := rfl, mem := fun _ _ _ h => h, obj := fun i cs hi => by simp at hi, inj := fun i j cs ds hi => by simp at hi, own := fun k sz xs hx => by simp at hx, tags := by simp, sep := fun x hx => by simp at hx, ownObj := fun x hx => by simp at hx, fresh := fun _ _ _ => rfl }
  have hL : ∀ o cs, (σ.H[o]?).join = some cs → ∃ us, repDs g cs us ∧ inM M' (g.β o) 0 us := by
    intro o cs ho
    have ho' : σ.H[o]? = some (some cs) := by
      cases h : σ.H[o]? with
      | none => simp [h] at ho
      | some c => simp [h] at ho; rw [ho]
    obtain ⟨us, rest, e, hb, hr, _⟩ := hw.rep.obj o cs ho'
    refine ⟨us, hr, fun j v hj => ?_⟩
    simp only [M', World.cell?, hb, Nat.zero_add, List.getElem?_toArray]; exact get_app hj
  have hmono : ∀ (l : List V) (us : List Value), repDs g (l.map .v) us → repDs gc (l.map .v) us := by
    intro l
    induction l with
    | nil => intro us h; simpa only [List.map_nil, repDs] using h
    | cons x l ih =>
      intro us h
      simp only [List.map_cons, repDs, repD] at h ⊢
      obtain ⟨u, us', e, h4, h5⟩ := h
      exact ⟨u, us', e, h4.mono hM, ih _ h5⟩
  refine wp_call (_E := E) (_g := g) ho hc hspec.1 hf hargs ?_
  refine Calls.mono (hspec.2 gc w _ hrep (repDs_append (repDs_append (hmono _ _ h1) (hl.rep hM hL rfl h3)) (hmono _ _ h2))) ?_
  rintro e w' ⟨r, gc', rfl, hw', hr⟩
  refine ⟨r, rfl, hK g w' r ?_ g.le_refl (repD_bor hr)⟩
  refine hw.grow (Mem.le_refl _) (fun b hb => ⟨(hw'.keep b hb not_priv).1, fun _ => rfl⟩) (fun b o v hm => ?_) hw'.size hw'.os hw'.tape hw'.output
  have hlt := hw.rep.mem_lt hm
  have := hw.rep.mem b o v hm
  simp only [World.cell?] at this ⊢
  rw [(hw'.keep b hlt not_priv).1]; exact this
end

/- OBJECTS THAT BECOME DATA -/
def killH (F : List Nat) (H : List (Option (List D))) : List (Option (List D)) := F.foldl (fun H q => H.set q none) H
theorem killH_length : ∀ (F : List Nat) (H : List (Option (List D))), (killH F H).length = H.length
  | [], H => rfl
  | q :: F, H => by simp only [killH, List.foldl_cons]; exact (killH_length F _).trans (by simp)
theorem killH_get : ∀ (F : List Nat) (H : List (Option (List D))) {i : Nat} {cs : List D}, (killH F H)[i]? = some (some cs) → i ∉ F ∧ H[i]? = some (some cs)
  | [], H, i, cs, h => ⟨by simp, h⟩
  | q :: F, H, i, cs, h => by
    simp only [killH, List.foldl_cons] at h
    obtain ⟨h1, h2⟩ := killH_get F _ h
    obtain ⟨h3, h4⟩ := set_none_get h2
    exact ⟨by simp [h1, h3], h4⟩

/-- slots seen as data -/
inductive Fz (L : Nat → Option (List D)) : List D → List D → Prop
  | nil : Fz L [] []
  | keep {d : D} {ds ds' : List D} (hs : Fz L ds ds') : Fz L (d :: ds) (d :: ds')
  | view {n : Nat} {d : D} {x : V} {ds ds' : List D} (h : lends L n d x) (hs : Fz L ds ds') : Fz L (d :: ds) (.v x :: ds')
theorem Fz.rep {g g' : Gh} {L : Nat → Option (List D)} (hg : g.le g') (hL : ∀ o cs, L o = some cs → ∃ us, repDs g cs us ∧ inM g'.M (g.β o) 0 us) : ∀ {ds ds' : List D} {us : List Value}, Fz L ds ds' → repDs g ds us → repDs g' ds' us
  | _, _, us, .nil, h => by simpa only [repDs] using h
  | _, _, us, .keep hs, hr => by
    simp only [repDs] at hr ⊢
    obtain ⟨u, us', e, h1, h2⟩ := hr
    exact ⟨u, us', e, repD.mono hg _ _ h1, hs.rep hg hL h2⟩
  | _, _, us, .view h hs, hr => by
    simp only [repDs, repD] at hr ⊢
    obtain ⟨u, us', e, h1, h2⟩ := hr
    exact ⟨u, us', e, lends_rep hg.M hL _ _ _ _ h h1, hs.rep hg hL h2⟩

def lentIn (F : List Nat) (H : List (Option (List D))) (o : Nat) : Option (List D) := if o ∈ F then (H[o]?).join else none

/-- objects become data for good -/
theorem cv_frz {env env' : List D} {σ : St} (F : List Nat) (hz : Fz (lentIn F σ.H) env env') : Cv env σ env' ⟨killH F σ.H, σ.own⟩ := fun E g a w hf => by
  classical
  have hw := hf.wi
  let X : Nat → Prop := fun b => ∃ i ∈ F, ∃ cs, σ.H[i]? = some (some cs) ∧ b = g.β i
  let M' : Mem := fun b o => if X b then w.cell? ⟨b, o, none⟩ else g.M b o
  have hXnone : ∀ b, X b → ∀ o, g.M b o = none := by
    rintro b ⟨i, _, cs, hi, rfl⟩ o
    obtain ⟨_, _, _, _, _, _, h, _⟩ := hw.rep.obj i cs hi
    exact h o
  have hle : g.M.le M' := fun b o v h => by
    simp only [M']
    split
    · exact hw.rep.mem b o v h
    · exact h
  have hg : g.le { g with M := M' } := ⟨hle, Nat.le_refl _, fun _ _ => rfl, fun _ _ _ h => h, fun _ _ => rfl⟩
  have hXother : ∀ i cs, i ∉ F → σ.H[i]? = some (some cs) → ¬ X (g.β i) := by
    rintro i cs hi hH ⟨j, hj, cj, hcj, e⟩
    exact hi (by rw [hw.rep.inj i j _ _ hH hcj e]; exact hj)
  have hXown : ∀ x ∈ σ.own, ∀ u, g.ι x.1 x.2.2.length = some u → ∀ b, ownB u = some b → ¬ X b := by
    rintro x hx u hu b hb ⟨j, hj, cj, hcj, e⟩
    exact hw.rep.ownObj x hx u hu b hb j cj hcj e.symm
  refine ⟨{ g with M := M' }, ?_, hz.rep hg (fun o cs ho => ?_) hf.env, hf.defers⟩
  · refine hw.update X (fun b hb => ?_) (fun b _ hb => ⟨rfl, fun o => by simp only [M', if_neg hb]⟩) hle (Nat.le_refl _) (fun _ _ => rfl) (fun _ _ => rfl) (Nat.le_refl _) rfl rfl rfl ?_ (fun i cs hi => hw.objs i cs (killH_get F _ hi).2) hw.owns
    · obtain ⟨i, _, cs, hi, rfl⟩ := hb; exact hw.objs i cs hi
    · refine ⟨by rw [killH_length]; exact hw.rep.n, fun b o v hm => ?_, fun i cs hi => ?_, fun i j c1 c2 hi hj => hw.rep.inj i j _ _ (killH_get F _ hi).2 (killH_get F _ hj).2, fun k sz xs hx => ?_, hw.rep.tags, hw.rep.sep, fun x hx u hu b hb i cs hi => hw.rep.ownObj x hx u hu b hb i cs (killH_get F _ hi).2, hw.rep.fresh⟩
      · simp only [M'] at hm
        split at hm
        · exact hm
        · exact hw.rep.mem b o v hm
      · obtain ⟨h1, h2⟩ := killH_get F _ hi
        obtain ⟨us, rest, e, h3, h4, h5, h6, h7⟩ := hw.rep.obj i cs h2
        exact ⟨us, rest, e, h3, repDs.mono hg _ _ h4, h5, fun o => by simp only [M', if_neg (hXother i cs h1 h2)]; exact h6 o, h7⟩
      · obtain ⟨h0, u, hu, h3, h4, h5⟩ := hw.rep.own k sz xs hx
        exact ⟨h0, u, hu, h3.mono hle, h4.kept fun b hb => ⟨rfl, fun o => by simp only [M', if_neg (hXown _ hx u hu b hb)]⟩, h5⟩
  · simp only [lentIn] at ho
    split at ho
    · rename_i hF
      have ho' : σ.H[o]? = some (some cs) := by
        cases h : σ.H[o]? with
        | none => simp [h] at ho
        | some c => simp [h] at ho; rw [ho]
      obtain ⟨us, rest, e, hb, hr, _⟩ := hw.rep.obj o cs ho'
      refine ⟨us, hr, fun j v hj => ?_⟩
      simp only [M', if_pos (show X (g.β o) from ⟨o, hF, cs, ho', rfl⟩), World.cell?, hb, Nat.zero_add, List.getElem?_toArray]
      exact get_app hj
    · simp at ho

end Go.Dv
