/-
  One rule for calls: the callee is handed objects of the caller, hands them back changed or moved, with new objects and new owned lists. No program is named here.
-/
import Derived.Test.YtoofgniepbidnaaDvN
namespace Go.Dv

/-- objects handed back: the handed ones in their places, new ones behind -/
def backH : List (Option (List D)) → List Nat → List (Option (List D)) → List (Option (List D))
  | H, q :: qs, o :: os => backH (H.set q o) qs os
  | H, [], os => H ++ os
  | H, _ :: _, [] => H
def rho (n : Nat) (qs : List Nat) (j : Nat) : Nat := match qs[j]? with
  | some q => q
  | none => n + (j - qs.length)

theorem backH_length : ∀ (qs : List Nat) (H os : List (Option (List D))), qs.length ≤ os.length → (backH H qs os).length = H.length + (os.length - qs.length)
  | [], H, os, _ => by simp [backH]
  | q :: qs, H, [], h => by simp at h
  | q :: qs, H, o :: os, h => by
    simp only [backH]
    rw [backH_length qs _ os (by simpa using h)]
    simp

theorem backH_get : ∀ (qs : List Nat) (H os : List (Option (List D))), qs.length ≤ os.length → ∀ {i : Nat} {cs : List D}, (backH H qs os)[i]? = some (some cs) →
    (∃ j, rho H.length qs j = i ∧ os[j]? = some (some cs)) ∨ (i < H.length ∧ i ∉ qs ∧ H[i]? = some (some cs))
  | [], H, os, _, i, cs, h => by
    simp only [backH] at h
    by_cases hi : i < H.length
    · rw [List.getElem?_append_left hi] at h
      exact .inr ⟨hi, by simp, h⟩
    · rw [List.getElem?_append_right (by omega)] at h
      exact .inl ⟨i - H.length, by simp [rho]; omega, h⟩
  | q :: qs, H, [], h, _, _, _ => by simp at h
  | q :: qs, H, o :: os, h, i, cs, hg => by
    simp only [backH] at hg
    rcases backH_get qs (H.set q o) os (by simpa using h) hg with ⟨j, h1, h2⟩ | ⟨h1, h2, h3⟩
    · refine .inl ⟨j + 1, ?_, by simpa using h2⟩
      rw [← h1]
      simp [rho]
    · simp only [List.length_set] at h1
      rw [List.getElem?_set] at h3
      split at h3
      · rename_i e; subst e
        simp only [h1, if_true, Option.some.injEq] at h3
        exact .inl ⟨0, by simp [rho], by simp [h3]⟩
      · rename_i e
        exact .inr ⟨h1, by simp only [List.mem_cons, not_or]; exact ⟨fun e' => e e'.symm, h2⟩, h3⟩

/-- the ghost that a callee begins with -/
def gIn (g : Gh) (qs : List Nat) : Gh := { M := g.M, β := fun j => g.β (qs.getD j 0), n := qs.length, ι := fun _ _ => none, κ := fun j => g.κ (qs.getD j 0) }

theorem getD_get {qs : List Nat} {j q : Nat} (h : qs[j]? = some q) : qs.getD j 0 = q := by simp [List.getD_eq_getElem?_getD, h]

theorem WRep.callee {g : Gh} {σ σc : St} {w : World} (h : WRep g σ w) {qs : List Nat} (hnd : qs.Nodup) (hown : σc.own = []) (hlen : σc.H.length = qs.length)
    (hq : ∀ (j q : Nat) (csc : List D), qs[j]? = some q → σc.H[j]? = some (some csc) → ∃ cs, σ.H[q]? = some (some cs) ∧ (∀ us, repDs g cs us → repDs (gIn g qs) csc us) ∧ ∀ c ∈ csc, c.one = true) : WRep (gIn g qs) σc w where
  n := hlen.symm
  mem := h.mem
  obj := fun j csc hj => by
    have hlt : j < qs.length := by rw [← hlen]; exact (List.getElem?_eq_some_iff.1 hj).1
    have hqj : qs[j]? = some qs[j] := List.getElem?_eq_getElem hlt
    obtain ⟨cs, h1, h2, h3⟩ := hq j _ csc hqj hj
    obtain ⟨us, rest, e, hb, hr, _, hM, hκ⟩ := h.obj _ cs h1
    have e1 : (gIn g qs).β j = g.β qs[j] := by simp only [gIn, getD_get hqj]
    have e2 : (gIn g qs).κ j = g.κ qs[j] := by simp only [gIn, getD_get hqj]
    exact ⟨us, rest, e, by rw [e1]; exact hb, h2 us hr, h3, by rw [e1]; exact hM, by rw [e2]; exact hκ⟩
  inj := fun i j c1 c2 hi hj hij => by
    have hlti : i < qs.length := by rw [← hlen]; exact (List.getElem?_eq_some_iff.1 hi).1
    have hltj : j < qs.length := by rw [← hlen]; exact (List.getElem?_eq_some_iff.1 hj).1
    have hqi : qs[i]? = some qs[i] := List.getElem?_eq_getElem hlti
    have hqj : qs[j]? = some qs[j] := List.getElem?_eq_getElem hltj
    obtain ⟨ci, h1, _⟩ := hq i _ c1 hqi hi
    obtain ⟨cj, h2, _⟩ := hq j _ c2 hqj hj
    simp only [gIn, getD_get hqi, getD_get hqj] at hij
    have := h.inj _ _ _ _ h1 h2 hij
    exact (List.getElem_inj hnd).1 this
  own := fun k sz xs hx => by rw [hown] at hx; simp at hx
  tags := by rw [hown]; simp
  sep := fun x hx => by rw [hown] at hx; simp at hx
  ownObj := fun x hx => by rw [hown] at hx; simp at hx
  fresh := fun _ _ _ => rfl

/-- the ghost behind the call -/
def gOut (g gc' : Gh) (k : Nat) (own' : List (Nat × Nat × List V)) (τ : Nat → Nat) : Gh :=
  { M := gc'.M, n := g.n + (gc'.n - k), β := fun j => if j < g.n then g.β j else gc'.β (k + (j - g.n)), κ := fun j => if j < g.n then g.κ j else gc'.κ (k + (j - g.n)),
    ι := fun t m => match own'.find? (fun x => τ x.1 == t) with | some x => gc'.ι x.1 m | none => g.ι t m }

theorem find_tag {own' : List (Nat × Nat × List V)} {τ : Nat → Nat} (hτ : ∀ x ∈ own', ∀ y ∈ own', τ x.1 = τ y.1 → x.1 = y.1) {y : Nat × Nat × List V} (hy : y ∈ own') : ∃ x, own'.find? (fun x => τ x.1 == τ y.1) = some x ∧ x.1 = y.1 := by
  cases h : own'.find? (fun x => τ x.1 == τ y.1) with
  | none => have := List.find?_eq_none.1 h y hy; simp at this
  | some x => exact ⟨x, rfl, hτ x (List.mem_of_find?_eq_some h) y hy (by have := List.find?_some h; simpa using this)⟩
theorem find_none {own' : List (Nat × Nat × List V)} {τ : Nat → Nat} {t : Nat} (h : ∀ x ∈ own', τ x.1 ≠ t) : own'.find? (fun x => τ x.1 == t) = none := List.find?_eq_none.2 fun x hx => by simp [h x hx]

/-- own entries under the caller's tags -/
def renOwn (τ : Nat → Nat) (own' : List (Nat × Nat × List V)) : List (Nat × Nat × List V) := own'.map fun x => (τ x.1, x.2)

theorem gOut_ι {g gc' : Gh} {k : Nat} {own' : List (Nat × Nat × List V)} {τ : Nat → Nat} (hτ : ∀ x ∈ own', ∀ y ∈ own', τ x.1 = τ y.1 → x.1 = y.1) {y : Nat × Nat × List V} (hy : y ∈ own') (m : Nat) : (gOut g gc' k own' τ).ι (τ y.1) m = gc'.ι y.1 m := by
  obtain ⟨x, h1, h2⟩ := find_tag hτ hy
  simp only [gOut, h1, h2]
theorem gOut_ι_old {g gc' : Gh} {k : Nat} {own' : List (Nat × Nat × List V)} {τ : Nat → Nat} {t : Nat} (h : ∀ x ∈ own', τ x.1 ≠ t) (m : Nat) : (gOut g gc' k own' τ).ι t m = g.ι t m := by
  simp only [gOut, find_none h]

theorem WI.back {E : Ent} {g gc' : Gh} {σ σc σc' : St} {w w' : World} (hw : WI E g σ w) {qs : List Nat} (hown : σc.own = []) (hlen : σc.H.length = qs.length)
    (hq : ∀ (j q : Nat), qs[j]? = some q → ∃ cs, σ.H[q]? = some (some cs)) (h : WI ⟨gIn g qs, w, σc⟩ gc' σc' w') {τ : Nat → Nat} (hτ : ∀ x ∈ σc'.own, ∀ y ∈ σc'.own, τ x.1 = τ y.1 → x.1 = y.1)
    (hfr : ∀ x ∈ σc'.own, ∀ y ∈ σ.own, τ x.1 ≠ y.1) {H2 : List (Option (List D))} (hlen2 : H2.length = σc'.H.length)
    (hout : ∀ (j : Nat) (cs2 : List D), H2[j]? = some (some cs2) → ∃ csc, σc'.H[j]? = some (some csc) ∧ (∀ us, repDs gc' csc us → repDs (gOut g gc' qs.length σc'.own τ) cs2 us) ∧ ∀ c ∈ cs2, c.one = true) :
    WI E (gOut g gc' qs.length σc'.own τ) ⟨backH σ.H qs H2, renOwn τ σc'.own ++ σ.own⟩ w' ∧ g.le (gOut g gc' qs.length σc'.own τ) := by
  have hn' : gc'.n = σc'.H.length := h.rep.n
  have hkn : qs.length ≤ gc'.n := h.nE
  have hgn : g.n = σ.H.length := hw.rep.n
  have hold : ∀ y ∈ σ.own, ∀ x ∈ σc'.own, τ x.1 ≠ y.1 := fun y hy x hx => hfr x hx y hy
  have hle : g.le (gOut g gc' qs.length σc'.own τ) := by
    refine ⟨h.M, Nat.le_add_right _ _, fun o ho => if_pos ho, fun t m u ht => ?_, fun o ho => if_pos ho⟩
    by_cases hx : ∃ x ∈ σc'.own, τ x.1 = t
    · obtain ⟨x, hx, rfl⟩ := hx
      rw [hw.rep.fresh (τ x.1) (fun y hy e => hfr x hx y hy e.symm) m] at ht
      simp at ht
    · rw [gOut_ι_old (fun x hx' e => hx ⟨x, hx', e⟩)]; exact ht
  -- the callee's blocks
  have hpriv : ∀ b, Ent.priv ⟨gIn g qs, w, σc⟩ b → ∃ (j q : Nat), qs[j]? = some q ∧ b = g.β q := by
    rintro b (⟨j, cs, hj, e⟩ | ⟨x, hx, _⟩)
    · have hlt : j < qs.length := by rw [← hlen]; exact (List.getElem?_eq_some_iff.1 hj).1
      have hqj : qs[j]? = some qs[j] := List.getElem?_eq_getElem hlt
      exact ⟨j, _, hqj, by rw [e]; simp only [gIn, getD_get hqj]⟩
    · simp only [hown] at hx; simp at hx
  have hβ : ∀ j, j < gc'.n → (gOut g gc' qs.length σc'.own τ).β (rho σ.H.length qs j) = gc'.β j ∧ (gOut g gc' qs.length σc'.own τ).κ (rho σ.H.length qs j) = gc'.κ j := by
    intro j hj
    by_cases hlt : j < qs.length
    · have hqj : qs[j]? = some qs[j] := List.getElem?_eq_getElem hlt
      obtain ⟨cs, hcs⟩ := hq j _ hqj
      have h1 : qs[j] < g.n := hw.rep.lt_n hcs
      have h2 := h.βE j hlt
      have h3 := h.κE j hlt
      simp only [gIn, getD_get hqj] at h2 h3
      simp only [rho, hqj, gOut, if_pos h1, h2, h3, and_self]
    · have hqj : qs[j]? = none := List.getElem?_eq_none (by omega)
      have h1 : ¬ σ.H.length + (j - qs.length) < g.n := by omega
      have h2 : qs.length + (σ.H.length + (j - qs.length) - g.n) = j := by omega
      simp only [rho, hqj, gOut, if_neg h1, h2, and_self]
  -- what a block of the callee can be
  have hobjc : ∀ (j : Nat) (csc : List D), σc'.H[j]? = some (some csc) → w.heap.size ≤ gc'.β j ∨ ∃ (j' q : Nat), qs[j']? = some q ∧ gc'.β j = g.β q := by
    intro j csc hj
    rcases h.objs j csc hj with h1 | h1
    · exact .inl h1
    · exact .inr (hpriv _ h1)
  have hownc : ∀ x ∈ σc'.own, ∀ u, gc'.ι x.1 x.2.2.length = some u → ∀ b, ownB u = some b → w.heap.size ≤ b ∨ ∃ (j' q : Nat), qs[j']? = some q ∧ b = g.β q := by
    intro x hx u hu b hb
    rcases h.owns x hx u hu b hb with h1 | h1
    · exact .inl h1
    · exact .inr (hpriv _ h1)
  have hoff : ∀ (i : Nat) (cs : List D), σ.H[i]? = some (some cs) → i ∉ qs → ∀ (j q : Nat), qs[j]? = some q → g.β i ≠ g.β q := by
    intro i cs hi hni j q hj e
    obtain ⟨c2, h2⟩ := hq j q hj
    have := hw.rep.inj i q _ _ hi h2 e
    subst this
    exact hni (List.mem_of_getElem? hj)
  have keepOld : ∀ (i : Nat) (cs : List D), σ.H[i]? = some (some cs) → i ∉ qs → w'.heap[g.β i]? = w.heap[g.β i]? ∧ ∀ o, gc'.M (g.β i) o = g.M (g.β i) o := by
    intro i cs hi hni
    refine h.keep (g.β i) (hw.rep.obj_lt hi) (fun hp => ?_)
    obtain ⟨j, q, hj, e⟩ := hpriv _ hp
    exact hoff i cs hi hni j q hj e
  have keepOwn : ∀ x ∈ σ.own, ∀ u, g.ι x.1 x.2.2.length = some u → ∀ b, ownB u = some b → (b < w.heap.size ∧ ∀ (j q : Nat), qs[j]? = some q → b ≠ g.β q) ∧ w'.heap[b]? = w.heap[b]? ∧ ∀ o, gc'.M b o = g.M b o := by
    intro x hx u hu b hb
    have hlt := hw.rep.own_lt hx hu hb
    have hne : ∀ (j q : Nat), qs[j]? = some q → b ≠ g.β q := fun j q hj e => by
      obtain ⟨c2, h2⟩ := hq j q hj
      exact hw.rep.ownObj x hx u hu b hb q c2 h2 e.symm
    refine ⟨⟨hlt, hne⟩, h.keep b hlt (fun hp => ?_)⟩
    obtain ⟨j, q, hj, e⟩ := hpriv _ hp
    exact hne j q hj e
  have get : ∀ {i : Nat} {cs : List D}, (backH σ.H qs H2)[i]? = some (some cs) → (∃ j, rho σ.H.length qs j = i ∧ H2[j]? = some (some cs) ∧ j < gc'.n) ∨ (i < σ.H.length ∧ i ∉ qs ∧ σ.H[i]? = some (some cs)) := by
    intro i cs hi
    rcases backH_get qs σ.H H2 (by omega) hi with ⟨j, h1, h2⟩ | h1
    · exact .inl ⟨j, h1, h2, by rw [hn', ← hlen2]; exact (List.getElem?_eq_some_iff.1 h2).1⟩
    · exact .inr h1
  have memO : ∀ {x : Nat × Nat × List V}, x ∈ renOwn τ σc'.own ++ σ.own → (∃ y ∈ σc'.own, x = (τ y.1, y.2)) ∨ x ∈ σ.own := by
    intro x hx
    rcases List.mem_append.1 hx with hx | hx
    · obtain ⟨y, hy, e⟩ := List.mem_map.1 hx; exact .inl ⟨y, hy, e.symm⟩
    · exact .inr hx
  refine ⟨hw.update (fun b => ∃ (j q : Nat), qs[j]? = some q ∧ b = g.β q) ?_ (fun b hb hx => h.keep b hb (fun hp => hx (hpriv b hp))) h.M (Nat.le_add_right _ _) (fun o ho => if_pos ho) (fun o ho => if_pos ho) h.size h.os h.tape h.output ?_ ?_ ?_, hle⟩
  · rintro b ⟨j, q, hj, rfl⟩
    obtain ⟨c2, h2⟩ := hq j q hj
    exact hw.objs q c2 h2
  · refine ⟨?_, h.rep.mem, fun i cs hi => ?_, fun i j c1 c2 hi hj hij => ?_, fun k sz xs hx => ?_, ?_, fun x hx y hy hne u u' hu hu' b hb => ?_, fun x hx u hu b hb i cs hi => ?_, fun k hk m => ?_⟩
    · simp only [gOut]; rw [backH_length qs _ _ (by omega)]; omega
    · rcases get hi with ⟨j, rfl, h2, hj⟩ | ⟨h1, h2, h3⟩
      · obtain ⟨csc, h4, h5, h6⟩ := hout j cs h2
        obtain ⟨us, rest, e, hb, hr, _, hM, hκ⟩ := h.rep.obj j csc h4
        obtain ⟨e1, e2⟩ := hβ j hj
        exact ⟨us, rest, e, by rw [e1]; exact hb, h5 us hr, h6, by rw [e1]; exact hM, by rw [e2]; exact hκ⟩
      · obtain ⟨us, rest, e, hb, hr, h4, hM, hκ⟩ := hw.rep.obj i cs h3
        obtain ⟨k1, k2⟩ := keepOld i cs h3 h2
        have e1 : (gOut g gc' qs.length σc'.own τ).β i = g.β i := if_pos (by omega)
        have e2 : (gOut g gc' qs.length σc'.own τ).κ i = g.κ i := if_pos (by omega)
        exact ⟨us, rest, e, by rw [e1]; exact k1.trans hb, repDs.mono hle _ _ hr, h4, by rw [e1]; exact fun o => (k2 o).trans (hM o), by rw [e2]; exact hκ⟩
    · rcases get hi with ⟨ji, rfl, h2, hji⟩ | ⟨h1, h2, h3⟩ <;> rcases get hj with ⟨jj, rfl, h5, hjj⟩ | ⟨h4, h5, h6⟩
      · rw [(hβ ji hji).1, (hβ jj hjj).1] at hij
        obtain ⟨ci, hci, _⟩ := hout ji _ h2
        obtain ⟨cj, hcj, _⟩ := hout jj _ h5
        rw [h.rep.inj ji jj _ _ hci hcj hij]
      · rw [(hβ ji hji).1, show (gOut g gc' qs.length σc'.own τ).β j = g.β j from if_pos (by omega)] at hij
        obtain ⟨ci, hci, _⟩ := hout ji _ h2
        have hlt := hw.rep.obj_lt h6
        rcases hobjc ji ci hci with h7 | ⟨j', q, h7, h8⟩
        · omega
        · exact absurd (hij.symm.trans h8) (hoff j _ h6 h5 j' q h7)
      · rw [(hβ jj hjj).1, show (gOut g gc' qs.length σc'.own τ).β i = g.β i from if_pos (by omega)] at hij
        obtain ⟨cj, hcj, _⟩ := hout jj _ h5
        have hlt := hw.rep.obj_lt h3
        rcases hobjc jj cj hcj with h7 | ⟨j', q, h7, h8⟩
        · omega
        · exact absurd (hij.trans h8) (hoff i _ h3 h2 j' q h7)
      · rw [show (gOut g gc' qs.length σc'.own τ).β i = g.β i from if_pos (by omega), show (gOut g gc' qs.length σc'.own τ).β j = g.β j from if_pos (by omega)] at hij
        exact hw.rep.inj i j _ _ h3 h6 hij
    · rcases memO hx with ⟨y, hy, e⟩ | hx
      · simp only [Prod.mk.injEq] at e
        obtain ⟨rfl, e2⟩ := e
        obtain ⟨h0, u, hu, h3, h4, h5⟩ := h.rep.own y.1 sz xs (by rw [show (y.1, sz, xs) = y from by rw [e2]]; exact hy)
        exact ⟨h0, u, by rw [gOut_ι hτ hy]; exact hu, h3, h4, fun m hm => by rw [gOut_ι hτ hy]; exact h5 m hm⟩
      · obtain ⟨h0, u, hu, h3, h4, h5⟩ := hw.rep.own k sz xs hx
        exact ⟨h0, u, by rw [gOut_ι_old (hold _ hx)]; exact hu, h3.mono h.M, h4.kept fun b hb => (keepOwn _ hx u hu b hb).2, fun m hm => by rw [gOut_ι_old (hold _ hx)]; exact h5 m hm⟩
    · simp only [List.map_append]
      refine List.nodup_append.2 ⟨?_, hw.rep.tags, fun a ha b hb e => ?_⟩
      · have : (renOwn τ σc'.own).map (·.1) = (σc'.own.map (·.1)).map τ := by simp [renOwn, Function.comp_def]
        rw [this]
        refine List.pairwise_map.2 (List.Pairwise.imp_of_mem ?_ h.rep.tags)
        intro a b ha hb hne e
        obtain ⟨x, hx, rfl⟩ := List.mem_map.1 ha
        obtain ⟨y, hy, rfl⟩ := List.mem_map.1 hb
        exact hne (hτ x hx y hy e)
      · obtain ⟨x, hx, rfl⟩ := List.mem_map.1 ha
        obtain ⟨y, hy, rfl⟩ := List.mem_map.1 hb
        obtain ⟨z, hz, rfl⟩ := List.mem_map.1 hx
        exact hfr z hz y hy e
    · rcases memO hx with ⟨x', hx', rfl⟩ | hx <;> rcases memO hy with ⟨y', hy', rfl⟩ | hy
      · rw [gOut_ι hτ hx'] at hu; rw [gOut_ι hτ hy'] at hu'
        exact h.rep.sep x' hx' y' hy' (fun e => hne (by simp only [e])) u u' hu hu' b hb
      · rw [gOut_ι hτ hx'] at hu; rw [gOut_ι_old (hold _ hy)] at hu'
        intro hb'
        obtain ⟨⟨hlt, hne'⟩, _⟩ := keepOwn y hy u' hu' b hb'
        rcases hownc x' hx' u hu b hb with h7 | ⟨j', q, h7, h8⟩
        · omega
        · exact hne' j' q h7 h8
      · rw [gOut_ι_old (hold _ hx)] at hu; rw [gOut_ι hτ hy'] at hu'
        intro hb'
        obtain ⟨⟨hlt, hne'⟩, _⟩ := keepOwn x hx u hu b hb
        rcases hownc y' hy' u' hu' b hb' with h7 | ⟨j', q, h7, h8⟩
        · omega
        · exact hne' j' q h7 h8
      · rw [gOut_ι_old (hold _ hx)] at hu; rw [gOut_ι_old (hold _ hy)] at hu'
        exact hw.rep.sep x hx y hy hne u u' hu hu' b hb
    · rcases memO hx with ⟨x', hx', rfl⟩ | hx <;> rcases get hi with ⟨ji, rfl, h2, hji⟩ | ⟨h1, h2, h3⟩
      · rw [gOut_ι hτ hx'] at hu
        obtain ⟨ci, hci, _⟩ := hout ji _ h2
        rw [(hβ ji hji).1]
        exact h.rep.ownObj x' hx' u hu b hb ji ci hci
      · rw [gOut_ι hτ hx'] at hu
        rw [show (gOut g gc' qs.length σc'.own τ).β i = g.β i from if_pos (by omega)]
        have hlt := hw.rep.obj_lt h3
        rcases hownc x' hx' u hu b hb with h7 | ⟨j', q, h7, h8⟩
        · omega
        · rw [h8]; exact hoff i _ h3 h2 j' q h7
      · rw [gOut_ι_old (hold _ hx)] at hu
        obtain ⟨ci, hci, _⟩ := hout ji _ h2
        rw [(hβ ji hji).1]
        obtain ⟨⟨hlt, hne'⟩, _⟩ := keepOwn x hx u hu b hb
        rcases hobjc ji ci hci with h7 | ⟨j', q, h7, h8⟩
        · omega
        · rw [h8]; exact fun e => hne' j' q h7 e.symm
      · rw [gOut_ι_old (hold _ hx)] at hu
        rw [show (gOut g gc' qs.length σc'.own τ).β i = g.β i from if_pos (by omega)]
        exact hw.rep.ownObj x hx u hu b hb i cs h3
    · rw [gOut_ι_old (fun x hx e => hk (τ x.1, x.2) (List.mem_append.2 (.inl (List.mem_map.2 ⟨x, hx, rfl⟩))) e)]
      exact hw.rep.fresh k (fun x hx => hk x (List.mem_append.2 (.inr hx))) m
  · intro i cs hi
    rcases get hi with ⟨j, rfl, h2, hj⟩ | ⟨h1, h2, h3⟩
    · obtain ⟨csc, h4, _⟩ := hout j cs h2
      rw [(hβ j hj).1]
      rcases hobjc j csc h4 with h5 | ⟨j', q, h5, h6⟩
      · exact .inl (Nat.le_trans hw.size h5)
      · obtain ⟨c2, h7⟩ := hq j' q h5
        rw [h6]; exact hw.objs q c2 h7
    · rw [show (gOut g gc' qs.length σc'.own τ).β i = g.β i from if_pos (by omega)]
      exact hw.objs i cs h3
  · intro x hx u hu b hb
    rcases memO hx with ⟨x', hx', rfl⟩ | hx
    · rw [gOut_ι hτ hx'] at hu
      rcases hownc x' hx' u hu b hb with h5 | ⟨j', q, h5, h6⟩
      · exact .inl (Nat.le_trans hw.size h5)
      · obtain ⟨c2, h7⟩ := hq j' q h5
        rw [h6]; exact hw.objs q c2 h7
    · rw [gOut_ι_old (hold _ hx)] at hu
      exact hw.owns x hx u hu b hb

/- RENAMING -/
mutual
def D.ren (ρ τ : Nat → Nat) : D → D
  | .v x => .v x
  | .acc t xs => .acc (τ t) xs
  | .ptr o off => .ptr (ρ o) off
  | .arr o off len => .arr (ρ o) off len
  | .gro o len sz => .gro (ρ o) len sz
  | .raw x => .raw x
  | .rv x u => .rv x u
  | .dagg cs => .dagg (D.rens ρ τ cs)
  | .dfn f fs cs => .dfn f (D.rens ρ τ fs) (D.rens ρ τ cs)
  | .tup ds => .tup (D.rens ρ τ ds)
  | .undef => .undef
def D.rens (ρ τ : Nat → Nat) : List D → List D
  | [] => []
  | d :: ds => d.ren ρ τ :: D.rens ρ τ ds
end
mutual
/-- objects below n alone, tags out of ts alone -/
def D.okN (n : Nat) (ts : List Nat) : D → Bool
  | .acc t _ => ts.contains t
  | .ptr o _ | .arr o _ _ | .gro o _ _ => decide (o < n)
  | .dagg cs => D.okNs n ts cs
  | .dfn _ fs cs => D.okNs n ts fs && D.okNs n ts cs
  | .tup ds => D.okNs n ts ds
  | _ => true
def D.okNs (n : Nat) (ts : List Nat) : List D → Bool
  | [] => true
  | d :: ds => d.okN n ts && D.okNs n ts ds
end

mutual
/-- representation moves from one ghost to another along a renaming -/
theorem repD_ren {g g' : Gh} {ρ τ ρ' τ' : Nat → Nat} {n : Nat} {ts : List Nat} (hM : ∀ x u, repV g.M x u → repV g'.M x u) (ho : ∀ o, o < n → ρ o < g.n → ρ' o < g'.n ∧ g'.β (ρ' o) = g.β (ρ o) ∧ g'.κ (ρ' o) = g.κ (ρ o))
    (hι : ∀ t, ts.contains t = true → ∀ m u, g.ι (τ t) m = some u → g'.ι (τ' t) m = some u) : ∀ (d : D) (u : Value), d.okN n ts = true → repD g (d.ren ρ τ) u → repD g' (d.ren ρ' τ') u
  | .v x, u, _, h => by simp only [D.ren, repD] at h ⊢; exact hM _ _ h
  | .acc t xs, u, hk, h => by simp only [D.ren, repD] at h ⊢; exact ⟨hM _ _ h.1, hι t (by simpa [D.okN] using hk) _ _ h.2⟩
  | .ptr o off, u, hk, h => by
    simp only [D.okN, decide_eq_true_eq] at hk
    simp only [D.ren, repD] at h ⊢
    obtain ⟨h1, h2, _⟩ := ho o hk h.1
    exact ⟨h1, by rw [h2]; exact h.2⟩
  | .arr o off len, u, hk, h => by
    simp only [D.okN, decide_eq_true_eq] at hk
    simp only [D.ren, repD] at h ⊢
    obtain ⟨h1, h2, _⟩ := ho o hk h.1
    exact ⟨h1, by rw [h2]; exact h.2⟩
  | .gro o len sz, u, hk, h => by
    simp only [D.okN, decide_eq_true_eq] at hk
    simp only [D.ren, repD] at h ⊢
    obtain ⟨h1, h2, h3⟩ := ho o hk h.1
    exact ⟨h1, by rw [h2, h3]; exact h.2⟩
  | .raw x, u, _, h => by simpa only [D.ren, repD] using h
  | .rv x u0, u, _, h => by simp only [D.ren, repD] at h ⊢; exact ⟨h.1, hM _ _ h.2⟩
  | .dagg cs, u, hk, h => by
    simp only [D.ren, repD] at h ⊢
    obtain ⟨us, e, h1⟩ := h
    exact ⟨us, e, repDs_ren hM ho hι cs us (by simpa [D.okN] using hk) h1⟩
  | .dfn f fs cs, u, hk, h => by
    simp only [D.okN, Bool.and_eq_true] at hk
    simp only [D.ren, repD] at h ⊢
    obtain ⟨us, vs, e, h1, h2⟩ := h
    exact ⟨us, vs, e, repDs_ren hM ho hι fs us hk.1 h1, repDs_ren hM ho hι cs vs hk.2 h2⟩
  | .tup ds, u, hk, h => by
    simp only [D.ren, repD] at h ⊢
    obtain ⟨us, e, h1⟩ := h
    exact ⟨us, e, repDs_ren hM ho hι ds us (by simpa [D.okN] using hk) h1⟩
  | .undef, u, _, _ => by simp only [D.ren, repD]
theorem repDs_ren {g g' : Gh} {ρ τ ρ' τ' : Nat → Nat} {n : Nat} {ts : List Nat} (hM : ∀ x u, repV g.M x u → repV g'.M x u) (ho : ∀ o, o < n → ρ o < g.n → ρ' o < g'.n ∧ g'.β (ρ' o) = g.β (ρ o) ∧ g'.κ (ρ' o) = g.κ (ρ o))
    (hι : ∀ t, ts.contains t = true → ∀ m u, g.ι (τ t) m = some u → g'.ι (τ' t) m = some u) : ∀ (ds : List D) (us : List Value), D.okNs n ts ds = true → repDs g (D.rens ρ τ ds) us → repDs g' (D.rens ρ' τ' ds) us
  | [], us, _, h => by simpa only [D.rens, repDs] using h
  | d :: ds, us, hk, h => by
    simp only [D.okNs, Bool.and_eq_true] at hk
    simp only [D.rens, repDs] at h ⊢
    obtain ⟨u, us', e, h1, h2⟩ := h
    exact ⟨u, us', e, repD_ren hM ho hι d u hk.1 h1, repDs_ren hM ho hι ds us' hk.2 h2⟩
end
mutual
theorem ren_id : ∀ d : D, d.ren id id = d
  | .v _ | .acc .. | .ptr .. | .arr .. | .gro .. | .raw _ | .rv .. | .undef => by simp [D.ren]
  | .dagg cs => by simp [D.ren, rens_id cs]
  | .dfn f fs cs => by simp [D.ren, rens_id fs, rens_id cs]
  | .tup ds => by simp [D.ren, rens_id ds]
theorem rens_id : ∀ ds : List D, D.rens id id ds = ds
  | [] => rfl
  | d :: ds => by simp [D.rens, ren_id d, rens_id ds]
end

mutual
theorem ren_one : ∀ (ρ τ : Nat → Nat) (d : D), (d.ren ρ τ).one = d.one
  | ρ, τ, d => by cases d <;> simp [D.ren, D.one]
end
theorem rens_one {ρ τ : Nat → Nat} : ∀ {ds : List D}, (∀ c ∈ ds, c.one = true) → ∀ c ∈ D.rens ρ τ ds, c.one = true
  | [], _, c, hc => by simp [D.rens] at hc
  | d :: ds, h, c, hc => by
    simp only [D.rens, List.mem_cons] at hc
    rcases hc with rfl | hc
    · rw [ren_one]; exact h d (by simp)
    · exact rens_one (fun c hc => h c (by simp [hc])) c hc

/-- how a value of the caller stands with the callee -/
inductive ArgR (n : Nat) (qs : List Nat) : D → D → Prop
  | ren {dc : D} (h : dc.okN qs.length [] = true) : ArgR n qs (dc.ren (rho n qs) id) dc
  | acc {t : Nat} {xs : List V} : ArgR n qs (.acc t xs) (.v (.list xs))
  | undef {d : D} : ArgR n qs d .undef
inductive ArgsR (n : Nat) (qs : List Nat) : List D → List D → Prop
  | nil : ArgsR n qs [] []
  | cons {d dc : D} {ds dcs : List D} (h : ArgR n qs d dc) (hs : ArgsR n qs ds dcs) : ArgsR n qs (d :: ds) (dc :: dcs)
/-- how the objects handed over stand with the callee -/
inductive ObjsR (H : List (Option (List D))) (qs : List Nat) : List Nat → List (Option (List D)) → Prop
  | nil : ObjsR H qs [] []
  | cons {q : Nat} {js : List Nat} {cs csc : List D} {os : List (Option (List D))} (h : H[q]? = some (some cs)) (ha : ArgsR H.length qs cs csc) (h1 : csc.all D.one = true) (hs : ObjsR H qs js os) : ObjsR H qs (q :: js) (some csc :: os)

theorem ObjsR.length {H : List (Option (List D))} {qs : List Nat} : ∀ {js : List Nat} {os : List (Option (List D))}, ObjsR H qs js os → os.length = js.length
  | _, _, .nil => rfl
  | _, _, .cons _ _ _ hs => by simp [hs.length]
theorem ObjsR.get {H : List (Option (List D))} {qs : List Nat} : ∀ {js : List Nat} {os : List (Option (List D))}, ObjsR H qs js os → ∀ {j q : Nat}, js[j]? = some q → ∃ cs csc, H[q]? = some (some cs) ∧ os[j]? = some (some csc) ∧ ArgsR H.length qs cs csc ∧ ∀ c ∈ csc, c.one = true
  | _, _, .nil, j, q, h => by simp at h
  | _, _, .cons h ha h1 hs, j, q, hj => by
    cases j with
    | zero => simp at hj; subst hj; exact ⟨_, _, h, by simp, ha, by simpa using h1⟩
    | succ j => simp at hj; obtain ⟨cs, csc, h2, h3, h4⟩ := hs.get hj; exact ⟨cs, csc, h2, by simpa using h3, h4⟩

theorem rho_lt {n : Nat} {qs : List Nat} {j : Nat} (h : j < qs.length) : rho n qs j = qs.getD j 0 := by
  have hqj : qs[j]? = some qs[j] := List.getElem?_eq_getElem h
  simp only [rho, hqj, getD_get hqj]

theorem ArgR.rep {g : Gh} {qs : List Nat} {d dc : D} (h : ArgR g.n qs d dc) {u : Value} (hr : repD g d u) : repD (gIn g qs) dc u := by
  cases h with
  | ren hk =>
    have := repD_ren (g := g) (g' := gIn g qs) (ρ := rho g.n qs) (τ := id) (ρ' := id) (τ' := id) (n := qs.length) (ts := []) (fun _ _ h => h) (fun o ho _ => ⟨ho, by simp only [gIn, id, rho_lt ho, and_self]⟩) (fun t ht => by simp at ht) dc u hk hr
    rwa [ren_id] at this
  | acc => simp only [repD] at hr ⊢; exact hr.1
  | undef => simp only [repD]
theorem ArgsR.rep {g : Gh} {qs : List Nat} : ∀ {ds dcs : List D}, ArgsR g.n qs ds dcs → ∀ {us : List Value}, repDs g ds us → repDs (gIn g qs) dcs us
  | _, _, .nil, us, h => by simpa only [repDs] using h
  | _, _, .cons h hs, us, hr => by
    simp only [repDs] at hr ⊢
    obtain ⟨u, us', e, h1, h2⟩ := hr
    exact ⟨u, us', e, h.rep h1, hs.rep h2⟩

def fnParts : D → Option (FuncId × List D × List D)
  | .v (.fn f fs cs) => some (f, fs.map .v, cs.map .v)
  | .dfn f fs cs => some (f, fs, cs)
  | _ => none
theorem fnParts_rep {g : Gh} {d : D} {f : FuncId} {fs cs : List D} (h : fnParts d = some (f, fs, cs)) {u : Value} (hr : repD g d u) : ∃ us vs, u = .func (.func f) us.toArray vs.toArray ∧ repDs g fs us ∧ repDs g cs vs := by
  unfold fnParts at h
  split at h
  · simp only [Option.some.injEq, Prod.mk.injEq] at h
    obtain ⟨rfl, rfl, rfl⟩ := h
    simp only [repD, repV_fn] at hr
    obtain ⟨us, vs, e, h1, h2⟩ := hr
    exact ⟨us, vs, e, repDs_of_L h1, repDs_of_L h2⟩
  · simp only [Option.some.injEq, Prod.mk.injEq] at h
    obtain ⟨rfl, rfl, rfl⟩ := h
    simpa only [repD] using hr
  · simp at h

def okH (n : Nat) (ts : List Nat) : List (Option (List D)) → Bool
  | [] => true
  | some cs :: H => D.okNs n ts cs && okH n ts H
  | none :: H => okH n ts H
theorem okH_get {n : Nat} {ts : List Nat} : ∀ {H : List (Option (List D))}, okH n ts H = true → ∀ {j : Nat} {cs : List D}, H[j]? = some (some cs) → D.okNs n ts cs = true
  | [], _, j, cs, h => by simp at h
  | some c :: H, hk, j, cs, h => by
    simp only [okH, Bool.and_eq_true] at hk
    cases j with
    | zero => simp at h; subst h; exact hk.1
    | succ j => exact okH_get hk.2 (by simpa using h)
  | none :: H, hk, j, cs, h => by
    simp only [okH] at hk
    cases j with
    | zero => simp at h
    | succ j => exact okH_get hk (by simpa using h)
def renH (ρ τ : Nat → Nat) (H : List (Option (List D))) : List (Option (List D)) := H.map (Option.map (D.rens ρ τ))

section
variable {P : Program} {o : Oper} {σ : St}
/-- a call, in general -/
theorem op_callG {c : Call} {fo : Operand} (ho : o.op = .call c) (hc : c.callee = .value fo) {fD : D} {f : FuncId} {fs cs : List D} (hf : fnParts fD = some (f, fs, cs)) {ds dsc : List D} {σc σc' : St} {dc : D} (qs : List Nat) (τ : Nat → Nat)
    (hspec : FSpec P f dsc σc dc σc') (hargs : ArgsR σ.H.length qs (fs ++ ds ++ cs) dsc) (hobjs : ObjsR σ.H qs qs σc.H) (hnd : qs.Nodup) (hown : σc.own = []) (hτ : ∀ x ∈ σc'.own, ∀ y ∈ σc'.own, τ x.1 = τ y.1 → x.1 = y.1)
    (hfr : ∀ x ∈ σc'.own, ∀ y ∈ σ.own, τ x.1 ≠ y.1) (hokd : dc.okN σc'.H.length (σc'.own.map (·.1)) = true) (hokH : okH σc'.H.length (σc'.own.map (·.1)) σc'.H = true) :
    OpOK P o (fD :: ds) σ (dc.ren (rho σ.H.length qs) τ) ⟨backH σ.H qs (renH (rho σ.H.length qs) τ σc'.H), renOwn τ σc'.own ++ σ.own⟩ := by
  intro E g a w K Q hw hds hK
  have hn : g.n = σ.H.length := hw.rep.n
  simp only [ho, Op.operands, Call.operands, hc] at hds
  have h' : repDs g (fD :: ds) (a.eval fo :: c.args.toList.map a.eval) := by simpa using hds
  simp only [repDs] at h'
  obtain ⟨u, us', e, h1, h2⟩ := h'
  simp only [List.cons.injEq] at e
  obtain ⟨e1, e2⟩ := e
  obtain ⟨us, vs, e3, h3, h4⟩ := fnParts_rep hf h1
  refine wp_call (_E := E) (_g := g) ho hc hspec.1 (e1.trans e3) e2 ?_
  rw [← hn] at hargs
  have hq : ∀ (j q : Nat), qs[j]? = some q → ∃ cs csc, σ.H[q]? = some (some cs) ∧ σc.H[j]? = some (some csc) ∧ ArgsR g.n qs cs csc ∧ ∀ c ∈ csc, c.one = true := fun j q hj => by rw [hn]; exact hobjs.get hj
  have hrep : WRep (gIn g qs) σc w := hw.rep.callee hnd hown hobjs.length (fun j q csc hj hcj => by
    obtain ⟨cs, csc', h5, h6, h7, h8⟩ := hq j q hj
    rw [h6] at hcj; simp at hcj; subst hcj
    exact ⟨cs, h5, fun us hr => h7.rep hr, h8⟩)
  refine Calls.mono (hspec.2 _ w _ hrep (hargs.rep (repDs_append (repDs_append h3 h2) h4))) ?_
  rintro e w' ⟨r, gc', rfl, hw', hr⟩
  have hn' : gc'.n = σc'.H.length := hw'.rep.n
  have hkn : qs.length ≤ gc'.n := hw'.nE
  have hρ : ∀ j, j < σc'.H.length → rho σ.H.length qs j < (gOut g gc' qs.length σc'.own τ).n ∧ (gOut g gc' qs.length σc'.own τ).β (rho σ.H.length qs j) = gc'.β j ∧ (gOut g gc' qs.length σc'.own τ).κ (rho σ.H.length qs j) = gc'.κ j := by
    intro j hj
    by_cases hlt : j < qs.length
    · have hqj : qs[j]? = some qs[j] := List.getElem?_eq_getElem hlt
      obtain ⟨cs, _, hcs, _⟩ := hq j _ hqj
      have h5 : qs[j] < g.n := hw.rep.lt_n hcs
      have h6 := hw'.βE j hlt
      have h7 := hw'.κE j hlt
      simp only [gIn, getD_get hqj] at h6 h7
      simp only [rho, hqj, gOut, if_pos h5, h6, h7, and_self, and_true]
      omega
    · have hqj : qs[j]? = none := List.getElem?_eq_none (by omega)
      have h5 : ¬ σ.H.length + (j - qs.length) < g.n := by omega
      have h6 : qs.length + (σ.H.length + (j - qs.length) - g.n) = j := by omega
      simp only [rho, hqj, gOut, if_neg h5, h6, and_self, and_true]
      omega
  have hren : ∀ (dd : D) (v : Value), dd.okN σc'.H.length (σc'.own.map (·.1)) = true → repD gc' dd v → repD (gOut g gc' qs.length σc'.own τ) (dd.ren (rho σ.H.length qs) τ) v := by
    intro dd v hk hv
    refine repD_ren (g := gc') (g' := gOut g gc' qs.length σc'.own τ) (ρ := id) (τ := id) (ρ' := rho σ.H.length qs) (τ' := τ) (n := σc'.H.length) (ts := σc'.own.map (·.1)) (fun _ _ h => h) (fun o ho _ => hρ o ho) (fun t ht m x hx => ?_) dd v hk (by rw [ren_id]; exact hv)
    simp only [List.contains_iff_mem, List.mem_map] at ht
    obtain ⟨y, hy, rfl⟩ := ht
    rw [gOut_ι hτ hy]; exact hx
  have hrens : ∀ (dd : List D) (v : List Value), D.okNs σc'.H.length (σc'.own.map (·.1)) dd = true → repDs gc' dd v → repDs (gOut g gc' qs.length σc'.own τ) (D.rens (rho σ.H.length qs) τ dd) v := by
    intro dd v hk hv
    refine repDs_ren (g := gc') (g' := gOut g gc' qs.length σc'.own τ) (ρ := id) (τ := id) (ρ' := rho σ.H.length qs) (τ' := τ) (n := σc'.H.length) (ts := σc'.own.map (·.1)) (fun _ _ h => h) (fun o ho _ => hρ o ho) (fun t ht m x hx => ?_) dd v hk (by rw [rens_id]; exact hv)
    simp only [List.contains_iff_mem, List.mem_map] at ht
    obtain ⟨y, hy, rfl⟩ := ht
    rw [gOut_ι hτ hy]; exact hx
  obtain ⟨h8, h9⟩ := hw.back hown hobjs.length (fun j q hj => by obtain ⟨cs, _, h5, _⟩ := hq j q hj; exact ⟨cs, h5⟩) hw' hτ hfr (H2 := renH (rho σ.H.length qs) τ σc'.H) (by simp [renH]) (fun j cs2 hj => by
    simp only [renH, List.getElem?_map] at hj
    cases hcj : σc'.H[j]? with
    | none => simp [hcj] at hj
    | some oc =>
      cases oc with
      | none => simp [hcj] at hj
      | some csc =>
        simp [hcj] at hj
        subst hj
        obtain ⟨_, _, _, _, _, h1c, _⟩ := hw'.rep.obj j csc hcj
        exact ⟨csc, rfl, fun us hus => hrens csc us (okH_get hokH hcj) hus, rens_one h1c⟩)
  exact ⟨r, rfl, hK _ _ _ h8 h9 (hren dc r hokd hr)⟩
end
end Go.Dv
