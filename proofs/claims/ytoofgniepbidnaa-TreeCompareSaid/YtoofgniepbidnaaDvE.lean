/-
  Operations that make memory or write it: new objects, stores, new lists, append. No program is named here.
-/
import Derived.Test.YtoofgniepbidnaaDvD
namespace Go.Dv

/-- from one state of the run to the next: X are the old blocks that were written -/
theorem WI.update {E : Ent} {g g' : Gh} {σ σ' : St} {w w' : World} (hw : WI E g σ w) (X : Nat → Prop) (hX : ∀ b, X b → E.w.heap.size ≤ b ∨ E.priv b)
    (keep : ∀ b, b < w.heap.size → ¬ X b → w'.heap[b]? = w.heap[b]? ∧ ∀ o, g'.M b o = g.M b o)
    (hle : g.M.le g'.M) (hn : g.n ≤ g'.n) (hβ : ∀ o, o < g.n → g'.β o = g.β o) (hκ : ∀ o, o < g.n → g'.κ o = g.κ o) (size : w.heap.size ≤ w'.heap.size) (os : w'.os = w.os) (tape : w'.tape = w.tape) (output : w'.output = w.output)
    (rep : WRep g' σ' w') (objs : ∀ i cs, σ'.H[i]? = some (some cs) → E.w.heap.size ≤ g'.β i ∨ E.priv (g'.β i))
    (owns : ∀ x ∈ σ'.own, ∀ u, g'.ι x.1 x.2.2.length = some u → ∀ b, ownB u = some b → E.w.heap.size ≤ b ∨ E.priv b) : WI E g' σ' w' where
  rep := rep
  M := Mem.le_trans hw.M hle
  size := Nat.le_trans hw.size size
  keep := fun b hb hp => by
    have hnx : ¬ X b := fun hx => by
      rcases hX b hx with h | h
      · omega
      · exact hp h
    obtain ⟨h1, h2⟩ := keep b (Nat.lt_of_lt_of_le hb hw.size) hnx
    obtain ⟨h3, h4⟩ := hw.keep b hb hp
    exact ⟨h1.trans h3, fun o => (h2 o).trans (h4 o)⟩
  os := os.trans hw.os
  tape := tape.trans hw.tape
  output := output.trans hw.output
  nE := Nat.le_trans hw.nE hn
  βE := fun o ho => (hβ o (Nat.lt_of_lt_of_le ho hw.nE)).trans (hw.βE o ho)
  κE := fun o ho => (hκ o (Nat.lt_of_lt_of_le ho hw.nE)).trans (hw.κE o ho)
  objs := objs
  owns := owns

theorem heap_lt {w : World} {b : Nat} {o : Obj} (h : w.heap[b]? = some o) : b < w.heap.size := (Array.getElem?_eq_some_iff.1 h).1

theorem WRep.mem_lt {g : Gh} {σ : St} {w : World} (h : WRep g σ w) {b o : Nat} {v : Value} (hm : g.M b o = some v) : b < w.heap.size :=
  World.block_lt_of_cell? w ⟨b, o, none⟩ (h.mem b o v hm)

theorem WRep.new_none {g : Gh} {σ : St} {w : World} (h : WRep g σ w) {b : Nat} (hb : w.heap.size ≤ b) (o : Nat) : g.M b o = none := by
  cases e : g.M b o with
  | none => rfl
  | some v => have := h.mem_lt e; omega

theorem WRep.own_lt {g : Gh} {σ : St} {w : World} (h : WRep g σ w) {x : Nat × Nat × List V} (hx : x ∈ σ.own) {u : Value} (hu : g.ι x.1 x.2.2.length = some u) {b : Nat} (hb : ownB u = some b) : b < w.heap.size := by
  obtain ⟨_, u', hu', _, hp, _⟩ := h.own x.1 x.2.1 x.2.2 hx
  rw [hu] at hu'
  obtain rfl : u = u' := by simpa using hu'
  rcases hp with ⟨a, rfl⟩ | ⟨b', len, cap, cur, e, rfl, hh, _⟩
  · cases a <;> simp [ownB] at hb
  · simp only [ownB] at hb
    split at hb
    · simp at hb
    · simp at hb; subst hb; exact heap_lt hh

theorem WRep.obj_lt {g : Gh} {σ : St} {w : World} (h : WRep g σ w) {i : Nat} {cs : List D} (hi : σ.H[i]? = some (some cs)) : g.β i < w.heap.size := by
  obtain ⟨us, rest, e, hb, _⟩ := h.obj i cs hi
  exact heap_lt hb

theorem WRep.lt_n {g : Gh} {σ : St} {w : World} (h : WRep g σ w) {i : Nat} {cs : List D} (hi : σ.H[i]? = some (some cs)) : i < g.n := by
  rw [h.n]; exact (List.getElem?_eq_some_iff.1 hi).1

theorem Perm.kept {M M' : Mem} {w w' : World} {sz : Nat} {u : Value} (h : Perm M w sz u) (hk : ∀ b, ownB u = some b → w'.heap[b]? = w.heap[b]? ∧ ∀ o, M' b o = M b o) : Perm M' w' sz u := by
  rcases h with ⟨a, rfl⟩ | ⟨b, len, cap, cur, e, rfl, hh, hl, hc, hM⟩
  · exact .inl ⟨a, rfl⟩
  · by_cases h0 : cap = 0
    · subst h0
      obtain rfl : len = 0 := by omega
      exact .inl ⟨_, rfl⟩
    · obtain ⟨h1, h2⟩ := hk b (by simp [ownB, h0])
      exact .inr ⟨b, len, cap, cur, e, rfl, h1.trans hh, hl, hc, fun o ho => (h2 o).trans (hM o ho)⟩

/-- new blocks, new cells of M in them; what was there stays -/
theorem WRep.grow {g : Gh} {σ : St} {w w' : World} (h : WRep g σ w) {M' : Mem} (hle : g.M.le M') (keep : ∀ b, b < w.heap.size → w'.heap[b]? = w.heap[b]? ∧ ∀ o, M' b o = g.M b o)
    (mem : ∀ b o v, M' b o = some v → w'.cell? ⟨b, o, none⟩ = some v) : WRep { g with M := M' } σ w' := by
  have hg : g.le { g with M := M' } := ⟨hle, Nat.le_refl _, fun _ _ => rfl, fun _ _ _ h => h, fun _ _ => rfl⟩
  refine ⟨h.n, mem, fun i cs hi => ?_, h.inj, fun k sz xs hx => ?_, h.tags, h.sep, h.ownObj, h.fresh⟩
  · obtain ⟨us, rest, e, hb, hr, h1, hM, hκ⟩ := h.obj i cs hi
    obtain ⟨k1, k2⟩ := keep _ (heap_lt hb)
    exact ⟨us, rest, e, k1.trans hb, repDs.mono hg _ _ hr, h1, fun o => (k2 o).trans (hM o), hκ⟩
  · obtain ⟨h0, u, hu, hr, hp, hf⟩ := h.own k sz xs hx
    exact ⟨h0, u, hu, hr.mono hle, hp.kept fun b hb => keep b (h.own_lt hx hu hb), hf⟩

theorem WI.grow {E : Ent} {g : Gh} {σ : St} {w w' : World} (hw : WI E g σ w) {M' : Mem} (hle : g.M.le M') (keep : ∀ b, b < w.heap.size → w'.heap[b]? = w.heap[b]? ∧ ∀ o, M' b o = g.M b o)
    (mem : ∀ b o v, M' b o = some v → w'.cell? ⟨b, o, none⟩ = some v) (size : w.heap.size ≤ w'.heap.size) (os : w'.os = w.os) (tape : w'.tape = w.tape) (output : w'.output = w.output) : WI E { g with M := M' } σ w' :=
  hw.update (fun _ => False) (fun _ h => h.elim) (fun b hb _ => keep b hb) hle (Nat.le_refl _) (fun _ _ => rfl) (fun _ _ => rfl) size os tape output (hw.rep.grow hle keep mem) hw.objs hw.owns

theorem cell_alloc (w : World) (o : Obj) {b i : Nat} {v : Value} (h : w.cell? ⟨b, i, none⟩ = some v) : (w.alloc o).cell? ⟨b, i, none⟩ = some v := by
  rw [World.cell?_alloc_lt w o _ (World.block_lt_of_cell? w _ h)]; exact h

/-- a block that nobody knows of -/
theorem WI.alloc {E : Ent} {g : Gh} {σ : St} {w : World} (hw : WI E g σ w) (o : Obj) : WI E g σ (w.alloc o) := by
  have := hw.grow (w' := w.alloc o) (M' := g.M) (Mem.le_refl _) (fun b hb => ⟨heap_alloc_old w o b hb, fun _ => rfl⟩) (fun b i v h => cell_alloc w o (hw.rep.mem b i v h)) (by simp) rfl rfl rfl
  exact this

theorem WI.drew {E : Ent} {g : Gh} {σ : St} {w : World} (hw : WI E g σ w) : WI E g σ w.drew := by
  have := hw.grow (w' := w.drew) (M' := g.M) (Mem.le_refl _) (fun b hb => ⟨rfl, fun _ => rfl⟩) (fun b i v h => hw.rep.mem b i v h) (Nat.le_refl _) rfl rfl rfl
  exact this

/-- a new object out of a block that nobody knows of -/
theorem WI.addObj {E : Ent} {g : Gh} {σ : St} {w : World} (hw : WI E g σ w) {b : Nat} {us rest : List Value} {e : TypeId} {cs : List D} (hb : w.heap[b]? = some (.cells (us ++ rest).toArray e (0, 0))) (hE : E.w.heap.size ≤ b ∨ E.priv b) (hM : ∀ o, g.M b o = none)
    (hno : ∀ i cs, σ.H[i]? = some (some cs) → g.β i ≠ b) (hown : ∀ x ∈ σ.own, ∀ u, g.ι x.1 x.2.2.length = some u → ownB u ≠ some b) (hr : repDs g cs us) (h1 : ∀ c ∈ cs, c.one = true) :
    WI E { g with n := g.n + 1, β := fun o => if o = g.n then b else g.β o, κ := fun o => if o = g.n then (us ++ rest).length else g.κ o } ⟨σ.H ++ [some cs], σ.own⟩ w ∧ g.le { g with n := g.n + 1, β := fun o => if o = g.n then b else g.β o, κ := fun o => if o = g.n then (us ++ rest).length else g.κ o } := by
  have hle : g.le { g with n := g.n + 1, β := fun o => if o = g.n then b else g.β o, κ := fun o => if o = g.n then (us ++ rest).length else g.κ o } := ⟨Mem.le_refl _, Nat.le_succ _, fun o ho => if_neg (by omega), fun _ _ _ h => h, fun o ho => if_neg (by omega)⟩
  have split : ∀ i cs', (σ.H ++ [some cs])[i]? = some (some cs') → (σ.H[i]? = some (some cs') ∧ i < g.n) ∨ (i = g.n ∧ cs' = cs) := by
    intro i cs' hi
    by_cases hlt : i < σ.H.length
    · rw [List.getElem?_append_left hlt] at hi
      exact .inl ⟨hi, by rw [hw.rep.n]; exact hlt⟩
    · rw [List.getElem?_append_right (by omega)] at hi
      have : i - σ.H.length = 0 := by
        cases hk : i - σ.H.length with
        | zero => rfl
        | succ k => simp [hk] at hi
      rw [this] at hi
      simp at hi
      exact .inr ⟨by rw [hw.rep.n]; omega, hi.symm⟩
  refine ⟨hw.update (fun _ => False) (fun _ h => h.elim) (fun _ _ _ => ⟨rfl, fun _ => rfl⟩) (Mem.le_refl _) (Nat.le_succ _) (fun o ho => if_neg (by omega)) (fun o ho => if_neg (by omega)) (Nat.le_refl _) rfl rfl rfl ?_ ?_ hw.owns, hle⟩
  · refine ⟨by simp [hw.rep.n], hw.rep.mem, fun i cs' hi => ?_, fun i j cs1 cs2 hi hj hij => ?_, hw.rep.own, hw.rep.tags, hw.rep.sep, fun x hx u hu b' hb' i cs' hi => ?_, hw.rep.fresh⟩
    · rcases split i cs' hi with ⟨h, hlt⟩ | ⟨rfl, rfl⟩
      · obtain ⟨us', rest', e', h2, h3, h4, h5, h6⟩ := hw.rep.obj i cs' h
        have hne : (if i = g.n then b else g.β i) = g.β i := if_neg (by omega)
        refine ⟨us', rest', e', ?_, repDs.mono hle _ _ h3, h4, ?_, ?_⟩
        · simp only [hne]; exact h2
        · simp only [hne]; exact h5
        · simp only [if_neg (show ¬ i = g.n by omega)]; exact h6
      · refine ⟨us, rest, e, ?_, repDs.mono hle _ _ hr, h1, ?_, ?_⟩
        · simp only [if_true]; exact hb
        · simp only [if_true]; exact hM
        · simp only [if_true]
    · rcases split i cs1 hi with ⟨h, hlt⟩ | ⟨rfl, rfl⟩ <;> rcases split j cs2 hj with ⟨h', hlt'⟩ | ⟨rfl, rfl⟩
      · simp only [if_neg (show ¬ i = g.n by omega), if_neg (show ¬ j = g.n by omega)] at hij
        exact hw.rep.inj i j _ _ h h' hij
      · simp only [if_neg (show ¬ i = g.n by omega), if_true] at hij
        exact absurd hij (hno i _ h)
      · simp only [if_neg (show ¬ j = g.n by omega), if_true] at hij
        exact absurd hij.symm (hno j _ h')
      · rfl
    · rcases split i cs' hi with ⟨h, hlt⟩ | ⟨rfl, rfl⟩
      · simp only [if_neg (show ¬ i = g.n by omega)]
        exact hw.rep.ownObj x hx u hu b' hb' i cs' h
      · simp only [if_true]
        intro e; subst e
        exact hown x hx u hu hb'
  · intro i cs' hi
    rcases split i cs' hi with ⟨h, hlt⟩ | ⟨rfl, rfl⟩
    · simp only [if_neg (show ¬ i = g.n by omega)]; exact hw.objs i cs' h
    · simp only [if_true]; exact hE

/-- a new owned list -/
theorem WI.addOwn {E : Ent} {g : Gh} {σ : St} {w : World} (hw : WI E g σ w) {k sz : Nat} {xs : List V} {u : Value} (hk : ∀ x ∈ σ.own, x.1 ≠ k) (hsz : 0 < sz ∧ ∀ x ∈ xs, x.size = sz) (hr : repV g.M (.list xs) u) (hp : Perm g.M w sz u)
    (hb : ∀ b, ownB u = some b → E.w.heap.size ≤ b ∧ (∀ i cs, σ.H[i]? = some (some cs) → g.β i ≠ b) ∧ ∀ x ∈ σ.own, ∀ u', g.ι x.1 x.2.2.length = some u' → ownB u' ≠ some b) :
    WI E { g with ι := fun k' m => if k' = k then (if m = xs.length then some u else none) else g.ι k' m } ⟨σ.H, (k, sz, xs) :: σ.own⟩ w ∧
    g.le { g with ι := fun k' m => if k' = k then (if m = xs.length then some u else none) else g.ι k' m } := by
  have hle : g.le { g with ι := fun k' m => if k' = k then (if m = xs.length then some u else none) else g.ι k' m } := by
    refine ⟨Mem.le_refl _, Nat.le_refl _, fun _ _ => rfl, fun k' m u' h => ?_, fun _ _ => rfl⟩
    by_cases e : k' = k
    · subst e; rw [hw.rep.fresh k' hk m] at h; simp at h
    · simp only [if_neg e]; exact h
  have hold : ∀ x ∈ σ.own, (if x.1 = k then (if x.2.2.length = xs.length then some u else none) else g.ι x.1 x.2.2.length) = g.ι x.1 x.2.2.length := fun x hx => if_neg (hk x hx)
  refine ⟨hw.update (fun _ => False) (fun _ h => h.elim) (fun _ _ _ => ⟨rfl, fun _ => rfl⟩) (Mem.le_refl _) (Nat.le_refl _) (fun _ _ => rfl) (fun _ _ => rfl) (Nat.le_refl _) rfl rfl rfl ?_ hw.objs ?_, hle⟩
  · refine ⟨hw.rep.n, hw.rep.mem, fun i cs hi => ?_, hw.rep.inj, fun k' sz' xs' hx => ?_, ?_, fun x hx y hy hne u1 u2 h1 h2 b hb1 => ?_, fun x hx u1 h1 b hb1 i cs hi => ?_, fun k' hk' m => ?_⟩
    · obtain ⟨us, rest, e, h2, h3, h4, h5⟩ := hw.rep.obj i cs hi
      exact ⟨us, rest, e, h2, repDs.mono hle _ _ h3, h4, h5⟩
    · rcases List.mem_cons.1 hx with e | hx
      · simp only [Prod.mk.injEq] at e
        obtain ⟨rfl, rfl, rfl⟩ := e
        refine ⟨hsz, u, by simp, hr, hp, fun m hm => ?_⟩
        simp only [if_true]; exact if_neg (by omega)
      · obtain ⟨h0, u', hu, h3, h4, h5⟩ := hw.rep.own k' sz' xs' hx
        have hne : ¬ k' = k := hk _ hx
        refine ⟨h0, u', by simp only [if_neg hne]; exact hu, h3, h4, fun m hm => by simp only [if_neg hne]; exact h5 m hm⟩
    · simp only [List.map_cons, List.nodup_cons]
      refine ⟨fun h => ?_, hw.rep.tags⟩
      obtain ⟨x, hx, e⟩ := List.mem_map.1 h
      exact hk x hx e
    · rcases List.mem_cons.1 hx with rfl | hx <;> rcases List.mem_cons.1 hy with rfl | hy
      · exact absurd rfl hne
      · simp at h1; subst h1
        have h2' : g.ι y.1 y.2.2.length = some u2 := (hold y hy).symm.trans h2
        exact (hb b hb1).2.2 y hy u2 h2'
      · simp at h2; subst h2
        have h1' : g.ι x.1 x.2.2.length = some u1 := (hold x hx).symm.trans h1
        intro hb2
        exact (hb b hb2).2.2 x hx u1 h1' hb1
      · exact hw.rep.sep x hx y hy hne u1 u2 ((hold x hx).symm.trans h1) ((hold y hy).symm.trans h2) b hb1
    · rcases List.mem_cons.1 hx with rfl | hx
      · simp at h1; subst h1
        exact (hb b hb1).2.1 i cs hi
      · exact hw.rep.ownObj x hx u1 ((hold x hx).symm.trans h1) b hb1 i cs hi
    · have hne : ¬ k' = k := fun e => hk' (k, sz, xs) (by simp) e.symm
      simp only [if_neg hne]
      exact hw.rep.fresh k' (fun x hx => hk' x (by simp [hx])) m
  · intro x hx u1 h1 b hb1
    rcases List.mem_cons.1 hx with rfl | hx
    · simp at h1; subst h1
      exact .inl (hb b hb1).1
    · exact hw.owns x hx u1 ((hold x hx).symm.trans h1) b hb1

end Go.Dv
