/-
  A layer over the model's calls: how pure data (V) and slot values (D) lie in memory. Definitions and their monotony. No program is named here.
-/
import Derived.Calls
import Derived.Laws.AppendOwn
import Derived.Laws.MakeOwn
import Derived.Laws.Slices
import Derived.Laws.Rows
import Derived.Tactics
import Derived.Laws.Strings
import Derived.Great.BuildSlice
namespace Go.Dv

/-- pure data: what lies in memory that never changes again -/
inductive V where
  | int (k : IntKind) (n : Int)
  | bool (b : Bool)
  | str (s : List UInt8)
  | list (xs : List V)
  | agg (cs : List V)
  | ref (x : V)
  | fn (f : FuncId) (fs cs : List V)
  | nilfn
  | nilp
  | nils
  deriving Inhabited

def V.isAgg : V → Bool
  | .agg _ => true
  | _ => false

/-- how many cells -/
def V.size : V → Nat
  | .agg cs => cs.length
  | _ => 1

abbrev Mem := Nat → Nat → Option Value

def inM (M : Mem) (b off : Nat) (ws : List Value) : Prop := ∀ j v, ws[j]? = some v → M b (off + j) = some v

def mkVal : V → List Value → Value
  | .agg _, ws => .agg ws.toArray
  | _, ws => ws.headD (.tuple #[])

mutual
def repC (M : Mem) : V → List Value → Prop
  | .int k n, ws => ws = [.int k n]
  | .bool b, ws => ws = [.bool b]
  | .str s, ws => ws = [.string ⟨s.toArray⟩]
  | .list xs, ws => ∃ a cap, ws = [.slice a xs.length cap] ∧ xs.length ≤ cap ∧ (xs = [] ∨ ∃ b off sz us, a = some ⟨b, off, none⟩ ∧ 0 < sz ∧ inM M b off us ∧ repE M sz xs us)
  | .agg cs, ws => repA M cs ws
  | .ref x, ws => ∃ b off us, ws = [.pointer (some ⟨b, off, none⟩)] ∧ inM M b off us ∧ repC M x us
  | .fn f fs cs, ws => ∃ us vs, ws = [.func (.func f) us.toArray vs.toArray] ∧ repL M fs us ∧ repL M cs vs
  | .nilfn, ws => ws = [.nilFunc]
  | .nilp, ws => ws = [.pointer none]
  | .nils, ws => ws = [.slice none 0 0]
def repE (M : Mem) (sz : Nat) : List V → List Value → Prop
  | [], us => us = []
  | x :: xs, us => ∃ u1 u2, us = u1 ++ u2 ∧ u1.length = sz ∧ repC M x u1 ∧ repE M sz xs u2
def repA (M : Mem) : List V → List Value → Prop
  | [], us => us = []
  | c :: cs, us => ∃ u us', us = u :: us' ∧ c.isAgg = false ∧ repC M c [u] ∧ repA M cs us'
def repL (M : Mem) : List V → List Value → Prop
  | [], us => us = []
  | x :: xs, us => ∃ u us' ws, us = u :: us' ∧ repC M x ws ∧ u = mkVal x ws ∧ repL M xs us'
end

def repV (M : Mem) (x : V) (u : Value) : Prop := ∃ ws, repC M x ws ∧ u = mkVal x ws

def Mem.le (M M' : Mem) : Prop := ∀ b o v, M b o = some v → M' b o = some v

theorem Mem.le_refl (M : Mem) : M.le M := fun _ _ _ h => h
theorem Mem.le_trans {M M' M'' : Mem} (h : M.le M') (h' : M'.le M'') : M.le M'' := fun b o v e => h' b o v (h b o v e)

theorem inM.mono {M M' : Mem} {b off : Nat} {ws : List Value} (hm : M.le M') (h : inM M b off ws) : inM M' b off ws := fun j v e => hm _ _ _ (h j v e)

mutual
theorem repC.mono {M M' : Mem} (hm : M.le M') : ∀ (x : V) (ws : List Value), repC M x ws → repC M' x ws
  | .int k n, ws, h => h
  | .bool b, ws, h => h
  | .str s, ws, h => h
  | .list xs, ws, h => by
    simp only [repC] at h ⊢
    obtain ⟨a, cap, e, hc, h⟩ := h
    refine ⟨a, cap, e, hc, ?_⟩
    rcases h with h | ⟨b, off, sz, us, ha, hs, hi, he⟩
    · exact .inl h
    · exact .inr ⟨b, off, sz, us, ha, hs, hi.mono hm, repE.mono hm sz xs us he⟩
  | .agg cs, ws, h => by simp only [repC] at h ⊢; exact repA.mono hm cs ws h
  | .ref x, ws, h => by
    simp only [repC] at h ⊢
    obtain ⟨b, off, us, e, hi, hx⟩ := h
    exact ⟨b, off, us, e, hi.mono hm, repC.mono hm x us hx⟩
  | .fn f fs cs, ws, h => by
    simp only [repC] at h ⊢
    obtain ⟨us, vs, e, h1, h2⟩ := h
    exact ⟨us, vs, e, repL.mono hm fs us h1, repL.mono hm cs vs h2⟩
  | .nilfn, ws, h => h
  | .nilp, ws, h => h
  | .nils, ws, h => h
theorem repE.mono {M M' : Mem} (hm : M.le M') (sz : Nat) : ∀ (xs : List V) (us : List Value), repE M sz xs us → repE M' sz xs us
  | [], us, h => h
  | x :: xs, us, h => by
    simp only [repE] at h ⊢
    obtain ⟨u1, u2, e, hl, h1, h2⟩ := h
    exact ⟨u1, u2, e, hl, repC.mono hm x u1 h1, repE.mono hm sz xs u2 h2⟩
theorem repA.mono {M M' : Mem} (hm : M.le M') : ∀ (cs : List V) (us : List Value), repA M cs us → repA M' cs us
  | [], us, h => h
  | c :: cs, us, h => by
    simp only [repA] at h ⊢
    obtain ⟨u, us', e, ha, h1, h2⟩ := h
    exact ⟨u, us', e, ha, repC.mono hm c [u] h1, repA.mono hm cs us' h2⟩
theorem repL.mono {M M' : Mem} (hm : M.le M') : ∀ (xs : List V) (us : List Value), repL M xs us → repL M' xs us
  | [], us, h => h
  | x :: xs, us, h => by
    simp only [repL] at h ⊢
    obtain ⟨u, us', ws, e, h1, h2, h3⟩ := h
    exact ⟨u, us', ws, e, repC.mono hm x ws h1, h2, repL.mono hm xs us' h3⟩
end

theorem repV.mono {M M' : Mem} (hm : M.le M') {x : V} {u : Value} (h : repV M x u) : repV M' x u :=
  let ⟨ws, h1, h2⟩ := h; ⟨ws, repC.mono hm x ws h1, h2⟩

theorem repA_length {M : Mem} : ∀ {cs : List V} {us : List Value}, repA M cs us → us.length = cs.length
  | [], us, h => by simp only [repA] at h; simp [h]
  | c :: cs, us, h => by
    simp only [repA] at h
    obtain ⟨u, us', rfl, _, _, h2⟩ := h
    simp [repA_length h2]

theorem repC_length {M : Mem} : ∀ {x : V} {ws : List Value}, repC M x ws → ws.length = x.size
  | .int k n, ws, h => by simp only [repC] at h; simp [h, V.size]
  | .bool b, ws, h => by simp only [repC] at h; simp [h, V.size]
  | .str s, ws, h => by simp only [repC] at h; simp [h, V.size]
  | .list xs, ws, h => by simp only [repC] at h; obtain ⟨a, cap, e, _⟩ := h; simp [e, V.size]
  | .agg cs, ws, h => by simp only [repC] at h; simpa [V.size] using repA_length h
  | .ref x, ws, h => by simp only [repC] at h; obtain ⟨b, off, us, e, _⟩ := h; simp [e, V.size]
  | .fn f fs cs, ws, h => by simp only [repC] at h; obtain ⟨us, vs, e, _⟩ := h; simp [e, V.size]
  | .nilfn, ws, h => by simp only [repC] at h; simp [h, V.size]
  | .nilp, ws, h => by simp only [repC] at h; simp [h, V.size]
  | .nils, ws, h => by simp only [repC] at h; simp [h, V.size]

/-- a value that is no struct or array is one cell -/
theorem repC_one {M : Mem} {x : V} {ws : List Value} (hx : x.isAgg = false) (h : repC M x ws) : ∃ u, ws = [u] ∧ mkVal x ws = u ∧ u.oneCell' = true := by
  cases x with
  | int k n => simp only [repC] at h; exact ⟨_, h, by simp [mkVal, h], rfl⟩
  | bool b => simp only [repC] at h; exact ⟨_, h, by simp [mkVal, h], rfl⟩
  | str s => simp only [repC] at h; exact ⟨_, h, by simp [mkVal, h], rfl⟩
  | list xs => simp only [repC] at h; obtain ⟨a, cap, e, _⟩ := h; exact ⟨_, e, by simp [mkVal, e], rfl⟩
  | agg cs => simp [V.isAgg] at hx
  | ref x => simp only [repC] at h; obtain ⟨b, off, us, e, _⟩ := h; exact ⟨_, e, by simp [mkVal, e], rfl⟩
  | fn f fs cs => simp only [repC] at h; obtain ⟨us, vs, e, _⟩ := h; exact ⟨_, e, by simp [mkVal, e], rfl⟩
  | nilfn => simp only [repC] at h; exact ⟨_, h, by simp [mkVal, h], rfl⟩
  | nilp => simp only [repC] at h; exact ⟨_, h, by simp [mkVal, h], rfl⟩
  | nils => simp only [repC] at h; exact ⟨_, h, by simp [mkVal, h], rfl⟩

theorem repV_one {M : Mem} {x : V} {u : Value} (hx : x.isAgg = false) : repV M x u ↔ repC M x [u] := by
  constructor
  · rintro ⟨ws, h, e⟩
    obtain ⟨u', e1, e2, _⟩ := repC_one hx h
    rw [e, e2, ← e1]; exact h
  · intro h
    obtain ⟨u', e1, e2, _⟩ := repC_one hx h
    have : u = u' := by simpa using e1
    exact ⟨[u], h, by rw [e2, this]⟩

@[simp] theorem repV_int {M : Mem} {k : IntKind} {n : Int} {u : Value} : repV M (.int k n) u ↔ u = .int k n := by rw [repV_one rfl]; simp [repC]
@[simp] theorem repV_bool {M : Mem} {b : Bool} {u : Value} : repV M (.bool b) u ↔ u = .bool b := by rw [repV_one rfl]; simp [repC]
@[simp] theorem repV_str {M : Mem} {s : List UInt8} {u : Value} : repV M (.str s) u ↔ u = .string ⟨s.toArray⟩ := by rw [repV_one rfl]; simp [repC]
@[simp] theorem repV_nilfn {M : Mem} {u : Value} : repV M .nilfn u ↔ u = .nilFunc := by rw [repV_one rfl]; simp [repC]
@[simp] theorem repV_nils {M : Mem} {u : Value} : repV M .nils u ↔ u = .slice none 0 0 := by rw [repV_one rfl]; simp [repC]
@[simp] theorem repV_nilp {M : Mem} {u : Value} : repV M .nilp u ↔ u = .pointer none := by rw [repV_one rfl]; simp [repC]
theorem repV_list {M : Mem} {xs : List V} {u : Value} : repV M (.list xs) u ↔ ∃ a cap, u = .slice a xs.length cap ∧ xs.length ≤ cap ∧ (xs = [] ∨ ∃ b off sz us, a = some ⟨b, off, none⟩ ∧ 0 < sz ∧ inM M b off us ∧ repE M sz xs us) := by
  rw [repV_one rfl]; simp [repC]
theorem repV_nil (M : Mem) : repV M (.list []) (.slice none 0 0) := by rw [repV_list]; exact ⟨none, 0, rfl, Nat.le_refl _, .inl rfl⟩
theorem repV_ref {M : Mem} {x : V} {u : Value} : repV M (.ref x) u ↔ ∃ b off us, u = .pointer (some ⟨b, off, none⟩) ∧ inM M b off us ∧ repC M x us := by rw [repV_one rfl]; simp [repC]
theorem repV_fn {M : Mem} {f : FuncId} {fs cs : List V} {u : Value} : repV M (.fn f fs cs) u ↔ ∃ us vs, u = .func (.func f) us.toArray vs.toArray ∧ repL M fs us ∧ repL M cs vs := by rw [repV_one rfl]; simp [repC]
theorem repV_agg {M : Mem} {cs : List V} {u : Value} : repV M (.agg cs) u ↔ ∃ ws, repA M cs ws ∧ u = .agg ws.toArray := by simp [repV, repC, mkVal]

theorem repV_oneCell {M : Mem} {x : V} {u : Value} (hx : x.isAgg = false) (h : repV M x u) : u.oneCell' = true := by
  obtain ⟨ws, h, e⟩ := h
  obtain ⟨u', e1, e2, h3⟩ := repC_one hx h
  rw [e, e2]; exact h3

theorem repV_cells {M : Mem} {x : V} {u : Value} (h : repV M x u) : repC M x u.cells.toList := by
  obtain ⟨ws, h, e⟩ := h
  cases hx : x.isAgg with
  | false =>
    obtain ⟨u', e1, e2, h3⟩ := repC_one hx h
    rw [e, e2]
    have : u'.cells = #[u'] := by cases u' <;> simp_all [Value.cells, Value.oneCell']
    rw [this, ← e1]; exact h
  | true =>
    cases x with
    | agg cs => rw [e]; simpa [mkVal, Value.cells] using h
    | _ => simp [V.isAgg] at hx

/-- every cell of a datum is one cell -/
theorem repA_oneCell {M : Mem} : ∀ {cs : List V} {us : List Value}, repA M cs us → ∀ u ∈ us, u.oneCell' = true
  | [], us, h => by simp only [repA] at h; simp [h]
  | c :: cs, us, h => by
    simp only [repA] at h
    obtain ⟨u, us', rfl, ha, h1, h2⟩ := h
    intro u0 hu
    rcases List.mem_cons.1 hu with rfl | hu
    · obtain ⟨u', e1, _, h3⟩ := repC_one ha h1
      have : u0 = u' := by simpa using e1
      rw [this]; exact h3
    · exact repA_oneCell h2 u0 hu

theorem repC_oneCell {M : Mem} {x : V} {us : List Value} (h : repC M x us) : ∀ u ∈ us, u.oneCell' = true := by
  cases hx : x.isAgg with
  | false =>
    obtain ⟨u', e1, _, h3⟩ := repC_one hx h
    rw [e1]; intro u hu; simp at hu; rw [hu]; exact h3
  | true =>
    cases x with
    | agg cs => simp only [repC] at h; exact repA_oneCell h
    | _ => simp [V.isAgg] at hx

/- SLOT VALUES -/
inductive D where
  | v (x : V)
  | acc (k : Nat) (xs : List V)
  | ptr (o off : Nat)
  | arr (o off len : Nat)
  | gro (o len sz : Nat)
  | raw (x : Value)
  | rv (x : V) (u : Value)
  | dagg (cs : List D)
  | dfn (f : FuncId) (fs cs : List D)
  | tup (ds : List D)
  | err
  | undef
  deriving Inhabited

/-- what the run knows beside the world: M (cells that never change again), where the local objects lie, the headers of owned lists by tag and length -/
structure Gh where
  M : Mem
  β : Nat → Nat
  n : Nat
  ι : Nat → Nat → Option Value
  κ : Nat → Nat

mutual
def repD (g : Gh) : D → Value → Prop
  | .v x, u => repV g.M x u
  | .acc k xs, u => repV g.M (.list xs) u ∧ g.ι k xs.length = some u
  | .ptr o off, u => o < g.n ∧ u = .pointer (some ⟨g.β o, off, none⟩)
  | .arr o off len, u => o < g.n ∧ ∃ cap, len ≤ cap ∧ u = .slice (some ⟨g.β o, off, none⟩) len cap
  | .gro o len sz, u => o < g.n ∧ ∃ cap, len ≤ cap ∧ cap * sz = g.κ o ∧ u = .slice (some ⟨g.β o, 0, none⟩) len cap
  | .raw x, u => u = x
  | .rv x u0, u => u = u0 ∧ repV g.M x u0
  | .dagg cs, u => ∃ us, u = .agg us.toArray ∧ repDs g cs us
  | .dfn f fs cs, u => ∃ us vs, u = .func (.func f) us.toArray vs.toArray ∧ repDs g fs us ∧ repDs g cs vs
  | .tup ds, u => ∃ us, u = .tuple us.toArray ∧ repDs g ds us
  | .err, u => ∃ t p, u = .iface t p
  | .undef, _ => True
def repDs (g : Gh) : List D → List Value → Prop
  | [], us => us = []
  | d :: ds, us => ∃ u us', us = u :: us' ∧ repD g d u ∧ repDs g ds us'
end

structure Gh.le (g g' : Gh) : Prop where
  M : g.M.le g'.M
  n : g.n ≤ g'.n
  β : ∀ o, o < g.n → g'.β o = g.β o
  ι : ∀ k m u, g.ι k m = some u → g'.ι k m = some u
  κ : ∀ o, o < g.n → g'.κ o = g.κ o

theorem Gh.le_refl (g : Gh) : g.le g := ⟨g.M.le_refl, Nat.le_refl _, fun _ _ => rfl, fun _ _ _ h => h, fun _ _ => rfl⟩
theorem Gh.le_trans {g g' g'' : Gh} (h : g.le g') (h' : g'.le g'') : g.le g'' :=
  ⟨Mem.le_trans h.M h'.M, Nat.le_trans h.n h'.n, fun o ho => (h'.β o (Nat.lt_of_lt_of_le ho h.n)).trans (h.β o ho), fun k m u e => h'.ι k m u (h.ι k m u e), fun o ho => (h'.κ o (Nat.lt_of_lt_of_le ho h.n)).trans (h.κ o ho)⟩

mutual
theorem repD.mono {g g' : Gh} (hg : g.le g') : ∀ (d : D) (u : Value), repD g d u → repD g' d u
  | .v x, u, h => by simp only [repD] at h ⊢; exact h.mono hg.M
  | .acc k xs, u, h => by simp only [repD] at h ⊢; exact ⟨h.1.mono hg.M, hg.ι _ _ _ h.2⟩
  | .ptr o off, u, h => by simp only [repD] at h ⊢; exact ⟨Nat.lt_of_lt_of_le h.1 hg.n, by rw [hg.β o h.1]; exact h.2⟩
  | .arr o off len, u, h => by simp only [repD] at h ⊢; exact ⟨Nat.lt_of_lt_of_le h.1 hg.n, by rw [hg.β o h.1]; exact h.2⟩
  | .gro o len sz, u, h => by simp only [repD] at h ⊢; exact ⟨Nat.lt_of_lt_of_le h.1 hg.n, by rw [hg.β o h.1, hg.κ o h.1]; exact h.2⟩
  | .raw x, u, h => by simpa only [repD] using h
  | .rv x u0, u, h => by simp only [repD] at h ⊢; exact ⟨h.1, h.2.mono hg.M⟩
  | .dagg cs, u, h => by
    simp only [repD] at h ⊢
    obtain ⟨us, e, h1⟩ := h
    exact ⟨us, e, repDs.mono hg cs us h1⟩
  | .dfn f fs cs, u, h => by
    simp only [repD] at h ⊢
    obtain ⟨us, vs, e, h1, h2⟩ := h
    exact ⟨us, vs, e, repDs.mono hg fs us h1, repDs.mono hg cs vs h2⟩
  | .tup ds, u, h => by
    simp only [repD] at h ⊢
    obtain ⟨us, e, h1⟩ := h
    exact ⟨us, e, repDs.mono hg ds us h1⟩
  | .err, u, h => by simpa only [repD] using h
  | .undef, u, _ => by simp only [repD]
theorem repDs.mono {g g' : Gh} (hg : g.le g') : ∀ (ds : List D) (us : List Value), repDs g ds us → repDs g' ds us
  | [], us, h => by simpa only [repDs] using h
  | d :: ds, us, h => by
    simp only [repDs] at h ⊢
    obtain ⟨u, us', e, h1, h2⟩ := h
    exact ⟨u, us', e, repD.mono hg d u h1, repDs.mono hg ds us' h2⟩
end

theorem repDs_length {g : Gh} : ∀ {ds : List D} {us : List Value}, repDs g ds us → us.length = ds.length
  | [], us, h => by simp only [repDs] at h; simp [h]
  | d :: ds, us, h => by
    simp only [repDs] at h
    obtain ⟨u, us', rfl, _, h2⟩ := h
    simp [repDs_length h2]

theorem repDs_get {g : Gh} : ∀ {ds : List D} {us : List Value}, repDs g ds us → ∀ {i : Nat} {d : D}, ds[i]? = some d → ∃ u, us[i]? = some u ∧ repD g d u
  | [], us, h, i, d, hd => by simp at hd
  | d :: ds, us, h, i, d', hd => by
    simp only [repDs] at h
    obtain ⟨u, us', rfl, h1, h2⟩ := h
    cases i with
    | zero => simp at hd; subst hd; exact ⟨u, by simp, h1⟩
    | succ i => simp at hd; obtain ⟨u', e, h3⟩ := repDs_get h2 hd; exact ⟨u', by simpa using e, h3⟩

theorem repDs_set {g : Gh} : ∀ {ds : List D} {us : List Value}, repDs g ds us → ∀ (i : Nat) {d : D} {u : Value}, repD g d u → repDs g (ds.set i d) (us.set i u)
  | [], us, h, i, d, u, _ => by simp only [repDs] at h; simp [h, repDs]
  | d0 :: ds, us, h, i, d, u, hd => by
    simp only [repDs] at h
    obtain ⟨u0, us', rfl, h1, h2⟩ := h
    cases i with
    | zero => simp only [List.set_cons_zero, repDs]; exact ⟨u, us', rfl, hd, h2⟩
    | succ i => simp only [List.set_cons_succ, repDs]; exact ⟨u0, _, rfl, h1, repDs_set h2 i hd⟩

theorem repDs_append {g : Gh} : ∀ {ds ds' : List D} {us us' : List Value}, repDs g ds us → repDs g ds' us' → repDs g (ds ++ ds') (us ++ us')
  | [], ds', us, us', h, h' => by simp only [repDs] at h; simpa [h] using h'
  | d :: ds, ds', us, us', h, h' => by
    simp only [repDs] at h
    obtain ⟨u, us1, rfl, h1, h2⟩ := h
    simp only [List.cons_append, repDs]
    exact ⟨u, _, rfl, h1, repDs_append h2 h'⟩

theorem get_app {α : Type} {l r : List α} {i : Nat} {x : α} (h : l[i]? = some x) : (l ++ r)[i]? = some x := by
  rw [List.getElem?_append_left (List.getElem?_eq_some_iff.1 h).1]; exact h

theorem repDs_weaken {g : Gh} : ∀ {ds : List D} {us : List Value}, repDs g ds us → ∀ {ds' : List D}, ds'.length = ds.length → (∀ (i : Nat) (d' : D), ds'[i]? = some d' → d' = .undef ∨ ds[i]? = some d') → repDs g ds' us
  | [], us, h, ds', hl, _ => by
    have : ds' = [] := List.eq_nil_of_length_eq_zero (by simpa using hl)
    subst this; exact h
  | d :: ds, us, h, [], hl, _ => by simp at hl
  | d :: ds, us, h, d' :: ds', hl, hw => by
    simp only [repDs] at h ⊢
    obtain ⟨u, us', rfl, h1, h2⟩ := h
    refine ⟨u, us', rfl, ?_, repDs_weaken h2 (by simpa using hl) (fun i x hx => by have := hw (i + 1) x (by simpa using hx); simpa using this)⟩
    rcases hw 0 d' (by simp) with rfl | e
    · simp only [repD]
    · simp at e; subst e; exact h1

end Go.Dv

namespace Go.Dv
/-- is it kept in mind that the count of draws only grows? (the contract of slices.SortFunc asks for it; the kit's contracts of strings.Builder do not tell it) -/
abbrev DRW : Prop := True
def drwLe (a b : Nat) : Prop := DRW → a ≤ b
theorem drwLe.of {a b : Nat} (h : a ≤ b) : drwLe a b := fun _ => h
theorem drwLe.refl (a : Nat) : drwLe a a := .of (Nat.le_refl _)
theorem drwLe.succ (a : Nat) : drwLe a (a + 1) := .of (Nat.le_succ _)
theorem drwLe.trans {a b c : Nat} (h : drwLe a b) (h' : drwLe b c) : drwLe a c := fun d => Nat.le_trans (h d) (h' d)
def GLOB : List (Nat × V) := []
/-- what else is known of variables -/
def GLX (_ : Mem) : Prop := True
theorem GLX.mono {M M' : Mem} (h : GLX M) (_ : M.le M') : GLX M' := h
/-- what is known of memory has the known variables -/
structure GlobOK (M : Mem) : Prop where
  known : ∀ p ∈ GLOB, ∃ us, inM M p.1 0 us ∧ repC M p.2 us
  more : GLX M
theorem GlobOK.mono {M M' : Mem} (h : GlobOK M) (hle : M.le M') : GlobOK M' := ⟨fun p hp =>
  let ⟨us, h1, h2⟩ := h.known p hp
  ⟨us, h1.mono hle, repC.mono hle _ _ h2⟩, h.more.mono hle⟩
/-- variables whose number of cells is known -/
def GSIZE : List (Nat × Nat) := []
/-- of a world: those variables lie there -/
def GW (w : World) : Prop := ∀ p ∈ GSIZE, ∃ cs e x, w.heap[p.1]? = some (.cells cs e x) ∧ cs.size = p.2
theorem GW.mono {w w' : World} (h : GW w) (hs : ∀ (b : Nat) (cs : Array Value) (e : TypeId) (x : Nat × Nat), w.heap[b]? = some (.cells cs e x) → ∃ cs' e' x', w'.heap[b]? = some (.cells cs' e' x') ∧ cs'.size = cs.size) : GW w' := fun p hp => by
  obtain ⟨cs, e, x, h1, h2⟩ := h p hp
  obtain ⟨cs', e', x', h3, h4⟩ := hs _ _ _ _ h1
  exact ⟨cs', e', x', h3, h4.trans h2⟩
theorem GW.keep {w w' : World} (h : GW w) (hs : ∀ b, b < w.heap.size → w'.heap[b]? = w.heap[b]?) : GW w' := h.mono fun b cs e x hb => ⟨cs, e, x, (hs b (Array.getElem?_eq_some_iff.1 hb).1).trans hb, rfl⟩
theorem GW.keepG {w w' : World} (h : GW w) (hs : ∀ p ∈ GSIZE, p.1 < w.heap.size → w'.heap[p.1]? = w.heap[p.1]?) : GW w' := fun p hp => by
  obtain ⟨cs, e, x, h1, h2⟩ := h p hp
  exact ⟨cs, e, x, (hs p hp (Array.getElem?_eq_some_iff.1 h1).1).trans h1, h2⟩
theorem GlobOK.sized {M : Mem} (_ : GlobOK M) : ∀ p ∈ GSIZE, ∃ v, M p.1 0 = some v := fun p hp => by simp [GSIZE] at hp
end Go.Dv

namespace Go.Dv

structure St where
  H : List (Option (List D))
  own : List (Nat × Nat × List V)

/-- slot values of one cell -/
def D.one : D → Bool
  | .v x => !x.isAgg
  | .acc .. | .ptr .. | .arr .. | .gro .. | .dfn .. => true
  | .raw x => x.oneCell'
  | .rv x _ => !x.isAgg
  | _ => false

/-- the block that an owned list may write -/
def ownB : Value → Option Nat
  | .slice (some a) _ cap => if cap = 0 then none else some a.block
  | _ => none

/-- nothing is known of a block from here on; it is none of the known variables -/
structure NoM (M : Mem) (b n : Nat) : Prop where
  none : ∀ o, n ≤ o → M b o = Option.none
  ng : ∀ p ∈ GSIZE, p.1 ≠ b
instance {M : Mem} {b n : Nat} : CoeFun (NoM M b n) fun _ => ∀ o, n ≤ o → M b o = Option.none := ⟨NoM.none⟩
def Perm (M : Mem) (w : World) (sz : Nat) (u : Value) : Prop :=
  (∃ a, u = .slice a 0 0) ∨ ∃ b f len cap cur e, u = .slice (some ⟨b, f, none⟩) len cap ∧ w.heap[b]? = some (.cells cur e (0, 0)) ∧ len ≤ cap ∧ f + cap * sz ≤ cur.size ∧ NoM M b (f + len * sz)

structure WRep (g : Gh) (σ : St) (w : World) : Prop where
  n : g.n = σ.H.length
  mem : ∀ b o v, g.M b o = some v → w.cell? ⟨b, o, none⟩ = some v
  obj : ∀ i cs, σ.H[i]? = some (some cs) → ∃ us rest e, w.heap[g.β i]? = some (.cells (us ++ rest).toArray e (0, 0)) ∧ repDs g cs us ∧ (∀ c ∈ cs, c.one = true) ∧ (∀ o, g.M (g.β i) o = none) ∧ (us ++ rest).length = g.κ i
  inj : ∀ i j cs ds, σ.H[i]? = some (some cs) → σ.H[j]? = some (some ds) → g.β i = g.β j → i = j
  own : ∀ k sz xs, (k, sz, xs) ∈ σ.own → (0 < sz ∧ ∀ x ∈ xs, x.size = sz) ∧ ∃ u, g.ι k xs.length = some u ∧ repV g.M (.list xs) u ∧ Perm g.M w sz u ∧ ∀ m, xs.length < m → g.ι k m = none
  tags : (σ.own.map (·.1)).Nodup
  sep : ∀ x ∈ σ.own, ∀ y ∈ σ.own, x.1 ≠ y.1 → ∀ u u', g.ι x.1 x.2.2.length = some u → g.ι y.1 y.2.2.length = some u' → ∀ b, ownB u = some b → ownB u' ≠ some b
  ownObj : ∀ x ∈ σ.own, ∀ u, g.ι x.1 x.2.2.length = some u → ∀ b, ownB u = some b → ∀ i cs, σ.H[i]? = some (some cs) → g.β i ≠ b
  fresh : ∀ k, (∀ x ∈ σ.own, x.1 ≠ k) → ∀ m, g.ι k m = none
  gl : GlobOK g.M
  gw : GW w

/-- where a call began -/
structure Ent where
  g : Gh
  w : World
  σ : St

/-- the blocks that the call may write -/
def Ent.priv (E : Ent) (b : Nat) : Prop :=
  (∃ i cs, E.σ.H[i]? = some (some cs) ∧ b = E.g.β i) ∨ (∃ x ∈ E.σ.own, ∃ u, E.g.ι x.1 x.2.2.length = some u ∧ ownB u = some b)

structure WI (E : Ent) (g : Gh) (σ : St) (w : World) : Prop where
  rep : WRep g σ w
  M : E.g.M.le g.M
  size : E.w.heap.size ≤ w.heap.size
  keep : ∀ b, b < E.w.heap.size → ¬ E.priv b → w.heap[b]? = E.w.heap[b]? ∧ ∀ o, g.M b o = E.g.M b o
  os : w.os = E.w.os
  tape : w.tape = E.w.tape
  output : w.output = E.w.output
  nE : E.g.n ≤ g.n
  βE : ∀ o, o < E.g.n → g.β o = E.g.β o
  κE : ∀ o, o < E.g.n → g.κ o = E.g.κ o
  objs : ∀ i cs, σ.H[i]? = some (some cs) → E.w.heap.size ≤ g.β i ∨ E.priv (g.β i)
  owns : ∀ x ∈ σ.own, ∀ u, g.ι x.1 x.2.2.length = some u → ∀ b, ownB u = some b → E.w.heap.size ≤ b ∨ E.priv b
  drawn : drwLe E.w.drawn w.drawn

structure FI (E : Ent) (g : Gh) (σ : St) (env : List D) (a : Act) (w : World) : Prop where
  wi : WI E g σ w
  env : repDs g env a.tmps.toList
  defers : a.defers = []

theorem WI.start {g : Gh} {w : World} {σ : St} (h : WRep g σ w) : WI ⟨g, w, σ⟩ g σ w where
  rep := h
  M := Mem.le_refl _
  size := Nat.le_refl _
  keep := fun _ _ _ => ⟨rfl, fun _ => rfl⟩
  os := rfl
  tape := rfl
  output := rfl
  nE := Nat.le_refl _
  βE := fun _ _ => rfl
  κE := fun _ _ => rfl
  objs := fun i cs h => .inr (.inl ⟨i, cs, h, rfl⟩)
  owns := fun x hx u hu _ hb => .inr (.inr ⟨x, hx, u, hu, hb⟩)
  drawn := drwLe.refl _

/- OPERANDS -/
def constD : Value → D
  | .int k n => .v (.int k n)
  | .bool b => .v (.bool b)
  | .string s => .v (.str s.data.toList)
  | .slice none 0 0 => .v (.list [])
  | .nilFunc => .v .nilfn
  | .pointer none => .v .nilp
  | _ => .undef

theorem repD_const (g : Gh) (u : Value) : repD g (constD u) u := by
  unfold constD
  split <;> simp [repD, repV_nil]

/-- the address of a known variable -/
def globD (n : Nat) : D := match GLOB.find? (·.1 == n) with | some p => .v (.ref p.2) | none => .undef
theorem repD_glob {g : Gh} (hG : GlobOK g.M) (n : Nat) : repD g (globD n) (.pointer (some ⟨n, 0, none⟩)) := by
  unfold globD
  cases h : GLOB.find? (·.1 == n) with
  | none => simp [repD]
  | some p =>
    obtain ⟨us, h1, h2⟩ := hG.known p (List.mem_of_find?_eq_some h)
    have h3 := List.find?_some h
    simp only [beq_iff_eq] at h3
    simp only [repD, repV_ref]
    exact ⟨n, 0, us, rfl, h3 ▸ h1, h2⟩
def evD (env : List D) : Operand → D
  | .tmp t => env.getD t .undef
  | .const u => constD u
  | .global n => globD n
  | .func f => .v (.fn f [] [])

theorem repD_tmp {g : Gh} {env : List D} {a : Act} (h : repDs g env a.tmps.toList) (t : Nat) : repD g (evD env (.tmp t)) (a.eval (.tmp t)) := by
  simp only [evD, Act.eval]
  cases hd : env[t]? with
  | none => rw [List.getD_eq_getElem?_getD, hd]; simp [repD]
  | some d =>
    obtain ⟨u, hu, hr⟩ := repDs_get h hd
    rw [List.getD_eq_getElem?_getD, hd]
    have : a.tmps.getD t undef = u := by
      rw [Array.getD_eq_getD_getElem?]
      have : a.tmps[t]? = some u := by rw [← Array.getElem?_toList]; exact hu
      simp [this]
    rw [this]; exact hr
theorem repD_ev {g : Gh} {env : List D} {a : Act} (hG : GlobOK g.M) (h : repDs g env a.tmps.toList) (x : Operand) : repD g (evD env x) (a.eval x) := by
  cases x with
  | tmp t => exact repD_tmp h t
  | const u => exact repD_const g u
  | global n => exact repD_glob hG n
  | func f => simp only [evD, repD, repV_fn, Act.eval]; exact ⟨[], [], rfl, by simp [repL], by simp [repL]⟩

def evDs (env : List D) (o : Oper) : List D := o.op.operands.toList.map (evD env)

theorem repDs_map {g : Gh} {env : List D} {a : Act} (hG : GlobOK g.M) (h : repDs g env a.tmps.toList) : ∀ (l : List Operand), repDs g (l.map (evD env)) (l.map a.eval)
  | [] => by simp [repDs]
  | x :: l => by simp only [List.map_cons, repDs]; exact ⟨_, _, rfl, repD_ev hG h x, repDs_map hG h l⟩

/- ONE OPERATION -/
def OpOK (P : Program) (o : Oper) (ds : List D) (σ : St) (d : D) (σ' : St) : Prop :=
  ∀ (E : Ent) (g : Gh) (a : Act) (w : World) (K : Act → World → Prop) (Q : Exit → Act → World → Prop), WI E g σ w →
    repDs g ds (o.op.operands.toList.map a.eval) →
    (∀ g' w' u, WI E g' σ' w' → g.le g' → repD g' d u → K (a.put o.dst u) w') → o.wp P a w K Q

theorem repD_undef (g : Gh) : repD g (.tup []) undef := by simp only [repD]; exact ⟨[], rfl, by simp [repDs]⟩

def putD (env : List D) : Option Tmp → D → List D
  | some t, d => env.set t d
  | none, _ => env

theorem FI.put {E : Ent} {g g' : Gh} {σ σ' : St} {env : List D} {a : Act} {w w' : World} (h : FI E g σ env a w) (hw : WI E g' σ' w') (hg : g.le g') {u : Value} {d : D} (hd : repD g' d u) (t : Option Tmp) :
    FI E g' σ' (putD env t d) (a.put t u) w' := by
  refine ⟨hw, ?_, ?_⟩
  · cases t with
    | none => exact repDs.mono hg _ _ h.env
    | some t =>
      simp only [putD, Act.put, Array.toList_setIfInBounds]
      exact repDs_set (repDs.mono hg _ _ h.env) t hd
  · cases t <;> exact h.defers

/-- is a guarded operation run? -/
def wantD (env : List D) (ops : Array Oper) (o : Oper) : Option Bool :=
  match o.guard with
  | none => some true
  | some (j, want) => match ((ops[j]?).bind (·.dst)).bind (env[·]?) with
    | some (.v (.bool b)) => some (b == want)
    | some (.tup _) => some false
    | _ => none

theorem wanted_of {g : Gh} {env : List D} {a : Act} (h : repDs g env a.tmps.toList) {ops : Array Oper} {o : Oper} {b : Bool} (hw : wantD env ops o = some b) :
    Region.wanted o (yielded ops a.tmps) = b := by
  unfold wantD at hw
  unfold Region.wanted
  cases hg : o.guard with
  | none => simp [hg] at hw ⊢; exact hw
  | some p =>
    obtain ⟨j, want⟩ := p
    simp only [hg] at hw ⊢
    cases hj : (ops[j]?).bind (·.dst) with
    | none => simp [hj] at hw
    | some t =>
      simp only [hj, Option.bind_some] at hw
      cases he : env[t]? with
      | none => simp [he] at hw
      | some d =>
        simp only [he] at hw
        obtain ⟨u, hu, hr⟩ := repDs_get h he
        have hu' : a.tmps[t]? = some u := by rw [← Array.getElem?_toList]; exact hu
        split at hw
        · rename_i b' e
          simp only [Option.some.injEq] at e
          subst e
          simp only [repD, repV_bool] at hr
          subst hr
          simp only [yielded, hj, Option.bind_some, hu']
          simp at hw
          rw [← hw]
          cases b' <;> cases want <;> rfl
        · rename_i ds e
          simp only [Option.some.injEq] at e
          subst e
          simp only [repD] at hr
          obtain ⟨us, rfl, _⟩ := hr
          simp only [yielded, hj, Option.bind_some, hu']
          simp at hw
          subst hw
          rfl
        · simp at hw

/- THE STACK -/
inductive KI where
  | code (c : Code)
  | blk (id : Nat)
  | lp (c : Code)

/-- from a loop's head -/
def lpwp (P : Program) (c : Code) (Q : Exit → Act → World → Prop) (a : Act) (w : World) : Prop :=
  ∀ (b : Frame) (k : List Item) (cs : List Frame),
    ∃ e a' w', Q e a' w' ∧ Arrives P (lone (b.at a (.code c :: .inLoop c :: k)) cs w) b k cs e a' w'

def KQ (P : Program) (B : Exit → Act → World → Prop) : List KI → Exit → Act → World → Prop
  | [], e, a, w => B e a w
  | .code c :: k, e, a, w => match e with
    | .normal => c.wp P (KQ P B k) a w
    | e => KQ P B k e a w
  | .lp c :: k, e, a, w => match e with
    | .normal => lpwp P c (KQ P B k) a w
    | e => KQ P B k e a w
  | .blk id :: k, e, a, w => match e with
    | .exit id' => if id' = id then KQ P B k .normal a w else KQ P B k (.exit id') a w
    | e => KQ P B k e a w

/-- the code behaves as R says; E0: where the call began; E: where what is known of memory began -/
def RunC (C : Ent → Ent → Prop) (P : Program) (R : List D → St → Prop) (k : List KI) (env : List D) (σ : St) : Prop :=
  ∀ (E0 E : Ent) (g : Gh) (a : Act) (w : World) (B : Exit → Act → World → Prop), C E0 E → FI E g σ env a w →
    (∀ g' env' σ' a' w', FI E0 g' σ' env' a' w' → R env' σ' → B .ret a' w' ∧ B .normal a' w') → KQ P B k .normal a w
abbrev SameE (E0 E : Ent) : Prop := E0 = E
structure LinkC (C : Ent → Ent → Prop) : Prop where
  ok : ∀ {E0 E : Ent}, C E0 E → ∀ {g : Gh} {σ : St} {w : World}, WI E g σ w → WI E0 g σ w
theorem sameLink : LinkC SameE := ⟨fun h _ _ _ hw => by rw [h]; exact hw⟩
theorem FI.link {C : Ent → Ent → Prop} (L : LinkC C) {E0 E : Ent} (hC : C E0 E) {g : Gh} {σ : St} {env : List D} {a : Act} {w : World} (h : FI E g σ env a w) : FI E0 g σ env a w := ⟨L.ok hC h.wi, h.env, h.defers⟩
abbrev Run (P : Program) (R : List D → St → Prop) (k : List KI) (env : List D) (σ : St) : Prop := RunC SameE P R k env σ

section
variable {C : Ent → Ent → Prop} {P : Program} {R : List D → St → Prop} {k : List KI} {env : List D} {σ : St}

theorem run_nilC (L : LinkC C) (h : R env σ) : RunC C P R [] env σ := fun _ _ _ _ _ _ hC hf hB => (hB _ _ _ _ _ (hf.link L hC) h).2
theorem run_nil (h : R env σ) : Run P R [] env σ := run_nilC sameLink h

theorem KQ_ret {B : Exit → Act → World → Prop} {a : Act} {w : World} (h : B .ret a w) : ∀ k : List KI, KQ P B k .ret a w
  | [] => h
  | .code _ :: k => by simp only [KQ]; exact KQ_ret h k
  | .lp _ :: k => by simp only [KQ]; exact KQ_ret h k
  | .blk _ :: k => by simp only [KQ]; exact KQ_ret h k

theorem run_retC (L : LinkC C) (h : R env σ) : RunC C P R (.code .ret :: k) env σ := fun _ _ _ _ _ _ hC hf hB => by
  simp only [KQ]
  exact wp_ret (KQ_ret (hB _ _ _ _ _ (hf.link L hC) h).1 k)
theorem run_skip (h : RunC C P R k env σ) : RunC C P R (.code .skip :: k) env σ := fun E0 E g a w B hC hf hB => by
  simp only [KQ]
  exact wp_skip (h E0 E g a w B hC hf hB)

theorem run_label {l : Nat} (h : RunC C P R k env σ) : RunC C P R (.code (.label l) :: k) env σ := fun E0 E g a w B hC hf hB => by
  simp only [KQ]
  exact wp_label (h E0 E g a w B hC hf hB)

theorem run_blk {id : Nat} (h : RunC C P R k env σ) : RunC C P R (.blk id :: k) env σ := fun E0 E g a w B hC hf hB => by
  simp only [KQ]
  exact h E0 E g a w B hC hf hB

theorem run_seq {x y : Code} (h : RunC C P R (.code x :: .code y :: k) env σ) : RunC C P R (.code (.seq x y) :: k) env σ := fun E0 E g a w B hC hf hB => by
  have := h E0 E g a w B hC hf hB
  simp only [KQ] at this ⊢
  exact wp_seq (wp_mono this fun e a w q => by cases e <;> exact q)

theorem run_block {id : Nat} {c : Code} (h : RunC C P R (.code c :: .blk id :: k) env σ) : RunC C P R (.code (.block id c) :: k) env σ := fun E0 E g a w B hC hf hB => by
  have := h E0 E g a w B hC hf hB
  simp only [KQ] at this ⊢
  exact wp_block (wp_mono this fun e a w q => by cases e <;> simpa only [KQ, Exit.inBlock] using q)

theorem run_cond {c : Operand} {x y : Code} {b : Bool} (hc : evD env c = .v (.bool b)) (ht : b = true → RunC C P R (.code x :: k) env σ) (hf : b = false → RunC C P R (.code y :: k) env σ) :
    RunC C P R (.code (.cond c x y) :: k) env σ := fun E0 E g a w B hC hfi hB => by
  have hr := repD_ev hfi.wi.rep.gl hfi.env c
  rw [hc] at hr
  have hr' : a.eval c = .bool b := by simpa only [repD, repV_bool] using hr
  simp only [KQ]
  refine wp_cond_split hr' (fun hb => ?_) (fun hb => ?_)
  · have := ht hb E0 E g a w B hC hfi hB; simpa only [KQ] using this
  · have := hf hb E0 E g a w B hC hfi hB; simpa only [KQ] using this

theorem run_lp {c : Code} (h : RunC C P R (.code c :: .lp c :: k) env σ) : RunC C P R (.lp c :: k) env σ := fun E0 E g a w B hC hfi hB => by
  have := h E0 E g a w B hC hfi hB
  simp only [KQ] at this ⊢
  intro b kk cs
  obtain ⟨e, a₁, w₁, hq, harr⟩ := this b (.inLoop c :: kk) cs
  cases e with
  | normal =>
    simp only at hq
    obtain ⟨e₂, a₂, w₂, hq₂, harr₂⟩ := hq b kk cs
    exact ⟨e₂, a₂, w₂, hq₂, .of_steps (Steps.trans harr (.one step_inLoop)) harr₂⟩
  | exit id => exact ⟨_, a₁, w₁, hq, .pass (x := .inLoop c) rfl (fun _ _ => .inl (by simp)) harr⟩
  | goto l => exact ⟨_, a₁, w₁, hq, .pass (x := .inLoop c) rfl (fun _ _ => .inl (by simp)) harr⟩
  | ret => exact ⟨_, a₁, w₁, hq, .pass (x := .inLoop c) rfl (fun _ _ => .inl (by simp)) harr⟩
  | panic ch => exact ⟨_, a₁, w₁, hq, .pass (x := .inLoop c) rfl (fun _ _ => .inl (by simp)) harr⟩
  | outgrown => exact ⟨_, a₁, w₁, hq, .pass (x := .inLoop c) rfl (fun _ _ => .inl (by simp)) harr⟩

theorem run_loop {c : Code} (h : RunC C P R (.lp c :: k) env σ) : RunC C P R (.code (.loop c) :: k) env σ := fun E0 E g a w B hC hfi hB => by
  have := h E0 E g a w B hC hfi hB
  simp only [KQ] at this ⊢
  intro b kk cs
  obtain ⟨e, a', w', hq, harr⟩ := this b kk cs
  exact ⟨e, a', w', hq, .of_steps (.one step_loop) harr⟩

def popK (id : Nat) : List KI → Option (List KI)
  | [] => none
  | .blk id' :: k => if id' = id then some k else popK id k
  | _ :: k => popK id k

theorem KQ_exit {B : Exit → Act → World → Prop} {a : Act} {w : World} {id : Nat} : ∀ {k k' : List KI}, popK id k = some k' → KQ P B k' .normal a w → KQ P B k (.exit id) a w
  | [], k', h, _ => by simp [popK] at h
  | .code c :: k, k', h, q => by simp only [popK] at h; simp only [KQ]; exact KQ_exit h q
  | .lp c :: k, k', h, q => by simp only [popK] at h; simp only [KQ]; exact KQ_exit h q
  | .blk id' :: k, k', h, q => by
    simp only [popK] at h
    simp only [KQ]
    by_cases e : id' = id
    · rw [if_pos e] at h
      simp at h; subst h
      rw [if_pos e.symm]; exact q
    · rw [if_neg e] at h
      rw [if_neg (fun x => e x.symm)]
      exact KQ_exit h q

theorem run_exit {id : Nat} {k' : List KI} (hk : popK id k = some k') (h : RunC C P R k' env σ) : RunC C P R (.code (.exit id) :: k) env σ := fun E0 E g a w B hC hfi hB => by
  simp only [KQ]
  exact wp_exit (KQ_exit hk (h E0 E g a w B hC hfi hB))

/-- forget what some slots hold -/
theorem run_forget {env' : List D} (hl : env'.length = env.length) (he : ∀ (i : Nat) (d' : D), env'[i]? = some d' → d' = .undef ∨ env[i]? = some d') (h : RunC C P R k env' σ) : RunC C P R k env σ := fun E0 E g a w B hC hfi hB =>
  h E0 E g a w B hC ⟨hfi.wi, repDs_weaken hfi.env hl he, hfi.defers⟩ hB
end

/- FUNCTIONS -/
def Callable (P : Program) (f : FuncId) : Prop := ∃ fn, P.funcs[f]? = some fn ∧ (fn.name == "runtime.NumGoroutine") = false ∧ fn.body.isNone = false

def FSpec (P : Program) (f : FuncId) (ds : List D) (σ : St) (d : D) (σ' : St) : Prop :=
  Callable P f ∧ ∀ (g : Gh) (w : World) (args : List Value), WRep g σ w → repDs g ds args →
    Calls P f args.toArray w fun e w' => ∃ u g', e = .returned u ∧ WI ⟨g, w, σ⟩ g' σ' w' ∧ repD g' d u

/-- what the results are -/
def ResOK (P : Program) (fn : Func) (env : List D) (σ : St) (d : D) (σ' : St) : Prop :=
  ∀ E g a w, FI E g σ env a w → E.g.n ≤ σ'.H.length → ∃ u g', (results fn a.tmps).run P w = .ok u w ∧ WI E g' σ' w ∧ repD g' d u

theorem spec_of_run {P : Program} {f : FuncId} {fn : Func} {c : Code} {ds : List D} {σ σ' : St} {d : D} (hf : P.funcs[f]? = some fn) (hb : fn.body = some c) (hn : (fn.name == "runtime.NumGoroutine") = false)
    (hH : σ.H.length ≤ σ'.H.length) (h : Run P (fun env σ1 => ResOK P fn env σ1 d σ') [.code c] (ds ++ List.replicate (fn.ntmps - ds.length) .undef) σ) : FSpec P f ds σ d σ' := by
  refine ⟨⟨fn, hf, hn, by simp [hb]⟩, fun g w args hw hargs => ?_⟩
  refine calls_of_wp hf hb ?_
  have hfi : FI ⟨g, w, σ⟩ g σ (ds ++ List.replicate (fn.ntmps - ds.length) .undef) { tmps := args.toArray ++ Array.replicate (fn.ntmps - args.toArray.size) undef, defers := [] } w := by
    refine ⟨WI.start hw, ?_, rfl⟩
    have hl := repDs_length hargs
    simp only [Array.toList_append, Array.toList_replicate, List.size_toArray, hl]
    refine repDs_append hargs ?_
    generalize fn.ntmps - ds.length = m
    induction m with
    | zero => simp [repDs]
    | succ m ih => simp only [List.replicate_succ, repDs]; exact ⟨_, _, rfl, by simp [repD], ih⟩
  have := h ⟨g, w, σ⟩ ⟨g, w, σ⟩ g _ w (bodyPost P fn fun e w' => ∃ u g', e = .returned u ∧ WI ⟨g, w, σ⟩ g' σ' w' ∧ repD g' d u) rfl hfi ?_
  · simp only [KQ] at this
    exact this
  · intro g' env' σ1 a' w' hfi' hR
    obtain ⟨u, g2, h1, h2, h3⟩ := hR _ _ _ _ hfi' (by rw [hw.n]; exact hH)
    have : a'.defers = [] ∧ ∃ v, (results fn a'.tmps).run P w' = .ok v w' ∧ ∃ u g', Ending.returned v = .returned u ∧ WI ⟨g, w, σ⟩ g' σ' w' ∧ repD g' d u :=
      ⟨hfi'.defers, u, h1, u, g2, rfl, h2, h3⟩
    exact ⟨this, this⟩

end Go.Dv

namespace Go.Dv

/- FACTS ON TYPES, closed for each program -/
def szAgg (P : Program) (t : TypeId) : Option (Nat × Bool) :=
  match P.info? t, P.underlying t with
  | some i, some d => some (i.size, match d with | .struct _ | .array _ _ => true | _ => false)
  | _, _ => none
/-- a type of one cell -/
def OneTy (P : Program) (t : TypeId) : Prop := szAgg P t = some (1, false)
/-- a struct or array of n cells -/
def AggTy (P : Program) (t : TypeId) (n : Nat) : Prop := szAgg P t = some (n, true)

def slTy (P : Program) (t : TypeId) : Option (TypeId × Nat × Nat × Option Value) :=
  match P.underlying t with
  | some (.slice e) => (P.info? e).map fun i => (e, i.size, i.bytes, i.zero)
  | _ => none

def fldTy (P : Program) (s : TypeId) (f : Nat) : Option (Nat × Nat × Bool) :=
  match P.underlying s with
  | some (.struct fs) => (fs[f]?).bind fun x => (szAgg P x.type).map fun p => (x.offset, p.1, p.2)
  | _ => none

def arTy (P : Program) (t : TypeId) : Option (Nat × Nat × Bool) :=
  match P.underlying t with
  | some (.array n e) => (szAgg P e).map fun p => (n, p.1, p.2)
  | _ => none

theorem szAgg_parts {P : Program} {t : TypeId} {n : Nat} {b : Bool} (h : szAgg P t = some (n, b)) :
    ∃ i d, P.info? t = some i ∧ P.underlying t = some d ∧ i.size = n ∧ (match d with | .struct _ | .array _ _ => true | _ => false) = b := by
  unfold szAgg at h
  split at h
  · rename_i i d hi hd
    simp at h
    exact ⟨i, d, hi, hd, h.1, h.2⟩
  · simp at h

theorem run_isAgg {P : Program} {t : TypeId} {n : Nat} {b : Bool} (h : szAgg P t = some (n, b)) (w : World) : (isAgg t).run P w = .ok b w := by
  obtain ⟨i, d, hi, hd, _, hb⟩ := szAgg_parts h
  unfold isAgg
  rw [Sem.run_bind, run_underlying hd w]
  subst hb
  cases d <;> simp

theorem run_sizeOf' {P : Program} {t : TypeId} {n : Nat} {b : Bool} (h : szAgg P t = some (n, b)) (w : World) : (sizeOf t).run P w = .ok n w := by
  obtain ⟨i, d, hi, hd, hn, _⟩ := szAgg_parts h
  simp [sizeOf, typeInfo, hi, hn]

theorem slTy_parts {P : Program} {t e : TypeId} {sz by' : Nat} {z : Option Value} (h : slTy P t = some (e, sz, by', z)) :
    ∃ i, P.underlying t = some (.slice e) ∧ P.info? e = some i ∧ i.size = sz ∧ i.bytes = by' ∧ i.zero = z := by
  unfold slTy at h
  split at h
  · rename_i e' he
    cases hi : P.info? e' with
    | none => simp [hi] at h
    | some i =>
      simp [hi] at h
      obtain ⟨rfl, h1, h2, h3⟩ := h
      exact ⟨i, he, hi, h1, h2, h3⟩
  · simp at h

theorem fldTy_parts {P : Program} {s : TypeId} {f off n : Nat} {b : Bool} (h : fldTy P s f = some (off, n, b)) :
    ∃ fs x, P.underlying s = some (.struct fs) ∧ fs[f]? = some x ∧ x.offset = off ∧ szAgg P x.type = some (n, b) := by
  unfold fldTy at h
  split at h
  · rename_i fs hs
    cases hx : fs[f]? with
    | none => simp [hx] at h
    | some x =>
      simp only [hx, Option.bind_some] at h
      cases hz : szAgg P x.type with
      | none => simp [hz] at h
      | some p =>
        simp [hz] at h
        obtain ⟨h1, h2⟩ := h
        exact ⟨fs, x, hs, hx, h1, by rw [hz]; cases p; simp_all⟩
  · simp at h

theorem arTy_parts {P : Program} {t : TypeId} {len n : Nat} {b : Bool} (h : arTy P t = some (len, n, b)) :
    ∃ e, P.underlying t = some (.array len e) ∧ szAgg P e = some (n, b) := by
  unfold arTy at h
  split at h
  · rename_i l e he
    cases hz : szAgg P e with
    | none => simp [hz] at h
    | some p =>
      simp [hz] at h
      obtain ⟨rfl, h2⟩ := h
      exact ⟨e, he, by rw [hz]; cases p; simp_all⟩
  · simp at h

section
variable {P : Program} {o : Oper} {ds : List D} {σ σ' : St} {d : D}

/-- an operation that leaves the world as it is -/
theorem opOK_run (h : ∀ E g (ρ : Operand → Value) w, WI E g σ w → repDs g ds (o.op.operands.toList.map ρ) → ∃ u, (execOp ρ o).run P w = .ok (.value u) w ∧ repD g d u) : OpOK P o ds σ d σ := by
  intro E g a w K Q hw hds hK
  obtain ⟨u, hr, hd⟩ := h E g a.eval w hw hds
  unfold Oper.wp
  rw [hr]
  exact hK g w u hw g.le_refl hd

/-- less may be known of the operands -/
theorem opOK_sub {ds' : List D} (hs : ∀ g us, repDs g ds us → repDs g ds' us) (h : OpOK P o ds' σ d σ') : OpOK P o ds σ d σ' :=
  fun E g a w K Q hw hds hK => h E g a w K Q hw (hs g _ hds) hK

def D.un : D → D
  | .acc _ xs => .v (.list xs)
  | d => d

theorem repD_un {g : Gh} {d : D} {u : Value} (h : repD g d u) : repD g d.un u := by
  cases d <;> simp only [D.un] <;> first | exact h | (simp only [repD] at h ⊢; exact h.1)

theorem repDs_un {g : Gh} : ∀ {ds : List D} {us : List Value}, repDs g ds us → repDs g (ds.map D.un) us
  | [], us, h => by simpa using h
  | d :: ds, us, h => by
    simp only [repDs, List.map_cons] at h ⊢
    obtain ⟨u, us', e, h1, h2⟩ := h
    exact ⟨u, us', e, repD_un h1, repDs_un h2⟩

theorem opOK_un (h : OpOK P o (ds.map D.un) σ d σ') : OpOK P o ds σ d σ' := opOK_sub (fun _ _ => repDs_un) h

theorem repDs_one {g : Gh} {d : D} {us : List Value} : repDs g [d] us ↔ ∃ u, us = [u] ∧ repD g d u := by
  simp only [repDs]
  constructor
  · rintro ⟨u, us', rfl, h, rfl⟩; exact ⟨u, rfl, h⟩
  · rintro ⟨u, rfl, h⟩; exact ⟨u, [], rfl, h, rfl⟩
theorem repDs_two {g : Gh} {d e : D} {us : List Value} : repDs g [d, e] us ↔ ∃ u v, us = [u, v] ∧ repD g d u ∧ repD g e v := by
  simp only [repDs]
  constructor
  · rintro ⟨u, us', rfl, h, v, us'', rfl, h', rfl⟩; exact ⟨u, v, rfl, h, h'⟩
  · rintro ⟨u, v, rfl, h, h'⟩; exact ⟨u, [v], rfl, h, v, [], rfl, h', rfl⟩
theorem repDs_three {g : Gh} {d e f : D} {us : List Value} : repDs g [d, e, f] us ↔ ∃ u v x, us = [u, v, x] ∧ repD g d u ∧ repD g e v ∧ repD g f x := by
  constructor
  · intro h
    simp only [repDs] at h
    obtain ⟨u, us', rfl, h, v, us'', rfl, h', x, us3, rfl, h'', rfl⟩ := h
    exact ⟨u, v, x, rfl, h, h', h''⟩
  · rintro ⟨u, v, x, rfl, h, h', h''⟩
    simp only [repDs]
    exact ⟨u, [v, x], rfl, h, v, [x], rfl, h', x, [], rfl, h'', rfl⟩

theorem op_move {x : Operand} (ho : o.op = .move x) : OpOK P o [d] σ d σ := by
  refine opOK_run fun E g ρ w hw hds => ?_
  simp only [ho, Op.operands, repDs_one] at hds
  obtain ⟨u, e, hd⟩ := hds
  simp at e
  exact ⟨u, by simp [execOp, ho, e], hd⟩

theorem op_assign {x : Operand} (ho : o.op = .assign x) : OpOK P o [d] σ d σ := by
  refine opOK_run fun E g ρ w hw hds => ?_
  simp only [ho, Op.operands, repDs_one] at hds
  obtain ⟨u, e, hd⟩ := hds
  simp at e
  exact ⟨u, by simp [execOp, ho, e], hd⟩

theorem op_pick {c x y : Operand} (ho : o.op = .pick c x y) {b : Bool} {d1 d2 : D} : OpOK P o [.v (.bool b), d1, d2] σ (if b then d1 else d2) σ := by
  refine opOK_run fun E g ρ w hw hds => ?_
  simp only [ho, Op.operands, repDs_three] at hds
  obtain ⟨u, v, z, e, h1, h2, h3⟩ := hds
  simp only [List.map_cons, List.map_nil, List.cons.injEq, and_true] at e
  obtain ⟨e1, e2, e3⟩ := e
  simp only [repD, repV_bool] at h1
  refine ⟨if b then v else z, ?_, ?_⟩
  · simp only [execOp, ho, e1, h1, e2, e3]
    cases b <;> simp [asBool]
  · cases b <;> simp [h2, h3]

def binI (op : BinOp) (k : IntKind) (a b : Int) : Option V :=
  match op with
  | .add => some (.int k (k.wrap (a + b)))
  | .sub => some (.int k (k.wrap (a - b)))
  | .mul => some (.int k (k.wrap (a * b)))
  | .and => some (.int k (k.wrap (BitVec.ofInt k.bits a &&& BitVec.ofInt k.bits b).toNat))
  | .or => some (.int k (k.wrap (BitVec.ofInt k.bits a ||| BitVec.ofInt k.bits b).toNat))
  | .xor => some (.int k (k.wrap (BitVec.ofInt k.bits a ^^^ BitVec.ofInt k.bits b).toNat))
  | .andNot => some (.int k (k.wrap (BitVec.ofInt k.bits a &&& ~~~BitVec.ofInt k.bits b).toNat))
  | .eql => some (.bool (a == b))
  | .neq => some (.bool (a != b))
  | .lss => some (.bool (a < b))
  | .leq => some (.bool (a ≤ b))
  | .gtr => some (.bool (a > b))
  | .geq => some (.bool (a ≥ b))
  | _ => none

theorem op_binI {op : BinOp} {t ty : TypeId} {x y : Operand} (ho : o.op = .binOp op t x y ty) {k : IntKind} {a b : Int} {r : V} (hr : binI op k a b = some r) :
    OpOK P o [.v (.int k a), .v (.int k b)] σ (.v r) σ := by
  refine opOK_run fun E g ρ w hw hds => ?_
  simp only [ho, Op.operands, repDs_two] at hds
  obtain ⟨u, v, e, h1, h2⟩ := hds
  simp only [List.map_cons, List.map_nil, List.cons.injEq, and_true] at e
  obtain ⟨e1, e2⟩ := e
  simp only [repD, repV_int] at h1 h2
  subst h1 h2
  cases op <;> simp only [binI, Option.some.injEq, reduceCtorEq] at hr <;> subst hr <;>
    simp [execOp, ho, e1, e2, eqGuard, binOp, Op.intArith, Op.intBits, Op.intCmp, repD]

def quoI (op : BinOp) (k : IntKind) (a b : Int) : Option V :=
  match op with
  | .quo => some (.int k (k.wrap (a.tdiv b)))
  | .rem => some (.int k (a.tmod b))
  | _ => none

theorem op_quoI {op : BinOp} {t ty : TypeId} {x y : Operand} (ho : o.op = .binOp op t x y ty) {k : IntKind} {a b : Int} {r : V} (hr : quoI op k a b = some r) (hb : b ≠ 0) :
    OpOK P o [.v (.int k a), .v (.int k b)] σ (.v r) σ := by
  refine opOK_run fun E g ρ w hw hds => ?_
  simp only [ho, Op.operands, repDs_two] at hds
  obtain ⟨u, v, e, h1, h2⟩ := hds
  simp only [List.map_cons, List.map_nil, List.cons.injEq, and_true] at e
  obtain ⟨e1, e2⟩ := e
  simp only [repD, repV_int] at h1 h2
  subst h1 h2
  cases op <;> simp only [quoI, Option.some.injEq, reduceCtorEq] at hr <;> subst hr <;>
    simp [execOp, ho, e1, e2, eqGuard, binOp, Op.intDiv, hb, repD]

def shI (op : BinOp) (k : IntKind) (a b : Int) : Option V :=
  match op with
  | .shl => some (.int k (k.wrap (a * 2 ^ (min b.toNat k.bits))))
  | .shr => some (.int k (a.fdiv (2 ^ (min b.toNat k.bits))))
  | _ => none

theorem op_shI {op : BinOp} {t ty : TypeId} {x y : Operand} (ho : o.op = .binOp op t x y ty) {k k' : IntKind} {a b : Int} {r : V} (hr : shI op k a b = some r) (hb : 0 ≤ b) :
    OpOK P o [.v (.int k a), .v (.int k' b)] σ (.v r) σ := by
  refine opOK_run fun E g ρ w hw hds => ?_
  simp only [ho, Op.operands, repDs_two] at hds
  obtain ⟨u, v, e, h1, h2⟩ := hds
  simp only [List.map_cons, List.map_nil, List.cons.injEq, and_true] at e
  obtain ⟨e1, e2⟩ := e
  simp only [repD, repV_int] at h1 h2
  subst h1 h2
  have hb' : ¬ b < 0 := by omega
  cases op <;> simp only [shI, Option.some.injEq, reduceCtorEq] at hr <;> subst hr <;>
    simp [execOp, ho, e1, e2, eqGuard, binOp, Op.shift, hb', repD]

def binS (op : BinOp) (a b : List UInt8) : Option V :=
  match op with
  | .eql => some (.bool (a == b))
  | .neq => some (.bool !(a == b))
  | .lss => some (.bool (Op.bytesLess a b))
  | .leq => some (.bool (Op.bytesLess a b || a == b))
  | .gtr => some (.bool !(Op.bytesLess a b || a == b))
  | .geq => some (.bool !(Op.bytesLess a b))
  | _ => none

theorem size_mk (l : List UInt8) : ByteArray.size ⟨l.toArray⟩ = l.length := by simp [ByteArray.size]
theorem op_binS {op : BinOp} {t ty : TypeId} {x y : Operand} (ho : o.op = .binOp op t x y ty) {a b : List UInt8} {r : V} (hr : binS op a b = some r) :
    OpOK P o [.v (.str a), .v (.str b)] σ (.v r) σ := by
  refine opOK_run fun E g ρ w hw hds => ?_
  simp only [ho, Op.operands, repDs_two] at hds
  obtain ⟨u, v, e, h1, h2⟩ := hds
  simp only [List.map_cons, List.map_nil, List.cons.injEq, and_true] at e
  obtain ⟨e1, e2⟩ := e
  simp only [repD, repV_str] at h1 h2
  subst h1 h2
  cases op <;> simp only [binS, Option.some.injEq, reduceCtorEq] at hr <;> subst hr <;>
    simp [execOp, ho, e1, e2, eqGuard, binOp, Op.stringOp, repD]

/-- '+' on strings -/
theorem op_concat {t ty : TypeId} {x y : Operand} (ho : o.op = .binOp .add t x y ty) {a b : List UInt8} (hl : a.length + b.length ≤ 9223372036854775807) :
    OpOK P o [.v (.str a), .v (.str b)] σ (.v (.str (a ++ b))) σ := by
  refine opOK_run fun E g ρ w hw hds => ?_
  simp only [ho, Op.operands, repDs_two] at hds
  obtain ⟨u, v, e, h1, h2⟩ := hds
  simp only [List.map_cons, List.map_nil, List.cons.injEq, and_true] at e
  obtain ⟨e1, e2⟩ := e
  simp only [repD, repV_str] at h1 h2
  subst h1 h2
  have hs : ∀ l : List UInt8, ByteArray.size ⟨l.toArray⟩ = l.length := fun l => by simp [ByteArray.size]
  have hn : ¬ (((a.length + b.length : Nat) : Int) > IntKind.i64.max) := by
    have : IntKind.i64.max = 9223372036854775807 := by decide
    rw [this]; omega
  refine ⟨.string ⟨(a ++ b).toArray⟩, ?_, by simp [repD]⟩
  have hap : (⟨a.toArray⟩ : ByteArray) ++ ⟨b.toArray⟩ = ⟨(a ++ b).toArray⟩ := by
    apply ByteArray.ext
    simp [ByteArray.data_append]
  simp only [execOp, ho, e1, e2, binOp, Op.stringOp, hs, hn, if_false, hap]
  simp [eqGuard]

/-- '==', '!=' on bools -/
theorem op_eqlB {op : BinOp} {t ty : TypeId} {x y : Operand} (ho : o.op = .binOp op t x y ty) (hu : P.underlying t = some .bool) {a b : Bool} (hop : op = .eql ∨ op = .neq) :
    OpOK P o [.v (.bool a), .v (.bool b)] σ (.v (.bool (if op = .eql then a == b else a != b))) σ := by
  refine opOK_run fun E g ρ w hw hds => ?_
  simp only [ho, Op.operands, repDs_two] at hds
  obtain ⟨u, v, e, h1, h2⟩ := hds
  simp only [List.map_cons, List.map_nil, List.cons.injEq, and_true] at e
  obtain ⟨e1, e2⟩ := e
  simp only [repD, repV_bool] at h1 h2
  subst h1 h2
  have heq : (Op.equal t (.bool a) (.bool b)).run P w = .ok (a == b) w := by
    have gen : ∀ d, (Op.equalIn (d + 1) t (.bool a) (.bool b)).run P w = .ok (a == b) w := fun d => by
      simp only [Op.equalIn, Sem.run_bind, run_underlying hu, Result.andThen_ok]
      rfl
    exact gen 9999
  refine ⟨.bool (if op = .eql then a == b else a != b), ?_, by simp [repD]⟩
  rcases hop with rfl | rfl <;>
    simp [execOp, ho, e1, e2, eqGuard, binOp, heq, bne]

def unI (op : UnOp) (x : V) : Option V :=
  match op, x with
  | .not, .bool b => some (.bool !b)
  | .neg, .int k n => some (.int k (k.wrap (0 - n)))
  | _, _ => none

theorem op_un {op : UnOp} {t : TypeId} {x : Operand} (ho : o.op = .unOp op t x) {a r : V} (hr : unI op a = some r) : OpOK P o [.v a] σ (.v r) σ := by
  refine opOK_run fun E g ρ w hw hds => ?_
  simp only [ho, Op.operands, repDs_one] at hds
  obtain ⟨u, e, h1⟩ := hds
  simp at e
  unfold unI at hr
  split at hr
  · simp at hr; subst hr
    simp only [repD, repV_bool] at h1
    exact ⟨_, by simp [execOp, ho, e, h1, Op.unary]; rfl, by simp [repD]⟩
  · simp only [Option.some.injEq] at hr; subst hr
    simp only [repD, repV_int] at h1
    exact ⟨_, by simp only [execOp, ho, e, h1, Op.unary, Op.intArith]; rfl, by simp [repD]⟩
  · simp at hr

/-- between integer kinds -/
theorem op_convI {src dst : TypeId} {x : Operand} (ho : o.op = .convert src dst x) {k k' : IntKind} {n : Int} {ds' : TypeDesc} (hs : P.underlying src = some ds') (hd : P.underlying dst = some (.int k')) :
    OpOK P o [.v (.int k n)] σ (.v (.int k' (k'.wrap n))) σ := by
  refine opOK_run fun E g ρ w hw hds => ?_
  simp only [ho, Op.operands, repDs_one] at hds
  obtain ⟨u, e, h1⟩ := hds
  simp at e
  simp only [repD, repV_int] at h1
  refine ⟨.int k' (k'.wrap n), ?_, by simp [repD]⟩
  simp only [execOp, ho, e, h1, convert, Sem.run_bind, run_underlying hs, run_underlying hd, Result.andThen_ok, Conv.intToInt]
  rfl

theorem op_extract {x : Operand} {i : Nat} (ho : o.op = .extract x i) {ds : List D} (hd : ds[i]? = some d) : OpOK P o [.tup ds] σ d σ := by
  refine opOK_run fun E g ρ w hw hds => ?_
  simp only [ho, Op.operands, repDs_one] at hds
  obtain ⟨u, e, h1⟩ := hds
  simp at e
  simp only [repD] at h1
  obtain ⟨us, rfl, h2⟩ := h1
  obtain ⟨u, hu, h3⟩ := repDs_get h2 hd
  exact ⟨u, by simp [execOp, ho, e, Instr.extract, hu], h3⟩

theorem op_nilCheck_ptr {x : Operand} (ho : o.op = .nilCheck x) {q off : Nat} : OpOK P o [.ptr q off] σ (.ptr q off) σ := by
  refine opOK_run fun E g ρ w hw hds => ?_
  simp only [ho, Op.operands, repDs_one] at hds
  obtain ⟨u, e, h1⟩ := hds
  simp at e
  refine ⟨u, ?_, h1⟩
  simp only [repD] at h1
  simp [execOp, ho, e, h1.2]

theorem op_nilCheck_ref {x : Operand} (ho : o.op = .nilCheck x) {y : V} : OpOK P o [.v (.ref y)] σ (.v (.ref y)) σ := by
  refine opOK_run fun E g ρ w hw hds => ?_
  simp only [ho, Op.operands, repDs_one] at hds
  obtain ⟨u, e, h1⟩ := hds
  simp at e
  refine ⟨u, ?_, h1⟩
  simp only [repD, repV_ref] at h1
  obtain ⟨b, off, us, rfl, _⟩ := h1
  simp [execOp, ho, e]

/-- len -/
theorem op_lenL {x : Operand} {t : TypeId} (ho : o.op = .call { callee := .builtin .len, args := #[x], argTypes := #[t] }) {e : TypeId} (ht : P.underlying t = some (.slice e)) {xs : List V} :
    OpOK P o [.v (.list xs)] σ (.v (.int .i64 xs.length)) σ := by
  refine opOK_run fun E g ρ w hw hds => ?_
  simp only [ho, Op.operands, Call.operands, repDs_one] at hds
  obtain ⟨u, e, h1⟩ := hds
  simp at e
  simp only [repD, repV_list] at h1
  obtain ⟨a, cap, rfl, _⟩ := h1
  exact ⟨_, by simp [execOp, ho, e, resolve, invoke, builtin, Builtin.len_, run_underlying ht, goInt]; rfl, by simp [repD]⟩

theorem op_lenA {x : Operand} {t : TypeId} (ho : o.op = .call { callee := .builtin .len, args := #[x], argTypes := #[t] }) {e : TypeId} (ht : P.underlying t = some (.slice e)) {q off len : Nat} :
    OpOK P o [.arr q off len] σ (.v (.int .i64 len)) σ := by
  refine opOK_run fun E g ρ w hw hds => ?_
  simp only [ho, Op.operands, Call.operands, repDs_one] at hds
  obtain ⟨u, e, h1⟩ := hds
  simp at e
  simp only [repD] at h1
  obtain ⟨_, cap, _, rfl⟩ := h1
  exact ⟨_, by simp [execOp, ho, e, resolve, invoke, builtin, Builtin.len_, run_underlying ht, goInt]; rfl, by simp [repD]⟩

theorem op_lenS {x : Operand} {t : TypeId} (ho : o.op = .call { callee := .builtin .len, args := #[x], argTypes := #[t] }) (ht : P.underlying t = some .string) {s : List UInt8} :
    OpOK P o [.v (.str s)] σ (.v (.int .i64 s.length)) σ := by
  refine opOK_run fun E g ρ w hw hds => ?_
  simp only [ho, Op.operands, Call.operands, repDs_one] at hds
  obtain ⟨u, e, h1⟩ := hds
  simp at e
  simp only [repD, repV_str] at h1
  subst h1
  exact ⟨_, by simp [execOp, ho, e, resolve, invoke, builtin, Builtin.len_, run_underlying ht, goInt, size_mk]; rfl, by simp [repD]⟩

theorem op_max {x y : Operand} {ts : Array TypeId} (ho : o.op = .call { callee := .builtin .max, args := #[x, y], argTypes := ts }) {k : IntKind} {a b : Int} :
    OpOK P o [.v (.int k a), .v (.int k b)] σ (.v (.int k (if b > a then b else a))) σ := by
  refine opOK_run fun E g ρ w hw hds => ?_
  simp only [ho, Op.operands, Call.operands] at hds
  have hds' := repDs_two.1 (by simpa using hds)
  obtain ⟨u, v, e, h1, h2⟩ := hds'
  simp only [List.cons.injEq, and_true] at e
  simp only [repD, repV_int] at h1 h2
  exact ⟨_, by simp [execOp, ho, e.1, e.2, h1, h2, resolve, invoke, builtin, Builtin.max_, Builtin.max2]; rfl, by simp [repD]⟩

theorem op_min {x y : Operand} {ts : Array TypeId} (ho : o.op = .call { callee := .builtin .min, args := #[x, y], argTypes := ts }) {k : IntKind} {a b : Int} :
    OpOK P o [.v (.int k a), .v (.int k b)] σ (.v (.int k (if b < a then b else a))) σ := by
  refine opOK_run fun E g ρ w hw hds => ?_
  simp only [ho, Op.operands, Call.operands] at hds
  have hds' := repDs_two.1 (by simpa using hds)
  obtain ⟨u, v, e, h1, h2⟩ := hds'
  simp only [List.cons.injEq, and_true] at e
  simp only [repD, repV_int] at h1 h2
  exact ⟨_, by simp [execOp, ho, e.1, e.2, h1, h2, resolve, invoke, builtin, Builtin.min_, Builtin.min2]; rfl, by simp [repD]⟩

end
end Go.Dv

namespace Go.Dv

section
variable {M : Mem}

theorem repA_get : ∀ {cs : List V} {us : List Value}, repA M cs us → ∀ {i : Nat} {c : V}, cs[i]? = some c → ∃ u, us[i]? = some u ∧ c.isAgg = false ∧ repC M c [u]
  | [], us, h, i, c, hc => by simp at hc
  | c0 :: cs, us, h, i, c, hc => by
    simp only [repA] at h
    obtain ⟨u, us', rfl, ha, h1, h2⟩ := h
    cases i with
    | zero => simp at hc; subst hc; exact ⟨u, by simp, ha, h1⟩
    | succ i => simp at hc; obtain ⟨u', e, h3⟩ := repA_get h2 hc; exact ⟨u', by simpa using e, h3⟩

theorem repA_drop : ∀ {cs : List V} {us : List Value}, repA M cs us → ∀ (n : Nat), repA M (cs.drop n) (us.drop n)
  | [], us, h, n => by simp only [repA] at h; simp [h, repA]
  | c0 :: cs, us, h, n => by
    cases n with
    | zero => simpa using h
    | succ n =>
      simp only [repA] at h
      obtain ⟨u, us', rfl, ha, h1, h2⟩ := h
      simpa using repA_drop h2 n

theorem repA_take : ∀ {cs : List V} {us : List Value}, repA M cs us → ∀ (n : Nat), repA M (cs.take n) (us.take n)
  | [], us, h, n => by simp only [repA] at h; simp [h, repA]
  | c0 :: cs, us, h, n => by
    cases n with
    | zero => simp [repA]
    | succ n =>
      simp only [repA] at h
      obtain ⟨u, us', rfl, ha, h1, h2⟩ := h
      simp only [List.take_succ_cons, repA]
      exact ⟨u, _, rfl, ha, h1, repA_take h2 n⟩

theorem repE_length {sz : Nat} : ∀ {xs : List V} {us : List Value}, repE M sz xs us → us.length = xs.length * sz
  | [], us, h => by simp only [repE] at h; simp [h]
  | x :: xs, us, h => by
    simp only [repE] at h
    obtain ⟨u1, u2, rfl, hl, h1, h2⟩ := h
    simp [repE_length h2, hl, Nat.add_mul, Nat.add_comm]

theorem repE_get {sz : Nat} : ∀ {xs : List V} {us : List Value}, repE M sz xs us → ∀ {i : Nat} {x : V}, xs[i]? = some x →
    ∃ u1, repC M x u1 ∧ u1.length = sz ∧ ∀ j v, u1[j]? = some v → us[i * sz + j]? = some v
  | [], us, h, i, c, hc => by simp at hc
  | x0 :: xs, us, h, i, x, hc => by
    simp only [repE] at h
    obtain ⟨u1, u2, rfl, hl, h1, h2⟩ := h
    cases i with
    | zero =>
      simp at hc; subst hc
      refine ⟨u1, h1, hl, fun j v hj => ?_⟩
      have : j < u1.length := (List.getElem?_eq_some_iff.1 hj).1
      rw [Nat.zero_mul, Nat.zero_add, List.getElem?_append_left this]; exact hj
    | succ i =>
      simp at hc
      obtain ⟨u', hr, hl', hg⟩ := repE_get h2 hc
      refine ⟨u', hr, hl', fun j v hj => ?_⟩
      have e : (i + 1) * sz + j = u1.length + (i * sz + j) := by rw [hl, Nat.add_mul]; omega
      rw [e, List.getElem?_append_right (by omega)]
      have : u1.length + (i * sz + j) - u1.length = i * sz + j := by omega
      rw [this]; exact hg j v hj

theorem repE_drop {sz : Nat} : ∀ {xs : List V} {us : List Value}, repE M sz xs us → ∀ (n : Nat), repE M sz (xs.drop n) (us.drop (n * sz))
  | [], us, h, n => by simp only [repE] at h; simp [h, repE]
  | x :: xs, us, h, n => by
    cases n with
    | zero => simpa using h
    | succ n =>
      simp only [repE] at h
      obtain ⟨u1, u2, rfl, hl, h1, h2⟩ := h
      have := repE_drop h2 n
      have e : (n + 1) * sz = u1.length + n * sz := by rw [hl, Nat.add_mul]; omega
      have e2 : (u1 ++ u2).drop (u1.length + n * sz) = u2.drop (n * sz) := by
        rw [List.drop_append, List.drop_of_length_le (Nat.le_add_right u1.length (n * sz)), List.nil_append, Nat.add_sub_cancel_left]
      rw [e, e2]
      exact this

theorem repE_take {sz : Nat} : ∀ {xs : List V} {us : List Value}, repE M sz xs us → ∀ (n : Nat), repE M sz (xs.take n) (us.take (n * sz))
  | [], us, h, n => by simp only [repE] at h; simp [h, repE]
  | x :: xs, us, h, n => by
    cases n with
    | zero => simp [repE]
    | succ n =>
      simp only [repE] at h
      obtain ⟨u1, u2, rfl, hl, h1, h2⟩ := h
      simp only [List.take_succ_cons, repE]
      have e : (n + 1) * sz = u1.length + n * sz := by rw [hl, Nat.add_mul]; omega
      refine ⟨u1, u2.take (n * sz), ?_, hl, h1, repE_take h2 n⟩
      rw [e, List.take_append, List.take_of_length_le (Nat.le_add_right _ _), Nat.add_sub_cancel_left]

theorem inM_drop {b off : Nat} {us : List Value} (h : inM M b off us) (n : Nat) : inM M b (off + n) (us.drop n) := fun j v hj => by
  rw [List.getElem?_drop] at hj
  rw [Nat.add_assoc]; exact h _ v hj
theorem inM_take {b off : Nat} {us : List Value} (h : inM M b off us) (n : Nat) : inM M b off (us.take n) := fun j v hj => by
  rw [List.getElem?_take] at hj
  split at hj
  · exact h j v hj
  · simp at hj
end

/-- a part of a struct or array -/
def partV (cs : List V) (fo n : Nat) (b : Bool) : Option V := if b then (if fo + n ≤ cs.length then some (.agg ((cs.drop fo).take n)) else none) else cs[fo]?

theorem partV_rep {M : Mem} {cs : List V} {us : List Value} {fo n : Nat} {b : Bool} {x : V} (h : partV cs fo n b = some x) (hr : repA M cs us) (hn : b = false → n = 1) :
    repC M x ((us.drop fo).take n) ∧ x.isAgg = b ∧ ((us.drop fo).take n).length = n := by
  have hl := repA_length hr
  unfold partV at h
  cases b with
  | true =>
    simp only [if_true] at h
    split at h
    · simp at h; subst h
      refine ⟨?_, rfl, by simp; omega⟩
      simp only [repC]
      exact repA_take (repA_drop hr fo) n
    · simp at h
  | false =>
    simp only [Bool.false_eq_true, if_false] at h
    obtain ⟨u, hu, ha, hc⟩ := repA_get hr h
    obtain rfl := hn rfl
    have : (us.drop fo).take 1 = [u] := by
      have hlt : fo < us.length := (List.getElem?_eq_some_iff.1 hu).1
      rw [List.drop_eq_getElem_cons hlt, List.take_succ_cons, List.take_zero]
      rw [(List.getElem?_eq_some_iff.1 hu).2]
    rw [this]
    exact ⟨hc, ha, rfl⟩

def D.toV : D → Option V
  | .v x => some x
  | .acc _ xs => some (.list xs)
  | _ => none

def toVs : List D → Option (List V)
  | [] => some []
  | d :: ds => match d.toV, toVs ds with
    | some x, some xs => some (x :: xs)
    | _, _ => none

theorem toV_rep {g : Gh} {d : D} {x : V} {u : Value} (h : d.toV = some x) (hr : repD g d u) : repV g.M x u := by
  cases d <;> simp [D.toV] at h <;> subst h
  · simpa [repD] using hr
  · simp only [repD] at hr; exact hr.1

theorem toVs_rep {g : Gh} : ∀ {ds : List D} {xs : List V} {us : List Value}, toVs ds = some xs → repDs g ds us → (∀ c ∈ ds, c.one = true) → repA g.M xs us
  | [], xs, us, h, hr, _ => by simp [toVs] at h; subst h; simpa [repDs, repA] using hr
  | d :: ds, xs, us, h, hr, h1 => by
    simp only [toVs] at h
    split at h
    · rename_i x xs' hx hxs
      simp at h; subst h
      simp only [repDs] at hr
      obtain ⟨u, us', rfl, h2, h3⟩ := hr
      simp only [repA]
      have hxa : x.isAgg = false := by
        have := h1 d (by simp)
        cases d <;> simp [D.toV] at hx <;> subst hx <;> simp_all [D.one, V.isAgg]
      exact ⟨u, us', rfl, hxa, (repV_one hxa).1 (toV_rep hx h2), toVs_rep hxs h3 (fun c hc => h1 c (by simp [hc]))⟩
    · simp at h

section
variable {P : Program} {o : Oper} {σ : St} {d : D}

theorem mem_cells {E : Ent} {g : Gh} {w : World} (hw : WI E g σ w) {b off : Nat} {us : List Value} (h : inM g.M b off us) : ∀ j v, us[j]? = some v → w.cell? ((⟨b, off, none⟩ : Addr).add j) = some v := fun j v hj => by
  rw [Addr.add_lit]; exact hw.rep.mem _ _ _ (h j v hj)

theorem op_loadR1 {t : TypeId} {a : Operand} (ho : o.op = .load t a) (ht : OneTy P t) {x : V} (hx : x.isAgg = false) : OpOK P o [.v (.ref x)] σ (.v x) σ := by
  refine opOK_run fun E g ρ w hw hds => ?_
  simp only [ho, Op.operands, repDs_one] at hds
  obtain ⟨u, e, h1⟩ := hds
  simp at e
  simp only [repD, repV_ref] at h1
  obtain ⟨b, off, us, rfl, hi, hr⟩ := h1
  obtain ⟨u', rfl, hm, _⟩ := repC_one hx hr
  have hc : w.cell? ⟨b, off, none⟩ = some u' := by have := hw.rep.mem _ _ _ (hi 0 u' (by simp)); simpa using this
  refine ⟨u', ?_, by simp only [repD]; exact (repV_one hx).2 hr⟩
  simp [execOp, ho, e, Instr.loadAt, Instr.sureAddr, loadVar, run_isAgg ht, hc]

theorem op_loadRA {t : TypeId} {a : Operand} (ho : o.op = .load t a) {cs : List V} (ht : AggTy P t cs.length) : OpOK P o [.v (.ref (.agg cs))] σ (.v (.agg cs)) σ := by
  refine opOK_run fun E g ρ w hw hds => ?_
  simp only [ho, Op.operands, repDs_one] at hds
  obtain ⟨u, e, h1⟩ := hds
  simp at e
  simp only [repD, repV_ref] at h1
  obtain ⟨b, off, us, rfl, hi, hr⟩ := h1
  simp only [repC] at hr
  have hl := repA_length hr
  have hld := run_loadCells_list (P := P) w ⟨b, off, none⟩ us (mem_cells hw hi)
  rw [hl] at hld
  refine ⟨.agg us.toArray, ?_, by simp only [repD, repV_agg]; exact ⟨us, hr, rfl⟩⟩
  simp [execOp, ho, e, Instr.loadAt, Instr.sureAddr, loadVar, run_isAgg ht, run_sizeOf' ht, hld]

theorem op_loadP1 {t : TypeId} {a : Operand} (ho : o.op = .load t a) (ht : OneTy P t) {q off : Nat} {cs : List D} (hH : σ.H[q]? = some (some cs)) (hc : cs[off]? = some d) : OpOK P o [.ptr q off] σ d σ := by
  refine opOK_run fun E g ρ w hw hds => ?_
  simp only [ho, Op.operands, repDs_one] at hds
  obtain ⟨u, e, h1⟩ := hds
  simp at e
  simp only [repD] at h1
  obtain ⟨_, rfl⟩ := h1
  obtain ⟨us, rest, et, hb, hr, _, _⟩ := hw.rep.obj q cs hH
  obtain ⟨u', hu, hd⟩ := repDs_get hr hc
  have hcell : w.cell? ⟨g.β q, off, none⟩ = some u' := by simp only [World.cell?, hb, List.getElem?_toArray]; exact get_app hu
  refine ⟨u', ?_, hd⟩
  simp [execOp, ho, e, Instr.loadAt, Instr.sureAddr, loadVar, run_isAgg ht, hcell]

theorem repDs_drop {g : Gh} : ∀ {cs : List D} {us : List Value}, repDs g cs us → ∀ (n : Nat), repDs g (cs.drop n) (us.drop n)
  | [], us, h, n => by simp only [repDs] at h; simp [h, repDs]
  | c0 :: cs, us, h, n => by
    cases n with
    | zero => simpa using h
    | succ n =>
      simp only [repDs] at h
      obtain ⟨u, us', rfl, h1, h2⟩ := h
      simpa using repDs_drop h2 n

theorem repDs_take {g : Gh} : ∀ {cs : List D} {us : List Value}, repDs g cs us → ∀ (n : Nat), repDs g (cs.take n) (us.take n)
  | [], us, h, n => by simp only [repDs] at h; simp [h, repDs]
  | c0 :: cs, us, h, n => by
    cases n with
    | zero => simp [repDs]
    | succ n =>
      simp only [repDs] at h
      obtain ⟨u, us', rfl, h1, h2⟩ := h
      simp only [List.take_succ_cons, repDs]
      exact ⟨u, _, rfl, h1, repDs_take h2 n⟩

theorem op_loadPA {t : TypeId} {a : Operand} (ho : o.op = .load t a) {n : Nat} (ht : AggTy P t n) {q off : Nat} {cs : List D} (hH : σ.H[q]? = some (some cs)) {xs : List V}
    (hn : off + n ≤ cs.length) (hc : toVs ((cs.drop off).take n) = some xs) : OpOK P o [.ptr q off] σ (.v (.agg xs)) σ := by
  refine opOK_run fun E g ρ w hw hds => ?_
  simp only [ho, Op.operands, repDs_one] at hds
  obtain ⟨u, e, h1⟩ := hds
  simp at e
  simp only [repD] at h1
  obtain ⟨_, rfl⟩ := h1
  obtain ⟨us, rest, et, hb, hr, h1, _⟩ := hw.rep.obj q cs hH
  have hra := toVs_rep hc (repDs_take (repDs_drop hr off) n) (fun c hc' => h1 c (List.mem_of_mem_drop (List.mem_of_mem_take hc')))
  have hl : us.length = cs.length := repDs_length hr
  have hld := run_loadCells_list (P := P) w ⟨g.β q, off, none⟩ ((us.drop off).take n) (fun j v hj => by
    rw [List.getElem?_take] at hj
    split at hj
    · rw [List.getElem?_drop] at hj
      rw [Addr.add_lit]
      simp only [World.cell?, hb, List.getElem?_toArray]; exact get_app hj
    · simp at hj)
  have hlen : ((us.drop off).take n).length = n := by simp; omega
  rw [hlen] at hld
  refine ⟨.agg ((us.drop off).take n).toArray, ?_, by simp only [repD, repV_agg]; exact ⟨_, hra, rfl⟩⟩
  simp only [execOp, ho, e, Instr.loadAt, Instr.sureAddr, loadVar, Sem.run_bind, Sem.run_pure, Result.andThen_ok, run_isAgg ht, run_sizeOf' ht, hld, if_true]

theorem op_fieldP {s : TypeId} {x : Operand} {f : Nat} (ho : o.op = .fieldAddr s x f) {fo n : Nat} {b : Bool} (hf : fldTy P s f = some (fo, n, b)) (hn : n ≠ 0) {q off : Nat} : OpOK P o [.ptr q off] σ (.ptr q (off + fo)) σ := by
  refine opOK_run fun E g ρ w hw hds => ?_
  simp only [ho, Op.operands, repDs_one] at hds
  obtain ⟨u, e, h1⟩ := hds
  simp at e
  simp only [repD] at h1
  obtain ⟨hq, rfl⟩ := h1
  obtain ⟨fs, y, hs, hy, hoff, hz⟩ := fldTy_parts hf
  refine ⟨.pointer (some ⟨g.β q, off + fo, none⟩), ?_, by simp [repD, hq]⟩
  simp [execOp, ho, e, Instr.fieldAt, run_underlying hs, hy, Instr.sureAddr, fieldPlace, run_sizeOf' hz, hn, Addr.add_lit, hoff]

theorem op_fieldR {s : TypeId} {x : Operand} {f : Nat} (ho : o.op = .fieldAddr s x f) {fo n : Nat} {b : Bool} (hf : fldTy P s f = some (fo, n, b)) (hn : n ≠ 0) (hn1 : b = false → n = 1) {cs : List V} {y : V} (hp : partV cs fo n b = some y) :
    OpOK P o [.v (.ref (.agg cs))] σ (.v (.ref y)) σ := by
  refine opOK_run fun E g ρ w hw hds => ?_
  simp only [ho, Op.operands, repDs_one] at hds
  obtain ⟨u, e, h1⟩ := hds
  simp at e
  simp only [repD, repV_ref] at h1
  obtain ⟨bb, off, us, rfl, hi, hr⟩ := h1
  obtain ⟨fs, z, hs, hy, hoff, hz⟩ := fldTy_parts hf
  simp only [repC] at hr
  obtain ⟨h3, _, _⟩ := partV_rep hp hr hn1
  refine ⟨.pointer (some ⟨bb, off + fo, none⟩), ?_, by simp only [repD, repV_ref]; exact ⟨bb, off + fo, _, rfl, inM_take (inM_drop hi fo) n, h3⟩⟩
  simp [execOp, ho, e, Instr.fieldAt, run_underlying hs, hy, Instr.sureAddr, fieldPlace, run_sizeOf' hz, hn, Addr.add_lit, hoff]

theorem run_part {M : Mem} {t : TypeId} {n : Nat} {b : Bool} (hz : szAgg P t = some (n, b)) {cs : List V} {us : List Value} {fo : Nat} {y : V} (hp : partV cs fo n b = some y) (hr : repA M cs us) (hn1 : b = false → n = 1) (w : World) :
    ∃ u, (part t us.toArray fo).run P w = .ok u w ∧ repV M y u := by
  obtain ⟨h3, ha, hl⟩ := partV_rep hp hr hn1
  cases b with
  | true =>
    refine ⟨.agg ((us.drop fo).take n).toArray, ?_, ?_⟩
    · simp only [part, Sem.run_bind, run_isAgg hz, run_sizeOf' hz, Result.andThen_ok, if_true, Sem.run_pure]
      congr 2
      apply Array.ext'
      simp [List.extract_eq_take_drop]
    · cases y with
      | agg cs' => simp only [repV_agg]; exact ⟨_, by simpa only [repC] using h3, rfl⟩
      | _ => simp [V.isAgg] at ha
  | false =>
    obtain ⟨u, e1, _, _⟩ := repC_one ha h3
    obtain rfl := hn1 rfl
    have hu : us[fo]? = some u := by
      have : ((us.drop fo).take 1)[0]? = some u := by rw [e1]; rfl
      simpa using this
    refine ⟨u, ?_, (repV_one ha).2 (by rw [← e1]; exact h3)⟩
    simp [part, run_isAgg hz, hu]

theorem op_field {s : TypeId} {x : Operand} {f : Nat} (ho : o.op = .field s x f) {fo n : Nat} {b : Bool} (hf : fldTy P s f = some (fo, n, b)) (hn1 : b = false → n = 1) {cs : List V} {y : V} (hp : partV cs fo n b = some y) :
    OpOK P o [.v (.agg cs)] σ (.v y) σ := by
  refine opOK_run fun E g ρ w hw hds => ?_
  simp only [ho, Op.operands, repDs_one] at hds
  obtain ⟨u, e, h1⟩ := hds
  simp at e
  simp only [repD, repV_agg] at h1
  obtain ⟨us, hr, rfl⟩ := h1
  obtain ⟨fs, z, hs, hy, hoff, hz⟩ := fldTy_parts hf
  obtain ⟨v, hrun, hv⟩ := run_part hz hp hr hn1 w
  refine ⟨v, ?_, by simpa only [repD] using hv⟩
  simp only [execOp, ho, e, Instr.field, Sem.run_bind, run_underlying hs, Result.andThen_ok, hy, asAgg, Sem.run_pure, hoff, hrun]

theorem op_idxL {t : TypeId} {x ix : Operand} (ho : o.op = .indexAddr t x ix) {e : TypeId} {sz by' : Nat} {z : Option Value} (hs : slTy P t = some (e, sz, by', z)) {xs : List V} {y : V} {k : IntKind} {i : Int} (h0 : 0 ≤ i)
    (hx : xs[i.toNat]? = some y) (hy : y.size = sz) : OpOK P o [.v (.list xs), .v (.int k i)] σ (.v (.ref y)) σ := by
  refine opOK_run fun E g ρ w hw hds => ?_
  simp only [ho, Op.operands, repDs_two] at hds
  obtain ⟨u, v, eq, h1, h2⟩ := hds
  simp only [List.map_cons, List.map_nil, List.cons.injEq, and_true] at eq
  obtain ⟨e1, e2⟩ := eq
  simp only [repD, repV_int, repV_list] at h1 h2
  subst h2
  obtain ⟨a, cap, rfl, hc, h1⟩ := h1
  have hlt : i.toNat < xs.length := (List.getElem?_eq_some_iff.1 hx).1
  rcases h1 with rfl | ⟨b, off, sz', us, rfl, hsz, hi, hr⟩
  · simp at hlt
  obtain ⟨inf, hu, hinf, hsize, _, _⟩ := slTy_parts hs
  obtain ⟨u1, hc1, hl1, hg⟩ := repE_get hr hx
  have hss : sz' = sz := by rw [← hl1, repC_length hc1, hy]
  subst hss
  refine ⟨.pointer (some ⟨b, off + i.toNat * sz', none⟩), ?_, ?_⟩
  · have hlt' : i < (xs.length : Int) := by omega
    simp [execOp, ho, e1, e2, Instr.indexAt, asIntOf, run_underlying hu, h0, hlt', sizeOf, typeInfo, hinf, hsize, Addr.add_lit]
  · simp only [repD, repV_ref]
    refine ⟨b, _, u1, rfl, fun j v hj => ?_, hc1⟩
    have := hi _ v (hg j v hj)
    rw [Nat.add_assoc]; exact this

theorem op_idxA {t : TypeId} {x ix : Operand} (ho : o.op = .indexAddr t x ix) {e : TypeId} {sz by' : Nat} {z : Option Value} (hs : slTy P t = some (e, sz, by', z)) {q off len : Nat} {k : IntKind} {i : Int} (h0 : 0 ≤ i) (h1 : i < len) :
    OpOK P o [.arr q off len, .v (.int k i)] σ (.ptr q (off + i.toNat * sz)) σ := by
  refine opOK_run fun E g ρ w hw hds => ?_
  simp only [ho, Op.operands, repDs_two] at hds
  obtain ⟨u, v, eq, h1', h2⟩ := hds
  simp only [List.map_cons, List.map_nil, List.cons.injEq, and_true] at eq
  obtain ⟨e1, e2⟩ := eq
  simp only [repD, repV_int] at h1' h2
  subst h2
  obtain ⟨hq, cap, hc, rfl⟩ := h1'
  obtain ⟨inf, hu, hinf, hsize, _, _⟩ := slTy_parts hs
  refine ⟨.pointer (some ⟨g.β q, off + i.toNat * sz, none⟩), ?_, by simp [repD, hq]⟩
  simp [execOp, ho, e1, e2, Instr.indexAt, asIntOf, run_underlying hu, h0, h1, sizeOf, typeInfo, hinf, hsize, Addr.add_lit]

theorem op_idxAP {t : TypeId} {x ix : Operand} (ho : o.op = .indexAddr t x ix) {len sz : Nat} {b : Bool} (hs : arTy P t = some (len, sz, b)) {q off : Nat} {k : IntKind} {i : Int} (h0 : 0 ≤ i) (h1 : i < len) :
    OpOK P o [.ptr q off, .v (.int k i)] σ (.ptr q (off + i.toNat * sz)) σ := by
  refine opOK_run fun E g ρ w hw hds => ?_
  simp only [ho, Op.operands, repDs_two] at hds
  obtain ⟨u, v, eq, h1', h2⟩ := hds
  simp only [List.map_cons, List.map_nil, List.cons.injEq, and_true] at eq
  obtain ⟨e1, e2⟩ := eq
  simp only [repD, repV_int] at h1' h2
  subst h2
  obtain ⟨hq, rfl⟩ := h1'
  obtain ⟨e, hu, hz⟩ := arTy_parts hs
  refine ⟨.pointer (some ⟨g.β q, off + i.toNat * sz, none⟩), ?_, by simp [repD, hq]⟩
  simp [execOp, ho, e1, e2, Instr.indexAt, asIntOf, run_underlying hu, h0, h1, run_sizeOf' hz, Addr.add_lit, Instr.sureAddr]

theorem op_idxAR {t : TypeId} {x ix : Operand} (ho : o.op = .indexAddr t x ix) {len sz : Nat} {b : Bool} (hs : arTy P t = some (len, sz, b)) (hn1 : b = false → sz = 1) {cs : List V} {y : V} {k : IntKind} {i : Int} (h0 : 0 ≤ i) (h1 : i < len)
    (hp : partV cs (i.toNat * sz) sz b = some y) : OpOK P o [.v (.ref (.agg cs)), .v (.int k i)] σ (.v (.ref y)) σ := by
  refine opOK_run fun E g ρ w hw hds => ?_
  simp only [ho, Op.operands, repDs_two] at hds
  obtain ⟨u, v, eq, h1', h2⟩ := hds
  simp only [List.map_cons, List.map_nil, List.cons.injEq, and_true] at eq
  obtain ⟨e1, e2⟩ := eq
  simp only [repD, repV_int, repV_ref] at h1' h2
  subst h2
  obtain ⟨bb, off, us, rfl, hi, hr⟩ := h1'
  obtain ⟨e, hu, hz⟩ := arTy_parts hs
  simp only [repC] at hr
  obtain ⟨h3, _, _⟩ := partV_rep hp hr hn1
  refine ⟨.pointer (some ⟨bb, off + i.toNat * sz, none⟩), ?_, by simp only [repD, repV_ref]; exact ⟨bb, _, _, rfl, inM_take (inM_drop hi _) sz, h3⟩⟩
  simp [execOp, ho, e1, e2, Instr.indexAt, asIntOf, run_underlying hu, h0, h1, run_sizeOf' hz, Addr.add_lit, Instr.sureAddr]

theorem op_idxS {t : TypeId} {x ix : Operand} (ho : o.op = .index t x ix) (ht : P.underlying t = some .string) {s : List UInt8} {k : IntKind} {i : Int} {c : UInt8} (h0 : 0 ≤ i) (hc : s[i.toNat]? = some c) :
    OpOK P o [.v (.str s), .v (.int k i)] σ (.v (.int .u8 c.toNat)) σ := by
  refine opOK_run fun E g ρ w hw hds => ?_
  simp only [ho, Op.operands, repDs_two] at hds
  obtain ⟨u, v, eq, h1', h2⟩ := hds
  simp only [List.map_cons, List.map_nil, List.cons.injEq, and_true] at eq
  obtain ⟨e1, e2⟩ := eq
  simp only [repD, repV_int, repV_str] at h1' h2
  subst h1' h2
  refine ⟨.int .u8 c.toNat, ?_, by simp [repD]⟩
  have hlt : i.toNat < s.length := (List.getElem?_eq_some_iff.1 hc).1
  have hb : (⟨s.toArray⟩ : ByteArray)[i.toNat]? = some c := by
    rw [getElem?_pos _ _ (by rw [size_mk]; exact hlt)]
    have := (List.getElem?_eq_some_iff.1 hc).2
    simp only [Option.some.injEq]
    rw [← this]; rfl
  simp [execOp, ho, e1, e2, Instr.index, asIntOf, run_underlying ht, h0, hb]

theorem op_idxV {t : TypeId} {x ix : Operand} (ho : o.op = .index t x ix) {len sz : Nat} {b : Bool} (hs : arTy P t = some (len, sz, b)) (hn1 : b = false → sz = 1) {cs : List V} {y : V} {k : IntKind} {i : Int} (h0 : 0 ≤ i) (h1 : i < len)
    (hp : partV cs (i.toNat * sz) sz b = some y) : OpOK P o [.v (.agg cs), .v (.int k i)] σ (.v y) σ := by
  refine opOK_run fun E g ρ w hw hds => ?_
  simp only [ho, Op.operands, repDs_two] at hds
  obtain ⟨u, v, eq, h1', h2⟩ := hds
  simp only [List.map_cons, List.map_nil, List.cons.injEq, and_true] at eq
  obtain ⟨e1, e2⟩ := eq
  simp only [repD, repV_int, repV_agg] at h1' h2
  subst h2
  obtain ⟨us, hr, rfl⟩ := h1'
  obtain ⟨e, hu, hz⟩ := arTy_parts hs
  obtain ⟨v, hrun, hv⟩ := run_part hz hp hr hn1 w
  refine ⟨v, ?_, by simpa only [repD] using hv⟩
  simp [execOp, ho, e1, e2, Instr.index, asIntOf, run_underlying hu, h0, h1, run_sizeOf' hz, hrun]

end
end Go.Dv

namespace Go.Dv

/-- from one state of the run to the next: X are the old blocks that were written -/
theorem WI.update {E : Ent} {g g' : Gh} {σ σ' : St} {w w' : World} (hw : WI E g σ w) (X : Nat → Prop) (hX : ∀ b, X b → E.w.heap.size ≤ b ∨ E.priv b)
    (keep : ∀ b, b < w.heap.size → ¬ X b → w'.heap[b]? = w.heap[b]? ∧ ∀ o, g'.M b o = g.M b o)
    (hle : g.M.le g'.M) (hn : g.n ≤ g'.n) (hβ : ∀ o, o < g.n → g'.β o = g.β o) (hκ : ∀ o, o < g.n → g'.κ o = g.κ o) (size : w.heap.size ≤ w'.heap.size) (os : w'.os = w.os) (tape : w'.tape = w.tape) (output : w'.output = w.output)
    (rep : WRep g' σ' w') (objs : ∀ i cs, σ'.H[i]? = some (some cs) → E.w.heap.size ≤ g'.β i ∨ E.priv (g'.β i))
    (owns : ∀ x ∈ σ'.own, ∀ u, g'.ι x.1 x.2.2.length = some u → ∀ b, ownB u = some b → E.w.heap.size ≤ b ∨ E.priv b)
    (drawn : drwLe w.drawn w'.drawn := by first | exact drwLe.refl _ | exact drwLe.succ _ | assumption) : WI E g' σ' w' where
  rep := rep
  M := Mem.le_trans hw.M hle
  size := Nat.le_trans hw.size size
  keep := fun b hb hp => by
    have hnx : ¬ X b := fun hx => by
      rcases hX b hx with h | h
      · omega
      · exact hp h
    obtain ⟨h1, h2⟩ := keep b (Nat.lt_of_lt_of_le hb hw.size) hnx
    obtain ⟨h3, h4⟩ := hw.keep b hb hp
    exact ⟨h1.trans h3, fun o => (h2 o).trans (h4 o)⟩
  os := os.trans hw.os
  tape := tape.trans hw.tape
  output := output.trans hw.output
  nE := Nat.le_trans hw.nE hn
  βE := fun o ho => (hβ o (Nat.lt_of_lt_of_le ho hw.nE)).trans (hw.βE o ho)
  κE := fun o ho => (hκ o (Nat.lt_of_lt_of_le ho hw.nE)).trans (hw.κE o ho)
  objs := objs
  owns := owns
  drawn := hw.drawn.trans drawn

theorem heap_lt {w : World} {b : Nat} {o : Obj} (h : w.heap[b]? = some o) : b < w.heap.size := (Array.getElem?_eq_some_iff.1 h).1

theorem WRep.mem_lt {g : Gh} {σ : St} {w : World} (h : WRep g σ w) {b o : Nat} {v : Value} (hm : g.M b o = some v) : b < w.heap.size :=
  World.block_lt_of_cell? w ⟨b, o, none⟩ (h.mem b o v hm)

theorem WRep.new_none {g : Gh} {σ : St} {w : World} (h : WRep g σ w) {b : Nat} (hb : w.heap.size ≤ b) (o : Nat) : g.M b o = none := by
  cases e : g.M b o with
  | none => rfl
  | some v => have := h.mem_lt e; omega

theorem WRep.own_lt {g : Gh} {σ : St} {w : World} (h : WRep g σ w) {x : Nat × Nat × List V} (hx : x ∈ σ.own) {u : Value} (hu : g.ι x.1 x.2.2.length = some u) {b : Nat} (hb : ownB u = some b) : b < w.heap.size := by
  obtain ⟨_, u', hu', _, hp, _⟩ := h.own x.1 x.2.1 x.2.2 hx
  rw [hu] at hu'
  obtain rfl : u = u' := by simpa using hu'
  rcases hp with ⟨a, rfl⟩ | ⟨b', f, len, cap, cur, e, rfl, hh, _⟩
  · cases a <;> simp [ownB] at hb
  · simp only [ownB] at hb
    split at hb
    · simp at hb
    · simp at hb; subst hb; exact heap_lt hh

theorem WRep.obj_lt {g : Gh} {σ : St} {w : World} (h : WRep g σ w) {i : Nat} {cs : List D} (hi : σ.H[i]? = some (some cs)) : g.β i < w.heap.size := by
  obtain ⟨us, rest, e, hb, _⟩ := h.obj i cs hi
  exact heap_lt hb

theorem WRep.lt_n {g : Gh} {σ : St} {w : World} (h : WRep g σ w) {i : Nat} {cs : List D} (hi : σ.H[i]? = some (some cs)) : i < g.n := by
  rw [h.n]; exact (List.getElem?_eq_some_iff.1 hi).1

theorem Perm.kept {M M' : Mem} {w w' : World} {sz : Nat} {u : Value} (h : Perm M w sz u) (hk : ∀ b, ownB u = some b → w'.heap[b]? = w.heap[b]? ∧ ∀ o, M' b o = M b o) : Perm M' w' sz u := by
  rcases h with ⟨a, rfl⟩ | ⟨b, f, len, cap, cur, e, rfl, hh, hl, hc, hM⟩
  · exact .inl ⟨a, rfl⟩
  · by_cases h0 : cap = 0
    · subst h0
      obtain rfl : len = 0 := by omega
      exact .inl ⟨_, rfl⟩
    · obtain ⟨h1, h2⟩ := hk b (by simp [ownB, h0])
      exact .inr ⟨b, f, len, cap, cur, e, rfl, h1.trans hh, hl, hc, fun o ho => (h2 o).trans (hM o ho), hM.ng⟩

/-- no object, and no list of one's own, lies in a known variable -/
theorem WRep.obj_ng {g : Gh} {σ : St} {w : World} (h : WRep g σ w) {i : Nat} {cs : List D} (hi : σ.H[i]? = some (some cs)) : ∀ p ∈ GSIZE, p.1 ≠ g.β i := fun p hp e => by
  obtain ⟨v, hv⟩ := h.gl.sized p hp
  obtain ⟨_, _, _, _, _, _, hM, _⟩ := h.obj i cs hi
  rw [e, hM 0] at hv; simp at hv
theorem Perm.ng {M : Mem} {w : World} {sz : Nat} {u : Value} (h : Perm M w sz u) {b : Nat} (hb : ownB u = some b) : ∀ p ∈ GSIZE, p.1 ≠ b := by
  rcases h with ⟨a, rfl⟩ | ⟨b', f, len, cap, cur, e, rfl, _, _, _, hM⟩
  · cases a <;> simp [ownB] at hb
  · simp only [ownB] at hb
    split at hb
    · simp at hb
    · simp at hb; subst hb; exact hM.ng
theorem WRep.own_ng {g : Gh} {σ : St} {w : World} (h : WRep g σ w) {k sz : Nat} {xs : List V} (hx : (k, sz, xs) ∈ σ.own) {u : Value} (hu : g.ι k xs.length = some u) {b : Nat} (hb : ownB u = some b) : ∀ p ∈ GSIZE, p.1 ≠ b := by
  obtain ⟨_, u', hu', _, hp, _⟩ := h.own k sz xs hx
  rw [hu] at hu'; simp at hu'; subst hu'
  exact hp.ng hb
theorem GW.lt {w : World} (h : GW w) {p : Nat × Nat} (hp : p ∈ GSIZE) : p.1 < w.heap.size := by
  obtain ⟨cs, e, x, h1, _⟩ := h p hp
  exact (Array.getElem?_eq_some_iff.1 h1).1
/-- a new block is none of the known variables -/
theorem GW.new {w : World} (h : GW w) {b : Nat} (hb : w.heap.size ≤ b) : ∀ p ∈ GSIZE, p.1 ≠ b := fun p hp e => by have := h.lt hp; omega
/-- new blocks, new cells of M in them; what was there stays -/
theorem WRep.grow {g : Gh} {σ : St} {w w' : World} (h : WRep g σ w) {M' : Mem} (hle : g.M.le M') (keep : ∀ b, b < w.heap.size → w'.heap[b]? = w.heap[b]? ∧ ∀ o, M' b o = g.M b o)
    (mem : ∀ b o v, M' b o = some v → w'.cell? ⟨b, o, none⟩ = some v) : WRep { g with M := M' } σ w' := by
  have hg : g.le { g with M := M' } := ⟨hle, Nat.le_refl _, fun _ _ => rfl, fun _ _ _ h => h, fun _ _ => rfl⟩
  refine ⟨h.n, mem, fun i cs hi => ?_, h.inj, fun k sz xs hx => ?_, h.tags, h.sep, h.ownObj, h.fresh, h.gl.mono hle, h.gw.keep fun b hb => (keep b hb).1⟩
  · obtain ⟨us, rest, e, hb, hr, h1, hM, hκ⟩ := h.obj i cs hi
    obtain ⟨k1, k2⟩ := keep _ (heap_lt hb)
    exact ⟨us, rest, e, k1.trans hb, repDs.mono hg _ _ hr, h1, fun o => (k2 o).trans (hM o), hκ⟩
  · obtain ⟨h0, u, hu, hr, hp, hf⟩ := h.own k sz xs hx
    exact ⟨h0, u, hu, hr.mono hle, hp.kept fun b hb => keep b (h.own_lt hx hu hb), hf⟩

theorem WI.grow {E : Ent} {g : Gh} {σ : St} {w w' : World} (hw : WI E g σ w) {M' : Mem} (hle : g.M.le M') (keep : ∀ b, b < w.heap.size → w'.heap[b]? = w.heap[b]? ∧ ∀ o, M' b o = g.M b o)
    (mem : ∀ b o v, M' b o = some v → w'.cell? ⟨b, o, none⟩ = some v) (size : w.heap.size ≤ w'.heap.size) (os : w'.os = w.os) (tape : w'.tape = w.tape) (output : w'.output = w.output) (drawn : drwLe w.drawn w'.drawn := by first | exact drwLe.refl _ | exact drwLe.succ _ | assumption) : WI E { g with M := M' } σ w' :=
  hw.update (fun _ => False) (fun _ h => h.elim) (fun b hb _ => keep b hb) hle (Nat.le_refl _) (fun _ _ => rfl) (fun _ _ => rfl) size os tape output (hw.rep.grow hle keep mem) hw.objs hw.owns

theorem cell_alloc (w : World) (o : Obj) {b i : Nat} {v : Value} (h : w.cell? ⟨b, i, none⟩ = some v) : (w.alloc o).cell? ⟨b, i, none⟩ = some v := by
  rw [World.cell?_alloc_lt w o _ (World.block_lt_of_cell? w _ h)]; exact h

/-- a block that nobody knows of -/
theorem WI.alloc {E : Ent} {g : Gh} {σ : St} {w : World} (hw : WI E g σ w) (o : Obj) : WI E g σ (w.alloc o) := by
  have := hw.grow (w' := w.alloc o) (M' := g.M) (Mem.le_refl _) (fun b hb => ⟨heap_alloc_old w o b hb, fun _ => rfl⟩) (fun b i v h => cell_alloc w o (hw.rep.mem b i v h)) (by simp) rfl rfl rfl
  exact this

theorem WI.drew {E : Ent} {g : Gh} {σ : St} {w : World} (hw : WI E g σ w) : WI E g σ w.drew := by
  have := hw.grow (w' := w.drew) (M' := g.M) (Mem.le_refl _) (fun b hb => ⟨rfl, fun _ => rfl⟩) (fun b i v h => hw.rep.mem b i v h) (Nat.le_refl _) rfl rfl rfl
  exact this

/-- a new object out of a block that nobody knows of -/
theorem WI.addObj {E : Ent} {g : Gh} {σ : St} {w : World} (hw : WI E g σ w) {b : Nat} {us rest : List Value} {e : TypeId} {cs : List D} (hb : w.heap[b]? = some (.cells (us ++ rest).toArray e (0, 0))) (hE : E.w.heap.size ≤ b ∨ E.priv b) (hM : ∀ o, g.M b o = none)
    (hno : ∀ i cs, σ.H[i]? = some (some cs) → g.β i ≠ b) (hown : ∀ x ∈ σ.own, ∀ u, g.ι x.1 x.2.2.length = some u → ownB u ≠ some b) (hr : repDs g cs us) (h1 : ∀ c ∈ cs, c.one = true) :
    WI E { g with n := g.n + 1, β := fun o => if o = g.n then b else g.β o, κ := fun o => if o = g.n then (us ++ rest).length else g.κ o } ⟨σ.H ++ [some cs], σ.own⟩ w ∧ g.le { g with n := g.n + 1, β := fun o => if o = g.n then b else g.β o, κ := fun o => if o = g.n then (us ++ rest).length else g.κ o } := by
  have hle : g.le { g with n := g.n + 1, β := fun o => if o = g.n then b else g.β o, κ := fun o => if o = g.n then (us ++ rest).length else g.κ o } := ⟨Mem.le_refl _, Nat.le_succ _, fun o ho => if_neg (by omega), fun _ _ _ h => h, fun o ho => if_neg (by omega)⟩
  have split : ∀ i cs', (σ.H ++ [some cs])[i]? = some (some cs') → (σ.H[i]? = some (some cs') ∧ i < g.n) ∨ (i = g.n ∧ cs' = cs) := by
    intro i cs' hi
    by_cases hlt : i < σ.H.length
    · rw [List.getElem?_append_left hlt] at hi
      exact .inl ⟨hi, by rw [hw.rep.n]; exact hlt⟩
    · rw [List.getElem?_append_right (by omega)] at hi
      have : i - σ.H.length = 0 := by
        cases hk : i - σ.H.length with
        | zero => rfl
        | succ k => simp [hk] at hi
      rw [this] at hi
      simp at hi
      exact .inr ⟨by rw [hw.rep.n]; omega, hi.symm⟩
  refine ⟨hw.update (fun _ => False) (fun _ h => h.elim) (fun _ _ _ => ⟨rfl, fun _ => rfl⟩) (Mem.le_refl _) (Nat.le_succ _) (fun o ho => if_neg (by omega)) (fun o ho => if_neg (by omega)) (Nat.le_refl _) rfl rfl rfl ?_ ?_ hw.owns, hle⟩
  · refine ⟨by simp [hw.rep.n], hw.rep.mem, fun i cs' hi => ?_, fun i j cs1 cs2 hi hj hij => ?_, hw.rep.own, hw.rep.tags, hw.rep.sep, fun x hx u hu b' hb' i cs' hi => ?_, hw.rep.fresh, hw.rep.gl, hw.rep.gw⟩
    · rcases split i cs' hi with ⟨h, hlt⟩ | ⟨rfl, rfl⟩
      · obtain ⟨us', rest', e', h2, h3, h4, h5, h6⟩ := hw.rep.obj i cs' h
        have hne : (if i = g.n then b else g.β i) = g.β i := if_neg (by omega)
        refine ⟨us', rest', e', ?_, repDs.mono hle _ _ h3, h4, ?_, ?_⟩
        · simp only [hne]; exact h2
        · simp only [hne]; exact h5
        · simp only [if_neg (show ¬ i = g.n by omega)]; exact h6
      · refine ⟨us, rest, e, ?_, repDs.mono hle _ _ hr, h1, ?_, ?_⟩
        · simp only [if_true]; exact hb
        · simp only [if_true]; exact hM
        · simp only [if_true]
    · rcases split i cs1 hi with ⟨h, hlt⟩ | ⟨rfl, rfl⟩ <;> rcases split j cs2 hj with ⟨h', hlt'⟩ | ⟨rfl, rfl⟩
      · simp only [if_neg (show ¬ i = g.n by omega), if_neg (show ¬ j = g.n by omega)] at hij
        exact hw.rep.inj i j _ _ h h' hij
      · simp only [if_neg (show ¬ i = g.n by omega), if_true] at hij
        exact absurd hij (hno i _ h)
      · simp only [if_neg (show ¬ j = g.n by omega), if_true] at hij
        exact absurd hij.symm (hno j _ h')
      · rfl
    · rcases split i cs' hi with ⟨h, hlt⟩ | ⟨rfl, rfl⟩
      · simp only [if_neg (show ¬ i = g.n by omega)]
        exact hw.rep.ownObj x hx u hu b' hb' i cs' h
      · simp only [if_true]
        intro e; subst e
        exact hown x hx u hu hb'
  · intro i cs' hi
    rcases split i cs' hi with ⟨h, hlt⟩ | ⟨rfl, rfl⟩
    · simp only [if_neg (show ¬ i = g.n by omega)]; exact hw.objs i cs' h
    · simp only [if_true]; exact hE

/-- a new owned list -/
theorem WI.addOwn {E : Ent} {g : Gh} {σ : St} {w : World} (hw : WI E g σ w) {k sz : Nat} {xs : List V} {u : Value} (hk : ∀ x ∈ σ.own, x.1 ≠ k) (hsz : 0 < sz ∧ ∀ x ∈ xs, x.size = sz) (hr : repV g.M (.list xs) u) (hp : Perm g.M w sz u)
    (hb : ∀ b, ownB u = some b → E.w.heap.size ≤ b ∧ (∀ i cs, σ.H[i]? = some (some cs) → g.β i ≠ b) ∧ ∀ x ∈ σ.own, ∀ u', g.ι x.1 x.2.2.length = some u' → ownB u' ≠ some b) :
    WI E { g with ι := fun k' m => if k' = k then (if m = xs.length then some u else none) else g.ι k' m } ⟨σ.H, (k, sz, xs) :: σ.own⟩ w ∧
    g.le { g with ι := fun k' m => if k' = k then (if m = xs.length then some u else none) else g.ι k' m } := by
  have hle : g.le { g with ι := fun k' m => if k' = k then (if m = xs.length then some u else none) else g.ι k' m } := by
    refine ⟨Mem.le_refl _, Nat.le_refl _, fun _ _ => rfl, fun k' m u' h => ?_, fun _ _ => rfl⟩
    by_cases e : k' = k
    · subst e; rw [hw.rep.fresh k' hk m] at h; simp at h
    · simp only [if_neg e]; exact h
  have hold : ∀ x ∈ σ.own, (if x.1 = k then (if x.2.2.length = xs.length then some u else none) else g.ι x.1 x.2.2.length) = g.ι x.1 x.2.2.length := fun x hx => if_neg (hk x hx)
  refine ⟨hw.update (fun _ => False) (fun _ h => h.elim) (fun _ _ _ => ⟨rfl, fun _ => rfl⟩) (Mem.le_refl _) (Nat.le_refl _) (fun _ _ => rfl) (fun _ _ => rfl) (Nat.le_refl _) rfl rfl rfl ?_ hw.objs ?_, hle⟩
  · refine ⟨hw.rep.n, hw.rep.mem, fun i cs hi => ?_, hw.rep.inj, fun k' sz' xs' hx => ?_, ?_, fun x hx y hy hne u1 u2 h1 h2 b hb1 => ?_, fun x hx u1 h1 b hb1 i cs hi => ?_, fun k' hk' m => ?_, hw.rep.gl, hw.rep.gw⟩
    · obtain ⟨us, rest, e, h2, h3, h4, h5⟩ := hw.rep.obj i cs hi
      exact ⟨us, rest, e, h2, repDs.mono hle _ _ h3, h4, h5⟩
    · rcases List.mem_cons.1 hx with e | hx
      · simp only [Prod.mk.injEq] at e
        obtain ⟨rfl, rfl, rfl⟩ := e
        refine ⟨hsz, u, by simp, hr, hp, fun m hm => ?_⟩
        simp only [if_true]; exact if_neg (by omega)
      · obtain ⟨h0, u', hu, h3, h4, h5⟩ := hw.rep.own k' sz' xs' hx
        have hne : ¬ k' = k := hk _ hx
        refine ⟨h0, u', by simp only [if_neg hne]; exact hu, h3, h4, fun m hm => by simp only [if_neg hne]; exact h5 m hm⟩
    · simp only [List.map_cons, List.nodup_cons]
      refine ⟨fun h => ?_, hw.rep.tags⟩
      obtain ⟨x, hx, e⟩ := List.mem_map.1 h
      exact hk x hx e
    · rcases List.mem_cons.1 hx with rfl | hx <;> rcases List.mem_cons.1 hy with rfl | hy
      · exact absurd rfl hne
      · simp at h1; subst h1
        have h2' : g.ι y.1 y.2.2.length = some u2 := (hold y hy).symm.trans h2
        exact (hb b hb1).2.2 y hy u2 h2'
      · simp at h2; subst h2
        have h1' : g.ι x.1 x.2.2.length = some u1 := (hold x hx).symm.trans h1
        intro hb2
        exact (hb b hb2).2.2 x hx u1 h1' hb1
      · exact hw.rep.sep x hx y hy hne u1 u2 ((hold x hx).symm.trans h1) ((hold y hy).symm.trans h2) b hb1
    · rcases List.mem_cons.1 hx with rfl | hx
      · simp at h1; subst h1
        exact (hb b hb1).2.1 i cs hi
      · exact hw.rep.ownObj x hx u1 ((hold x hx).symm.trans h1) b hb1 i cs hi
    · have hne : ¬ k' = k := fun e => hk' (k, sz, xs) (by simp) e.symm
      simp only [if_neg hne]
      exact hw.rep.fresh k' (fun x hx => hk' x (by simp [hx])) m
  · intro x hx u1 h1 b hb1
    rcases List.mem_cons.1 hx with rfl | hx
    · simp at h1; subst h1
      exact .inl (hb b hb1).1
    · exact hw.owns x hx u1 ((hold x hx).symm.trans h1) b hb1

end Go.Dv

namespace Go.Dv

def cellsD : D → List D
  | .v (.agg xs) => xs.map .v
  | .dagg cs => cs
  | d => [d]

/-- what can be stored -/
def D.sto : D → Bool
  | .v _ | .acc .. | .ptr .. | .arr .. | .gro .. | .dfn .. => true
  | .dagg cs => cs.all D.one
  | .raw x => x.oneCell'
  | .rv x _ => !x.isAgg
  | _ => false

theorem repA_repDs {g : Gh} : ∀ {xs : List V} {us : List Value}, repA g.M xs us → repDs g (xs.map .v) us ∧ ∀ c ∈ xs.map D.v, c.one = true
  | [], us, h => by simp only [repA] at h; simp [h, repDs]
  | x :: xs, us, h => by
    simp only [repA] at h
    obtain ⟨u, us', rfl, ha, h1, h2⟩ := h
    obtain ⟨h3, h4⟩ := repA_repDs h2
    refine ⟨?_, ?_⟩
    · simp only [List.map_cons, repDs, repD]
      exact ⟨u, us', rfl, (repV_one ha).2 h1, h3⟩
    · intro c hc
      simp only [List.map_cons, List.mem_cons] at hc
      rcases hc with rfl | hc
      · simp [D.one, ha]
      · exact h4 c hc

theorem cells_one {u : Value} (h : u.oneCell' = true) : u.cells = #[u] := by cases u <;> simp_all [Value.cells, Value.oneCell']

theorem repD_oneCell {g : Gh} {d : D} {u : Value} (h1 : d.one = true) (h : repD g d u) : u.oneCell' = true := by
  cases d with
  | v x => simp only [repD] at h; exact repV_oneCell (by simpa [D.one] using h1) h
  | acc k xs => simp only [repD] at h; exact repV_oneCell (x := .list xs) rfl h.1
  | ptr q off => simp only [repD] at h; rw [h.2]; rfl
  | arr q off len => simp only [repD] at h; obtain ⟨_, cap, _, rfl⟩ := h; rfl
  | gro q len sz => simp only [repD] at h; obtain ⟨_, cap, _, _, rfl⟩ := h; rfl
  | dfn f fs cs => simp only [repD] at h; obtain ⟨us, vs, rfl, _⟩ := h; rfl
  | raw x => simp only [repD] at h; subst h; simpa [D.one] using h1
  | rv x u0 => simp only [repD] at h; rw [h.1]; exact repV_oneCell (by simpa [D.one] using h1) h.2
  | dagg cs => simp [D.one] at h1
  | tup ds => simp [D.one] at h1
  | err => simp [D.one] at h1
  | undef => simp [D.one] at h1
theorem repDs_oneCells {g : Gh} : ∀ {cs : List D} {us : List Value}, (∀ c ∈ cs, c.one = true) → repDs g cs us → ∀ u ∈ us, u.oneCell' = true
  | [], us, _, h => by simp only [repDs] at h; simp [h]
  | c :: cs, us, h1, h => by
    simp only [repDs] at h
    obtain ⟨u, us', rfl, h2, h3⟩ := h
    intro x hx
    simp only [List.mem_cons] at hx
    rcases hx with rfl | hx
    · exact repD_oneCell (h1 c (by simp)) h2
    · exact repDs_oneCells (fun c hc => h1 c (by simp [hc])) h3 x hx

theorem cells_rep {g : Gh} {d : D} {u : Value} (hs : d.sto = true) (h : repD g d u) : repDs g (cellsD d) u.cells.toList ∧ (∀ c ∈ cellsD d, c.one = true) ∧ (∀ x ∈ u.cells.toList, x.oneCell' = true) := by
  have one : d.one = true → u.oneCell' = true → cellsD d = [d] → repDs g (cellsD d) u.cells.toList ∧ (∀ c ∈ cellsD d, c.one = true) ∧ (∀ x ∈ u.cells.toList, x.oneCell' = true) := by
    intro h1 h2 h3
    rw [h3, cells_one h2]
    exact ⟨repDs_one.2 ⟨u, rfl, h⟩, by simp [h1], by simp [h2]⟩
  cases d with
  | v x =>
    cases hx : x.isAgg with
    | false => exact one (by simp [D.one, hx]) (by simp only [repD] at h; exact repV_oneCell hx h) (by cases x with | agg _ => simp [V.isAgg] at hx | _ => rfl)
    | true =>
      cases x with
      | agg cs =>
        simp only [repD, repV_agg] at h
        obtain ⟨ws, hr, rfl⟩ := h
        simp only [cellsD, Value.cells]
        obtain ⟨h3, h4⟩ := repA_repDs hr
        exact ⟨h3, h4, repA_oneCell hr⟩
      | _ => simp [V.isAgg] at hx
  | acc k xs => exact one rfl (by simp only [repD] at h; exact repV_oneCell (x := .list xs) rfl h.1) rfl
  | ptr q off => exact one rfl (by simp only [repD] at h; rw [h.2]; rfl) rfl
  | arr q off len => exact one rfl (by simp only [repD] at h; obtain ⟨_, cap, _, rfl⟩ := h; rfl) rfl
  | dfn f fs cs => exact one rfl (by simp only [repD] at h; obtain ⟨us, vs, rfl, _⟩ := h; rfl) rfl
  | gro q len sz => exact one rfl (repD_oneCell rfl h) rfl
  | rv x u0 => exact one (by simpa [D.sto, D.one] using hs) (repD_oneCell (by simpa [D.sto, D.one] using hs) h) rfl
  | raw x => exact one (by simpa [D.sto, D.one] using hs) (repD_oneCell (by simpa [D.sto, D.one] using hs) h) rfl
  | dagg cs =>
    simp only [repD] at h
    obtain ⟨us, rfl, hr⟩ := h
    have h1 : ∀ c ∈ cs, c.one = true := by simpa [D.sto] using hs
    simp only [cellsD, Value.cells]
    exact ⟨hr, h1, repDs_oneCells h1 hr⟩
  | tup ds => simp [D.sto] at hs
  | err => simp [D.sto] at hs
  | undef => simp [D.sto] at hs

/-- an object's cells are written -/
theorem WI.setObj {E : Ent} {g : Gh} {σ : St} {w w' : World} (hw : WI E g σ w) {q : Nat} {cs cs' : List D} (hq : σ.H[q]? = some (some cs)) {us rest : List Value} {e : TypeId} (hb : w'.heap[g.β q]? = some (.cells (us ++ rest).toArray e (0, 0))) (hκ : (us ++ rest).length = g.κ q)
    (hr : repDs g cs' us) (h1 : ∀ c ∈ cs', c.one = true) (keep : ∀ b, b ≠ g.β q → w'.heap[b]? = w.heap[b]?) (size : w'.heap.size = w.heap.size) (os : w'.os = w.os) (tape : w'.tape = w.tape) (output : w'.output = w.output) (drawn : drwLe w.drawn w'.drawn := by first | exact drwLe.refl _ | exact drwLe.succ _ | assumption) :
    WI E g ⟨σ.H.set q (some cs'), σ.own⟩ w' := by
  have hMq : ∀ o, g.M (g.β q) o = none := by obtain ⟨_, _, _, _, _, _, h, _⟩ := hw.rep.obj q cs hq; exact h
  have split : ∀ (i : Nat) (cs1 : List D), (σ.H.set q (some cs'))[i]? = some (some cs1) → (i = q ∧ cs1 = cs') ∨ (i ≠ q ∧ σ.H[i]? = some (some cs1)) := by
    intro i cs1 hi
    rw [List.getElem?_set] at hi
    split at hi
    · rename_i e; subst e
      split at hi
      · simp at hi; exact .inl ⟨rfl, hi.symm⟩
      · simp at hi
    · rename_i e; exact .inr ⟨fun h => e h.symm, hi⟩
  have live : ∀ (i : Nat) (cs1 : List D), (σ.H.set q (some cs'))[i]? = some (some cs1) → ∃ cs2, σ.H[i]? = some (some cs2) := by
    intro i cs1 hi
    rcases split i cs1 hi with ⟨rfl, _⟩ | ⟨_, h⟩
    · exact ⟨cs, hq⟩
    · exact ⟨_, h⟩
  refine hw.update (fun b => b = g.β q) (fun b e => by subst e; exact hw.objs q cs hq) (fun b _ hne => ⟨keep b hne, fun _ => rfl⟩) (Mem.le_refl _) (Nat.le_refl _) (fun _ _ => rfl) (fun _ _ => rfl) (by omega) os tape output ?_ ?_ hw.owns
  · refine ⟨by simp [hw.rep.n], fun b o v hm => ?_, fun i cs1 hi => ?_, fun i j c1 c2 hi hj hij => ?_, fun k sz xs hx => ?_, hw.rep.tags, hw.rep.sep, fun x hx u hu b hb' i cs1 hi => ?_, hw.rep.fresh, hw.rep.gl, hw.rep.gw.mono fun b cs0 e0 x0 hb0 => by
      by_cases hbq : b = g.β q
      · subst hbq
        obtain ⟨us1, rest1, e1, h2, _, _, _, h3⟩ := hw.rep.obj q cs hq
        rw [h2] at hb0
        cases hb0
        exact ⟨_, _, _, hb, by simp only [List.size_toArray]; omega⟩
      · exact ⟨_, _, _, (keep b hbq).trans hb0, rfl⟩⟩
    · have hne : b ≠ g.β q := fun e => by subst e; rw [hMq o] at hm; simp at hm
      have := hw.rep.mem b o v hm
      simp only [World.cell?] at this ⊢
      rw [keep b hne]; exact this
    · rcases split i cs1 hi with ⟨rfl, rfl⟩ | ⟨hne, h⟩
      · exact ⟨us, rest, e, hb, hr, h1, hMq, hκ⟩
      · obtain ⟨us', rest', e', h2, h3, h4, h5⟩ := hw.rep.obj i cs1 h
        refine ⟨us', rest', e', ?_, h3, h4, h5⟩
        rw [keep _ (fun e => hne (hw.rep.inj i q _ _ h hq e))]; exact h2
    · obtain ⟨c3, h3⟩ := live i c1 hi
      obtain ⟨c4, h4⟩ := live j c2 hj
      exact hw.rep.inj i j _ _ h3 h4 hij
    · obtain ⟨h0, u, hu, h3, h4, h5⟩ := hw.rep.own k sz xs hx
      refine ⟨h0, u, hu, h3, h4.kept fun b hb' => ⟨keep b ?_, fun _ => rfl⟩, h5⟩
      exact fun e => hw.rep.ownObj _ hx u hu b hb' q cs hq e.symm
    · obtain ⟨c3, h3⟩ := live i cs1 hi
      exact hw.rep.ownObj x hx u hu b hb' i c3 h3
  · intro i cs1 hi
    obtain ⟨c3, h3⟩ := live i cs1 hi
    exact hw.objs i c3 h3

section
variable {P : Program} {o : Oper} {σ : St} {d : D}

/-- a fresh block as a new object -/
theorem WI.newObj {E : Ent} {g : Gh} {w : World} (hw : WI E g σ w) {us : List Value} {cs : List D} (e : TypeId) (hr : repDs g cs us) (h1 : ∀ c ∈ cs, c.one = true) :
    ∃ g', WI E g' ⟨σ.H ++ [some cs], σ.own⟩ (w.alloc (.cells us.toArray e)) ∧ g.le g' ∧ g'.β σ.H.length = w.heap.size ∧ g'.n = σ.H.length + 1 := by
  have h2 := (hw.alloc (.cells us.toArray e)).addObj (b := w.heap.size) (us := us) (rest := []) (e := e) (cs := cs) (by rw [List.append_nil]; exact heap_alloc_new w _) (.inl hw.size) (hw.rep.new_none (Nat.le_refl _))
    (fun i cs hi => Nat.ne_of_lt (hw.rep.obj_lt hi)) (fun x hx u hu hb => by have := hw.rep.own_lt hx hu hb; omega) hr h1
  exact ⟨_, h2.1, h2.2, by simp [hw.rep.n], by simp [hw.rep.n]⟩

theorem op_box {e : TypeId} {x : Operand} (ho : o.op = .box e x) (hs : d.sto = true) : OpOK P o [d] σ (.ptr σ.H.length 0) ⟨σ.H ++ [some (cellsD d)], σ.own⟩ := by
  intro E g a w K Q hw hds hK
  simp only [ho, Op.operands, repDs_one] at hds
  obtain ⟨u, eu, hd⟩ := hds
  simp at eu
  obtain ⟨h2, h3, _⟩ := cells_rep hs hd
  obtain ⟨g', hw', hle, hβ, hn⟩ := hw.newObj e h2 h3
  have := hK g' _ (.pointer (some ⟨w.heap.size, 0, none⟩)) hw' hle (by simp only [repD]; exact ⟨by omega, by rw [hβ]⟩)
  unfold Oper.wp execOp
  simpa [ho, eu, Instr.box, newVar, newRow, Oper.upon] using this

def constV : Value → Option V
  | .int k n => some (.int k n)
  | .bool b => some (.bool b)
  | .string s => some (.str s.data.toList)
  | .slice none 0 0 => some (.list [])
  | .nilFunc => some .nilfn
  | .pointer none => some .nilp
  | _ => none

def constVs : List Value → Option (List V)
  | [] => some []
  | u :: us => match constV u, constVs us with
    | some x, some xs => some (x :: xs)
    | _, _ => none

theorem constV_rep {M : Mem} {u : Value} {x : V} (h : constV u = some x) : x.isAgg = false ∧ repC M x [u] := by
  unfold constV at h
  split at h <;> simp at h <;> subst h <;> simp [V.isAgg, repC]

theorem constVs_rep {M : Mem} : ∀ {us : List Value} {xs : List V}, constVs us = some xs → repA M xs us
  | [], xs, h => by simp [constVs] at h; subst h; simp [repA]
  | u :: us, xs, h => by
    simp only [constVs] at h
    split at h
    · rename_i x xs' h1 h2
      simp at h; subst h
      obtain ⟨h3, h4⟩ := constV_rep (M := M) h1
      simp only [repA]
      exact ⟨u, us, rfl, h3, h4, constVs_rep h2⟩
    · simp at h

/-- the zero value's cells -/
def zeroV (P : Program) (t : TypeId) : Option (List V) :=
  match (P.info? t).bind (·.zero) with
  | some z => constVs z.cells.toList
  | none => none

theorem zeroV_parts {t : TypeId} {xs : List V} (h : zeroV P t = some xs) : ∃ i z, P.info? t = some i ∧ i.zero = some z ∧ constVs z.cells.toList = some xs := by
  unfold zeroV at h
  split at h
  · rename_i z hz
    cases hi : P.info? t with
    | none => simp [hi] at hz
    | some i => exact ⟨i, z, rfl, by simpa [hi] using hz, h⟩
  · simp at h

theorem op_alloc {e : TypeId} (ho : o.op = .alloc e) {xs : List V} (hz : zeroV P e = some xs) : OpOK P o [] σ (.ptr σ.H.length 0) ⟨σ.H ++ [some (xs.map .v)], σ.own⟩ := by
  intro E g a w K Q hw hds hK
  obtain ⟨i, z, hi, hz1, hc⟩ := zeroV_parts hz
  obtain ⟨h2, h3⟩ := repA_repDs (g := g) (constVs_rep hc)
  obtain ⟨g', hw', hle, hβ, hn⟩ := hw.newObj e h2 h3
  have := hK g' _ (.pointer (some ⟨w.heap.size, 0, none⟩)) hw' hle (by simp only [repD]; exact ⟨by omega, by rw [hβ]⟩)
  unfold Oper.wp execOp
  simpa [ho, Instr.alloc, zeroValue, typeInfo, hi, hz1, newVar, newRow, Oper.upon] using this

/-- a store into an object -/
theorem op_store {t : TypeId} {x y : Operand} (ho : o.op = .store t x y) (hs : d.sto = true) {n : Nat} {b : Bool} (ht : szAgg P t = some (n, b)) (hn : (cellsD d).length = n) {q off : Nat} {cs : List D} (hq : σ.H[q]? = some (some cs)) (hoff : off + n ≤ cs.length) :
    OpOK P o [.ptr q off, d] σ .undef ⟨σ.H.set q (some (cs.take off ++ cellsD d ++ cs.drop (off + n))), σ.own⟩ := by
  intro E g a w K Q hw hds hK
  simp only [ho, Op.operands, repDs_two] at hds
  obtain ⟨u, v, eq, h1, h2⟩ := hds
  simp only [List.map_cons, List.map_nil, List.cons.injEq, and_true] at eq
  obtain ⟨e1, e2⟩ := eq
  simp only [repD] at h1
  obtain ⟨hlt, rfl⟩ := h1
  obtain ⟨us, rest, e, hb, hr, hone, hM, hκ⟩ := hw.rep.obj q cs hq
  obtain ⟨h3, h4, h5⟩ := cells_rep hs h2
  have hl : us.length = cs.length := repDs_length hr
  have hl2 : v.cells.toList.length = n := by rw [repDs_length h3, hn]
  have hst := run_storeCells_at P (g.β q) off e v.cells.toList 0 (us ++ rest).toArray w hb (by simp only [List.size_toArray, List.length_append]; omega) h5
  simp only [Nat.add_zero, hl2] at hst
  rw [show (us ++ rest).take off ++ v.cells.toList ++ (us ++ rest).drop (off + n) = (us.take off ++ v.cells.toList ++ us.drop (off + n)) ++ rest from by
    rw [List.take_append_of_le_length (by omega), List.drop_append_of_le_length (by omega)]; simp] at hst
  have hw' := hw.setObj (cs' := cs.take off ++ cellsD d ++ cs.drop (off + n)) hq (us := us.take off ++ v.cells.toList ++ us.drop (off + n)) (rest := rest) (e := e)
    (w' := w.setRow (g.β q) ((us.take off ++ v.cells.toList ++ us.drop (off + n)) ++ rest).toArray) (setRow_heap w _ _ _ e _ hb) (by rw [← hκ]; simp only [List.length_append, List.length_take, List.length_drop]; omega)
    (repDs_append (repDs_append (repDs_take hr off) h3) (repDs_drop hr (off + n)))
    (fun c hc => by
      simp only [List.mem_append] at hc
      rcases hc with (hc | hc) | hc
      · exact hone c (List.mem_of_mem_take hc)
      · exact h4 c hc
      · exact hone c (List.mem_of_mem_drop hc))
    (fun b hb => setRow_other w _ _ _ hb) (by simp) rfl rfl rfl
  have := hK g _ undef hw' g.le_refl (by simp [repD])
  have hsz : v.cells.size = n := by rw [← Array.length_toList]; exact hl2
  unfold Oper.wp execOp
  simp only [ho, e1, e2, Instr.storeAt, Instr.sureAddr, Sem.run_bind, Sem.run_pure, Result.andThen_ok, storeVar, run_sizeOf' ht, hsz, ne_eq, not_true_eq_false, if_false, hst]
  exact this

theorem op_store1 {t : TypeId} {x y : Operand} (ho : o.op = .store t x y) (hs : d.one = true) (ht : OneTy P t) {q off : Nat} {cs : List D} (hq : σ.H[q]? = some (some cs)) (hoff : off < cs.length) :
    OpOK P o [.ptr q off, d] σ .undef ⟨σ.H.set q (some (cs.set off d)), σ.own⟩ := by
  have hc : cellsD d = [d] := by
    cases d with
    | v x => cases x <;> simp_all [D.one, cellsD, V.isAgg]
    | dagg cs => simp [D.one] at hs
    | _ => rfl
  have hs' : d.sto = true := by cases d <;> simp_all [D.one, D.sto]
  have h := op_store (P := P) (σ := σ) (n := 1) (off := off) ho hs' ht (by rw [hc]; rfl) hq (by omega)
  rw [hc] at h
  have e : cs.take off ++ [d] ++ cs.drop (off + 1) = cs.set off d := by
    rw [List.set_eq_take_append_cons_drop, if_pos hoff]; simp
  rw [e] at h
  exact h

/- LITERALS -/
def V.cellsV : V → List V
  | .agg cs => cs
  | x => [x]

theorem repV_cellsV {M : Mem} {x : V} {u : Value} (h : repV M x u) : repA M x.cellsV u.cells.toList ∧ u.cells.size = x.size := by
  have hc := repV_cells h
  have hl : u.cells.size = x.size := by rw [← Array.length_toList]; exact repC_length hc
  refine ⟨?_, hl⟩
  cases hx : x.isAgg with
  | true =>
    cases x with
    | agg cs => simpa only [V.cellsV, repC] using hc
    | _ => simp [V.isAgg] at hx
  | false =>
    have e : x.cellsV = [x] := by cases x <;> simp_all [V.cellsV, V.isAgg]
    obtain ⟨u', e1, _, _⟩ := repC_one hx hc
    rw [e, e1]
    simp only [repA]
    exact ⟨u', [], rfl, hx, by rw [← e1]; exact hc, rfl⟩

def fillV (place : Nat → Option (Nat × Nat)) (cells : List V) : List (Nat × V) → Option (List V)
  | [] => some cells
  | (i, x) :: rest =>
    match place i with
    | none => none
    | some (off, size) => if x.size = size ∧ off + size ≤ cells.length then fillV place (cells.take off ++ x.cellsV ++ cells.drop (off + size)) rest else none

theorem fillV_mono {place place' : Nat → Option (Nat × Nat)} {out : List V} (hp : ∀ i p, place i = some p → place' i = some p) : ∀ (xs : List (Nat × V)) (cells : List V), fillV place cells xs = some out → fillV place' cells xs = some out
  | [], cells, h => by simpa [fillV] using h
  | (i, x) :: xs, cells, h => by
    simp only [fillV] at h ⊢
    cases hi : place i with
    | none => simp [hi] at h
    | some p =>
      rw [hp i p hi]
      simp only [hi] at h ⊢
      split at h
      · rename_i hc; rw [if_pos hc]; exact fillV_mono hp xs _ h
      · simp at h

theorem repA_append {M : Mem} : ∀ {xs ys : List V} {us vs : List Value}, repA M xs us → repA M ys vs → repA M (xs ++ ys) (us ++ vs)
  | [], ys, us, vs, h, h' => by simp only [repA] at h; simpa [h] using h'
  | x :: xs, ys, us, vs, h, h' => by
    simp only [repA] at h
    obtain ⟨u, us1, rfl, ha, h1, h2⟩ := h
    simp only [List.cons_append, repA]
    exact ⟨u, _, rfl, ha, h1, repA_append h2 h'⟩

theorem splice (off : Nat) (l : List Value) (cs : Array Value) (h : off + l.length ≤ cs.size) :
    ((l.zipIdx 0).foldl (fun cs (x : Value × Nat) => cs.setIfInBounds (off + x.2) x.1) cs).toList = cs.toList.take off ++ l ++ cs.toList.drop (off + l.length) := by
  obtain ⟨h1, h2⟩ := Great.foldl_set off l 0 cs
  apply List.ext_getElem?
  intro k
  have e : ((l.zipIdx 0).foldl (fun cs (x : Value × Nat) => cs.setIfInBounds (off + x.2) x.1) cs).toList[k]? = ((l.zipIdx 0).foldl (fun cs (x : Value × Nat) => cs.setIfInBounds (off + x.2) x.1) cs)[k]? := by simp
  rw [e, h2 k]
  simp only [Nat.add_zero]
  have hlt : (cs.toList.take off).length = off := by simp; omega
  by_cases hk : k < off
  · rw [if_neg (by omega), List.append_assoc, List.getElem?_append_left (by omega), List.getElem?_take, if_pos hk]; simp
  · by_cases hk2 : k < off + l.length
    · rw [if_pos (by omega), List.append_assoc, List.getElem?_append_right (by omega), hlt, List.getElem?_append_left (by omega)]
    · rw [if_neg (by omega), List.getElem?_append_right (by simp; omega), List.getElem?_drop]
      simp only [List.length_append, hlt]
      rw [show off + l.length + (k - (off + l.length)) = k by omega]; simp

inductive PartsRep (M : Mem) : List (Nat × V) → List (Nat × Value) → Prop
  | nil : PartsRep M [] []
  | cons {i : Nat} {x : V} {u : Value} {xs : List (Nat × V)} {us : List (Nat × Value)} (h : repV M x u) (hr : PartsRep M xs us) : PartsRep M ((i, x) :: xs) ((i, u) :: us)

theorem fill_rep {M : Mem} {place : Nat → Option (Nat × Nat)} : ∀ {xs : List (Nat × V)} {us : List (Nat × Value)} {cells out : List V} {cu : Array Value}, PartsRep M xs us → repA M cells cu.toList → fillV place cells xs = some out →
    ∃ U, Instr.fill place cu us = some U ∧ repA M out U.toList
  | [], us, cells, out, cu, h, hc, hf => by
    cases h
    simp [fillV] at hf; subst hf
    exact ⟨cu, rfl, hc⟩
  | (i, x) :: xs, us, cells, out, cu, h, hc, hf => by
    cases h with
    | cons hx hr =>
      rename_i u us
      simp only [fillV] at hf
      cases hp : place i with
      | none => simp [hp] at hf
      | some p =>
        obtain ⟨off, size⟩ := p
        simp only [hp] at hf
        split at hf
        · rename_i hcond
          obtain ⟨hA, hsz⟩ := repV_cellsV hx
          have hl : cu.size = cells.length := by rw [← Array.length_toList]; exact repA_length hc
          have hs : u.cells.size = size := hsz.trans hcond.1
          have hsp := splice off u.cells.toList cu (by simp only [Array.length_toList]; omega)
          simp only [Array.length_toList, hs] at hsp
          have hc' : repA M (cells.take off ++ x.cellsV ++ cells.drop (off + size)) ((u.cells.toList.zipIdx 0).foldl (fun cs (x : Value × Nat) => cs.setIfInBounds (off + x.2) x.1) cu).toList := by
            rw [hsp]
            exact repA_append (repA_append (repA_take hc off) hA) (repA_drop hc (off + size))
          obtain ⟨U, hU, hrU⟩ := fill_rep hr hc' hf
          refine ⟨U, ?_, hrU⟩
          unfold Instr.fill
          simp only [hp, hs]
          rw [if_neg (by simp; omega), ← hU]
          congr 1
          rw [← Array.foldl_toList, Array.toList_zipIdx]
        · simp at hf

/-- a struct's (or array's) zero cells and the places of its parts -/
def bldTy (P : Program) (t : TypeId) : Option (List V × List (Nat × Nat)) :=
  match zeroV P t, P.underlying t with
  | some z, some (.struct fs) => (fs.toList.mapM (fun f => (P.info? f.type).map fun i => (f.offset, i.size))).map fun p => (z, p)
  | some z, some (.array n e) => (P.info? e).map fun i => (z, (List.range n).map fun j => (j * i.size, i.size))
  | _, _ => none

def zipParts : List (Nat × Operand) → List D → Option (List (Nat × V))
  | [], [] => some []
  | (i, _) :: ps, d :: ds => match d.toV, zipParts ps ds with
    | some x, some xs => some ((i, x) :: xs)
    | _, _ => none
  | _, _ => none

theorem zipParts_rep {g : Gh} {a : Act} : ∀ {ps : List (Nat × Operand)} {ds : List D} {xs : List (Nat × V)}, zipParts ps ds = some xs → repDs g ds (ps.map fun p => a.eval p.2) → PartsRep g.M xs (ps.map fun p => (p.1, a.eval p.2))
  | [], [], xs, h, _ => by simp [zipParts] at h; subst h; exact .nil
  | [], _ :: _, xs, h, _ => by simp [zipParts] at h
  | (i, _) :: ps, [], xs, h, _ => by simp [zipParts] at h
  | (i, x) :: ps, d :: ds, xs, h, hr => by
    simp only [zipParts] at h
    split at h
    · rename_i y ys hy hys
      simp at h; subst h
      simp only [List.map_cons, repDs] at hr
      obtain ⟨u, us', e, h1, h2⟩ := hr
      simp at e
      obtain ⟨rfl, rfl⟩ := e
      exact .cons (toV_rep hy h1) (zipParts_rep hys h2)
    · simp at h

theorem op_build {t : TypeId} {parts : Array (Nat × Operand)} (ho : o.op = .build t parts) {z : List V} {places : List (Nat × Nat)} (hb : bldTy P t = some (z, places)) {ds : List D} {xs : List (Nat × V)} {out : List V}
    (hx : zipParts parts.toList ds = some xs) (hf : fillV (places[·]?) z xs = some out) : OpOK P o ds σ (.v (.agg out)) σ := by
  intro E g a w K Q hw hds hK
  simp only [ho, Op.operands] at hds
  have hpr := zipParts_rep hx (a := a) (g := g) (by simpa [Function.comp_def] using hds)
  unfold bldTy at hb
  have key : ∃ U, P.built t (parts.toList.map fun p => (p.1, a.eval p.2)) = some U ∧ repA g.M out U.toList := by
    cases hz : zeroV P t with
    | none => simp [hz] at hb
    | some z0 =>
      obtain ⟨i, zv, hi, hz1, hcv⟩ := zeroV_parts hz
      cases hu : P.underlying t with
      | none => simp [hz, hu] at hb
      | some dd =>
        cases dd <;> simp only [hz, hu, reduceCtorEq] at hb
        case struct fs =>
          cases hp : fs.toList.mapM (fun f => (P.info? f.type).map fun i => (f.offset, i.size)) with
          | none => simp [hp] at hb
          | some pl =>
            simp [hp] at hb
            obtain ⟨rfl, rfl⟩ := hb
            obtain ⟨U, hU, hrU⟩ := fill_rep hpr (constVs_rep (M := g.M) hcv) hf
            exact ⟨U, by simpa [Program.built, hi, hu, hz1, hp] using hU, hrU⟩
        case array n e =>
          cases hp : P.info? e with
          | none => simp [hp] at hb
          | some ie =>
            simp [hp] at hb
            obtain ⟨rfl, rfl⟩ := hb
            have hf' : fillV (fun i => some (i * ie.size, ie.size)) z0 xs = some out := by
              refine fillV_mono (fun i p hp' => ?_) xs z0 hf
              have hlt := (List.getElem?_eq_some_iff.1 hp').1
              simp at hlt
              simpa [hlt] using hp'
            obtain ⟨U, hU, hrU⟩ := fill_rep hpr (constVs_rep (M := g.M) hcv) hf'
            exact ⟨U, by simpa [Program.built, hi, hu, hz1, hp] using hU, hrU⟩
  obtain ⟨U, hU, hrU⟩ := key
  have := hK g w (.agg U) hw g.le_refl (by simp only [repD, repV_agg]; exact ⟨U.toList, hrU, by simp⟩)
  have hrun := run_build (P := P) w t (parts.map fun p => (p.1, a.eval p.2)) U (by simpa using hU)
  unfold Oper.wp execOp
  simp only [ho]
  simp only [Sem.run_bind]
  rw [show (parts.map fun (x : Nat × Operand) => match x with | (i, x) => (i, a.eval x)) = parts.map fun p => (p.1, a.eval p.2) from rfl, hrun]
  exact this

end
end Go.Dv

namespace Go.Dv

def repl (k sz : Nat) (zs : List V) (x : Nat × Nat × List V) : Nat × Nat × List V := if x.1 = k then (k, sz, zs) else x

theorem repl_fst {k sz : Nat} {zs : List V} (x : Nat × Nat × List V) : (repl k sz zs x).1 = x.1 := by unfold repl; split <;> simp_all

/-- an owned list has grown -/
theorem WI.setOwn {E : Ent} {g : Gh} {σ : St} {w w' : World} (hw : WI E g σ w) {k sz : Nat} {xs zs : List V} (hx : (k, sz, xs) ∈ σ.own) {u u' : Value} (hu : g.ι k xs.length = some u) {M' : Mem} (hle : g.M.le M')
    (keep : ∀ b, b < w.heap.size → ownB u ≠ some b → w'.heap[b]? = w.heap[b]? ∧ ∀ o, M' b o = g.M b o) (mem : ∀ b o v, M' b o = some v → w'.cell? ⟨b, o, none⟩ = some v)
    (size : w.heap.size ≤ w'.heap.size) (os : w'.os = w.os) (tape : w'.tape = w.tape) (output : w'.output = w.output)
    (hzs : ∀ x ∈ zs, x.size = sz) (hr : repV M' (.list zs) u') (hp : Perm M' w' sz u') (hb : ∀ b, ownB u' = some b → ownB u = some b ∨ w.heap.size ≤ b) (hlen : xs.length < zs.length ∨ (zs.length = xs.length ∧ u' = u)) (drawn : drwLe w.drawn w'.drawn := by first | exact drwLe.refl _ | exact drwLe.succ _ | assumption) :
    WI E { g with M := M', ι := fun k' m => if k' = k ∧ m = zs.length then some u' else g.ι k' m } ⟨σ.H, σ.own.map (repl k sz zs)⟩ w' ∧
    g.le { g with M := M', ι := fun k' m => if k' = k ∧ m = zs.length then some u' else g.ι k' m } := by
  obtain ⟨hsz, u0, hu0, _, _, hfr⟩ := hw.rep.own k sz xs hx
  have hlg : g.le { g with M := M', ι := fun k' m => if k' = k ∧ m = zs.length then some u' else g.ι k' m } := by
    refine ⟨hle, Nat.le_refl _, fun _ _ => rfl, fun k' m v h => ?_, fun _ _ => rfl⟩
    by_cases e : k' = k ∧ m = zs.length
    · obtain ⟨rfl, rfl⟩ := e
      simp only [and_self, if_true]
      rcases hlen with hl | ⟨hl, rfl⟩
      · rw [hfr _ hl] at h; simp at h
      · rw [hl] at h; exact hu.symm.trans h
    · simp only [if_neg e]; exact h
  -- two entries with one tag are one
  have uniq : ∀ y ∈ σ.own, y.1 = k → y = (k, sz, xs) := by
    intro y hy e
    have hnd := hw.rep.tags
    clear hfr hlg hw
    generalize σ.own = l at *
    induction l with
    | nil => simp at hy
    | cons z l ih =>
      simp only [List.map_cons, List.nodup_cons] at hnd
      rcases List.mem_cons.1 hy with rfl | hy' <;> rcases List.mem_cons.1 hx with hx' | hx'
      · exact hx'.symm
      · exact absurd (List.mem_map.2 ⟨_, hx', e.symm⟩) hnd.1
      · subst hx'; exact absurd (List.mem_map.2 ⟨_, hy', e⟩) hnd.1
      · exact ih hx' hy' hnd.2
  have old : ∀ y ∈ σ.own, y.1 ≠ k → (if y.1 = k ∧ y.2.2.length = zs.length then some u' else g.ι y.1 y.2.2.length) = g.ι y.1 y.2.2.length := fun y _ e => if_neg (fun h => e h.1)
  -- each new entry
  have cases_ : ∀ y' ∈ σ.own.map (repl k sz zs), (y' = (k, sz, zs)) ∨ (y' ∈ σ.own ∧ y'.1 ≠ k) := by
    intro y' hy'
    obtain ⟨y, hy, rfl⟩ := List.mem_map.1 hy'
    by_cases e : y.1 = k
    · exact .inl (by simp [repl, e])
    · exact .inr (by simp only [repl, if_neg e]; exact ⟨hy, e⟩)
  have sep0 : ∀ y ∈ σ.own, y.1 ≠ k → ∀ v, g.ι y.1 y.2.2.length = some v → ∀ b, ownB v = some b → ownB u' ≠ some b := by
    intro y hy e v hv b hvb hub
    rcases hb b hub with h | h
    · exact hw.rep.sep (k, sz, xs) hx y hy (fun h => e h.symm) u v hu hv b h hvb
    · have := hw.rep.own_lt hy hv hvb; omega
  refine ⟨hw.update (fun b => ownB u = some b) (fun b h => hw.owns _ hx u hu b h) (fun b hb1 h => keep b hb1 h) hle (Nat.le_refl _) (fun _ _ => rfl) (fun _ _ => rfl) size os tape output ?_ hw.objs ?_, hlg⟩
  · refine ⟨hw.rep.n, mem, fun i cs hi => ?_, hw.rep.inj, fun k' sz' xs' hx' => ?_, ?_, fun x1 hx1 y1 hy1 hne u1 u2 h1 h2 b hb1 => ?_, fun x1 hx1 u1 h1 b hb1 i cs hi => ?_, fun k' hk' m => ?_, hw.rep.gl.mono hle, hw.rep.gw.keepG fun p hp hlt => (keep p.1 hlt fun e => hw.rep.own_ng hx hu e p hp rfl).1⟩
    · obtain ⟨us, rest, e, h2, h3, h4, h5, h6⟩ := hw.rep.obj i cs hi
      obtain ⟨k1, k2⟩ := keep _ (heap_lt h2) (fun h => hw.rep.ownObj _ hx u hu _ h i cs hi rfl)
      exact ⟨us, rest, e, k1.trans h2, repDs.mono hlg _ _ h3, h4, fun o => (k2 o).trans (h5 o), h6⟩
    · rcases cases_ _ hx' with e | ⟨hy, e⟩
      · simp only [Prod.mk.injEq] at e
        obtain ⟨rfl, rfl, rfl⟩ := e
        refine ⟨⟨hsz.1, hzs⟩, u', by simp, hr, hp, fun m hm => ?_⟩
        show (if k' = k' ∧ m = xs'.length then some u' else g.ι k' m) = none
        rw [if_neg (by omega)]
        exact hfr m (by rcases hlen with h | ⟨h, _⟩ <;> omega)
      · obtain ⟨h0, v, hv, h3, h4, h5⟩ := hw.rep.own k' sz' xs' hy
        refine ⟨h0, v, (old _ hy e).trans hv, h3.mono hle, h4.kept fun b hvb => keep b (hw.rep.own_lt hy hv hvb) ?_, fun m hm => ?_⟩
        · exact fun h => hw.rep.sep (k, sz, xs) hx _ hy (fun h => e h.symm) u v hu hv b h hvb
        · simp only [if_neg (show ¬ (k' = k ∧ m = zs.length) from fun h => e h.1)]
          exact h5 m hm
    · rw [List.map_map]
      have : (Prod.fst ∘ repl k sz zs) = Prod.fst := funext fun x => repl_fst x
      rw [this]; exact hw.rep.tags
    · rcases cases_ _ hx1 with rfl | ⟨hy, e⟩ <;> rcases cases_ _ hy1 with rfl | ⟨hy', e'⟩
      · exact absurd rfl hne
      · simp at h1; subst h1
        have h2' := (old _ hy' e').symm.trans h2
        exact fun h => sep0 y1 hy' e' u2 h2' b h hb1
      · simp at h2; subst h2
        exact sep0 x1 hy e u1 ((old _ hy e).symm.trans h1) b hb1
      · exact hw.rep.sep x1 hy y1 hy' hne u1 u2 ((old _ hy e).symm.trans h1) ((old _ hy' e').symm.trans h2) b hb1
    · rcases cases_ _ hx1 with rfl | ⟨hy, e⟩
      · simp at h1; subst h1
        rcases hb b hb1 with h | h
        · exact hw.rep.ownObj _ hx u hu b h i cs hi
        · have := hw.rep.obj_lt hi
          intro h'; simp only at h'; omega
      · exact hw.rep.ownObj x1 hy u1 ((old _ hy e).symm.trans h1) b hb1 i cs hi
    · have hne : ¬ (k' = k) := fun e => hk' (k, sz, zs) (List.mem_map.2 ⟨_, hx, by simp [repl]⟩) e.symm
      simp only [if_neg (show ¬ (k' = k ∧ m = zs.length) from fun h => hne h.1)]
      refine hw.rep.fresh k' (fun y hy e => ?_) m
      have := hk' (repl k sz zs y) (List.mem_map.2 ⟨y, hy, rfl⟩)
      rw [repl_fst] at this
      exact this e
  · intro x1 hx1 u1 h1 b hb1
    rcases cases_ _ hx1 with rfl | ⟨hy, e⟩
    · simp at h1; subst h1
      rcases hb b hb1 with h | h
      · exact hw.owns _ hx u hu b h
      · exact .inl (Nat.le_trans hw.size h)
    · exact hw.owns x1 hy u1 ((old _ hy e).symm.trans h1) b hb1

/-- cells of a new block, known from now on -/
def addM (M : Mem) (b : Nat) (us : List Value) : Mem := fun b' o => if b' = b then us[o]? else M b' o

theorem addM_le {g : Gh} {σ : St} {w : World} (h : WRep g σ w) {b : Nat} (hb : w.heap.size ≤ b) (us : List Value) : g.M.le (addM g.M b us) := fun b' o v hm => by
  have := h.mem_lt hm
  simp only [addM, if_neg (show ¬ b' = b by omega)]; exact hm

theorem addM_in (M : Mem) (b : Nat) (us : List Value) : inM (addM M b us) b 0 us := fun j v hj => by simp [addM, hj]

theorem addM_other {M : Mem} {b b' : Nat} {us : List Value} (h : b' ≠ b) (o : Nat) : addM M b us b' o = M b' o := by simp [addM, h]

/-- a new block whose first cells are known from now on -/
theorem WI.newImm {E : Ent} {g : Gh} {σ : St} {w : World} (hw : WI E g σ w) (us rest : List Value) (e : TypeId) :
    WI E { g with M := addM g.M w.heap.size us } σ (w.alloc (.cells (us ++ rest).toArray e)) ∧ g.le { g with M := addM g.M w.heap.size us } := by
  refine ⟨hw.grow (addM_le hw.rep (Nat.le_refl _) us) (fun b hb => ⟨heap_alloc_old w _ b hb, addM_other (Nat.ne_of_lt hb)⟩) (fun b o v hm => ?_) (by simp) rfl rfl rfl, ⟨addM_le hw.rep (Nat.le_refl _) us, Nat.le_refl _, fun _ _ => rfl, fun _ _ _ h => h, fun _ _ => rfl⟩⟩
  unfold addM at hm
  split at hm
  · rename_i e; subst e
    rw [World.cell?_alloc_new]
    have hlt := (List.getElem?_eq_some_iff.1 hm).1
    simp [List.getElem?_append_left hlt, hm]
  · exact cell_alloc w _ (hw.rep.mem b o v hm)

theorem repE_append {M : Mem} {sz : Nat} : ∀ {xs ys : List V} {us vs : List Value}, repE M sz xs us → repE M sz ys vs → repE M sz (xs ++ ys) (us ++ vs)
  | [], ys, us, vs, h, h' => by simp only [repE] at h; simpa [h] using h'
  | x :: xs, ys, us, vs, h, h' => by
    simp only [repE] at h
    obtain ⟨u1, u2, rfl, hl, h1, h2⟩ := h
    simp only [List.cons_append, repE]
    exact ⟨u1, u2 ++ vs, by simp, hl, h1, repE_append h2 h'⟩

theorem repE_oneCell {M : Mem} {sz : Nat} : ∀ {xs : List V} {us : List Value}, repE M sz xs us → ∀ u ∈ us, u.oneCell' = true
  | [], us, h => by simp only [repE] at h; simp [h]
  | x :: xs, us, h => by
    simp only [repE] at h
    obtain ⟨u1, u2, rfl, hl, h1, h2⟩ := h
    intro u hu
    rcases List.mem_append.1 hu with hu | hu
    · exact repC_oneCell h1 u hu
    · exact repE_oneCell h2 u hu

/-- the cells of a list of elements of sz cells -/
theorem repV_list_cells {M : Mem} {xs : List V} {u : Value} {sz : Nat} (h : repV M (.list xs) u) (hs : ∀ x ∈ xs, x.size = sz) (hsz : 0 < sz) :
    ∃ a cap, u = .slice a xs.length cap ∧ xs.length ≤ cap ∧ (xs = [] ∨ ∃ b off us, a = some ⟨b, off, none⟩ ∧ inM M b off us ∧ repE M sz xs us) := by
  rw [repV_list] at h
  obtain ⟨a, cap, e, hc, h⟩ := h
  refine ⟨a, cap, e, hc, ?_⟩
  rcases h with h | ⟨b, off, sz', us, ha, hsz', hi, hr⟩
  · exact .inl h
  · cases xs with
    | nil => exact .inl rfl
    | cons x xs =>
      have hx := hs x (by simp)
      have : sz' = sz := by
        obtain ⟨u1, h1, h2, _⟩ := repE_get hr (i := 0) (x := x) (by simp)
        rw [← h2, repC_length h1, hx]
      subst this
      exact .inr ⟨b, off, us, ha, hi, hr⟩

theorem repV_of_cells {M : Mem} {xs : List V} {b f sz cap : Nat} {us : List Value} (hsz : 0 < sz) (hi : inM M b f us) (hr : repE M sz xs us) (hc : xs.length ≤ cap) : repV M (.list xs) (.slice (some ⟨b, f, none⟩) xs.length cap) := by
  rw [repV_list]
  exact ⟨_, cap, rfl, hc, .inr ⟨b, f, sz, us, rfl, hsz, hi, hr⟩⟩

section
variable {P : Program} {o : Oper} {σ : St} {d : D}

theorem fill_all (s : Nat) : ∀ (vs : List Value) (i0 : Nat) (pre rest : List Value), pre.length = i0 * s → (∀ v ∈ vs, v.cells.size = s) → rest.length = vs.length * s →
    Instr.fill (fun i => some (i * s, s)) (pre ++ rest).toArray ((vs.zipIdx i0).map fun x => (x.2, x.1)) = some (pre ++ vs.flatMap (·.cells.toList)).toArray
  | [], i0, pre, rest, _, _, hr => by
    have : rest = [] := List.eq_nil_of_length_eq_zero (by simpa using hr)
    subst this; simp [Instr.fill]
  | v :: vs, i0, pre, rest, hp, hv, hr => by
    have hvs := hv v (by simp)
    have hr' : rest.length = s + vs.length * s := by rw [hr, List.length_cons, Nat.add_mul, Nat.one_mul, Nat.add_comm]
    have hsp := splice (i0 * s) v.cells.toList (pre ++ rest).toArray (by simp only [List.size_toArray, List.length_append, Array.length_toList]; omega)
    simp only [Array.length_toList, hvs] at hsp
    have e1 : (pre ++ rest).take (i0 * s) = pre := by rw [← hp]; simp
    have e2 : (pre ++ rest).drop (i0 * s + s) = rest.drop s := by rw [← hp]; simp
    simp only [e1, e2] at hsp
    have ih := fill_all s vs (i0 + 1) (pre ++ v.cells.toList) (rest.drop s) (by simp [hp, hvs, Nat.add_mul]) (fun x hx => hv x (by simp [hx])) (by simp; omega)
    simp only [List.zipIdx_cons, List.map_cons]
    unfold Instr.fill
    simp only [hvs]
    rw [if_neg (by simp; omega)]
    have e3 : (v.cells.zipIdx.foldl (fun cs (x : Value × Nat) => cs.setIfInBounds (i0 * s + x.2) x.1) (pre ++ rest).toArray) = (pre ++ v.cells.toList ++ rest.drop s).toArray := by
      rw [← Array.foldl_toList, Array.toList_zipIdx]
      apply Array.ext'
      rw [hsp]
    rw [e3, ih]
    simp

theorem toVs_vals {g : Gh} {sz : Nat} : ∀ {ds : List D} {xs : List V} {us : List Value}, toVs ds = some xs → repDs g ds us → (∀ x ∈ xs, x.size = sz) → repE g.M sz xs (us.flatMap (·.cells.toList)) ∧ (∀ v ∈ us, v.cells.size = sz)
  | [], xs, us, h, hr, _ => by simp [toVs] at h; subst h; simp only [repDs] at hr; subst hr; simp [repE]
  | d :: ds, xs, us, h, hr, hs => by
    simp only [toVs] at h
    split at h
    · rename_i x xs' hx hxs
      simp at h; subst h
      simp only [repDs] at hr
      obtain ⟨u, us', rfl, h2, h3⟩ := hr
      have hv := toV_rep hx h2
      obtain ⟨_, hsz⟩ := repV_cellsV hv
      obtain ⟨h4, h5⟩ := toVs_vals hxs h3 (fun y hy => hs y (by simp [hy]))
      have hu : u.cells.size = sz := hsz.trans (hs x (by simp))
      refine ⟨?_, ?_⟩
      · simp only [List.flatMap_cons, repE]
        exact ⟨_, _, rfl, by simpa using hu, repV_cells hv, h4⟩
      · intro v hv'
        rcases List.mem_cons.1 hv' with rfl | h
        · exact hu
        · exact h5 v h
    · simp at h

theorem toVs_length : ∀ {ds : List D} {xs : List V}, toVs ds = some xs → xs.length = ds.length
  | [], xs, h => by simp [toVs] at h; simp [← h]
  | d :: ds, xs, h => by
    simp only [toVs] at h
    split at h
    · rename_i x xs' hx hxs
      simp at h; subst h
      simp [toVs_length hxs]
    · simp at h

/-- a slice literal with all its elements written -/
theorem op_buildSlice {t : TypeId} {len : Nat} {parts : Array (Nat × Operand)} (ho : o.op = .buildSlice t len parts) (hp : parts.toList = ((parts.toList.map (·.2)).zipIdx 0).map fun x => (x.2, x.1)) (hlen : parts.size = len)
    {e : TypeId} {sz by' : Nat} {z : Option Value} (hs : slTy P t = some (e, sz, by', z)) (hz : z.isSome = true) {ds : List D} {xs : List V} (hx : toVs ds = some xs) (hsz : ∀ x ∈ xs, x.size = sz) (h0 : 0 < len) (h1 : 0 < sz) (h2 : len * sz ≤ 1000) :
    OpOK P o ds σ (.v (.list xs)) σ := by
  intro E g a w K Q hw hds hK
  simp only [ho, Op.operands] at hds
  obtain ⟨i, hu, hi, rfl, rfl, rfl⟩ := slTy_parts hs
  obtain ⟨zz, hzz⟩ := Option.isSome_iff_exists.1 hz
  have hlm : (parts.toList.map fun p => a.eval p.2).length = len := by simp [hlen]
  have hds' : repDs g ds (parts.toList.map fun p => a.eval p.2) := by simpa [Function.comp_def] using hds
  obtain ⟨hr, hcs⟩ := toVs_vals hx hds' hsz
  have hxl : xs.length = len := by rw [toVs_length hx, ← repDs_length hds', hlm]
  have hpos : 0 < len * i.size := Nat.mul_pos h0 h1
  have hf := fill_all i.size (parts.toList.map fun p => a.eval p.2) 0 [] ((Array.range (len * i.size)).map (zz.cells[· % zz.cells.size]!)).toList (by simp) hcs (by simp [hlen])
  have hpp : ((parts.toList.map fun p => a.eval p.2).zipIdx 0).map (fun x => (x.2, x.1)) = parts.toList.map fun p => (p.1, a.eval p.2) := by
    have e1 : (parts.toList.map fun p => a.eval p.2) = (parts.toList.map (·.2)).map a.eval := by simp
    rw [e1, List.zipIdx_map, List.map_map]
    conv => rhs; rw [hp, List.map_map]
    rfl
  rw [hpp] at hf
  simp only [List.nil_append, Array.toArray_toList] at hf
  have hrun := run_buildSlice (P := P) w t e len (parts.map fun p => (p.1, a.eval p.2)) _ i zz hu hi hzz (by omega) (by omega) (by simpa using hf)
  obtain ⟨hw', hle⟩ := hw.newImm ((parts.toList.map fun p => a.eval p.2).flatMap (·.cells.toList)) [] e
  rw [List.append_nil] at hw'
  have := hK _ _ (.slice (some ⟨w.heap.size, 0, none⟩) len len) hw' hle (by
    simp only [repD]
    have := repV_of_cells (cap := len) h1 (addM_in g.M w.heap.size _) (repE.mono hle.M _ _ _ hr) (by omega)
    rw [hxl] at this
    exact this)
  unfold Oper.wp execOp
  simp only [ho]
  simp only [Sem.run_bind]
  rw [show (parts.map fun (x : Nat × Operand) => match x with | (i, x) => (i, a.eval x)) = parts.map fun p => (p.1, a.eval p.2) from rfl, hrun]
  exact this

/-- an empty slice literal -/
theorem op_buildSlice0 {t : TypeId} {parts : Array (Nat × Operand)} (ho : o.op = .buildSlice t 0 parts) (hp : parts = #[]) {e : TypeId} {sz by' : Nat} {z : Option Value} (hs : slTy P t = some (e, sz, by', z)) :
    OpOK P o [] σ (.v (.list [])) σ := by
  intro E g a w K Q hw hds hK
  obtain ⟨i, hu, hi, rfl, rfl, rfl⟩ := slTy_parts hs
  subst hp
  have := hK g _ (.slice (some ⟨w.heap.size, 0, none⟩) 0 0) (hw.alloc (.cells #[] e)) g.le_refl (by
    simp only [repD]; rw [repV_list]; exact ⟨_, 0, rfl, Nat.le_refl _, .inl rfl⟩)
  unfold Oper.wp execOp
  simpa [ho, Instr.buildSlice, run_underlying hu, sizeOf, typeInfo, hi, Instr.fill, newRow, Oper.upon, show Array.range 0 = #[] from rfl] using this

/-- a nil slice as the beginning of an owned list -/
theorem op_nilOwn (ho : o.op = .assign (.const (.slice none 0 0)) ∨ o.op = .move (.const (.slice none 0 0))) (k sz : Nat) (hk : ∀ y ∈ σ.own, y.1 ≠ k) (hsz : 0 < sz) :
    OpOK P o [.v (.list [])] σ (.acc k []) ⟨σ.H, (k, sz, []) :: σ.own⟩ := by
  intro E g a w K Q hw hds hK
  obtain ⟨hw', hle⟩ := hw.addOwn (k := k) (sz := sz) (xs := []) (u := .slice none 0 0) hk ⟨hsz, by simp⟩ (repV_nil _) (.inl ⟨none, rfl⟩) (fun b hb => by simp [ownB] at hb)
  have := hK _ w (.slice none 0 0) hw' hle (by simp only [repD]; exact ⟨repV_nil _, by simp⟩)
  unfold Oper.wp execOp
  rcases ho with ho | ho <;> simpa [ho, Act.eval, Oper.upon] using this

end
end Go.Dv
