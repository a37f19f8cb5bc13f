/-
  A layer over the model's calls: how pure data (V) and slot values (D) lie in memory. Definitions and their monotony. No program is named here.
-/
import Derived.Calls
import Derived.Laws.AppendOwn
import Derived.Laws.MakeOwn
import Derived.Laws.Slices
import Derived.Laws.Rows
namespace Go.Dv

/-- pure data: what lies in memory that never changes again -/
inductive V where
  | int (k : IntKind) (n : Int)
  | bool (b : Bool)
  | str (s : List UInt8)
  | list (xs : List V)
  | agg (cs : List V)
  | ref (x : V)
  | fn (f : FuncId) (fs cs : List V)
  | nilfn
  | nilp
  | nils
  deriving Inhabited

def V.isAgg : V → Bool
  | .agg _ => true
  | _ => false

/-- how many cells -/
def V.size : V → Nat
  | .agg cs => cs.length
  | _ => 1

abbrev Mem := Nat → Nat → Option Value

def inM (M : Mem) (b off : Nat) (ws : List Value) : Prop := ∀ j v, ws[j]? = some v → M b (off + j) = some v

def mkVal : V → List Value → Value
  | .agg _, ws => .agg ws.toArray
  | _, ws => ws.headD (.tuple #[])

mutual
def repC (M : Mem) : V → List Value → Prop
  | .int k n, ws => ws = [.int k n]
  | .bool b, ws => ws = [.bool b]
  | .str s, ws => ws = [.string ⟨s.toArray⟩]
  | .list xs, ws => ∃ a cap, ws = [.slice a xs.length cap] ∧ xs.length ≤ cap ∧ (xs = [] ∨ ∃ b off sz us, a = some ⟨b, off, none⟩ ∧ 0 < sz ∧ inM M b off us ∧ repE M sz xs us)
  | .agg cs, ws => repA M cs ws
  | .ref x, ws => ∃ b off us, ws = [.pointer (some ⟨b, off, none⟩)] ∧ inM M b off us ∧ repC M x us
  | .fn f fs cs, ws => ∃ us vs, ws = [.func (.func f) us.toArray vs.toArray] ∧ repL M fs us ∧ repL M cs vs
  | .nilfn, ws => ws = [.nilFunc]
  | .nilp, ws => ws = [.pointer none]
  | .nils, ws => ws = [.slice none 0 0]
def repE (M : Mem) (sz : Nat) : List V → List Value → Prop
  | [], us => us = []
  | x :: xs, us => ∃ u1 u2, us = u1 ++ u2 ∧ u1.length = sz ∧ repC M x u1 ∧ repE M sz xs u2
def repA (M : Mem) : List V → List Value → Prop
  | [], us => us = []
  | c :: cs, us => ∃ u us', us = u :: us' ∧ c.isAgg = false ∧ repC M c [u] ∧ repA M cs us'
def repL (M : Mem) : List V → List Value → Prop
  | [], us => us = []
  | x :: xs, us => ∃ u us' ws, us = u :: us' ∧ repC M x ws ∧ u = mkVal x ws ∧ repL M xs us'
end

def repV (M : Mem) (x : V) (u : Value) : Prop := ∃ ws, repC M x ws ∧ u = mkVal x ws

def Mem.le (M M' : Mem) : Prop := ∀ b o v, M b o = some v → M' b o = some v

theorem Mem.le_refl (M : Mem) : M.le M := fun _ _ _ h => h
theorem Mem.le_trans {M M' M'' : Mem} (h : M.le M') (h' : M'.le M'') : M.le M'' := fun b o v e => h' b o v (h b o v e)

theorem inM.mono {M M' : Mem} {b off : Nat} {ws : List Value} (hm : M.le M') (h : inM M b off ws) : inM M' b off ws := fun j v e => hm _ _ _ (h j v e)

mutual
theorem repC.mono {M M' : Mem} (hm : M.le M') : ∀ (x : V) (ws : List Value), repC M x ws → repC M' x ws
  | .int k n, ws, h => h
  | .bool b, ws, h => h
  | .str s, ws, h => h
  | .list xs, ws, h => by
    simp only [repC] at h ⊢
    obtain ⟨a, cap, e, hc, h⟩ := h
    refine ⟨a, cap, e, hc, ?_⟩
    rcases h with h | ⟨b, off, sz, us, ha, hs, hi, he⟩
    · exact .inl h
    · exact .inr ⟨b, off, sz, us, ha, hs, hi.mono hm, repE.mono hm sz xs us he⟩
  | .agg cs, ws, h => by simp only [repC] at h ⊢; exact repA.mono hm cs ws h
  | .ref x, ws, h => by
    simp only [repC] at h ⊢
    obtain ⟨b, off, us, e, hi, hx⟩ := h
    exact ⟨b, off, us, e, hi.mono hm, repC.mono hm x us hx⟩
  | .fn f fs cs, ws, h => by
    simp only [repC] at h ⊢
    obtain ⟨us, vs, e, h1, h2⟩ := h
    exact ⟨us, vs, e, repL.mono hm fs us h1, repL.mono hm cs vs h2⟩
  | .nilfn, ws, h => h
  | .nilp, ws, h => h
  | .nils, ws, h => h
theorem repE.mono {M M' : Mem} (hm : M.le M') (sz : Nat) : ∀ (xs : List V) (us : List Value), repE M sz xs us → repE M' sz xs us
  | [], us, h => h
  | x :: xs, us, h => by
    simp only [repE] at h ⊢
    obtain ⟨u1, u2, e, hl, h1, h2⟩ := h
    exact ⟨u1, u2, e, hl, repC.mono hm x u1 h1, repE.mono hm sz xs u2 h2⟩
theorem repA.mono {M M' : Mem} (hm : M.le M') : ∀ (cs : List V) (us : List Value), repA M cs us → repA M' cs us
  | [], us, h => h
  | c :: cs, us, h => by
    simp only [repA] at h ⊢
    obtain ⟨u, us', e, ha, h1, h2⟩ := h
    exact ⟨u, us', e, ha, repC.mono hm c [u] h1, repA.mono hm cs us' h2⟩
theorem repL.mono {M M' : Mem} (hm : M.le M') : ∀ (xs : List V) (us : List Value), repL M xs us → repL M' xs us
  | [], us, h => h
  | x :: xs, us, h => by
    simp only [repL] at h ⊢
    obtain ⟨u, us', ws, e, h1, h2, h3⟩ := h
    exact ⟨u, us', ws, e, repC.mono hm x ws h1, h2, repL.mono hm xs us' h3⟩
end

theorem repV.mono {M M' : Mem} (hm : M.le M') {x : V} {u : Value} (h : repV M x u) : repV M' x u :=
  let ⟨ws, h1, h2⟩ := h; ⟨ws, repC.mono hm x ws h1, h2⟩

theorem repA_length {M : Mem} : ∀ {cs : List V} {us : List Value}, repA M cs us → us.length = cs.length
  | [], us, h => by simp only [repA] at h; simp [h]
  | c :: cs, us, h => by
    simp only [repA] at h
    obtain ⟨u, us', rfl, _, _, h2⟩ := h
    simp [repA_length h2]

theorem repL_length {M : Mem} : ∀ {cs : List V} {us : List Value}, repL M cs us → us.length = cs.length
  | [], us, h => by simp only [repL] at h; simp [h]
  | c :: cs, us, h => by
    simp only [repL] at h
    obtain ⟨u, us', ws, rfl, _, _, h2⟩ := h
    simp [repL_length h2]

theorem repC_length {M : Mem} : ∀ {x : V} {ws : List Value}, repC M x ws → ws.length = x.size
  | .int k n, ws, h => by simp only [repC] at h; simp [h, V.size]
  | .bool b, ws, h => by simp only [repC] at h; simp [h, V.size]
  | .str s, ws, h => by simp only [repC] at h; simp [h, V.size]
  | .list xs, ws, h => by simp only [repC] at h; obtain ⟨a, cap, e, _⟩ := h; simp [e, V.size]
  | .agg cs, ws, h => by simp only [repC] at h; simpa [V.size] using repA_length h
  | .ref x, ws, h => by simp only [repC] at h; obtain ⟨b, off, us, e, _⟩ := h; simp [e, V.size]
  | .fn f fs cs, ws, h => by simp only [repC] at h; obtain ⟨us, vs, e, _⟩ := h; simp [e, V.size]
  | .nilfn, ws, h => by simp only [repC] at h; simp [h, V.size]
  | .nilp, ws, h => by simp only [repC] at h; simp [h, V.size]
  | .nils, ws, h => by simp only [repC] at h; simp [h, V.size]

/-- a value that is no struct or array is one cell -/
theorem repC_one {M : Mem} {x : V} {ws : List Value} (hx : x.isAgg = false) (h : repC M x ws) : ∃ u, ws = [u] ∧ mkVal x ws = u ∧ u.oneCell' = true := by
  cases x with
  | int k n => simp only [repC] at h; exact ⟨_, h, by simp [mkVal, h], rfl⟩
  | bool b => simp only [repC] at h; exact ⟨_, h, by simp [mkVal, h], rfl⟩
  | str s => simp only [repC] at h; exact ⟨_, h, by simp [mkVal, h], rfl⟩
  | list xs => simp only [repC] at h; obtain ⟨a, cap, e, _⟩ := h; exact ⟨_, e, by simp [mkVal, e], rfl⟩
  | agg cs => simp [V.isAgg] at hx
  | ref x => simp only [repC] at h; obtain ⟨b, off, us, e, _⟩ := h; exact ⟨_, e, by simp [mkVal, e], rfl⟩
  | fn f fs cs => simp only [repC] at h; obtain ⟨us, vs, e, _⟩ := h; exact ⟨_, e, by simp [mkVal, e], rfl⟩
  | nilfn => simp only [repC] at h; exact ⟨_, h, by simp [mkVal, h], rfl⟩
  | nilp => simp only [repC] at h; exact ⟨_, h, by simp [mkVal, h], rfl⟩
  | nils => simp only [repC] at h; exact ⟨_, h, by simp [mkVal, h], rfl⟩

theorem repV_one {M : Mem} {x : V} {u : Value} (hx : x.isAgg = false) : repV M x u ↔ repC M x [u] := by
  constructor
  · rintro ⟨ws, h, e⟩
    obtain ⟨u', e1, e2, _⟩ := repC_one hx h
    rw [e, e2, ← e1]; exact h
  · intro h
    obtain ⟨u', e1, e2, _⟩ := repC_one hx h
    have : u = u' := by simpa using e1
    exact ⟨[u], h, by rw [e2, this]⟩

@[simp] theorem repV_int {M : Mem} {k : IntKind} {n : Int} {u : Value} : repV M (.int k n) u ↔ u = .int k n := by rw [repV_one rfl]; simp [repC]
@[simp] theorem repV_bool {M : Mem} {b : Bool} {u : Value} : repV M (.bool b) u ↔ u = .bool b := by rw [repV_one rfl]; simp [repC]
@[simp] theorem repV_str {M : Mem} {s : List UInt8} {u : Value} : repV M (.str s) u ↔ u = .string ⟨s.toArray⟩ := by rw [repV_one rfl]; simp [repC]
@[simp] theorem repV_nilfn {M : Mem} {u : Value} : repV M .nilfn u ↔ u = .nilFunc := by rw [repV_one rfl]; simp [repC]
@[simp] theorem repV_nils {M : Mem} {u : Value} : repV M .nils u ↔ u = .slice none 0 0 := by rw [repV_one rfl]; simp [repC]
@[simp] theorem repV_nilp {M : Mem} {u : Value} : repV M .nilp u ↔ u = .pointer none := by rw [repV_one rfl]; simp [repC]
theorem repV_list {M : Mem} {xs : List V} {u : Value} : repV M (.list xs) u ↔ ∃ a cap, u = .slice a xs.length cap ∧ xs.length ≤ cap ∧ (xs = [] ∨ ∃ b off sz us, a = some ⟨b, off, none⟩ ∧ 0 < sz ∧ inM M b off us ∧ repE M sz xs us) := by
  rw [repV_one rfl]; simp [repC]
theorem repV_nil (M : Mem) : repV M (.list []) (.slice none 0 0) := by rw [repV_list]; exact ⟨none, 0, rfl, Nat.le_refl _, .inl rfl⟩
theorem repV_ref {M : Mem} {x : V} {u : Value} : repV M (.ref x) u ↔ ∃ b off us, u = .pointer (some ⟨b, off, none⟩) ∧ inM M b off us ∧ repC M x us := by rw [repV_one rfl]; simp [repC]
theorem repV_fn {M : Mem} {f : FuncId} {fs cs : List V} {u : Value} : repV M (.fn f fs cs) u ↔ ∃ us vs, u = .func (.func f) us.toArray vs.toArray ∧ repL M fs us ∧ repL M cs vs := by rw [repV_one rfl]; simp [repC]
theorem repV_agg {M : Mem} {cs : List V} {u : Value} : repV M (.agg cs) u ↔ ∃ ws, repA M cs ws ∧ u = .agg ws.toArray := by simp [repV, repC, mkVal]

theorem repV_oneCell {M : Mem} {x : V} {u : Value} (hx : x.isAgg = false) (h : repV M x u) : u.oneCell' = true := by
  obtain ⟨ws, h, e⟩ := h
  obtain ⟨u', e1, e2, h3⟩ := repC_one hx h
  rw [e, e2]; exact h3

theorem repV_cells {M : Mem} {x : V} {u : Value} (h : repV M x u) : repC M x u.cells.toList := by
  obtain ⟨ws, h, e⟩ := h
  cases hx : x.isAgg with
  | false =>
    obtain ⟨u', e1, e2, h3⟩ := repC_one hx h
    rw [e, e2]
    have : u'.cells = #[u'] := by cases u' <;> simp_all [Value.cells, Value.oneCell']
    rw [this, ← e1]; exact h
  | true =>
    cases x with
    | agg cs => rw [e]; simpa [mkVal, Value.cells] using h
    | _ => simp [V.isAgg] at hx

/-- every cell of a datum is one cell -/
theorem repA_oneCell {M : Mem} : ∀ {cs : List V} {us : List Value}, repA M cs us → ∀ u ∈ us, u.oneCell' = true
  | [], us, h => by simp only [repA] at h; simp [h]
  | c :: cs, us, h => by
    simp only [repA] at h
    obtain ⟨u, us', rfl, ha, h1, h2⟩ := h
    intro u0 hu
    rcases List.mem_cons.1 hu with rfl | hu
    · obtain ⟨u', e1, _, h3⟩ := repC_one ha h1
      have : u0 = u' := by simpa using e1
      rw [this]; exact h3
    · exact repA_oneCell h2 u0 hu

theorem repC_oneCell {M : Mem} {x : V} {us : List Value} (h : repC M x us) : ∀ u ∈ us, u.oneCell' = true := by
  cases hx : x.isAgg with
  | false =>
    obtain ⟨u', e1, _, h3⟩ := repC_one hx h
    rw [e1]; intro u hu; simp at hu; rw [hu]; exact h3
  | true =>
    cases x with
    | agg cs => simp only [repC] at h; exact repA_oneCell h
    | _ => simp [V.isAgg] at hx

/- SLOT VALUES -/
inductive D where
  | v (x : V)
  | acc (k : Nat) (xs : List V)
  | ptr (o off : Nat)
  | arr (o off len : Nat)
  | gro (o len sz : Nat)
  | raw (x : Value)
  | rv (x : V) (u : Value)
  | dagg (cs : List D)
  | dfn (f : FuncId) (fs cs : List D)
  | tup (ds : List D)
  | undef
  deriving Inhabited

/-- what the run knows beside the world: M (cells that never change again), where the local objects lie, the headers of owned lists by tag and length -/
structure Gh where
  M : Mem
  β : Nat → Nat
  n : Nat
  ι : Nat → Nat → Option Value
  κ : Nat → Nat

mutual
def repD (g : Gh) : D → Value → Prop
  | .v x, u => repV g.M x u
  | .acc k xs, u => repV g.M (.list xs) u ∧ g.ι k xs.length = some u
  | .ptr o off, u => o < g.n ∧ u = .pointer (some ⟨g.β o, off, none⟩)
  | .arr o off len, u => o < g.n ∧ ∃ cap, len ≤ cap ∧ u = .slice (some ⟨g.β o, off, none⟩) len cap
  | .gro o len sz, u => o < g.n ∧ ∃ cap, len ≤ cap ∧ cap * sz = g.κ o ∧ u = .slice (some ⟨g.β o, 0, none⟩) len cap
  | .raw x, u => u = x
  | .rv x u0, u => u = u0 ∧ repV g.M x u0
  | .dagg cs, u => ∃ us, u = .agg us.toArray ∧ repDs g cs us
  | .dfn f fs cs, u => ∃ us vs, u = .func (.func f) us.toArray vs.toArray ∧ repDs g fs us ∧ repDs g cs vs
  | .tup ds, u => ∃ us, u = .tuple us.toArray ∧ repDs g ds us
  | .undef, _ => True
def repDs (g : Gh) : List D → List Value → Prop
  | [], us => us = []
  | d :: ds, us => ∃ u us', us = u :: us' ∧ repD g d u ∧ repDs g ds us'
end

structure Gh.le (g g' : Gh) : Prop where
  M : g.M.le g'.M
  n : g.n ≤ g'.n
  β : ∀ o, o < g.n → g'.β o = g.β o
  ι : ∀ k m u, g.ι k m = some u → g'.ι k m = some u
  κ : ∀ o, o < g.n → g'.κ o = g.κ o

theorem Gh.le_refl (g : Gh) : g.le g := ⟨g.M.le_refl, Nat.le_refl _, fun _ _ => rfl, fun _ _ _ h => h, fun _ _ => rfl⟩
theorem Gh.le_trans {g g' g'' : Gh} (h : g.le g') (h' : g'.le g'') : g.le g'' :=
  ⟨Mem.le_trans h.M h'.M, Nat.le_trans h.n h'.n, fun o ho => (h'.β o (Nat.lt_of_lt_of_le ho h.n)).trans (h.β o ho), fun k m u e => h'.ι k m u (h.ι k m u e), fun o ho => (h'.κ o (Nat.lt_of_lt_of_le ho h.n)).trans (h.κ o ho)⟩

mutual
theorem repD.mono {g g' : Gh} (hg : g.le g') : ∀ (d : D) (u : Value), repD g d u → repD g' d u
  | .v x, u, h => by simp only [repD] at h ⊢; exact h.mono hg.M
  | .acc k xs, u, h => by simp only [repD] at h ⊢; exact ⟨h.1.mono hg.M, hg.ι _ _ _ h.2⟩
  | .ptr o off, u, h => by simp only [repD] at h ⊢; exact ⟨Nat.lt_of_lt_of_le h.1 hg.n, by rw [hg.β o h.1]; exact h.2⟩
  | .arr o off len, u, h => by simp only [repD] at h ⊢; exact ⟨Nat.lt_of_lt_of_le h.1 hg.n, by rw [hg.β o h.1]; exact h.2⟩
  | .gro o len sz, u, h => by simp only [repD] at h ⊢; exact ⟨Nat.lt_of_lt_of_le h.1 hg.n, by rw [hg.β o h.1, hg.κ o h.1]; exact h.2⟩
  | .raw x, u, h => by simpa only [repD] using h
  | .rv x u0, u, h => by simp only [repD] at h ⊢; exact ⟨h.1, h.2.mono hg.M⟩
  | .dagg cs, u, h => by
    simp only [repD] at h ⊢
    obtain ⟨us, e, h1⟩ := h
    exact ⟨us, e, repDs.mono hg cs us h1⟩
  | .dfn f fs cs, u, h => by
    simp only [repD] at h ⊢
    obtain ⟨us, vs, e, h1, h2⟩ := h
    exact ⟨us, vs, e, repDs.mono hg fs us h1, repDs.mono hg cs vs h2⟩
  | .tup ds, u, h => by
    simp only [repD] at h ⊢
    obtain ⟨us, e, h1⟩ := h
    exact ⟨us, e, repDs.mono hg ds us h1⟩
  | .undef, u, _ => by simp only [repD]
theorem repDs.mono {g g' : Gh} (hg : g.le g') : ∀ (ds : List D) (us : List Value), repDs g ds us → repDs g' ds us
  | [], us, h => by simpa only [repDs] using h
  | d :: ds, us, h => by
    simp only [repDs] at h ⊢
    obtain ⟨u, us', e, h1, h2⟩ := h
    exact ⟨u, us', e, repD.mono hg d u h1, repDs.mono hg ds us' h2⟩
end

theorem repDs_length {g : Gh} : ∀ {ds : List D} {us : List Value}, repDs g ds us → us.length = ds.length
  | [], us, h => by simp only [repDs] at h; simp [h]
  | d :: ds, us, h => by
    simp only [repDs] at h
    obtain ⟨u, us', rfl, _, h2⟩ := h
    simp [repDs_length h2]

theorem repDs_get {g : Gh} : ∀ {ds : List D} {us : List Value}, repDs g ds us → ∀ {i : Nat} {d : D}, ds[i]? = some d → ∃ u, us[i]? = some u ∧ repD g d u
  | [], us, h, i, d, hd => by simp at hd
  | d :: ds, us, h, i, d', hd => by
    simp only [repDs] at h
    obtain ⟨u, us', rfl, h1, h2⟩ := h
    cases i with
    | zero => simp at hd; subst hd; exact ⟨u, by simp, h1⟩
    | succ i => simp at hd; obtain ⟨u', e, h3⟩ := repDs_get h2 hd; exact ⟨u', by simpa using e, h3⟩

theorem repDs_set {g : Gh} : ∀ {ds : List D} {us : List Value}, repDs g ds us → ∀ (i : Nat) {d : D} {u : Value}, repD g d u → repDs g (ds.set i d) (us.set i u)
  | [], us, h, i, d, u, _ => by simp only [repDs] at h; simp [h, repDs]
  | d0 :: ds, us, h, i, d, u, hd => by
    simp only [repDs] at h
    obtain ⟨u0, us', rfl, h1, h2⟩ := h
    cases i with
    | zero => simp only [List.set_cons_zero, repDs]; exact ⟨u, us', rfl, hd, h2⟩
    | succ i => simp only [List.set_cons_succ, repDs]; exact ⟨u0, _, rfl, h1, repDs_set h2 i hd⟩

theorem repDs_append {g : Gh} : ∀ {ds ds' : List D} {us us' : List Value}, repDs g ds us → repDs g ds' us' → repDs g (ds ++ ds') (us ++ us')
  | [], ds', us, us', h, h' => by simp only [repDs] at h; simpa [h] using h'
  | d :: ds, ds', us, us', h, h' => by
    simp only [repDs] at h
    obtain ⟨u, us1, rfl, h1, h2⟩ := h
    simp only [List.cons_append, repDs]
    exact ⟨u, _, rfl, h1, repDs_append h2 h'⟩

theorem get_app {α : Type} {l r : List α} {i : Nat} {x : α} (h : l[i]? = some x) : (l ++ r)[i]? = some x := by
  rw [List.getElem?_append_left (List.getElem?_eq_some_iff.1 h).1]; exact h

theorem repDs_weaken {g : Gh} : ∀ {ds : List D} {us : List Value}, repDs g ds us → ∀ {ds' : List D}, ds'.length = ds.length → (∀ (i : Nat) (d' : D), ds'[i]? = some d' → d' = .undef ∨ ds[i]? = some d') → repDs g ds' us
  | [], us, h, ds', hl, _ => by
    have : ds' = [] := List.eq_nil_of_length_eq_zero (by simpa using hl)
    subst this; exact h
  | d :: ds, us, h, [], hl, _ => by simp at hl
  | d :: ds, us, h, d' :: ds', hl, hw => by
    simp only [repDs] at h ⊢
    obtain ⟨u, us', rfl, h1, h2⟩ := h
    refine ⟨u, us', rfl, ?_, repDs_weaken h2 (by simpa using hl) (fun i x hx => by have := hw (i + 1) x (by simpa using hx); simpa using this)⟩
    rcases hw 0 d' (by simp) with rfl | e
    · simp only [repD]
    · simp at e; subst e; exact h1

end Go.Dv
