/-
  From a function's contract to the row's walk: slices of integers that came in; nothing that was there is written.
-/
import Derived.Test.YtoofgniepbidnaaTy
import Derived.Below
namespace Go.Proofs.Ytoofgniepbidnaa
open Go.Dv Go.RowKit

/-- what is known of a slice of integers that came in -/
def IsRow (k : IntKind) (w : World) (a : Option Addr) (len cap : Nat) (zs : List Int) : Prop :=
  (a = none ∧ len = 0 ∧ cap = 0 ∧ zs = []) ∨
  ∃ x, a = some x ∧ len ≤ cap ∧ cap ≤ maxLen ∧ zs.length = cap ∧ (∀ i, i < zs.length → w.cell? (x.add i) = some (.int k (zs.getD i 0))) ∧ ∀ n ∈ zs, (Lit.int k n).wf = true

/-- all that can be read -/
def memOf (w : World) : Mem := fun b o => w.cell? ⟨b, o, none⟩
def g0 (w : World) : Gh := { M := memOf w, β := fun _ => 0, n := 0, ι := fun _ _ => none, κ := fun _ => 0 }

theorem wrep0 (w : World) : WRep (g0 w) ⟨[], []⟩ w where
  n := rfl
  mem := fun b o v h => h
  obj := fun i cs hi => by simp at hi
  inj := fun i j cs ds hi => by simp at hi
  own := fun k sz xs hx => by simp at hx
  tags := by simp
  sep := fun x hx => by simp at hx
  ownObj := fun x hx => by simp at hx
  fresh := fun _ _ _ => rfl

theorem repE_ints (M : Mem) (k : IntKind) : ∀ xs : List Int, repE M 1 (xs.map (V.int k)) (xs.map (Value.int k))
  | [] => by simp [repE]
  | x :: xs => by simp only [List.map_cons, repE]; exact ⟨[.int k x], xs.map (Value.int k), rfl, rfl, by simp [repC], repE_ints M k xs⟩

theorem isRow_rep {k : IntKind} {w : World} {a : Option Addr} {len cap : Nat} {zs : List Int} (h : IsRow k w a len cap zs) : repV (memOf w) (.list ((zs.take len).map (V.int k))) (.slice a len cap) := by
  rw [repV_list]
  rcases h with ⟨rfl, rfl, rfl, rfl⟩ | ⟨x, rfl, hl, _, hz, hc, _⟩
  · exact ⟨none, 0, rfl, Nat.le_refl _, .inl rfl⟩
  · have hlen : ((zs.take len).map (V.int k)).length = len := by simp; omega
    refine ⟨some x, cap, by rw [hlen], by rw [hlen]; exact hl, ?_⟩
    rcases Nat.eq_zero_or_pos len with h0 | hpos
    · exact .inl (List.eq_nil_of_length_eq_zero (by rw [hlen]; exact h0))
    · right
      have hspot : x.spot = none := by
        have h0 := hc 0 (by omega)
        cases hs : x.spot with
        | none => rfl
        | some s =>
          have : x.add 0 = x := by simp [Addr.add]
          rw [this] at h0
          unfold World.cell? at h0
          split at h0
          · rw [hs] at h0; simp at h0
          · simp at h0
      obtain ⟨b, off, spot⟩ := x
      simp only at hspot
      subst hspot
      refine ⟨b, off, 1, (zs.take len).map (Value.int k), rfl, by omega, fun j v hj => ?_, repE_ints _ k _⟩
      simp only [List.getElem?_map] at hj
      cases hz2 : (zs.take len)[j]? with
      | none => simp [hz2] at hj
      | some z =>
        simp [hz2] at hj
        have hjl : j < len := by have := (List.getElem?_eq_some_iff.1 hz2).1; simp at this; omega
        have hzj : zs[j]? = some z := by rw [List.getElem?_take] at hz2; simpa [hjl] using hz2
        have := hc j (by omega)
        rw [Addr.add_lit] at this
        simp only [memOf]
        rw [this, ← hj]
        simp [List.getD_eq_getElem?_getD, hzj]

theorem below_of {w w' : World} {g' : Gh} {σ' : St} (h : WI ⟨g0 w, w, ⟨[], []⟩⟩ g' σ' w') : Below w.heap.size w w' := by
  exact ⟨h.os, h.tape, h.output, h.size, fun b hb => (h.keep b hb not_priv).1⟩

/-- a law of one slice of integers -/
theorem law_ints {f : FuncId} (hspec : ∀ xs : List Int, FSpec PP f [.v (.list (xs.map (V.int .i64)))] ⟨[], []⟩ (.v (.bool true)) ⟨[], []⟩) {a : Option Addr} {len cap : Nat} {zs : List Int} {w : World} (h : IsRow .i64 w a len cap zs) :
    Calls PP f #[.slice a len cap] w fun e w' => e = .returned (.bool true) ∧ Below w.heap.size w w' := by
  refine Calls.mono ((hspec (zs.take len)).2 (g0 w) w [.slice a len cap] (wrep0 w) (repDs_one.2 ⟨_, rfl, by simp only [repD]; exact isRow_rep h⟩)) ?_
  rintro e w' ⟨u, g', rfl, hw, hr⟩
  simp only [repD, repV_bool] at hr
  subst hr
  exact ⟨rfl, below_of hw⟩
end Go.Proofs.Ytoofgniepbidnaa
