/-
  From a contract to the row's walk: three slices of integers.
-/
import Derived.Test.YtoofgniepbidnaaEnd
namespace Go.Proofs.Ytoofgniepbidnaa
open Go.Dv Go.RowKit
/-- a law of three slices of integers -/
theorem law_ints3 {f : FuncId} (hspec : ∀ xs ys zs : List Int, FSpec PP f [.v (.list (xs.map (V.int .i64))), .v (.list (ys.map (V.int .i64))), .v (.list (zs.map (V.int .i64)))] ⟨[], []⟩ (.v (.bool true)) ⟨[], []⟩)
    {a0 : Option Addr} {len0 cap0 : Nat} {z0 : List Int} {a1 : Option Addr} {len1 cap1 : Nat} {z1 : List Int} {a2 : Option Addr} {len2 cap2 : Nat} {z2 : List Int} {w : World} (h0 : IsRow .i64 w a0 len0 cap0 z0) (h1 : IsRow .i64 w a1 len1 cap1 z1) (h2 : IsRow .i64 w a2 len2 cap2 z2) :
    Calls PP f #[.slice a0 len0 cap0, .slice a1 len1 cap1, .slice a2 len2 cap2] w fun e w' => e = .returned (.bool true) ∧ Below w.heap.size w w' := by
  refine Calls.mono ((hspec (z0.take len0) (z1.take len1) (z2.take len2)).2 (g0 w) w [.slice a0 len0 cap0, .slice a1 len1 cap1, .slice a2 len2 cap2] (wrep0 w) ?_) ?_
  · simp only [repDs]
    exact ⟨_, _, rfl, by simp only [repD]; exact isRow_rep h0, _, _, rfl, by simp only [repD]; exact isRow_rep h1, _, _, rfl, by simp only [repD]; exact isRow_rep h2, rfl⟩
  rintro e w' ⟨u, g', rfl, hw, hr⟩
  simp only [repD, repV_bool] at hr
  subst hr
  exact ⟨rfl, below_of hw⟩
end Go.Proofs.Ytoofgniepbidnaa
