/-
  The law that different questions have different texts: walked and proved.
-/
import Derived.Test.YtopbcpgmffppjaaGreatDoorEk
import Derived.Test.YtopbcpgmffppjaaGreatDoorEb
namespace Go.Proofs.YtopbcpgmffppjaaGreatDoor
open Go.Dv Go.Nv
set_option maxRecDepth 20000
noncomputable abbrev fQAp : Func := Tryz.f6
noncomputable def cQAp : Code := fQAp.body.getD .skip
/-- from any code on -/
theorem code_vc {P : Program} (hm : P.follows .mixedOrders = true) {C : Nat} {fn : Func} {d : D} {σ' : St} (nt : Nat) (im : List Nat) {ks T : List KI} {L : List (Nat × D)} {σ : St} (s : Sc)
    (h : forceK (mkE nt L) fun env => vc (CN C) C P (fun env σ1 => ResOK P fn env σ1 d σ') (vRet P fn.results.toList d σ') nt im T 10000 s ks env σ) : Rn P fn C d σ' (ks ++ T) (mkE nt L) σ := run_vc hm (linkN _) _ (fun _ _ h => h.2) nt im s h
noncomputable def opsAp : Array Oper := match sub cQAp [1, 1, 1, 1, 0] with
  | .region _ ops _ => ops
  | _ => #[]
noncomputable def oAp (i : Nat) : Oper := (opsAp[i]?).getD ⟨none, .alloc 0, 0, "", #[], none⟩
theorem opsAp_size : opsAp.size = 10 := by kernel_rfl
theorem opsAp_at (k : Nat) (o : Oper) (h : opsAp[k]? = some o) : k < 10 ∧ o = oAp k := by
  have h1 : k < opsAp.size := (Array.getElem?_eq_some_iff.1 h).1
  exact ⟨by rw [opsAp_size] at h1; exact h1, by unfold oAp; rw [h]; rfl⟩
section
variable (l : List UInt8) (m : Mod) (a0 a1 a2 : Nat) (p q : Qst)
abbrev zQ : List D := [di 0, di 0, di 0, .v .nils]
abbrev eAp : List (Nat × D) := [(3, .ptr 0 0), (4, .ptr 1 0)]
def itA (d6 d7 : D) (b : Bool) : List It := [(some 17, .ptr 0 0, false), (some 18, dMod m, false), (some 19, dQ p, true), (some 20, .ptr 0 0, false), (some 21, dMod m, false), (some 22, dQ q, true), (some 5, d6, false), (some 6, d7, false), (none, .undef, b), (none, .undef, b)]
def efA (b : Bool) : List Ef := [(false, none), (false, none), (true, none), (false, none), (false, none), (true, none), (false, none), (false, none), (b, none), (b, none)]
def apSt (a : Nat) (r : List (Option (List D))) : St := ⟨some (cDz l a) :: some (cMod m) :: r, []⟩
def s0A : List St := [apSt l m a0 [], apSt l m a1 [], apSt l m a2 []]
def s1A : Bool → List St
  | false => [apSt l m a0 [some zQ], apSt l m a1 [some zQ], apSt l m a2 [some zQ]]
  | true => [apSt l m a0 [some zQ, some zQ], apSt l m a1 [some zQ, some zQ], apSt l m a2 [some zQ, some zQ], apSt l m a2 [some (cQs p), some zQ], apSt l m a2 [some (cQs p), some (cQs q)]]
def s2A : Bool → List St
  | false => [apSt l m a0 [some zQ], apSt l m a1 [some zQ], apSt l m a2 [some zQ]]
  | true => [apSt l m a0 [some zQ, some zQ], apSt l m a1 [some zQ, some zQ], apSt l m a2 [some zQ, some zQ], apSt l m a2 [some zQ, some (cQs p)], apSt l m a2 [some (cQs q), some (cQs p)]]
end
theorem drA (m : Mod) (p q : Qst) (d6 d7 : D) (b : Bool) : DrOK opsAp (efA b) (itA m p q d6 d7 b) := by
  cases b
  · exact ⟨by kernel_rfl, by kernel_rfl, by kernel_rfl, rfl⟩
  · exact ⟨by kernel_rfl, by kernel_rfl, by kernel_rfl, rfl⟩
theorem mv_ap (i : Nat) (h : i = 0 ∨ i = 3) (σ : St) : OpOK PP (oAp i) [.ptr 0 0] σ (.ptr 0 0) σ := by
  rcases h with rfl | rfl <;> exact op_move (x := .tmp 3) (by kernel_rfl)
theorem ld_ap (i : Nat) (h : i = 1 ∨ i = 4) (l : List UInt8) (m : Mod) (a : Nat) (r : List (Option (List D))) : OpOK PP (oAp i) [.ptr 1 0] (apSt l m a r) (dMod m) (apSt l m a r) := by
  have ht : AggTy PP 33 10 := by unfold AggTy; kernel_rfl
  rcases h with rfl | rfl <;> exact op_loadPA (t := 33) (a := .tmp 4) (by kernel_rfl) ht (off := 0) (cs := cMod m) rfl (Nat.le_refl _) rfl
theorem cl_ap (i x y : Nat) (h : (i = 2 ∧ x = 17 ∧ y = 18) ∨ (i = 5 ∧ x = 20 ∧ y = 21)) (l : List UInt8) (m : Mod) (a a' : Nat) (q : Qst) (r : List (Option (List D))) (hs : FSpec PP 14 [.ptr 0 0, dMod m] (dz l a) (dQ q) (dz l a')) :
    OpOK PP (oAp i) [.v (.fn 14 [] []), .ptr 0 0, dMod m] (apSt l m a r) (dQ q) (apSt l m a' r) := by
  rcases h with ⟨rfl, rfl, rfl⟩ | ⟨rfl, rfl, rfl⟩
  · exact op_call1 (c := ⟨.value (.func 14), #[.tmp 17, .tmp 18], #[24, 33]⟩) (fo := .func 14) (by kernel_rfl) rfl (q := 0) (os := cDz l a) (os' := cDz l a') (σ := apSt l m a r) rfl rfl rfl (.ptr (.pl rfl .nil)) rfl hs
  · exact op_call1 (c := ⟨.value (.func 14), #[.tmp 20, .tmp 21], #[24, 33]⟩) (fo := .func 14) (by kernel_rfl) rfl (q := 0) (os := cDz l a) (os' := cDz l a') (σ := apSt l m a r) rfl rfl rfl (.ptr (.pl rfl .nil)) rfl hs
theorem al_ap (i : Nat) (h : i = 6 ∨ i = 7) (σ : St) : OpOK PP (oAp i) [] σ (.ptr σ.H.length 0) ⟨σ.H ++ [some zQ], σ.own⟩ := by
  have hz : zeroN PP 41 = some [vi 0, vi 0, vi 0, .nils] := by kernel_rfl
  rcases h with rfl | rfl <;> exact op_allocN (e := 41) (by kernel_rfl) hz
theorem st_ap (i : Nat) (h : i = 8 ∨ i = 9) (σ : St) (q : Qst) (o : Nat) (cs : List D) (ho : σ.H[o]? = some (some cs)) (hc : cs.length = 4) : OpOK PP (oAp i) [.ptr o 0, dQ q] σ .undef ⟨σ.H.set o (some (cQs q)), σ.own⟩ := by
  have ht : szAgg PP 41 = some (4, true) := by kernel_rfl
  have e : cs.take 0 ++ cellsD (dQ q) ++ cs.drop (0 + 4) = cQs q := by
    rw [List.drop_eq_nil_of_le (by omega)]; rfl
  rcases h with rfl | rfl
  · have := op_store (P := PP) (o := oAp 8) (σ := σ) (d := dQ q) (t := 41) (x := .tmp 5) (y := .tmp 19) (by kernel_rfl) rfl ht rfl (off := 0) ho (by omega)
    rwa [e] at this
  · have := op_store (P := PP) (o := oAp 9) (σ := σ) (d := dQ q) (t := 41) (x := .tmp 6) (y := .tmp 22) (by kernel_rfl) rfl ht rfl (off := 0) ho (by omega)
    rwa [e] at this
section
variable {l : List UInt8} {m : Mod} {a0 a1 a2 : Nat} {p q : Qst} (h1 : FSpec PP 14 [.ptr 0 0, dMod m] (dz l a0) (dQ p) (dz l a1)) (h2 : FSpec PP 14 [.ptr 0 0, dMod m] (dz l a1) (dQ q) (dz l a2))
include h1 h2
theorem fA (sts : Bool → List St) (hall : ∀ (b : Bool) (c : Nat) (s : St), (sts b)[c]? = some s → ∃ a r, s = apSt l m a r) (h3 : ∀ b : Bool, ∃ r, (sts b)[0]? = some (apSt l m a0 r) ∧ (sts b)[1]? = some (apSt l m a1 r) ∧ (sts b)[2]? = some (apSt l m a2 r)) (fr : Nat) (pl esc : Nat → Bool) (d6 d7 : D) (b : Bool) (k : Nat) (hk : k < 6) (hf : k ≠ fr) :
    FactX PP opsAp sts fr pl esc (itA m p q d6 d7 b) (efA b) (mkE 50 eAp) k (oAp k) := by
  match k, hk, hf with
  | 0, _, hf =>
    have e : evDs (envA ((itA m p q d6 d7 b).take 0) (mkE 50 eAp)) (oAp 0) = [.ptr 0 0] := by kernel_rfl
    exact ⟨.ptr 0 0, false, by kernel_rfl, .inr (.inl ⟨by kernel_rfl, rfl, hf, fun _ _ s _ _ => by rw [e]; exact mv_ap 0 (.inl rfl) s⟩)⟩
  | 1, _, hf =>
    have e : evDs (envA ((itA m p q d6 d7 b).take 1) (mkE 50 eAp)) (oAp 1) = [.ptr 1 0] := by kernel_rfl
    exact ⟨dMod m, false, by kernel_rfl, .inr (.inl ⟨by kernel_rfl, rfl, hf, fun _ _ s hs _ => by
      obtain ⟨a, r, rfl⟩ := hall _ _ _ hs
      rw [e]; exact ld_ap 1 (.inl rfl) l m a r⟩)⟩
  | 2, _, hf =>
    have e : evDs (envA ((itA m p q d6 d7 b).take 2) (mkE 50 eAp)) (oAp 2) = [.v (.fn 14 [] []), .ptr 0 0, dMod m] := by kernel_rfl
    have ec : cntA ((itA m p q d6 d7 b).take 2) = 0 := by kernel_rfl
    refine ⟨dQ p, true, by kernel_rfl, .inr (.inr (.inl ⟨by kernel_rfl, rfl, hf, fun bb s hs _ => ?_⟩))⟩
    obtain ⟨r, k0, k1, k2⟩ := h3 bb
    rw [ec, k0] at hs
    cases hs
    rw [e, ec]
    exact ⟨_, k1, cl_ap 2 17 18 (.inl ⟨rfl, rfl, rfl⟩) l m a0 a1 p r h1⟩
  | 3, _, hf =>
    have e : evDs (envA ((itA m p q d6 d7 b).take 3) (mkE 50 eAp)) (oAp 3) = [.ptr 0 0] := by kernel_rfl
    exact ⟨.ptr 0 0, false, by kernel_rfl, .inr (.inl ⟨by kernel_rfl, rfl, hf, fun _ _ s _ _ => by rw [e]; exact mv_ap 3 (.inr rfl) s⟩)⟩
  | 4, _, hf =>
    have e : evDs (envA ((itA m p q d6 d7 b).take 4) (mkE 50 eAp)) (oAp 4) = [.ptr 1 0] := by kernel_rfl
    exact ⟨dMod m, false, by kernel_rfl, .inr (.inl ⟨by kernel_rfl, rfl, hf, fun _ _ s hs _ => by
      obtain ⟨a, r, rfl⟩ := hall _ _ _ hs
      rw [e]; exact ld_ap 4 (.inr rfl) l m a r⟩)⟩
  | 5, _, hf =>
    have e : evDs (envA ((itA m p q d6 d7 b).take 5) (mkE 50 eAp)) (oAp 5) = [.v (.fn 14 [] []), .ptr 0 0, dMod m] := by kernel_rfl
    have ec : cntA ((itA m p q d6 d7 b).take 5) = 1 := by kernel_rfl
    refine ⟨dQ q, true, by kernel_rfl, .inr (.inr (.inl ⟨by kernel_rfl, rfl, hf, fun bb s hs _ => ?_⟩))⟩
    obtain ⟨r, k0, k1, k2⟩ := h3 bb
    rw [ec, k1] at hs
    cases hs
    rw [e, ec]
    exact ⟨_, k2, cl_ap 5 20 21 (.inr ⟨rfl, rfl, rfl⟩) l m a1 a2 q r h2⟩
theorem f0A (k : Nat) (o : Oper) (ho : opsAp[k]? = some o) : FactX PP opsAp (fun _ => s0A l m a0 a1 a2) opsAp.size (fun _ => false) (esc2 opsAp 6 7) (itA m p q .undef .undef false) (efA false) (mkE 50 eAp) k o := by
  obtain ⟨hk, rfl⟩ := opsAp_at k o ho
  by_cases h6 : k < 6
  · refine fA h1 h2 (fun _ => s0A l m a0 a1 a2) (fun _ c s hs => ?_) (fun _ => ⟨[], rfl, rfl, rfl⟩) _ _ _ _ _ _ k h6 (by rw [opsAp_size]; omega)
    match c, hs with
    | 0, hs => cases hs; exact ⟨_, _, rfl⟩
    | 1, hs => cases hs; exact ⟨_, _, rfl⟩
    | 2, hs => cases hs; exact ⟨_, _, rfl⟩
  · match k, hk, h6 with
    | 6, _, _ => exact ⟨.undef, false, by kernel_rfl, .inr (.inr (.inr (.inr (.inr ⟨by kernel_rfl, rfl⟩))))⟩
    | 7, _, _ => exact ⟨.undef, false, by kernel_rfl, .inr (.inr (.inr (.inr (.inr ⟨by kernel_rfl, rfl⟩))))⟩
    | 8, _, _ => exact ⟨.undef, false, by kernel_rfl, .inr (.inr (.inr (.inr (.inr ⟨by kernel_rfl, rfl⟩))))⟩
    | 9, _, _ => exact ⟨.undef, false, by kernel_rfl, .inr (.inr (.inr (.inr (.inr ⟨by kernel_rfl, rfl⟩))))⟩
theorem f1A (k : Nat) (o : Oper) (ho : opsAp[k]? = some o) : FactX PP opsAp (s1A l m a0 a1 a2 p q) 7 (fun k => k == 6) (fun _ => false) (itA m p q (.ptr 2 0) (.ptr 3 0) true) (efA true) (mkE 50 eAp) k o := by
  obtain ⟨hk, rfl⟩ := opsAp_at k o ho
  by_cases h6 : k < 6
  · refine fA h1 h2 (s1A l m a0 a1 a2 p q) (fun b c s hs => ?_) (fun b => by cases b <;> exact ⟨_, rfl, rfl, rfl⟩) _ _ _ _ _ _ k h6 (by omega)
    cases b
    · match c, hs with
      | 0, hs => cases hs; exact ⟨_, _, rfl⟩
      | 1, hs => cases hs; exact ⟨_, _, rfl⟩
      | 2, hs => cases hs; exact ⟨_, _, rfl⟩
    · match c, hs with
      | 0, hs => cases hs; exact ⟨_, _, rfl⟩
      | 1, hs => cases hs; exact ⟨_, _, rfl⟩
      | 2, hs => cases hs; exact ⟨_, _, rfl⟩
      | 3, hs => cases hs; exact ⟨_, _, rfl⟩
      | 4, hs => cases hs; exact ⟨_, _, rfl⟩
  · match k, hk, h6 with
    | 6, _, _ => exact ⟨.ptr 2 0, false, by kernel_rfl, .inr (.inr (.inr (.inr (.inl ⟨rfl, rfl⟩))))⟩
    | 7, _, _ =>
      have e : evDs (envA ((itA m p q (.ptr 2 0) (.ptr 3 0) true).take 7) (mkE 50 eAp)) (oAp 7) = [] := by kernel_rfl
      refine ⟨.ptr 3 0, false, by kernel_rfl, .inr (.inr (.inr (.inl ⟨by kernel_rfl, rfl, rfl, fun c s hs => ?_⟩)))⟩
      rw [e]
      match c, hs with
      | 0, hs => cases hs; exact ⟨_, rfl, al_ap 7 (.inr rfl) (apSt l m a0 [some zQ])⟩
      | 1, hs => cases hs; exact ⟨_, rfl, al_ap 7 (.inr rfl) (apSt l m a1 [some zQ])⟩
      | 2, hs => cases hs; exact ⟨_, rfl, al_ap 7 (.inr rfl) (apSt l m a2 [some zQ])⟩
    | 8, _, _ =>
      have e : evDs (envA ((itA m p q (.ptr 2 0) (.ptr 3 0) true).take 8) (mkE 50 eAp)) (oAp 8) = [.ptr 2 0, dQ p] := by kernel_rfl
      have ec : cntA ((itA m p q (.ptr 2 0) (.ptr 3 0) true).take 8) = 2 := by kernel_rfl
      have en : needs opsAp 8 7 = true := by kernel_rfl
      refine ⟨.undef, true, by kernel_rfl, .inr (.inr (.inl ⟨by kernel_rfl, rfl, by decide, fun bb s hs hb => ?_⟩))⟩
      cases bb
      · have := hb rfl; rw [en] at this; exact absurd this (by decide)
      · rw [ec] at hs
        cases hs
        rw [e, ec]
        exact ⟨_, rfl, st_ap 8 (.inl rfl) (apSt l m a2 [some zQ, some zQ]) p 2 zQ rfl rfl⟩
    | 9, _, _ =>
      have e : evDs (envA ((itA m p q (.ptr 2 0) (.ptr 3 0) true).take 9) (mkE 50 eAp)) (oAp 9) = [.ptr 3 0, dQ q] := by kernel_rfl
      have ec : cntA ((itA m p q (.ptr 2 0) (.ptr 3 0) true).take 9) = 3 := by kernel_rfl
      have en : needs opsAp 9 7 = true := by kernel_rfl
      refine ⟨.undef, true, by kernel_rfl, .inr (.inr (.inl ⟨by kernel_rfl, rfl, by decide, fun bb s hs hb => ?_⟩))⟩
      cases bb
      · have := hb rfl; rw [en] at this; exact absurd this (by decide)
      · rw [ec] at hs
        cases hs
        rw [e, ec]
        exact ⟨_, rfl, st_ap 9 (.inr rfl) (apSt l m a2 [some (cQs p), some zQ]) q 3 zQ rfl rfl⟩
theorem f2A (k : Nat) (o : Oper) (ho : opsAp[k]? = some o) : FactX PP opsAp (s2A l m a0 a1 a2 p q) 6 (fun k => k == 7) (fun _ => false) (itA m p q (.ptr 3 0) (.ptr 2 0) true) (efA true) (mkE 50 eAp) k o := by
  obtain ⟨hk, rfl⟩ := opsAp_at k o ho
  by_cases h6 : k < 6
  · refine fA h1 h2 (s2A l m a0 a1 a2 p q) (fun b c s hs => ?_) (fun b => by cases b <;> exact ⟨_, rfl, rfl, rfl⟩) _ _ _ _ _ _ k h6 (by omega)
    cases b
    · match c, hs with
      | 0, hs => cases hs; exact ⟨_, _, rfl⟩
      | 1, hs => cases hs; exact ⟨_, _, rfl⟩
      | 2, hs => cases hs; exact ⟨_, _, rfl⟩
    · match c, hs with
      | 0, hs => cases hs; exact ⟨_, _, rfl⟩
      | 1, hs => cases hs; exact ⟨_, _, rfl⟩
      | 2, hs => cases hs; exact ⟨_, _, rfl⟩
      | 3, hs => cases hs; exact ⟨_, _, rfl⟩
      | 4, hs => cases hs; exact ⟨_, _, rfl⟩
  · match k, hk, h6 with
    | 7, _, _ => exact ⟨.ptr 2 0, false, by kernel_rfl, .inr (.inr (.inr (.inr (.inl ⟨rfl, rfl⟩))))⟩
    | 6, _, _ =>
      have e : evDs (envA ((itA m p q (.ptr 3 0) (.ptr 2 0) true).take 6) (mkE 50 eAp)) (oAp 6) = [] := by kernel_rfl
      refine ⟨.ptr 3 0, false, by kernel_rfl, .inr (.inr (.inr (.inl ⟨by kernel_rfl, rfl, rfl, fun c s hs => ?_⟩)))⟩
      rw [e]
      match c, hs with
      | 0, hs => cases hs; exact ⟨_, rfl, al_ap 6 (.inl rfl) (apSt l m a0 [some zQ])⟩
      | 1, hs => cases hs; exact ⟨_, rfl, al_ap 6 (.inl rfl) (apSt l m a1 [some zQ])⟩
      | 2, hs => cases hs; exact ⟨_, rfl, al_ap 6 (.inl rfl) (apSt l m a2 [some zQ])⟩
    | 8, _, _ =>
      have e : evDs (envA ((itA m p q (.ptr 3 0) (.ptr 2 0) true).take 8) (mkE 50 eAp)) (oAp 8) = [.ptr 3 0, dQ p] := by kernel_rfl
      have ec : cntA ((itA m p q (.ptr 3 0) (.ptr 2 0) true).take 8) = 2 := by kernel_rfl
      have en : needs opsAp 8 6 = true := by kernel_rfl
      refine ⟨.undef, true, by kernel_rfl, .inr (.inr (.inl ⟨by kernel_rfl, rfl, by decide, fun bb s hs hb => ?_⟩))⟩
      cases bb
      · have := hb rfl; rw [en] at this; exact absurd this (by decide)
      · rw [ec] at hs
        cases hs
        rw [e, ec]
        exact ⟨_, rfl, st_ap 8 (.inl rfl) (apSt l m a2 [some zQ, some zQ]) p 3 zQ rfl rfl⟩
    | 9, _, _ =>
      have e : evDs (envA ((itA m p q (.ptr 3 0) (.ptr 2 0) true).take 9) (mkE 50 eAp)) (oAp 9) = [.ptr 2 0, dQ q] := by kernel_rfl
      have ec : cntA ((itA m p q (.ptr 3 0) (.ptr 2 0) true).take 9) = 3 := by kernel_rfl
      have en : needs opsAp 9 6 = true := by kernel_rfl
      refine ⟨.undef, true, by kernel_rfl, .inr (.inr (.inl ⟨by kernel_rfl, rfl, by decide, fun bb s hs hb => ?_⟩))⟩
      cases bb
      · have := hb rfl; rw [en] at this; exact absurd this (by decide)
      · rw [ec] at hs
        cases hs
        rw [e, ec]
        exact ⟨_, rfl, st_ap 9 (.inr rfl) (apSt l m a2 [some zQ, some (cQs p)]) q 2 zQ rfl rfl⟩
theorem half1 : Half PP opsAp 6 7 (oAp 6) (mkE 50 eAp) (s0A l m a0 a1 a2) (itA m p q .undef .undef false) (s1A l m a0 a1 a2 p q) (itA m p q (.ptr 2 0) (.ptr 3 0) true) (efA true) (.ptr 2 0) where
  ok := drA m p q _ _ true
  fact := f1A h1 h2
  go := fun c s hs => by
    match c, hs with
    | 0, hs => cases hs; exact ⟨_, rfl, al_ap 6 (.inl rfl) (apSt l m a0 [])⟩
    | 1, hs => cases hs; exact ⟨_, rfl, al_ap 6 (.inl rfl) (apSt l m a1 [])⟩
    | 2, hs => cases hs; exact ⟨_, rfl, al_ap 6 (.inl rfl) (apSt l m a2 [])⟩
  it := by kernel_rfl
  uniq := fun k x hx hk => by
    have e : (oAp 6).dst = some 5 := by kernel_rfl
    rw [e]
    match k, hx, hk with
    | 0, hx, _ => cases hx; simp
    | 1, hx, _ => cases hx; simp
    | 2, hx, _ => cases hx; simp
    | 3, hx, _ => cases hx; simp
    | 4, hx, _ => cases hx; simp
    | 5, hx, _ => cases hx; simp
    | 6, _, hk => exact absurd rfl hk
    | 7, hx, _ => cases hx; simp
    | 8, hx, _ => cases hx; simp
    | 9, hx, _ => cases hx; simp
  agree := fun k he => by
    match k, he with
    | 0, _ => rfl
    | 1, _ => rfl
    | 2, _ => rfl
    | 3, _ => rfl
    | 4, _ => rfl
    | 5, _ => rfl
    | 6, he => rw [show esc2 opsAp 6 7 6 = true by kernel_rfl] at he; exact absurd he (by decide)
    | 7, he => rw [show esc2 opsAp 6 7 7 = true by kernel_rfl] at he; exact absurd he (by decide)
    | 8, he => rw [show esc2 opsAp 6 7 8 = true by kernel_rfl] at he; exact absurd he (by decide)
    | 9, he => rw [show esc2 opsAp 6 7 9 = true by kernel_rfl] at he; exact absurd he (by decide)
    | _ + 10, _ => rfl
theorem half2 : Half PP opsAp 7 6 (oAp 7) (mkE 50 eAp) (s0A l m a0 a1 a2) (itA m p q .undef .undef false) (s2A l m a0 a1 a2 p q) (itA m p q (.ptr 3 0) (.ptr 2 0) true) (efA true) (.ptr 2 0) where
  ok := drA m p q _ _ true
  fact := f2A h1 h2
  go := fun c s hs => by
    match c, hs with
    | 0, hs => cases hs; exact ⟨_, rfl, al_ap 7 (.inr rfl) (apSt l m a0 [])⟩
    | 1, hs => cases hs; exact ⟨_, rfl, al_ap 7 (.inr rfl) (apSt l m a1 [])⟩
    | 2, hs => cases hs; exact ⟨_, rfl, al_ap 7 (.inr rfl) (apSt l m a2 [])⟩
  it := by kernel_rfl
  uniq := fun k x hx hk => by
    have e : (oAp 7).dst = some 6 := by kernel_rfl
    rw [e]
    match k, hx, hk with
    | 0, hx, _ => cases hx; simp
    | 1, hx, _ => cases hx; simp
    | 2, hx, _ => cases hx; simp
    | 3, hx, _ => cases hx; simp
    | 4, hx, _ => cases hx; simp
    | 5, hx, _ => cases hx; simp
    | 6, hx, _ => cases hx; simp
    | 7, _, hk => exact absurd rfl hk
    | 8, hx, _ => cases hx; simp
    | 9, hx, _ => cases hx; simp
  agree := fun k he => by
    match k, he with
    | 0, _ => rfl
    | 1, _ => rfl
    | 2, _ => rfl
    | 3, _ => rfl
    | 4, _ => rfl
    | 5, _ => rfl
    | 6, he => rw [show esc2 opsAp 7 6 6 = true by kernel_rfl] at he; exact absurd he (by decide)
    | 7, he => rw [show esc2 opsAp 7 6 7 = true by kernel_rfl] at he; exact absurd he (by decide)
    | 8, he => rw [show esc2 opsAp 7 6 8 = true by kernel_rfl] at he; exact absurd he (by decide)
    | 9, he => rw [show esc2 opsAp 7 6 9 = true by kernel_rfl] at he; exact absurd he (by decide)
    | _ + 10, _ => rfl
end
theorem tail1 (l : List UInt8) (m : Mod) (a : Nat) (p q : Qst) (t : Typ) (hm : ModI m t) (hP : m.places = [[120]] ∨ m.places = [[120], [121]]) (sp : SmV p.target) (sq : SmV q.target) :
    Rn PP fQAp 0 (db true) σ0 ([.code (sub cQAp [1, 1, 1, 1, 1])] ++ []) (mkE 50 [(3, .ptr 0 0), (4, .ptr 1 0), (17, .ptr 0 0), (18, dMod m), (19, dQ p), (20, .ptr 0 0), (21, dMod m), (22, dQ q), (5, .ptr 2 0), (6, .ptr 3 0)]) (apSt l m a [some (cQs p), some (cQs q)]) := by
  have hz : p.target.size ≤ 1000000 := by have := sp.size; omega
  cases hp : validQ m t p with
  | false =>
    have k1 := txt_bad m t hm p sp hp
    cases hq : validQ m t q with
    | false =>
      have k2 := txt_bad m t hm q sq hq
      refine code_vc mixed 50 [] (.c (.tup [ds [], di 48]) <| .c (.tup [ds [], di 48]) <| .r) ?_
      refine via (by kernel_rfl : (FSpec PP 13 [D.v (V.agg [vi m.kind, vSs m.states, vSs m.places, vSs m.letters, vIs m.ranks, vi m.levels, vi m.age, vRuls m.rules, vi (Val.n m.start), vVs (Val.kids m.start)]), D.v (V.agg [vi p.kind, vi p.place, vi (Val.n p.target), vVs (Val.kids p.target)])] (St.mk [] []) (D.tup [D.v (V.str []), di 48]) (St.mk [] []) ∧ FSpec PP 13 [D.v (V.agg [vi m.kind, vSs m.states, vSs m.places, vSs m.letters, vIs m.ranks, vi m.levels, vi m.age, vRuls m.rules, vi (Val.n m.start), vVs (Val.kids m.start)]), D.v (V.agg [vi q.kind, vi q.place, vi (Val.n q.target), vVs (Val.kids q.target)])] (St.mk [] []) (D.tup [D.v (V.str []), di 48]) (St.mk [] []) ∧ db true = db true) = _) ?_
      exact ⟨k1, k2, rfl⟩
    | true =>
      have k2 := txt_ok m t hm hP q sq hq
      refine code_vc mixed 50 [] (.c (.tup [ds [], di 48]) <| .c (.tup [ds (txOf m q), di 0]) <| .r) ?_
      refine via (by kernel_rfl : (FSpec PP 13 [D.v (V.agg [vi m.kind, vSs m.states, vSs m.places, vSs m.letters, vIs m.ranks, vi m.levels, vi m.age, vRuls m.rules, vi (Val.n m.start), vVs (Val.kids m.start)]), D.v (V.agg [vi p.kind, vi p.place, vi (Val.n p.target), vVs (Val.kids p.target)])] (St.mk [] []) (D.tup [D.v (V.str []), di 48]) (St.mk [] []) ∧ FSpec PP 13 [D.v (V.agg [vi m.kind, vSs m.states, vSs m.places, vSs m.letters, vIs m.ranks, vi m.levels, vi m.age, vRuls m.rules, vi (Val.n m.start), vVs (Val.kids m.start)]), D.v (V.agg [vi q.kind, vi q.place, vi (Val.n q.target), vVs (Val.kids q.target)])] (St.mk [] []) (D.tup [D.v (V.str (txOf m q)), di 0]) (St.mk [] []) ∧ db true = db true) = _) ?_
      exact ⟨k1, k2, rfl⟩
  | true =>
    have k1 := txt_ok m t hm hP p sp hp
    cases hq : validQ m t q with
    | false =>
      have k2 := txt_bad m t hm q sq hq
      refine code_vc mixed 50 [] (.c (.tup [ds (txOf m p), di 0]) <| .c (.tup [ds [], di 48]) <| .r) ?_
      refine via (by kernel_rfl : (FSpec PP 13 [D.v (V.agg [vi m.kind, vSs m.states, vSs m.places, vSs m.letters, vIs m.ranks, vi m.levels, vi m.age, vRuls m.rules, vi (Val.n m.start), vVs (Val.kids m.start)]), D.v (V.agg [vi p.kind, vi p.place, vi (Val.n p.target), vVs (Val.kids p.target)])] (St.mk [] []) (D.tup [D.v (V.str (txOf m p)), di 0]) (St.mk [] []) ∧ FSpec PP 13 [D.v (V.agg [vi m.kind, vSs m.states, vSs m.places, vSs m.letters, vIs m.ranks, vi m.levels, vi m.age, vRuls m.rules, vi (Val.n m.start), vVs (Val.kids m.start)]), D.v (V.agg [vi q.kind, vi q.place, vi (Val.n q.target), vVs (Val.kids q.target)])] (St.mk [] []) (D.tup [D.v (V.str []), di 48]) (St.mk [] []) ∧ db true = db true) = _) ?_
      exact ⟨k1, k2, rfl⟩
    | true =>
      have k2 := txt_ok m t hm hP q sq hq
      have k3 := qsm_spec p q hz
      have k4 := same_apart hP hp hq sp sq
      refine code_vc mixed 50 [] (.c (.tup [ds (txOf m p), di 0]) <| .c (.tup [ds (txOf m q), di 0]) <| .c (db (sameQ p q)) <| .r) ?_
      refine via (by kernel_rfl : (FSpec PP 13 [D.v (V.agg [vi m.kind, vSs m.states, vSs m.places, vSs m.letters, vIs m.ranks, vi m.levels, vi m.age, vRuls m.rules, vi (Val.n m.start), vVs (Val.kids m.start)]), D.v (V.agg [vi p.kind, vi p.place, vi (Val.n p.target), vVs (Val.kids p.target)])] (St.mk [] []) (D.tup [D.v (V.str (txOf m p)), di 0]) (St.mk [] []) ∧ FSpec PP 13 [D.v (V.agg [vi m.kind, vSs m.states, vSs m.places, vSs m.letters, vIs m.ranks, vi m.levels, vi m.age, vRuls m.rules, vi (Val.n m.start), vVs (Val.kids m.start)]), D.v (V.agg [vi q.kind, vi q.place, vi (Val.n q.target), vVs (Val.kids q.target)])] (St.mk [] []) (D.tup [D.v (V.str (txOf m q)), di 0]) (St.mk [] []) ∧ FSpec PP 17 [D.v (V.agg [vi p.kind, vi p.place, vi (Val.n p.target), vVs (Val.kids p.target)]), D.v (V.agg [vi q.kind, vi q.place, vi (Val.n q.target), vVs (Val.kids q.target)])] (St.mk [] []) (db (sameQ p q)) (St.mk [] []) ∧ db ((txOf m p == txOf m q) == sameQ p q) = db true) = _) ?_
      refine ⟨k1, k2, k3, ?_⟩
      rw [k4]; cases sameQ p q <;> rfl
theorem tail2 (l : List UInt8) (m : Mod) (a : Nat) (p q : Qst) (t : Typ) (hm : ModI m t) (hP : m.places = [[120]] ∨ m.places = [[120], [121]]) (sp : SmV p.target) (sq : SmV q.target) :
    Rn PP fQAp 0 (db true) σ0 ([.code (sub cQAp [1, 1, 1, 1, 1])] ++ []) (mkE 50 [(3, .ptr 0 0), (4, .ptr 1 0), (17, .ptr 0 0), (18, dMod m), (19, dQ p), (20, .ptr 0 0), (21, dMod m), (22, dQ q), (5, .ptr 3 0), (6, .ptr 2 0)]) (apSt l m a [some (cQs q), some (cQs p)]) := by
  have hz : p.target.size ≤ 1000000 := by have := sp.size; omega
  cases hp : validQ m t p with
  | false =>
    have k1 := txt_bad m t hm p sp hp
    cases hq : validQ m t q with
    | false =>
      have k2 := txt_bad m t hm q sq hq
      refine code_vc mixed 50 [] (.c (.tup [ds [], di 48]) <| .c (.tup [ds [], di 48]) <| .r) ?_
      refine via (by kernel_rfl : (FSpec PP 13 [D.v (V.agg [vi m.kind, vSs m.states, vSs m.places, vSs m.letters, vIs m.ranks, vi m.levels, vi m.age, vRuls m.rules, vi (Val.n m.start), vVs (Val.kids m.start)]), D.v (V.agg [vi p.kind, vi p.place, vi (Val.n p.target), vVs (Val.kids p.target)])] (St.mk [] []) (D.tup [D.v (V.str []), di 48]) (St.mk [] []) ∧ FSpec PP 13 [D.v (V.agg [vi m.kind, vSs m.states, vSs m.places, vSs m.letters, vIs m.ranks, vi m.levels, vi m.age, vRuls m.rules, vi (Val.n m.start), vVs (Val.kids m.start)]), D.v (V.agg [vi q.kind, vi q.place, vi (Val.n q.target), vVs (Val.kids q.target)])] (St.mk [] []) (D.tup [D.v (V.str []), di 48]) (St.mk [] []) ∧ db true = db true) = _) ?_
      exact ⟨k1, k2, rfl⟩
    | true =>
      have k2 := txt_ok m t hm hP q sq hq
      refine code_vc mixed 50 [] (.c (.tup [ds [], di 48]) <| .c (.tup [ds (txOf m q), di 0]) <| .r) ?_
      refine via (by kernel_rfl : (FSpec PP 13 [D.v (V.agg [vi m.kind, vSs m.states, vSs m.places, vSs m.letters, vIs m.ranks, vi m.levels, vi m.age, vRuls m.rules, vi (Val.n m.start), vVs (Val.kids m.start)]), D.v (V.agg [vi p.kind, vi p.place, vi (Val.n p.target), vVs (Val.kids p.target)])] (St.mk [] []) (D.tup [D.v (V.str []), di 48]) (St.mk [] []) ∧ FSpec PP 13 [D.v (V.agg [vi m.kind, vSs m.states, vSs m.places, vSs m.letters, vIs m.ranks, vi m.levels, vi m.age, vRuls m.rules, vi (Val.n m.start), vVs (Val.kids m.start)]), D.v (V.agg [vi q.kind, vi q.place, vi (Val.n q.target), vVs (Val.kids q.target)])] (St.mk [] []) (D.tup [D.v (V.str (txOf m q)), di 0]) (St.mk [] []) ∧ db true = db true) = _) ?_
      exact ⟨k1, k2, rfl⟩
  | true =>
    have k1 := txt_ok m t hm hP p sp hp
    cases hq : validQ m t q with
    | false =>
      have k2 := txt_bad m t hm q sq hq
      refine code_vc mixed 50 [] (.c (.tup [ds (txOf m p), di 0]) <| .c (.tup [ds [], di 48]) <| .r) ?_
      refine via (by kernel_rfl : (FSpec PP 13 [D.v (V.agg [vi m.kind, vSs m.states, vSs m.places, vSs m.letters, vIs m.ranks, vi m.levels, vi m.age, vRuls m.rules, vi (Val.n m.start), vVs (Val.kids m.start)]), D.v (V.agg [vi p.kind, vi p.place, vi (Val.n p.target), vVs (Val.kids p.target)])] (St.mk [] []) (D.tup [D.v (V.str (txOf m p)), di 0]) (St.mk [] []) ∧ FSpec PP 13 [D.v (V.agg [vi m.kind, vSs m.states, vSs m.places, vSs m.letters, vIs m.ranks, vi m.levels, vi m.age, vRuls m.rules, vi (Val.n m.start), vVs (Val.kids m.start)]), D.v (V.agg [vi q.kind, vi q.place, vi (Val.n q.target), vVs (Val.kids q.target)])] (St.mk [] []) (D.tup [D.v (V.str []), di 48]) (St.mk [] []) ∧ db true = db true) = _) ?_
      exact ⟨k1, k2, rfl⟩
    | true =>
      have k2 := txt_ok m t hm hP q sq hq
      have k3 := qsm_spec p q hz
      have k4 := same_apart hP hp hq sp sq
      refine code_vc mixed 50 [] (.c (.tup [ds (txOf m p), di 0]) <| .c (.tup [ds (txOf m q), di 0]) <| .c (db (sameQ p q)) <| .r) ?_
      refine via (by kernel_rfl : (FSpec PP 13 [D.v (V.agg [vi m.kind, vSs m.states, vSs m.places, vSs m.letters, vIs m.ranks, vi m.levels, vi m.age, vRuls m.rules, vi (Val.n m.start), vVs (Val.kids m.start)]), D.v (V.agg [vi p.kind, vi p.place, vi (Val.n p.target), vVs (Val.kids p.target)])] (St.mk [] []) (D.tup [D.v (V.str (txOf m p)), di 0]) (St.mk [] []) ∧ FSpec PP 13 [D.v (V.agg [vi m.kind, vSs m.states, vSs m.places, vSs m.letters, vIs m.ranks, vi m.levels, vi m.age, vRuls m.rules, vi (Val.n m.start), vVs (Val.kids m.start)]), D.v (V.agg [vi q.kind, vi q.place, vi (Val.n q.target), vVs (Val.kids q.target)])] (St.mk [] []) (D.tup [D.v (V.str (txOf m q)), di 0]) (St.mk [] []) ∧ FSpec PP 17 [D.v (V.agg [vi p.kind, vi p.place, vi (Val.n p.target), vVs (Val.kids p.target)]), D.v (V.agg [vi q.kind, vi q.place, vi (Val.n q.target), vVs (Val.kids q.target)])] (St.mk [] []) (db (sameQ p q)) (St.mk [] []) ∧ db ((txOf m p == txOf m q) == sameQ p q) = db true) = _) ?_
      refine ⟨k1, k2, k3, ?_⟩
      rw [k4]; cases sameQ p q <;> rfl
theorem apart_x4 (l : List UInt8) (m : Mod) (a0 a1 a2 : Nat) (p q : Qst) (t : Typ) (hm : ModI m t) (hP : m.places = [[120]] ∨ m.places = [[120], [121]]) (sp : SmV p.target) (sq : SmV q.target) (h1 : FSpec PP 14 [.ptr 0 0, dMod m] (dz l a0) (dQ p) (dz l a1)) (h2 : FSpec PP 14 [.ptr 0 0, dMod m] (dz l a1) (dQ q) (dz l a2)) :
    Rn PP fQAp 0 (db true) σ0 [.code (sub cQAp [1, 1, 1, 1])] (mkE 50 eAp) (apSt l m a0 []) := by
  have hx : sub cQAp [1, 1, 1, 1] = .seq (.region 5 opsAp true) (sub cQAp [1, 1, 1, 1, 1]) := by kernel_rfl
  rw [hx]
  refine run_seq ?_
  refine run_draw22 mixed (i := 6) (j := 7) (oi := oAp 6) (oj := oAp 7) (by decide) (by kernel_rfl) (by kernel_rfl) (by kernel_rfl) (by kernel_rfl) (by kernel_rfl) (by kernel_rfl) (σ1 := apSt l m a2 [some (cQs p), some (cQs q)]) (σ2 := apSt l m a2 [some (cQs q), some (cQs p)])
    (drA m p q .undef .undef false) (f0A h1 h2) rfl (half1 h1 h2) (half2 h1 h2) (by kernel_rfl) (by kernel_rfl) ?_ ?_
  · exact tail1 l m a2 p q t hm hP sp sq
  · exact tail2 l m a2 p q t hm hP sp sq
theorem apart_spec (s : List UInt8) : FSpec PP 6 [.v (vBs s)] σ0 (db true) σ0 := by
  obtain ⟨l, hl⟩ : ∃ l, l = s.take 200 := ⟨_, rfl⟩
  have hll : l.length ≤ 200 := by rw [hl, List.length_take]; omega
  have hnew := fun (o : Oper) (c : Call) (fo : Operand) (ho : o.op = .call c) (hc : c.callee = .value fo) => hl ▸ op_new s ho hc
  obtain ⟨m, a0, hmk, m2, m3⟩ := any_ex l hll 0 (Nat.zero_le _)
  obtain ⟨t, hm, _⟩ := hmk.int
  obtain ⟨p, a1, sp, p2, h1⟩ := ask_ex m hmk l hll a0 m2
  obtain ⟨q, a2, sq, q2, h2⟩ := ask_ex m hmk l hll a1 p2
  have hrn := apart_x4 l m a0 a1 a2 p q t hm hmk.small.2.1 sp sq h1 h2
  refine spec_vc mixed fQAp cQAp (by kernel_rfl) (by kernel_rfl) (by kernel_rfl) (by kernel_rfl) 50 (by kernel_rfl) [] (.c (db true) <| .h (.oc (.ptr 0 0) (dz l 0)) <| .c1 (cDz l a0) (dMod m) <| .h (.q 4 3) <| .h (.s [ke 3, ke 4, ke 16]) .z) ?_
  refine via (by kernel_rfl : (FSpec PP 7 [] (St.mk [] []) (db true) (St.mk [] []) ∧ (∀ (o : Oper) (c : Call) (fo : Operand), o.op = Op.call c → c.callee = Callee.value fo → OpOK PP o [D.v (V.fn 8 [] []), D.v (vBs s)] σ0 (D.ptr 0 0) (dz l 0)) ∧ FSpec PP 9 [D.ptr 0 0] (St.mk [some (cDz l 0)] []) (dMod m) (St.mk [some (cDz l a0)] []) ∧ Nv.It (RunO (CN (List.length σ0.H)) PP (fun env σ1 => ResOK PP fQAp env σ1 (db true) σ0) [KI.code (sub cQAp [1, 1, 1, 1])] (opsIn (sub cQAp [1, 1, 1, 0])) (List.drop 3 (opsIn (sub cQAp [1, 1, 1, 0])).toList) (mkE 50 [(3, D.ptr 0 0), (4, D.ptr 1 0), (16, dMod m)]) (St.mk [some (cDz l a0), some [di 0, D.v V.nils, D.v V.nils, D.v V.nils, D.v V.nils, di 0, di 0, D.v V.nils, di 0, D.v V.nils]] []))) = _) ?_
  refine ⟨sane_spec, hnew, m3, ⟨?_⟩⟩
  refine rest_vc (ks := []) (T := [.code (sub cQAp [1, 1, 1, 1])]) mixed (linkN 0) 0 (fun _ _ h => h.2) 50 [] 4 3 (.ls [ke 3, ke 4] (apSt l m a0 [])) ?_
  refine via (by kernel_rfl : ([some (cDz l a0), some [di m.kind, D.v (vSs m.states), D.v (vSs m.places), D.v (vSs m.letters), D.v (vIs m.ranks), di m.levels, di m.age, D.v (vRuls m.rules), di (Val.n m.start), D.v (vVs (Val.kids m.start))]] = [some (cDz l a0), some (cMod m)] ∧ Nv.It (RunC (CN 0) PP (fun env σ1 => ResOK PP fQAp env σ1 (db true) σ0) [KI.code (sub cQAp [1, 1, 1, 1])] (mkE 50 [(3, D.ptr 0 0), (4, D.ptr 1 0)]) (apSt l m a0 []))) = _) ?_
  exact ⟨rfl, ⟨hrn⟩⟩
end Go.Proofs.YtopbcpgmffppjaaGreatDoor
