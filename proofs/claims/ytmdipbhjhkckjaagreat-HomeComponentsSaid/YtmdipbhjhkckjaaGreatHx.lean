/-
  The sanity check of layer 35 returns true: run by the kernel.
-/
import Derived.Test.YtmdipbhjhkckjaaGreatCy
import Derived.Test.YtmdipbhjhkckjaaGreatTx
import Derived.Test.YtmdipbhjhkckjaaGreatDb
namespace Go.Proofs.YtmdipbhjhkckjaaGreat
open Go.Dv Go.Ci

noncomputable def isCV (x : Option CV) (d : CV) : Bool := match x with
  | some d' => eqV d' d
  | none => false
theorem isCV_eq {x : Option CV} {d : CV} (h : isCV x d = true) : x = some d := by
  unfold isCV at h
  split at h
  · rw [eqV_eq _ _ h]
  · simp at h

/-- the model of the sanity check -/
def saI (n : Int) : V := .int .i64 n
def saS (n : Nat) : V := .str [UInt8.ofNat n]
def saR (n : Nat) (f t : Int) : V := .agg [saS n, saI f, saI t, .list [saI 0], .list [saI 0], .nils, saI 0, saI 0, saI 0, .nils, .nils, .nils, .nils, saI 0]
def saM : V := .agg [saI 1, .list [saS 97, saS 98], .list [saS 120], .nils, .nils, saI 0, saI 0, .list [saR 114 0 1, saR 115 1 0], saI 0, .list [.agg [saI 0, .nils], .agg [saI 0, .nils]]]

theorem saCheck : TSpec PP 54 [saM] (.int .i64 0) :=
  runD_T (tab0 PP) mixed (n := 60) (isCV_eq (by kernel_rfl))
noncomputable def saTab : Tab := tabOf [(54, [saM], .int .i64 0)]
theorem saTab_ok : TabOK PP saTab := tabOf_ok fun e he => by
  simp only [List.mem_singleton] at he
  subst he
  exact saCheck
theorem sane_T : TSpec PP 8 [] (.bool true) :=
  runD_T saTab_ok mixed (n := 60) (isCV_eq (by kernel_rfl))
theorem sane_spec : FSpec PP 8 [] ⟨[], []⟩ (.v (.bool true)) ⟨[], []⟩ := sane_T.f rfl
end Go.Proofs.YtmdipbhjhkckjaaGreat

namespace Go.Proofs.YtmdipbhjhkckjaaGreat
open Go.Dv

abbrev vi (n : Int) : V := .int .i64 n
abbrev di (n : Int) : D := .v (.int .i64 n)
abbrev vl (xs : List Int) : V := .list (xs.map vi)
abbrev dl (xs : List Int) : D := .v (.list (xs.map vi))
abbrev db (b : Bool) : D := .v (.bool b)
abbrev σ0 : St := ⟨[], []⟩
abbrev dfn (f : FuncId) : D := .v (.fn f [] [])
theorem idx_some {α : Type} {f : α → V} {a : List α} {i : Nat} {x : α} (h : a[i]? = some x) : (a.map f)[((i : Nat) : Int).toNat]? = some (f x) := by simp [h]
theorem get_ex {α : Type} {a : List α} {i : Nat} (h : i < a.length) : ∃ x, a[i]? = some x := ⟨_, List.getElem?_eq_getElem h⟩
theorem wrap_id {n : Int} (h0 : -9223372036854775808 ≤ n) (h1 : n ≤ 9223372036854775807) : IntKind.i64.wrap n = n := by rw [IntKind.wrap_i64]; omega
theorem wrap_succ {i : Nat} (h : i ≤ 1000000000) : IntKind.i64.wrap ((i : Int) + 1) = ((i + 1 : Nat) : Int) := by rw [wrap_id (by omega) (by omega)]; omega

/- DICE -/
abbrev vu (x : Int) : V := .int .u8 x
abbrev vus (s : List Int) : V := .list (s.map vu)
abbrev dus (s : List Int) : D := .v (.list (s.map vu))
def BytesOK (s : List Int) : Prop := ∀ x ∈ s, 0 ≤ x ∧ x < 256
abbrev dice (s : List Int) (k : Nat) : St := ⟨[some [.v (.list (s.map vu)), .v (.int .i64 (k : Int))]], []⟩
def pkAt (s : List Int) (k : Nat) : Nat := if k < s.length then k + 1 else k
def pkV (s : List Int) (k : Nat) (n : Int) : Int := match s[k]? with
  | some x => x.tmod n
  | none => 0
theorem pkV_range {s : List Int} (hs : BytesOK s) (k : Nat) {n : Int} (hn : 1 ≤ n) : 0 ≤ pkV s k n ∧ pkV s k n < n := by
  unfold pkV
  split
  · rename_i x hx
    obtain ⟨h1, h2⟩ := hs x (List.mem_of_getElem? hx)
    rw [Int.tmod_eq_emod_of_nonneg h1]
    exact ⟨Int.emod_nonneg _ (by omega), Int.emod_lt_of_pos _ (by omega)⟩
  · omega
theorem pkAt_le {s : List Int} {k : Nat} (hk : k ≤ 1000) (hs : s.length ≤ 200) : pkAt s k ≤ 1000 := by unfold pkAt; split <;> omega

/- GRAPHS -/
abbrev Arc := Int × Int
abbrev vArc (a : Arc) : V := .agg [.int .i64 a.1, .int .i64 a.2]
abbrev vArcs (l : List Arc) : V := .list (l.map vArc)
abbrev vCfg (i : Nat) : V := .agg [.int .i64 (i : Int), .nils]
abbrev vCfgs (n : Nat) : List V := (List.range n).map vCfg
abbrev vG (n : Nat) (arcs : List (List Arc)) : V := .agg [.list (vCfgs n), .list (arcs.map vArcs)]
def arcsM (s : List Int) (n : Int) : Nat → Nat → List Arc × Nat
  | 0, k => ([], k)
  | c + 1, k => ((pkV s k 3, pkV s (pkAt s k) n) :: (arcsM s n c (pkAt s (pkAt s k))).1, (arcsM s n c (pkAt s (pkAt s k))).2)
def graphM (s : List Int) (n : Int) : Nat → Nat → List (List Arc) × Nat
  | 0, k => ([], k)
  | c + 1, k => ((arcsM s n (pkV s k 4).toNat (pkAt s k)).1 :: (graphM s n c (arcsM s n (pkV s k 4).toNat (pkAt s k)).2).1, (graphM s n c (arcsM s n (pkV s k 4).toNat (pkAt s k)).2).2)
theorem pkAt_lt {s : List Int} {k : Nat} (hk : k ≤ 200) (hs : s.length ≤ 200) : pkAt s k ≤ 200 := by unfold pkAt; split <;> omega
theorem arcsM_at {s : List Int} (hs : s.length ≤ 200) (n : Int) : ∀ (c k : Nat), k ≤ 200 → (arcsM s n c k).2 ≤ 200
  | 0, k, h => h
  | c + 1, k, h => by simp only [arcsM]; exact arcsM_at hs n c _ (pkAt_lt (pkAt_lt h hs) hs)
theorem arcsM_length (s : List Int) (n : Int) : ∀ (c k : Nat), (arcsM s n c k).1.length = c
  | 0, k => rfl
  | c + 1, k => by simp [arcsM, arcsM_length s n c]
theorem cfgs_succ (n : Nat) : vCfgs (n + 1) = vCfgs n ++ [vCfg n] := by
  show (List.range (n + 1)).map vCfg = _
  rw [List.range_succ, List.map_append]; rfl

noncomputable def cNewD : Code := Tryz.f9.body.getD .skip
set_option maxRecDepth 20000 in
theorem newD_spec (s : List Int) : FSpec PP 9 [dus s] σ0 (.ptr 0 0) (dice (s.take 200) 0) := by
  refine spec_at cNewD Tryz.func9 rfl (by kernel_rfl) (by first | decide | simp) _ (by dsimp only [Tryz.f9, List.length, Nat.reduceAdd, Nat.reduceSub, List.replicate, List.cons_append, List.nil_append]) ?_
  refine at_seq [0] [1] rfl ?_
  refine at_region rfl ?_
  refine at_mc 2 rfl rfl rfl (.inr rfl) (by dsimp only [constD]) (by dsimp only [List.set]) ?_
  refine at_end rfl ?_
  refine at_seq [1, 0] [1, 1] rfl ?_
  refine at_seq [1, 0, 0] [1, 0, 1] rfl ?_
  refine at_region rfl ?_
  refine at_mv 0 3 rfl rfl rfl (.inl rfl) rfl (by dsimp only [List.set]) ?_
  first | (refine at_op (some 4) rfl rfl rfl rfl (op_lenL rfl fu_Suint8) (by dsimp only [putD, List.set]) ?_) | (refine at_op (some 4) rfl rfl rfl rfl (opOK_un (op_lenL rfl fu_Suint8)) (by dsimp only [putD, List.set]) ?_) | (refine at_op (some 4) rfl rfl rfl rfl (op_lenA rfl fu_Suint8) (by dsimp only [putD, List.set]) ?_)
  refine at_op (some 5) rfl rfl rfl rfl (op_binI rfl rfl) (by dsimp only [putD, List.set]) ?_
  refine at_end rfl ?_
  refine at_cond [1, 0, 1, 0] [1, 0, 1, 1] rfl rfl (fun hc1 => ?_) (fun hc1 => ?_)
  · skip
    have hgt : 200 < s.length := by simp at hc1; omega
    refine at_region rfl ?_
    refine at_mv 0 6 rfl rfl rfl (.inl rfl) rfl (by dsimp only [List.set]) ?_
    refine at_op (some 7) rfl rfl rfl rfl (op_sliceL rfl fsl_Suint8 (by simp [V.size]) (by decide) none (some (_, _)) rfl rfl (l' := 0) (h' := 200) (by simp only [sliceI, List.length_map]; simp; omega)) (by dsimp only [putD, List.set]) ?_
    rw [List.drop_zero, ← List.map_take]
    refine at_mv 7 0 rfl rfl rfl (.inr rfl) rfl (by dsimp only [List.set]) ?_
    refine at_end rfl ?_
    refine at_seq [1, 1, 0] [1, 1, 1] rfl ?_
    refine at_region rfl ?_
    refine at_mv 0 8 rfl rfl rfl (.inl rfl) rfl (by dsimp only [List.set]) ?_
    refine at_op (some 9) rfl rfl rfl rfl (op_build rfl fbld_coverabilityplay_Dice rfl rfl) (by dsimp only [putD, List.set]) ?_
    try dsimp only [V.cellsV, List.take, List.drop, List.cons_append, List.nil_append, List.length]
    refine at_box (.tmp 9) 10 rfl rfl rfl rfl (ev_tmp rfl) rfl (by dsimp only [List.set, List.length]) (by dsimp only [List.set, List.append, List.cons_append, List.nil_append, cellsD, List.map, repl, List.length, Nat.reduceAdd, if_true, ↓reduceIte]; first | done | rfl) ?_
    refine at_mv 10 2 rfl rfl rfl (.inr rfl) rfl (by dsimp only [List.set]) ?_
    refine at_end rfl ?_
    exact at_ret rfl (res_ok (ds := [.ptr 0 0]) (.tmp rfl .nil) rfl 1 (by first | rfl | (simp only [List.take_of_length_le hle]; rfl) | (simp; done)) (by simp) (fun i cs h => by cases i with | zero => (simp at h; subst h; rfl) | succ i => simp at h) (List.Sublist.refl _) rfl)
  · skip
    have hle : s.length ≤ 200 := by simp at hc1; omega
    rw [show dice (s.take 200) 0 = dice s 0 by rw [List.take_of_length_le hle]]
    refine at_skip rfl ?_
    refine at_seq [1, 1, 0] [1, 1, 1] rfl ?_
    refine at_region rfl ?_
    refine at_mv 0 8 rfl rfl rfl (.inl rfl) rfl (by dsimp only [List.set]) ?_
    refine at_op (some 9) rfl rfl rfl rfl (op_build rfl fbld_coverabilityplay_Dice rfl rfl) (by dsimp only [putD, List.set]) ?_
    try dsimp only [V.cellsV, List.take, List.drop, List.cons_append, List.nil_append, List.length]
    refine at_box (.tmp 9) 10 rfl rfl rfl rfl (ev_tmp rfl) rfl (by dsimp only [List.set, List.length]) (by dsimp only [List.set, List.append, List.cons_append, List.nil_append, cellsD, List.map, repl, List.length, Nat.reduceAdd, if_true, ↓reduceIte]; first | done | rfl) ?_
    refine at_mv 10 2 rfl rfl rfl (.inr rfl) rfl (by dsimp only [List.set]) ?_
    refine at_end rfl ?_
    exact at_ret rfl (res_ok (ds := [.ptr 0 0]) (.tmp rfl .nil) rfl 1 (by first | rfl | (simp only [List.take_of_length_le hle]; rfl) | (simp; done)) (by simp) (fun i cs h => by cases i with | zero => (simp at h; subst h; rfl) | succ i => simp at h) (List.Sublist.refl _) rfl)

noncomputable def cPick : Code := Tryz.f36.body.getD .skip
set_option maxRecDepth 20000 in
theorem pick_spec (s : List Int) (hb : BytesOK s) (_ : s.length ≤ 200) (k : Nat) (hk : k ≤ 1000) (n : Int) (hn : 1 ≤ n) : FSpec PP 36 [.ptr 0 0, di n] (dice s k) (di (pkV s k n)) (dice s (pkAt s k)) := by
  refine spec_at cPick Tryz.func36 rfl (by kernel_rfl) (by first | decide | simp) _ (by dsimp only [Tryz.f36, List.length, Nat.reduceAdd, Nat.reduceSub, List.replicate, List.cons_append, List.nil_append]) ?_
  refine at_seq [0] [1] rfl ?_
  refine at_region rfl ?_
  refine at_mc 4 rfl rfl rfl (.inr rfl) (by dsimp only [constD]) (by dsimp only [List.set]) ?_
  refine at_end rfl ?_
  refine at_seq [1, 0] [1, 1] rfl ?_
  refine at_seq [1, 0, 0] [1, 0, 1] rfl ?_
  refine at_draw mixed rfl [dice s k] rfl ?_
  refine da_mv 0 5 rfl rfl rfl (.inl rfl) rfl (by dsimp only [List.set]) ?_
  first | (refine da_quiet (some 6) rfl rfl rfl rfl (fun s hs => op_nilCheck_ptr rfl) (by dsimp only [putD, List.set]) ?_) | (refine da_quiet (some 6) rfl rfl rfl rfl (fun s hs => op_nilCheck_ref rfl) (by dsimp only [putD, List.set]) ?_)
  first | (refine da_quiet (some 7) rfl rfl rfl rfl (fun s hs => op_fieldP rfl ffld1_coverabilityplay_Dice (by decide)) (by dsimp only [putD, List.set]) ?_) | (refine da_quiet (some 7) rfl rfl rfl rfl (fun s hs => op_fieldR rfl ffld1_coverabilityplay_Dice (by decide) (by decide) rfl) (by dsimp only [putD, List.set]) ?_)
  first | (refine da_quiet (some 8) rfl rfl rfl rfl (fun s hs => op_loadR1 rfl fone_int rfl) (by dsimp only [putD, List.set]) ?_) | (refine da_quiet (some 8) rfl rfl rfl rfl (by intro s hs; simp only [List.mem_cons, List.not_mem_nil, or_false] at hs; rcases hs with rfl <;> exact op_loadP1 rfl fone_int rfl rfl) (by dsimp only [putD, List.set]) ?_)
  refine da_mv 0 9 rfl rfl rfl (.inl rfl) rfl (by dsimp only [List.set]) ?_
  first | (refine da_quiet (some 10) rfl rfl rfl rfl (fun s hs => op_nilCheck_ptr rfl) (by dsimp only [putD, List.set]) ?_) | (refine da_quiet (some 10) rfl rfl rfl rfl (fun s hs => op_nilCheck_ref rfl) (by dsimp only [putD, List.set]) ?_)
  first | (refine da_quiet (some 11) rfl rfl rfl rfl (fun s hs => op_fieldP rfl ffld0_coverabilityplay_Dice (by decide)) (by dsimp only [putD, List.set]) ?_) | (refine da_quiet (some 11) rfl rfl rfl rfl (fun s hs => op_fieldR rfl ffld0_coverabilityplay_Dice (by decide) (by decide) rfl) (by dsimp only [putD, List.set]) ?_)
  first | (refine da_quiet (some 12) rfl rfl rfl rfl (fun s hs => op_loadR1 rfl fone_Suint8 rfl) (by dsimp only [putD, List.set]) ?_) | (refine da_quiet (some 12) rfl rfl rfl rfl (by intro s hs; simp only [List.mem_cons, List.not_mem_nil, or_false] at hs; rcases hs with rfl <;> exact op_loadP1 rfl fone_Suint8 rfl rfl) (by dsimp only [putD, List.set]) ?_)
  first | (refine da_quiet (some 13) rfl rfl rfl rfl (fun s hs => op_lenL rfl fu_Suint8) (by dsimp only [putD, List.set]) ?_) | (refine da_quiet (some 13) rfl rfl rfl rfl (fun s hs => opOK_un (op_lenL rfl fu_Suint8)) (by dsimp only [putD, List.set]) ?_) | (refine da_quiet (some 13) rfl rfl rfl rfl (fun s hs => op_lenA rfl fu_Suint8) (by dsimp only [putD, List.set]) ?_)
  refine da_quiet (some 14) rfl rfl rfl rfl (fun s hs => op_binI rfl rfl) (by dsimp only [putD, List.set]) ?_
  refine da_end rfl ⟨by decide +kernel, _, rfl, ?_⟩
  refine at_cond [1, 0, 1, 0] [1, 0, 1, 1] rfl rfl (fun hc1 => ?_) (fun hc1 => ?_)
  · skip
    have hge : s.length ≤ k := by simpa using hc1
    have e1 : pkV s k n = 0 := by simp [pkV, hge]
    have e2 : pkAt s k = k := by unfold pkAt; rw [if_neg (by omega)]
    rw [e1, e2]
    refine at_seq [1, 0, 1, 0, 0] [1, 0, 1, 0, 1] rfl ?_
    refine at_region rfl ?_
    refine at_mc 4 rfl rfl rfl (.inr rfl) (by dsimp only [constD]) (by dsimp only [List.set]) ?_
    refine at_end rfl ?_
    refine at_ret rfl (ret_one1 (t := 4) (os := _) rfl rfl ?_ rfl ?_ rfl)
    all_goals rfl
  · skip
    have hlt : k < s.length := by simpa using hc1
    obtain ⟨x, hx⟩ := get_ex hlt
    have e1 : pkV s k n = x.tmod n := by simp [pkV, hx]
    have e2 : pkAt s k = k + 1 := by unfold pkAt; rw [if_pos hlt]
    rw [e1, e2]
    have hx2 := hb x (List.mem_of_getElem? hx)
    refine at_skip rfl ?_
    refine at_seq [1, 1, 0] [1, 1, 1] rfl ?_
    refine at_region rfl ?_
    refine at_mv 0 15 rfl rfl rfl (.inl rfl) rfl (by dsimp only [List.set]) ?_
    first | (refine at_op (some 16) rfl rfl rfl rfl (op_nilCheck_ptr rfl) (by dsimp only [putD, List.set]) ?_) | (refine at_op (some 16) rfl rfl rfl rfl (op_nilCheck_ref rfl) (by dsimp only [putD, List.set]) ?_)
    first | (refine at_op (some 17) rfl rfl rfl rfl (op_fieldP rfl ffld1_coverabilityplay_Dice (by decide)) (by dsimp only [putD, List.set]) ?_) | (refine at_op (some 17) rfl rfl rfl rfl (op_fieldR rfl ffld1_coverabilityplay_Dice (by decide) (by decide) rfl) (by dsimp only [putD, List.set]) ?_)
    first | (refine at_op (some 18) rfl rfl rfl rfl (op_loadR1 rfl fone_int rfl) (by dsimp only [putD, List.set]) ?_) | (refine at_op (some 18) rfl rfl rfl rfl (op_loadP1 rfl fone_int rfl rfl) (by dsimp only [putD, List.set]) ?_)
    refine at_op (some 19) rfl rfl rfl rfl (op_binI rfl rfl) (by dsimp only [putD, List.set]) ?_
    rw [wrap_succ (by omega)]
    first | (refine at_op (some 20) rfl rfl rfl rfl (op_nilCheck_ptr rfl) (by dsimp only [putD, List.set]) ?_) | (refine at_op (some 20) rfl rfl rfl rfl (op_nilCheck_ref rfl) (by dsimp only [putD, List.set]) ?_)
    first | (refine at_op (some 21) rfl rfl rfl rfl (op_fieldP rfl ffld1_coverabilityplay_Dice (by decide)) (by dsimp only [putD, List.set]) ?_) | (refine at_op (some 21) rfl rfl rfl rfl (op_fieldR rfl ffld1_coverabilityplay_Dice (by decide) (by decide) rfl) (by dsimp only [putD, List.set]) ?_)
    refine at_st1 21 (.tmp 19) rfl rfl rfl rfl rfl (ev_tmp rfl) rfl fone_int rfl (by first | decide | simp | (simp; omega)) (by dsimp only [List.set, List.append, List.cons_append, List.nil_append, cellsD, List.map, repl, List.length, Nat.reduceAdd, if_true, ↓reduceIte]; first | done | rfl) ?_
    refine at_end rfl ?_
    refine at_seq [1, 1, 1, 0] [1, 1, 1, 1] rfl ?_
    refine at_draw mixed rfl [⟨[some [dus s, di ↑(k + 1)]], []⟩] rfl ?_
    refine da_mv 0 22 rfl rfl rfl (.inl rfl) rfl (by dsimp only [List.set]) ?_
    first | (refine da_quiet (some 23) rfl rfl rfl rfl (fun s hs => op_nilCheck_ptr rfl) (by dsimp only [putD, List.set]) ?_) | (refine da_quiet (some 23) rfl rfl rfl rfl (fun s hs => op_nilCheck_ref rfl) (by dsimp only [putD, List.set]) ?_)
    first | (refine da_quiet (some 24) rfl rfl rfl rfl (fun s hs => op_fieldP rfl ffld0_coverabilityplay_Dice (by decide)) (by dsimp only [putD, List.set]) ?_) | (refine da_quiet (some 24) rfl rfl rfl rfl (fun s hs => op_fieldR rfl ffld0_coverabilityplay_Dice (by decide) (by decide) rfl) (by dsimp only [putD, List.set]) ?_)
    first | (refine da_quiet (some 25) rfl rfl rfl rfl (fun s hs => op_loadR1 rfl fone_Suint8 rfl) (by dsimp only [putD, List.set]) ?_) | (refine da_quiet (some 25) rfl rfl rfl rfl (by intro s hs; simp only [List.mem_cons, List.not_mem_nil, or_false] at hs; rcases hs with rfl <;> exact op_loadP1 rfl fone_Suint8 rfl rfl) (by dsimp only [putD, List.set]) ?_)
    refine da_mv 0 26 rfl rfl rfl (.inl rfl) rfl (by dsimp only [List.set]) ?_
    first | (refine da_quiet (some 27) rfl rfl rfl rfl (fun s hs => op_nilCheck_ptr rfl) (by dsimp only [putD, List.set]) ?_) | (refine da_quiet (some 27) rfl rfl rfl rfl (fun s hs => op_nilCheck_ref rfl) (by dsimp only [putD, List.set]) ?_)
    first | (refine da_quiet (some 28) rfl rfl rfl rfl (fun s hs => op_fieldP rfl ffld1_coverabilityplay_Dice (by decide)) (by dsimp only [putD, List.set]) ?_) | (refine da_quiet (some 28) rfl rfl rfl rfl (fun s hs => op_fieldR rfl ffld1_coverabilityplay_Dice (by decide) (by decide) rfl) (by dsimp only [putD, List.set]) ?_)
    first | (refine da_quiet (some 29) rfl rfl rfl rfl (fun s hs => op_loadR1 rfl fone_int rfl) (by dsimp only [putD, List.set]) ?_) | (refine da_quiet (some 29) rfl rfl rfl rfl (by intro s hs; simp only [List.mem_cons, List.not_mem_nil, or_false] at hs; rcases hs with rfl <;> exact op_loadP1 rfl fone_int rfl rfl) (by dsimp only [putD, List.set]) ?_)
    refine da_quiet (some 30) rfl rfl rfl rfl (fun s hs => op_binI rfl rfl) (by dsimp only [putD, List.set]) ?_
    rw [show ((k + 1 : Nat) : Int) - 1 = (k : Int) by omega, wrap_id (by omega) (by omega)]
    first | (refine da_quiet (some 31) rfl rfl rfl rfl (fun s hs => op_idxL rfl fsl_Suint8 (by first | decide | omega) (by first | assumption | exact idx_some (by assumption) | rfl) (by first | rfl | (simp [V.size]; done))) (by dsimp only [putD, List.set]) ?_) | (refine da_quiet (some 31) rfl rfl rfl rfl (fun s hs => opOK_un (op_idxL rfl fsl_Suint8 (by first | decide | omega) (by first | assumption | exact idx_some (by assumption) | rfl) (by first | rfl | (simp [V.size]; done)))) (by dsimp only [putD, List.set]) ?_) | (refine da_quiet (some 31) rfl rfl rfl rfl (fun s hs => op_idxA rfl fsl_Suint8 (by first | decide | omega) (by first | decide | omega)) (by dsimp only [putD, List.set]) ?_)
    first | (refine da_quiet (some 32) rfl rfl rfl rfl (fun s hs => op_loadR1 rfl fone_uint8 rfl) (by dsimp only [putD, List.set]) ?_) | (refine da_quiet (some 32) rfl rfl rfl rfl (by intro s hs; simp only [List.mem_cons, List.not_mem_nil, or_false] at hs; rcases hs with rfl <;> exact op_loadP1 rfl fone_uint8 rfl rfl) (by dsimp only [putD, List.set]) ?_)
    refine da_quiet (some 33) rfl rfl rfl rfl (fun s hs => op_convI rfl fu_uint8 fu_int) (by dsimp only [putD, List.set]) ?_
    rw [wrap_id (by omega) (by omega)]
    refine da_mv 1 34 rfl rfl rfl (.inl rfl) rfl (by dsimp only [List.set]) ?_
    refine da_quiet (some 35) rfl rfl rfl rfl (fun s hs => op_quoI rfl rfl (by first | decide | omega | assumption)) (by dsimp only [putD, List.set]) ?_
    refine da_mv 35 4 rfl rfl rfl (.inr rfl) rfl (by dsimp only [List.set]) ?_
    refine da_end rfl ⟨by decide +kernel, _, rfl, ?_⟩
    refine at_ret rfl (ret_one1 (t := 4) (os := _) rfl rfl ?_ rfl ?_ rfl)
    all_goals rfl

end Go.Proofs.YtmdipbhjhkckjaaGreat

namespace Go.Proofs.YtmdipbhjhkckjaaGreat
open Go.Dv

def nM (s : List Int) (k : Nat) : Nat := (1 + pkV s k 6).toNat
theorem nM_eq {s : List Int} (hb : BytesOK s) (k : Nat) : 1 + pkV s k 6 = (nM s k : Int) := by
  have := pkV_range hb k (n := 6) (by omega); unfold nM; omega
theorem nM_range {s : List Int} (hb : BytesOK s) (k : Nat) : 1 ≤ nM s k ∧ nM s k ≤ 6 := by
  have := pkV_range hb k (n := 6) (by omega); unfold nM; omega
/-- while the arcs of configuration `i` are dealt -/
abbrev giSt (s : List Int) (k : Nat) (C : List V) (A : List (List Arc)) (acc : List Arc) : St :=
  ⟨[some [.v (.list (s.map vu)), .v (.int .i64 (k : Int))], some [.v .nils, .v .nils], some [.acc 1 C, .acc 2 (A.map vArcs)]], [(3, 2, acc.map vArc), (2, 1, A.map vArcs), (1, 2, C)]⟩
abbrev goSt (s : List Int) (k : Nat) (C : List V) (A : List (List Arc)) : St :=
  ⟨[some [.v (.list (s.map vu)), .v (.int .i64 (k : Int))], some [.v .nils, .v .nils], some [.acc 1 C, .acc 2 (A.map vArcs)]], [(2, 1, A.map vArcs), (1, 2, C)]⟩
theorem ret_graph {P : Program} {fn : Func} {env : List D} {s : List Int} {k n : Nat} {A : List (List Arc)} {c : Option (List D)} {own : List (Nat × Nat × List V)} {ty : TypeId} (hr : fn.results.toList = [.cell 2 ty]) (ht : AggTy P ty 2) (he : env[2]? = some (.ptr 1 0)) :
    ResOK P fn env ⟨[some [.v (.list (s.map vu)), .v (.int .i64 (k : Int))], some [.v (.list (vCfgs n)), .v (.list (A.map vArcs))], c], own⟩ (.v (vG n A)) (dice s k) := by
  refine res_ok (ds := [.v (vG n A)]) ?_ rfl 1 rfl (by simp) (fun i cs hi => ?_) (by simp) rfl
  · rw [hr]
    exact .cellA (n := 2) (cs := [.v (.list (vCfgs n)), .v (.list (A.map vArcs))]) he rfl ht (by simp) rfl .nil
  · match i, hi with
    | 0, hi => simp at hi; subst hi; rfl
    | i + 1, hi => simp at hi
theorem noTag_graph {a : List V} {k : Int} {C A : List V} {i : Nat} {cs : List D} (h : [some [.v (.list a), .v (.int .i64 k)], some [.v .nils, .v .nils], some [.acc 1 C, .acc 2 A]][i]? = some (some cs)) : ∀ d ∈ cs, d.noTag 3 = true := by
  match i, h with
  | 0, h => simp at h; subst h; simp [D.noTag]
  | 1, h => simp at h; subst h; simp [D.noTag]
  | 2, h => simp at h; subst h; simp [D.noTag]
  | i + 3, h => simp at h

noncomputable def cGraph : Code := Tryz.f18.body.getD .skip
set_option maxRecDepth 20000 in
theorem graph_inner (R : List D → St → Prop) (K : List KI) (s : List Int) (hb : BytesOK s) (hs : s.length ≤ 200) (n : Nat) (hn : 1 ≤ n ∧ n ≤ 6) (i : Nat) (C : List V) (A : List (List Arc)) (T : List Arc × Nat) (hk : Run PP R K ((.ptr 0 0) :: .undef :: (.ptr 1 0) :: (.ptr 2 0) :: (di ↑n) :: (di ↑i) :: (.acc 3 (T.1.map vArc)) :: .undef :: .undef :: .undef :: .undef :: .undef :: .undef :: .undef :: .undef :: .undef :: .undef :: .undef :: .undef :: .undef :: .undef :: .undef :: .undef :: .undef :: .undef :: .undef :: .undef :: .undef :: .undef :: .undef :: .undef :: .undef :: .undef :: .undef :: .undef :: .undef :: .undef :: .undef :: .undef :: .undef :: .undef :: .undef :: .undef :: .undef :: .undef :: []) (giSt s T.2 C A T.1)) (m : Nat) : ∀ (c k : Nat) (acc : List Arc), c = m → k ≤ 200 → acc.length + c ≤ 10 → T = (acc ++ (arcsM s ↑n c k).1, (arcsM s ↑n c k).2) → Run PP R (.lp (sub cGraph [1, 1, 1, 0, 1, 0, 0, 1, 0, 0, 1, 1, 0, 1, 0, 0]) :: .blk 2 :: K) ((.ptr 0 0) :: .undef :: (.ptr 1 0) :: (.ptr 2 0) :: (di ↑n) :: (di ↑i) :: (.acc 3 (acc.map vArc)) :: (di ↑c) :: .undef :: .undef :: .undef :: .undef :: .undef :: .undef :: .undef :: .undef :: .undef :: .undef :: .undef :: .undef :: .undef :: .undef :: .undef :: .undef :: .undef :: .undef :: .undef :: .undef :: .undef :: .undef :: .undef :: .undef :: .undef :: .undef :: .undef :: .undef :: .undef :: .undef :: .undef :: .undef :: .undef :: .undef :: .undef :: .undef :: .undef :: []) (giSt s k C A acc) := by
  induction m using Nat.strongRecOn with
  | _ m ih =>
    intro c k acc hm hk2 hac hT
    refine run_lp ?_
    refine at_seq [1, 1, 1, 0, 1, 0, 0, 1, 0, 0, 1, 1, 0, 1, 0, 0, 0] [1, 1, 1, 0, 1, 0, 0, 1, 0, 0, 1, 1, 0, 1, 0, 0, 1] rfl ?_
    refine at_seq [1, 1, 1, 0, 1, 0, 0, 1, 0, 0, 1, 1, 0, 1, 0, 0, 0, 0] [1, 1, 1, 0, 1, 0, 0, 1, 0, 0, 1, 1, 0, 1, 0, 0, 0, 1] rfl ?_
    refine at_region rfl ?_
    refine at_mv 7 25 rfl rfl rfl (.inl rfl) rfl (by dsimp only [List.set]) ?_
    refine at_op (some 26) rfl rfl rfl rfl (op_binI rfl rfl) (by dsimp only [putD, List.set]) ?_
    refine at_end rfl ?_
    refine at_cond [1, 1, 1, 0, 1, 0, 0, 1, 0, 0, 1, 1, 0, 1, 0, 0, 0, 1, 0] [1, 1, 1, 0, 1, 0, 0, 1, 0, 0, 1, 1, 0, 1, 0, 0, 0, 1, 1] rfl rfl (fun hc1 => ?_) (fun hc1 => ?_)
    · skip
      obtain ⟨c', rfl⟩ : ∃ c', c = c' + 1 := ⟨c - 1, by simp at hc1; omega⟩
      have hk3 := pkAt_lt hk2 hs
      have hk4 := pkAt_lt hk3 hs
      simp only [arcsM] at hT
      refine at_skip rfl ?_
      refine at_seq [1, 1, 1, 0, 1, 0, 0, 1, 0, 0, 1, 1, 0, 1, 0, 0, 1, 0] [1, 1, 1, 0, 1, 0, 0, 1, 0, 0, 1, 1, 0, 1, 0, 0, 1, 1] rfl ?_
      refine at_block [1, 1, 1, 0, 1, 0, 0, 1, 0, 0, 1, 1, 0, 1, 0, 0, 1, 0, 0] 3 rfl ?_
      refine at_region rfl ?_
      refine at_mv 6 29 rfl rfl rfl (.inl rfl) rfl (by dsimp only [List.set]) ?_
      refine at_mv 0 30 rfl rfl rfl (.inl rfl) rfl (by dsimp only [List.set]) ?_
      refine at_opS (some 31) rfl rfl rfl rfl (op_call1 rfl rfl rfl rfl rfl (.ptr (.pl rfl .nil)) rfl (pick_spec s hb hs _ (by omega) _ (by omega))) (by dsimp only [putD, List.set]) (by dsimp only [List.set, List.append, List.cons_append, List.nil_append, cellsD, List.map, repl, List.length, Nat.reduceAdd, if_true, ↓reduceIte]; first | done | rfl) ?_
      refine at_mv 0 32 rfl rfl rfl (.inl rfl) rfl (by dsimp only [List.set]) ?_
      refine at_mv 4 33 rfl rfl rfl (.inl rfl) rfl (by dsimp only [List.set]) ?_
      refine at_opS (some 34) rfl rfl rfl rfl (op_call1 rfl rfl rfl rfl rfl (.ptr (.pl rfl .nil)) rfl (pick_spec s hb hs _ (by omega) _ (by omega))) (by dsimp only [putD, List.set]) (by dsimp only [List.set, List.append, List.cons_append, List.nil_append, cellsD, List.map, repl, List.length, Nat.reduceAdd, if_true, ↓reduceIte]; first | done | rfl) ?_
      refine at_op (some 35) rfl rfl rfl rfl (op_build rfl fbld_api_Arc rfl rfl) (by dsimp only [putD, List.set]) ?_
      try dsimp only [V.cellsV, List.take, List.drop, List.cons_append, List.nil_append, List.length]
      refine at_op (some 36) rfl rfl rfl rfl (op_buildSlice rfl (by rfl) (by rfl) fsl_Sapi_Arc rfl rfl (by simp [V.size]) (by decide) (by decide) (by decide)) (by dsimp only [putD, List.set]) ?_
      refine at_opS (some 37) rfl rfl rfl rfl (op_append rfl fsl_Sapi_Arc rfl (by simp) (by simp [V.size]) (by simp; omega) (by simp; omega)) (by dsimp only [putD, List.set]) (by dsimp only [List.set, List.append, List.cons_append, List.nil_append, cellsD, List.map, repl, List.length, Nat.reduceAdd, if_true, ↓reduceIte]; first | done | rfl) ?_
      refine at_mv 37 6 rfl rfl rfl (.inr rfl) rfl (by dsimp only [List.set]) ?_
      refine at_end rfl ?_
      refine run_blk ?_
      refine at_region rfl ?_
      refine at_mv 7 27 rfl rfl rfl (.inl rfl) rfl (by dsimp only [List.set]) ?_
      refine at_op (some 28) rfl rfl rfl rfl (op_binI rfl rfl) (by dsimp only [putD, List.set]) ?_
      rw [wrap_id (by omega) (by omega), show ((c' + 1 : Nat) : Int) - 1 = (c' : Int) by omega]
      refine at_mv 28 7 rfl rfl rfl (.inr rfl) rfl (by dsimp only [List.set]) ?_
      refine at_end rfl ?_
      rw [show (acc.map vArc ++ [.agg [.int .i64 (pkV s k 3), .int .i64 (pkV s (pkAt s k) ↑n)]]) = (acc ++ [(pkV s k 3, pkV s (pkAt s k) ↑n)]).map vArc by simp]
      exact run_wk (.keep (.drop (.keep (.keep (.keep (.keep (.keep (.keep (.drop (.drop (.drop (.drop (.drop (.drop (.drop (.drop (.drop (.drop (.drop (.drop (.drop (.drop (.drop (.drop (.drop (.drop (.drop (.drop (.drop (.drop (.drop (.drop (.drop (.drop (.drop (.drop (.drop (.drop (.drop (.drop (.drop (.drop (.drop (.drop (.drop .nil))))))))))))))))))))))))))))))))))))))))))))) (ih _ (by omega) c' (pkAt s (pkAt s k)) _ rfl (by omega) (by simp; omega) (by rw [hT]; simp))
    · skip
      have hc0 : c = 0 := by simp at hc1; omega
      subst hc0
      simp only [arcsM, List.append_nil] at hT
      rw [hT] at hk
      refine at_exit rfl rfl ?_
      exact run_wk (.keep (.drop (.keep (.keep (.keep (.keep (.keep (.drop (.drop (.drop (.drop (.drop (.drop (.drop (.drop (.drop (.drop (.drop (.drop (.drop (.drop (.drop (.drop (.drop (.drop (.drop (.drop (.drop (.drop (.drop (.drop (.drop (.drop (.drop (.drop (.drop (.drop (.drop (.drop (.drop (.drop (.drop (.drop (.drop (.drop .nil))))))))))))))))))))))))))))))))))))))))))))) hk

set_option maxRecDepth 20000 in
theorem graph_outer (s : List Int) (hb : BytesOK s) (hs : s.length ≤ 200) (n : Nat) (hn : 1 ≤ n ∧ n ≤ 6) (T : List (List Arc) × Nat) (m : Nat) : ∀ (i k : Nat) (A : List (List Arc)), n - i = m → i ≤ n → A.length = i → k ≤ 200 → T = (A ++ (graphM s ↑n (n - i) k).1, (graphM s ↑n (n - i) k).2) → Run PP (fun env σ1 => ResOK PP Tryz.f18 env σ1 (.v (vG n T.1)) (dice s T.2)) [.lp (sub cGraph [1, 1, 1, 0, 1, 0, 0]), .blk 0, .code (sub cGraph [1, 1, 1, 1])] ((.ptr 0 0) :: .undef :: (.ptr 1 0) :: (.ptr 2 0) :: (di ↑n) :: (di ↑i) :: .undef :: .undef :: .undef :: .undef :: .undef :: .undef :: .undef :: .undef :: .undef :: .undef :: .undef :: .undef :: .undef :: .undef :: .undef :: .undef :: .undef :: .undef :: .undef :: .undef :: .undef :: .undef :: .undef :: .undef :: .undef :: .undef :: .undef :: .undef :: .undef :: .undef :: .undef :: .undef :: .undef :: .undef :: .undef :: .undef :: .undef :: .undef :: .undef :: []) (goSt s k (vCfgs i) A) := by
  induction m using Nat.strongRecOn with
  | _ m ih =>
    intro i k A hm hi hA hk hT
    refine run_lp ?_
    refine at_seq [1, 1, 1, 0, 1, 0, 0, 0] [1, 1, 1, 0, 1, 0, 0, 1] rfl ?_
    refine at_seq [1, 1, 1, 0, 1, 0, 0, 0, 0] [1, 1, 1, 0, 1, 0, 0, 0, 1] rfl ?_
    refine at_region rfl ?_
    refine at_mv 5 11 rfl rfl rfl (.inl rfl) rfl (by dsimp only [List.set]) ?_
    refine at_mv 4 12 rfl rfl rfl (.inl rfl) rfl (by dsimp only [List.set]) ?_
    refine at_op (some 13) rfl rfl rfl rfl (op_binI rfl rfl) (by dsimp only [putD, List.set]) ?_
    refine at_end rfl ?_
    refine at_cond [1, 1, 1, 0, 1, 0, 0, 0, 1, 0] [1, 1, 1, 0, 1, 0, 0, 0, 1, 1] rfl rfl (fun hc1 => ?_) (fun hc1 => ?_)
    · skip
      have hlt : i < n := by simp at hc1; omega
      obtain ⟨r, hr⟩ : ∃ r, n - i = r + 1 := ⟨n - i - 1, by omega⟩
      rw [hr] at hT
      simp only [graphM] at hT
      have hk1 := pkAt_lt hk hs
      have hp := pkV_range hb k (n := 4) (by omega)
      obtain ⟨c0, hc0⟩ := Int.eq_ofNat_of_zero_le hp.1
      rw [hc0] at hp hT
      rw [Int.toNat_natCast] at hT
      refine at_skip rfl ?_
      refine at_seq [1, 1, 1, 0, 1, 0, 0, 1, 0] [1, 1, 1, 0, 1, 0, 0, 1, 1] rfl ?_
      refine at_block [1, 1, 1, 0, 1, 0, 0, 1, 0, 0] 1 rfl ?_
      refine at_seq [1, 1, 1, 0, 1, 0, 0, 1, 0, 0, 0] [1, 1, 1, 0, 1, 0, 0, 1, 0, 0, 1] rfl ?_
      refine at_region rfl ?_
      first | (refine at_op (some 16) rfl rfl rfl rfl (op_fieldP rfl ffld0_api_Graph (by decide)) (by dsimp only [putD, List.set]) ?_) | (refine at_op (some 16) rfl rfl rfl rfl (op_fieldR rfl ffld0_api_Graph (by decide) (by decide) rfl) (by dsimp only [putD, List.set]) ?_)
      refine at_op (some 17) rfl rfl rfl rfl (op_loadP1 rfl fone_Sapi_Value rfl rfl) (by dsimp only [putD, List.set]) ?_
      refine at_mv 5 18 rfl rfl rfl (.inl rfl) rfl (by dsimp only [List.set]) ?_
      refine at_op (some 19) rfl rfl rfl rfl (op_buildN rfl fbldN_api_Value rfl rfl) (by dsimp only [putD, List.set]) ?_
      try dsimp only [V.cellsV, List.take, List.drop, List.cons_append, List.nil_append, List.length]
      refine at_op (some 20) rfl rfl rfl rfl (op_buildSlice rfl (by rfl) (by rfl) fsl_Sapi_Value rfl rfl (by simp [V.size]) (by decide) (by decide) (by decide)) (by dsimp only [putD, List.set]) ?_
      refine at_opS (some 21) rfl rfl rfl rfl (op_append rfl fsl_Sapi_Value rfl (by simp) (by simp [V.size]) (by simp; omega) (by simp; omega)) (by dsimp only [putD, List.set]) (by dsimp only [List.set, List.append, List.cons_append, List.nil_append, cellsD, List.map, repl, List.length, Nat.reduceAdd, if_true, ↓reduceIte]; first | done | rfl) ?_
      first | (refine at_op (some 22) rfl rfl rfl rfl (op_fieldP rfl ffld0_api_Graph (by decide)) (by dsimp only [putD, List.set]) ?_) | (refine at_op (some 22) rfl rfl rfl rfl (op_fieldR rfl ffld0_api_Graph (by decide) (by decide) rfl) (by dsimp only [putD, List.set]) ?_)
      refine at_st1 22 (.tmp 21) rfl rfl rfl rfl rfl (ev_tmp rfl) rfl fone_Sapi_Value rfl (by first | decide | simp | (simp; omega)) (by dsimp only [List.set, List.append, List.cons_append, List.nil_append, cellsD, List.map, repl, List.length, Nat.reduceAdd, if_true, ↓reduceIte]; first | done | rfl) ?_
      refine at_end rfl ?_
      rw [show (vCfgs i ++ [.agg [.int .i64 ↑i, .nils]]) = vCfgs (i + 1) from (cfgs_succ i).symm]
      refine at_seq [1, 1, 1, 0, 1, 0, 0, 1, 0, 0, 1, 0] [1, 1, 1, 0, 1, 0, 0, 1, 0, 0, 1, 1] rfl ?_
      refine at_region rfl ?_
      refine at_opS (some 6) rfl rfl rfl rfl (op_nilOwn (.inl rfl) 3 2 (by simp) (by decide)) (by dsimp only [putD, List.set]) (by dsimp only [List.set, List.append, List.cons_append, List.nil_append, cellsD, List.map, repl, List.length, Nat.reduceAdd, if_true, ↓reduceIte]; first | done | rfl) ?_
      refine at_end rfl ?_
      refine at_seq [1, 1, 1, 0, 1, 0, 0, 1, 0, 0, 1, 1, 0] [1, 1, 1, 0, 1, 0, 0, 1, 0, 0, 1, 1, 1] rfl ?_
      refine at_seq [1, 1, 1, 0, 1, 0, 0, 1, 0, 0, 1, 1, 0, 0] [1, 1, 1, 0, 1, 0, 0, 1, 0, 0, 1, 1, 0, 1] rfl ?_
      refine at_region rfl ?_
      refine at_mv 0 23 rfl rfl rfl (.inl rfl) rfl (by dsimp only [List.set]) ?_
      refine at_opS (some 24) rfl rfl rfl rfl (op_call1 rfl rfl rfl rfl rfl (.ptr (.pl rfl .nil)) rfl (pick_spec s hb hs _ (by omega) _ (by omega))) (by dsimp only [putD, List.set]) (by dsimp only [List.set, List.append, List.cons_append, List.nil_append, cellsD, List.map, repl, List.length, Nat.reduceAdd, if_true, ↓reduceIte]; first | done | rfl) ?_
      refine at_mv 24 7 rfl rfl rfl (.inr rfl) rfl (by dsimp only [List.set]) ?_
      refine at_end rfl ?_
      rw [show pkV s k 4 = (c0 : Int) from hc0]
      refine at_block [1, 1, 1, 0, 1, 0, 0, 1, 0, 0, 1, 1, 0, 1, 0] 2 rfl ?_
      refine at_loop [1, 1, 1, 0, 1, 0, 0, 1, 0, 0, 1, 1, 0, 1, 0, 0] rfl ?_
      skip
      refine run_wk (.keep (.drop (.keep (.keep (.keep (.keep (.keep (.keep (.drop (.drop (.drop (.drop (.drop (.drop (.drop (.drop (.drop (.drop (.drop (.drop (.drop (.drop (.drop (.drop (.drop (.drop (.drop (.drop (.drop (.drop (.drop (.drop (.drop (.drop (.drop (.drop (.drop (.drop (.drop (.drop (.drop (.drop (.drop (.drop (.drop .nil))))))))))))))))))))))))))))))))))))))))))))) (graph_inner _ _ s hb hs n hn i (vCfgs (i + 1)) A (arcsM s ↑n c0 (pkAt s k)) ?_ _ c0 (pkAt s k) [] rfl (by omega) (by simp; omega) (by simp))
      have hk5 := arcsM_at hs ↑n c0 (pkAt s k) (by omega)
      have hl5 := arcsM_length s ↑n c0 (pkAt s k)
      generalize hX : arcsM s ↑n c0 (pkAt s k) = X at hk5 hl5 hT ⊢
      refine at_region rfl ?_
      first | (refine at_op (some 38) rfl rfl rfl rfl (op_fieldP rfl ffld1_api_Graph (by decide)) (by dsimp only [putD, List.set]) ?_) | (refine at_op (some 38) rfl rfl rfl rfl (op_fieldR rfl ffld1_api_Graph (by decide) (by decide) rfl) (by dsimp only [putD, List.set]) ?_)
      refine at_op (some 39) rfl rfl rfl rfl (op_loadP1 rfl fone__5b5d5b5d_api_Arc rfl rfl) (by dsimp only [putD, List.set]) ?_
      refine at_mv 6 40 rfl rfl rfl (.inl rfl) rfl (by dsimp only [List.set]) ?_
      refine at_op (some 41) rfl rfl rfl rfl (op_buildSlice rfl (by rfl) (by rfl) fsl__5b5d5b5d_api_Arc rfl rfl (by simp [V.size]) (by decide) (by decide) (by decide)) (by dsimp only [putD, List.set]) ?_
      refine at_opS (some 42) rfl rfl rfl rfl (op_append rfl fsl__5b5d5b5d_api_Arc rfl (by simp) (by simp [V.size]) (by simp; omega) (by simp; omega)) (by dsimp only [putD, List.set]) (by dsimp only [List.set, List.append, List.cons_append, List.nil_append, cellsD, List.map, repl, List.length, Nat.reduceAdd, if_true, ↓reduceIte]; first | done | rfl) ?_
      first | (refine at_op (some 43) rfl rfl rfl rfl (op_fieldP rfl ffld1_api_Graph (by decide)) (by dsimp only [putD, List.set]) ?_) | (refine at_op (some 43) rfl rfl rfl rfl (op_fieldR rfl ffld1_api_Graph (by decide) (by decide) rfl) (by dsimp only [putD, List.set]) ?_)
      refine at_st1 43 (.tmp 42) rfl rfl rfl rfl rfl (ev_tmp rfl) rfl fone__5b5d5b5d_api_Arc rfl (by first | decide | simp | (simp; omega)) (by dsimp only [List.set, List.append, List.cons_append, List.nil_append, cellsD, List.map, repl, List.length, Nat.reduceAdd, if_true, ↓reduceIte]; first | done | rfl) ?_
      refine at_end rfl ?_
      refine run_blk ?_
      refine at_region rfl ?_
      refine at_mv 5 14 rfl rfl rfl (.inl rfl) rfl (by dsimp only [List.set]) ?_
      refine at_op (some 15) rfl rfl rfl rfl (op_binI rfl rfl) (by dsimp only [putD, List.set]) ?_
      rw [wrap_succ (by omega)]
      refine at_mv 15 5 rfl rfl rfl (.inr rfl) rfl (by dsimp only [List.set]) ?_
      refine at_end rfl ?_
      refine run_wk (.keep (.drop (.keep (.keep (.keep (.keep (.drop (.drop (.drop (.drop (.drop (.drop (.drop (.drop (.drop (.drop (.drop (.drop (.drop (.drop (.drop (.drop (.drop (.drop (.drop (.drop (.drop (.drop (.drop (.drop (.drop (.drop (.drop (.drop (.drop (.drop (.drop (.drop (.drop (.drop (.drop (.drop (.drop (.drop (.drop .nil))))))))))))))))))))))))))))))))))))))))))))) (run_drop 3 (by simp [D.noTag]) (fun i cs h => noTag_graph h) ?_)
      simp only [List.filter_cons, List.filter_nil]
      rw [show (A.map vArcs ++ [vArcs X.1]) = (A ++ [X.1]).map vArcs by simp]
      exact ih (n - (i + 1)) (by omega) (i + 1) X.2 (A ++ [X.1]) rfl (by omega) (by simp; omega) hk5 (by rw [show n - (i + 1) = r by omega, hT]; simp)
    · skip
      have hin : i = n := by simp at hc1; omega
      subst hin
      rw [Nat.sub_self] at hT
      simp only [graphM, List.append_nil] at hT
      refine at_exit rfl rfl ?_
      refine at_seq [1, 1, 1, 1, 0] [1, 1, 1, 1, 1] rfl ?_
      refine at_region rfl ?_
      first | (refine at_op (some 44) rfl rfl rfl rfl (op_loadRA rfl fagg_api_Graph) (by dsimp only [putD, List.set]) ?_) | (refine at_op (some 44) rfl rfl rfl rfl (op_loadPA rfl fagg_api_Graph rfl (by first | decide | simp) rfl) (by dsimp only [putD, List.set]) ?_)
      refine at_stA 2 (.tmp 44) rfl rfl rfl rfl rfl (ev_tmp rfl) rfl fagg_api_Graph rfl rfl (by first | decide | simp | (simp; omega)) (by dsimp only [List.set, List.append, List.cons_append, List.nil_append, cellsD, List.map, repl, List.length, Nat.reduceAdd, if_true, ↓reduceIte]; first | done | rfl) ?_
      refine at_end rfl ?_
      refine at_ret rfl ?_
      rw [hT]
      refine ret_graph (s := s) (k := k) (n := i) (A := A) ?_ fagg_api_Graph ?_ <;> rfl

set_option maxRecDepth 20000 in
theorem graph_spec (s : List Int) (hb : BytesOK s) (hs : s.length ≤ 200) (k : Nat) (hk : k ≤ 200) : FSpec PP 18 [.ptr 0 0] (dice s k) (.v (vG (nM s k) (graphM s ↑(nM s k) (nM s k) (pkAt s k)).1)) (dice s (graphM s ↑(nM s k) (nM s k) (pkAt s k)).2) := by
  have hk1 := pkAt_lt hk hs
  have hp := pkV_range hb k (n := 6) (by omega)
  refine spec_at cGraph Tryz.func18 rfl (by kernel_rfl) (by first | decide | simp) _ (by dsimp only [Tryz.f18, List.length, Nat.reduceAdd, Nat.reduceSub, List.replicate, List.cons_append, List.nil_append]) ?_
  refine at_seq [0] [1] rfl ?_
  refine at_region rfl ?_
  refine at_opS (some 2) rfl rfl rfl rfl (op_allocN rfl fzeroN_api_Graph) (by dsimp only [putD, List.set]) (by dsimp only [List.set, List.append, List.cons_append, List.nil_append, cellsD, List.map, repl, List.length, Nat.reduceAdd, if_true, ↓reduceIte]; first | done | rfl) ?_
  refine at_end rfl ?_
  refine at_seq [1, 0] [1, 1] rfl ?_
  refine at_region rfl ?_
  refine at_opS (some 3) rfl rfl rfl rfl (op_allocN rfl fzeroN_api_Graph) (by dsimp only [putD, List.set]) (by dsimp only [List.set, List.append, List.cons_append, List.nil_append, cellsD, List.map, repl, List.length, Nat.reduceAdd, if_true, ↓reduceIte]; first | done | rfl) ?_
  refine at_end rfl ?_
  refine run_cv (cv_claim 2 0 1 2 (cs := [.v .nils, .v .nils]) rfl rfl (by simp) (by decide)) ?_
  refine run_cv (cv_claim 2 1 2 1 (cs := [.acc 1 [], .v .nils]) rfl rfl (by simp) (by decide)) ?_
  simp only [List.set_cons_succ, List.set_cons_zero]
  refine at_seq [1, 1, 0] [1, 1, 1] rfl ?_
  refine at_region rfl ?_
  refine at_mv 0 8 rfl rfl rfl (.inl rfl) rfl (by dsimp only [List.set]) ?_
  refine at_opS (some 9) rfl rfl rfl rfl (op_call1 rfl rfl rfl rfl rfl (.ptr (.pl rfl .nil)) rfl (pick_spec s hb hs _ (by omega) _ (by omega))) (by dsimp only [putD, List.set]) (by dsimp only [List.set, List.append, List.cons_append, List.nil_append, cellsD, List.map, repl, List.length, Nat.reduceAdd, if_true, ↓reduceIte]; first | done | rfl) ?_
  refine at_op (some 10) rfl rfl rfl rfl (op_binI rfl rfl) (by dsimp only [putD, List.set]) ?_
  rw [wrap_id (by omega) (by omega), nM_eq hb k]
  refine at_mv 10 4 rfl rfl rfl (.inr rfl) rfl (by dsimp only [List.set]) ?_
  refine at_end rfl ?_
  refine at_seq [1, 1, 1, 0] [1, 1, 1, 1] rfl ?_
  refine at_seq [1, 1, 1, 0, 0] [1, 1, 1, 0, 1] rfl ?_
  refine at_region rfl ?_
  refine at_mc 5 rfl rfl rfl (.inr rfl) (by dsimp only [constD]) (by dsimp only [List.set]) ?_
  refine at_end rfl ?_
  refine at_block [1, 1, 1, 0, 1, 0] 0 rfl ?_
  refine at_loop [1, 1, 1, 0, 1, 0, 0] rfl ?_
  try simp only [List.length_map, List.length_nil, Int.toNat_natCast]
  exact run_wk (.keep (.drop (.keep (.keep (.keep (.keep (.drop (.drop (.drop (.drop (.drop (.drop (.drop (.drop (.drop (.drop (.drop (.drop (.drop (.drop (.drop (.drop (.drop (.drop (.drop (.drop (.drop (.drop (.drop (.drop (.drop (.drop (.drop (.drop (.drop (.drop (.drop (.drop (.drop (.drop (.drop (.drop (.drop (.drop (.drop .nil))))))))))))))))))))))))))))))))))))))))))))) (graph_outer s hb hs _ (nM_range hb k) _ _ 0 (pkAt s k) [] rfl (by omega) rfl hk1 (by simp))

end Go.Proofs.YtmdipbhjhkckjaaGreat

namespace Go.Proofs.YtmdipbhjhkckjaaGreat
open Go.Dv

abbrev vn (i : Nat) : V := .int .i64 (i : Int)
abbrev vns (l : List Nat) : List V := l.map vn
abbrev vb (b : Bool) : V := .bool b
abbrev dbl (l : List Bool) : List D := l.map fun b => .v (.bool b)

/-- a graph whose arcs end in it -/
structure GOK (n : Nat) (G : List (List Arc)) : Prop where
  pos : 1 ≤ n
  le : n ≤ 100
  len : G.length = n
  row : ∀ r ∈ G, r.length ≤ 100 ∧ ∀ a ∈ r, 0 ≤ a.2 ∧ a.2 < n

def stepM : List Arc → List Bool → List Nat → List Bool × List Nat
  | [], out, todo => (out, todo)
  | a :: r, out, todo => if out[a.2.toNat]? = some false then stepM r (out.set a.2.toNat true) (todo ++ [a.2.toNat]) else stepM r out todo
def bfsM (G : List (List Arc)) : Nat → List Bool → List Nat → List Bool
  | 0, out, _ => out
  | _ + 1, out, [] => out
  | f + 1, out, x :: todo => bfsM G f (stepM (G.getD x []) out todo).1 (stepM (G.getD x []) out todo).2
def reachM (G : List (List Arc)) (n x : Nat) : List Bool := bfsM G (n + 1) ((List.replicate n false).set x true) [x]

theorem stepM_length : ∀ (r : List Arc) (out : List Bool) (todo : List Nat), (stepM r out todo).1.length = out.length
  | [], _, _ => rfl
  | a :: r, out, todo => by unfold stepM; split <;> simp [stepM_length r]
theorem stepM_lt {n : Nat} : ∀ (r : List Arc) (out : List Bool) (todo : List Nat), (∀ a ∈ r, 0 ≤ a.2 ∧ a.2 < n) → (∀ x ∈ todo, x < n) → ∀ x ∈ (stepM r out todo).2, x < n
  | [], _, _, _, h => h
  | a :: r, out, todo, hr, h => by
    unfold stepM
    have ha := hr a (by simp)
    split
    · exact stepM_lt r _ _ (fun b hb => hr b (by simp [hb])) (fun x hx => by
        rcases List.mem_append.1 hx with h1 | h1
        · exact h x h1
        · simp at h1; omega)
    · exact stepM_lt r _ _ (fun b hb => hr b (by simp [hb])) h
/-- what is still to do falls -/
theorem stepM_count : ∀ (r : List Arc) (out : List Bool) (todo : List Nat), (stepM r out todo).2.length + (stepM r out todo).1.count false = todo.length + out.count false
  | [], _, _ => rfl
  | a :: r, out, todo => by
    unfold stepM
    split
    · rename_i h
      rw [stepM_count r]
      obtain ⟨h1, h2⟩ := List.getElem?_eq_some_iff.1 h
      have := List.count_set (a := true) (b := false) h1
      have hp : 0 < out.count false := List.count_pos_iff.2 (h2 ▸ List.getElem_mem h1)
      rw [this, h2]; simp; omega
    · exact stepM_count r out todo
theorem count_set {out : List Bool} {x : Nat} (h : out[x]? = some false) : (out.set x true).count false + 1 = out.count false := by
  obtain ⟨h1, h2⟩ := List.getElem?_eq_some_iff.1 h
  have := List.count_set (a := true) (b := false) h1
  have hp : 0 < out.count false := List.count_pos_iff.2 (h2 ▸ List.getElem_mem h1)
  rw [this, h2]; simp; omega
theorem noTag_bools {l : List Bool} {k i : Nat} {cs : List D} (h : [some (dbl l)][i]? = some (some cs)) : ∀ d ∈ cs, d.noTag k = true := by
  match i, h with
  | 0, h => simp at h; subst h; intro d hd; simp at hd; rcases hd with ⟨_, rfl⟩ | ⟨_, rfl⟩ <;> rfl
  | i + 1, h => simp at h
theorem dbl_get {l : List Bool} {x : Nat} {b : Bool} (h : l[x]? = some b) : (dbl l)[x]? = some (.v (.bool b)) := by simp [h]
theorem dbl_set (l : List Bool) (x : Nat) (b : Bool) : (dbl l).set x (.v (.bool b)) = dbl (l.set x b) := by simp [List.map_set]
theorem lend_bools {L : Nat → Option (List D)} {q n : Nat} {out : List Bool} (hL : L q = some (dbl out)) (hn : n = out.length) : lends L 1 (.arr q 0 n) (.list (out.map vb)) := by
  subst hn
  refine .inr (.inr ⟨q, 0, 1, dbl out, out.map vb, .inl (by simp), rfl, by decide, fun y hy => (by obtain ⟨b, _, rfl⟩ := List.mem_map.1 hy; rfl), hL, fun j y hj => ?_⟩)
  have hf : (out.map vb).flatMap V.cellsV = out.map vb := by
    clear hj hL
    induction out with
    | nil => rfl
    | cons l to ih => simp only [List.map_cons, List.flatMap_cons, V.cellsV, ih]; rfl
  rw [hf] at hj
  have hj2 := hj
  rw [List.getElem?_map] at hj
  cases hl : out[j]? with
  | none => simp [hl] at hj
  | some l =>
    simp only [hl, Option.map_some, Option.some.injEq] at hj
    subst hj
    exact ⟨rfl, .v (vb l), by simp [hl], _, .same, rfl⟩
theorem stepM_get {G : List (List Arc)} {x : Nat} {r : List Arc} (h : G[x]? = some r) : G.getD x [] = r := by simp [List.getD_eq_getElem?_getD, h]
theorem bools_zero (n : Nat) : List.replicate n (D.v (.bool false)) = dbl (List.replicate n false) := by simp

noncomputable def cReach : Code := Tryz.f38.body.getD .skip
set_option maxRecDepth 20000 in
theorem reach_inner (R : List D → St → Prop) (K : List KI) (n : Nat) (G : List (List Arc)) (hG : GOK n G) (x : Nat) (row : List Arc) (hrow : ∀ a ∈ row, 0 ≤ a.2 ∧ a.2 < n) (hrl : row.length ≤ 100) (T : List Bool × List Nat) (hk : Run PP R K (.undef :: (di ↑x) :: (.v (.ref (vG n G))) :: .undef :: .undef :: (.arr 0 0 n) :: (.acc 1 (vns T.2)) :: .undef :: .undef :: .undef :: .undef :: .undef :: .undef :: .undef :: .undef :: .undef :: .undef :: .undef :: .undef :: .undef :: .undef :: .undef :: .undef :: .undef :: .undef :: .undef :: .undef :: .undef :: .undef :: .undef :: .undef :: .undef :: .undef :: .undef :: .undef :: .undef :: .undef :: .undef :: .undef :: .undef :: .undef :: .undef :: .undef :: .undef :: .undef :: .undef :: .undef :: .undef :: .undef :: .undef :: .undef :: .undef :: .undef :: .undef :: []) ⟨[some (dbl T.1)], [(1, 1, vns T.2)]⟩) (m : Nat) : ∀ (j : Nat) (out : List Bool) (todo : List Nat), row.length - j = m → out.length = n → todo.length + out.count false ≤ 1000 → T = stepM (row.drop j) out todo → Run PP R (.lp (sub cReach [1, 1, 1, 0, 1, 0, 0, 1, 0, 1, 1, 1, 0, 0]) :: .blk 2 :: K) (.undef :: (di ↑x) :: (.v (.ref (vG n G))) :: .undef :: .undef :: (.arr 0 0 n) :: (.acc 1 (vns todo)) :: .undef :: .undef :: .undef :: .undef :: .undef :: .undef :: .undef :: .undef :: .undef :: .undef :: .undef :: .undef :: .undef :: .undef :: .undef :: .undef :: .undef :: .undef :: .undef :: .undef :: .undef :: .undef :: .undef :: .undef :: (.v (vArcs row)) :: (di ↑row.length) :: (di ↑j) :: .undef :: .undef :: .undef :: .undef :: .undef :: .undef :: .undef :: .undef :: .undef :: .undef :: .undef :: .undef :: .undef :: .undef :: .undef :: .undef :: .undef :: .undef :: .undef :: .undef :: []) ⟨[some (dbl out)], [(1, 1, vns todo)]⟩ := by
  induction m using Nat.strongRecOn with
  | _ m ih =>
    intro j out todo hm ho htl hT
    have hn := hG.le
    refine run_lp ?_
    refine at_seq [1, 1, 1, 0, 1, 0, 0, 1, 0, 1, 1, 1, 0, 0, 0] [1, 1, 1, 0, 1, 0, 0, 1, 0, 1, 1, 1, 0, 0, 1] rfl ?_
    refine at_region rfl ?_
    refine at_op (some 34) rfl rfl rfl rfl (op_binI rfl rfl) (by dsimp only [putD, List.set]) ?_
    refine at_end rfl ?_
    refine at_seq [1, 1, 1, 0, 1, 0, 0, 1, 0, 1, 1, 1, 0, 0, 1, 0] [1, 1, 1, 0, 1, 0, 0, 1, 0, 1, 1, 1, 0, 0, 1, 1] rfl ?_
    refine at_cond [1, 1, 1, 0, 1, 0, 0, 1, 0, 1, 1, 1, 0, 0, 1, 0, 0] [1, 1, 1, 0, 1, 0, 0, 1, 0, 1, 1, 1, 0, 0, 1, 0, 1] rfl rfl (fun hc1 => ?_) (fun hc1 => ?_)
    · skip
      have hlt : j < row.length := by simpa using hc1
      obtain ⟨a, ha⟩ := get_ex hlt
      have ha2 := idx_some (f := vArc) ha
      obtain ⟨ha3, ha4⟩ := hrow a (List.mem_of_getElem? ha)
      rw [List.drop_eq_getElem_cons hlt, (List.getElem?_eq_some_iff.1 ha).2] at hT
      obtain ⟨b, hb⟩ := get_ex (a := out) (i := a.2.toNat) (by omega)
      have hb2 := dbl_get hb
      simp only [stepM] at hT
      refine at_skip rfl ?_
      refine at_seq [1, 1, 1, 0, 1, 0, 0, 1, 0, 1, 1, 1, 0, 0, 1, 1, 0] [1, 1, 1, 0, 1, 0, 0, 1, 0, 1, 1, 1, 0, 0, 1, 1, 1] rfl ?_
      refine at_block [1, 1, 1, 0, 1, 0, 0, 1, 0, 1, 1, 1, 0, 0, 1, 1, 0, 0] 3 rfl ?_
      refine at_seq [1, 1, 1, 0, 1, 0, 0, 1, 0, 1, 1, 1, 0, 0, 1, 1, 0, 0, 0] [1, 1, 1, 0, 1, 0, 0, 1, 0, 1, 1, 1, 0, 0, 1, 1, 0, 0, 1] rfl ?_
      refine at_region rfl ?_
      first | (refine at_op (some 35) rfl rfl rfl rfl (op_idxL rfl fsl_Sapi_Arc (by first | decide | omega) (by first | assumption | exact idx_some (by assumption) | rfl) (by first | rfl | (simp [V.size]; done))) (by dsimp only [putD, List.set]) ?_) | (refine at_op (some 35) rfl rfl rfl rfl (opOK_un (op_idxL rfl fsl_Sapi_Arc (by first | decide | omega) (by first | assumption | exact idx_some (by assumption) | rfl) (by first | rfl | (simp [V.size]; done)))) (by dsimp only [putD, List.set]) ?_) | (refine at_op (some 35) rfl rfl rfl rfl (op_idxA rfl fsl_Sapi_Arc (by first | decide | omega) (by first | decide | omega)) (by dsimp only [putD, List.set]) ?_)
      first | (refine at_op (some 36) rfl rfl rfl rfl (op_loadRA rfl fagg_api_Arc) (by dsimp only [putD, List.set]) ?_) | (refine at_op (some 36) rfl rfl rfl rfl (op_loadPA rfl fagg_api_Arc rfl (by first | decide | simp) rfl) (by dsimp only [putD, List.set]) ?_)
      refine at_new 36 9 rfl rfl rfl rfl fzero_api_Arc rfl rfl rfl rfl (by decide) rfl rfl fagg_api_Arc (by first | rfl | (simp [V.size]; done)) rfl (by simp only [List.length_cons]; omega) (by dsimp only [List.set]) ?_
      refine at_end rfl ?_
      refine at_seq [1, 1, 1, 0, 1, 0, 0, 1, 0, 1, 1, 1, 0, 0, 1, 1, 0, 0, 1, 0] [1, 1, 1, 0, 1, 0, 0, 1, 0, 1, 1, 1, 0, 0, 1, 1, 0, 0, 1, 1] rfl ?_
      refine at_region rfl ?_
      refine at_mv 5 37 rfl rfl rfl (.inl rfl) rfl (by dsimp only [List.set]) ?_
      first | (refine at_op (some 38) rfl rfl rfl rfl (op_fieldP rfl ffld1_api_Arc (by decide)) (by dsimp only [putD, List.set]) ?_) | (refine at_op (some 38) rfl rfl rfl rfl (op_fieldR rfl ffld1_api_Arc (by decide) (by decide) rfl) (by dsimp only [putD, List.set]) ?_)
      first | (refine at_op (some 39) rfl rfl rfl rfl (op_loadR1 rfl fone_int rfl) (by dsimp only [putD, List.set]) ?_) | (refine at_op (some 39) rfl rfl rfl rfl (op_loadP1 rfl fone_int rfl rfl) (by dsimp only [putD, List.set]) ?_)
      first | (refine at_op (some 40) rfl rfl rfl rfl (op_idxL rfl fsl_Sbool (by first | decide | omega) (by first | assumption | exact idx_some (by assumption) | rfl) (by first | rfl | (simp [V.size]; done))) (by dsimp only [putD, List.set]) ?_) | (refine at_op (some 40) rfl rfl rfl rfl (opOK_un (op_idxL rfl fsl_Sbool (by first | decide | omega) (by first | assumption | exact idx_some (by assumption) | rfl) (by first | rfl | (simp [V.size]; done)))) (by dsimp only [putD, List.set]) ?_) | (refine at_op (some 40) rfl rfl rfl rfl (op_idxA rfl fsl_Sbool (by first | decide | omega) (by first | decide | omega)) (by dsimp only [putD, List.set]) ?_)
      simp only [Nat.zero_add, Nat.mul_one]
      refine at_op (some 41) rfl rfl rfl rfl (op_loadP1 rfl fone_bool rfl hb2) (by dsimp only [putD, List.set]) ?_
      refine at_op (some 42) rfl rfl rfl rfl (op_un rfl rfl) (by dsimp only [putD, List.set]) ?_
      refine at_end rfl ?_
      refine at_cond [1, 1, 1, 0, 1, 0, 0, 1, 0, 1, 1, 1, 0, 0, 1, 1, 0, 0, 1, 1, 0] [1, 1, 1, 0, 1, 0, 0, 1, 0, 1, 1, 1, 0, 0, 1, 1, 0, 0, 1, 1, 1] rfl rfl (fun hc2 => ?_) (fun hc2 => ?_)
      · skip
        have hbf : b = false := by simpa using hc2
        subst hbf
        rw [if_pos hb] at hT
        have hcs := count_set hb
        refine at_seq [1, 1, 1, 0, 1, 0, 0, 1, 0, 1, 1, 1, 0, 0, 1, 1, 0, 0, 1, 1, 0, 0] [1, 1, 1, 0, 1, 0, 0, 1, 0, 1, 1, 1, 0, 0, 1, 1, 0, 0, 1, 1, 0, 1] rfl ?_
        refine at_region rfl ?_
        refine at_mv 5 43 rfl rfl rfl (.inl rfl) rfl (by dsimp only [List.set]) ?_
        first | (refine at_op (some 44) rfl rfl rfl rfl (op_fieldP rfl ffld1_api_Arc (by decide)) (by dsimp only [putD, List.set]) ?_) | (refine at_op (some 44) rfl rfl rfl rfl (op_fieldR rfl ffld1_api_Arc (by decide) (by decide) rfl) (by dsimp only [putD, List.set]) ?_)
        first | (refine at_op (some 45) rfl rfl rfl rfl (op_loadR1 rfl fone_int rfl) (by dsimp only [putD, List.set]) ?_) | (refine at_op (some 45) rfl rfl rfl rfl (op_loadP1 rfl fone_int rfl rfl) (by dsimp only [putD, List.set]) ?_)
        first | (refine at_op (some 46) rfl rfl rfl rfl (op_idxL rfl fsl_Sbool (by first | decide | omega) (by first | assumption | exact idx_some (by assumption) | rfl) (by first | rfl | (simp [V.size]; done))) (by dsimp only [putD, List.set]) ?_) | (refine at_op (some 46) rfl rfl rfl rfl (opOK_un (op_idxL rfl fsl_Sbool (by first | decide | omega) (by first | assumption | exact idx_some (by assumption) | rfl) (by first | rfl | (simp [V.size]; done)))) (by dsimp only [putD, List.set]) ?_) | (refine at_op (some 46) rfl rfl rfl rfl (op_idxA rfl fsl_Sbool (by first | decide | omega) (by first | decide | omega)) (by dsimp only [putD, List.set]) ?_)
        simp only [Nat.zero_add, Nat.mul_one]
        refine at_st1 46 (.const _) rfl rfl rfl rfl rfl ((by dsimp only [evD, constD])) rfl fone_bool rfl (by simp; omega) (by dsimp only [List.set, List.append, List.cons_append, List.nil_append, cellsD, List.map, repl, List.length, Nat.reduceAdd, if_true, ↓reduceIte]; first | done | rfl) ?_
        rw [dbl_set]
        refine at_end rfl ?_
        refine at_region rfl ?_
        refine at_mv 6 47 rfl rfl rfl (.inl rfl) rfl (by dsimp only [List.set]) ?_
        first | (refine at_op (some 48) rfl rfl rfl rfl (op_fieldP rfl ffld1_api_Arc (by decide)) (by dsimp only [putD, List.set]) ?_) | (refine at_op (some 48) rfl rfl rfl rfl (op_fieldR rfl ffld1_api_Arc (by decide) (by decide) rfl) (by dsimp only [putD, List.set]) ?_)
        first | (refine at_op (some 49) rfl rfl rfl rfl (op_loadR1 rfl fone_int rfl) (by dsimp only [putD, List.set]) ?_) | (refine at_op (some 49) rfl rfl rfl rfl (op_loadP1 rfl fone_int rfl rfl) (by dsimp only [putD, List.set]) ?_)
        refine at_op (some 50) rfl rfl rfl rfl (op_buildSlice rfl (by rfl) (by rfl) fsl_Sint rfl rfl (by simp [V.size]) (by decide) (by decide) (by decide)) (by dsimp only [putD, List.set]) ?_
        refine at_opS (some 51) rfl rfl rfl rfl (op_append rfl fsl_Sint rfl (by simp) (by simp [V.size]) (by simp; omega) (by simp; omega)) (by dsimp only [putD, List.set]) (by dsimp only [List.set, List.append, List.cons_append, List.nil_append, cellsD, List.map, repl, List.length, Nat.reduceAdd, if_true, ↓reduceIte]; first | done | rfl) ?_
        refine at_mv 51 6 rfl rfl rfl (.inr rfl) rfl (by dsimp only [List.set]) ?_
        refine at_end rfl ?_
        rw [show (vns todo ++ [.int .i64 a.2]) = vns (todo ++ [a.2.toNat]) by simp [Int.toNat_of_nonneg ha3]]
        refine run_blk ?_
        refine at_region rfl ?_
        refine at_op (some 52) rfl rfl rfl rfl (op_binI rfl rfl) (by dsimp only [putD, List.set]) ?_
        rw [wrap_succ (by omega)]
        refine at_mv 52 33 rfl rfl rfl (.inl rfl) rfl (by dsimp only [List.set]) ?_
        refine at_end rfl ?_
        first | exact run_wk (.drop (.keep (.keep (.drop (.drop (.keep (.keep (.drop (.drop (.drop (.drop (.drop (.drop (.drop (.drop (.drop (.drop (.drop (.drop (.drop (.drop (.drop (.drop (.drop (.drop (.drop (.drop (.drop (.drop (.drop (.drop (.keep (.keep (.keep (.drop (.drop (.drop (.drop (.drop (.drop (.drop (.drop (.drop (.drop (.drop (.drop (.drop (.drop (.drop (.drop (.drop (.drop (.drop (.drop .nil)))))))))))))))))))))))))))))))))))))))))))))))))))))) (ih _ (by omega) (j + 1) _ _ rfl (by simp; omega) (by simp; omega) hT) | exact run_wk (.drop (.keep (.keep (.drop (.drop (.keep (.keep (.drop (.drop (.drop (.drop (.drop (.drop (.drop (.drop (.drop (.drop (.drop (.drop (.drop (.drop (.drop (.drop (.drop (.drop (.drop (.drop (.drop (.drop (.drop (.drop (.keep (.keep (.keep (.drop (.drop (.drop (.drop (.drop (.drop (.drop (.drop (.drop (.drop (.drop (.drop (.drop (.drop (.drop (.drop (.drop (.drop (.drop (.drop .nil)))))))))))))))))))))))))))))))))))))))))))))))))))))) (ih _ (by omega) (j + 1) _ _ rfl ho htl hT)
      · skip
        have hbf : b = true := by simpa using hc2
        subst hbf
        rw [if_neg (by rw [hb]; simp)] at hT
        refine at_skip rfl ?_
        refine run_blk ?_
        refine at_region rfl ?_
        refine at_op (some 52) rfl rfl rfl rfl (op_binI rfl rfl) (by dsimp only [putD, List.set]) ?_
        rw [wrap_succ (by omega)]
        refine at_mv 52 33 rfl rfl rfl (.inl rfl) rfl (by dsimp only [List.set]) ?_
        refine at_end rfl ?_
        first | exact run_wk (.drop (.keep (.keep (.drop (.drop (.keep (.keep (.drop (.drop (.drop (.drop (.drop (.drop (.drop (.drop (.drop (.drop (.drop (.drop (.drop (.drop (.drop (.drop (.drop (.drop (.drop (.drop (.drop (.drop (.drop (.drop (.keep (.keep (.keep (.drop (.drop (.drop (.drop (.drop (.drop (.drop (.drop (.drop (.drop (.drop (.drop (.drop (.drop (.drop (.drop (.drop (.drop (.drop (.drop .nil)))))))))))))))))))))))))))))))))))))))))))))))))))))) (ih _ (by omega) (j + 1) _ _ rfl (by simp; omega) (by simp; omega) hT) | exact run_wk (.drop (.keep (.keep (.drop (.drop (.keep (.keep (.drop (.drop (.drop (.drop (.drop (.drop (.drop (.drop (.drop (.drop (.drop (.drop (.drop (.drop (.drop (.drop (.drop (.drop (.drop (.drop (.drop (.drop (.drop (.drop (.keep (.keep (.keep (.drop (.drop (.drop (.drop (.drop (.drop (.drop (.drop (.drop (.drop (.drop (.drop (.drop (.drop (.drop (.drop (.drop (.drop (.drop (.drop .nil)))))))))))))))))))))))))))))))))))))))))))))))))))))) (ih _ (by omega) (j + 1) _ _ rfl ho htl hT)
    · skip
      have hge : row.length ≤ j := by simpa using hc1
      rw [List.drop_of_length_le hge] at hT
      simp only [stepM] at hT
      rw [hT] at hk
      refine at_exit rfl rfl ?_
      exact run_wk (.drop (.keep (.keep (.drop (.drop (.keep (.keep (.drop (.drop (.drop (.drop (.drop (.drop (.drop (.drop (.drop (.drop (.drop (.drop (.drop (.drop (.drop (.drop (.drop (.drop (.drop (.drop (.drop (.drop (.drop (.drop (.drop (.drop (.drop (.drop (.drop (.drop (.drop (.drop (.drop (.drop (.drop (.drop (.drop (.drop (.drop (.drop (.drop (.drop (.drop (.drop (.drop (.drop (.drop .nil)))))))))))))))))))))))))))))))))))))))))))))))))))))) hk

set_option maxRecDepth 20000 in
theorem reach_outer (n : Nat) (G : List (List Arc)) (hG : GOK n G) (x : Nat) (T : List Bool) (m : Nat) : ∀ (f : Nat) (out : List Bool) (todo : List Nat), f = m → out.length = n → todo.length + out.count false ≤ f → f ≤ 1000 → (∀ y ∈ todo, y < n) → T = bfsM G f out todo → Run PP (fun env σ1 => ResOK PP Tryz.f38 env σ1 (.v (.list (T.map vb))) σ0) [.lp (sub cReach [1, 1, 1, 0, 1, 0, 0]), .blk 0, .code (sub cReach [1, 1, 1, 1])] (.undef :: (di ↑x) :: (.v (.ref (vG n G))) :: .undef :: .undef :: (.arr 0 0 n) :: (.acc 1 (vns todo)) :: .undef :: .undef :: .undef :: .undef :: .undef :: .undef :: .undef :: .undef :: .undef :: .undef :: .undef :: .undef :: .undef :: .undef :: .undef :: .undef :: .undef :: .undef :: .undef :: .undef :: .undef :: .undef :: .undef :: .undef :: .undef :: .undef :: .undef :: .undef :: .undef :: .undef :: .undef :: .undef :: .undef :: .undef :: .undef :: .undef :: .undef :: .undef :: .undef :: .undef :: .undef :: .undef :: .undef :: .undef :: .undef :: .undef :: .undef :: []) ⟨[some (dbl out)], [(1, 1, vns todo)]⟩ := by
  induction m using Nat.strongRecOn with
  | _ m ih =>
    intro f out todo hm ho htl hf hlt hT
    have hn := hG.le
    refine run_lp ?_
    refine at_seq [1, 1, 1, 0, 1, 0, 0, 0] [1, 1, 1, 0, 1, 0, 0, 1] rfl ?_
    refine at_seq [1, 1, 1, 0, 1, 0, 0, 0, 0] [1, 1, 1, 0, 1, 0, 0, 0, 1] rfl ?_
    refine at_region rfl ?_
    refine at_mv 6 19 rfl rfl rfl (.inl rfl) rfl (by dsimp only [List.set]) ?_
    first | (refine at_op (some 20) rfl rfl rfl rfl (op_lenL rfl fu_Sint) (by dsimp only [putD, List.set]) ?_) | (refine at_op (some 20) rfl rfl rfl rfl (opOK_un (op_lenL rfl fu_Sint)) (by dsimp only [putD, List.set]) ?_) | (refine at_op (some 20) rfl rfl rfl rfl (op_lenA rfl fu_Sint) (by dsimp only [putD, List.set]) ?_)
    refine at_op (some 21) rfl rfl rfl rfl (op_binI rfl rfl) (by dsimp only [putD, List.set]) ?_
    refine at_end rfl ?_
    refine at_cond [1, 1, 1, 0, 1, 0, 0, 0, 1, 0] [1, 1, 1, 0, 1, 0, 0, 0, 1, 1] rfl rfl (fun hc1 => ?_) (fun hc1 => ?_)
    · skip
      obtain ⟨x0, rest, rfl⟩ : ∃ x0 rest, todo = x0 :: rest := by cases todo with | nil => simp at hc1 | cons a l => exact ⟨a, l, rfl⟩
      have hx0 := hlt x0 (by simp)
      obtain ⟨f', rfl⟩ : ∃ f', f = f' + 1 := ⟨f - 1, by simp at htl; omega⟩
      obtain ⟨row, hr⟩ := get_ex (a := G) (i := x0) (by rw [hG.len]; exact hx0)
      have hr2 := idx_some (f := vArcs) hr
      obtain ⟨hrl, hrow⟩ := hG.row row (List.mem_of_getElem? hr)
      refine at_skip rfl ?_
      refine at_block [1, 1, 1, 0, 1, 0, 0, 1, 0] 1 rfl ?_
      refine at_seq [1, 1, 1, 0, 1, 0, 0, 1, 0, 0] [1, 1, 1, 0, 1, 0, 0, 1, 0, 1] rfl ?_
      refine at_region rfl ?_
      refine at_mv 6 22 rfl rfl rfl (.inl rfl) rfl (by dsimp only [List.set]) ?_
      first | (refine at_op (some 23) rfl rfl rfl rfl (op_idxL rfl fsl_Sint (by first | decide | omega) (by first | assumption | exact idx_some (by assumption) | rfl) (by first | rfl | (simp [V.size]; done))) (by dsimp only [putD, List.set]) ?_) | (refine at_op (some 23) rfl rfl rfl rfl (opOK_un (op_idxL rfl fsl_Sint (by first | decide | omega) (by first | assumption | exact idx_some (by assumption) | rfl) (by first | rfl | (simp [V.size]; done)))) (by dsimp only [putD, List.set]) ?_) | (refine at_op (some 23) rfl rfl rfl rfl (op_idxA rfl fsl_Sint (by first | decide | omega) (by first | decide | omega)) (by dsimp only [putD, List.set]) ?_)
      refine at_op (some 24) rfl rfl rfl rfl (op_loadR1 rfl fone_int rfl) (by dsimp only [putD, List.set]) ?_
      refine at_mv 24 7 rfl rfl rfl (.inr rfl) rfl (by dsimp only [List.set]) ?_
      refine at_end rfl ?_
      refine at_seq [1, 1, 1, 0, 1, 0, 0, 1, 0, 1, 0] [1, 1, 1, 0, 1, 0, 0, 1, 0, 1, 1] rfl ?_
      refine at_region rfl ?_
      refine at_mv 6 25 rfl rfl rfl (.inl rfl) rfl (by dsimp only [List.set]) ?_
      refine at_sliceA 25 26 1 1 rfl rfl rfl rfl rfl fsl_Sint rfl (by simp) (by simp) (.drop (.keep (.keep (.drop (.drop (.keep (.drop (.keep (.drop (.drop (.drop (.drop (.drop (.drop (.drop (.drop (.drop (.drop (.drop (.drop (.drop (.drop (.drop (.drop (.drop (.drop (.drop (.drop (.drop (.drop (.drop (.drop (.drop (.drop (.drop (.drop (.drop (.drop (.drop (.drop (.drop (.drop (.drop (.drop (.drop (.drop (.drop (.drop (.drop (.drop (.drop (.drop (.drop (.drop .nil)))))))))))))))))))))))))))))))))))))))))))))))))))))) (by simp [D.noTag]) (fun i cs h => noTag_bools h) (by dsimp only [List.set]) ?_
      rw [show (vns (x0 :: rest)).drop 1 = vns rest from rfl, show List.map (repl 1 1 (vns rest)) [(1, 1, vns (x0 :: rest))] = [(1, 1, vns rest)] from rfl]
      refine at_mv 26 6 rfl rfl rfl (.inr rfl) rfl (by dsimp only [List.set]) ?_
      refine at_end rfl ?_
      refine at_seq [1, 1, 1, 0, 1, 0, 0, 1, 0, 1, 1, 0] [1, 1, 1, 0, 1, 0, 0, 1, 0, 1, 1, 1] rfl ?_
      refine at_region rfl ?_
      first | (refine at_op (some 27) rfl rfl rfl rfl (op_fieldP rfl ffld1_api_Graph (by decide)) (by dsimp only [putD, List.set]) ?_) | (refine at_op (some 27) rfl rfl rfl rfl (op_fieldR rfl ffld1_api_Graph (by decide) (by decide) rfl) (by dsimp only [putD, List.set]) ?_)
      first | (refine at_op (some 28) rfl rfl rfl rfl (op_loadR1 rfl fone__5b5d5b5d_api_Arc rfl) (by dsimp only [putD, List.set]) ?_) | (refine at_op (some 28) rfl rfl rfl rfl (op_loadP1 rfl fone__5b5d5b5d_api_Arc rfl rfl) (by dsimp only [putD, List.set]) ?_)
      refine at_mv 7 29 rfl rfl rfl (.inl rfl) rfl (by dsimp only [List.set]) ?_
      first | (refine at_op (some 30) rfl rfl rfl rfl (op_idxL rfl fsl__5b5d5b5d_api_Arc (by first | decide | omega) (by first | assumption | exact idx_some (by assumption) | rfl) (by first | rfl | (simp [V.size]; done))) (by dsimp only [putD, List.set]) ?_) | (refine at_op (some 30) rfl rfl rfl rfl (opOK_un (op_idxL rfl fsl__5b5d5b5d_api_Arc (by first | decide | omega) (by first | assumption | exact idx_some (by assumption) | rfl) (by first | rfl | (simp [V.size]; done)))) (by dsimp only [putD, List.set]) ?_) | (refine at_op (some 30) rfl rfl rfl rfl (op_idxA rfl fsl__5b5d5b5d_api_Arc (by first | decide | omega) (by first | decide | omega)) (by dsimp only [putD, List.set]) ?_)
      first | (refine at_op (some 31) rfl rfl rfl rfl (op_loadR1 rfl fone_Sapi_Arc rfl) (by dsimp only [putD, List.set]) ?_) | (refine at_op (some 31) rfl rfl rfl rfl (op_loadP1 rfl fone_Sapi_Arc rfl rfl) (by dsimp only [putD, List.set]) ?_)
      first | (refine at_op (some 32) rfl rfl rfl rfl (op_lenL rfl fu_Sapi_Arc) (by dsimp only [putD, List.set]) ?_) | (refine at_op (some 32) rfl rfl rfl rfl (opOK_un (op_lenL rfl fu_Sapi_Arc)) (by dsimp only [putD, List.set]) ?_) | (refine at_op (some 32) rfl rfl rfl rfl (op_lenA rfl fu_Sapi_Arc) (by dsimp only [putD, List.set]) ?_)
      refine at_mc 33 rfl rfl rfl (.inl rfl) (by dsimp only [constD]) (by dsimp only [List.set]) ?_
      refine at_end rfl ?_
      refine at_block [1, 1, 1, 0, 1, 0, 0, 1, 0, 1, 1, 1, 0] 2 rfl ?_
      refine at_loop [1, 1, 1, 0, 1, 0, 0, 1, 0, 1, 1, 1, 0, 0] rfl ?_
      try simp only [List.length_map]
      refine run_wk (.drop (.keep (.keep (.drop (.drop (.keep (.keep (.drop (.drop (.drop (.drop (.drop (.drop (.drop (.drop (.drop (.drop (.drop (.drop (.drop (.drop (.drop (.drop (.drop (.drop (.drop (.drop (.drop (.drop (.drop (.drop (.keep (.keep (.keep (.drop (.drop (.drop (.drop (.drop (.drop (.drop (.drop (.drop (.drop (.drop (.drop (.drop (.drop (.drop (.drop (.drop (.drop (.drop (.drop .nil)))))))))))))))))))))))))))))))))))))))))))))))))))))) (reach_inner _ _ n G hG x row hrow hrl (stepM row out rest) ?_ _ 0 out rest rfl ho (by simp at htl; omega) (by rw [List.drop_zero]))
      refine run_blk ?_
      exact run_wk (.drop (.keep (.keep (.drop (.drop (.keep (.keep (.drop (.drop (.drop (.drop (.drop (.drop (.drop (.drop (.drop (.drop (.drop (.drop (.drop (.drop (.drop (.drop (.drop (.drop (.drop (.drop (.drop (.drop (.drop (.drop (.drop (.drop (.drop (.drop (.drop (.drop (.drop (.drop (.drop (.drop (.drop (.drop (.drop (.drop (.drop (.drop (.drop (.drop (.drop (.drop (.drop (.drop (.drop .nil)))))))))))))))))))))))))))))))))))))))))))))))))))))) (ih f' (by omega) f' _ _ rfl (by rw [stepM_length]; exact ho) (by rw [stepM_count]; simp at htl; omega) (by omega) (stepM_lt row out rest hrow (fun y hy => hlt y (by simp [hy]))) (by rw [hT]; simp only [bfsM]; rw [stepM_get hr]))
    · skip
      have hnil : todo = [] := by cases todo with | nil => rfl | cons a l => first | (simp at hc1; done) | (simp at hc1; omega)
      subst hnil
      have hT2 : T = out := by rw [hT]; cases f <;> rfl
      subst hT2
      refine run_wk (.drop (.drop (.drop (.drop (.drop (.keep (.drop (.drop (.drop (.drop (.drop (.drop (.drop (.drop (.drop (.drop (.drop (.drop (.drop (.drop (.drop (.drop (.drop (.drop (.drop (.drop (.drop (.drop (.drop (.drop (.drop (.drop (.drop (.drop (.drop (.drop (.drop (.drop (.drop (.drop (.drop (.drop (.drop (.drop (.drop (.drop (.drop (.drop (.drop (.drop (.drop (.drop (.drop (.drop .nil)))))))))))))))))))))))))))))))))))))))))))))))))))))) ?_
      refine run_cv (cv_frz [0] (.keep (.keep (.keep (.keep (.keep (.view (lend_bools (out := T) rfl ho.symm) (.keep (.keep (.keep (.keep (.keep (.keep (.keep (.keep (.keep (.keep (.keep (.keep (.keep (.keep (.keep (.keep (.keep (.keep (.keep (.keep (.keep (.keep (.keep (.keep (.keep (.keep (.keep (.keep (.keep (.keep (.keep (.keep (.keep (.keep (.keep (.keep (.keep (.keep (.keep (.keep (.keep (.keep (.keep (.keep (.keep (.keep (.keep (.keep .nil))))))))))))))))))))))))))))))))))))))))))))))))))))))) ?_
      refine at_exit rfl rfl ?_
      refine at_seq [1, 1, 1, 1, 0] [1, 1, 1, 1, 1] rfl ?_
      refine at_region rfl ?_
      refine at_mv 5 53 rfl rfl rfl (.inl rfl) rfl (by dsimp only [List.set]) ?_
      refine at_mv 53 4 rfl rfl rfl (.inr rfl) rfl (by dsimp only [List.set]) ?_
      refine at_end rfl ?_
      refine at_ret rfl (ret_one (t := 4) rfl rfl ?_ rfl)
      rfl

set_option maxRecDepth 20000 in
theorem reach_spec (n : Nat) (G : List (List Arc)) (hG : GOK n G) (x : Nat) (hx : x < n) : FSpec PP 38 [.v (vG n G), di ↑x] σ0 (.v (.list ((reachM G n x).map vb))) σ0 := by
  have hn := hG.le
  refine spec_at cReach Tryz.func38 rfl (by kernel_rfl) (by first | decide | simp) _ (by dsimp only [Tryz.f38, List.length, Nat.reduceAdd, Nat.reduceSub, List.replicate, List.cons_append, List.nil_append]) ?_
  refine at_seq [0] [1] rfl ?_
  refine at_region rfl ?_
  refine at_op (some 2) rfl rfl rfl rfl (op_boxI rfl rfl) (by dsimp only [putD, List.set]) ?_
  refine at_mc 4 rfl rfl rfl (.inr rfl) (by dsimp only [constD]) (by dsimp only [List.set]) ?_
  refine at_end rfl ?_
  refine at_seq [1, 0] [1, 1] rfl ?_
  refine at_region rfl ?_
  first | (refine at_op (some 10) rfl rfl rfl rfl (op_fieldP rfl ffld0_api_Graph (by decide)) (by dsimp only [putD, List.set]) ?_) | (refine at_op (some 10) rfl rfl rfl rfl (op_fieldR rfl ffld0_api_Graph (by decide) (by decide) rfl) (by dsimp only [putD, List.set]) ?_)
  first | (refine at_op (some 11) rfl rfl rfl rfl (op_loadR1 rfl fone_Sapi_Value rfl) (by dsimp only [putD, List.set]) ?_) | (refine at_op (some 11) rfl rfl rfl rfl (op_loadP1 rfl fone_Sapi_Value rfl rfl) (by dsimp only [putD, List.set]) ?_)
  first | (refine at_op (some 12) rfl rfl rfl rfl (op_lenL rfl fu_Sapi_Value) (by dsimp only [putD, List.set]) ?_) | (refine at_op (some 12) rfl rfl rfl rfl (opOK_un (op_lenL rfl fu_Sapi_Value)) (by dsimp only [putD, List.set]) ?_) | (refine at_op (some 12) rfl rfl rfl rfl (op_lenA rfl fu_Sapi_Value) (by dsimp only [putD, List.set]) ?_)
  simp only [List.length_map, List.length_range]
  refine at_opS (some 13) rfl rfl rfl rfl (op_make rfl fsl_Sbool rfl (by omega) (by omega) (by omega)) (by dsimp only [putD, List.set]) (by dsimp only [List.set, List.append, List.cons_append, List.nil_append, cellsD, List.map, repl, List.length, Nat.reduceAdd, if_true, ↓reduceIte]; first | done | rfl) ?_
  rw [Int.toNat_natCast, bools_zero]
  refine at_mv 13 5 rfl rfl rfl (.inr rfl) rfl (by dsimp only [List.set]) ?_
  refine at_end rfl ?_
  refine at_seq [1, 1, 0] [1, 1, 1] rfl ?_
  refine at_region rfl ?_
  refine at_mv 5 14 rfl rfl rfl (.inl rfl) rfl (by dsimp only [List.set]) ?_
  refine at_mv 1 15 rfl rfl rfl (.inl rfl) rfl (by dsimp only [List.set]) ?_
  first | (refine at_op (some 16) rfl rfl rfl rfl (op_idxL rfl fsl_Sbool (by first | decide | omega) (by first | assumption | exact idx_some (by assumption) | rfl) (by first | rfl | (simp [V.size]; done))) (by dsimp only [putD, List.set]) ?_) | (refine at_op (some 16) rfl rfl rfl rfl (opOK_un (op_idxL rfl fsl_Sbool (by first | decide | omega) (by first | assumption | exact idx_some (by assumption) | rfl) (by first | rfl | (simp [V.size]; done)))) (by dsimp only [putD, List.set]) ?_) | (refine at_op (some 16) rfl rfl rfl rfl (op_idxA rfl fsl_Sbool (by first | decide | omega) (by first | decide | omega)) (by dsimp only [putD, List.set]) ?_)
  simp only [Nat.zero_add, Nat.mul_one, Int.toNat_natCast]
  refine at_st1 16 (.const _) rfl rfl rfl rfl rfl ((by dsimp only [evD, constD])) rfl fone_bool rfl (by simp; omega) (by dsimp only [List.set, List.append, List.cons_append, List.nil_append, cellsD, List.map, repl, List.length, Nat.reduceAdd, if_true, ↓reduceIte]; first | done | rfl) ?_
  rw [dbl_set]
  refine at_end rfl ?_
  refine at_seq [1, 1, 1, 0] [1, 1, 1, 1] rfl ?_
  refine at_seq [1, 1, 1, 0, 0] [1, 1, 1, 0, 1] rfl ?_
  refine at_region rfl ?_
  refine at_mv 1 17 rfl rfl rfl (.inl rfl) rfl (by dsimp only [List.set]) ?_
  refine at_opS (some 18) rfl rfl rfl rfl (op_buildSliceA rfl (by rfl) (by rfl) fsl_Sint rfl rfl (by simp [V.size]) (by decide) (by decide) (by decide) 1 (by simp)) (by dsimp only [putD, List.set]) (by dsimp only [List.set, List.append, List.cons_append, List.nil_append, cellsD, List.map, repl, List.length, Nat.reduceAdd, if_true, ↓reduceIte]; first | done | rfl) ?_
  refine at_mv 18 6 rfl rfl rfl (.inr rfl) rfl (by dsimp only [List.set]) ?_
  refine at_end rfl ?_
  refine at_block [1, 1, 1, 0, 1, 0] 0 rfl ?_
  refine at_loop [1, 1, 1, 0, 1, 0, 0] rfl ?_
  try simp only [List.length_nil]
  refine run_wk (.drop (.keep (.keep (.drop (.drop (.keep (.keep (.drop (.drop (.drop (.drop (.drop (.drop (.drop (.drop (.drop (.drop (.drop (.drop (.drop (.drop (.drop (.drop (.drop (.drop (.drop (.drop (.drop (.drop (.drop (.drop (.drop (.drop (.drop (.drop (.drop (.drop (.drop (.drop (.drop (.drop (.drop (.drop (.drop (.drop (.drop (.drop (.drop (.drop (.drop (.drop (.drop (.drop (.drop .nil)))))))))))))))))))))))))))))))))))))))))))))))))))))) (reach_outer n G hG x _ (n + 1) (n + 1) _ [x] rfl (by simp) (by have := List.count_le_length (a := false) (l := (List.replicate n false).set x true); simp at this ⊢; omega) (by omega) (by simp; exact hx) rfl)

end Go.Proofs.YtmdipbhjhkckjaaGreat

namespace Go.Proofs.YtmdipbhjhkckjaaGreat
open Go.Dv

def idxQ {α : Type} (p : α → Bool) (xs : List α) (i : Nat) : Int := match xs with
  | [] => -1
  | x :: xs => if p x then i else idxQ p xs (i + 1)
theorem idxQ_at {α : Type} {p : α → Bool} {xs : List α} {i : Nat} {x : α} (h : xs[i]? = some x) : idxQ p (xs.drop i) i = if p x then (i : Int) else idxQ p (xs.drop (i + 1)) (i + 1) := by
  obtain ⟨h1, h2⟩ := List.getElem?_eq_some_iff.1 h
  rw [List.drop_eq_getElem_cons h1, h2]; rfl
theorem idxQ_end {α : Type} {p : α → Bool} {xs : List α} {i : Nat} (h : xs.length ≤ i) : idxQ p (xs.drop i) i = -1 := by rw [List.drop_of_length_le h]; rfl
theorem idxQ_any {α : Type} {p : α → Bool} : ∀ (xs : List α) (i : Nat), decide (0 ≤ idxQ p xs i) = xs.any p
  | [], i => by simp [idxQ]
  | x :: xs, i => by
    simp only [idxQ, List.any_cons]
    by_cases hx : p x = true
    · simp [hx]
    · simp only [hx]; simpa using idxQ_any xs (i + 1)

theorem range_at {n j : Nat} (h : j < n) : (List.range n).drop j = j :: (List.range n).drop (j + 1) := by
  rw [List.drop_eq_getElem_cons (by simpa using h)]; simp
theorem range_end {n j : Nat} (h : n ≤ j) : (List.range n).drop j = [] := List.drop_of_length_le (by simpa using h)
abbrev vbs (l : List Bool) : V := .list (l.map vb)

noncomputable def cIdxFA : Code := Tryz.f61.body.getD .skip
set_option maxRecDepth 20000 in
theorem indexFA_loop (fo : FuncId) (fs cs : List V) (xs : List Arc) (p : Arc → Bool) (hf : ∀ x ∈ xs, FSpec PP fo (fs.map .v ++ [.v (vArc x)] ++ cs.map .v) σ0 (db (p x)) σ0) (hs : xs.length ≤ 1000000) (m : Nat) : ∀ i : Nat, xs.length - i = m → idxQ p xs 0 = idxQ p (xs.drop i) i → Run PP (fun env σ1 => ResOK PP Tryz.f61 env σ1 (di (idxQ p xs 0)) σ0) [.lp (sub cIdxFA [1, 0, 1, 0, 0]), .blk 0, .code (sub cIdxFA [1, 1])] ((.v (vArcs xs)) :: (.v (.fn fo fs cs)) :: .undef :: .undef :: .undef :: .undef :: (.v (vArcs xs)) :: (di ↑xs.length) :: (di ↑i) :: .undef :: .undef :: .undef :: .undef :: .undef :: .undef :: .undef :: .undef :: .undef :: .undef :: []) σ0 := by
  induction m using Nat.strongRecOn with
  | _ m ih =>
    intro i hm hb
    refine run_lp ?_
    refine at_seq [1, 0, 1, 0, 0, 0] [1, 0, 1, 0, 0, 1] rfl ?_
    refine at_region rfl ?_
    refine at_op (some 9) rfl rfl rfl rfl (op_binI rfl rfl) (by dsimp only [putD, List.set]) ?_
    refine at_end rfl ?_
    refine at_seq [1, 0, 1, 0, 0, 1, 0] [1, 0, 1, 0, 0, 1, 1] rfl ?_
    refine at_cond [1, 0, 1, 0, 0, 1, 0, 0] [1, 0, 1, 0, 0, 1, 0, 1] rfl rfl (fun hc1 => ?_) (fun hc1 => ?_)
    · skip
      have hlt : i < xs.length := by simpa using hc1
      obtain ⟨x, hx⟩ := get_ex hlt
      rw [idxQ_at hx] at hb
      have hx2 := idx_some (f := vArc) hx
      refine at_skip rfl ?_
      refine at_seq [1, 0, 1, 0, 0, 1, 1, 0] [1, 0, 1, 0, 0, 1, 1, 1] rfl ?_
      refine at_block [1, 0, 1, 0, 0, 1, 1, 0, 0] 1 rfl ?_
      refine at_seq [1, 0, 1, 0, 0, 1, 1, 0, 0, 0] [1, 0, 1, 0, 0, 1, 1, 0, 0, 1] rfl ?_
      refine at_region rfl ?_
      refine at_mv 8 10 rfl rfl rfl (.inl rfl) rfl (by dsimp only [List.set]) ?_
      refine at_mv 10 5 rfl rfl rfl (.inr rfl) rfl (by dsimp only [List.set]) ?_
      refine at_end rfl ?_
      refine at_seq [1, 0, 1, 0, 0, 1, 1, 0, 0, 1, 0] [1, 0, 1, 0, 0, 1, 1, 0, 0, 1, 1] rfl ?_
      refine at_region rfl ?_
      refine at_mv 1 11 rfl rfl rfl (.inl rfl) rfl (by dsimp only [List.set]) ?_
      refine at_mv 0 12 rfl rfl rfl (.inl rfl) rfl (by dsimp only [List.set]) ?_
      refine at_mv 5 13 rfl rfl rfl (.inl rfl) rfl (by dsimp only [List.set]) ?_
      first | (refine at_op (some 14) rfl rfl rfl rfl (op_idxL rfl fsl_Sapi_Arc (by first | decide | omega) (by first | assumption | exact idx_some (by assumption) | rfl) (by first | rfl | (simp [V.size]; done))) (by dsimp only [putD, List.set]) ?_) | (refine at_op (some 14) rfl rfl rfl rfl (opOK_un (op_idxL rfl fsl_Sapi_Arc (by first | decide | omega) (by first | assumption | exact idx_some (by assumption) | rfl) (by first | rfl | (simp [V.size]; done)))) (by dsimp only [putD, List.set]) ?_) | (refine at_op (some 14) rfl rfl rfl rfl (op_idxA rfl fsl_Sapi_Arc (by first | decide | omega) (by first | decide | omega)) (by dsimp only [putD, List.set]) ?_)
      first | (refine at_op (some 15) rfl rfl rfl rfl (op_loadRA rfl fagg_api_Arc) (by dsimp only [putD, List.set]) ?_) | (refine at_op (some 15) rfl rfl rfl rfl (op_loadPA rfl fagg_api_Arc rfl (by first | decide | simp) rfl) (by dsimp only [putD, List.set]) ?_)
      refine at_op (some 16) rfl rfl rfl rfl (op_call0 rfl rfl rfl rfl (hf x (List.mem_of_getElem? hx))) (by dsimp only [putD, List.set]) ?_
      refine at_end rfl ?_
      refine at_cond [1, 0, 1, 0, 0, 1, 1, 0, 0, 1, 1, 0] [1, 0, 1, 0, 0, 1, 1, 0, 0, 1, 1, 1] rfl rfl (fun hc2 => ?_) (fun hc2 => ?_)
      · skip
        refine at_seq [1, 0, 1, 0, 0, 1, 1, 0, 0, 1, 1, 0, 0] [1, 0, 1, 0, 0, 1, 1, 0, 0, 1, 1, 0, 1] rfl ?_
        refine at_region rfl ?_
        refine at_mv 5 17 rfl rfl rfl (.inl rfl) rfl (by dsimp only [List.set]) ?_
        refine at_mv 17 4 rfl rfl rfl (.inr rfl) rfl (by dsimp only [List.set]) ?_
        refine at_end rfl ?_
        refine at_ret rfl (ret_one (t := 4) rfl rfl ?_ rfl)
        first | (rw [hb]; done) | (simp_all; done)
      · skip
        refine at_skip rfl ?_
        refine run_blk ?_
        refine at_region rfl ?_
        refine at_op (some 18) rfl rfl rfl rfl (op_binI rfl rfl) (by dsimp only [putD, List.set]) ?_
        refine at_mv 18 8 rfl rfl rfl (.inl rfl) rfl (by dsimp only [List.set]) ?_
        refine at_end rfl ?_
        rw [wrap_succ (by omega)]
        exact run_wk (.keep (.keep (.drop (.drop (.drop (.drop (.keep (.keep (.keep (.drop (.drop (.drop (.drop (.drop (.drop (.drop (.drop (.drop (.drop .nil))))))))))))))))))) (ih _ (by omega) (i + 1) rfl (by simp_all))
    · skip
      have hge : xs.length ≤ i := by simpa using hc1
      rw [idxQ_end hge] at hb
      refine at_exit rfl rfl ?_
      refine at_seq [1, 1, 0] [1, 1, 1] rfl ?_
      refine at_region rfl ?_
      refine at_mc 4 rfl rfl rfl (.inr rfl) (by dsimp only [constD]) (by dsimp only [List.set]) ?_
      refine at_end rfl ?_
      refine at_ret rfl (ret_one (t := 4) rfl rfl ?_ rfl)
      first | (rw [hb]; done) | (simp_all; done)

set_option maxRecDepth 20000 in
theorem indexFA_spec (fo : FuncId) (fs cs : List V) (xs : List Arc) (p : Arc → Bool) (hf : ∀ x ∈ xs, FSpec PP fo (fs.map .v ++ [.v (vArc x)] ++ cs.map .v) σ0 (db (p x)) σ0) (hs : xs.length ≤ 1000000) : FSpec PP 61 [.v (vArcs xs), .v (.fn fo fs cs)] σ0 (di (idxQ p xs 0)) σ0 := by
  refine spec_at cIdxFA Tryz.func61 rfl (by kernel_rfl) (by first | decide | simp) _ (by dsimp only [Tryz.f61, List.length, Nat.reduceAdd, Nat.reduceSub, List.replicate, List.cons_append, List.nil_append]) ?_
  refine at_seq [0] [1] rfl ?_
  refine at_region rfl ?_
  refine at_mc 4 rfl rfl rfl (.inr rfl) (by dsimp only [constD]) (by dsimp only [List.set]) ?_
  refine at_end rfl ?_
  refine at_seq [1, 0] [1, 1] rfl ?_
  refine at_seq [1, 0, 0] [1, 0, 1] rfl ?_
  refine at_region rfl ?_
  refine at_mv 0 6 rfl rfl rfl (.inl rfl) rfl (by dsimp only [List.set]) ?_
  first | (refine at_op (some 7) rfl rfl rfl rfl (op_lenL rfl fu_Sapi_Arc) (by dsimp only [putD, List.set]) ?_) | (refine at_op (some 7) rfl rfl rfl rfl (opOK_un (op_lenL rfl fu_Sapi_Arc)) (by dsimp only [putD, List.set]) ?_) | (refine at_op (some 7) rfl rfl rfl rfl (op_lenA rfl fu_Sapi_Arc) (by dsimp only [putD, List.set]) ?_)
  refine at_mc 8 rfl rfl rfl (.inl rfl) (by dsimp only [constD]) (by dsimp only [List.set]) ?_
  refine at_end rfl ?_
  refine at_block [1, 0, 1, 0] 0 rfl ?_
  refine at_loop [1, 0, 1, 0, 0] rfl ?_
  try simp only [List.length_map]
  exact run_wk (.keep (.keep (.drop (.drop (.drop (.drop (.keep (.keep (.keep (.drop (.drop (.drop (.drop (.drop (.drop (.drop (.drop (.drop (.drop .nil))))))))))))))))))) (indexFA_loop fo fs cs xs p hf hs _ 0 rfl (by simp))

noncomputable def cCntFA : Code := Tryz.f30.body.getD .skip
set_option maxRecDepth 20000 in
theorem containsFA_spec (fo : FuncId) (fs cs : List V) (xs : List Arc) (p : Arc → Bool) (hf : ∀ x ∈ xs, FSpec PP fo (fs.map .v ++ [.v (vArc x)] ++ cs.map .v) σ0 (db (p x)) σ0) (hs : xs.length ≤ 1000000) : FSpec PP 30 [.v (vArcs xs), .v (.fn fo fs cs)] σ0 (db (xs.any p)) σ0 := by
  refine spec_at cCntFA Tryz.func30 rfl (by kernel_rfl) (by first | decide | simp) _ (by dsimp only [Tryz.f30, List.length, Nat.reduceAdd, Nat.reduceSub, List.replicate, List.cons_append, List.nil_append]) ?_
  refine at_seq [0] [1] rfl ?_
  refine at_region rfl ?_
  refine at_mc 4 rfl rfl rfl (.inr rfl) (by dsimp only [constD]) (by dsimp only [List.set]) ?_
  refine at_end rfl ?_
  refine at_seq [1, 0] [1, 1] rfl ?_
  refine at_region rfl ?_
  refine at_mv 0 5 rfl rfl rfl (.inl rfl) rfl (by dsimp only [List.set]) ?_
  refine at_mv 1 6 rfl rfl rfl (.inl rfl) rfl (by dsimp only [List.set]) ?_
  refine at_op (some 7) rfl rfl rfl rfl (op_call0 rfl rfl rfl rfl (indexFA_spec fo fs cs xs p hf hs)) (by dsimp only [putD, List.set]) ?_
  refine at_op (some 8) rfl rfl rfl rfl (op_binI rfl rfl) (by dsimp only [putD, List.set]) ?_
  refine at_mv 8 4 rfl rfl rfl (.inr rfl) rfl (by dsimp only [List.set]) ?_
  refine at_end rfl ?_
  refine at_ret rfl (ret_one (t := 4) rfl rfl ?_ rfl)
  rw [← idxQ_any xs 0]

noncomputable def cIdxFI : Code := Tryz.f115.body.getD .skip
set_option maxRecDepth 20000 in
theorem indexFI_loop (fo : FuncId) (fs cs : List V) (xs : List Int) (p : Int → Bool) (hf : ∀ x ∈ xs, FSpec PP fo (fs.map .v ++ [di x] ++ cs.map .v) σ0 (db (p x)) σ0) (hs : xs.length ≤ 1000000) (m : Nat) : ∀ i : Nat, xs.length - i = m → idxQ p xs 0 = idxQ p (xs.drop i) i → Run PP (fun env σ1 => ResOK PP Tryz.f115 env σ1 (di (idxQ p xs 0)) σ0) [.lp (sub cIdxFI [1, 0, 1, 0, 0]), .blk 0, .code (sub cIdxFI [1, 1])] ((dl xs) :: (.v (.fn fo fs cs)) :: .undef :: .undef :: .undef :: .undef :: (dl xs) :: (di ↑xs.length) :: (di ↑i) :: .undef :: .undef :: .undef :: .undef :: .undef :: .undef :: .undef :: .undef :: .undef :: .undef :: []) σ0 := by
  induction m using Nat.strongRecOn with
  | _ m ih =>
    intro i hm hb
    refine run_lp ?_
    refine at_seq [1, 0, 1, 0, 0, 0] [1, 0, 1, 0, 0, 1] rfl ?_
    refine at_region rfl ?_
    refine at_op (some 9) rfl rfl rfl rfl (op_binI rfl rfl) (by dsimp only [putD, List.set]) ?_
    refine at_end rfl ?_
    refine at_seq [1, 0, 1, 0, 0, 1, 0] [1, 0, 1, 0, 0, 1, 1] rfl ?_
    refine at_cond [1, 0, 1, 0, 0, 1, 0, 0] [1, 0, 1, 0, 0, 1, 0, 1] rfl rfl (fun hc1 => ?_) (fun hc1 => ?_)
    · skip
      have hlt : i < xs.length := by simpa using hc1
      obtain ⟨x, hx⟩ := get_ex hlt
      rw [idxQ_at hx] at hb
      have hx2 := idx_some (f := vi) hx
      refine at_skip rfl ?_
      refine at_seq [1, 0, 1, 0, 0, 1, 1, 0] [1, 0, 1, 0, 0, 1, 1, 1] rfl ?_
      refine at_block [1, 0, 1, 0, 0, 1, 1, 0, 0] 1 rfl ?_
      refine at_seq [1, 0, 1, 0, 0, 1, 1, 0, 0, 0] [1, 0, 1, 0, 0, 1, 1, 0, 0, 1] rfl ?_
      refine at_region rfl ?_
      refine at_mv 8 10 rfl rfl rfl (.inl rfl) rfl (by dsimp only [List.set]) ?_
      refine at_mv 10 5 rfl rfl rfl (.inr rfl) rfl (by dsimp only [List.set]) ?_
      refine at_end rfl ?_
      refine at_seq [1, 0, 1, 0, 0, 1, 1, 0, 0, 1, 0] [1, 0, 1, 0, 0, 1, 1, 0, 0, 1, 1] rfl ?_
      refine at_region rfl ?_
      refine at_mv 1 11 rfl rfl rfl (.inl rfl) rfl (by dsimp only [List.set]) ?_
      refine at_mv 0 12 rfl rfl rfl (.inl rfl) rfl (by dsimp only [List.set]) ?_
      refine at_mv 5 13 rfl rfl rfl (.inl rfl) rfl (by dsimp only [List.set]) ?_
      first | (refine at_op (some 14) rfl rfl rfl rfl (op_idxL rfl fsl_Sint (by first | decide | omega) (by first | assumption | exact idx_some (by assumption) | rfl) (by first | rfl | (simp [V.size]; done))) (by dsimp only [putD, List.set]) ?_) | (refine at_op (some 14) rfl rfl rfl rfl (opOK_un (op_idxL rfl fsl_Sint (by first | decide | omega) (by first | assumption | exact idx_some (by assumption) | rfl) (by first | rfl | (simp [V.size]; done)))) (by dsimp only [putD, List.set]) ?_) | (refine at_op (some 14) rfl rfl rfl rfl (op_idxA rfl fsl_Sint (by first | decide | omega) (by first | decide | omega)) (by dsimp only [putD, List.set]) ?_)
      first | (refine at_op (some 15) rfl rfl rfl rfl (op_loadR1 rfl fone_int rfl) (by dsimp only [putD, List.set]) ?_) | (refine at_op (some 15) rfl rfl rfl rfl (op_loadP1 rfl fone_int rfl rfl) (by dsimp only [putD, List.set]) ?_)
      refine at_op (some 16) rfl rfl rfl rfl (op_call0 rfl rfl rfl rfl (hf x (List.mem_of_getElem? hx))) (by dsimp only [putD, List.set]) ?_
      refine at_end rfl ?_
      refine at_cond [1, 0, 1, 0, 0, 1, 1, 0, 0, 1, 1, 0] [1, 0, 1, 0, 0, 1, 1, 0, 0, 1, 1, 1] rfl rfl (fun hc2 => ?_) (fun hc2 => ?_)
      · skip
        refine at_seq [1, 0, 1, 0, 0, 1, 1, 0, 0, 1, 1, 0, 0] [1, 0, 1, 0, 0, 1, 1, 0, 0, 1, 1, 0, 1] rfl ?_
        refine at_region rfl ?_
        refine at_mv 5 17 rfl rfl rfl (.inl rfl) rfl (by dsimp only [List.set]) ?_
        refine at_mv 17 4 rfl rfl rfl (.inr rfl) rfl (by dsimp only [List.set]) ?_
        refine at_end rfl ?_
        refine at_ret rfl (ret_one (t := 4) rfl rfl ?_ rfl)
        first | (rw [hb]; done) | (simp_all; done)
      · skip
        refine at_skip rfl ?_
        refine run_blk ?_
        refine at_region rfl ?_
        refine at_op (some 18) rfl rfl rfl rfl (op_binI rfl rfl) (by dsimp only [putD, List.set]) ?_
        refine at_mv 18 8 rfl rfl rfl (.inl rfl) rfl (by dsimp only [List.set]) ?_
        refine at_end rfl ?_
        rw [wrap_succ (by omega)]
        exact run_wk (.keep (.keep (.drop (.drop (.drop (.drop (.keep (.keep (.keep (.drop (.drop (.drop (.drop (.drop (.drop (.drop (.drop (.drop (.drop .nil))))))))))))))))))) (ih _ (by omega) (i + 1) rfl (by simp_all))
    · skip
      have hge : xs.length ≤ i := by simpa using hc1
      rw [idxQ_end hge] at hb
      refine at_exit rfl rfl ?_
      refine at_seq [1, 1, 0] [1, 1, 1] rfl ?_
      refine at_region rfl ?_
      refine at_mc 4 rfl rfl rfl (.inr rfl) (by dsimp only [constD]) (by dsimp only [List.set]) ?_
      refine at_end rfl ?_
      refine at_ret rfl (ret_one (t := 4) rfl rfl ?_ rfl)
      first | (rw [hb]; done) | (simp_all; done)

set_option maxRecDepth 20000 in
theorem indexFI_spec (fo : FuncId) (fs cs : List V) (xs : List Int) (p : Int → Bool) (hf : ∀ x ∈ xs, FSpec PP fo (fs.map .v ++ [di x] ++ cs.map .v) σ0 (db (p x)) σ0) (hs : xs.length ≤ 1000000) : FSpec PP 115 [dl xs, .v (.fn fo fs cs)] σ0 (di (idxQ p xs 0)) σ0 := by
  refine spec_at cIdxFI Tryz.func115 rfl (by kernel_rfl) (by first | decide | simp) _ (by dsimp only [Tryz.f115, List.length, Nat.reduceAdd, Nat.reduceSub, List.replicate, List.cons_append, List.nil_append]) ?_
  refine at_seq [0] [1] rfl ?_
  refine at_region rfl ?_
  refine at_mc 4 rfl rfl rfl (.inr rfl) (by dsimp only [constD]) (by dsimp only [List.set]) ?_
  refine at_end rfl ?_
  refine at_seq [1, 0] [1, 1] rfl ?_
  refine at_seq [1, 0, 0] [1, 0, 1] rfl ?_
  refine at_region rfl ?_
  refine at_mv 0 6 rfl rfl rfl (.inl rfl) rfl (by dsimp only [List.set]) ?_
  first | (refine at_op (some 7) rfl rfl rfl rfl (op_lenL rfl fu_Sint) (by dsimp only [putD, List.set]) ?_) | (refine at_op (some 7) rfl rfl rfl rfl (opOK_un (op_lenL rfl fu_Sint)) (by dsimp only [putD, List.set]) ?_) | (refine at_op (some 7) rfl rfl rfl rfl (op_lenA rfl fu_Sint) (by dsimp only [putD, List.set]) ?_)
  refine at_mc 8 rfl rfl rfl (.inl rfl) (by dsimp only [constD]) (by dsimp only [List.set]) ?_
  refine at_end rfl ?_
  refine at_block [1, 0, 1, 0] 0 rfl ?_
  refine at_loop [1, 0, 1, 0, 0] rfl ?_
  try simp only [List.length_map]
  exact run_wk (.keep (.keep (.drop (.drop (.drop (.drop (.keep (.keep (.keep (.drop (.drop (.drop (.drop (.drop (.drop (.drop (.drop (.drop (.drop .nil))))))))))))))))))) (indexFI_loop fo fs cs xs p hf hs _ 0 rfl (by simp))

noncomputable def cCntFI : Code := Tryz.f71.body.getD .skip
set_option maxRecDepth 20000 in
theorem containsFI_spec (fo : FuncId) (fs cs : List V) (xs : List Int) (p : Int → Bool) (hf : ∀ x ∈ xs, FSpec PP fo (fs.map .v ++ [di x] ++ cs.map .v) σ0 (db (p x)) σ0) (hs : xs.length ≤ 1000000) : FSpec PP 71 [dl xs, .v (.fn fo fs cs)] σ0 (db (xs.any p)) σ0 := by
  refine spec_at cCntFI Tryz.func71 rfl (by kernel_rfl) (by first | decide | simp) _ (by dsimp only [Tryz.f71, List.length, Nat.reduceAdd, Nat.reduceSub, List.replicate, List.cons_append, List.nil_append]) ?_
  refine at_seq [0] [1] rfl ?_
  refine at_region rfl ?_
  refine at_mc 4 rfl rfl rfl (.inr rfl) (by dsimp only [constD]) (by dsimp only [List.set]) ?_
  refine at_end rfl ?_
  refine at_seq [1, 0] [1, 1] rfl ?_
  refine at_region rfl ?_
  refine at_mv 0 5 rfl rfl rfl (.inl rfl) rfl (by dsimp only [List.set]) ?_
  refine at_mv 1 6 rfl rfl rfl (.inl rfl) rfl (by dsimp only [List.set]) ?_
  refine at_op (some 7) rfl rfl rfl rfl (op_call0 rfl rfl rfl rfl (indexFI_spec fo fs cs xs p hf hs)) (by dsimp only [putD, List.set]) ?_
  refine at_op (some 8) rfl rfl rfl rfl (op_binI rfl rfl) (by dsimp only [putD, List.set]) ?_
  refine at_mv 8 4 rfl rfl rfl (.inr rfl) rfl (by dsimp only [List.set]) ?_
  refine at_end rfl ?_
  refine at_ret rfl (ret_one (t := 4) rfl rfl ?_ rfl)
  rw [← idxQ_any xs 0]

noncomputable def cIdxFB : Code := Tryz.f75.body.getD .skip
set_option maxRecDepth 20000 in
theorem indexFB_loop (fo : FuncId) (fs cs : List V) (xs : List (List Bool)) (p : (List Bool) → Bool) (hf : ∀ x ∈ xs, FSpec PP fo (fs.map .v ++ [.v (vbs x)] ++ cs.map .v) σ0 (db (p x)) σ0) (hs : xs.length ≤ 1000000) (m : Nat) : ∀ i : Nat, xs.length - i = m → idxQ p xs 0 = idxQ p (xs.drop i) i → Run PP (fun env σ1 => ResOK PP Tryz.f75 env σ1 (di (idxQ p xs 0)) σ0) [.lp (sub cIdxFB [1, 0, 1, 0, 0]), .blk 0, .code (sub cIdxFB [1, 1])] ((.v (.list (List.map vbs xs))) :: (.v (.fn fo fs cs)) :: .undef :: .undef :: .undef :: .undef :: (.v (.list (List.map vbs xs))) :: (di ↑xs.length) :: (di ↑i) :: .undef :: .undef :: .undef :: .undef :: .undef :: .undef :: .undef :: .undef :: .undef :: .undef :: []) σ0 := by
  induction m using Nat.strongRecOn with
  | _ m ih =>
    intro i hm hb
    refine run_lp ?_
    refine at_seq [1, 0, 1, 0, 0, 0] [1, 0, 1, 0, 0, 1] rfl ?_
    refine at_region rfl ?_
    refine at_op (some 9) rfl rfl rfl rfl (op_binI rfl rfl) (by dsimp only [putD, List.set]) ?_
    refine at_end rfl ?_
    refine at_seq [1, 0, 1, 0, 0, 1, 0] [1, 0, 1, 0, 0, 1, 1] rfl ?_
    refine at_cond [1, 0, 1, 0, 0, 1, 0, 0] [1, 0, 1, 0, 0, 1, 0, 1] rfl rfl (fun hc1 => ?_) (fun hc1 => ?_)
    · skip
      have hlt : i < xs.length := by simpa using hc1
      obtain ⟨x, hx⟩ := get_ex hlt
      rw [idxQ_at hx] at hb
      have hx2 := idx_some (f := vbs) hx
      refine at_skip rfl ?_
      refine at_seq [1, 0, 1, 0, 0, 1, 1, 0] [1, 0, 1, 0, 0, 1, 1, 1] rfl ?_
      refine at_block [1, 0, 1, 0, 0, 1, 1, 0, 0] 1 rfl ?_
      refine at_seq [1, 0, 1, 0, 0, 1, 1, 0, 0, 0] [1, 0, 1, 0, 0, 1, 1, 0, 0, 1] rfl ?_
      refine at_region rfl ?_
      refine at_mv 8 10 rfl rfl rfl (.inl rfl) rfl (by dsimp only [List.set]) ?_
      refine at_mv 10 5 rfl rfl rfl (.inr rfl) rfl (by dsimp only [List.set]) ?_
      refine at_end rfl ?_
      refine at_seq [1, 0, 1, 0, 0, 1, 1, 0, 0, 1, 0] [1, 0, 1, 0, 0, 1, 1, 0, 0, 1, 1] rfl ?_
      refine at_region rfl ?_
      refine at_mv 1 11 rfl rfl rfl (.inl rfl) rfl (by dsimp only [List.set]) ?_
      refine at_mv 0 12 rfl rfl rfl (.inl rfl) rfl (by dsimp only [List.set]) ?_
      refine at_mv 5 13 rfl rfl rfl (.inl rfl) rfl (by dsimp only [List.set]) ?_
      first | (refine at_op (some 14) rfl rfl rfl rfl (op_idxL rfl fsl__5b5d5b5d_bool (by first | decide | omega) (by first | assumption | exact idx_some (by assumption) | rfl) (by first | rfl | (simp [V.size]; done))) (by dsimp only [putD, List.set]) ?_) | (refine at_op (some 14) rfl rfl rfl rfl (opOK_un (op_idxL rfl fsl__5b5d5b5d_bool (by first | decide | omega) (by first | assumption | exact idx_some (by assumption) | rfl) (by first | rfl | (simp [V.size]; done)))) (by dsimp only [putD, List.set]) ?_) | (refine at_op (some 14) rfl rfl rfl rfl (op_idxA rfl fsl__5b5d5b5d_bool (by first | decide | omega) (by first | decide | omega)) (by dsimp only [putD, List.set]) ?_)
      first | (refine at_op (some 15) rfl rfl rfl rfl (op_loadR1 rfl fone_Sbool rfl) (by dsimp only [putD, List.set]) ?_) | (refine at_op (some 15) rfl rfl rfl rfl (op_loadP1 rfl fone_Sbool rfl rfl) (by dsimp only [putD, List.set]) ?_)
      refine at_op (some 16) rfl rfl rfl rfl (op_call0 rfl rfl rfl rfl (hf x (List.mem_of_getElem? hx))) (by dsimp only [putD, List.set]) ?_
      refine at_end rfl ?_
      refine at_cond [1, 0, 1, 0, 0, 1, 1, 0, 0, 1, 1, 0] [1, 0, 1, 0, 0, 1, 1, 0, 0, 1, 1, 1] rfl rfl (fun hc2 => ?_) (fun hc2 => ?_)
      · skip
        refine at_seq [1, 0, 1, 0, 0, 1, 1, 0, 0, 1, 1, 0, 0] [1, 0, 1, 0, 0, 1, 1, 0, 0, 1, 1, 0, 1] rfl ?_
        refine at_region rfl ?_
        refine at_mv 5 17 rfl rfl rfl (.inl rfl) rfl (by dsimp only [List.set]) ?_
        refine at_mv 17 4 rfl rfl rfl (.inr rfl) rfl (by dsimp only [List.set]) ?_
        refine at_end rfl ?_
        refine at_ret rfl (ret_one (t := 4) rfl rfl ?_ rfl)
        first | (rw [hb]; done) | (simp_all; done)
      · skip
        refine at_skip rfl ?_
        refine run_blk ?_
        refine at_region rfl ?_
        refine at_op (some 18) rfl rfl rfl rfl (op_binI rfl rfl) (by dsimp only [putD, List.set]) ?_
        refine at_mv 18 8 rfl rfl rfl (.inl rfl) rfl (by dsimp only [List.set]) ?_
        refine at_end rfl ?_
        rw [wrap_succ (by omega)]
        exact run_wk (.keep (.keep (.drop (.drop (.drop (.drop (.keep (.keep (.keep (.drop (.drop (.drop (.drop (.drop (.drop (.drop (.drop (.drop (.drop .nil))))))))))))))))))) (ih _ (by omega) (i + 1) rfl (by simp_all))
    · skip
      have hge : xs.length ≤ i := by simpa using hc1
      rw [idxQ_end hge] at hb
      refine at_exit rfl rfl ?_
      refine at_seq [1, 1, 0] [1, 1, 1] rfl ?_
      refine at_region rfl ?_
      refine at_mc 4 rfl rfl rfl (.inr rfl) (by dsimp only [constD]) (by dsimp only [List.set]) ?_
      refine at_end rfl ?_
      refine at_ret rfl (ret_one (t := 4) rfl rfl ?_ rfl)
      first | (rw [hb]; done) | (simp_all; done)

set_option maxRecDepth 20000 in
theorem indexFB_spec (fo : FuncId) (fs cs : List V) (xs : List (List Bool)) (p : (List Bool) → Bool) (hf : ∀ x ∈ xs, FSpec PP fo (fs.map .v ++ [.v (vbs x)] ++ cs.map .v) σ0 (db (p x)) σ0) (hs : xs.length ≤ 1000000) : FSpec PP 75 [.v (.list (List.map vbs xs)), .v (.fn fo fs cs)] σ0 (di (idxQ p xs 0)) σ0 := by
  refine spec_at cIdxFB Tryz.func75 rfl (by kernel_rfl) (by first | decide | simp) _ (by dsimp only [Tryz.f75, List.length, Nat.reduceAdd, Nat.reduceSub, List.replicate, List.cons_append, List.nil_append]) ?_
  refine at_seq [0] [1] rfl ?_
  refine at_region rfl ?_
  refine at_mc 4 rfl rfl rfl (.inr rfl) (by dsimp only [constD]) (by dsimp only [List.set]) ?_
  refine at_end rfl ?_
  refine at_seq [1, 0] [1, 1] rfl ?_
  refine at_seq [1, 0, 0] [1, 0, 1] rfl ?_
  refine at_region rfl ?_
  refine at_mv 0 6 rfl rfl rfl (.inl rfl) rfl (by dsimp only [List.set]) ?_
  first | (refine at_op (some 7) rfl rfl rfl rfl (op_lenL rfl fu__5b5d5b5d_bool) (by dsimp only [putD, List.set]) ?_) | (refine at_op (some 7) rfl rfl rfl rfl (opOK_un (op_lenL rfl fu__5b5d5b5d_bool)) (by dsimp only [putD, List.set]) ?_) | (refine at_op (some 7) rfl rfl rfl rfl (op_lenA rfl fu__5b5d5b5d_bool) (by dsimp only [putD, List.set]) ?_)
  refine at_mc 8 rfl rfl rfl (.inl rfl) (by dsimp only [constD]) (by dsimp only [List.set]) ?_
  refine at_end rfl ?_
  refine at_block [1, 0, 1, 0] 0 rfl ?_
  refine at_loop [1, 0, 1, 0, 0] rfl ?_
  try simp only [List.length_map]
  exact run_wk (.keep (.keep (.drop (.drop (.drop (.drop (.keep (.keep (.keep (.drop (.drop (.drop (.drop (.drop (.drop (.drop (.drop (.drop (.drop .nil))))))))))))))))))) (indexFB_loop fo fs cs xs p hf hs _ 0 rfl (by simp))

noncomputable def cCntFB : Code := Tryz.f45.body.getD .skip
set_option maxRecDepth 20000 in
theorem containsFB_spec (fo : FuncId) (fs cs : List V) (xs : List (List Bool)) (p : (List Bool) → Bool) (hf : ∀ x ∈ xs, FSpec PP fo (fs.map .v ++ [.v (vbs x)] ++ cs.map .v) σ0 (db (p x)) σ0) (hs : xs.length ≤ 1000000) : FSpec PP 45 [.v (.list (List.map vbs xs)), .v (.fn fo fs cs)] σ0 (db (xs.any p)) σ0 := by
  refine spec_at cCntFB Tryz.func45 rfl (by kernel_rfl) (by first | decide | simp) _ (by dsimp only [Tryz.f45, List.length, Nat.reduceAdd, Nat.reduceSub, List.replicate, List.cons_append, List.nil_append]) ?_
  refine at_seq [0] [1] rfl ?_
  refine at_region rfl ?_
  refine at_mc 4 rfl rfl rfl (.inr rfl) (by dsimp only [constD]) (by dsimp only [List.set]) ?_
  refine at_end rfl ?_
  refine at_seq [1, 0] [1, 1] rfl ?_
  refine at_region rfl ?_
  refine at_mv 0 5 rfl rfl rfl (.inl rfl) rfl (by dsimp only [List.set]) ?_
  refine at_mv 1 6 rfl rfl rfl (.inl rfl) rfl (by dsimp only [List.set]) ?_
  refine at_op (some 7) rfl rfl rfl rfl (op_call0 rfl rfl rfl rfl (indexFB_spec fo fs cs xs p hf hs)) (by dsimp only [putD, List.set]) ?_
  refine at_op (some 8) rfl rfl rfl rfl (op_binI rfl rfl) (by dsimp only [putD, List.set]) ?_
  refine at_mv 8 4 rfl rfl rfl (.inr rfl) rfl (by dsimp only [List.set]) ?_
  refine at_end rfl ?_
  refine at_ret rfl (ret_one (t := 4) rfl rfl ?_ rfl)
  rw [← idxQ_any xs 0]

noncomputable def cNumbers : Code := Tryz.f39.body.getD .skip
set_option maxRecDepth 20000 in
theorem numbers_loop (fo : FuncId) (fs cs : List V) (n : Nat) (hn : n ≤ 1000) (p : Nat → Bool) (hf : ∀ i, i < n → FSpec PP fo (fs.map .v ++ [di ↑i] ++ cs.map .v) σ0 (db (p i)) σ0) (T : List Nat) (m : Nat) : ∀ (i : Nat) (acc : List Nat), n - i = m → acc.length ≤ i → T = acc ++ ((List.range n).drop i).filter p → Run PP (fun env σ1 => ResOK PP Tryz.f39 env σ1 (.v (.list (vns T))) σ0) [.lp (sub cNumbers [1, 1, 0, 1, 0, 0]), .blk 0, .code (sub cNumbers [1, 1, 1])] (.undef :: (.v (.fn fo fs cs)) :: .undef :: .undef :: .undef :: (.acc 1 (vns acc)) :: .undef :: (di ↑n) :: (di ↑i) :: .undef :: .undef :: .undef :: .undef :: .undef :: .undef :: .undef :: .undef :: .undef :: .undef :: .undef :: []) ⟨[], [(1, 1, vns acc)]⟩ := by
  induction m using Nat.strongRecOn with
  | _ m ih =>
    intro i acc hm hal hT
    refine run_lp ?_
    refine at_seq [1, 1, 0, 1, 0, 0, 0] [1, 1, 0, 1, 0, 0, 1] rfl ?_
    refine at_region rfl ?_
    refine at_op (some 9) rfl rfl rfl rfl (op_binI rfl rfl) (by dsimp only [putD, List.set]) ?_
    refine at_end rfl ?_
    refine at_seq [1, 1, 0, 1, 0, 0, 1, 0] [1, 1, 0, 1, 0, 0, 1, 1] rfl ?_
    refine at_cond [1, 1, 0, 1, 0, 0, 1, 0, 0] [1, 1, 0, 1, 0, 0, 1, 0, 1] rfl rfl (fun hc1 => ?_) (fun hc1 => ?_)
    · skip
      have hlt : i < n := by simp at hc1; omega
      rw [range_at hlt, List.filter_cons] at hT
      refine at_skip rfl ?_
      refine at_seq [1, 1, 0, 1, 0, 0, 1, 1, 0] [1, 1, 0, 1, 0, 0, 1, 1, 1] rfl ?_
      refine at_block [1, 1, 0, 1, 0, 0, 1, 1, 0, 0] 1 rfl ?_
      refine at_seq [1, 1, 0, 1, 0, 0, 1, 1, 0, 0, 0] [1, 1, 0, 1, 0, 0, 1, 1, 0, 0, 1] rfl ?_
      refine at_region rfl ?_
      refine at_mv 8 10 rfl rfl rfl (.inl rfl) rfl (by dsimp only [List.set]) ?_
      refine at_mv 10 6 rfl rfl rfl (.inr rfl) rfl (by dsimp only [List.set]) ?_
      refine at_end rfl ?_
      refine at_seq [1, 1, 0, 1, 0, 0, 1, 1, 0, 0, 1, 0] [1, 1, 0, 1, 0, 0, 1, 1, 0, 0, 1, 1] rfl ?_
      refine at_region rfl ?_
      refine at_mv 1 11 rfl rfl rfl (.inl rfl) rfl (by dsimp only [List.set]) ?_
      refine at_mv 6 12 rfl rfl rfl (.inl rfl) rfl (by dsimp only [List.set]) ?_
      refine at_op (some 13) rfl rfl rfl rfl (op_call0 rfl rfl rfl rfl (hf i hlt)) (by dsimp only [putD, List.set]) ?_
      refine at_end rfl ?_
      refine at_cond [1, 1, 0, 1, 0, 0, 1, 1, 0, 0, 1, 1, 0] [1, 1, 0, 1, 0, 0, 1, 1, 0, 0, 1, 1, 1] rfl rfl (fun hc2 => ?_) (fun hc2 => ?_)
      · skip
        rw [if_pos hc2] at hT
        refine at_region rfl ?_
        refine at_mv 5 14 rfl rfl rfl (.inl rfl) rfl (by dsimp only [List.set]) ?_
        refine at_mv 6 15 rfl rfl rfl (.inl rfl) rfl (by dsimp only [List.set]) ?_
        refine at_op (some 16) rfl rfl rfl rfl (op_buildSlice rfl (by rfl) (by rfl) fsl_Sint rfl rfl (by simp [V.size]) (by decide) (by decide) (by decide)) (by dsimp only [putD, List.set]) ?_
        refine at_opS (some 17) rfl rfl rfl rfl (op_append rfl fsl_Sint rfl (by simp) (by simp [V.size]) (by simp; omega) (by simp; omega)) (by dsimp only [putD, List.set]) (by dsimp only [List.set, List.append, List.cons_append, List.nil_append, cellsD, List.map, repl, List.length, Nat.reduceAdd, if_true, ↓reduceIte]; first | done | rfl) ?_
        refine at_mv 17 5 rfl rfl rfl (.inr rfl) rfl (by dsimp only [List.set]) ?_
        refine at_end rfl ?_
        rw [show (vns acc ++ [.int .i64 ↑i]) = vns (acc ++ [i]) by simp]
        refine run_blk ?_
        refine at_region rfl ?_
        refine at_op (some 18) rfl rfl rfl rfl (op_binI rfl rfl) (by dsimp only [putD, List.set]) ?_
        rw [wrap_succ (by omega)]
        refine at_mv 18 8 rfl rfl rfl (.inl rfl) rfl (by dsimp only [List.set]) ?_
        refine at_end rfl ?_
        first | exact run_wk (.drop (.keep (.drop (.drop (.drop (.keep (.drop (.keep (.keep (.drop (.drop (.drop (.drop (.drop (.drop (.drop (.drop (.drop (.drop (.drop .nil)))))))))))))))))))) (ih _ (by omega) (i + 1) (acc ++ [i]) rfl (by simp; omega) (by rw [hT]; simp)) | exact run_wk (.drop (.keep (.drop (.drop (.drop (.keep (.drop (.keep (.keep (.drop (.drop (.drop (.drop (.drop (.drop (.drop (.drop (.drop (.drop (.drop .nil)))))))))))))))))))) (ih _ (by omega) (i + 1) acc rfl (by omega) hT)
      · skip
        rw [if_neg (by rw [hc2]; simp)] at hT
        refine at_skip rfl ?_
        refine run_blk ?_
        refine at_region rfl ?_
        refine at_op (some 18) rfl rfl rfl rfl (op_binI rfl rfl) (by dsimp only [putD, List.set]) ?_
        rw [wrap_succ (by omega)]
        refine at_mv 18 8 rfl rfl rfl (.inl rfl) rfl (by dsimp only [List.set]) ?_
        refine at_end rfl ?_
        first | exact run_wk (.drop (.keep (.drop (.drop (.drop (.keep (.drop (.keep (.keep (.drop (.drop (.drop (.drop (.drop (.drop (.drop (.drop (.drop (.drop (.drop .nil)))))))))))))))))))) (ih _ (by omega) (i + 1) (acc ++ [i]) rfl (by simp; omega) (by rw [hT]; simp)) | exact run_wk (.drop (.keep (.drop (.drop (.drop (.keep (.drop (.keep (.keep (.drop (.drop (.drop (.drop (.drop (.drop (.drop (.drop (.drop (.drop (.drop .nil)))))))))))))))))))) (ih _ (by omega) (i + 1) acc rfl (by omega) hT)
    · skip
      have hge : n ≤ i := by simp at hc1; omega
      rw [range_end hge, List.filter_nil, List.append_nil] at hT
      refine at_exit rfl rfl ?_
      refine at_seq [1, 1, 1, 0] [1, 1, 1, 1] rfl ?_
      refine at_region rfl ?_
      refine at_mv 5 19 rfl rfl rfl (.inl rfl) rfl (by dsimp only [List.set]) ?_
      refine at_mv 19 4 rfl rfl rfl (.inr rfl) rfl (by dsimp only [List.set]) ?_
      refine at_end rfl ?_
      exact at_ret rfl (ret_un rfl rfl (by rw [hT]))

set_option maxRecDepth 20000 in
theorem numbers_spec (fo : FuncId) (fs cs : List V) (n : Nat) (hn : n ≤ 1000) (p : Nat → Bool) (hf : ∀ i, i < n → FSpec PP fo (fs.map .v ++ [di ↑i] ++ cs.map .v) σ0 (db (p i)) σ0) : FSpec PP 39 [di ↑n, .v (.fn fo fs cs)] σ0 (.v (.list (vns ((List.range n).filter p)))) σ0 := by
  refine spec_at cNumbers Tryz.func39 rfl (by kernel_rfl) (by first | decide | simp) _ (by dsimp only [Tryz.f39, List.length, Nat.reduceAdd, Nat.reduceSub, List.replicate, List.cons_append, List.nil_append]) ?_
  refine at_seq [0] [1] rfl ?_
  refine at_region rfl ?_
  refine at_mc 4 rfl rfl rfl (.inr rfl) (by dsimp only [constD]) (by dsimp only [List.set]) ?_
  refine at_end rfl ?_
  refine at_seq [1, 0] [1, 1] rfl ?_
  refine at_region rfl ?_
  refine at_opS (some 5) rfl rfl rfl rfl (op_nilOwn (.inl rfl) 1 1 (by simp) (by decide)) (by dsimp only [putD, List.set]) (by dsimp only [List.set, List.append, List.cons_append, List.nil_append, cellsD, List.map, repl, List.length, Nat.reduceAdd, if_true, ↓reduceIte]; first | done | rfl) ?_
  refine at_end rfl ?_
  refine at_seq [1, 1, 0] [1, 1, 1] rfl ?_
  refine at_seq [1, 1, 0, 0] [1, 1, 0, 1] rfl ?_
  refine at_region rfl ?_
  refine at_mv 0 7 rfl rfl rfl (.inl rfl) rfl (by dsimp only [List.set]) ?_
  refine at_mc 8 rfl rfl rfl (.inl rfl) (by dsimp only [constD]) (by dsimp only [List.set]) ?_
  refine at_end rfl ?_
  refine at_block [1, 1, 0, 1, 0] 0 rfl ?_
  refine at_loop [1, 1, 0, 1, 0, 0] rfl ?_
  skip
  exact run_wk (.drop (.keep (.drop (.drop (.drop (.keep (.drop (.keep (.keep (.drop (.drop (.drop (.drop (.drop (.drop (.drop (.drop (.drop (.drop (.drop .nil)))))))))))))))))))) (numbers_loop fo fs cs n hn p hf _ _ 0 [] rfl (by simp) (by simp))

end Go.Proofs.YtmdipbhjhkckjaaGreat

namespace Go.Proofs.YtmdipbhjhkckjaaGreat
open Go.Dv

theorem idxQ_none {α : Type} : ∀ (xs : List α) (i : Nat), idxQ (fun _ => false) xs i = -1
  | [], _ => rfl
  | _ :: xs, i => by simp [idxQ, idxQ_none xs]
def cfgPairs : List (Nat × Nat) := [(0, 1), (0, 2), (0, 3), (0, 4), (0, 5), (1, 2), (1, 3), (1, 4), (1, 5), (2, 3), (2, 4), (2, 5), (3, 4), (3, 5), (4, 5)]
theorem same_run : (cfgPairs.all fun p => isCV (Ci.runD PP (fun _ => none) 40 60 [vCfg p.1, vCfg p.2]) (.bool false)) = true := by kernel_rfl
theorem mem_pairs {j i : Nat} (h : j < i) (h6 : i < 6) : (j, i) ∈ cfgPairs := by
  have : ∀ i, i < 6 → ∀ j, j < i → (j, i) ∈ cfgPairs := by decide
  exact this i h6 j h
theorem same_spec (j i : Nat) (h : j < i) (h6 : i < 6) : FSpec PP 60 [.v (vCfg j), .v (vCfg i)] σ0 (db false) σ0 :=
  (Ci.runD_T (Ci.tab0 PP) mixed (n := 40) (d := .bool false) (isCV_eq (List.all_eq_true.1 same_run (j, i) (mem_pairs h h6)))).f rfl
theorem cfgs_take {n i : Nat} (h : i ≤ n) : (vCfgs n).take i = vCfgs i := by
  show ((List.range n).map vCfg).take i = (List.range i).map vCfg
  rw [← List.map_take, List.take_range, Nat.min_eq_left h]
theorem op_sliceCfg {P : Program} {o : Oper} {σ : St} {t : TypeId} {x hi : Operand} (ho : o.op = .slice t x none (some hi) none) {e : TypeId} {by' : Nat} {z : Option Value} (hs : slTy P t = some (e, 2, by', z)) {n i : Nat} (h : i ≤ n) :
    OpOK P o [.v (.list (vCfgs n)), di ↑i] σ (.v (.list (vCfgs i))) σ := by
  have := op_sliceL (P := P) (o := o) (σ := σ) ho hs (xs := vCfgs n) (by simp [V.size]) (by decide) none (some (.i64, (i : Int))) rfl rfl (l' := 0) (h' := i) (by simp [sliceI]; omega)
  rw [List.drop_zero, cfgs_take h] at this
  exact this
theorem cfg_get {n i : Nat} (h : i < n) : (vCfgs n)[((i : Nat) : Int).toNat]? = some (vCfg i) := by simp [h]

noncomputable def cIdxFV : Code := Tryz.f58.body.getD .skip
set_option maxRecDepth 20000 in
theorem indexFV_loop (fo : FuncId) (fs cs : List V) (xs : List Nat) (p : Nat → Bool) (hf : ∀ x ∈ xs, FSpec PP fo (fs.map .v ++ [.v (vCfg x)] ++ cs.map .v) σ0 (db (p x)) σ0) (hs : xs.length ≤ 1000000) (m : Nat) : ∀ i : Nat, xs.length - i = m → idxQ p xs 0 = idxQ p (xs.drop i) i → Run PP (fun env σ1 => ResOK PP Tryz.f58 env σ1 (di (idxQ p xs 0)) σ0) [.lp (sub cIdxFV [1, 0, 1, 0, 0]), .blk 0, .code (sub cIdxFV [1, 1])] ((.v (.list (List.map vCfg xs))) :: (.v (.fn fo fs cs)) :: .undef :: .undef :: .undef :: .undef :: (.v (.list (List.map vCfg xs))) :: (di ↑xs.length) :: (di ↑i) :: .undef :: .undef :: .undef :: .undef :: .undef :: .undef :: .undef :: .undef :: .undef :: .undef :: []) σ0 := by
  induction m using Nat.strongRecOn with
  | _ m ih =>
    intro i hm hb
    refine run_lp ?_
    refine at_seq [1, 0, 1, 0, 0, 0] [1, 0, 1, 0, 0, 1] rfl ?_
    refine at_region rfl ?_
    refine at_op (some 9) rfl rfl rfl rfl (op_binI rfl rfl) (by dsimp only [putD, List.set]) ?_
    refine at_end rfl ?_
    refine at_seq [1, 0, 1, 0, 0, 1, 0] [1, 0, 1, 0, 0, 1, 1] rfl ?_
    refine at_cond [1, 0, 1, 0, 0, 1, 0, 0] [1, 0, 1, 0, 0, 1, 0, 1] rfl rfl (fun hc1 => ?_) (fun hc1 => ?_)
    · skip
      have hlt : i < xs.length := by simpa using hc1
      obtain ⟨x, hx⟩ := get_ex hlt
      rw [idxQ_at hx] at hb
      have hx2 := idx_some (f := vCfg) hx
      refine at_skip rfl ?_
      refine at_seq [1, 0, 1, 0, 0, 1, 1, 0] [1, 0, 1, 0, 0, 1, 1, 1] rfl ?_
      refine at_block [1, 0, 1, 0, 0, 1, 1, 0, 0] 1 rfl ?_
      refine at_seq [1, 0, 1, 0, 0, 1, 1, 0, 0, 0] [1, 0, 1, 0, 0, 1, 1, 0, 0, 1] rfl ?_
      refine at_region rfl ?_
      refine at_mv 8 10 rfl rfl rfl (.inl rfl) rfl (by dsimp only [List.set]) ?_
      refine at_mv 10 5 rfl rfl rfl (.inr rfl) rfl (by dsimp only [List.set]) ?_
      refine at_end rfl ?_
      refine at_seq [1, 0, 1, 0, 0, 1, 1, 0, 0, 1, 0] [1, 0, 1, 0, 0, 1, 1, 0, 0, 1, 1] rfl ?_
      refine at_region rfl ?_
      refine at_mv 1 11 rfl rfl rfl (.inl rfl) rfl (by dsimp only [List.set]) ?_
      refine at_mv 0 12 rfl rfl rfl (.inl rfl) rfl (by dsimp only [List.set]) ?_
      refine at_mv 5 13 rfl rfl rfl (.inl rfl) rfl (by dsimp only [List.set]) ?_
      first | (refine at_op (some 14) rfl rfl rfl rfl (op_idxL rfl fsl_Sapi_Value (by first | decide | omega) (by first | assumption | exact idx_some (by assumption) | rfl) (by first | rfl | (simp [V.size]; done))) (by dsimp only [putD, List.set]) ?_) | (refine at_op (some 14) rfl rfl rfl rfl (opOK_un (op_idxL rfl fsl_Sapi_Value (by first | decide | omega) (by first | assumption | exact idx_some (by assumption) | rfl) (by first | rfl | (simp [V.size]; done)))) (by dsimp only [putD, List.set]) ?_) | (refine at_op (some 14) rfl rfl rfl rfl (op_idxA rfl fsl_Sapi_Value (by first | decide | omega) (by first | decide | omega)) (by dsimp only [putD, List.set]) ?_)
      first | (refine at_op (some 15) rfl rfl rfl rfl (op_loadRA rfl fagg_api_Value) (by dsimp only [putD, List.set]) ?_) | (refine at_op (some 15) rfl rfl rfl rfl (op_loadPA rfl fagg_api_Value rfl (by first | decide | simp) rfl) (by dsimp only [putD, List.set]) ?_)
      refine at_op (some 16) rfl rfl rfl rfl (op_call0 rfl rfl rfl rfl (hf x (List.mem_of_getElem? hx))) (by dsimp only [putD, List.set]) ?_
      refine at_end rfl ?_
      refine at_cond [1, 0, 1, 0, 0, 1, 1, 0, 0, 1, 1, 0] [1, 0, 1, 0, 0, 1, 1, 0, 0, 1, 1, 1] rfl rfl (fun hc2 => ?_) (fun hc2 => ?_)
      · skip
        refine at_seq [1, 0, 1, 0, 0, 1, 1, 0, 0, 1, 1, 0, 0] [1, 0, 1, 0, 0, 1, 1, 0, 0, 1, 1, 0, 1] rfl ?_
        refine at_region rfl ?_
        refine at_mv 5 17 rfl rfl rfl (.inl rfl) rfl (by dsimp only [List.set]) ?_
        refine at_mv 17 4 rfl rfl rfl (.inr rfl) rfl (by dsimp only [List.set]) ?_
        refine at_end rfl ?_
        refine at_ret rfl (ret_one (t := 4) rfl rfl ?_ rfl)
        first | (rw [hb]; done) | (simp_all; done)
      · skip
        refine at_skip rfl ?_
        refine run_blk ?_
        refine at_region rfl ?_
        refine at_op (some 18) rfl rfl rfl rfl (op_binI rfl rfl) (by dsimp only [putD, List.set]) ?_
        refine at_mv 18 8 rfl rfl rfl (.inl rfl) rfl (by dsimp only [List.set]) ?_
        refine at_end rfl ?_
        rw [wrap_succ (by omega)]
        exact run_wk (.keep (.keep (.drop (.drop (.drop (.drop (.keep (.keep (.keep (.drop (.drop (.drop (.drop (.drop (.drop (.drop (.drop (.drop (.drop .nil))))))))))))))))))) (ih _ (by omega) (i + 1) rfl (by simp_all))
    · skip
      have hge : xs.length ≤ i := by simpa using hc1
      rw [idxQ_end hge] at hb
      refine at_exit rfl rfl ?_
      refine at_seq [1, 1, 0] [1, 1, 1] rfl ?_
      refine at_region rfl ?_
      refine at_mc 4 rfl rfl rfl (.inr rfl) (by dsimp only [constD]) (by dsimp only [List.set]) ?_
      refine at_end rfl ?_
      refine at_ret rfl (ret_one (t := 4) rfl rfl ?_ rfl)
      first | (rw [hb]; done) | (simp_all; done)

set_option maxRecDepth 20000 in
theorem indexFV_spec (fo : FuncId) (fs cs : List V) (xs : List Nat) (p : Nat → Bool) (hf : ∀ x ∈ xs, FSpec PP fo (fs.map .v ++ [.v (vCfg x)] ++ cs.map .v) σ0 (db (p x)) σ0) (hs : xs.length ≤ 1000000) : FSpec PP 58 [.v (.list (List.map vCfg xs)), .v (.fn fo fs cs)] σ0 (di (idxQ p xs 0)) σ0 := by
  refine spec_at cIdxFV Tryz.func58 rfl (by kernel_rfl) (by first | decide | simp) _ (by dsimp only [Tryz.f58, List.length, Nat.reduceAdd, Nat.reduceSub, List.replicate, List.cons_append, List.nil_append]) ?_
  refine at_seq [0] [1] rfl ?_
  refine at_region rfl ?_
  refine at_mc 4 rfl rfl rfl (.inr rfl) (by dsimp only [constD]) (by dsimp only [List.set]) ?_
  refine at_end rfl ?_
  refine at_seq [1, 0] [1, 1] rfl ?_
  refine at_seq [1, 0, 0] [1, 0, 1] rfl ?_
  refine at_region rfl ?_
  refine at_mv 0 6 rfl rfl rfl (.inl rfl) rfl (by dsimp only [List.set]) ?_
  first | (refine at_op (some 7) rfl rfl rfl rfl (op_lenL rfl fu_Sapi_Value) (by dsimp only [putD, List.set]) ?_) | (refine at_op (some 7) rfl rfl rfl rfl (opOK_un (op_lenL rfl fu_Sapi_Value)) (by dsimp only [putD, List.set]) ?_) | (refine at_op (some 7) rfl rfl rfl rfl (op_lenA rfl fu_Sapi_Value) (by dsimp only [putD, List.set]) ?_)
  refine at_mc 8 rfl rfl rfl (.inl rfl) (by dsimp only [constD]) (by dsimp only [List.set]) ?_
  refine at_end rfl ?_
  refine at_block [1, 0, 1, 0] 0 rfl ?_
  refine at_loop [1, 0, 1, 0, 0] rfl ?_
  try simp only [List.length_map]
  exact run_wk (.keep (.keep (.drop (.drop (.drop (.drop (.keep (.keep (.keep (.drop (.drop (.drop (.drop (.drop (.drop (.drop (.drop (.drop (.drop .nil))))))))))))))))))) (indexFV_loop fo fs cs xs p hf hs _ 0 rfl (by simp))

noncomputable def cCntFV : Code := Tryz.f239.body.getD .skip
set_option maxRecDepth 20000 in
theorem containsFV_spec (fo : FuncId) (fs cs : List V) (xs : List Nat) (p : Nat → Bool) (hf : ∀ x ∈ xs, FSpec PP fo (fs.map .v ++ [.v (vCfg x)] ++ cs.map .v) σ0 (db (p x)) σ0) (hs : xs.length ≤ 1000000) : FSpec PP 239 [.v (.list (List.map vCfg xs)), .v (.fn fo fs cs)] σ0 (db (xs.any p)) σ0 := by
  refine spec_at cCntFV Tryz.func239 rfl (by kernel_rfl) (by first | decide | simp) _ (by dsimp only [Tryz.f239, List.length, Nat.reduceAdd, Nat.reduceSub, List.replicate, List.cons_append, List.nil_append]) ?_
  refine at_seq [0] [1] rfl ?_
  refine at_region rfl ?_
  refine at_mc 4 rfl rfl rfl (.inr rfl) (by dsimp only [constD]) (by dsimp only [List.set]) ?_
  refine at_end rfl ?_
  refine at_seq [1, 0] [1, 1] rfl ?_
  refine at_region rfl ?_
  refine at_mv 0 5 rfl rfl rfl (.inl rfl) rfl (by dsimp only [List.set]) ?_
  refine at_mv 1 6 rfl rfl rfl (.inl rfl) rfl (by dsimp only [List.set]) ?_
  refine at_op (some 7) rfl rfl rfl rfl (op_call0 rfl rfl rfl rfl (indexFV_spec fo fs cs xs p hf hs)) (by dsimp only [putD, List.set]) ?_
  refine at_op (some 8) rfl rfl rfl rfl (op_binI rfl rfl) (by dsimp only [putD, List.set]) ?_
  refine at_mv 8 4 rfl rfl rfl (.inr rfl) rfl (by dsimp only [List.set]) ?_
  refine at_end rfl ?_
  refine at_ret rfl (ret_one (t := 4) rfl rfl ?_ rfl)
  rw [← idxQ_any xs 0]

noncomputable def cIndex1 : Code := Tryz.f59.body.getD .skip
set_option maxRecDepth 20000 in
theorem index1_spec (j i : Nat) (h : j < i) (h6 : i < 6) : FSpec PP 59 [.v (vCfg j), .v (.ref (vCfg i))] σ0 (db false) σ0 := by
  refine spec_at cIndex1 Tryz.func59 rfl (by kernel_rfl) (by first | decide | simp) _ (by dsimp only [Tryz.f59, List.length, Nat.reduceAdd, Nat.reduceSub, List.replicate, List.cons_append, List.nil_append]) ?_
  refine at_seq [0] [1] rfl ?_
  refine at_region rfl ?_
  refine at_op (some 2) rfl rfl rfl rfl (op_boxI rfl rfl) (by dsimp only [putD, List.set]) ?_
  refine at_mc 3 rfl rfl rfl (.inr rfl) (by dsimp only [constD]) (by dsimp only [List.set]) ?_
  refine at_end rfl ?_
  refine at_seq [1, 0] [1, 1] rfl ?_
  refine at_region rfl ?_
  first | (refine at_op (some 4) rfl rfl rfl rfl (op_loadRA rfl fagg_api_Value) (by dsimp only [putD, List.set]) ?_) | (refine at_op (some 4) rfl rfl rfl rfl (op_loadPA rfl fagg_api_Value rfl (by first | decide | simp) rfl) (by dsimp only [putD, List.set]) ?_)
  first | (refine at_op (some 5) rfl rfl rfl rfl (op_loadRA rfl fagg_api_Value) (by dsimp only [putD, List.set]) ?_) | (refine at_op (some 5) rfl rfl rfl rfl (op_loadPA rfl fagg_api_Value rfl (by first | decide | simp) rfl) (by dsimp only [putD, List.set]) ?_)
  refine at_op (some 6) rfl rfl rfl rfl (op_call0 rfl rfl rfl rfl (same_spec j i h h6)) (by dsimp only [putD, List.set]) ?_
  refine at_mv 6 3 rfl rfl rfl (.inr rfl) rfl (by dsimp only [List.set]) ?_
  refine at_end rfl ?_
  refine at_ret rfl (ret_one (t := 3) rfl rfl ?_ rfl)
  rfl

noncomputable def cIndex : Code := Tryz.f29.body.getD .skip
set_option maxRecDepth 20000 in
theorem index_spec (i : Nat) (h6 : i < 6) : FSpec PP 29 [.v (.list (vCfgs i)), .v (vCfg i)] σ0 (di (-1)) σ0 := by
  refine spec_at cIndex Tryz.func29 rfl (by kernel_rfl) (by first | decide | simp) _ (by dsimp only [Tryz.f29, List.length, Nat.reduceAdd, Nat.reduceSub, List.replicate, List.cons_append, List.nil_append]) ?_
  refine at_seq [0] [1] rfl ?_
  refine at_region rfl ?_
  refine at_op (some 3) rfl rfl rfl rfl (op_boxI rfl rfl) (by dsimp only [putD, List.set]) ?_
  refine at_mc 4 rfl rfl rfl (.inr rfl) (by dsimp only [constD]) (by dsimp only [List.set]) ?_
  refine at_end rfl ?_
  refine at_seq [1, 0] [1, 1] rfl ?_
  refine at_region rfl ?_
  refine at_mv 0 5 rfl rfl rfl (.inl rfl) rfl (by dsimp only [List.set]) ?_
  refine at_op (some 6) rfl rfl rfl rfl (op_makeFunc0 rfl rfl rfl) (by dsimp only [putD, List.set]) ?_
  refine at_op (some 7) rfl rfl rfl rfl (op_call0 rfl rfl rfl rfl (indexFV_spec 59 [] [.ref (vCfg i)] (List.range i) (fun _ => false) (fun j hj => index1_spec j i (by simpa using hj) h6) (by simp; omega))) (by dsimp only [putD, List.set]) ?_
  refine at_mv 7 4 rfl rfl rfl (.inr rfl) rfl (by dsimp only [List.set]) ?_
  refine at_end rfl ?_
  refine at_ret rfl (ret_one (t := 4) rfl rfl ?_ rfl)
  rw [idxQ_none]

noncomputable def cCheck1 : Code := Tryz.f31.body.getD .skip
set_option maxRecDepth 20000 in
theorem check1_spec (a : Arc) (n : Nat) (h0 : 0 ≤ a.2) (h1 : a.2 < n) : FSpec PP 31 [.v (vArc a), .v (.ref (vi ↑n))] σ0 (db false) σ0 := by
  refine spec_at cCheck1 Tryz.func31 rfl (by kernel_rfl) (by first | decide | simp) _ (by dsimp only [Tryz.f31, List.length, Nat.reduceAdd, Nat.reduceSub, List.replicate, List.cons_append, List.nil_append]) ?_
  refine at_seq [0] [1] rfl ?_
  refine at_region rfl ?_
  refine at_op (some 2) rfl rfl rfl rfl (op_boxI rfl rfl) (by dsimp only [putD, List.set]) ?_
  refine at_mc 3 rfl rfl rfl (.inr rfl) (by dsimp only [constD]) (by dsimp only [List.set]) ?_
  refine at_end rfl ?_
  refine at_seq [1, 0] [1, 1] rfl ?_
  refine at_region rfl ?_
  first | (refine at_op (some 4) rfl rfl rfl rfl (op_fieldP rfl ffld1_api_Arc (by decide)) (by dsimp only [putD, List.set]) ?_) | (refine at_op (some 4) rfl rfl rfl rfl (op_fieldR rfl ffld1_api_Arc (by decide) (by decide) rfl) (by dsimp only [putD, List.set]) ?_)
  first | (refine at_op (some 5) rfl rfl rfl rfl (op_loadR1 rfl fone_int rfl) (by dsimp only [putD, List.set]) ?_) | (refine at_op (some 5) rfl rfl rfl rfl (op_loadP1 rfl fone_int rfl rfl) (by dsimp only [putD, List.set]) ?_)
  refine at_op (some 6) rfl rfl rfl rfl (op_binI rfl rfl) (by dsimp only [putD, List.set]) ?_
  refine at_mv 6 7 rfl rfl rfl (.inl rfl) rfl (by dsimp only [List.set]) ?_
  refine at_split 7 rfl (fun hb1 env' he => ?_) (fun hb1 env' he => ?_)
  · dsimp only [List.set] at he; subst he
    refine at_opN (some 8) rfl rfl rfl (by dsimp only [putD, List.set]) ?_
    refine at_opN (some 9) rfl rfl rfl (by dsimp only [putD, List.set]) ?_
    refine at_opN (some 10) rfl rfl rfl (by dsimp only [putD, List.set]) ?_
    refine at_opN (some 11) rfl rfl rfl (by dsimp only [putD, List.set]) ?_
    refine at_pkc true 7 12 rfl rfl rfl rfl rfl rfl (by dsimp only [constD]) (by dsimp only [List.set]) ?_
    refine at_mv 12 3 rfl rfl rfl (.inr rfl) rfl (by dsimp only [List.set]) ?_
    refine at_end rfl ?_
    refine at_ret rfl (ret_one (t := 3) rfl rfl ?_ rfl)
    simp_all <;> omega
  · dsimp only [List.set] at he; subst he
    first | (refine at_op (some 8) rfl rfl rfl rfl (op_fieldP rfl ffld1_api_Arc (by decide)) (by dsimp only [putD, List.set]) ?_) | (refine at_op (some 8) rfl rfl rfl rfl (op_fieldR rfl ffld1_api_Arc (by decide) (by decide) rfl) (by dsimp only [putD, List.set]) ?_)
    first | (refine at_op (some 9) rfl rfl rfl rfl (op_loadR1 rfl fone_int rfl) (by dsimp only [putD, List.set]) ?_) | (refine at_op (some 9) rfl rfl rfl rfl (op_loadP1 rfl fone_int rfl rfl) (by dsimp only [putD, List.set]) ?_)
    first | (refine at_op (some 10) rfl rfl rfl rfl (op_loadR1 rfl fone_int rfl) (by dsimp only [putD, List.set]) ?_) | (refine at_op (some 10) rfl rfl rfl rfl (op_loadP1 rfl fone_int rfl rfl) (by dsimp only [putD, List.set]) ?_)
    refine at_op (some 11) rfl rfl rfl rfl (op_binI rfl rfl) (by dsimp only [putD, List.set]) ?_
    refine at_pk false 7 11 12 rfl rfl rfl rfl rfl rfl rfl (by dsimp only [List.set]) ?_
    refine at_mv 12 3 rfl rfl rfl (.inr rfl) rfl (by dsimp only [List.set]) ?_
    refine at_end rfl ?_
    refine at_ret rfl (ret_one (t := 3) rfl rfl ?_ rfl)
    simp_all <;> omega

noncomputable def cCheckH : Code := Tryz.f12.body.getD .skip
set_option maxRecDepth 20000 in
theorem checkH_loop (n : Nat) (G : List (List Arc)) (hG : GOK n G) (h6 : n ≤ 6) (m : Nat) : ∀ (i : Nat), n - i = m → i ≤ n → Run PP (fun env σ1 => ResOK PP Tryz.f12 env σ1 (di 0) σ0) [.lp (sub cCheckH [1, 1, 1, 0, 1, 0, 0]), .blk 0, .code (sub cCheckH [1, 1, 1, 1])] (.undef :: (.v (.ref (vG n G))) :: .undef :: (.v (.ref (vi ↑n))) :: .undef :: .undef :: .undef :: .undef :: .undef :: .undef :: .undef :: .undef :: .undef :: .undef :: .undef :: .undef :: .undef :: .undef :: .undef :: .undef :: .undef :: .undef :: .undef :: (.v (.list (vCfgs n))) :: (di ↑n) :: (di ↑i) :: .undef :: .undef :: .undef :: .undef :: .undef :: .undef :: .undef :: .undef :: .undef :: .undef :: .undef :: .undef :: .undef :: .undef :: .undef :: .undef :: .undef :: .undef :: .undef :: []) σ0 := by
  induction m using Nat.strongRecOn with
  | _ m ih =>
    intro i hm hi
    refine run_lp ?_
    refine at_seq [1, 1, 1, 0, 1, 0, 0, 0] [1, 1, 1, 0, 1, 0, 0, 1] rfl ?_
    refine at_region rfl ?_
    refine at_op (some 26) rfl rfl rfl rfl (op_binI rfl rfl) (by dsimp only [putD, List.set]) ?_
    refine at_end rfl ?_
    refine at_seq [1, 1, 1, 0, 1, 0, 0, 1, 0] [1, 1, 1, 0, 1, 0, 0, 1, 1] rfl ?_
    refine at_cond [1, 1, 1, 0, 1, 0, 0, 1, 0, 0] [1, 1, 1, 0, 1, 0, 0, 1, 0, 1] rfl rfl (fun hc1 => ?_) (fun hc1 => ?_)
    · skip
      have hlt : i < n := by simp at hc1; omega
      have hc := cfg_get hlt
      obtain ⟨row, hr⟩ := get_ex (a := G) (i := i) (by rw [hG.len]; exact hlt)
      have hr2 := idx_some (f := vArcs) hr
      obtain ⟨hrl, hrow⟩ := hG.row row (List.mem_of_getElem? hr)
      refine at_skip rfl ?_
      refine at_seq [1, 1, 1, 0, 1, 0, 0, 1, 1, 0] [1, 1, 1, 0, 1, 0, 0, 1, 1, 1] rfl ?_
      refine at_block [1, 1, 1, 0, 1, 0, 0, 1, 1, 0, 0] 1 rfl ?_
      refine at_seq [1, 1, 1, 0, 1, 0, 0, 1, 1, 0, 0, 0] [1, 1, 1, 0, 1, 0, 0, 1, 1, 0, 0, 1] rfl ?_
      refine at_region rfl ?_
      refine at_mv 25 27 rfl rfl rfl (.inl rfl) rfl (by dsimp only [List.set]) ?_
      first | (refine at_op (some 28) rfl rfl rfl rfl (op_idxL rfl fsl_Sapi_Value (by first | decide | omega) (by first | assumption | exact idx_some (by assumption) | rfl) (by first | rfl | (simp [V.size]; done))) (by dsimp only [putD, List.set]) ?_) | (refine at_op (some 28) rfl rfl rfl rfl (opOK_un (op_idxL rfl fsl_Sapi_Value (by first | decide | omega) (by first | assumption | exact idx_some (by assumption) | rfl) (by first | rfl | (simp [V.size]; done)))) (by dsimp only [putD, List.set]) ?_) | (refine at_op (some 28) rfl rfl rfl rfl (op_idxA rfl fsl_Sapi_Value (by first | decide | omega) (by first | decide | omega)) (by dsimp only [putD, List.set]) ?_)
      first | (refine at_op (some 29) rfl rfl rfl rfl (op_loadRA rfl fagg_api_Value) (by dsimp only [putD, List.set]) ?_) | (refine at_op (some 29) rfl rfl rfl rfl (op_loadPA rfl fagg_api_Value rfl (by first | decide | simp) rfl) (by dsimp only [putD, List.set]) ?_)
      refine at_new1 29 5 27 4 rfl rfl rfl rfl fzero_api_Value rfl rfl rfl (.inr rfl) rfl (by decide) (by decide) (by decide) rfl rfl rfl rfl (by decide) rfl rfl fagg_api_Value (by first | rfl | (simp [V.size]; done)) rfl (by simp only [List.length_cons]; omega) (by dsimp only [List.set]) ?_
      refine at_end rfl ?_
      refine at_seq [1, 1, 1, 0, 1, 0, 0, 1, 1, 0, 0, 1, 0] [1, 1, 1, 0, 1, 0, 0, 1, 1, 0, 0, 1, 1] rfl ?_
      refine at_seq [1, 1, 1, 0, 1, 0, 0, 1, 1, 0, 0, 1, 0, 0] [1, 1, 1, 0, 1, 0, 0, 1, 1, 0, 0, 1, 0, 1] rfl ?_
      refine at_draw mixed rfl [σ0] rfl ?_
      first | (refine da_quiet (some 30) rfl rfl rfl rfl (fun s hs => op_fieldP rfl ffld0_api_Graph (by decide)) (by dsimp only [putD, List.set]) ?_) | (refine da_quiet (some 30) rfl rfl rfl rfl (fun s hs => op_fieldR rfl ffld0_api_Graph (by decide) (by decide) rfl) (by dsimp only [putD, List.set]) ?_)
      first | (refine da_quiet (some 31) rfl rfl rfl rfl (fun s hs => op_loadR1 rfl fone_Sapi_Value rfl) (by dsimp only [putD, List.set]) ?_) | (refine da_quiet (some 31) rfl rfl rfl rfl (by intro s hs; simp only [List.mem_cons, List.not_mem_nil, or_false] at hs; rcases hs with rfl <;> exact op_loadP1 rfl fone_Sapi_Value rfl rfl) (by dsimp only [putD, List.set]) ?_)
      refine da_mv 4 32 rfl rfl rfl (.inl rfl) rfl (by dsimp only [List.set]) ?_
      refine da_quiet (some 33) rfl rfl rfl rfl (fun s hs => op_sliceCfg rfl fsl_Sapi_Value hi) (by dsimp only [putD, List.set]) ?_
      first | (refine da_quiet (some 34) rfl rfl rfl rfl (fun s hs => op_loadRA rfl fagg_api_Value) (by dsimp only [putD, List.set]) ?_) | (refine da_quiet (some 34) rfl rfl rfl rfl (by intro s hs; simp only [List.mem_cons, List.not_mem_nil, or_false] at hs; rcases hs with rfl <;> exact op_loadPA rfl fagg_api_Value rfl (by first | decide | simp) rfl) (by dsimp only [putD, List.set]) ?_)
      refine da_quiet (some 35) rfl rfl rfl rfl (fun s hs => op_call0 rfl rfl rfl rfl (index_spec i (by omega))) (by dsimp only [putD, List.set]) ?_
      refine da_quiet (some 36) rfl rfl rfl rfl (fun s hs => op_binI rfl rfl) (by dsimp only [putD, List.set]) ?_
      refine da_end rfl ⟨by decide +kernel, _, rfl, ?_⟩
      refine at_cond [1, 1, 1, 0, 1, 0, 0, 1, 1, 0, 0, 1, 0, 1, 0] [1, 1, 1, 0, 1, 0, 0, 1, 1, 0, 0, 1, 0, 1, 1] rfl rfl (fun hc2 => ?_) (fun hc2 => ?_)
      · skip
        exact absurd hc2 (by decide)
      · skip
        refine at_skip rfl ?_
        refine at_seq [1, 1, 1, 0, 1, 0, 0, 1, 1, 0, 0, 1, 1, 0] [1, 1, 1, 0, 1, 0, 0, 1, 1, 0, 0, 1, 1, 1] rfl ?_
        refine at_region rfl ?_
        first | (refine at_op (some 37) rfl rfl rfl rfl (op_fieldP rfl ffld1_api_Graph (by decide)) (by dsimp only [putD, List.set]) ?_) | (refine at_op (some 37) rfl rfl rfl rfl (op_fieldR rfl ffld1_api_Graph (by decide) (by decide) rfl) (by dsimp only [putD, List.set]) ?_)
        first | (refine at_op (some 38) rfl rfl rfl rfl (op_loadR1 rfl fone__5b5d5b5d_api_Arc rfl) (by dsimp only [putD, List.set]) ?_) | (refine at_op (some 38) rfl rfl rfl rfl (op_loadP1 rfl fone__5b5d5b5d_api_Arc rfl rfl) (by dsimp only [putD, List.set]) ?_)
        refine at_mv 4 39 rfl rfl rfl (.inl rfl) rfl (by dsimp only [List.set]) ?_
        first | (refine at_op (some 40) rfl rfl rfl rfl (op_idxL rfl fsl__5b5d5b5d_api_Arc (by first | decide | omega) (by first | assumption | exact idx_some (by assumption) | rfl) (by first | rfl | (simp [V.size]; done))) (by dsimp only [putD, List.set]) ?_) | (refine at_op (some 40) rfl rfl rfl rfl (opOK_un (op_idxL rfl fsl__5b5d5b5d_api_Arc (by first | decide | omega) (by first | assumption | exact idx_some (by assumption) | rfl) (by first | rfl | (simp [V.size]; done)))) (by dsimp only [putD, List.set]) ?_) | (refine at_op (some 40) rfl rfl rfl rfl (op_idxA rfl fsl__5b5d5b5d_api_Arc (by first | decide | omega) (by first | decide | omega)) (by dsimp only [putD, List.set]) ?_)
        first | (refine at_op (some 41) rfl rfl rfl rfl (op_loadR1 rfl fone_Sapi_Arc rfl) (by dsimp only [putD, List.set]) ?_) | (refine at_op (some 41) rfl rfl rfl rfl (op_loadP1 rfl fone_Sapi_Arc rfl rfl) (by dsimp only [putD, List.set]) ?_)
        refine at_op (some 42) rfl rfl rfl rfl (op_makeFunc0 rfl rfl rfl) (by dsimp only [putD, List.set]) ?_
        refine at_op (some 43) rfl rfl rfl rfl (op_call0 rfl rfl rfl rfl (containsFA_spec 31 [] [.ref (vi ↑n)] row (fun _ => false) (fun a ha => check1_spec a n (hrow a ha).1 (hrow a ha).2) (by omega))) (by dsimp only [putD, List.set]) ?_
        refine at_end rfl ?_
        refine at_cond [1, 1, 1, 0, 1, 0, 0, 1, 1, 0, 0, 1, 1, 1, 0] [1, 1, 1, 0, 1, 0, 0, 1, 1, 0, 0, 1, 1, 1, 1] rfl rfl (fun hc3 => ?_) (fun hc3 => ?_)
        · skip
          exact absurd hc3 (by simp)
        · skip
          refine at_skip rfl ?_
          refine run_blk ?_
          refine at_region rfl ?_
          refine at_op (some 44) rfl rfl rfl rfl (op_binI rfl rfl) (by dsimp only [putD, List.set]) ?_
          rw [wrap_succ (by omega)]
          refine at_mv 44 25 rfl rfl rfl (.inl rfl) rfl (by dsimp only [List.set]) ?_
          refine at_end rfl ?_
          exact run_wk (.drop (.keep (.drop (.keep (.drop (.drop (.drop (.drop (.drop (.drop (.drop (.drop (.drop (.drop (.drop (.drop (.drop (.drop (.drop (.drop (.drop (.drop (.drop (.keep (.keep (.keep (.drop (.drop (.drop (.drop (.drop (.drop (.drop (.drop (.drop (.drop (.drop (.drop (.drop (.drop (.drop (.drop (.drop (.drop (.drop .nil))))))))))))))))))))))))))))))))))))))))))))) (ih _ (by omega) (i + 1) rfl (by omega))
    · skip
      refine at_exit rfl rfl ?_
      refine at_seq [1, 1, 1, 1, 0] [1, 1, 1, 1, 1] rfl ?_
      refine at_region rfl ?_
      refine at_mc 2 rfl rfl rfl (.inr rfl) (by dsimp only [constD]) (by dsimp only [List.set]) ?_
      refine at_end rfl ?_
      refine at_ret rfl (ret_one (t := 2) rfl rfl ?_ rfl)
      rfl

set_option maxRecDepth 20000 in
theorem checkH_spec (n : Nat) (G : List (List Arc)) (hG : GOK n G) (h6 : n ≤ 6) : FSpec PP 12 [.v (vG n G)] σ0 (di 0) σ0 := by
  have hp := hG.pos
  have hl := hG.len
  refine spec_at cCheckH Tryz.func12 rfl (by kernel_rfl) (by first | decide | simp) _ (by dsimp only [Tryz.f12, List.length, Nat.reduceAdd, Nat.reduceSub, List.replicate, List.cons_append, List.nil_append]) ?_
  refine at_seq [0] [1] rfl ?_
  refine at_region rfl ?_
  refine at_op (some 1) rfl rfl rfl rfl (op_boxI rfl rfl) (by dsimp only [putD, List.set]) ?_
  refine at_mc 2 rfl rfl rfl (.inr rfl) (by dsimp only [constD]) (by dsimp only [List.set]) ?_
  refine at_end rfl ?_
  refine at_seq [1, 0] [1, 1] rfl ?_
  refine at_region rfl ?_
  first | (refine at_op (some 6) rfl rfl rfl rfl (op_fieldP rfl ffld0_api_Graph (by decide)) (by dsimp only [putD, List.set]) ?_) | (refine at_op (some 6) rfl rfl rfl rfl (op_fieldR rfl ffld0_api_Graph (by decide) (by decide) rfl) (by dsimp only [putD, List.set]) ?_)
  first | (refine at_op (some 7) rfl rfl rfl rfl (op_loadR1 rfl fone_Sapi_Value rfl) (by dsimp only [putD, List.set]) ?_) | (refine at_op (some 7) rfl rfl rfl rfl (op_loadP1 rfl fone_Sapi_Value rfl rfl) (by dsimp only [putD, List.set]) ?_)
  first | (refine at_op (some 8) rfl rfl rfl rfl (op_lenL rfl fu_Sapi_Value) (by dsimp only [putD, List.set]) ?_) | (refine at_op (some 8) rfl rfl rfl rfl (opOK_un (op_lenL rfl fu_Sapi_Value)) (by dsimp only [putD, List.set]) ?_) | (refine at_op (some 8) rfl rfl rfl rfl (op_lenA rfl fu_Sapi_Value) (by dsimp only [putD, List.set]) ?_)
  simp only [List.length_map, List.length_range]
  refine at_new 8 3 rfl rfl rfl rfl fzero_int rfl rfl rfl rfl (by decide) rfl rfl fone_int (by first | rfl | (simp [V.size]; done)) rfl (by simp only [List.length_cons]; omega) (by dsimp only [List.set]) ?_
  refine at_end rfl ?_
  refine at_seq [1, 1, 0] [1, 1, 1] rfl ?_
  refine at_seq [1, 1, 0, 0] [1, 1, 0, 1] rfl ?_
  refine at_region rfl ?_
  first | (refine at_op (some 9) rfl rfl rfl rfl (op_loadR1 rfl fone_int rfl) (by dsimp only [putD, List.set]) ?_) | (refine at_op (some 9) rfl rfl rfl rfl (op_loadP1 rfl fone_int rfl rfl) (by dsimp only [putD, List.set]) ?_)
  refine at_op (some 10) rfl rfl rfl rfl (op_binI rfl rfl) (by dsimp only [putD, List.set]) ?_
  refine at_mv 10 11 rfl rfl rfl (.inl rfl) rfl (by dsimp only [List.set]) ?_
  refine at_split 11 rfl (fun hb1 env' he => ?_) (fun hb1 env' he => ?_)
  · dsimp only [List.set] at he; subst he
    exact absurd hb1 (by simp; omega)
  · dsimp only [List.set] at he; subst he
    first | (refine at_op (some 12) rfl rfl rfl rfl (op_loadR1 rfl fone_int rfl) (by dsimp only [putD, List.set]) ?_) | (refine at_op (some 12) rfl rfl rfl rfl (op_loadP1 rfl fone_int rfl rfl) (by dsimp only [putD, List.set]) ?_)
    refine at_op (some 13) rfl rfl rfl rfl (op_binI rfl rfl) (by dsimp only [putD, List.set]) ?_
    refine at_pk false 11 13 14 rfl rfl rfl rfl rfl rfl rfl (by dsimp only [List.set]) ?_
    refine at_mv 14 15 rfl rfl rfl (.inl rfl) rfl (by dsimp only [List.set]) ?_
    refine at_split 15 rfl (fun hb2 env' he => ?_) (fun hb2 env' he => ?_)
    · dsimp only [List.set] at he; subst he
      exact absurd hb2 (by simp; omega)
    · dsimp only [List.set] at he; subst he
      first | (refine at_op (some 16) rfl rfl rfl rfl (op_fieldP rfl ffld1_api_Graph (by decide)) (by dsimp only [putD, List.set]) ?_) | (refine at_op (some 16) rfl rfl rfl rfl (op_fieldR rfl ffld1_api_Graph (by decide) (by decide) rfl) (by dsimp only [putD, List.set]) ?_)
      first | (refine at_op (some 17) rfl rfl rfl rfl (op_loadR1 rfl fone__5b5d5b5d_api_Arc rfl) (by dsimp only [putD, List.set]) ?_) | (refine at_op (some 17) rfl rfl rfl rfl (op_loadP1 rfl fone__5b5d5b5d_api_Arc rfl rfl) (by dsimp only [putD, List.set]) ?_)
      first | (refine at_op (some 18) rfl rfl rfl rfl (op_lenL rfl fu__5b5d5b5d_api_Arc) (by dsimp only [putD, List.set]) ?_) | (refine at_op (some 18) rfl rfl rfl rfl (opOK_un (op_lenL rfl fu__5b5d5b5d_api_Arc)) (by dsimp only [putD, List.set]) ?_) | (refine at_op (some 18) rfl rfl rfl rfl (op_lenA rfl fu__5b5d5b5d_api_Arc) (by dsimp only [putD, List.set]) ?_)
      simp only [List.length_map, hl]
      first | (refine at_op (some 19) rfl rfl rfl rfl (op_loadR1 rfl fone_int rfl) (by dsimp only [putD, List.set]) ?_) | (refine at_op (some 19) rfl rfl rfl rfl (op_loadP1 rfl fone_int rfl rfl) (by dsimp only [putD, List.set]) ?_)
      refine at_op (some 20) rfl rfl rfl rfl (op_binI rfl rfl) (by dsimp only [putD, List.set]) ?_
      refine at_pk false 15 20 21 rfl rfl rfl rfl rfl rfl rfl (by dsimp only [List.set]) ?_
      refine at_end rfl ?_
      refine at_cond [1, 1, 0, 1, 0] [1, 1, 0, 1, 1] rfl rfl (fun hc3 => ?_) (fun hc3 => ?_)
      · skip
        exact absurd hc3 (by simp)
      · skip
        refine at_skip rfl ?_
        refine at_seq [1, 1, 1, 0] [1, 1, 1, 1] rfl ?_
        refine at_seq [1, 1, 1, 0, 0] [1, 1, 1, 0, 1] rfl ?_
        refine at_region rfl ?_
        first | (refine at_op (some 22) rfl rfl rfl rfl (op_fieldP rfl ffld0_api_Graph (by decide)) (by dsimp only [putD, List.set]) ?_) | (refine at_op (some 22) rfl rfl rfl rfl (op_fieldR rfl ffld0_api_Graph (by decide) (by decide) rfl) (by dsimp only [putD, List.set]) ?_)
        first | (refine at_op (some 23) rfl rfl rfl rfl (op_loadR1 rfl fone_Sapi_Value rfl) (by dsimp only [putD, List.set]) ?_) | (refine at_op (some 23) rfl rfl rfl rfl (op_loadP1 rfl fone_Sapi_Value rfl rfl) (by dsimp only [putD, List.set]) ?_)
        first | (refine at_op (some 24) rfl rfl rfl rfl (op_lenL rfl fu_Sapi_Value) (by dsimp only [putD, List.set]) ?_) | (refine at_op (some 24) rfl rfl rfl rfl (opOK_un (op_lenL rfl fu_Sapi_Value)) (by dsimp only [putD, List.set]) ?_) | (refine at_op (some 24) rfl rfl rfl rfl (op_lenA rfl fu_Sapi_Value) (by dsimp only [putD, List.set]) ?_)
        simp only [List.length_map, List.length_range]
        refine at_mc 25 rfl rfl rfl (.inl rfl) (by dsimp only [constD]) (by dsimp only [List.set]) ?_
        refine at_end rfl ?_
        refine at_block [1, 1, 1, 0, 1, 0] 0 rfl ?_
        refine at_loop [1, 1, 1, 0, 1, 0, 0] rfl ?_
        try simp only [List.length_map, List.length_nil, Int.toNat_natCast]
        exact run_wk (.drop (.keep (.drop (.keep (.drop (.drop (.drop (.drop (.drop (.drop (.drop (.drop (.drop (.drop (.drop (.drop (.drop (.drop (.drop (.drop (.drop (.drop (.drop (.keep (.keep (.keep (.drop (.drop (.drop (.drop (.drop (.drop (.drop (.drop (.drop (.drop (.drop (.drop (.drop (.drop (.drop (.drop (.drop (.drop (.drop .nil))))))))))))))))))))))))))))))))))))))))))))) (checkH_loop n G hG h6 _ 0 rfl (by omega))

noncomputable def cValid1 : Code := Tryz.f72.body.getD .skip
set_option maxRecDepth 20000 in
theorem valid1_spec (x : Int) (n : Nat) (G : List (List Arc)) (h0 : 0 ≤ x) (h1 : x < n) : FSpec PP 72 [di x, .v (.ref (vG n G))] σ0 (db false) σ0 := by
  refine spec_at cValid1 Tryz.func72 rfl (by kernel_rfl) (by first | decide | simp) _ (by dsimp only [Tryz.f72, List.length, Nat.reduceAdd, Nat.reduceSub, List.replicate, List.cons_append, List.nil_append]) ?_
  refine at_seq [0] [1] rfl ?_
  refine at_region rfl ?_
  refine at_mc 3 rfl rfl rfl (.inr rfl) (by dsimp only [constD]) (by dsimp only [List.set]) ?_
  refine at_end rfl ?_
  refine at_seq [1, 0] [1, 1] rfl ?_
  refine at_region rfl ?_
  refine at_mv 0 4 rfl rfl rfl (.inl rfl) rfl (by dsimp only [List.set]) ?_
  refine at_op (some 5) rfl rfl rfl rfl (op_binI rfl rfl) (by dsimp only [putD, List.set]) ?_
  refine at_mv 5 6 rfl rfl rfl (.inl rfl) rfl (by dsimp only [List.set]) ?_
  refine at_split 6 rfl (fun hb1 env' he => ?_) (fun hb1 env' he => ?_)
  · dsimp only [List.set] at he; subst he
    refine at_opN (some 7) rfl rfl rfl (by dsimp only [putD, List.set]) ?_
    refine at_opN (some 8) rfl rfl rfl (by dsimp only [putD, List.set]) ?_
    refine at_opN (some 9) rfl rfl rfl (by dsimp only [putD, List.set]) ?_
    refine at_opN (some 10) rfl rfl rfl (by dsimp only [putD, List.set]) ?_
    refine at_opN (some 11) rfl rfl rfl (by dsimp only [putD, List.set]) ?_
    refine at_pkc true 6 12 rfl rfl rfl rfl rfl rfl (by dsimp only [constD]) (by dsimp only [List.set]) ?_
    refine at_mv 12 3 rfl rfl rfl (.inr rfl) rfl (by dsimp only [List.set]) ?_
    refine at_end rfl ?_
    refine at_ret rfl (ret_one (t := 3) rfl rfl ?_ rfl)
    simp_all <;> omega
  · dsimp only [List.set] at he; subst he
    refine at_mv 0 7 rfl rfl rfl (.inl rfl) rfl (by dsimp only [List.set]) ?_
    first | (refine at_op (some 8) rfl rfl rfl rfl (op_fieldP rfl ffld0_api_Graph (by decide)) (by dsimp only [putD, List.set]) ?_) | (refine at_op (some 8) rfl rfl rfl rfl (op_fieldR rfl ffld0_api_Graph (by decide) (by decide) rfl) (by dsimp only [putD, List.set]) ?_)
    first | (refine at_op (some 9) rfl rfl rfl rfl (op_loadR1 rfl fone_Sapi_Value rfl) (by dsimp only [putD, List.set]) ?_) | (refine at_op (some 9) rfl rfl rfl rfl (op_loadP1 rfl fone_Sapi_Value rfl rfl) (by dsimp only [putD, List.set]) ?_)
    first | (refine at_op (some 10) rfl rfl rfl rfl (op_lenL rfl fu_Sapi_Value) (by dsimp only [putD, List.set]) ?_) | (refine at_op (some 10) rfl rfl rfl rfl (opOK_un (op_lenL rfl fu_Sapi_Value)) (by dsimp only [putD, List.set]) ?_) | (refine at_op (some 10) rfl rfl rfl rfl (op_lenA rfl fu_Sapi_Value) (by dsimp only [putD, List.set]) ?_)
    simp only [List.length_map, List.length_range]
    refine at_op (some 11) rfl rfl rfl rfl (op_binI rfl rfl) (by dsimp only [putD, List.set]) ?_
    refine at_pk false 6 11 12 rfl rfl rfl rfl rfl rfl rfl (by dsimp only [List.set]) ?_
    refine at_mv 12 3 rfl rfl rfl (.inr rfl) rfl (by dsimp only [List.set]) ?_
    refine at_end rfl ?_
    refine at_ret rfl (ret_one (t := 3) rfl rfl ?_ rfl)
    simp_all <;> omega

noncomputable def cValid : Code := Tryz.f37.body.getD .skip
set_option maxRecDepth 20000 in
theorem validH_spec (n : Nat) (G : List (List Arc)) (hG : GOK n G) (h6 : n ≤ 6) (xs : List Int) (hx : ∀ x ∈ xs, 0 ≤ x ∧ x < n) (hxl : xs.length ≤ 100) : FSpec PP 37 [.v (vG n G), dl xs] σ0 (db true) σ0 := by
  refine spec_at cValid Tryz.func37 rfl (by kernel_rfl) (by first | decide | simp) _ (by dsimp only [Tryz.f37, List.length, Nat.reduceAdd, Nat.reduceSub, List.replicate, List.cons_append, List.nil_append]) ?_
  refine at_seq [0] [1] rfl ?_
  refine at_region rfl ?_
  refine at_op (some 2) rfl rfl rfl rfl (op_boxI rfl rfl) (by dsimp only [putD, List.set]) ?_
  refine at_mc 4 rfl rfl rfl (.inr rfl) (by dsimp only [constD]) (by dsimp only [List.set]) ?_
  refine at_end rfl ?_
  refine at_seq [1, 0] [1, 1] rfl ?_
  refine at_region rfl ?_
  first | (refine at_op (some 5) rfl rfl rfl rfl (op_loadRA rfl fagg_api_Graph) (by dsimp only [putD, List.set]) ?_) | (refine at_op (some 5) rfl rfl rfl rfl (op_loadPA rfl fagg_api_Graph rfl (by first | decide | simp) rfl) (by dsimp only [putD, List.set]) ?_)
  refine at_op (some 6) rfl rfl rfl rfl (op_call0 rfl rfl rfl rfl (checkH_spec n G hG h6)) (by dsimp only [putD, List.set]) ?_
  refine at_op (some 7) rfl rfl rfl rfl (op_binI rfl rfl) (by dsimp only [putD, List.set]) ?_
  refine at_mv 7 8 rfl rfl rfl (.inl rfl) rfl (by dsimp only [List.set]) ?_
  refine at_split 8 rfl (fun hb1 env' he => ?_) (fun hb1 env' he => ?_)
  · dsimp only [List.set] at he; subst he
    refine at_mv 1 9 rfl rfl rfl (.inl rfl) rfl (by dsimp only [List.set]) ?_
    refine at_op (some 10) rfl rfl rfl rfl (op_makeFunc0 rfl rfl rfl) (by dsimp only [putD, List.set]) ?_
    refine at_op (some 11) rfl rfl rfl rfl (op_call0 rfl rfl rfl rfl (containsFI_spec 72 [] [.ref (vG n G)] xs (fun _ => false) (fun x hx2 => valid1_spec x n G (hx x hx2).1 (hx x hx2).2) (by omega))) (by dsimp only [putD, List.set]) ?_
    refine at_op (some 12) rfl rfl rfl rfl (op_un rfl rfl) (by dsimp only [putD, List.set]) ?_
    refine at_pk true 8 12 13 rfl rfl rfl rfl rfl rfl rfl (by dsimp only [List.set]) ?_
    refine at_mv 13 4 rfl rfl rfl (.inr rfl) rfl (by dsimp only [List.set]) ?_
    refine at_end rfl ?_
    refine at_ret rfl (ret_one (t := 4) rfl rfl ?_ rfl)
    simp_all
  · dsimp only [List.set] at he; subst he
    refine at_opN (some 9) rfl rfl rfl (by dsimp only [putD, List.set]) ?_
    refine at_opN (some 10) rfl rfl rfl (by dsimp only [putD, List.set]) ?_
    refine at_opN (some 11) rfl rfl rfl (by dsimp only [putD, List.set]) ?_
    refine at_opN (some 12) rfl rfl rfl (by dsimp only [putD, List.set]) ?_
    refine at_pkc false 8 13 rfl rfl rfl rfl rfl rfl (by dsimp only [constD]) (by dsimp only [List.set]) ?_
    refine at_mv 13 4 rfl rfl rfl (.inr rfl) rfl (by dsimp only [List.set]) ?_
    refine at_end rfl ?_
    refine at_ret rfl (ret_one (t := 4) rfl rfl ?_ rfl)
    simp_all

end Go.Proofs.YtmdipbhjhkckjaaGreat

namespace Go.Proofs.YtmdipbhjhkckjaaGreat
open Go.Dv

def gb (l : List Bool) (i : Nat) : Bool := l.getD i false
theorem gb_some {l : List Bool} {i : Nat} {b : Bool} (h : l[i]? = some b) : gb l i = b := by simp [gb, List.getD_eq_getElem?_getD, h]
def allM (G : List (List Arc)) (n : Nat) : List (List Bool) := (List.range n).map (reachM G n)
theorem bfsM_length (G : List (List Arc)) : ∀ (f : Nat) (out : List Bool) (todo : List Nat), (bfsM G f out todo).length = out.length
  | 0, _, _ => rfl
  | f + 1, out, [] => rfl
  | f + 1, out, x :: todo => by simp only [bfsM]; rw [bfsM_length G f, stepM_length]
theorem reachM_length (G : List (List Arc)) (n x : Nat) : (reachM G n x).length = n := by simp [reachM, bfsM_length]
theorem allM_length (G : List (List Arc)) (n : Nat) : (allM G n).length = n := by simp [allM]
theorem allM_row {G : List (List Arc)} {n : Nat} {r : List Bool} (h : r ∈ allM G n) : r.length = n := by
  obtain ⟨x, _, rfl⟩ := List.mem_map.1 h; exact reachM_length G n x
def homeQ (R : List (List Bool)) (i : Nat) : Bool := !(R.any fun f => !gb f i)
def homesM (G : List (List Arc)) (n : Nat) : List Nat := (List.range n).filter (homeQ (allM G n))
def deadQ (G : List (List Arc)) (i : Nat) : Bool := (G.getD i []).length == 0
def deadM (G : List (List Arc)) (n : Nat) : List Nat := (List.range n).filter (deadQ G)
def reachL (G : List (List Arc)) (n x : Nat) : List Nat := (List.range n).filter (gb (reachM G n x))
abbrev vbb (R : List (List Bool)) : V := .list (R.map vbs)
theorem all_at {G : List (List Arc)} {n i : Nat} (h : i < n) : allM G n = (allM G n).take i ++ reachM G n i :: (allM G n).drop (i + 1) := by
  have hl : i < (allM G n).length := by rw [allM_length]; exact h
  conv => lhs; rw [← List.take_append_drop i (allM G n), List.drop_eq_getElem_cons hl]
  congr 2
  simp [allM]

noncomputable def cReachC : Code := Tryz.f40.body.getD .skip
set_option maxRecDepth 20000 in
theorem reachC_spec (r : List Bool) (i : Nat) (hi : i < r.length) : FSpec PP 40 [di ↑i, .v (.ref (vbs r))] σ0 (db (gb r i)) σ0 := by
  obtain ⟨b, hb⟩ := get_ex hi
  have hb2 := idx_some (f := vb) hb
  rw [gb_some hb]
  refine spec_at cReachC Tryz.func40 rfl (by kernel_rfl) (by first | decide | simp) _ (by dsimp only [Tryz.f40, List.length, Nat.reduceAdd, Nat.reduceSub, List.replicate, List.cons_append, List.nil_append]) ?_
  refine at_seq [0] [1] rfl ?_
  refine at_region rfl ?_
  refine at_mc 3 rfl rfl rfl (.inr rfl) (by dsimp only [constD]) (by dsimp only [List.set]) ?_
  refine at_end rfl ?_
  refine at_seq [1, 0] [1, 1] rfl ?_
  refine at_region rfl ?_
  first | (refine at_op (some 4) rfl rfl rfl rfl (op_loadR1 rfl fone_Sbool rfl) (by dsimp only [putD, List.set]) ?_) | (refine at_op (some 4) rfl rfl rfl rfl (op_loadP1 rfl fone_Sbool rfl rfl) (by dsimp only [putD, List.set]) ?_)
  refine at_mv 0 5 rfl rfl rfl (.inl rfl) rfl (by dsimp only [List.set]) ?_
  first | (refine at_op (some 6) rfl rfl rfl rfl (op_idxL rfl fsl_Sbool (by first | decide | omega) (by first | assumption | exact idx_some (by assumption) | rfl) (by first | rfl | (simp [V.size]; done))) (by dsimp only [putD, List.set]) ?_) | (refine at_op (some 6) rfl rfl rfl rfl (opOK_un (op_idxL rfl fsl_Sbool (by first | decide | omega) (by first | assumption | exact idx_some (by assumption) | rfl) (by first | rfl | (simp [V.size]; done)))) (by dsimp only [putD, List.set]) ?_) | (refine at_op (some 6) rfl rfl rfl rfl (op_idxA rfl fsl_Sbool (by first | decide | omega) (by first | decide | omega)) (by dsimp only [putD, List.set]) ?_)
  first | (refine at_op (some 7) rfl rfl rfl rfl (op_loadR1 rfl fone_bool rfl) (by dsimp only [putD, List.set]) ?_) | (refine at_op (some 7) rfl rfl rfl rfl (op_loadP1 rfl fone_bool rfl rfl) (by dsimp only [putD, List.set]) ?_)
  refine at_mv 7 3 rfl rfl rfl (.inr rfl) rfl (by dsimp only [List.set]) ?_
  refine at_end rfl ?_
  refine at_ret rfl (ret_one (t := 3) rfl rfl ?_ rfl)
  rfl

noncomputable def cReachP : Code := Tryz.f16.body.getD .skip
set_option maxRecDepth 20000 in
theorem reachP_spec (n : Nat) (G : List (List Arc)) (hG : GOK n G) (h6 : n ≤ 6) (x : Nat) (hx : x < n) : FSpec PP 16 [.v (vG n G), di ↑x] σ0 (.v (.list (vns (reachL G n x)))) σ0 := by
  have hrl := reachM_length G n x
  refine spec_at cReachP Tryz.func16 rfl (by kernel_rfl) (by first | decide | simp) _ (by dsimp only [Tryz.f16, List.length, Nat.reduceAdd, Nat.reduceSub, List.replicate, List.cons_append, List.nil_append]) ?_
  refine at_seq [0] [1] rfl ?_
  refine at_region rfl ?_
  refine at_op (some 2) rfl rfl rfl rfl (op_boxI rfl rfl) (by dsimp only [putD, List.set]) ?_
  refine at_mc 4 rfl rfl rfl (.inr rfl) (by dsimp only [constD]) (by dsimp only [List.set]) ?_
  refine at_end rfl ?_
  refine at_seq [1, 0] [1, 1] rfl ?_
  refine at_seq [1, 0, 0] [1, 0, 1] rfl ?_
  refine at_region rfl ?_
  first | (refine at_op (some 6) rfl rfl rfl rfl (op_loadRA rfl fagg_api_Graph) (by dsimp only [putD, List.set]) ?_) | (refine at_op (some 6) rfl rfl rfl rfl (op_loadPA rfl fagg_api_Graph rfl (by first | decide | simp) rfl) (by dsimp only [putD, List.set]) ?_)
  refine at_mv 1 7 rfl rfl rfl (.inl rfl) rfl (by dsimp only [List.set]) ?_
  refine at_op (some 8) rfl rfl rfl rfl (op_buildSlice rfl (by rfl) (by rfl) fsl_Sint rfl rfl (by simp [V.size]) (by decide) (by decide) (by decide)) (by dsimp only [putD, List.set]) ?_
  refine at_op (some 9) rfl rfl rfl rfl (op_call0 rfl rfl rfl rfl (validH_spec n G hG h6 [(x : Int)] (by simp; omega) (by simp))) (by dsimp only [putD, List.set]) ?_
  refine at_op (some 10) rfl rfl rfl rfl (op_un rfl rfl) (by dsimp only [putD, List.set]) ?_
  refine at_end rfl ?_
  refine at_cond [1, 0, 1, 0] [1, 0, 1, 1] rfl rfl (fun hc1 => ?_) (fun hc1 => ?_)
  · skip
    exact absurd hc1 (by simp)
  · skip
    refine at_skip rfl ?_
    refine at_seq [1, 1, 0] [1, 1, 1] rfl ?_
    refine at_region rfl ?_
    first | (refine at_op (some 11) rfl rfl rfl rfl (op_loadRA rfl fagg_api_Graph) (by dsimp only [putD, List.set]) ?_) | (refine at_op (some 11) rfl rfl rfl rfl (op_loadPA rfl fagg_api_Graph rfl (by first | decide | simp) rfl) (by dsimp only [putD, List.set]) ?_)
    refine at_mv 1 12 rfl rfl rfl (.inl rfl) rfl (by dsimp only [List.set]) ?_
    refine at_op (some 13) rfl rfl rfl rfl (op_call0 rfl rfl rfl rfl (reach_spec n G hG x hx)) (by dsimp only [putD, List.set]) ?_
    refine at_new 13 5 rfl rfl rfl rfl fzero_Sbool rfl rfl rfl rfl (by decide) rfl rfl fone_Sbool (by first | rfl | (simp [V.size]; done)) rfl (by simp only [List.length_cons]; omega) (by dsimp only [List.set]) ?_
    refine at_end rfl ?_
    refine at_seq [1, 1, 1, 0] [1, 1, 1, 1] rfl ?_
    refine at_region rfl ?_
    first | (refine at_op (some 14) rfl rfl rfl rfl (op_loadR1 rfl fone_Sbool rfl) (by dsimp only [putD, List.set]) ?_) | (refine at_op (some 14) rfl rfl rfl rfl (op_loadP1 rfl fone_Sbool rfl rfl) (by dsimp only [putD, List.set]) ?_)
    first | (refine at_op (some 15) rfl rfl rfl rfl (op_lenL rfl fu_Sbool) (by dsimp only [putD, List.set]) ?_) | (refine at_op (some 15) rfl rfl rfl rfl (opOK_un (op_lenL rfl fu_Sbool)) (by dsimp only [putD, List.set]) ?_) | (refine at_op (some 15) rfl rfl rfl rfl (op_lenA rfl fu_Sbool) (by dsimp only [putD, List.set]) ?_)
    simp only [List.length_map, hrl]
    refine at_op (some 16) rfl rfl rfl rfl (op_makeFunc0 rfl rfl rfl) (by dsimp only [putD, List.set]) ?_
    refine at_op (some 17) rfl rfl rfl rfl (op_call0 rfl rfl rfl rfl (numbers_spec 40 [] [.ref (vbs (reachM G n x))] n (by omega) (gb (reachM G n x)) (fun i hi => reachC_spec _ i (by omega)))) (by dsimp only [putD, List.set]) ?_
    refine at_mv 17 4 rfl rfl rfl (.inr rfl) rfl (by dsimp only [List.set]) ?_
    refine at_end rfl ?_
    refine at_ret rfl (ret_one (t := 4) rfl rfl ?_ rfl)
    rfl

noncomputable def cAll : Code := Tryz.f43.body.getD .skip
set_option maxRecDepth 20000 in
theorem all_loop (n : Nat) (G : List (List Arc)) (hG : GOK n G) (h6 : n ≤ 6) (m : Nat) : ∀ (i : Nat), n - i = m → i ≤ n → Run PP (fun env σ1 => ResOK PP Tryz.f43 env σ1 (.v (vbb (allM G n))) σ0) [.lp (sub cAll [1, 1, 0, 1, 0, 0]), .blk 0, .code (sub cAll [1, 1, 1])] (.undef :: (.v (.ref (vG n G))) :: .undef :: (.acc 1 (List.map vbs ((allM G n).take i))) :: .undef :: .undef :: .undef :: (di ↑n) :: (di ↑i) :: .undef :: .undef :: .undef :: .undef :: .undef :: .undef :: .undef :: .undef :: .undef :: .undef :: []) ⟨[], [(1, 1, List.map vbs ((allM G n).take i))]⟩ := by
  induction m using Nat.strongRecOn with
  | _ m ih =>
    intro i hm hi
    have hal := allM_length G n
    refine run_lp ?_
    refine at_seq [1, 1, 0, 1, 0, 0, 0] [1, 1, 0, 1, 0, 0, 1] rfl ?_
    refine at_region rfl ?_
    refine at_op (some 9) rfl rfl rfl rfl (op_binI rfl rfl) (by dsimp only [putD, List.set]) ?_
    refine at_end rfl ?_
    refine at_seq [1, 1, 0, 1, 0, 0, 1, 0] [1, 1, 0, 1, 0, 0, 1, 1] rfl ?_
    refine at_cond [1, 1, 0, 1, 0, 0, 1, 0, 0] [1, 1, 0, 1, 0, 0, 1, 0, 1] rfl rfl (fun hc1 => ?_) (fun hc1 => ?_)
    · skip
      have hlt : i < n := by simp at hc1; omega
      refine at_skip rfl ?_
      refine at_seq [1, 1, 0, 1, 0, 0, 1, 1, 0] [1, 1, 0, 1, 0, 0, 1, 1, 1] rfl ?_
      refine at_block [1, 1, 0, 1, 0, 0, 1, 1, 0, 0] 1 rfl ?_
      refine at_seq [1, 1, 0, 1, 0, 0, 1, 1, 0, 0, 0] [1, 1, 0, 1, 0, 0, 1, 1, 0, 0, 1] rfl ?_
      refine at_region rfl ?_
      refine at_mv 8 10 rfl rfl rfl (.inl rfl) rfl (by dsimp only [List.set]) ?_
      refine at_mv 10 4 rfl rfl rfl (.inr rfl) rfl (by dsimp only [List.set]) ?_
      refine at_end rfl ?_
      refine at_region rfl ?_
      refine at_mv 3 11 rfl rfl rfl (.inl rfl) rfl (by dsimp only [List.set]) ?_
      first | (refine at_op (some 12) rfl rfl rfl rfl (op_loadRA rfl fagg_api_Graph) (by dsimp only [putD, List.set]) ?_) | (refine at_op (some 12) rfl rfl rfl rfl (op_loadPA rfl fagg_api_Graph rfl (by first | decide | simp) rfl) (by dsimp only [putD, List.set]) ?_)
      refine at_mv 4 13 rfl rfl rfl (.inl rfl) rfl (by dsimp only [List.set]) ?_
      refine at_op (some 14) rfl rfl rfl rfl (op_call0 rfl rfl rfl rfl (reach_spec n G hG i hlt)) (by dsimp only [putD, List.set]) ?_
      refine at_op (some 15) rfl rfl rfl rfl (op_buildSlice rfl (by rfl) (by rfl) fsl__5b5d5b5d_bool rfl rfl (by simp [V.size]) (by decide) (by decide) (by decide)) (by dsimp only [putD, List.set]) ?_
      refine at_opS (some 16) rfl rfl rfl rfl (op_append rfl fsl__5b5d5b5d_bool rfl (by simp) (by simp [V.size]) (by simp; omega) (by simp; omega)) (by dsimp only [putD, List.set]) (by dsimp only [List.set, List.append, List.cons_append, List.nil_append, cellsD, List.map, repl, List.length, Nat.reduceAdd, if_true, ↓reduceIte]; first | done | rfl) ?_
      refine at_mv 16 3 rfl rfl rfl (.inr rfl) rfl (by dsimp only [List.set]) ?_
      refine at_end rfl ?_
      rw [show (List.map vbs ((allM G n).take i) ++ [vbs (reachM G n i)]) = List.map vbs ((allM G n).take (i + 1)) by rw [List.take_succ_eq_append_getElem (by omega), List.map_append]; simp [allM]]
      refine run_blk ?_
      refine at_region rfl ?_
      refine at_op (some 17) rfl rfl rfl rfl (op_binI rfl rfl) (by dsimp only [putD, List.set]) ?_
      rw [wrap_succ (by omega)]
      refine at_mv 17 8 rfl rfl rfl (.inl rfl) rfl (by dsimp only [List.set]) ?_
      refine at_end rfl ?_
      exact run_wk (.drop (.keep (.drop (.keep (.drop (.drop (.drop (.keep (.keep (.drop (.drop (.drop (.drop (.drop (.drop (.drop (.drop (.drop (.drop .nil))))))))))))))))))) (ih _ (by omega) (i + 1) rfl (by omega))
    · skip
      have hge : n ≤ i := by simp at hc1; omega
      refine at_exit rfl rfl ?_
      refine at_seq [1, 1, 1, 0] [1, 1, 1, 1] rfl ?_
      refine at_region rfl ?_
      refine at_mv 3 18 rfl rfl rfl (.inl rfl) rfl (by dsimp only [List.set]) ?_
      refine at_mv 18 2 rfl rfl rfl (.inr rfl) rfl (by dsimp only [List.set]) ?_
      refine at_end rfl ?_
      exact at_ret rfl (ret_un rfl rfl (by rw [List.take_of_length_le (by rw [allM_length]; omega)]))

set_option maxRecDepth 20000 in
theorem all_spec (n : Nat) (G : List (List Arc)) (hG : GOK n G) (h6 : n ≤ 6) : FSpec PP 43 [.v (vG n G)] σ0 (.v (vbb (allM G n))) σ0 := by
  refine spec_at cAll Tryz.func43 rfl (by kernel_rfl) (by first | decide | simp) _ (by dsimp only [Tryz.f43, List.length, Nat.reduceAdd, Nat.reduceSub, List.replicate, List.cons_append, List.nil_append]) ?_
  refine at_seq [0] [1] rfl ?_
  refine at_region rfl ?_
  refine at_op (some 1) rfl rfl rfl rfl (op_boxI rfl rfl) (by dsimp only [putD, List.set]) ?_
  refine at_mc 2 rfl rfl rfl (.inr rfl) (by dsimp only [constD]) (by dsimp only [List.set]) ?_
  refine at_end rfl ?_
  refine at_seq [1, 0] [1, 1] rfl ?_
  refine at_region rfl ?_
  refine at_opS (some 3) rfl rfl rfl rfl (op_nilOwn (.inl rfl) 1 1 (by simp) (by decide)) (by dsimp only [putD, List.set]) (by dsimp only [List.set, List.append, List.cons_append, List.nil_append, cellsD, List.map, repl, List.length, Nat.reduceAdd, if_true, ↓reduceIte]; first | done | rfl) ?_
  refine at_end rfl ?_
  refine at_seq [1, 1, 0] [1, 1, 1] rfl ?_
  refine at_seq [1, 1, 0, 0] [1, 1, 0, 1] rfl ?_
  refine at_region rfl ?_
  first | (refine at_op (some 5) rfl rfl rfl rfl (op_fieldP rfl ffld0_api_Graph (by decide)) (by dsimp only [putD, List.set]) ?_) | (refine at_op (some 5) rfl rfl rfl rfl (op_fieldR rfl ffld0_api_Graph (by decide) (by decide) rfl) (by dsimp only [putD, List.set]) ?_)
  first | (refine at_op (some 6) rfl rfl rfl rfl (op_loadR1 rfl fone_Sapi_Value rfl) (by dsimp only [putD, List.set]) ?_) | (refine at_op (some 6) rfl rfl rfl rfl (op_loadP1 rfl fone_Sapi_Value rfl rfl) (by dsimp only [putD, List.set]) ?_)
  first | (refine at_op (some 7) rfl rfl rfl rfl (op_lenL rfl fu_Sapi_Value) (by dsimp only [putD, List.set]) ?_) | (refine at_op (some 7) rfl rfl rfl rfl (opOK_un (op_lenL rfl fu_Sapi_Value)) (by dsimp only [putD, List.set]) ?_) | (refine at_op (some 7) rfl rfl rfl rfl (op_lenA rfl fu_Sapi_Value) (by dsimp only [putD, List.set]) ?_)
  simp only [List.length_map, List.length_range]
  refine at_mc 8 rfl rfl rfl (.inl rfl) (by dsimp only [constD]) (by dsimp only [List.set]) ?_
  refine at_end rfl ?_
  refine at_block [1, 1, 0, 1, 0] 0 rfl ?_
  refine at_loop [1, 1, 0, 1, 0, 0] rfl ?_
  try simp only [List.length_map, List.length_nil, Int.toNat_natCast]
  have := all_loop n G hG h6 _ 0 rfl (by omega)
  exact run_wk (.drop (.keep (.drop (.keep (.drop (.drop (.drop (.keep (.keep (.drop (.drop (.drop (.drop (.drop (.drop (.drop (.drop (.drop (.drop .nil))))))))))))))))))) this

noncomputable def cHomes2 : Code := Tryz.f46.body.getD .skip
set_option maxRecDepth 20000 in
theorem homes2_spec (r : List Bool) (i : Nat) (hi : i < r.length) : FSpec PP 46 [.v (vbs r), .v (.ref (vi ↑i))] σ0 (db (!gb r i)) σ0 := by
  obtain ⟨b, hb⟩ := get_ex hi
  have hb2 := idx_some (f := vb) hb
  rw [gb_some hb]
  refine spec_at cHomes2 Tryz.func46 rfl (by kernel_rfl) (by first | decide | simp) _ (by dsimp only [Tryz.f46, List.length, Nat.reduceAdd, Nat.reduceSub, List.replicate, List.cons_append, List.nil_append]) ?_
  refine at_seq [0] [1] rfl ?_
  refine at_region rfl ?_
  refine at_mc 3 rfl rfl rfl (.inr rfl) (by dsimp only [constD]) (by dsimp only [List.set]) ?_
  refine at_end rfl ?_
  refine at_seq [1, 0] [1, 1] rfl ?_
  refine at_region rfl ?_
  refine at_mv 0 4 rfl rfl rfl (.inl rfl) rfl (by dsimp only [List.set]) ?_
  first | (refine at_op (some 5) rfl rfl rfl rfl (op_loadR1 rfl fone_int rfl) (by dsimp only [putD, List.set]) ?_) | (refine at_op (some 5) rfl rfl rfl rfl (op_loadP1 rfl fone_int rfl rfl) (by dsimp only [putD, List.set]) ?_)
  first | (refine at_op (some 6) rfl rfl rfl rfl (op_idxL rfl fsl_Sbool (by first | decide | omega) (by first | assumption | exact idx_some (by assumption) | rfl) (by first | rfl | (simp [V.size]; done))) (by dsimp only [putD, List.set]) ?_) | (refine at_op (some 6) rfl rfl rfl rfl (opOK_un (op_idxL rfl fsl_Sbool (by first | decide | omega) (by first | assumption | exact idx_some (by assumption) | rfl) (by first | rfl | (simp [V.size]; done)))) (by dsimp only [putD, List.set]) ?_) | (refine at_op (some 6) rfl rfl rfl rfl (op_idxA rfl fsl_Sbool (by first | decide | omega) (by first | decide | omega)) (by dsimp only [putD, List.set]) ?_)
  first | (refine at_op (some 7) rfl rfl rfl rfl (op_loadR1 rfl fone_bool rfl) (by dsimp only [putD, List.set]) ?_) | (refine at_op (some 7) rfl rfl rfl rfl (op_loadP1 rfl fone_bool rfl rfl) (by dsimp only [putD, List.set]) ?_)
  refine at_op (some 8) rfl rfl rfl rfl (op_un rfl rfl) (by dsimp only [putD, List.set]) ?_
  refine at_mv 8 3 rfl rfl rfl (.inr rfl) rfl (by dsimp only [List.set]) ?_
  refine at_end rfl ?_
  refine at_ret rfl (ret_one (t := 3) rfl rfl ?_ rfl)
  rfl

noncomputable def cHomes1 : Code := Tryz.f44.body.getD .skip
set_option maxRecDepth 20000 in
theorem homes1_spec (R : List (List Bool)) (i : Nat) (hl : R.length ≤ 100) (hi : ∀ r ∈ R, i < r.length) : FSpec PP 44 [di ↑i, .v (.ref (vbb R))] σ0 (db (homeQ R i)) σ0 := by
  refine spec_at cHomes1 Tryz.func44 rfl (by kernel_rfl) (by first | decide | simp) _ (by dsimp only [Tryz.f44, List.length, Nat.reduceAdd, Nat.reduceSub, List.replicate, List.cons_append, List.nil_append]) ?_
  refine at_seq [0] [1] rfl ?_
  refine at_region rfl ?_
  refine at_op (some 2) rfl rfl rfl rfl (op_boxI rfl rfl) (by dsimp only [putD, List.set]) ?_
  refine at_mc 3 rfl rfl rfl (.inr rfl) (by dsimp only [constD]) (by dsimp only [List.set]) ?_
  refine at_end rfl ?_
  refine at_seq [1, 0] [1, 1] rfl ?_
  refine at_region rfl ?_
  first | (refine at_op (some 4) rfl rfl rfl rfl (op_loadR1 rfl fone__5b5d5b5d_bool rfl) (by dsimp only [putD, List.set]) ?_) | (refine at_op (some 4) rfl rfl rfl rfl (op_loadP1 rfl fone__5b5d5b5d_bool rfl rfl) (by dsimp only [putD, List.set]) ?_)
  refine at_op (some 5) rfl rfl rfl rfl (op_makeFunc0 rfl rfl rfl) (by dsimp only [putD, List.set]) ?_
  refine at_op (some 6) rfl rfl rfl rfl (op_call0 rfl rfl rfl rfl (containsFB_spec 46 [] [.ref (vi ↑i)] R (fun f => !gb f i) (fun r hr => homes2_spec r i (hi r hr)) (by omega))) (by dsimp only [putD, List.set]) ?_
  refine at_op (some 7) rfl rfl rfl rfl (op_un rfl rfl) (by dsimp only [putD, List.set]) ?_
  refine at_mv 7 3 rfl rfl rfl (.inr rfl) rfl (by dsimp only [List.set]) ?_
  refine at_end rfl ?_
  refine at_ret rfl (ret_one (t := 3) rfl rfl ?_ rfl)
  rfl

noncomputable def cHomes : Code := Tryz.f20.body.getD .skip
set_option maxRecDepth 20000 in
theorem homes_spec (n : Nat) (G : List (List Arc)) (hG : GOK n G) (h6 : n ≤ 6) : FSpec PP 20 [.v (vG n G)] σ0 (.v (.list (vns (homesM G n)))) σ0 := by
  have hal := allM_length G n
  refine spec_at cHomes Tryz.func20 rfl (by kernel_rfl) (by first | decide | simp) _ (by dsimp only [Tryz.f20, List.length, Nat.reduceAdd, Nat.reduceSub, List.replicate, List.cons_append, List.nil_append]) ?_
  refine at_seq [0] [1] rfl ?_
  refine at_region rfl ?_
  refine at_op (some 1) rfl rfl rfl rfl (op_boxI rfl rfl) (by dsimp only [putD, List.set]) ?_
  refine at_mc 2 rfl rfl rfl (.inr rfl) (by dsimp only [constD]) (by dsimp only [List.set]) ?_
  refine at_end rfl ?_
  refine at_seq [1, 0] [1, 1] rfl ?_
  refine at_seq [1, 0, 0] [1, 0, 1] rfl ?_
  refine at_region rfl ?_
  first | (refine at_op (some 4) rfl rfl rfl rfl (op_loadRA rfl fagg_api_Graph) (by dsimp only [putD, List.set]) ?_) | (refine at_op (some 4) rfl rfl rfl rfl (op_loadPA rfl fagg_api_Graph rfl (by first | decide | simp) rfl) (by dsimp only [putD, List.set]) ?_)
  refine at_op (some 5) rfl rfl rfl rfl (op_call0 rfl rfl rfl rfl (validH_spec n G hG h6 [] (by simp) (by simp))) (by dsimp only [putD, List.set]) ?_
  refine at_op (some 6) rfl rfl rfl rfl (op_un rfl rfl) (by dsimp only [putD, List.set]) ?_
  refine at_end rfl ?_
  refine at_cond [1, 0, 1, 0] [1, 0, 1, 1] rfl rfl (fun hc1 => ?_) (fun hc1 => ?_)
  · skip
    exact absurd hc1 (by simp)
  · skip
    refine at_skip rfl ?_
    refine at_seq [1, 1, 0] [1, 1, 1] rfl ?_
    refine at_region rfl ?_
    first | (refine at_op (some 7) rfl rfl rfl rfl (op_loadRA rfl fagg_api_Graph) (by dsimp only [putD, List.set]) ?_) | (refine at_op (some 7) rfl rfl rfl rfl (op_loadPA rfl fagg_api_Graph rfl (by first | decide | simp) rfl) (by dsimp only [putD, List.set]) ?_)
    refine at_op (some 8) rfl rfl rfl rfl (op_call0 rfl rfl rfl rfl (all_spec n G hG h6)) (by dsimp only [putD, List.set]) ?_
    refine at_new 8 3 rfl rfl rfl rfl fzero__5b5d5b5d_bool rfl rfl rfl rfl (by decide) rfl rfl fone__5b5d5b5d_bool (by first | rfl | (simp [V.size]; done)) rfl (by simp only [List.length_cons]; omega) (by dsimp only [List.set]) ?_
    refine at_end rfl ?_
    refine at_seq [1, 1, 1, 0] [1, 1, 1, 1] rfl ?_
    refine at_region rfl ?_
    first | (refine at_op (some 9) rfl rfl rfl rfl (op_loadR1 rfl fone__5b5d5b5d_bool rfl) (by dsimp only [putD, List.set]) ?_) | (refine at_op (some 9) rfl rfl rfl rfl (op_loadP1 rfl fone__5b5d5b5d_bool rfl rfl) (by dsimp only [putD, List.set]) ?_)
    first | (refine at_op (some 10) rfl rfl rfl rfl (op_lenL rfl fu__5b5d5b5d_bool) (by dsimp only [putD, List.set]) ?_) | (refine at_op (some 10) rfl rfl rfl rfl (opOK_un (op_lenL rfl fu__5b5d5b5d_bool)) (by dsimp only [putD, List.set]) ?_) | (refine at_op (some 10) rfl rfl rfl rfl (op_lenA rfl fu__5b5d5b5d_bool) (by dsimp only [putD, List.set]) ?_)
    simp only [List.length_map, hal]
    refine at_op (some 11) rfl rfl rfl rfl (op_makeFunc0 rfl rfl rfl) (by dsimp only [putD, List.set]) ?_
    refine at_op (some 12) rfl rfl rfl rfl (op_call0 rfl rfl rfl rfl (numbers_spec 44 [] [.ref (vbb (allM G n))] n (by omega) (homeQ (allM G n)) (fun i hi => homes1_spec _ i (by omega) (fun r hr => by rw [allM_row hr]; exact hi)))) (by dsimp only [putD, List.set]) ?_
    refine at_mv 12 2 rfl rfl rfl (.inr rfl) rfl (by dsimp only [List.set]) ?_
    refine at_end rfl ?_
    refine at_ret rfl (ret_one (t := 2) rfl rfl ?_ rfl)
    rfl

noncomputable def cDead1 : Code := Tryz.f47.body.getD .skip
set_option maxRecDepth 20000 in
theorem dead1_spec (n : Nat) (G : List (List Arc)) (i : Nat) (hi : i < G.length) : FSpec PP 47 [di ↑i, .v (.ref (vG n G))] σ0 (db (deadQ G i)) σ0 := by
  obtain ⟨row, hr⟩ := get_ex hi
  have hr2 := idx_some (f := vArcs) hr
  have e : deadQ G i = (row.length == 0) := by simp [deadQ, hr]
  rw [e]
  refine spec_at cDead1 Tryz.func47 rfl (by kernel_rfl) (by first | decide | simp) _ (by dsimp only [Tryz.f47, List.length, Nat.reduceAdd, Nat.reduceSub, List.replicate, List.cons_append, List.nil_append]) ?_
  refine at_seq [0] [1] rfl ?_
  refine at_region rfl ?_
  refine at_mc 3 rfl rfl rfl (.inr rfl) (by dsimp only [constD]) (by dsimp only [List.set]) ?_
  refine at_end rfl ?_
  refine at_seq [1, 0] [1, 1] rfl ?_
  refine at_region rfl ?_
  first | (refine at_op (some 4) rfl rfl rfl rfl (op_fieldP rfl ffld1_api_Graph (by decide)) (by dsimp only [putD, List.set]) ?_) | (refine at_op (some 4) rfl rfl rfl rfl (op_fieldR rfl ffld1_api_Graph (by decide) (by decide) rfl) (by dsimp only [putD, List.set]) ?_)
  first | (refine at_op (some 5) rfl rfl rfl rfl (op_loadR1 rfl fone__5b5d5b5d_api_Arc rfl) (by dsimp only [putD, List.set]) ?_) | (refine at_op (some 5) rfl rfl rfl rfl (op_loadP1 rfl fone__5b5d5b5d_api_Arc rfl rfl) (by dsimp only [putD, List.set]) ?_)
  refine at_mv 0 6 rfl rfl rfl (.inl rfl) rfl (by dsimp only [List.set]) ?_
  first | (refine at_op (some 7) rfl rfl rfl rfl (op_idxL rfl fsl__5b5d5b5d_api_Arc (by first | decide | omega) (by first | assumption | exact idx_some (by assumption) | rfl) (by first | rfl | (simp [V.size]; done))) (by dsimp only [putD, List.set]) ?_) | (refine at_op (some 7) rfl rfl rfl rfl (opOK_un (op_idxL rfl fsl__5b5d5b5d_api_Arc (by first | decide | omega) (by first | assumption | exact idx_some (by assumption) | rfl) (by first | rfl | (simp [V.size]; done)))) (by dsimp only [putD, List.set]) ?_) | (refine at_op (some 7) rfl rfl rfl rfl (op_idxA rfl fsl__5b5d5b5d_api_Arc (by first | decide | omega) (by first | decide | omega)) (by dsimp only [putD, List.set]) ?_)
  first | (refine at_op (some 8) rfl rfl rfl rfl (op_loadR1 rfl fone_Sapi_Arc rfl) (by dsimp only [putD, List.set]) ?_) | (refine at_op (some 8) rfl rfl rfl rfl (op_loadP1 rfl fone_Sapi_Arc rfl rfl) (by dsimp only [putD, List.set]) ?_)
  first | (refine at_op (some 9) rfl rfl rfl rfl (op_lenL rfl fu_Sapi_Arc) (by dsimp only [putD, List.set]) ?_) | (refine at_op (some 9) rfl rfl rfl rfl (opOK_un (op_lenL rfl fu_Sapi_Arc)) (by dsimp only [putD, List.set]) ?_) | (refine at_op (some 9) rfl rfl rfl rfl (op_lenA rfl fu_Sapi_Arc) (by dsimp only [putD, List.set]) ?_)
  refine at_op (some 10) rfl rfl rfl rfl (op_binI rfl rfl) (by dsimp only [putD, List.set]) ?_
  refine at_mv 10 3 rfl rfl rfl (.inr rfl) rfl (by dsimp only [List.set]) ?_
  refine at_end rfl ?_
  refine at_ret rfl (ret_one (t := 3) rfl rfl ?_ rfl)
  cases row with | nil => rfl | cons a l => first | (simp; done) | (simp; omega)

noncomputable def cDead : Code := Tryz.f21.body.getD .skip
set_option maxRecDepth 20000 in
theorem dead_spec (n : Nat) (G : List (List Arc)) (hG : GOK n G) (h6 : n ≤ 6) : FSpec PP 21 [.v (vG n G)] σ0 (.v (.list (vns (deadM G n)))) σ0 := by
  have hl := hG.len
  refine spec_at cDead Tryz.func21 rfl (by kernel_rfl) (by first | decide | simp) _ (by dsimp only [Tryz.f21, List.length, Nat.reduceAdd, Nat.reduceSub, List.replicate, List.cons_append, List.nil_append]) ?_
  refine at_seq [0] [1] rfl ?_
  refine at_region rfl ?_
  refine at_op (some 1) rfl rfl rfl rfl (op_boxI rfl rfl) (by dsimp only [putD, List.set]) ?_
  refine at_mc 2 rfl rfl rfl (.inr rfl) (by dsimp only [constD]) (by dsimp only [List.set]) ?_
  refine at_end rfl ?_
  refine at_seq [1, 0] [1, 1] rfl ?_
  refine at_seq [1, 0, 0] [1, 0, 1] rfl ?_
  refine at_region rfl ?_
  first | (refine at_op (some 3) rfl rfl rfl rfl (op_loadRA rfl fagg_api_Graph) (by dsimp only [putD, List.set]) ?_) | (refine at_op (some 3) rfl rfl rfl rfl (op_loadPA rfl fagg_api_Graph rfl (by first | decide | simp) rfl) (by dsimp only [putD, List.set]) ?_)
  refine at_op (some 4) rfl rfl rfl rfl (op_call0 rfl rfl rfl rfl (validH_spec n G hG h6 [] (by simp) (by simp))) (by dsimp only [putD, List.set]) ?_
  refine at_op (some 5) rfl rfl rfl rfl (op_un rfl rfl) (by dsimp only [putD, List.set]) ?_
  refine at_end rfl ?_
  refine at_cond [1, 0, 1, 0] [1, 0, 1, 1] rfl rfl (fun hc1 => ?_) (fun hc1 => ?_)
  · skip
    exact absurd hc1 (by simp)
  · skip
    refine at_skip rfl ?_
    refine at_seq [1, 1, 0] [1, 1, 1] rfl ?_
    refine at_region rfl ?_
    first | (refine at_op (some 6) rfl rfl rfl rfl (op_fieldP rfl ffld1_api_Graph (by decide)) (by dsimp only [putD, List.set]) ?_) | (refine at_op (some 6) rfl rfl rfl rfl (op_fieldR rfl ffld1_api_Graph (by decide) (by decide) rfl) (by dsimp only [putD, List.set]) ?_)
    first | (refine at_op (some 7) rfl rfl rfl rfl (op_loadR1 rfl fone__5b5d5b5d_api_Arc rfl) (by dsimp only [putD, List.set]) ?_) | (refine at_op (some 7) rfl rfl rfl rfl (op_loadP1 rfl fone__5b5d5b5d_api_Arc rfl rfl) (by dsimp only [putD, List.set]) ?_)
    first | (refine at_op (some 8) rfl rfl rfl rfl (op_lenL rfl fu__5b5d5b5d_api_Arc) (by dsimp only [putD, List.set]) ?_) | (refine at_op (some 8) rfl rfl rfl rfl (opOK_un (op_lenL rfl fu__5b5d5b5d_api_Arc)) (by dsimp only [putD, List.set]) ?_) | (refine at_op (some 8) rfl rfl rfl rfl (op_lenA rfl fu__5b5d5b5d_api_Arc) (by dsimp only [putD, List.set]) ?_)
    simp only [List.length_map, hl]
    refine at_op (some 9) rfl rfl rfl rfl (op_makeFunc0 rfl rfl rfl) (by dsimp only [putD, List.set]) ?_
    refine at_op (some 10) rfl rfl rfl rfl (op_call0 rfl rfl rfl rfl (numbers_spec 47 [] [.ref (vG n G)] n (by omega) (deadQ G) (fun i hi => dead1_spec n G i (by omega)))) (by dsimp only [putD, List.set]) ?_
    refine at_mv 10 2 rfl rfl rfl (.inr rfl) rfl (by dsimp only [List.set]) ?_
    refine at_end rfl ?_
    refine at_ret rfl (ret_one (t := 2) rfl rfl ?_ rfl)
    rfl

end Go.Proofs.YtmdipbhjhkckjaaGreat

namespace Go.Proofs.YtmdipbhjhkckjaaGreat
open Go.Dv

def rr (R : List (List Bool)) (i k : Nat) : Bool := gb (R.getD i []) k
def compM (R : List (List Bool)) (n i : Nat) : List Nat := (List.range n).filter fun k => rr R i k && rr R k i
def compQ (R : List (List Bool)) (n i : Nat) : Bool := (compM R n i).head? == some i
def compsM (R : List (List Bool)) (n : Nat) : List (List Nat) := ((List.range n).filter (compQ R n)).map (compM R n)
def hasM (G : List (List Arc)) (label : Int) (i : Nat) : Bool := (G.getD i []).any fun a => a.1 == label
def liveF (G : List (List Arc)) (n : Nat) (label : Int) (f : List Bool) : List Nat := (List.range n).filter fun i => gb f i && hasM G label i
def liveM (G : List (List Arc)) (n : Nat) (label : Int) : Bool := (allM G n).all fun f => !(liveF G n label f).isEmpty
abbrev vnn (C : List (List Nat)) : List V := C.map fun c => .list (vns c)
theorem rr_some {R : List (List Bool)} {i k : Nat} {r : List Bool} {b : Bool} (h : R[i]? = some r) (h2 : r[k]? = some b) : rr R i k = b := by simp [rr, List.getD_eq_getElem?_getD, h, gb_some h2]
theorem stepM_keep {x : Nat} : ∀ (r : List Arc) (out : List Bool) (todo : List Nat), out[x]? = some true → (stepM r out todo).1[x]? = some true
  | [], _, _, h => h
  | a :: r, out, todo, h => by
    unfold stepM
    split
    · refine stepM_keep r _ _ ?_
      rw [List.getElem?_set]
      split
      · rename_i e; subst e; simp [(List.getElem?_eq_some_iff.1 h).1]
      · exact h
    · exact stepM_keep r out todo h
theorem bfsM_keep {G : List (List Arc)} {x : Nat} : ∀ (f : Nat) (out : List Bool) (todo : List Nat), out[x]? = some true → (bfsM G f out todo)[x]? = some true
  | 0, _, _, h => h
  | f + 1, out, [], h => h
  | f + 1, out, y :: todo, h => by simp only [bfsM]; exact bfsM_keep f _ _ (stepM_keep _ _ _ h)
theorem reachM_self {G : List (List Arc)} {n x : Nat} (h : x < n) : gb (reachM G n x) x = true := gb_some (bfsM_keep _ _ _ (by simp [h]))
theorem rr_self {G : List (List Arc)} {n x : Nat} (h : x < n) : rr (allM G n) x x = true := by
  simp only [rr, allM, List.getD_eq_getElem?_getD, List.getElem?_map, List.getElem?_range h, Option.map_some, Option.getD_some]; exact reachM_self h
theorem compM_self {G : List (List Arc)} {n x : Nat} (h : x < n) : x ∈ compM (allM G n) n x := by
  simp [compM, h, rr_self h]
theorem vnn_snoc (l : List (List Nat)) (c : List Nat) : vnn l ++ [.list (vns c)] = vnn (l ++ [c]) := by simp

noncomputable def cComp1 : Code := Tryz.f48.body.getD .skip
set_option maxRecDepth 20000 in
theorem comp1_spec (R : List (List Bool)) (i k : Nat) (hi : i < R.length) (hk : k < R.length) (hR : ∀ r ∈ R, r.length = R.length) : FSpec PP 48 [di ↑k, .v (.ref (vbb R)), .v (.ref (vi ↑i))] σ0 (db (rr R i k && rr R k i)) σ0 := by
  obtain ⟨ri, hri⟩ := get_ex hi
  obtain ⟨rk, hrk⟩ := get_ex hk
  have hri2 := idx_some (f := vbs) hri
  have hrk2 := idx_some (f := vbs) hrk
  obtain ⟨b1, hb1⟩ := get_ex (a := ri) (i := k) (by rw [hR ri (List.mem_of_getElem? hri)]; exact hk)
  obtain ⟨b2, hb2⟩ := get_ex (a := rk) (i := i) (by rw [hR rk (List.mem_of_getElem? hrk)]; exact hi)
  have hb3 := idx_some (f := vb) hb1
  have hb4 := idx_some (f := vb) hb2
  rw [rr_some hri hb1, rr_some hrk hb2]
  refine spec_at cComp1 Tryz.func48 rfl (by kernel_rfl) (by first | decide | simp) _ (by dsimp only [Tryz.f48, List.length, Nat.reduceAdd, Nat.reduceSub, List.replicate, List.cons_append, List.nil_append]) ?_
  refine at_seq [0] [1] rfl ?_
  refine at_region rfl ?_
  refine at_mc 4 rfl rfl rfl (.inr rfl) (by dsimp only [constD]) (by dsimp only [List.set]) ?_
  refine at_end rfl ?_
  refine at_seq [1, 0] [1, 1] rfl ?_
  refine at_draw mixed rfl [σ0] rfl ?_
  first | (refine da_quiet (some 5) rfl rfl rfl rfl (fun s hs => op_loadR1 rfl fone__5b5d5b5d_bool rfl) (by dsimp only [putD, List.set]) ?_) | (refine da_quiet (some 5) rfl rfl rfl rfl (by intro s hs; simp only [List.mem_cons, List.not_mem_nil, or_false] at hs; rcases hs with rfl <;> exact op_loadP1 rfl fone__5b5d5b5d_bool rfl rfl) (by dsimp only [putD, List.set]) ?_)
  first | (refine da_quiet (some 6) rfl rfl rfl rfl (fun s hs => op_loadR1 rfl fone_int rfl) (by dsimp only [putD, List.set]) ?_) | (refine da_quiet (some 6) rfl rfl rfl rfl (by intro s hs; simp only [List.mem_cons, List.not_mem_nil, or_false] at hs; rcases hs with rfl <;> exact op_loadP1 rfl fone_int rfl rfl) (by dsimp only [putD, List.set]) ?_)
  first | (refine da_quiet (some 7) rfl rfl rfl rfl (fun s hs => op_idxL rfl fsl__5b5d5b5d_bool (by first | decide | omega) (by first | assumption | exact idx_some (by assumption) | rfl) (by first | rfl | (simp [V.size]; done))) (by dsimp only [putD, List.set]) ?_) | (refine da_quiet (some 7) rfl rfl rfl rfl (fun s hs => opOK_un (op_idxL rfl fsl__5b5d5b5d_bool (by first | decide | omega) (by first | assumption | exact idx_some (by assumption) | rfl) (by first | rfl | (simp [V.size]; done)))) (by dsimp only [putD, List.set]) ?_) | (refine da_quiet (some 7) rfl rfl rfl rfl (fun s hs => op_idxA rfl fsl__5b5d5b5d_bool (by first | decide | omega) (by first | decide | omega)) (by dsimp only [putD, List.set]) ?_)
  first | (refine da_quiet (some 8) rfl rfl rfl rfl (fun s hs => op_loadR1 rfl fone_Sbool rfl) (by dsimp only [putD, List.set]) ?_) | (refine da_quiet (some 8) rfl rfl rfl rfl (by intro s hs; simp only [List.mem_cons, List.not_mem_nil, or_false] at hs; rcases hs with rfl <;> exact op_loadP1 rfl fone_Sbool rfl rfl) (by dsimp only [putD, List.set]) ?_)
  refine da_mv 0 9 rfl rfl rfl (.inl rfl) rfl (by dsimp only [List.set]) ?_
  first | (refine da_quiet (some 10) rfl rfl rfl rfl (fun s hs => op_idxL rfl fsl_Sbool (by first | decide | omega) (by first | assumption | exact idx_some (by assumption) | rfl) (by first | rfl | (simp [V.size]; done))) (by dsimp only [putD, List.set]) ?_) | (refine da_quiet (some 10) rfl rfl rfl rfl (fun s hs => opOK_un (op_idxL rfl fsl_Sbool (by first | decide | omega) (by first | assumption | exact idx_some (by assumption) | rfl) (by first | rfl | (simp [V.size]; done)))) (by dsimp only [putD, List.set]) ?_) | (refine da_quiet (some 10) rfl rfl rfl rfl (fun s hs => op_idxA rfl fsl_Sbool (by first | decide | omega) (by first | decide | omega)) (by dsimp only [putD, List.set]) ?_)
  first | (refine da_quiet (some 11) rfl rfl rfl rfl (fun s hs => op_loadR1 rfl fone_bool rfl) (by dsimp only [putD, List.set]) ?_) | (refine da_quiet (some 11) rfl rfl rfl rfl (by intro s hs; simp only [List.mem_cons, List.not_mem_nil, or_false] at hs; rcases hs with rfl <;> exact op_loadP1 rfl fone_bool rfl rfl) (by dsimp only [putD, List.set]) ?_)
  refine da_mv 11 12 rfl rfl rfl (.inl rfl) rfl (by dsimp only [List.set]) ?_
  refine da_split 12 rfl (fun hb1 env' he => ?_) (fun hb1 env' he => ?_)
  · dsimp only [List.set] at he; subst he
    first | (refine da_quiet (some 13) rfl rfl rfl rfl (fun s hs => op_loadR1 rfl fone__5b5d5b5d_bool rfl) (by dsimp only [putD, List.set]) ?_) | (refine da_quiet (some 13) rfl rfl rfl rfl (by intro s hs; simp only [List.mem_cons, List.not_mem_nil, or_false] at hs; rcases hs with rfl <;> exact op_loadP1 rfl fone__5b5d5b5d_bool rfl rfl) (by dsimp only [putD, List.set]) ?_)
    refine da_mv 0 14 rfl rfl rfl (.inl rfl) rfl (by dsimp only [List.set]) ?_
    first | (refine da_quiet (some 15) rfl rfl rfl rfl (fun s hs => op_idxL rfl fsl__5b5d5b5d_bool (by first | decide | omega) (by first | assumption | exact idx_some (by assumption) | rfl) (by first | rfl | (simp [V.size]; done))) (by dsimp only [putD, List.set]) ?_) | (refine da_quiet (some 15) rfl rfl rfl rfl (fun s hs => opOK_un (op_idxL rfl fsl__5b5d5b5d_bool (by first | decide | omega) (by first | assumption | exact idx_some (by assumption) | rfl) (by first | rfl | (simp [V.size]; done)))) (by dsimp only [putD, List.set]) ?_) | (refine da_quiet (some 15) rfl rfl rfl rfl (fun s hs => op_idxA rfl fsl__5b5d5b5d_bool (by first | decide | omega) (by first | decide | omega)) (by dsimp only [putD, List.set]) ?_)
    first | (refine da_quiet (some 16) rfl rfl rfl rfl (fun s hs => op_loadR1 rfl fone_Sbool rfl) (by dsimp only [putD, List.set]) ?_) | (refine da_quiet (some 16) rfl rfl rfl rfl (by intro s hs; simp only [List.mem_cons, List.not_mem_nil, or_false] at hs; rcases hs with rfl <;> exact op_loadP1 rfl fone_Sbool rfl rfl) (by dsimp only [putD, List.set]) ?_)
    first | (refine da_quiet (some 17) rfl rfl rfl rfl (fun s hs => op_loadR1 rfl fone_int rfl) (by dsimp only [putD, List.set]) ?_) | (refine da_quiet (some 17) rfl rfl rfl rfl (by intro s hs; simp only [List.mem_cons, List.not_mem_nil, or_false] at hs; rcases hs with rfl <;> exact op_loadP1 rfl fone_int rfl rfl) (by dsimp only [putD, List.set]) ?_)
    first | (refine da_quiet (some 18) rfl rfl rfl rfl (fun s hs => op_idxL rfl fsl_Sbool (by first | decide | omega) (by first | assumption | exact idx_some (by assumption) | rfl) (by first | rfl | (simp [V.size]; done))) (by dsimp only [putD, List.set]) ?_) | (refine da_quiet (some 18) rfl rfl rfl rfl (fun s hs => opOK_un (op_idxL rfl fsl_Sbool (by first | decide | omega) (by first | assumption | exact idx_some (by assumption) | rfl) (by first | rfl | (simp [V.size]; done)))) (by dsimp only [putD, List.set]) ?_) | (refine da_quiet (some 18) rfl rfl rfl rfl (fun s hs => op_idxA rfl fsl_Sbool (by first | decide | omega) (by first | decide | omega)) (by dsimp only [putD, List.set]) ?_)
    first | (refine da_quiet (some 19) rfl rfl rfl rfl (fun s hs => op_loadR1 rfl fone_bool rfl) (by dsimp only [putD, List.set]) ?_) | (refine da_quiet (some 19) rfl rfl rfl rfl (by intro s hs; simp only [List.mem_cons, List.not_mem_nil, or_false] at hs; rcases hs with rfl <;> exact op_loadP1 rfl fone_bool rfl rfl) (by dsimp only [putD, List.set]) ?_)
    refine da_pk true 12 19 20 rfl rfl rfl rfl rfl rfl rfl (by dsimp only [List.set]) ?_
    refine da_mv 20 4 rfl rfl rfl (.inr rfl) rfl (by dsimp only [List.set]) ?_
    refine da_end rfl ⟨by decide +kernel, _, rfl, ?_⟩
    refine at_ret rfl (ret_one (t := 4) rfl rfl ?_ rfl)
    first | rfl | (simp_all; done)
  · dsimp only [List.set] at he; subst he
    refine da_skip (some 13) rfl rfl rfl (by dsimp only [putD, List.set]) ?_
    refine da_skip (some 14) rfl rfl rfl (by dsimp only [putD, List.set]) ?_
    refine da_skip (some 15) rfl rfl rfl (by dsimp only [putD, List.set]) ?_
    refine da_skip (some 16) rfl rfl rfl (by dsimp only [putD, List.set]) ?_
    refine da_skip (some 17) rfl rfl rfl (by dsimp only [putD, List.set]) ?_
    refine da_skip (some 18) rfl rfl rfl (by dsimp only [putD, List.set]) ?_
    refine da_skip (some 19) rfl rfl rfl (by dsimp only [putD, List.set]) ?_
    refine da_pkc false 12 20 rfl rfl rfl rfl rfl rfl (by dsimp only [constD]) (by dsimp only [List.set]) ?_
    refine da_mv 20 4 rfl rfl rfl (.inr rfl) rfl (by dsimp only [List.set]) ?_
    refine da_end rfl ⟨by decide +kernel, _, rfl, ?_⟩
    refine at_ret rfl (ret_one (t := 4) rfl rfl ?_ rfl)
    first | rfl | (simp_all; done)

noncomputable def cComps : Code := Tryz.f22.body.getD .skip
set_option maxRecDepth 20000 in
theorem comps_loop (n : Nat) (G : List (List Arc)) (_ : GOK n G) (h6 : n ≤ 6) (T : List (List Nat)) (m : Nat) : ∀ (i : Nat) (acc : List (List Nat)), n - i = m → acc.length ≤ i → T = acc ++ (((List.range n).drop i).filter (compQ (allM G n) n)).map (compM (allM G n) n) → Run PP (fun env σ1 => ResOK PP Tryz.f22 env σ1 (.v (.list (vnn T))) σ0) [.lp (sub cComps [1, 1, 1, 1, 0, 1, 0, 0]), .blk 0, .code (sub cComps [1, 1, 1, 1, 1])] (.undef :: (.v (.ref (vG n G))) :: .undef :: (.v (.ref (vbb (allM G n)))) :: (.acc 1 (vnn acc)) :: .undef :: .undef :: .undef :: .undef :: .undef :: .undef :: .undef :: .undef :: (di ↑n) :: (di ↑i) :: .undef :: .undef :: .undef :: .undef :: .undef :: .undef :: .undef :: .undef :: .undef :: .undef :: .undef :: .undef :: .undef :: .undef :: .undef :: .undef :: .undef :: []) ⟨[], [(1, 1, vnn acc)]⟩ := by
  induction m using Nat.strongRecOn with
  | _ m ih =>
    intro i acc hm hac hT
    have hal := allM_length G n
    refine run_lp ?_
    refine at_seq [1, 1, 1, 1, 0, 1, 0, 0, 0] [1, 1, 1, 1, 0, 1, 0, 0, 1] rfl ?_
    refine at_region rfl ?_
    refine at_op (some 15) rfl rfl rfl rfl (op_binI rfl rfl) (by dsimp only [putD, List.set]) ?_
    refine at_end rfl ?_
    refine at_seq [1, 1, 1, 1, 0, 1, 0, 0, 1, 0] [1, 1, 1, 1, 0, 1, 0, 0, 1, 1] rfl ?_
    refine at_cond [1, 1, 1, 1, 0, 1, 0, 0, 1, 0, 0] [1, 1, 1, 1, 0, 1, 0, 0, 1, 0, 1] rfl rfl (fun hc1 => ?_) (fun hc1 => ?_)
    · skip
      have hlt : i < n := by simp at hc1; omega
      rw [range_at hlt, List.filter_cons] at hT
      obtain ⟨c0, cl, hc⟩ : ∃ c0 cl, (compM (allM G n) n i) = c0 :: cl := by cases e : (compM (allM G n) n i) with | nil => (have := compM_self (G := G) hlt; rw [e] at this; simp at this) | cons a l => exact ⟨a, l, rfl⟩
      refine at_skip rfl ?_
      refine at_seq [1, 1, 1, 1, 0, 1, 0, 0, 1, 1, 0] [1, 1, 1, 1, 0, 1, 0, 0, 1, 1, 1] rfl ?_
      refine at_block [1, 1, 1, 1, 0, 1, 0, 0, 1, 1, 0, 0] 1 rfl ?_
      refine at_seq [1, 1, 1, 1, 0, 1, 0, 0, 1, 1, 0, 0, 0] [1, 1, 1, 1, 0, 1, 0, 0, 1, 1, 0, 0, 1] rfl ?_
      refine at_region rfl ?_
      refine at_mv 14 16 rfl rfl rfl (.inl rfl) rfl (by dsimp only [List.set]) ?_
      refine at_new 16 5 rfl rfl rfl rfl fzero_int rfl rfl rfl rfl (by decide) rfl rfl fone_int (by first | rfl | (simp [V.size]; done)) rfl (by simp only [List.length_cons]; omega) (by dsimp only [List.set]) ?_
      refine at_end rfl ?_
      refine at_seq [1, 1, 1, 1, 0, 1, 0, 0, 1, 1, 0, 0, 1, 0] [1, 1, 1, 1, 0, 1, 0, 0, 1, 1, 0, 0, 1, 1] rfl ?_
      refine at_region rfl ?_
      first | (refine at_op (some 17) rfl rfl rfl rfl (op_loadR1 rfl fone__5b5d5b5d_bool rfl) (by dsimp only [putD, List.set]) ?_) | (refine at_op (some 17) rfl rfl rfl rfl (op_loadP1 rfl fone__5b5d5b5d_bool rfl rfl) (by dsimp only [putD, List.set]) ?_)
      first | (refine at_op (some 18) rfl rfl rfl rfl (op_lenL rfl fu__5b5d5b5d_bool) (by dsimp only [putD, List.set]) ?_) | (refine at_op (some 18) rfl rfl rfl rfl (opOK_un (op_lenL rfl fu__5b5d5b5d_bool)) (by dsimp only [putD, List.set]) ?_) | (refine at_op (some 18) rfl rfl rfl rfl (op_lenA rfl fu__5b5d5b5d_bool) (by dsimp only [putD, List.set]) ?_)
      simp only [List.length_map, hal]
      refine at_op (some 19) rfl rfl rfl rfl (op_makeFunc0 rfl rfl rfl) (by dsimp only [putD, List.set]) ?_
      refine at_op (some 20) rfl rfl rfl rfl (op_call0 rfl rfl rfl rfl (numbers_spec 48 [] [.ref (vbb (allM G n)), .ref (vi ↑i)] n (by omega) (fun k => rr (allM G n) i k && rr (allM G n) k i) (fun k hk => comp1_spec _ i k (by omega) (by omega) (fun r hr => by rw [allM_row hr, hal])))) (by dsimp only [putD, List.set]) ?_
      refine at_mv 20 6 rfl rfl rfl (.inr rfl) rfl (by dsimp only [List.set]) ?_
      refine at_end rfl ?_
      rw [show ((List.range n).filter fun k => rr (allM G n) i k && rr (allM G n) k i) = c0 :: cl from hc]
      refine at_seq [1, 1, 1, 1, 0, 1, 0, 0, 1, 1, 0, 0, 1, 1, 0] [1, 1, 1, 1, 0, 1, 0, 0, 1, 1, 0, 0, 1, 1, 1] rfl ?_
      refine at_draw mixed rfl [⟨[], [(1, 1, vnn acc)]⟩] rfl ?_
      refine da_mv 6 21 rfl rfl rfl (.inl rfl) rfl (by dsimp only [List.set]) ?_
      first | (refine da_quiet (some 22) rfl rfl rfl rfl (fun s hs => op_idxL rfl fsl_Sint (by first | decide | omega) (by first | assumption | exact idx_some (by assumption) | rfl) (by first | rfl | (simp [V.size]; done))) (by dsimp only [putD, List.set]) ?_) | (refine da_quiet (some 22) rfl rfl rfl rfl (fun s hs => opOK_un (op_idxL rfl fsl_Sint (by first | decide | omega) (by first | assumption | exact idx_some (by assumption) | rfl) (by first | rfl | (simp [V.size]; done)))) (by dsimp only [putD, List.set]) ?_) | (refine da_quiet (some 22) rfl rfl rfl rfl (fun s hs => op_idxA rfl fsl_Sint (by first | decide | omega) (by first | decide | omega)) (by dsimp only [putD, List.set]) ?_)
      first | (refine da_quiet (some 23) rfl rfl rfl rfl (fun s hs => op_loadR1 rfl fone_int rfl) (by dsimp only [putD, List.set]) ?_) | (refine da_quiet (some 23) rfl rfl rfl rfl (by intro s hs; simp only [List.mem_cons, List.not_mem_nil, or_false] at hs; rcases hs with rfl <;> exact op_loadP1 rfl fone_int rfl rfl) (by dsimp only [putD, List.set]) ?_)
      first | (refine da_quiet (some 24) rfl rfl rfl rfl (fun s hs => op_loadR1 rfl fone_int rfl) (by dsimp only [putD, List.set]) ?_) | (refine da_quiet (some 24) rfl rfl rfl rfl (by intro s hs; simp only [List.mem_cons, List.not_mem_nil, or_false] at hs; rcases hs with rfl <;> exact op_loadP1 rfl fone_int rfl rfl) (by dsimp only [putD, List.set]) ?_)
      refine da_quiet (some 25) rfl rfl rfl rfl (fun s hs => op_binI rfl rfl) (by dsimp only [putD, List.set]) ?_
      refine da_end rfl ⟨by decide +kernel, _, rfl, ?_⟩
      refine at_cond [1, 1, 1, 1, 0, 1, 0, 0, 1, 1, 0, 0, 1, 1, 1, 0] [1, 1, 1, 1, 0, 1, 0, 0, 1, 1, 0, 0, 1, 1, 1, 1] rfl rfl (fun hc2 => ?_) (fun hc2 => ?_)
      · skip
        have hq : compQ (allM G n) n i = true := by simp only [compQ, hc, List.head?_cons]; simp at hc2 ⊢; omega
        rw [if_pos hq, List.map_cons, hc] at hT
        refine at_region rfl ?_
        refine at_mv 4 26 rfl rfl rfl (.inl rfl) rfl (by dsimp only [List.set]) ?_
        refine at_mv 6 27 rfl rfl rfl (.inl rfl) rfl (by dsimp only [List.set]) ?_
        refine at_op (some 28) rfl rfl rfl rfl (op_buildSlice rfl (by rfl) (by rfl) fsl__5b5d5b5d_int rfl rfl (by simp [V.size]) (by decide) (by decide) (by decide)) (by dsimp only [putD, List.set]) ?_
        refine at_opS (some 29) rfl rfl rfl rfl (op_append rfl fsl__5b5d5b5d_int rfl (by simp) (by simp [V.size]) (by simp; omega) (by simp; omega)) (by dsimp only [putD, List.set]) (by dsimp only [List.set, List.append, List.cons_append, List.nil_append, cellsD, List.map, repl, List.length, Nat.reduceAdd, if_true, ↓reduceIte]; first | done | rfl) ?_
        refine at_mv 29 4 rfl rfl rfl (.inr rfl) rfl (by dsimp only [List.set]) ?_
        refine at_end rfl ?_
        rw [vnn_snoc]
        refine run_blk ?_
        refine at_region rfl ?_
        refine at_op (some 30) rfl rfl rfl rfl (op_binI rfl rfl) (by dsimp only [putD, List.set]) ?_
        rw [wrap_succ (by omega)]
        refine at_mv 30 14 rfl rfl rfl (.inl rfl) rfl (by dsimp only [List.set]) ?_
        refine at_end rfl ?_
        first | exact run_wk (.drop (.keep (.drop (.keep (.keep (.drop (.drop (.drop (.drop (.drop (.drop (.drop (.drop (.keep (.keep (.drop (.drop (.drop (.drop (.drop (.drop (.drop (.drop (.drop (.drop (.drop (.drop (.drop (.drop (.drop (.drop (.drop .nil)))))))))))))))))))))))))))))))) (ih _ (by omega) (i + 1) (acc ++ [c0 :: cl]) rfl (by simp; omega) (by rw [hT]; simp)) | exact run_wk (.drop (.keep (.drop (.keep (.keep (.drop (.drop (.drop (.drop (.drop (.drop (.drop (.drop (.keep (.keep (.drop (.drop (.drop (.drop (.drop (.drop (.drop (.drop (.drop (.drop (.drop (.drop (.drop (.drop (.drop (.drop (.drop .nil)))))))))))))))))))))))))))))))) (ih _ (by omega) (i + 1) acc rfl (by omega) hT)
      · skip
        have hq : ¬ compQ (allM G n) n i = true := by simp only [compQ, hc, List.head?_cons]; simp at hc2 ⊢; omega
        rw [if_neg hq] at hT
        refine at_skip rfl ?_
        refine run_blk ?_
        refine at_region rfl ?_
        refine at_op (some 30) rfl rfl rfl rfl (op_binI rfl rfl) (by dsimp only [putD, List.set]) ?_
        rw [wrap_succ (by omega)]
        refine at_mv 30 14 rfl rfl rfl (.inl rfl) rfl (by dsimp only [List.set]) ?_
        refine at_end rfl ?_
        first | exact run_wk (.drop (.keep (.drop (.keep (.keep (.drop (.drop (.drop (.drop (.drop (.drop (.drop (.drop (.keep (.keep (.drop (.drop (.drop (.drop (.drop (.drop (.drop (.drop (.drop (.drop (.drop (.drop (.drop (.drop (.drop (.drop (.drop .nil)))))))))))))))))))))))))))))))) (ih _ (by omega) (i + 1) (acc ++ [c0 :: cl]) rfl (by simp; omega) (by rw [hT]; simp)) | exact run_wk (.drop (.keep (.drop (.keep (.keep (.drop (.drop (.drop (.drop (.drop (.drop (.drop (.drop (.keep (.keep (.drop (.drop (.drop (.drop (.drop (.drop (.drop (.drop (.drop (.drop (.drop (.drop (.drop (.drop (.drop (.drop (.drop .nil)))))))))))))))))))))))))))))))) (ih _ (by omega) (i + 1) acc rfl (by omega) hT)
    · skip
      have hge : n ≤ i := by simp at hc1; omega
      rw [range_end hge, List.filter_nil, List.map_nil, List.append_nil] at hT
      refine at_exit rfl rfl ?_
      refine at_seq [1, 1, 1, 1, 1, 0] [1, 1, 1, 1, 1, 1] rfl ?_
      refine at_region rfl ?_
      refine at_mv 4 31 rfl rfl rfl (.inl rfl) rfl (by dsimp only [List.set]) ?_
      refine at_mv 31 2 rfl rfl rfl (.inr rfl) rfl (by dsimp only [List.set]) ?_
      refine at_end rfl ?_
      exact at_ret rfl (ret_un rfl rfl (by rw [hT]))

set_option maxRecDepth 20000 in
theorem comps_spec (n : Nat) (G : List (List Arc)) (hG : GOK n G) (h6 : n ≤ 6) : FSpec PP 22 [.v (vG n G)] σ0 (.v (.list (vnn (compsM (allM G n) n)))) σ0 := by
  have hal := allM_length G n
  refine spec_at cComps Tryz.func22 rfl (by kernel_rfl) (by first | decide | simp) _ (by dsimp only [Tryz.f22, List.length, Nat.reduceAdd, Nat.reduceSub, List.replicate, List.cons_append, List.nil_append]) ?_
  refine at_seq [0] [1] rfl ?_
  refine at_region rfl ?_
  refine at_op (some 1) rfl rfl rfl rfl (op_boxI rfl rfl) (by dsimp only [putD, List.set]) ?_
  refine at_mc 2 rfl rfl rfl (.inr rfl) (by dsimp only [constD]) (by dsimp only [List.set]) ?_
  refine at_end rfl ?_
  refine at_seq [1, 0] [1, 1] rfl ?_
  refine at_seq [1, 0, 0] [1, 0, 1] rfl ?_
  refine at_region rfl ?_
  first | (refine at_op (some 7) rfl rfl rfl rfl (op_loadRA rfl fagg_api_Graph) (by dsimp only [putD, List.set]) ?_) | (refine at_op (some 7) rfl rfl rfl rfl (op_loadPA rfl fagg_api_Graph rfl (by first | decide | simp) rfl) (by dsimp only [putD, List.set]) ?_)
  refine at_op (some 8) rfl rfl rfl rfl (op_call0 rfl rfl rfl rfl (validH_spec n G hG h6 [] (by simp) (by simp))) (by dsimp only [putD, List.set]) ?_
  refine at_op (some 9) rfl rfl rfl rfl (op_un rfl rfl) (by dsimp only [putD, List.set]) ?_
  refine at_end rfl ?_
  refine at_cond [1, 0, 1, 0] [1, 0, 1, 1] rfl rfl (fun hc1 => ?_) (fun hc1 => ?_)
  · skip
    exact absurd hc1 (by simp)
  · skip
    refine at_skip rfl ?_
    refine at_seq [1, 1, 0] [1, 1, 1] rfl ?_
    refine at_region rfl ?_
    first | (refine at_op (some 10) rfl rfl rfl rfl (op_loadRA rfl fagg_api_Graph) (by dsimp only [putD, List.set]) ?_) | (refine at_op (some 10) rfl rfl rfl rfl (op_loadPA rfl fagg_api_Graph rfl (by first | decide | simp) rfl) (by dsimp only [putD, List.set]) ?_)
    refine at_op (some 11) rfl rfl rfl rfl (op_call0 rfl rfl rfl rfl (all_spec n G hG h6)) (by dsimp only [putD, List.set]) ?_
    refine at_new 11 3 rfl rfl rfl rfl fzero__5b5d5b5d_bool rfl rfl rfl rfl (by decide) rfl rfl fone__5b5d5b5d_bool (by first | rfl | (simp [V.size]; done)) rfl (by simp only [List.length_cons]; omega) (by dsimp only [List.set]) ?_
    refine at_end rfl ?_
    refine at_seq [1, 1, 1, 0] [1, 1, 1, 1] rfl ?_
    refine at_region rfl ?_
    refine at_opS (some 4) rfl rfl rfl rfl (op_nilOwn (.inl rfl) 1 1 (by simp) (by decide)) (by dsimp only [putD, List.set]) (by dsimp only [List.set, List.append, List.cons_append, List.nil_append, cellsD, List.map, repl, List.length, Nat.reduceAdd, if_true, ↓reduceIte]; first | done | rfl) ?_
    refine at_end rfl ?_
    refine at_seq [1, 1, 1, 1, 0] [1, 1, 1, 1, 1] rfl ?_
    refine at_seq [1, 1, 1, 1, 0, 0] [1, 1, 1, 1, 0, 1] rfl ?_
    refine at_region rfl ?_
    first | (refine at_op (some 12) rfl rfl rfl rfl (op_loadR1 rfl fone__5b5d5b5d_bool rfl) (by dsimp only [putD, List.set]) ?_) | (refine at_op (some 12) rfl rfl rfl rfl (op_loadP1 rfl fone__5b5d5b5d_bool rfl rfl) (by dsimp only [putD, List.set]) ?_)
    first | (refine at_op (some 13) rfl rfl rfl rfl (op_lenL rfl fu__5b5d5b5d_bool) (by dsimp only [putD, List.set]) ?_) | (refine at_op (some 13) rfl rfl rfl rfl (opOK_un (op_lenL rfl fu__5b5d5b5d_bool)) (by dsimp only [putD, List.set]) ?_) | (refine at_op (some 13) rfl rfl rfl rfl (op_lenA rfl fu__5b5d5b5d_bool) (by dsimp only [putD, List.set]) ?_)
    simp only [List.length_map, hal]
    refine at_mc 14 rfl rfl rfl (.inl rfl) (by dsimp only [constD]) (by dsimp only [List.set]) ?_
    refine at_end rfl ?_
    refine at_block [1, 1, 1, 1, 0, 1, 0] 0 rfl ?_
    refine at_loop [1, 1, 1, 1, 0, 1, 0, 0] rfl ?_
    try simp only [List.length_map, List.length_nil, Int.toNat_natCast]
    exact run_wk (.drop (.keep (.drop (.keep (.keep (.drop (.drop (.drop (.drop (.drop (.drop (.drop (.drop (.keep (.keep (.drop (.drop (.drop (.drop (.drop (.drop (.drop (.drop (.drop (.drop (.drop (.drop (.drop (.drop (.drop (.drop (.drop .nil)))))))))))))))))))))))))))))))) (comps_loop n G hG h6 _ _ 0 [] rfl (by simp) (by simp [compsM]))

noncomputable def cLive3 : Code := Tryz.f50.body.getD .skip
set_option maxRecDepth 20000 in
theorem live3_spec (a : Arc) (label : Int) : FSpec PP 50 [.v (vArc a), .v (.ref (vi label))] σ0 (db (a.1 == label)) σ0 := by
  refine spec_at cLive3 Tryz.func50 rfl (by kernel_rfl) (by first | decide | simp) _ (by dsimp only [Tryz.f50, List.length, Nat.reduceAdd, Nat.reduceSub, List.replicate, List.cons_append, List.nil_append]) ?_
  refine at_seq [0] [1] rfl ?_
  refine at_region rfl ?_
  refine at_op (some 2) rfl rfl rfl rfl (op_boxI rfl rfl) (by dsimp only [putD, List.set]) ?_
  refine at_mc 3 rfl rfl rfl (.inr rfl) (by dsimp only [constD]) (by dsimp only [List.set]) ?_
  refine at_end rfl ?_
  refine at_seq [1, 0] [1, 1] rfl ?_
  refine at_region rfl ?_
  first | (refine at_op (some 4) rfl rfl rfl rfl (op_fieldP rfl ffld0_api_Arc (by decide)) (by dsimp only [putD, List.set]) ?_) | (refine at_op (some 4) rfl rfl rfl rfl (op_fieldR rfl ffld0_api_Arc (by decide) (by decide) rfl) (by dsimp only [putD, List.set]) ?_)
  first | (refine at_op (some 5) rfl rfl rfl rfl (op_loadR1 rfl fone_int rfl) (by dsimp only [putD, List.set]) ?_) | (refine at_op (some 5) rfl rfl rfl rfl (op_loadP1 rfl fone_int rfl rfl) (by dsimp only [putD, List.set]) ?_)
  first | (refine at_op (some 6) rfl rfl rfl rfl (op_loadR1 rfl fone_int rfl) (by dsimp only [putD, List.set]) ?_) | (refine at_op (some 6) rfl rfl rfl rfl (op_loadP1 rfl fone_int rfl rfl) (by dsimp only [putD, List.set]) ?_)
  refine at_op (some 7) rfl rfl rfl rfl (op_binI rfl rfl) (by dsimp only [putD, List.set]) ?_
  refine at_mv 7 3 rfl rfl rfl (.inr rfl) rfl (by dsimp only [List.set]) ?_
  refine at_end rfl ?_
  refine at_ret rfl (ret_one (t := 3) rfl rfl ?_ rfl)
  rfl

noncomputable def cLive1 : Code := Tryz.f49.body.getD .skip
set_option maxRecDepth 20000 in
theorem live1_spec (n : Nat) (G : List (List Arc)) (hG : GOK n G) (label : Int) (i : Nat) (hi : i < n) : FSpec PP 49 [di ↑i, .v (.ref (vG n G)), .v (.ref (vi label))] σ0 (db (hasM G label i)) σ0 := by
  obtain ⟨row, hr⟩ := get_ex (a := G) (i := i) (by rw [hG.len]; exact hi)
  have hr2 := idx_some (f := vArcs) hr
  obtain ⟨hrl, hrow⟩ := hG.row row (List.mem_of_getElem? hr)
  have e : hasM G label i = row.any fun a => a.1 == label := by simp [hasM, hr]
  rw [e]
  refine spec_at cLive1 Tryz.func49 rfl (by kernel_rfl) (by first | decide | simp) _ (by dsimp only [Tryz.f49, List.length, Nat.reduceAdd, Nat.reduceSub, List.replicate, List.cons_append, List.nil_append]) ?_
  refine at_seq [0] [1] rfl ?_
  refine at_region rfl ?_
  refine at_mc 4 rfl rfl rfl (.inr rfl) (by dsimp only [constD]) (by dsimp only [List.set]) ?_
  refine at_end rfl ?_
  refine at_seq [1, 0] [1, 1] rfl ?_
  refine at_region rfl ?_
  first | (refine at_op (some 5) rfl rfl rfl rfl (op_fieldP rfl ffld1_api_Graph (by decide)) (by dsimp only [putD, List.set]) ?_) | (refine at_op (some 5) rfl rfl rfl rfl (op_fieldR rfl ffld1_api_Graph (by decide) (by decide) rfl) (by dsimp only [putD, List.set]) ?_)
  first | (refine at_op (some 6) rfl rfl rfl rfl (op_loadR1 rfl fone__5b5d5b5d_api_Arc rfl) (by dsimp only [putD, List.set]) ?_) | (refine at_op (some 6) rfl rfl rfl rfl (op_loadP1 rfl fone__5b5d5b5d_api_Arc rfl rfl) (by dsimp only [putD, List.set]) ?_)
  refine at_mv 0 7 rfl rfl rfl (.inl rfl) rfl (by dsimp only [List.set]) ?_
  first | (refine at_op (some 8) rfl rfl rfl rfl (op_idxL rfl fsl__5b5d5b5d_api_Arc (by first | decide | omega) (by first | assumption | exact idx_some (by assumption) | rfl) (by first | rfl | (simp [V.size]; done))) (by dsimp only [putD, List.set]) ?_) | (refine at_op (some 8) rfl rfl rfl rfl (opOK_un (op_idxL rfl fsl__5b5d5b5d_api_Arc (by first | decide | omega) (by first | assumption | exact idx_some (by assumption) | rfl) (by first | rfl | (simp [V.size]; done)))) (by dsimp only [putD, List.set]) ?_) | (refine at_op (some 8) rfl rfl rfl rfl (op_idxA rfl fsl__5b5d5b5d_api_Arc (by first | decide | omega) (by first | decide | omega)) (by dsimp only [putD, List.set]) ?_)
  first | (refine at_op (some 9) rfl rfl rfl rfl (op_loadR1 rfl fone_Sapi_Arc rfl) (by dsimp only [putD, List.set]) ?_) | (refine at_op (some 9) rfl rfl rfl rfl (op_loadP1 rfl fone_Sapi_Arc rfl rfl) (by dsimp only [putD, List.set]) ?_)
  refine at_op (some 10) rfl rfl rfl rfl (op_makeFunc0 rfl rfl rfl) (by dsimp only [putD, List.set]) ?_
  refine at_op (some 11) rfl rfl rfl rfl (op_call0 rfl rfl rfl rfl (containsFA_spec 50 [] [.ref (vi label)] row (fun a => a.1 == label) (fun a _ => live3_spec a label) (by omega))) (by dsimp only [putD, List.set]) ?_
  refine at_mv 11 4 rfl rfl rfl (.inr rfl) rfl (by dsimp only [List.set]) ?_
  refine at_end rfl ?_
  refine at_ret rfl (ret_one (t := 4) rfl rfl ?_ rfl)
  rfl

noncomputable def cLive2 : Code := Tryz.f51.body.getD .skip
set_option maxRecDepth 20000 in
theorem live2_spec (n : Nat) (G : List (List Arc)) (hG : GOK n G) (label : Int) (f : List Bool) (i : Nat) (hi : i < n) (hf : f.length = n) : FSpec PP 51 [di ↑i, .v (.ref (vbs f)), .v (.ref (.fn 49 [] [.ref (vG n G), .ref (vi label)]))] σ0 (db (gb f i && hasM G label i)) σ0 := by
  obtain ⟨b, hb⟩ := get_ex (a := f) (i := i) (by omega)
  have hb2 := idx_some (f := vb) hb
  rw [gb_some hb]
  refine spec_at cLive2 Tryz.func51 rfl (by kernel_rfl) (by first | decide | simp) _ (by dsimp only [Tryz.f51, List.length, Nat.reduceAdd, Nat.reduceSub, List.replicate, List.cons_append, List.nil_append]) ?_
  refine at_seq [0] [1] rfl ?_
  refine at_region rfl ?_
  refine at_mc 4 rfl rfl rfl (.inr rfl) (by dsimp only [constD]) (by dsimp only [List.set]) ?_
  refine at_end rfl ?_
  refine at_seq [1, 0] [1, 1] rfl ?_
  refine at_region rfl ?_
  first | (refine at_op (some 5) rfl rfl rfl rfl (op_loadR1 rfl fone_Sbool rfl) (by dsimp only [putD, List.set]) ?_) | (refine at_op (some 5) rfl rfl rfl rfl (op_loadP1 rfl fone_Sbool rfl rfl) (by dsimp only [putD, List.set]) ?_)
  refine at_mv 0 6 rfl rfl rfl (.inl rfl) rfl (by dsimp only [List.set]) ?_
  first | (refine at_op (some 7) rfl rfl rfl rfl (op_idxL rfl fsl_Sbool (by first | decide | omega) (by first | assumption | exact idx_some (by assumption) | rfl) (by first | rfl | (simp [V.size]; done))) (by dsimp only [putD, List.set]) ?_) | (refine at_op (some 7) rfl rfl rfl rfl (opOK_un (op_idxL rfl fsl_Sbool (by first | decide | omega) (by first | assumption | exact idx_some (by assumption) | rfl) (by first | rfl | (simp [V.size]; done)))) (by dsimp only [putD, List.set]) ?_) | (refine at_op (some 7) rfl rfl rfl rfl (op_idxA rfl fsl_Sbool (by first | decide | omega) (by first | decide | omega)) (by dsimp only [putD, List.set]) ?_)
  first | (refine at_op (some 8) rfl rfl rfl rfl (op_loadR1 rfl fone_bool rfl) (by dsimp only [putD, List.set]) ?_) | (refine at_op (some 8) rfl rfl rfl rfl (op_loadP1 rfl fone_bool rfl rfl) (by dsimp only [putD, List.set]) ?_)
  refine at_mv 8 9 rfl rfl rfl (.inl rfl) rfl (by dsimp only [List.set]) ?_
  refine at_split 9 rfl (fun hb1 env' he => ?_) (fun hb1 env' he => ?_)
  · dsimp only [List.set] at he; subst he
    first | (refine at_op (some 10) rfl rfl rfl rfl (op_loadR1 rfl fone_func_28_int_2920_bool rfl) (by dsimp only [putD, List.set]) ?_) | (refine at_op (some 10) rfl rfl rfl rfl (op_loadP1 rfl fone_func_28_int_2920_bool rfl rfl) (by dsimp only [putD, List.set]) ?_)
    refine at_mv 0 11 rfl rfl rfl (.inl rfl) rfl (by dsimp only [List.set]) ?_
    refine at_op (some 12) rfl rfl rfl rfl (op_call0 rfl rfl rfl rfl (live1_spec n G hG label i hi)) (by dsimp only [putD, List.set]) ?_
    refine at_pk true 9 12 13 rfl rfl rfl rfl rfl rfl rfl (by dsimp only [List.set]) ?_
    refine at_mv 13 4 rfl rfl rfl (.inr rfl) rfl (by dsimp only [List.set]) ?_
    refine at_end rfl ?_
    refine at_ret rfl (ret_one (t := 4) rfl rfl ?_ rfl)
    first | rfl | (simp_all; done)
  · dsimp only [List.set] at he; subst he
    refine at_opN (some 10) rfl rfl rfl (by dsimp only [putD, List.set]) ?_
    refine at_opN (some 11) rfl rfl rfl (by dsimp only [putD, List.set]) ?_
    refine at_opN (some 12) rfl rfl rfl (by dsimp only [putD, List.set]) ?_
    refine at_pkc false 9 13 rfl rfl rfl rfl rfl rfl (by dsimp only [constD]) (by dsimp only [List.set]) ?_
    refine at_mv 13 4 rfl rfl rfl (.inr rfl) rfl (by dsimp only [List.set]) ?_
    refine at_end rfl ?_
    refine at_ret rfl (ret_one (t := 4) rfl rfl ?_ rfl)
    first | rfl | (simp_all; done)

noncomputable def cLive : Code := Tryz.f24.body.getD .skip
set_option maxRecDepth 20000 in
theorem live_loop (n : Nat) (G : List (List Arc)) (hG : GOK n G) (h6 : n ≤ 6) (label : Int) (T : Bool) (m : Nat) : ∀ (i : Nat), n - i = m → T = ((allM G n).drop i).all (fun f => !(liveF G n label f).isEmpty) → Run PP (fun env σ1 => ResOK PP Tryz.f24 env σ1 (db T) σ0) [.lp (sub cLive [1, 1, 1, 0, 1, 0, 0]), .blk 0, .code (sub cLive [1, 1, 1, 1])] (.undef :: .undef :: (.v (.ref (vG n G))) :: (.v (.ref (vi label))) :: .undef :: (.v (.ref (.fn 49 [] [.ref (vG n G), .ref (vi label)]))) :: .undef :: .undef :: .undef :: .undef :: .undef :: .undef :: .undef :: (.v (vbb (allM G n))) :: (di ↑n) :: (di ↑i) :: .undef :: .undef :: .undef :: .undef :: .undef :: .undef :: .undef :: .undef :: .undef :: .undef :: []) σ0 := by
  induction m using Nat.strongRecOn with
  | _ m ih =>
    intro i hm hT
    have hal := allM_length G n
    refine run_lp ?_
    refine at_seq [1, 1, 1, 0, 1, 0, 0, 0] [1, 1, 1, 0, 1, 0, 0, 1] rfl ?_
    refine at_region rfl ?_
    refine at_op (some 16) rfl rfl rfl rfl (op_binI rfl rfl) (by dsimp only [putD, List.set]) ?_
    refine at_end rfl ?_
    refine at_seq [1, 1, 1, 0, 1, 0, 0, 1, 0] [1, 1, 1, 0, 1, 0, 0, 1, 1] rfl ?_
    refine at_cond [1, 1, 1, 0, 1, 0, 0, 1, 0, 0] [1, 1, 1, 0, 1, 0, 0, 1, 0, 1] rfl rfl (fun hc1 => ?_) (fun hc1 => ?_)
    · skip
      have hlt : i < n := by simp at hc1; omega
      obtain ⟨f, hf⟩ := get_ex (a := allM G n) (i := i) (by omega)
      have hf2 := idx_some (f := vbs) hf
      have hfl := allM_row (List.mem_of_getElem? hf)
      rw [List.drop_eq_getElem_cons (by omega), (List.getElem?_eq_some_iff.1 hf).2, List.all_cons] at hT
      refine at_skip rfl ?_
      refine at_seq [1, 1, 1, 0, 1, 0, 0, 1, 1, 0] [1, 1, 1, 0, 1, 0, 0, 1, 1, 1] rfl ?_
      refine at_block [1, 1, 1, 0, 1, 0, 0, 1, 1, 0, 0] 1 rfl ?_
      refine at_seq [1, 1, 1, 0, 1, 0, 0, 1, 1, 0, 0, 0] [1, 1, 1, 0, 1, 0, 0, 1, 1, 0, 0, 1] rfl ?_
      refine at_region rfl ?_
      first | (refine at_op (some 17) rfl rfl rfl rfl (op_idxL rfl fsl__5b5d5b5d_bool (by first | decide | omega) (by first | assumption | exact idx_some (by assumption) | rfl) (by first | rfl | (simp [V.size]; done))) (by dsimp only [putD, List.set]) ?_) | (refine at_op (some 17) rfl rfl rfl rfl (opOK_un (op_idxL rfl fsl__5b5d5b5d_bool (by first | decide | omega) (by first | assumption | exact idx_some (by assumption) | rfl) (by first | rfl | (simp [V.size]; done)))) (by dsimp only [putD, List.set]) ?_) | (refine at_op (some 17) rfl rfl rfl rfl (op_idxA rfl fsl__5b5d5b5d_bool (by first | decide | omega) (by first | decide | omega)) (by dsimp only [putD, List.set]) ?_)
      first | (refine at_op (some 18) rfl rfl rfl rfl (op_loadR1 rfl fone_Sbool rfl) (by dsimp only [putD, List.set]) ?_) | (refine at_op (some 18) rfl rfl rfl rfl (op_loadP1 rfl fone_Sbool rfl rfl) (by dsimp only [putD, List.set]) ?_)
      refine at_new 18 7 rfl rfl rfl rfl fzero_Sbool rfl rfl rfl rfl (by decide) rfl rfl fone_Sbool (by first | rfl | (simp [V.size]; done)) rfl (by simp only [List.length_cons]; omega) (by dsimp only [List.set]) ?_
      refine at_end rfl ?_
      refine at_seq [1, 1, 1, 0, 1, 0, 0, 1, 1, 0, 0, 1, 0] [1, 1, 1, 0, 1, 0, 0, 1, 1, 0, 0, 1, 1] rfl ?_
      refine at_region rfl ?_
      first | (refine at_op (some 19) rfl rfl rfl rfl (op_loadR1 rfl fone_Sbool rfl) (by dsimp only [putD, List.set]) ?_) | (refine at_op (some 19) rfl rfl rfl rfl (op_loadP1 rfl fone_Sbool rfl rfl) (by dsimp only [putD, List.set]) ?_)
      first | (refine at_op (some 20) rfl rfl rfl rfl (op_lenL rfl fu_Sbool) (by dsimp only [putD, List.set]) ?_) | (refine at_op (some 20) rfl rfl rfl rfl (opOK_un (op_lenL rfl fu_Sbool)) (by dsimp only [putD, List.set]) ?_) | (refine at_op (some 20) rfl rfl rfl rfl (op_lenA rfl fu_Sbool) (by dsimp only [putD, List.set]) ?_)
      simp only [List.length_map, hfl]
      refine at_op (some 21) rfl rfl rfl rfl (op_makeFunc0 rfl rfl rfl) (by dsimp only [putD, List.set]) ?_
      refine at_op (some 22) rfl rfl rfl rfl (op_call0 rfl rfl rfl rfl (numbers_spec 51 [] [.ref (vbs f), .ref (.fn 49 [] [.ref (vG n G), .ref (vi label)])] n (by omega) (fun i => gb f i && hasM G label i) (fun i hi => live2_spec n G hG label f i hi hfl))) (by dsimp only [putD, List.set]) ?_
      first | (refine at_op (some 23) rfl rfl rfl rfl (op_lenL rfl fu_Sint) (by dsimp only [putD, List.set]) ?_) | (refine at_op (some 23) rfl rfl rfl rfl (opOK_un (op_lenL rfl fu_Sint)) (by dsimp only [putD, List.set]) ?_) | (refine at_op (some 23) rfl rfl rfl rfl (op_lenA rfl fu_Sint) (by dsimp only [putD, List.set]) ?_)
      rw [show (vns ((List.range n).filter fun i => gb f i && hasM G label i)).length = (liveF G n label f).length by simp [liveF]]
      refine at_op (some 24) rfl rfl rfl rfl (op_binI rfl rfl) (by dsimp only [putD, List.set]) ?_
      refine at_end rfl ?_
      refine at_cond [1, 1, 1, 0, 1, 0, 0, 1, 1, 0, 0, 1, 1, 0] [1, 1, 1, 0, 1, 0, 0, 1, 1, 0, 0, 1, 1, 1] rfl rfl (fun hc2 => ?_) (fun hc2 => ?_)
      · skip
        have hem : (liveF G n label f).isEmpty = true := by rw [List.isEmpty_iff_length_eq_zero]; simpa using hc2
        rw [hem] at hT
        refine at_seq [1, 1, 1, 0, 1, 0, 0, 1, 1, 0, 0, 1, 1, 0, 0] [1, 1, 1, 0, 1, 0, 0, 1, 1, 0, 0, 1, 1, 0, 1] rfl ?_
        refine at_region rfl ?_
        refine at_mc 4 rfl rfl rfl (.inr rfl) (by dsimp only [constD]) (by dsimp only [List.set]) ?_
        refine at_end rfl ?_
        refine at_ret rfl (ret_one (t := 4) rfl rfl ?_ rfl)
        rw [hT]; try rfl
      · skip
        have hem : (liveF G n label f).isEmpty = false := by rw [← Bool.not_eq_true, List.isEmpty_iff_length_eq_zero]; simpa using hc2
        rw [hem] at hT
        refine at_skip rfl ?_
        refine run_blk ?_
        refine at_region rfl ?_
        refine at_op (some 25) rfl rfl rfl rfl (op_binI rfl rfl) (by dsimp only [putD, List.set]) ?_
        rw [wrap_succ (by omega)]
        refine at_mv 25 15 rfl rfl rfl (.inl rfl) rfl (by dsimp only [List.set]) ?_
        refine at_end rfl ?_
        exact run_wk (.drop (.drop (.keep (.keep (.drop (.keep (.drop (.drop (.drop (.drop (.drop (.drop (.drop (.keep (.keep (.keep (.drop (.drop (.drop (.drop (.drop (.drop (.drop (.drop (.drop (.drop .nil)))))))))))))))))))))))))) (ih _ (by omega) (i + 1) rfl (by rw [hT]; simp))
    · skip
      have hge : n ≤ i := by simp at hc1; omega
      rw [List.drop_of_length_le (by omega), List.all_nil] at hT
      refine at_exit rfl rfl ?_
      refine at_seq [1, 1, 1, 1, 0] [1, 1, 1, 1, 1] rfl ?_
      refine at_region rfl ?_
      refine at_mc 4 rfl rfl rfl (.inr rfl) (by dsimp only [constD]) (by dsimp only [List.set]) ?_
      refine at_end rfl ?_
      refine at_ret rfl (ret_one (t := 4) rfl rfl ?_ rfl)
      rw [hT]; try rfl

set_option maxRecDepth 20000 in
theorem live_spec (n : Nat) (G : List (List Arc)) (hG : GOK n G) (h6 : n ≤ 6) (label : Int) : FSpec PP 24 [.v (vG n G), di label] σ0 (db (liveM G n label)) σ0 := by
  have hal := allM_length G n
  refine spec_at cLive Tryz.func24 rfl (by kernel_rfl) (by first | decide | simp) _ (by dsimp only [Tryz.f24, List.length, Nat.reduceAdd, Nat.reduceSub, List.replicate, List.cons_append, List.nil_append]) ?_
  refine at_seq [0] [1] rfl ?_
  refine at_region rfl ?_
  refine at_op (some 2) rfl rfl rfl rfl (op_boxI rfl rfl) (by dsimp only [putD, List.set]) ?_
  refine at_op (some 3) rfl rfl rfl rfl (op_boxI rfl rfl) (by dsimp only [putD, List.set]) ?_
  refine at_mc 4 rfl rfl rfl (.inr rfl) (by dsimp only [constD]) (by dsimp only [List.set]) ?_
  refine at_end rfl ?_
  refine at_seq [1, 0] [1, 1] rfl ?_
  refine at_seq [1, 0, 0] [1, 0, 1] rfl ?_
  refine at_region rfl ?_
  first | (refine at_op (some 8) rfl rfl rfl rfl (op_loadRA rfl fagg_api_Graph) (by dsimp only [putD, List.set]) ?_) | (refine at_op (some 8) rfl rfl rfl rfl (op_loadPA rfl fagg_api_Graph rfl (by first | decide | simp) rfl) (by dsimp only [putD, List.set]) ?_)
  refine at_op (some 9) rfl rfl rfl rfl (op_call0 rfl rfl rfl rfl (validH_spec n G hG h6 [] (by simp) (by simp))) (by dsimp only [putD, List.set]) ?_
  refine at_op (some 10) rfl rfl rfl rfl (op_un rfl rfl) (by dsimp only [putD, List.set]) ?_
  refine at_end rfl ?_
  refine at_cond [1, 0, 1, 0] [1, 0, 1, 1] rfl rfl (fun hc1 => ?_) (fun hc1 => ?_)
  · skip
    exact absurd hc1 (by simp)
  · skip
    refine at_skip rfl ?_
    refine at_seq [1, 1, 0] [1, 1, 1] rfl ?_
    refine at_region rfl ?_
    refine at_op (some 11) rfl rfl rfl rfl (op_makeFunc0 rfl rfl rfl) (by dsimp only [putD, List.set]) ?_
    refine at_new 11 5 rfl rfl rfl rfl fzero_func_28_int_2920_bool rfl rfl rfl rfl (by decide) rfl rfl fone_func_28_int_2920_bool (by first | rfl | (simp [V.size]; done)) rfl (by simp only [List.length_cons]; omega) (by dsimp only [List.set]) ?_
    refine at_end rfl ?_
    refine at_seq [1, 1, 1, 0] [1, 1, 1, 1] rfl ?_
    refine at_seq [1, 1, 1, 0, 0] [1, 1, 1, 0, 1] rfl ?_
    refine at_region rfl ?_
    first | (refine at_op (some 12) rfl rfl rfl rfl (op_loadRA rfl fagg_api_Graph) (by dsimp only [putD, List.set]) ?_) | (refine at_op (some 12) rfl rfl rfl rfl (op_loadPA rfl fagg_api_Graph rfl (by first | decide | simp) rfl) (by dsimp only [putD, List.set]) ?_)
    refine at_op (some 13) rfl rfl rfl rfl (op_call0 rfl rfl rfl rfl (all_spec n G hG h6)) (by dsimp only [putD, List.set]) ?_
    first | (refine at_op (some 14) rfl rfl rfl rfl (op_lenL rfl fu__5b5d5b5d_bool) (by dsimp only [putD, List.set]) ?_) | (refine at_op (some 14) rfl rfl rfl rfl (opOK_un (op_lenL rfl fu__5b5d5b5d_bool)) (by dsimp only [putD, List.set]) ?_) | (refine at_op (some 14) rfl rfl rfl rfl (op_lenA rfl fu__5b5d5b5d_bool) (by dsimp only [putD, List.set]) ?_)
    simp only [List.length_map, hal]
    refine at_mc 15 rfl rfl rfl (.inl rfl) (by dsimp only [constD]) (by dsimp only [List.set]) ?_
    refine at_end rfl ?_
    refine at_block [1, 1, 1, 0, 1, 0] 0 rfl ?_
    refine at_loop [1, 1, 1, 0, 1, 0, 0] rfl ?_
    try simp only [List.length_map, List.length_nil, Int.toNat_natCast]
    exact run_wk (.drop (.drop (.keep (.keep (.drop (.keep (.drop (.drop (.drop (.drop (.drop (.drop (.drop (.keep (.keep (.keep (.drop (.drop (.drop (.drop (.drop (.drop (.drop (.drop (.drop (.drop .nil)))))))))))))))))))))))))) (live_loop n G hG h6 label _ _ 0 rfl (by rw [List.drop_zero]; rfl))

end Go.Proofs.YtmdipbhjhkckjaaGreat
