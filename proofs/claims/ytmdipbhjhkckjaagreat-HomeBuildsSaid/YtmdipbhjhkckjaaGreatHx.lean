/-
 The sanity check of layer 35 returns true: run by the kernel.
-/
import Derived.Test.YtmdipbhjhkckjaaGreatCy
import Derived.Test.YtmdipbhjhkckjaaGreatTx
import Derived.Test.YtmdipbhjhkckjaaGreatDb
import Derived.Laws.StructEq
import Derived.ChangeKeysEq
namespace Go.Proofs.YtmdipbhjhkckjaaGreat
open Go.Dv Go.Ci
noncomputable def isCV (x : Option CV) (d : CV) : Bool := match x with
 | some d' => eqV d' d
 | none => false
theorem isCV_eq {x : Option CV} {d : CV} (h : isCV x d = true) : x = some d := by
 unfold isCV at h
 split at h
 ·rw [eqV_eq _ _ h]
 ·simp at h
def saI (n : Int) : V := .int .i64 n
def saS (n : Nat) : V := .str [UInt8.ofNat n]
def saR (n : Nat) (f t : Int) : V := .agg [saS n, saI f, saI t, .list [saI 0], .list [saI 0], .nils, saI 0, saI 0, saI 0, .nils, .nils, .nils, .nils, saI 0]
def saM : V := .agg [saI 1, .list [saS 97, saS 98], .list [saS 120], .nils, .nils, saI 0, saI 0, .list [saR 114 0 1, saR 115 1 0], saI 0, .list [.agg [saI 0, .nils], .agg [saI 0, .nils]]]
theorem saCheck : TSpec PP 54 [saM] (.int .i64 0) :=
 runD_T (tab0 PP) mixed (n := 60) (isCV_eq (by kernel_rfl))
noncomputable def saTab : Tab := tabOf [(54, [saM], .int .i64 0)]
theorem saTab_ok : TabOK PP saTab := tabOf_ok fun e he => by
 simp only [List.mem_singleton] at he
 subst he
 exact saCheck
theorem sane_T : TSpec PP 8 [] (.bool true) :=
 runD_T saTab_ok mixed (n := 60) (isCV_eq (by kernel_rfl))
theorem sane_spec : FSpec PP 8 [] ⟨[], []⟩ (.v (.bool true)) ⟨[], []⟩ := sane_T.f rfl
end Go.Proofs.YtmdipbhjhkckjaaGreat

namespace Go.Proofs.YtmdipbhjhkckjaaGreat
open Go.Dv
abbrev vi (n : Int) : V := .int .i64 n
abbrev di (n : Int) : D := .v (.int .i64 n)
abbrev vl (xs : List Int) : V := .list (xs.map vi)
abbrev dl (xs : List Int) : D := .v (.list (xs.map vi))
abbrev db (b : Bool) : D := .v (.bool b)
abbrev σ0 : St := ⟨[], []⟩
abbrev dfn (f : FuncId) : D := .v (.fn f [] [])
theorem idx_some {α : Type} {f : α → V} {a : List α} {i : Nat} {x : α} (h : a[i]? = some x) : (a.map f)[((i : Nat) : Int).toNat]? = some (f x) := by simp [h]
theorem get_ex {α : Type} {a : List α} {i : Nat} (h : i < a.length) : ∃ x, a[i]? = some x := ⟨_, List.getElem?_eq_getElem h⟩
theorem wrap_id {n : Int} (h0 : -9223372036854775808 ≤ n) (h1 : n ≤ 9223372036854775807) : IntKind.i64.wrap n = n := by rw [IntKind.wrap_i64]; omega
theorem wrap_succ {i : Nat} (h : i ≤ 1000000000) : IntKind.i64.wrap ((i : Int) + 1) = ((i + 1 : Nat) : Int) := by rw [wrap_id (by omega) (by omega)]; omega
abbrev vu (x : Int) : V := .int .u8 x
abbrev dus (s : List Int) : D := .v (.list (s.map vu))
def BytesOK (s : List Int) : Prop := ∀ x ∈ s, 0 ≤ x ∧ x < 256
abbrev dice (s : List Int) (k : Nat) : St := ⟨[some [.v (.list (s.map vu)), .v (.int .i64 (k : Int))]], []⟩
def pkAt (s : List Int) (k : Nat) : Nat := if k < s.length then k + 1 else k
def pkV (s : List Int) (k : Nat) (n : Int) : Int := match s[k]? with
 | some x => x.tmod n
 | none => 0
theorem pkV_range {s : List Int} (hs : BytesOK s) (k : Nat) {n : Int} (hn : 1 ≤ n) : 0 ≤ pkV s k n ∧ pkV s k n < n := by
 unfold pkV
 split
 ·rename_i x hx
  obtain ⟨h1, h2⟩ := hs x (List.mem_of_getElem? hx)
  rw [Int.tmod_eq_emod_of_nonneg h1]
  exact ⟨Int.emod_nonneg _ (by omega), Int.emod_lt_of_pos _ (by omega)⟩
 ·omega
abbrev Arc := Int × Int
abbrev vArc (a : Arc) : V := .agg [.int .i64 a.1, .int .i64 a.2]
abbrev vArcs (l : List Arc) : V := .list (l.map vArc)
theorem pkAt_lt {s : List Int} {k : Nat} (hk : k ≤ 200) (hs : s.length ≤ 200) : pkAt s k ≤ 200 := by unfold pkAt; split <;> omega
noncomputable def cNewD : Code := Tryz.f9.body.getD .skip
set_option maxRecDepth 20000 in
theorem newD_spec (s : List Int) : FSpec PP 9 [dus s] σ0 (.ptr 0 0) (dice (s.take 200) 0) := by
 refine spec_at cNewD Tryz.func9 rfl (by kernel_rfl) (by first | decide | simp) _ (by dsimp only [Tryz.f9, List.length, Nat.reduceAdd, Nat.reduceSub, List.replicate, List.cons_append, List.nil_append]) ?_
 refine at_seq [0] [1] rfl ?_
 refine at_region rfl ?_
 refine at_c 2 rfl rfl rfl (.inr rfl) ?_
 refine at_end rfl ?_
 refine at_seq [1, 0] [1, 1] rfl ?_
 refine at_seq [1, 0, 0] [1, 0, 1] rfl ?_
 refine at_region rfl ?_
 refine at_m 0 3 rfl rfl rfl (.inl rfl) rfl ?_
 first | (refine at_o 4 rfl rfl rfl rfl (op_lenL rfl fu_Suint8) ?_) | (refine at_o 4 rfl rfl rfl rfl (opOK_un (op_lenL rfl fu_Suint8)) ?_) | (refine at_o 4 rfl rfl rfl rfl (op_lenA rfl fu_Suint8) ?_)
 refine at_o 5 rfl rfl rfl rfl (op_binI rfl rfl) ?_
 refine at_end rfl ?_
 refine at_cond [1, 0, 1, 0] [1, 0, 1, 1] rfl rfl (fun hc1 => ?_) (fun hc1 => ?_)
 ·skip
  have hgt : 200 < s.length := by simp at hc1; omega
  refine at_region rfl ?_
  refine at_m 0 6 rfl rfl rfl (.inl rfl) rfl ?_
  refine at_o 7 rfl rfl rfl rfl (op_sliceL rfl fsl_Suint8 (by simp [V.size]) (by decide) none (some (_, _)) rfl rfl (l' := 0) (h' := 200) (by simp only [sliceI, List.length_map]; simp; omega)) ?_
  rw [List.drop_zero, ← List.map_take]
  refine at_m 7 0 rfl rfl rfl (.inr rfl) rfl ?_
  refine at_end rfl ?_
  refine at_seq [1, 1, 0] [1, 1, 1] rfl ?_
  refine at_region rfl ?_
  refine at_m 0 8 rfl rfl rfl (.inl rfl) rfl ?_
  refine at_o 9 rfl rfl rfl rfl (op_build rfl fbld_coverabilityplay_Dice rfl rfl) ?_
  try dsimp only [V.cellsV, List.take, List.drop, List.cons_append, List.nil_append, List.length]
  refine at_box (.tmp 9) 10 rfl rfl rfl rfl (ev_tmp rfl) rfl (by dsimp only [List.set, List.length]) (by dsimp only [List.set, List.append, List.cons_append, List.nil_append, cellsD, List.map, repl, List.length, Nat.reduceAdd, if_true, ↓reduceIte]; first | done | rfl) ?_
  refine at_m 10 2 rfl rfl rfl (.inr rfl) rfl ?_
  refine at_end rfl ?_
  exact at_ret rfl (res_ok (ds := [.ptr 0 0]) (.tmp rfl .nil) rfl 1 (by first | rfl | (simp only [List.take_of_length_le hle]; rfl) | (simp; done)) (by simp) (fun i cs h => by cases i with | zero => (simp at h; subst h; rfl) | succ i => simp at h) (List.Sublist.refl _) rfl)
 ·skip
  have hle : s.length ≤ 200 := by simp at hc1; omega
  rw [show dice (s.take 200) 0 = dice s 0 by rw [List.take_of_length_le hle]]
  refine at_skip rfl ?_
  refine at_seq [1, 1, 0] [1, 1, 1] rfl ?_
  refine at_region rfl ?_
  refine at_m 0 8 rfl rfl rfl (.inl rfl) rfl ?_
  refine at_o 9 rfl rfl rfl rfl (op_build rfl fbld_coverabilityplay_Dice rfl rfl) ?_
  try dsimp only [V.cellsV, List.take, List.drop, List.cons_append, List.nil_append, List.length]
  refine at_box (.tmp 9) 10 rfl rfl rfl rfl (ev_tmp rfl) rfl (by dsimp only [List.set, List.length]) (by dsimp only [List.set, List.append, List.cons_append, List.nil_append, cellsD, List.map, repl, List.length, Nat.reduceAdd, if_true, ↓reduceIte]; first | done | rfl) ?_
  refine at_m 10 2 rfl rfl rfl (.inr rfl) rfl ?_
  refine at_end rfl ?_
  exact at_ret rfl (res_ok (ds := [.ptr 0 0]) (.tmp rfl .nil) rfl 1 (by first | rfl | (simp only [List.take_of_length_le hle]; rfl) | (simp; done)) (by simp) (fun i cs h => by cases i with | zero => (simp at h; subst h; rfl) | succ i => simp at h) (List.Sublist.refl _) rfl)
noncomputable def cPick : Code := Tryz.f36.body.getD .skip
set_option maxRecDepth 20000 in
theorem pick_spec (s : List Int) (hb : BytesOK s) (_ : s.length ≤ 200) (k : Nat) (hk : k ≤ 1000) (n : Int) (hn : 1 ≤ n) : FSpec PP 36 [.ptr 0 0, di n] (dice s k) (di (pkV s k n)) (dice s (pkAt s k)) := by
 refine spec_at cPick Tryz.func36 rfl (by kernel_rfl) (by first | decide | simp) _ (by dsimp only [Tryz.f36, List.length, Nat.reduceAdd, Nat.reduceSub, List.replicate, List.cons_append, List.nil_append]) ?_
 refine at_seq [0] [1] rfl ?_
 refine at_region rfl ?_
 refine at_c 4 rfl rfl rfl (.inr rfl) ?_
 refine at_end rfl ?_
 refine at_seq [1, 0] [1, 1] rfl ?_
 refine at_seq [1, 0, 0] [1, 0, 1] rfl ?_
 refine at_draw mixed rfl [dice s k] rfl ?_
 refine da_m 0 5 rfl rfl rfl (.inl rfl) rfl ?_
 first | (refine da_q 6 rfl rfl rfl rfl (fun s hs => op_nilCheck_ptr rfl) ?_) | (refine da_q 6 rfl rfl rfl rfl (fun s hs => op_nilCheck_ref rfl) ?_)
 first | (refine da_q 7 rfl rfl rfl rfl (fun s hs => op_fieldP rfl ffld1_coverabilityplay_Dice (by decide)) ?_) | (refine da_q 7 rfl rfl rfl rfl (fun s hs => op_fieldR rfl ffld1_coverabilityplay_Dice (by decide) (by decide) rfl) ?_)
 first | (refine da_q 8 rfl rfl rfl rfl (fun s hs => op_loadR1 rfl fone_int rfl) ?_) | (refine da_q 8 rfl rfl rfl rfl (by intro s hs; simp only [List.mem_cons, List.not_mem_nil, or_false] at hs; rcases hs with rfl <;> exact op_loadP1 rfl fone_int rfl rfl) ?_)
 refine da_m 0 9 rfl rfl rfl (.inl rfl) rfl ?_
 first | (refine da_q 10 rfl rfl rfl rfl (fun s hs => op_nilCheck_ptr rfl) ?_) | (refine da_q 10 rfl rfl rfl rfl (fun s hs => op_nilCheck_ref rfl) ?_)
 first | (refine da_q 11 rfl rfl rfl rfl (fun s hs => op_fieldP rfl ffld0_coverabilityplay_Dice (by decide)) ?_) | (refine da_q 11 rfl rfl rfl rfl (fun s hs => op_fieldR rfl ffld0_coverabilityplay_Dice (by decide) (by decide) rfl) ?_)
 first | (refine da_q 12 rfl rfl rfl rfl (fun s hs => op_loadR1 rfl fone_Suint8 rfl) ?_) | (refine da_q 12 rfl rfl rfl rfl (by intro s hs; simp only [List.mem_cons, List.not_mem_nil, or_false] at hs; rcases hs with rfl <;> exact op_loadP1 rfl fone_Suint8 rfl rfl) ?_)
 first | (refine da_q 13 rfl rfl rfl rfl (fun s hs => op_lenL rfl fu_Suint8) ?_) | (refine da_q 13 rfl rfl rfl rfl (fun s hs => opOK_un (op_lenL rfl fu_Suint8)) ?_) | (refine da_q 13 rfl rfl rfl rfl (fun s hs => op_lenA rfl fu_Suint8) ?_)
 refine da_q 14 rfl rfl rfl rfl (fun s hs => op_binI rfl rfl) ?_
 refine da_end rfl ⟨by decide +kernel, _, rfl, ?_⟩
 refine at_cond [1, 0, 1, 0] [1, 0, 1, 1] rfl rfl (fun hc1 => ?_) (fun hc1 => ?_)
 ·skip
  have hge : s.length ≤ k := by simpa using hc1
  have e1 : pkV s k n = 0 := by simp [pkV, hge]
  have e2 : pkAt s k = k := by unfold pkAt; rw [if_neg (by omega)]
  rw [e1, e2]
  refine at_seq [1, 0, 1, 0, 0] [1, 0, 1, 0, 1] rfl ?_
  refine at_region rfl ?_
  refine at_c 4 rfl rfl rfl (.inr rfl) ?_
  refine at_end rfl ?_
  refine at_ret rfl (ret_one1 (t := 4) (os := _) rfl rfl ?_ rfl ?_ rfl)
  all_goals rfl
 ·skip
  have hlt : k < s.length := by simpa using hc1
  obtain ⟨x, hx⟩ := get_ex hlt
  have e1 : pkV s k n = x.tmod n := by simp [pkV, hx]
  have e2 : pkAt s k = k + 1 := by unfold pkAt; rw [if_pos hlt]
  rw [e1, e2]
  have hx2 := hb x (List.mem_of_getElem? hx)
  refine at_skip rfl ?_
  refine at_seq [1, 1, 0] [1, 1, 1] rfl ?_
  refine at_region rfl ?_
  refine at_m 0 15 rfl rfl rfl (.inl rfl) rfl ?_
  first | (refine at_o 16 rfl rfl rfl rfl (op_nilCheck_ptr rfl) ?_) | (refine at_o 16 rfl rfl rfl rfl (op_nilCheck_ref rfl) ?_)
  first | (refine at_o 17 rfl rfl rfl rfl (op_fieldP rfl ffld1_coverabilityplay_Dice (by decide)) ?_) | (refine at_o 17 rfl rfl rfl rfl (op_fieldR rfl ffld1_coverabilityplay_Dice (by decide) (by decide) rfl) ?_)
  first | (refine at_o 18 rfl rfl rfl rfl (op_loadR1 rfl fone_int rfl) ?_) | (refine at_o 18 rfl rfl rfl rfl (op_loadP1 rfl fone_int rfl rfl) ?_)
  refine at_o 19 rfl rfl rfl rfl (op_binI rfl rfl) ?_
  rw [wrap_succ (by omega)]
  first | (refine at_o 20 rfl rfl rfl rfl (op_nilCheck_ptr rfl) ?_) | (refine at_o 20 rfl rfl rfl rfl (op_nilCheck_ref rfl) ?_)
  first | (refine at_o 21 rfl rfl rfl rfl (op_fieldP rfl ffld1_coverabilityplay_Dice (by decide)) ?_) | (refine at_o 21 rfl rfl rfl rfl (op_fieldR rfl ffld1_coverabilityplay_Dice (by decide) (by decide) rfl) ?_)
  refine at_st1 21 (.tmp 19) rfl rfl rfl rfl rfl (ev_tmp rfl) rfl fone_int rfl (by first | decide | simp | (simp; omega)) (by dsimp only [List.set, List.append, List.cons_append, List.nil_append, cellsD, List.map, repl, List.length, Nat.reduceAdd, if_true, ↓reduceIte]; first | done | rfl) ?_
  refine at_end rfl ?_
  refine at_seq [1, 1, 1, 0] [1, 1, 1, 1] rfl ?_
  refine at_draw mixed rfl [⟨[some [dus s, di ↑(k + 1)]], []⟩] rfl ?_
  refine da_m 0 22 rfl rfl rfl (.inl rfl) rfl ?_
  first | (refine da_q 23 rfl rfl rfl rfl (fun s hs => op_nilCheck_ptr rfl) ?_) | (refine da_q 23 rfl rfl rfl rfl (fun s hs => op_nilCheck_ref rfl) ?_)
  first | (refine da_q 24 rfl rfl rfl rfl (fun s hs => op_fieldP rfl ffld0_coverabilityplay_Dice (by decide)) ?_) | (refine da_q 24 rfl rfl rfl rfl (fun s hs => op_fieldR rfl ffld0_coverabilityplay_Dice (by decide) (by decide) rfl) ?_)
  first | (refine da_q 25 rfl rfl rfl rfl (fun s hs => op_loadR1 rfl fone_Suint8 rfl) ?_) | (refine da_q 25 rfl rfl rfl rfl (by intro s hs; simp only [List.mem_cons, List.not_mem_nil, or_false] at hs; rcases hs with rfl <;> exact op_loadP1 rfl fone_Suint8 rfl rfl) ?_)
  refine da_m 0 26 rfl rfl rfl (.inl rfl) rfl ?_
  first | (refine da_q 27 rfl rfl rfl rfl (fun s hs => op_nilCheck_ptr rfl) ?_) | (refine da_q 27 rfl rfl rfl rfl (fun s hs => op_nilCheck_ref rfl) ?_)
  first | (refine da_q 28 rfl rfl rfl rfl (fun s hs => op_fieldP rfl ffld1_coverabilityplay_Dice (by decide)) ?_) | (refine da_q 28 rfl rfl rfl rfl (fun s hs => op_fieldR rfl ffld1_coverabilityplay_Dice (by decide) (by decide) rfl) ?_)
  first | (refine da_q 29 rfl rfl rfl rfl (fun s hs => op_loadR1 rfl fone_int rfl) ?_) | (refine da_q 29 rfl rfl rfl rfl (by intro s hs; simp only [List.mem_cons, List.not_mem_nil, or_false] at hs; rcases hs with rfl <;> exact op_loadP1 rfl fone_int rfl rfl) ?_)
  refine da_q 30 rfl rfl rfl rfl (fun s hs => op_binI rfl rfl) ?_
  rw [show ((k + 1 : Nat) : Int) - 1 = (k : Int) by omega, wrap_id (by omega) (by omega)]
  first | (refine da_q 31 rfl rfl rfl rfl (fun s hs => op_idxL rfl fsl_Suint8 (by first | decide | omega) (by first | assumption | exact idx_some (by assumption) | rfl) (by first | rfl | (simp [V.size]; done))) ?_) | (refine da_q 31 rfl rfl rfl rfl (fun s hs => opOK_un (op_idxL rfl fsl_Suint8 (by first | decide | omega) (by first | assumption | exact idx_some (by assumption) | rfl) (by first | rfl | (simp [V.size]; done)))) ?_) | (refine da_q 31 rfl rfl rfl rfl (fun s hs => op_idxA rfl fsl_Suint8 (by first | decide | omega) (by first | decide | omega)) ?_)
  first | (refine da_q 32 rfl rfl rfl rfl (fun s hs => op_loadR1 rfl fone_uint8 rfl) ?_) | (refine da_q 32 rfl rfl rfl rfl (by intro s hs; simp only [List.mem_cons, List.not_mem_nil, or_false] at hs; rcases hs with rfl <;> exact op_loadP1 rfl fone_uint8 rfl rfl) ?_)
  refine da_q 33 rfl rfl rfl rfl (fun s hs => op_convI rfl fu_uint8 fu_int) ?_
  rw [wrap_id (by omega) (by omega)]
  refine da_m 1 34 rfl rfl rfl (.inl rfl) rfl ?_
  refine da_q 35 rfl rfl rfl rfl (fun s hs => op_quoI rfl rfl (by first | decide | omega | assumption)) ?_
  refine da_m 35 4 rfl rfl rfl (.inr rfl) rfl ?_
  refine da_end rfl ⟨by decide +kernel, _, rfl, ?_⟩
  refine at_ret rfl (ret_one1 (t := 4) (os := _) rfl rfl ?_ rfl ?_ rfl)
  all_goals rfl
end Go.Proofs.YtmdipbhjhkckjaaGreat

namespace Go.Proofs.YtmdipbhjhkckjaaGreat
open Go.Dv
end Go.Proofs.YtmdipbhjhkckjaaGreat

namespace Go.Proofs.YtmdipbhjhkckjaaGreat
open Go.Dv
abbrev vn (i : Nat) : V := .int .i64 (i : Int)
abbrev vns (l : List Nat) : List V := l.map vn
abbrev vb (b : Bool) : V := .bool b
abbrev dbl (l : List Bool) : List D := l.map fun b => .v (.bool b)
structure GOK (n : Nat) (G : List (List Arc)) : Prop where
 pos : 1 ≤ n
 le : n ≤ 100
 len : G.length = n
 row : ∀ r ∈ G, r.length ≤ 100 ∧ ∀ a ∈ r, 0 ≤ a.2 ∧ a.2 < n
def stepM : List Arc → List Bool → List Nat → List Bool × List Nat
 | [], out, todo => (out, todo)
 | a :: r, out, todo => if out[a.2.toNat]? = some false then stepM r (out.set a.2.toNat true) (todo ++ [a.2.toNat]) else stepM r out todo
def bfsM (G : List (List Arc)) : Nat → List Bool → List Nat → List Bool
 | 0, out, _ => out
 | _ + 1, out, [] => out
 | f + 1, out, x :: todo => bfsM G f (stepM (G.getD x []) out todo).1 (stepM (G.getD x []) out todo).2
def reachM (G : List (List Arc)) (n x : Nat) : List Bool := bfsM G (n + 1) ((List.replicate n false).set x true) [x]
theorem stepM_length : ∀ (r : List Arc) (out : List Bool) (todo : List Nat), (stepM r out todo).1.length = out.length
 | [], _, _ => rfl
 | a :: r, out, todo => by unfold stepM; split <;> simp [stepM_length r]
theorem stepM_lt {n : Nat} : ∀ (r : List Arc) (out : List Bool) (todo : List Nat), (∀ a ∈ r, 0 ≤ a.2 ∧ a.2 < n) → (∀ x ∈ todo, x < n) → ∀ x ∈ (stepM r out todo).2, x < n
 | [], _, _, _, h => h
 | a :: r, out, todo, hr, h => by
  unfold stepM
  have ha := hr a (by simp)
  split
  ·exact stepM_lt r _ _ (fun b hb => hr b (by simp [hb])) (fun x hx => by
    rcases List.mem_append.1 hx with h1 | h1
    ·exact h x h1
    ·simp at h1; omega)
  ·exact stepM_lt r _ _ (fun b hb => hr b (by simp [hb])) h
theorem stepM_count : ∀ (r : List Arc) (out : List Bool) (todo : List Nat), (stepM r out todo).2.length + (stepM r out todo).1.count false = todo.length + out.count false
 | [], _, _ => rfl
 | a :: r, out, todo => by
  unfold stepM
  split
  ·rename_i h
   rw [stepM_count r]
   obtain ⟨h1, h2⟩ := List.getElem?_eq_some_iff.1 h
   have := List.count_set (a := true) (b := false) h1
   have hp : 0 < out.count false := List.count_pos_iff.2 (h2 ▸ List.getElem_mem h1)
   rw [this, h2]; simp; omega
  ·exact stepM_count r out todo
theorem count_set {out : List Bool} {x : Nat} (h : out[x]? = some false) : (out.set x true).count false + 1 = out.count false := by
 obtain ⟨h1, h2⟩ := List.getElem?_eq_some_iff.1 h
 have := List.count_set (a := true) (b := false) h1
 have hp : 0 < out.count false := List.count_pos_iff.2 (h2 ▸ List.getElem_mem h1)
 rw [this, h2]; simp; omega
theorem noTag_bools {l : List Bool} {k i : Nat} {cs : List D} (h : [some (dbl l)][i]? = some (some cs)) : ∀ d ∈ cs, d.noTag k = true := by
 match i, h with
 | 0, h => simp at h; subst h; intro d hd; simp at hd; rcases hd with ⟨_, rfl⟩ | ⟨_, rfl⟩ <;> rfl
 | i + 1, h => simp at h
theorem dbl_get {l : List Bool} {x : Nat} {b : Bool} (h : l[x]? = some b) : (dbl l)[x]? = some (.v (.bool b)) := by simp [h]
theorem dbl_set (l : List Bool) (x : Nat) (b : Bool) : (dbl l).set x (.v (.bool b)) = dbl (l.set x b) := by simp [List.map_set]
theorem lend_bools {L : Nat → Option (List D)} {q n : Nat} {out : List Bool} (hL : L q = some (dbl out)) (hn : n = out.length) : lends L 1 (.arr q 0 n) (.list (out.map vb)) := by
 subst hn
 refine .inr (.inr ⟨q, 0, 1, dbl out, out.map vb, .inl (by simp), rfl, by decide, fun y hy => (by obtain ⟨b, _, rfl⟩ := List.mem_map.1 hy; rfl), hL, fun j y hj => ?_⟩)
 have hf : (out.map vb).flatMap V.cellsV = out.map vb := by
  clear hj hL
  induction out with
  | nil => rfl
  | cons l to ih => simp only [List.map_cons, List.flatMap_cons, V.cellsV, ih]; rfl
 rw [hf] at hj
 have hj2 := hj
 rw [List.getElem?_map] at hj
 cases hl : out[j]? with
 | none => simp [hl] at hj
 | some l =>
  simp only [hl, Option.map_some, Option.some.injEq] at hj
  subst hj
  exact ⟨rfl, .v (vb l), by simp [hl], _, .same, rfl⟩
theorem stepM_get {G : List (List Arc)} {x : Nat} {r : List Arc} (h : G[x]? = some r) : G.getD x [] = r := by simp [List.getD_eq_getElem?_getD, h]
theorem bools_zero (n : Nat) : List.replicate n (D.v (.bool false)) = dbl (List.replicate n false) := by simp
end Go.Proofs.YtmdipbhjhkckjaaGreat

namespace Go.Proofs.YtmdipbhjhkckjaaGreat
open Go.Dv
def idxQ {α : Type} (p : α → Bool) (xs : List α) (i : Nat) : Int := match xs with
 | [] => -1
 | x :: xs => if p x then i else idxQ p xs (i + 1)
theorem idxQ_at {α : Type} {p : α → Bool} {xs : List α} {i : Nat} {x : α} (h : xs[i]? = some x) : idxQ p (xs.drop i) i = if p x then (i : Int) else idxQ p (xs.drop (i + 1)) (i + 1) := by
 obtain ⟨h1, h2⟩ := List.getElem?_eq_some_iff.1 h
 rw [List.drop_eq_getElem_cons h1, h2]; rfl
theorem idxQ_end {α : Type} {p : α → Bool} {xs : List α} {i : Nat} (h : xs.length ≤ i) : idxQ p (xs.drop i) i = -1 := by rw [List.drop_of_length_le h]; rfl
theorem idxQ_any {α : Type} {p : α → Bool} : ∀ (xs : List α) (i : Nat), decide (0 ≤ idxQ p xs i) = xs.any p
 | [], i => by simp [idxQ]
 | x :: xs, i => by
  simp only [idxQ, List.any_cons]
  by_cases hx : p x = true
  ·simp [hx]
  ·simp only [hx]; simpa using idxQ_any xs (i + 1)
theorem range_at {n j : Nat} (h : j < n) : (List.range n).drop j = j :: (List.range n).drop (j + 1) := by
 rw [List.drop_eq_getElem_cons (by simpa using h)]; simp
theorem range_end {n j : Nat} (h : n ≤ j) : (List.range n).drop j = [] := List.drop_of_length_le (by simpa using h)
abbrev vbs (l : List Bool) : V := .list (l.map vb)
noncomputable def cIdxFA : Code := Tryz.f61.body.getD .skip
set_option maxRecDepth 20000 in
theorem indexFA_loop (fo : FuncId) (fs cs : List V) (xs : List Arc) (p : Arc → Bool) (hf : ∀ x ∈ xs, FSpec PP fo (fs.map .v ++ [.v (vArc x)] ++ cs.map .v) σ0 (db (p x)) σ0) (hs : xs.length ≤ 1000000) (m : Nat) : ∀ i : Nat, xs.length - i = m → idxQ p xs 0 = idxQ p (xs.drop i) i → Run PP (fun env σ1 => ResOK PP Tryz.f61 env σ1 (di (idxQ p xs 0)) σ0) [.lp (sub cIdxFA [1, 0, 1, 0, 0]), .blk 0, .code (sub cIdxFA [1, 1])] ((.v (vArcs xs)) :: (.v (.fn fo fs cs)) :: .undef :: .undef :: .undef :: .undef :: (.v (vArcs xs)) :: (di ↑xs.length) :: (di ↑i) :: .undef :: .undef :: .undef :: .undef :: .undef :: .undef :: .undef :: .undef :: .undef :: .undef :: []) σ0 := by
 induction m using Nat.strongRecOn with
 | _ m ih =>
  intro i hm hb
  refine run_lp ?_
  refine at_seq [1, 0, 1, 0, 0, 0] [1, 0, 1, 0, 0, 1] rfl ?_
  refine at_region rfl ?_
  refine at_o 9 rfl rfl rfl rfl (op_binI rfl rfl) ?_
  refine at_end rfl ?_
  refine at_seq [1, 0, 1, 0, 0, 1, 0] [1, 0, 1, 0, 0, 1, 1] rfl ?_
  refine at_cond [1, 0, 1, 0, 0, 1, 0, 0] [1, 0, 1, 0, 0, 1, 0, 1] rfl rfl (fun hc1 => ?_) (fun hc1 => ?_)
  ·skip
   have hlt : i < xs.length := by simpa using hc1
   obtain ⟨x, hx⟩ := get_ex hlt
   rw [idxQ_at hx] at hb
   have hx2 := idx_some (f := vArc) hx
   refine at_skip rfl ?_
   refine at_seq [1, 0, 1, 0, 0, 1, 1, 0] [1, 0, 1, 0, 0, 1, 1, 1] rfl ?_
   refine at_block [1, 0, 1, 0, 0, 1, 1, 0, 0] 1 rfl ?_
   refine at_seq [1, 0, 1, 0, 0, 1, 1, 0, 0, 0] [1, 0, 1, 0, 0, 1, 1, 0, 0, 1] rfl ?_
   refine at_region rfl ?_
   refine at_m 8 10 rfl rfl rfl (.inl rfl) rfl ?_
   refine at_m 10 5 rfl rfl rfl (.inr rfl) rfl ?_
   refine at_end rfl ?_
   refine at_seq [1, 0, 1, 0, 0, 1, 1, 0, 0, 1, 0] [1, 0, 1, 0, 0, 1, 1, 0, 0, 1, 1] rfl ?_
   refine at_region rfl ?_
   refine at_m 1 11 rfl rfl rfl (.inl rfl) rfl ?_
   refine at_m 0 12 rfl rfl rfl (.inl rfl) rfl ?_
   refine at_m 5 13 rfl rfl rfl (.inl rfl) rfl ?_
   first | (refine at_o 14 rfl rfl rfl rfl (op_idxL rfl fsl_Sapi_Arc (by first | decide | omega) (by first | assumption | exact idx_some (by assumption) | rfl) (by first | rfl | (simp [V.size]; done))) ?_) | (refine at_o 14 rfl rfl rfl rfl (opOK_un (op_idxL rfl fsl_Sapi_Arc (by first | decide | omega) (by first | assumption | exact idx_some (by assumption) | rfl) (by first | rfl | (simp [V.size]; done)))) ?_) | (refine at_o 14 rfl rfl rfl rfl (op_idxA rfl fsl_Sapi_Arc (by first | decide | omega) (by first | decide | omega)) ?_)
   first | (refine at_o 15 rfl rfl rfl rfl (op_loadRA rfl fagg_api_Arc) ?_) | (refine at_o 15 rfl rfl rfl rfl (op_loadPA rfl fagg_api_Arc rfl (by first | decide | simp) rfl) ?_)
   refine at_o 16 rfl rfl rfl rfl (op_call0 rfl rfl rfl rfl (hf x (List.mem_of_getElem? hx))) ?_
   refine at_end rfl ?_
   refine at_cond [1, 0, 1, 0, 0, 1, 1, 0, 0, 1, 1, 0] [1, 0, 1, 0, 0, 1, 1, 0, 0, 1, 1, 1] rfl rfl (fun hc2 => ?_) (fun hc2 => ?_)
   ·skip
    refine at_seq [1, 0, 1, 0, 0, 1, 1, 0, 0, 1, 1, 0, 0] [1, 0, 1, 0, 0, 1, 1, 0, 0, 1, 1, 0, 1] rfl ?_
    refine at_region rfl ?_
    refine at_m 5 17 rfl rfl rfl (.inl rfl) rfl ?_
    refine at_m 17 4 rfl rfl rfl (.inr rfl) rfl ?_
    refine at_end rfl ?_
    refine at_ret rfl (ret_one (t := 4) rfl rfl ?_ rfl)
    first | (rw [hb]; done) | (simp_all; done)
   ·skip
    refine at_skip rfl ?_
    refine run_blk ?_
    refine at_region rfl ?_
    refine at_o 18 rfl rfl rfl rfl (op_binI rfl rfl) ?_
    refine at_m 18 8 rfl rfl rfl (.inl rfl) rfl ?_
    refine at_end rfl ?_
    rw [wrap_succ (by omega)]
    exact run_wk (.keep (.keep (.d4 (.keep (.keep (.keep (.d4 (.d4 (.drop (.drop .nil)))))))))) (ih _ (by omega) (i + 1) rfl (by simp_all))
  ·skip
   have hge : xs.length ≤ i := by simpa using hc1
   rw [idxQ_end hge] at hb
   refine at_exit rfl rfl ?_
   refine at_seq [1, 1, 0] [1, 1, 1] rfl ?_
   refine at_region rfl ?_
   refine at_c 4 rfl rfl rfl (.inr rfl) ?_
   refine at_end rfl ?_
   refine at_ret rfl (ret_one (t := 4) rfl rfl ?_ rfl)
   first | (rw [hb]; done) | (simp_all; done)
set_option maxRecDepth 20000 in
theorem indexFA_spec (fo : FuncId) (fs cs : List V) (xs : List Arc) (p : Arc → Bool) (hf : ∀ x ∈ xs, FSpec PP fo (fs.map .v ++ [.v (vArc x)] ++ cs.map .v) σ0 (db (p x)) σ0) (hs : xs.length ≤ 1000000) : FSpec PP 61 [.v (vArcs xs), .v (.fn fo fs cs)] σ0 (di (idxQ p xs 0)) σ0 := by
 refine spec_at cIdxFA Tryz.func61 rfl (by kernel_rfl) (by first | decide | simp) _ (by dsimp only [Tryz.f61, List.length, Nat.reduceAdd, Nat.reduceSub, List.replicate, List.cons_append, List.nil_append]) ?_
 refine at_seq [0] [1] rfl ?_
 refine at_region rfl ?_
 refine at_c 4 rfl rfl rfl (.inr rfl) ?_
 refine at_end rfl ?_
 refine at_seq [1, 0] [1, 1] rfl ?_
 refine at_seq [1, 0, 0] [1, 0, 1] rfl ?_
 refine at_region rfl ?_
 refine at_m 0 6 rfl rfl rfl (.inl rfl) rfl ?_
 first | (refine at_o 7 rfl rfl rfl rfl (op_lenL rfl fu_Sapi_Arc) ?_) | (refine at_o 7 rfl rfl rfl rfl (opOK_un (op_lenL rfl fu_Sapi_Arc)) ?_) | (refine at_o 7 rfl rfl rfl rfl (op_lenA rfl fu_Sapi_Arc) ?_)
 refine at_c 8 rfl rfl rfl (.inl rfl) ?_
 refine at_end rfl ?_
 refine at_block [1, 0, 1, 0] 0 rfl ?_
 refine at_loop [1, 0, 1, 0, 0] rfl ?_
 try simp only [List.length_map]
 exact run_wk (.keep (.keep (.d4 (.keep (.keep (.keep (.d4 (.d4 (.drop (.drop .nil)))))))))) (indexFA_loop fo fs cs xs p hf hs _ 0 rfl (by simp))
noncomputable def cCntFA : Code := Tryz.f30.body.getD .skip
set_option maxRecDepth 20000 in
theorem containsFA_spec (fo : FuncId) (fs cs : List V) (xs : List Arc) (p : Arc → Bool) (hf : ∀ x ∈ xs, FSpec PP fo (fs.map .v ++ [.v (vArc x)] ++ cs.map .v) σ0 (db (p x)) σ0) (hs : xs.length ≤ 1000000) : FSpec PP 30 [.v (vArcs xs), .v (.fn fo fs cs)] σ0 (db (xs.any p)) σ0 := by
 refine spec_at cCntFA Tryz.func30 rfl (by kernel_rfl) (by first | decide | simp) _ (by dsimp only [Tryz.f30, List.length, Nat.reduceAdd, Nat.reduceSub, List.replicate, List.cons_append, List.nil_append]) ?_
 refine at_seq [0] [1] rfl ?_
 refine at_region rfl ?_
 refine at_c 4 rfl rfl rfl (.inr rfl) ?_
 refine at_end rfl ?_
 refine at_seq [1, 0] [1, 1] rfl ?_
 refine at_region rfl ?_
 refine at_m 0 5 rfl rfl rfl (.inl rfl) rfl ?_
 refine at_m 1 6 rfl rfl rfl (.inl rfl) rfl ?_
 refine at_o 7 rfl rfl rfl rfl (op_call0 rfl rfl rfl rfl (indexFA_spec fo fs cs xs p hf hs)) ?_
 refine at_o 8 rfl rfl rfl rfl (op_binI rfl rfl) ?_
 refine at_m 8 4 rfl rfl rfl (.inr rfl) rfl ?_
 refine at_end rfl ?_
 refine at_ret rfl (ret_one (t := 4) rfl rfl ?_ rfl)
 rw [← idxQ_any xs 0]
noncomputable def cIdxFI : Code := Tryz.f115.body.getD .skip
set_option maxRecDepth 20000 in
theorem indexFI_loop (fo : FuncId) (fs cs : List V) (xs : List Int) (p : Int → Bool) (hf : ∀ x ∈ xs, FSpec PP fo (fs.map .v ++ [di x] ++ cs.map .v) σ0 (db (p x)) σ0) (hs : xs.length ≤ 1000000) (m : Nat) : ∀ i : Nat, xs.length - i = m → idxQ p xs 0 = idxQ p (xs.drop i) i → Run PP (fun env σ1 => ResOK PP Tryz.f115 env σ1 (di (idxQ p xs 0)) σ0) [.lp (sub cIdxFI [1, 0, 1, 0, 0]), .blk 0, .code (sub cIdxFI [1, 1])] ((dl xs) :: (.v (.fn fo fs cs)) :: .undef :: .undef :: .undef :: .undef :: (dl xs) :: (di ↑xs.length) :: (di ↑i) :: .undef :: .undef :: .undef :: .undef :: .undef :: .undef :: .undef :: .undef :: .undef :: .undef :: []) σ0 := by
 induction m using Nat.strongRecOn with
 | _ m ih =>
  intro i hm hb
  refine run_lp ?_
  refine at_seq [1, 0, 1, 0, 0, 0] [1, 0, 1, 0, 0, 1] rfl ?_
  refine at_region rfl ?_
  refine at_o 9 rfl rfl rfl rfl (op_binI rfl rfl) ?_
  refine at_end rfl ?_
  refine at_seq [1, 0, 1, 0, 0, 1, 0] [1, 0, 1, 0, 0, 1, 1] rfl ?_
  refine at_cond [1, 0, 1, 0, 0, 1, 0, 0] [1, 0, 1, 0, 0, 1, 0, 1] rfl rfl (fun hc1 => ?_) (fun hc1 => ?_)
  ·skip
   have hlt : i < xs.length := by simpa using hc1
   obtain ⟨x, hx⟩ := get_ex hlt
   rw [idxQ_at hx] at hb
   have hx2 := idx_some (f := vi) hx
   refine at_skip rfl ?_
   refine at_seq [1, 0, 1, 0, 0, 1, 1, 0] [1, 0, 1, 0, 0, 1, 1, 1] rfl ?_
   refine at_block [1, 0, 1, 0, 0, 1, 1, 0, 0] 1 rfl ?_
   refine at_seq [1, 0, 1, 0, 0, 1, 1, 0, 0, 0] [1, 0, 1, 0, 0, 1, 1, 0, 0, 1] rfl ?_
   refine at_region rfl ?_
   refine at_m 8 10 rfl rfl rfl (.inl rfl) rfl ?_
   refine at_m 10 5 rfl rfl rfl (.inr rfl) rfl ?_
   refine at_end rfl ?_
   refine at_seq [1, 0, 1, 0, 0, 1, 1, 0, 0, 1, 0] [1, 0, 1, 0, 0, 1, 1, 0, 0, 1, 1] rfl ?_
   refine at_region rfl ?_
   refine at_m 1 11 rfl rfl rfl (.inl rfl) rfl ?_
   refine at_m 0 12 rfl rfl rfl (.inl rfl) rfl ?_
   refine at_m 5 13 rfl rfl rfl (.inl rfl) rfl ?_
   first | (refine at_o 14 rfl rfl rfl rfl (op_idxL rfl fsl_Sint (by first | decide | omega) (by first | assumption | exact idx_some (by assumption) | rfl) (by first | rfl | (simp [V.size]; done))) ?_) | (refine at_o 14 rfl rfl rfl rfl (opOK_un (op_idxL rfl fsl_Sint (by first | decide | omega) (by first | assumption | exact idx_some (by assumption) | rfl) (by first | rfl | (simp [V.size]; done)))) ?_) | (refine at_o 14 rfl rfl rfl rfl (op_idxA rfl fsl_Sint (by first | decide | omega) (by first | decide | omega)) ?_)
   first | (refine at_o 15 rfl rfl rfl rfl (op_loadR1 rfl fone_int rfl) ?_) | (refine at_o 15 rfl rfl rfl rfl (op_loadP1 rfl fone_int rfl rfl) ?_)
   refine at_o 16 rfl rfl rfl rfl (op_call0 rfl rfl rfl rfl (hf x (List.mem_of_getElem? hx))) ?_
   refine at_end rfl ?_
   refine at_cond [1, 0, 1, 0, 0, 1, 1, 0, 0, 1, 1, 0] [1, 0, 1, 0, 0, 1, 1, 0, 0, 1, 1, 1] rfl rfl (fun hc2 => ?_) (fun hc2 => ?_)
   ·skip
    refine at_seq [1, 0, 1, 0, 0, 1, 1, 0, 0, 1, 1, 0, 0] [1, 0, 1, 0, 0, 1, 1, 0, 0, 1, 1, 0, 1] rfl ?_
    refine at_region rfl ?_
    refine at_m 5 17 rfl rfl rfl (.inl rfl) rfl ?_
    refine at_m 17 4 rfl rfl rfl (.inr rfl) rfl ?_
    refine at_end rfl ?_
    refine at_ret rfl (ret_one (t := 4) rfl rfl ?_ rfl)
    first | (rw [hb]; done) | (simp_all; done)
   ·skip
    refine at_skip rfl ?_
    refine run_blk ?_
    refine at_region rfl ?_
    refine at_o 18 rfl rfl rfl rfl (op_binI rfl rfl) ?_
    refine at_m 18 8 rfl rfl rfl (.inl rfl) rfl ?_
    refine at_end rfl ?_
    rw [wrap_succ (by omega)]
    exact run_wk (.keep (.keep (.d4 (.keep (.keep (.keep (.d4 (.d4 (.drop (.drop .nil)))))))))) (ih _ (by omega) (i + 1) rfl (by simp_all))
  ·skip
   have hge : xs.length ≤ i := by simpa using hc1
   rw [idxQ_end hge] at hb
   refine at_exit rfl rfl ?_
   refine at_seq [1, 1, 0] [1, 1, 1] rfl ?_
   refine at_region rfl ?_
   refine at_c 4 rfl rfl rfl (.inr rfl) ?_
   refine at_end rfl ?_
   refine at_ret rfl (ret_one (t := 4) rfl rfl ?_ rfl)
   first | (rw [hb]; done) | (simp_all; done)
set_option maxRecDepth 20000 in
theorem indexFI_spec (fo : FuncId) (fs cs : List V) (xs : List Int) (p : Int → Bool) (hf : ∀ x ∈ xs, FSpec PP fo (fs.map .v ++ [di x] ++ cs.map .v) σ0 (db (p x)) σ0) (hs : xs.length ≤ 1000000) : FSpec PP 115 [dl xs, .v (.fn fo fs cs)] σ0 (di (idxQ p xs 0)) σ0 := by
 refine spec_at cIdxFI Tryz.func115 rfl (by kernel_rfl) (by first | decide | simp) _ (by dsimp only [Tryz.f115, List.length, Nat.reduceAdd, Nat.reduceSub, List.replicate, List.cons_append, List.nil_append]) ?_
 refine at_seq [0] [1] rfl ?_
 refine at_region rfl ?_
 refine at_c 4 rfl rfl rfl (.inr rfl) ?_
 refine at_end rfl ?_
 refine at_seq [1, 0] [1, 1] rfl ?_
 refine at_seq [1, 0, 0] [1, 0, 1] rfl ?_
 refine at_region rfl ?_
 refine at_m 0 6 rfl rfl rfl (.inl rfl) rfl ?_
 first | (refine at_o 7 rfl rfl rfl rfl (op_lenL rfl fu_Sint) ?_) | (refine at_o 7 rfl rfl rfl rfl (opOK_un (op_lenL rfl fu_Sint)) ?_) | (refine at_o 7 rfl rfl rfl rfl (op_lenA rfl fu_Sint) ?_)
 refine at_c 8 rfl rfl rfl (.inl rfl) ?_
 refine at_end rfl ?_
 refine at_block [1, 0, 1, 0] 0 rfl ?_
 refine at_loop [1, 0, 1, 0, 0] rfl ?_
 try simp only [List.length_map]
 exact run_wk (.keep (.keep (.d4 (.keep (.keep (.keep (.d4 (.d4 (.drop (.drop .nil)))))))))) (indexFI_loop fo fs cs xs p hf hs _ 0 rfl (by simp))
noncomputable def cCntFI : Code := Tryz.f71.body.getD .skip
set_option maxRecDepth 20000 in
theorem containsFI_spec (fo : FuncId) (fs cs : List V) (xs : List Int) (p : Int → Bool) (hf : ∀ x ∈ xs, FSpec PP fo (fs.map .v ++ [di x] ++ cs.map .v) σ0 (db (p x)) σ0) (hs : xs.length ≤ 1000000) : FSpec PP 71 [dl xs, .v (.fn fo fs cs)] σ0 (db (xs.any p)) σ0 := by
 refine spec_at cCntFI Tryz.func71 rfl (by kernel_rfl) (by first | decide | simp) _ (by dsimp only [Tryz.f71, List.length, Nat.reduceAdd, Nat.reduceSub, List.replicate, List.cons_append, List.nil_append]) ?_
 refine at_seq [0] [1] rfl ?_
 refine at_region rfl ?_
 refine at_c 4 rfl rfl rfl (.inr rfl) ?_
 refine at_end rfl ?_
 refine at_seq [1, 0] [1, 1] rfl ?_
 refine at_region rfl ?_
 refine at_m 0 5 rfl rfl rfl (.inl rfl) rfl ?_
 refine at_m 1 6 rfl rfl rfl (.inl rfl) rfl ?_
 refine at_o 7 rfl rfl rfl rfl (op_call0 rfl rfl rfl rfl (indexFI_spec fo fs cs xs p hf hs)) ?_
 refine at_o 8 rfl rfl rfl rfl (op_binI rfl rfl) ?_
 refine at_m 8 4 rfl rfl rfl (.inr rfl) rfl ?_
 refine at_end rfl ?_
 refine at_ret rfl (ret_one (t := 4) rfl rfl ?_ rfl)
 rw [← idxQ_any xs 0]
noncomputable def cNumbers : Code := Tryz.f39.body.getD .skip
set_option maxRecDepth 20000 in
theorem numbers_loop (fo : FuncId) (fs cs : List V) (n : Nat) (hn : n ≤ 1000) (p : Nat → Bool) (hf : ∀ i, i < n → FSpec PP fo (fs.map .v ++ [di ↑i] ++ cs.map .v) σ0 (db (p i)) σ0) (T : List Nat) (m : Nat) : ∀ (i : Nat) (acc : List Nat), n - i = m → acc.length ≤ i → T = acc ++ ((List.range n).drop i).filter p → Run PP (fun env σ1 => ResOK PP Tryz.f39 env σ1 (.v (.list (vns T))) σ0) [.lp (sub cNumbers [1, 1, 0, 1, 0, 0]), .blk 0, .code (sub cNumbers [1, 1, 1])] (.undef :: (.v (.fn fo fs cs)) :: .undef :: .undef :: .undef :: (.acc 1 (vns acc)) :: .undef :: (di ↑n) :: (di ↑i) :: .undef :: .undef :: .undef :: .undef :: .undef :: .undef :: .undef :: .undef :: .undef :: .undef :: .undef :: []) ⟨[], [(1, 1, vns acc)]⟩ := by
 induction m using Nat.strongRecOn with
 | _ m ih =>
  intro i acc hm hal hT
  refine run_lp ?_
  refine at_seq [1, 1, 0, 1, 0, 0, 0] [1, 1, 0, 1, 0, 0, 1] rfl ?_
  refine at_region rfl ?_
  refine at_o 9 rfl rfl rfl rfl (op_binI rfl rfl) ?_
  refine at_end rfl ?_
  refine at_seq [1, 1, 0, 1, 0, 0, 1, 0] [1, 1, 0, 1, 0, 0, 1, 1] rfl ?_
  refine at_cond [1, 1, 0, 1, 0, 0, 1, 0, 0] [1, 1, 0, 1, 0, 0, 1, 0, 1] rfl rfl (fun hc1 => ?_) (fun hc1 => ?_)
  ·skip
   have hlt : i < n := by simp at hc1; omega
   rw [range_at hlt, List.filter_cons] at hT
   refine at_skip rfl ?_
   refine at_seq [1, 1, 0, 1, 0, 0, 1, 1, 0] [1, 1, 0, 1, 0, 0, 1, 1, 1] rfl ?_
   refine at_block [1, 1, 0, 1, 0, 0, 1, 1, 0, 0] 1 rfl ?_
   refine at_seq [1, 1, 0, 1, 0, 0, 1, 1, 0, 0, 0] [1, 1, 0, 1, 0, 0, 1, 1, 0, 0, 1] rfl ?_
   refine at_region rfl ?_
   refine at_m 8 10 rfl rfl rfl (.inl rfl) rfl ?_
   refine at_m 10 6 rfl rfl rfl (.inr rfl) rfl ?_
   refine at_end rfl ?_
   refine at_seq [1, 1, 0, 1, 0, 0, 1, 1, 0, 0, 1, 0] [1, 1, 0, 1, 0, 0, 1, 1, 0, 0, 1, 1] rfl ?_
   refine at_region rfl ?_
   refine at_m 1 11 rfl rfl rfl (.inl rfl) rfl ?_
   refine at_m 6 12 rfl rfl rfl (.inl rfl) rfl ?_
   refine at_o 13 rfl rfl rfl rfl (op_call0 rfl rfl rfl rfl (hf i hlt)) ?_
   refine at_end rfl ?_
   refine at_cond [1, 1, 0, 1, 0, 0, 1, 1, 0, 0, 1, 1, 0] [1, 1, 0, 1, 0, 0, 1, 1, 0, 0, 1, 1, 1] rfl rfl (fun hc2 => ?_) (fun hc2 => ?_)
   ·skip
    rw [if_pos hc2] at hT
    refine at_region rfl ?_
    refine at_m 5 14 rfl rfl rfl (.inl rfl) rfl ?_
    refine at_m 6 15 rfl rfl rfl (.inl rfl) rfl ?_
    refine at_o 16 rfl rfl rfl rfl (op_buildSlice rfl (by rfl) (by rfl) fsl_Sint rfl rfl (by simp [V.size]) (by decide) (by decide) (by decide)) ?_
    refine at_opS (some 17) rfl rfl rfl rfl (op_append rfl fsl_Sint rfl (by simp) (by simp [V.size]) (by simp; omega) (by simp; omega)) (by dsimp only [putD, List.set]) (by dsimp only [List.set, List.append, List.cons_append, List.nil_append, cellsD, List.map, repl, List.length, Nat.reduceAdd, if_true, ↓reduceIte]; first | done | rfl) ?_
    refine at_m 17 5 rfl rfl rfl (.inr rfl) rfl ?_
    refine at_end rfl ?_
    rw [show (vns acc ++ [.int .i64 ↑i]) = vns (acc ++ [i]) by simp]
    refine run_blk ?_
    refine at_region rfl ?_
    refine at_o 18 rfl rfl rfl rfl (op_binI rfl rfl) ?_
    rw [wrap_succ (by omega)]
    refine at_m 18 8 rfl rfl rfl (.inl rfl) rfl ?_
    refine at_end rfl ?_
    first | exact run_wk (.drop (.keep (.drop (.drop (.drop (.keep (.drop (.keep (.keep (.d4 (.d4 (.drop (.drop (.drop .nil)))))))))))))) (ih _ (by omega) (i + 1) (acc ++ [i]) rfl (by simp; omega) (by rw [hT]; simp)) | exact run_wk (.drop (.keep (.drop (.drop (.drop (.keep (.drop (.keep (.keep (.d4 (.d4 (.drop (.drop (.drop .nil)))))))))))))) (ih _ (by omega) (i + 1) acc rfl (by omega) hT)
   ·skip
    rw [if_neg (by rw [hc2]; simp)] at hT
    refine at_skip rfl ?_
    refine run_blk ?_
    refine at_region rfl ?_
    refine at_o 18 rfl rfl rfl rfl (op_binI rfl rfl) ?_
    rw [wrap_succ (by omega)]
    refine at_m 18 8 rfl rfl rfl (.inl rfl) rfl ?_
    refine at_end rfl ?_
    first | exact run_wk (.drop (.keep (.drop (.drop (.drop (.keep (.drop (.keep (.keep (.d4 (.d4 (.drop (.drop (.drop .nil)))))))))))))) (ih _ (by omega) (i + 1) (acc ++ [i]) rfl (by simp; omega) (by rw [hT]; simp)) | exact run_wk (.drop (.keep (.drop (.drop (.drop (.keep (.drop (.keep (.keep (.d4 (.d4 (.drop (.drop (.drop .nil)))))))))))))) (ih _ (by omega) (i + 1) acc rfl (by omega) hT)
  ·skip
   have hge : n ≤ i := by simp at hc1; omega
   rw [range_end hge, List.filter_nil, List.append_nil] at hT
   refine at_exit rfl rfl ?_
   refine at_seq [1, 1, 1, 0] [1, 1, 1, 1] rfl ?_
   refine at_region rfl ?_
   refine at_m 5 19 rfl rfl rfl (.inl rfl) rfl ?_
   refine at_m 19 4 rfl rfl rfl (.inr rfl) rfl ?_
   refine at_end rfl ?_
   exact at_ret rfl (ret_un rfl rfl (by rw [hT]))
set_option maxRecDepth 20000 in
theorem numbers_spec (fo : FuncId) (fs cs : List V) (n : Nat) (hn : n ≤ 1000) (p : Nat → Bool) (hf : ∀ i, i < n → FSpec PP fo (fs.map .v ++ [di ↑i] ++ cs.map .v) σ0 (db (p i)) σ0) : FSpec PP 39 [di ↑n, .v (.fn fo fs cs)] σ0 (.v (.list (vns ((List.range n).filter p)))) σ0 := by
 refine spec_at cNumbers Tryz.func39 rfl (by kernel_rfl) (by first | decide | simp) _ (by dsimp only [Tryz.f39, List.length, Nat.reduceAdd, Nat.reduceSub, List.replicate, List.cons_append, List.nil_append]) ?_
 refine at_seq [0] [1] rfl ?_
 refine at_region rfl ?_
 refine at_c 4 rfl rfl rfl (.inr rfl) ?_
 refine at_end rfl ?_
 refine at_seq [1, 0] [1, 1] rfl ?_
 refine at_region rfl ?_
 refine at_opS (some 5) rfl rfl rfl rfl (op_nilOwn (.inl rfl) 1 1 (by simp) (by decide)) (by dsimp only [putD, List.set]) (by dsimp only [List.set, List.append, List.cons_append, List.nil_append, cellsD, List.map, repl, List.length, Nat.reduceAdd, if_true, ↓reduceIte]; first | done | rfl) ?_
 refine at_end rfl ?_
 refine at_seq [1, 1, 0] [1, 1, 1] rfl ?_
 refine at_seq [1, 1, 0, 0] [1, 1, 0, 1] rfl ?_
 refine at_region rfl ?_
 refine at_m 0 7 rfl rfl rfl (.inl rfl) rfl ?_
 refine at_c 8 rfl rfl rfl (.inl rfl) ?_
 refine at_end rfl ?_
 refine at_block [1, 1, 0, 1, 0] 0 rfl ?_
 refine at_loop [1, 1, 0, 1, 0, 0] rfl ?_
 skip
 exact run_wk (.drop (.keep (.drop (.drop (.drop (.keep (.drop (.keep (.keep (.d4 (.d4 (.drop (.drop (.drop .nil)))))))))))))) (numbers_loop fo fs cs n hn p hf _ _ 0 [] rfl (by simp) (by simp))
end Go.Proofs.YtmdipbhjhkckjaaGreat

namespace Go.Proofs.YtmdipbhjhkckjaaGreat
open Go.Dv
noncomputable def cCheck1 : Code := Tryz.f31.body.getD .skip
set_option maxRecDepth 20000 in
theorem check1_spec (a : Arc) (n : Nat) (h0 : 0 ≤ a.2) (h1 : a.2 < n) : FSpec PP 31 [.v (vArc a), .v (.ref (vi ↑n))] σ0 (db false) σ0 := by
 refine spec_at cCheck1 Tryz.func31 rfl (by kernel_rfl) (by first | decide | simp) _ (by dsimp only [Tryz.f31, List.length, Nat.reduceAdd, Nat.reduceSub, List.replicate, List.cons_append, List.nil_append]) ?_
 refine at_seq [0] [1] rfl ?_
 refine at_region rfl ?_
 refine at_o 2 rfl rfl rfl rfl (op_boxI rfl rfl) ?_
 refine at_c 3 rfl rfl rfl (.inr rfl) ?_
 refine at_end rfl ?_
 refine at_seq [1, 0] [1, 1] rfl ?_
 refine at_region rfl ?_
 first | (refine at_o 4 rfl rfl rfl rfl (op_fieldP rfl ffld1_api_Arc (by decide)) ?_) | (refine at_o 4 rfl rfl rfl rfl (op_fieldR rfl ffld1_api_Arc (by decide) (by decide) rfl) ?_)
 first | (refine at_o 5 rfl rfl rfl rfl (op_loadR1 rfl fone_int rfl) ?_) | (refine at_o 5 rfl rfl rfl rfl (op_loadP1 rfl fone_int rfl rfl) ?_)
 refine at_o 6 rfl rfl rfl rfl (op_binI rfl rfl) ?_
 refine at_m 6 7 rfl rfl rfl (.inl rfl) rfl ?_
 refine at_split 7 rfl (fun hb1 env' he => ?_) (fun hb1 env' he => ?_)
 ·dsimp only [List.set] at he; subst he
  refine at_opN (some 8) rfl rfl rfl (by dsimp only [putD, List.set]) ?_
  refine at_opN (some 9) rfl rfl rfl (by dsimp only [putD, List.set]) ?_
  refine at_opN (some 10) rfl rfl rfl (by dsimp only [putD, List.set]) ?_
  refine at_opN (some 11) rfl rfl rfl (by dsimp only [putD, List.set]) ?_
  refine at_pkc true 7 12 rfl rfl rfl rfl rfl rfl (by dsimp only [constD]) (by dsimp only [List.set]) ?_
  refine at_m 12 3 rfl rfl rfl (.inr rfl) rfl ?_
  refine at_end rfl ?_
  refine at_ret rfl (ret_one (t := 3) rfl rfl ?_ rfl)
  simp_all <;> omega
 ·dsimp only [List.set] at he; subst he
  first | (refine at_o 8 rfl rfl rfl rfl (op_fieldP rfl ffld1_api_Arc (by decide)) ?_) | (refine at_o 8 rfl rfl rfl rfl (op_fieldR rfl ffld1_api_Arc (by decide) (by decide) rfl) ?_)
  first | (refine at_o 9 rfl rfl rfl rfl (op_loadR1 rfl fone_int rfl) ?_) | (refine at_o 9 rfl rfl rfl rfl (op_loadP1 rfl fone_int rfl rfl) ?_)
  first | (refine at_o 10 rfl rfl rfl rfl (op_loadR1 rfl fone_int rfl) ?_) | (refine at_o 10 rfl rfl rfl rfl (op_loadP1 rfl fone_int rfl rfl) ?_)
  refine at_o 11 rfl rfl rfl rfl (op_binI rfl rfl) ?_
  refine at_pk false 7 11 12 rfl rfl rfl rfl rfl rfl rfl (by dsimp only [List.set]) ?_
  refine at_m 12 3 rfl rfl rfl (.inr rfl) rfl ?_
  refine at_end rfl ?_
  refine at_ret rfl (ret_one (t := 3) rfl rfl ?_ rfl)
  simp_all <;> omega
end Go.Proofs.YtmdipbhjhkckjaaGreat

namespace Go.Proofs.YtmdipbhjhkckjaaGreat
open Go.Dv
def gb (l : List Bool) (i : Nat) : Bool := l.getD i false
theorem gb_some {l : List Bool} {i : Nat} {b : Bool} (h : l[i]? = some b) : gb l i = b := by simp [gb, List.getD_eq_getElem?_getD, h]
theorem bfsM_length (G : List (List Arc)) : ∀ (f : Nat) (out : List Bool) (todo : List Nat), (bfsM G f out todo).length = out.length
 | 0, _, _ => rfl
 | f + 1, out, [] => rfl
 | f + 1, out, x :: todo => by simp only [bfsM]; rw [bfsM_length G f, stepM_length]
theorem reachM_length (G : List (List Arc)) (n x : Nat) : (reachM G n x).length = n := by simp [reachM, bfsM_length]
def reachL (G : List (List Arc)) (n x : Nat) : List Nat := (List.range n).filter (gb (reachM G n x))
noncomputable def cReachC : Code := Tryz.f40.body.getD .skip
set_option maxRecDepth 20000 in
theorem reachC_spec (r : List Bool) (i : Nat) (hi : i < r.length) : FSpec PP 40 [di ↑i, .v (.ref (vbs r))] σ0 (db (gb r i)) σ0 := by
 obtain ⟨b, hb⟩ := get_ex hi
 have hb2 := idx_some (f := vb) hb
 rw [gb_some hb]
 refine spec_at cReachC Tryz.func40 rfl (by kernel_rfl) (by first | decide | simp) _ (by dsimp only [Tryz.f40, List.length, Nat.reduceAdd, Nat.reduceSub, List.replicate, List.cons_append, List.nil_append]) ?_
 refine at_seq [0] [1] rfl ?_
 refine at_region rfl ?_
 refine at_c 3 rfl rfl rfl (.inr rfl) ?_
 refine at_end rfl ?_
 refine at_seq [1, 0] [1, 1] rfl ?_
 refine at_region rfl ?_
 first | (refine at_o 4 rfl rfl rfl rfl (op_loadR1 rfl fone_Sbool rfl) ?_) | (refine at_o 4 rfl rfl rfl rfl (op_loadP1 rfl fone_Sbool rfl rfl) ?_)
 refine at_m 0 5 rfl rfl rfl (.inl rfl) rfl ?_
 first | (refine at_o 6 rfl rfl rfl rfl (op_idxL rfl fsl_Sbool (by first | decide | omega) (by first | assumption | exact idx_some (by assumption) | rfl) (by first | rfl | (simp [V.size]; done))) ?_) | (refine at_o 6 rfl rfl rfl rfl (opOK_un (op_idxL rfl fsl_Sbool (by first | decide | omega) (by first | assumption | exact idx_some (by assumption) | rfl) (by first | rfl | (simp [V.size]; done)))) ?_) | (refine at_o 6 rfl rfl rfl rfl (op_idxA rfl fsl_Sbool (by first | decide | omega) (by first | decide | omega)) ?_)
 first | (refine at_o 7 rfl rfl rfl rfl (op_loadR1 rfl fone_bool rfl) ?_) | (refine at_o 7 rfl rfl rfl rfl (op_loadP1 rfl fone_bool rfl rfl) ?_)
 refine at_m 7 3 rfl rfl rfl (.inr rfl) rfl ?_
 refine at_end rfl ?_
 refine at_ret rfl (ret_one (t := 3) rfl rfl ?_ rfl)
 rfl
end Go.Proofs.YtmdipbhjhkckjaaGreat

namespace Go.Proofs.YtmdipbhjhkckjaaGreat
open Go.Dv
theorem stepM_keep {x : Nat} : ∀ (r : List Arc) (out : List Bool) (todo : List Nat), out[x]? = some true → (stepM r out todo).1[x]? = some true
 | [], _, _, h => h
 | a :: r, out, todo, h => by
  unfold stepM
  split
  ·refine stepM_keep r _ _ ?_
   rw [List.getElem?_set]
   split
   ·rename_i e; subst e; simp [(List.getElem?_eq_some_iff.1 h).1]
   ·exact h
  ·exact stepM_keep r out todo h
theorem bfsM_keep {G : List (List Arc)} {x : Nat} : ∀ (f : Nat) (out : List Bool) (todo : List Nat), out[x]? = some true → (bfsM G f out todo)[x]? = some true
 | 0, _, _, h => h
 | f + 1, out, [], h => h
 | f + 1, out, y :: todo, h => by simp only [bfsM]; exact bfsM_keep f _ _ (stepM_keep _ _ _ h)
theorem reachM_self {G : List (List Arc)} {n x : Nat} (h : x < n) : gb (reachM G n x) x = true := gb_some (bfsM_keep _ _ _ (by simp [h]))
end Go.Proofs.YtmdipbhjhkckjaaGreat

namespace Go.Proofs.YtmdipbhjhkckjaaGreat
open Go.Dv
end Go.Proofs.YtmdipbhjhkckjaaGreat

namespace Go.Proofs.YtmdipbhjhkckjaaGreat
open Go.Dv
section
variable {P : Program} {o : Oper} {σ : St}
end
end Go.Proofs.YtmdipbhjhkckjaaGreat

namespace Go.Proofs.YtmdipbhjhkckjaaGreat
open Go.Dv
def gI (out : List Int) (i : Nat) : Int := out.getD i 0
def hitM (d : Int) (out : List Int) (row : List Arc) : Bool := row.any fun a => gI out a.2.toNat == d
abbrev dli (out : List Int) : List D := out.map fun x => di x
abbrev neg (x : Int) : Bool := decide (x < 0)
theorem dli_get {l : List Int} {i : Nat} {x : Int} (h : l[i]? = some x) : (dli l)[i]? = some (di x) := by simp [h]
theorem dli_set (l : List Int) (i : Nat) (x : Int) : (dli l).set i (di x) = dli (l.set i x) := by simp [List.map_set]
end Go.Proofs.YtmdipbhjhkckjaaGreat

namespace Go.Proofs.YtmdipbhjhkckjaaGreat
open Go.Dv
end Go.Proofs.YtmdipbhjhkckjaaGreat

namespace Go.Proofs.YtmdipbhjhkckjaaGreat
open Go.Dv
def Arr (G : List (List Arc)) (x y : Nat) : Prop := ∃ a ∈ G.getD x [], a.2.toNat = y
inductive Path (G : List (List Arc)) : Nat → Nat → Prop
 | refl (x : Nat) : Path G x x
 | step {x y z : Nat} (h : Arr G x y) (p : Path G y z) : Path G x z
theorem Path.trans {G : List (List Arc)} {x y z : Nat} (p : Path G x y) (q : Path G y z) : Path G x z := by
 induction p with
 | refl => exact q
 | step h _ ih => exact .step h (ih q)
theorem Path.snoc {G : List (List Arc)} {x y z : Nat} (p : Path G x y) (h : Arr G y z) : Path G x z := p.trans (.step h (.refl z))
structure DIn (n : Nat) (G : List (List Arc)) (to : Nat) (b : Int) (d : List Int) : Prop where
 len : d.length = n
 zero : ∀ i, i < n → (gI d i = 0 ↔ i = to)
 big : ∀ i, i < n → gI d i ≤ b
 down : ∀ i, i < n → 0 < gI d i → ∃ a ∈ G.getD i [], gI d a.2.toNat = gI d i - 1
theorem gI_set {d : List Int} {i j : Nat} {x : Int} (h : i < d.length) : gI (d.set i x) j = if i = j then x else gI d j := by
 simp only [gI, List.getD_eq_getElem?_getD, List.getElem?_set]
 by_cases hij : i = j
 ·subst hij; simp [h]
 ·simp [hij]
theorem DIn.mono {n : Nat} {G : List (List Arc)} {to : Nat} {b b' : Int} {d : List Int} (h : DIn n G to b d) (hb : b ≤ b') : DIn n G to b' d :=
 ⟨h.len, h.zero, fun i hi => Int.le_trans (h.big i hi) hb, h.down⟩
theorem DIn.set {n : Nat} {G : List (List Arc)} {to : Nat} {b x : Int} {d : List Int} (h : DIn n G to b d) {i : Nat} (hi : i < n) (hneg : gI d i < 0) (hx : 0 ≤ x) (hb : x + 1 ≤ b) (hit : hitM x d (G.getD i []) = true) : DIn n G to b (d.set i (x + 1)) := by
 have hl : i < d.length := by rw [h.len]; exact hi
 refine ⟨by simp [h.len], fun j hj => ?_, fun j hj => ?_, fun j hj hp => ?_⟩
 ·rw [gI_set hl]
  split
  ·rename_i e; subst e
   have := h.zero i hi
   constructor
   ·intro h'; omega
   ·intro h'; have := this.2 h'; omega
  ·exact h.zero j hj
 ·rw [gI_set hl]
  split
  ·exact hb
  ·exact h.big j hj
 ·rw [gI_set hl] at hp ⊢
  split
  ·rename_i e; subst e
   simp only [hitM, List.any_eq_true, beq_iff_eq] at hit
   obtain ⟨a, ha, hax⟩ := hit
   refine ⟨a, ha, ?_⟩
   rw [gI_set hl, if_neg (by rintro rfl; omega)]; omega
  ·rename_i e
   rw [if_neg e] at hp
   obtain ⟨a, ha, hax⟩ := h.down j hj hp
   refine ⟨a, ha, ?_⟩
   rw [gI_set hl, if_neg (by rintro rfl; omega)]; exact hax
end Go.Proofs.YtmdipbhjhkckjaaGreat

namespace Go.Proofs.YtmdipbhjhkckjaaGreat
open Go.Dv
theorem gb_true {l : List Bool} {i : Nat} : gb l i = true ↔ l[i]? = some true := by
 simp only [gb, List.getD_eq_getElem?_getD]
 cases h : l[i]? with
 | none => simp
 | some b => simp
theorem stepM_mem {n : Nat} : ∀ (r : List Arc) (out : List Bool) (todo : List Nat), out.length = n → (∀ a ∈ r, 0 ≤ a.2 ∧ a.2 < n) →
  (∀ a ∈ r, gb (stepM r out todo).1 a.2.toNat = true) ∧
  (∀ y, gb (stepM r out todo).1 y = true → gb out y = true ∨ ((∃ a ∈ r, a.2.toNat = y) ∧ y ∈ (stepM r out todo).2)) ∧
  (∀ y ∈ todo, y ∈ (stepM r out todo).2) ∧ (∀ y ∈ (stepM r out todo).2, y ∈ todo ∨ gb (stepM r out todo).1 y = true)
 | [], out, todo, _, _ => ⟨by simp, fun y h => .inl h, fun y h => h, fun y h => .inl h⟩
 | a :: r, out, todo, hl, hr => by
  have ha := hr a (by simp)
  have hr' : ∀ b ∈ r, 0 ≤ b.2 ∧ b.2 < n := fun b hb => hr b (by simp [hb])
  unfold stepM
  split
  ·rename_i hf
   obtain ⟨h1, h2, h3, h4⟩ := stepM_mem r (out.set a.2.toNat true) (todo ++ [a.2.toNat]) (by simp [hl]) hr'
   have hself : gb (stepM r (out.set a.2.toNat true) (todo ++ [a.2.toNat])).1 a.2.toNat = true := gb_true.2 (stepM_keep _ _ _ (by rw [List.getElem?_set]; simp; omega))
   refine ⟨fun b hb => ?_, fun y hy => ?_, fun y hy => h3 y (by simp [hy]), fun y hy => ?_⟩
   ·rcases List.mem_cons.1 hb with rfl | hb
    ·exact hself
    ·exact h1 b hb
   ·rcases h2 y hy with h | ⟨⟨b, hb, e⟩, h⟩
    ·by_cases e : a.2.toNat = y
     ·exact .inr ⟨⟨a, by simp, e⟩, h3 y (by simp [e])⟩
     ·left
      rw [gb_true, List.getElem?_set, if_neg e] at h
      exact gb_true.2 h
    ·exact .inr ⟨⟨b, by simp [hb], e⟩, h⟩
   ·rcases h4 y hy with h | h
    ·rcases List.mem_append.1 h with h | h
     ·exact .inl h
     ·simp at h; subst h; exact .inr hself
    ·exact .inr h
  ·rename_i hf
   obtain ⟨h1, h2, h3, h4⟩ := stepM_mem r out todo hl hr'
   refine ⟨fun b hb => ?_, fun y hy => ?_, h3, h4⟩
   ·rcases List.mem_cons.1 hb with rfl | hb
    ·obtain ⟨c, hc⟩ := get_ex (a := out) (i := b.2.toNat) (by omega)
     cases c with
     | true => exact gb_true.2 (stepM_keep _ _ _ hc)
     | false => exact absurd hc hf
    ·exact h1 b hb
   ·rcases h2 y hy with h | ⟨⟨b, hb, e⟩, h⟩
    ·exact .inl h
    ·exact .inr ⟨⟨b, by simp [hb], e⟩, h⟩
theorem bfsM_ok {n : Nat} {G : List (List Arc)} (hG : GOK n G) (x : Nat) : ∀ (f : Nat) (out : List Bool) (todo : List Nat), out.length = n → todo.length + out.count false ≤ f → (∀ y ∈ todo, gb out y = true) → (∀ y, gb out y = true → Path G x y) →
  (∀ y, gb out y = true → y ∈ todo ∨ ∀ a ∈ G.getD y [], gb out a.2.toNat = true) →
  (∀ y, gb (bfsM G f out todo) y = true → Path G x y) ∧ (∀ y, gb (bfsM G f out todo) y = true → ∀ a ∈ G.getD y [], gb (bfsM G f out todo) a.2.toNat = true)
 | 0, out, todo, hl, hf, hB, hA, hC => by
  have ht : todo = [] := List.eq_nil_of_length_eq_zero (by omega)
  subst ht
  exact ⟨hA, fun y hy => (hC y hy).resolve_left (by simp)⟩
 | f + 1, out, [], hl, hf, hB, hA, hC => ⟨hA, fun y hy => (hC y hy).resolve_left (by simp)⟩
 | f + 1, out, z :: todo, hl, hf, hB, hA, hC => by
  have hrow : ∀ a ∈ G.getD z [], 0 ≤ a.2 ∧ a.2 < n := by
   intro a ha
   cases hz : G[z]? with
   | none => simp [List.getD_eq_getElem?_getD, hz] at ha
   | some r => rw [stepM_get hz] at ha; exact (hG.row r (List.mem_of_getElem? hz)).2 a ha
  obtain ⟨h1, h2, h3, h4⟩ := stepM_mem (G.getD z []) out todo hl hrow
  have hcnt := stepM_count (G.getD z []) out todo
  have hkeep : ∀ y, gb out y = true → gb (stepM (G.getD z []) out todo).1 y = true := fun y hy => gb_true.2 (stepM_keep _ _ _ (gb_true.1 hy))
  simp only [bfsM]
  refine bfsM_ok hG x f _ _ (by rw [stepM_length, hl]) (by simp at hf; omega) (fun y hy => ?_) (fun y hy => ?_) (fun y hy => ?_)
  ·rcases h4 y hy with h | h
   ·exact hkeep y (hB y (by simp [h]))
   ·exact h
  ·rcases h2 y hy with h | ⟨⟨a, ha, e⟩, _⟩
   ·exact hA y h
   ·exact (hA z (hB z (by simp))).snoc ⟨a, ha, e⟩
  ·rcases h2 y hy with h | ⟨_, h⟩
   ·rcases hC y h with h' | h'
    ·rcases List.mem_cons.1 h' with rfl | h'
     ·exact .inr h1
     ·exact .inl (h3 y h')
    ·exact .inr fun a ha => hkeep _ (h' a ha)
   ·exact .inl h
theorem reachM_iff {n : Nat} {G : List (List Arc)} (hG : GOK n G) {x : Nat} (hx : x < n) (y : Nat) : gb (reachM G n x) y = true ↔ Path G x y := by
 have h0 : ∀ z, gb ((List.replicate n false).set x true) z = true ↔ z = x := fun z => by
  rw [gb_true, List.getElem?_set]
  by_cases e : x = z
  ·subst e; simp [hx]
  ·rw [if_neg e]; simp [List.getElem?_replicate]; omega
 obtain ⟨h1, h2⟩ := bfsM_ok hG x (n + 1) ((List.replicate n false).set x true) [x] (by simp) (by have := List.count_le_length (a := false) (l := (List.replicate n false).set x true); simp at this ⊢; omega)
  (by simp [h0]) (fun z hz => by rw [(h0 z).1 hz]; exact .refl x) (fun z hz => .inl (by rw [(h0 z).1 hz]; simp))
 refine ⟨h1 y, fun p => ?_⟩
 have gen : ∀ {u v : Nat}, Path G u v → gb (reachM G n x) u = true → gb (reachM G n x) v = true := by
  intro u v p
  induction p with
  | refl => exact id
  | step h _ ih =>
   intro hu
   obtain ⟨a, ha, rfl⟩ := h
   exact ih (h2 _ hu a ha)
 exact gen p (reachM_self hx)
end Go.Proofs.YtmdipbhjhkckjaaGreat

namespace Go.Proofs.YtmdipbhjhkckjaaGreat
open Go.Dv
end Go.Proofs.YtmdipbhjhkckjaaGreat

namespace Go.Proofs.YtmdipbhjhkckjaaGreat
open Go.Dv
structure DRd (n : Nat) (G : List (List Arc)) (x : Int) (i0 : Nat) (d : List Int) : Prop where
 len : d.length = n
 top : ∀ i, i < n → gI d i ≤ x + 1
 j : ∀ i, i < n → gI d i < 0 → ∀ a ∈ G.getD i [], gI d a.2.toNat < 0 ∨ x ≤ gI d a.2.toNat
 k : ∀ i, i < n → 0 ≤ gI d i → ∀ a ∈ G.getD i [], 0 ≤ gI d a.2.toNat → gI d i ≤ gI d a.2.toNat + 1
 done : ∀ i, i < i0 → i < n → gI d i < 0 → ∀ a ∈ G.getD i [], gI d a.2.toNat ≠ x
theorem DRd.set {n : Nat} {G : List (List Arc)} {x : Int} {d : List Int} {i : Nat} (h : DRd n G x i d) (hx : 0 ≤ x) (hi : i < n) (hneg : gI d i < 0) : DRd n G x (i + 1) (d.set i (x + 1)) := by
 have hl : i < d.length := by rw [h.len]; exact hi
 refine ⟨by simp [h.len], fun q hq => ?_, fun q hq hn a ha => ?_, fun q hq hn a ha hp => ?_, fun q hq0 hq hn a ha => ?_⟩
 ·rw [gI_set hl]; split
  ·exact Int.le_refl _
  ·exact h.top q hq
 ·rw [gI_set hl] at hn ⊢
  split at hn
  ·omega
  ·have := h.j q hq hn a ha
   split <;> omega
 ·rw [gI_set hl] at hn hp ⊢
  rw [gI_set hl]
  split at hp
  ·rename_i e
   have := h.top q hq
   rw [if_pos e]
   split <;> omega
  ·rename_i e
   rw [if_neg e]
   split
   ·rename_i e2
    subst e2
    have := h.j i hi hneg a ha
    omega
   ·rename_i e2
    rw [if_neg e2] at hn
    exact h.k q hq hn a ha hp
 ·rw [gI_set hl] at hn ⊢
  split at hn
  ·omega
  ·rename_i e
   split
   ·omega
   ·exact h.done q (by omega) hq hn a ha
theorem DRd.skip {n : Nat} {G : List (List Arc)} {x : Int} {d : List Int} {i : Nat} (h : DRd n G x i d) (hs : gI d i < 0 → ∀ a ∈ G.getD i [], gI d a.2.toNat ≠ x) : DRd n G x (i + 1) d :=
 ⟨h.len, h.top, h.j, h.k, fun q hq0 hq hn a ha => by
  by_cases e : q = i
  ·subst e; exact hs hn a ha
  ·exact h.done q (by omega) hq hn a ha⟩
theorem arc_lt {n : Nat} {G : List (List Arc)} (hG : GOK n G) {i : Nat} {a : Arc} (ha : a ∈ G.getD i []) : a.2.toNat < n ∧ 0 ≤ a.2 := by
 cases hz : G[i]? with
 | none => simp [List.getD_eq_getElem?_getD, hz] at ha
 | some r => rw [stepM_get hz] at ha; have := (hG.row r (List.mem_of_getElem? hz)).2 a ha; omega
theorem Path.lt {n : Nat} {G : List (List Arc)} (hG : GOK n G) {x y : Nat} (p : Path G x y) (hx : x < n) : y < n := by
 induction p with
 | refl => exact hx
 | step h _ ih => obtain ⟨a, ha, rfl⟩ := h; exact ih (arc_lt hG ha).1
end Go.Proofs.YtmdipbhjhkckjaaGreat

namespace Go.Proofs.YtmdipbhjhkckjaaGreat
open Go.Dv
end Go.Proofs.YtmdipbhjhkckjaaGreat

namespace Go.Proofs.YtmdipbhjhkckjaaGreat
open Go.Dv
end Go.Proofs.YtmdipbhjhkckjaaGreat

namespace Go.Proofs.YtmdipbhjhkckjaaGreat
open Go.Dv
theorem len_le : ∀ (l m : List Nat), l.Nodup → (∀ x ∈ l, x ∈ m) → l.length ≤ m.length
 | [], m, _, _ => by simp
 | x :: l, m, hn, h => by
  rw [List.nodup_cons] at hn
  have hx := h x (by simp)
  have := len_le l (m.erase x) hn.2 fun y hy => (List.mem_erase_of_ne (by rintro rfl; exact hn.1 hy)).2 (h y (by simp [hy]))
  rw [List.length_erase_of_mem hx] at this
  have hp : 0 < m.length := List.length_pos_of_mem hx
  simp only [List.length_cons]; omega
def findC (homes : List Nat) : List (List Nat) → Bool
 | [] => false
 | c :: r => if c.head? = homes.head? then decide (c = homes) else findC homes r
def leavesQ (G : List (List Arc)) (c : List Nat) : Bool := c.any fun i => (G.getD i []).any fun a => !c.contains a.2.toNat
theorem stays {G : List (List Arc)} {c : List Nat} (h : leavesQ G c = false) {x y : Nat} (p : Path G x y) (hx : x ∈ c) : y ∈ c := by
 induction p with
 | refl => exact hx
 | step ha _ ih =>
  obtain ⟨a, ha, rfl⟩ := ha
  refine ih ?_
  simp only [leavesQ, List.any_eq_false] at h
  have := h _ hx
  simp only [Bool.not_eq_true, List.any_eq_false] at this
  have := this a ha
  simpa using this
end Go.Proofs.YtmdipbhjhkckjaaGreat

namespace Go.Proofs.YtmdipbhjhkckjaaGreat
open Go.Dv
end Go.Proofs.YtmdipbhjhkckjaaGreat

namespace Go.Proofs.YtmdipbhjhkckjaaGreat
open Go.Dv
theorem bytes_take {s : List Int} (hb : BytesOK s) (n : Nat) : BytesOK (s.take n) := fun x hx => hb x (List.mem_of_mem_take hx)
abbrev σ1 : St := ⟨[none], []⟩
structure AtOK (n : Nat) (C : List (List Nat)) (j k : Nat) (at_ : List Int) : Prop where
 len : at_.length = n
 old : ∀ (i : Nat) (c : List Nat) (x : Nat), i < j → C[i]? = some c → x ∈ c → gI at_ x = i + 1
 now : ∀ (c : List Nat) (x : Nat), C[j]? = some c → x ∈ c.take k → gI at_ x = j + 1
 zero : ∀ x, (∀ (i : Nat) (c : List Nat), i < j → C[i]? = some c → x ∉ c) → (∀ c, C[j]? = some c → x ∉ c.take k) → gI at_ x = 0
structure COK (n : Nat) (C : List (List Nat)) : Prop where
 le : C.length ≤ 100
 lel : ∀ c ∈ C, c.length ≤ 100
 lt : ∀ c ∈ C, ∀ x ∈ c, x < n
 disj : ∀ (i j : Nat) (c d : List Nat) (x : Nat), C[i]? = some c → C[j]? = some d → x ∈ c → x ∈ d → i = j
 sorted : ∀ c ∈ C, c.Pairwise (· < ·)
theorem AtOK.start (n : Nat) (C : List (List Nat)) : AtOK n C 0 0 (List.replicate n 0) := by
 refine ⟨by simp, fun i c x h => by omega, fun c x _ h => by simp at h, fun x _ _ => ?_⟩
 simp only [gI, List.getD_eq_getElem?_getD, List.getElem?_replicate]; split <;> rfl
theorem AtOK.step {n : Nat} {C : List (List Nat)} (hC : COK n C) {j k : Nat} {at_ : List Int} (h : AtOK n C j k at_) {c : List Nat} (hc : C[j]? = some c) {x : Nat} (hx : c[k]? = some x) : AtOK n C j (k + 1) (at_.set x ((j + 1 : Nat) : Int)) := by
 have hm := List.mem_of_getElem? hc
 have hxn := hC.lt c hm x (List.mem_of_getElem? hx)
 have hl : x < at_.length := by rw [h.len]; exact hxn
 have htk : c.take (k + 1) = c.take k ++ [x] := by
  obtain ⟨h1, h2⟩ := List.getElem?_eq_some_iff.1 hx
  rw [List.take_succ_eq_append_getElem h1, h2]
 refine ⟨by simp [h.len], fun i d y hi hd hy => ?_, fun d y hd hy => ?_, fun y h1 h2 => ?_⟩
 ·rw [gI_set hl, if_neg]
  ·exact h.old i d y hi hd hy
  ·rintro rfl
   have := hC.disj i j d c _ hd hc hy (List.mem_of_getElem? hx); omega
 ·rw [gI_set hl]
  split
  ·omega
  ·rename_i hne
   rw [hc] at hd
   obtain rfl : c = d := by simpa using hd
   rw [htk] at hy
   rcases List.mem_append.1 hy with hy | hy
   ·exact h.now c y hc hy
   ·simp at hy; omega
 ·have hne : ¬ x = y := by
   rintro rfl
   exact h2 c hc (by rw [htk]; simp)
  rw [gI_set hl, if_neg hne]
  refine h.zero y h1 (fun d hd hy => h2 d hd ?_)
  rw [hc] at hd
  obtain rfl : c = d := by simpa using hd
  rw [htk]; simp [hy]
theorem AtOK.next {n : Nat} {C : List (List Nat)} {j : Nat} {at_ : List Int} {c : List Nat} (hc : C[j]? = some c) (h : AtOK n C j c.length at_) : AtOK n C (j + 1) 0 at_ := by
 refine ⟨h.len, fun i d y hi hd hy => ?_, fun d y _ hy => by simp at hy, fun y h1 _ => ?_⟩
 ·by_cases e : i = j
  ·subst e
   rw [hc] at hd
   obtain rfl : c = d := by simpa using hd
   exact h.now c y hc (by simpa using hy)
  ·exact h.old i d y (by omega) hd hy
 ·refine h.zero y (fun i d hi hd => h1 i d (by omega) hd) (fun d hd hy => ?_)
  rw [hc] at hd
  obtain rfl : c = d := by simpa using hd
  exact h1 j c (by omega) hc (by simpa using hy)
end Go.Proofs.YtmdipbhjhkckjaaGreat
