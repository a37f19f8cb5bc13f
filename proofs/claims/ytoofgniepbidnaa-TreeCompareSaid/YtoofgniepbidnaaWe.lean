/-
  The order of vectors, walked; package coverabilityref01.
-/
import Derived.Test.YtoofgniepbidnaaWd
namespace Go.Proofs.Ytoofgniepbidnaa
open Go.Dv

def ord (x y : Int) : Int := if x < y then -1 else if x > y then 1 else 0
def cmpL : List Int → List Int → Int
  | x :: a, y :: b => if ord x y = 0 then cmpL a b else ord x y
  | [], _ :: _ => -1
  | _ :: _, [] => 1
  | [], [] => 0
def orL : List Int → Int
  | [] => 0
  | x :: a => if x = 0 then orL a else x
def cmpV (a b : List Int) : Int := if ord a.length b.length = 0 then cmpL a b else ord a.length b.length
theorem cmpL_at {a b : List Int} {i : Nat} {x y : Int} (hx : a[i]? = some x) (hy : b[i]? = some y) : cmpL (a.drop i) (b.drop i) = if ord x y = 0 then cmpL (a.drop (i + 1)) (b.drop (i + 1)) else ord x y := by
  obtain ⟨ha1, ha2⟩ := List.getElem?_eq_some_iff.1 hx
  obtain ⟨hb1, hb2⟩ := List.getElem?_eq_some_iff.1 hy
  rw [List.drop_eq_getElem_cons ha1, List.drop_eq_getElem_cons hb1, ha2, hb2]
  rfl
theorem cmpL_long {a b : List Int} {i : Nat} (hx : i < a.length) (hy : b.length ≤ i) : cmpL (a.drop i) (b.drop i) = 1 := by
  rw [List.drop_eq_getElem_cons hx, List.drop_of_length_le hy]; rfl
theorem cmpL_end {a b : List Int} {i : Nat} (hx : i = a.length) : cmpL (a.drop i) (b.drop i) = if a.length < b.length then -1 else 0 := by
  subst hx
  rw [List.drop_of_length_le (Nat.le_refl _)]
  by_cases h : a.length < b.length
  · rw [List.drop_eq_getElem_cons h, if_pos h]; rfl
  · rw [List.drop_of_length_le (by omega), if_neg h]; rfl
theorem orL_at {a : List Int} {i : Nat} {x : Int} (hx : a[i]? = some x) : orL (a.drop i) = if x = 0 then orL (a.drop (i + 1)) else x := by
  obtain ⟨ha1, ha2⟩ := List.getElem?_eq_some_iff.1 hx
  rw [List.drop_eq_getElem_cons ha1, ha2]; rfl
theorem orL_end {a : List Int} {i : Nat} (hx : a.length ≤ i) : orL (a.drop i) = 0 := by rw [List.drop_of_length_le hx]; rfl
theorem ord_zero {x y : Int} : ord x y = 0 ↔ x = y := by unfold ord; split <;> (try split) <;> omega
theorem ord_cases (x y : Int) : ord x y = -1 ∧ x < y ∨ ord x y = 0 ∧ x = y ∨ ord x y = 1 ∧ y < x := by unfold ord; split <;> (try split) <;> omega

noncomputable def cNaN : Code := Try.f85.body.getD .skip
set_option maxRecDepth 20000 in
theorem nan_spec (x : Int) : FSpec PP 85 [di x] σ0 (db false) σ0 := by
  refine spec_at cNaN Try.func85 rfl (by kernel_rfl) (by first | decide | simp) _ (by dsimp only [Try.f85, List.length, Nat.reduceAdd, Nat.reduceSub, List.replicate, List.cons_append, List.nil_append]) ?_
  refine at_seq [0] [1] rfl ?_
  refine at_region rfl ?_
  refine at_mc 2 rfl rfl rfl (.inr rfl) (by dsimp only [constD]) (by dsimp only [List.set]) ?_
  refine at_end rfl ?_
  refine at_seq [1, 0] [1, 1] rfl ?_
  refine at_region rfl ?_
  refine at_mv 0 3 rfl rfl rfl (.inl rfl) rfl (by dsimp only [List.set]) ?_
  refine at_mv 0 4 rfl rfl rfl (.inl rfl) rfl (by dsimp only [List.set]) ?_
  refine at_op (some 5) rfl rfl rfl rfl (op_binI rfl rfl) (by dsimp only [putD, List.set]) ?_
  refine at_mv 5 2 rfl rfl rfl (.inr rfl) rfl (by dsimp only [List.set]) ?_
  refine at_end rfl ?_
  refine at_ret rfl (ret_one (t := 2) rfl rfl ?_ rfl)
  simp

noncomputable def cCompare : Code := Try.f62.body.getD .skip
set_option maxRecDepth 20000 in
theorem compare_spec (x y : Int) : FSpec PP 62 [di x, di y] σ0 (di (ord x y)) σ0 := by
  refine spec_at cCompare Try.func62 rfl (by kernel_rfl) (by first | decide | simp) _ (by dsimp only [Try.f62, List.length, Nat.reduceAdd, Nat.reduceSub, List.replicate, List.cons_append, List.nil_append]) ?_
  refine at_seq [0] [1] rfl ?_
  refine at_region rfl ?_
  refine at_mc 4 rfl rfl rfl (.inr rfl) (by dsimp only [constD]) (by dsimp only [List.set]) ?_
  refine at_end rfl ?_
  refine at_seq [1, 0] [1, 1] rfl ?_
  refine at_region rfl ?_
  refine at_mv 0 7 rfl rfl rfl (.inl rfl) rfl (by dsimp only [List.set]) ?_
  refine at_op (some 8) rfl rfl rfl rfl (op_call0 rfl rfl rfl rfl (nan_spec _)) (by dsimp only [putD, List.set]) ?_
  refine at_mv 8 5 rfl rfl rfl (.inr rfl) rfl (by dsimp only [List.set]) ?_
  refine at_end rfl ?_
  refine at_seq [1, 1, 0] [1, 1, 1] rfl ?_
  refine at_region rfl ?_
  refine at_mv 1 9 rfl rfl rfl (.inl rfl) rfl (by dsimp only [List.set]) ?_
  refine at_op (some 10) rfl rfl rfl rfl (op_call0 rfl rfl rfl rfl (nan_spec _)) (by dsimp only [putD, List.set]) ?_
  refine at_mv 10 6 rfl rfl rfl (.inr rfl) rfl (by dsimp only [List.set]) ?_
  refine at_end rfl ?_
  refine at_seq [1, 1, 1, 0] [1, 1, 1, 1] rfl ?_
  refine at_seq [1, 1, 1, 0, 0] [1, 1, 1, 0, 1] rfl ?_
  refine at_region rfl ?_
  refine at_mv 5 11 rfl rfl rfl (.inl rfl) rfl (by dsimp only [List.set]) ?_
  refine at_end rfl ?_
  refine at_false [1, 1, 1, 0, 1, 0] [1, 1, 1, 0, 1, 1] rfl rfl ?_
  refine at_skip rfl ?_
  refine at_seq [1, 1, 1, 1, 0] [1, 1, 1, 1, 1] rfl ?_
  refine at_seq [1, 1, 1, 1, 0, 0] [1, 1, 1, 1, 0, 1] rfl ?_
  refine at_region rfl ?_
  refine at_mv 6 13 rfl rfl rfl (.inl rfl) rfl (by dsimp only [List.set]) ?_
  refine at_end rfl ?_
  refine at_false [1, 1, 1, 1, 0, 1, 0] [1, 1, 1, 1, 0, 1, 1] rfl rfl ?_
  refine at_skip rfl ?_
  refine at_seq [1, 1, 1, 1, 1, 0] [1, 1, 1, 1, 1, 1] rfl ?_
  refine at_seq [1, 1, 1, 1, 1, 0, 0] [1, 1, 1, 1, 1, 0, 1] rfl ?_
  refine at_region rfl ?_
  refine at_mv 0 14 rfl rfl rfl (.inl rfl) rfl (by dsimp only [List.set]) ?_
  refine at_mv 1 15 rfl rfl rfl (.inl rfl) rfl (by dsimp only [List.set]) ?_
  refine at_op (some 16) rfl rfl rfl rfl (op_binI rfl rfl) (by dsimp only [putD, List.set]) ?_
  refine at_end rfl ?_
  refine at_cond [1, 1, 1, 1, 1, 0, 1, 0] [1, 1, 1, 1, 1, 0, 1, 1] rfl rfl (fun hc1 => ?_) (fun hc1 => ?_)
  · skip
    refine at_seq [1, 1, 1, 1, 1, 0, 1, 0, 0] [1, 1, 1, 1, 1, 0, 1, 0, 1] rfl ?_
    refine at_region rfl ?_
    refine at_mc 4 rfl rfl rfl (.inr rfl) (by dsimp only [constD]) (by dsimp only [List.set]) ?_
    refine at_end rfl ?_
    refine at_ret rfl (ret_one (t := 4) rfl rfl ?_ rfl)
    first | (exfalso; simp at *; done) | (simp at *; unfold ord; split <;> (try split) <;> first | rfl | omega)
  · skip
    refine at_skip rfl ?_
    refine at_seq [1, 1, 1, 1, 1, 1, 0] [1, 1, 1, 1, 1, 1, 1] rfl ?_
    refine at_seq [1, 1, 1, 1, 1, 1, 0, 0] [1, 1, 1, 1, 1, 1, 0, 1] rfl ?_
    refine at_region rfl ?_
    refine at_mv 0 17 rfl rfl rfl (.inl rfl) rfl (by dsimp only [List.set]) ?_
    refine at_mv 1 18 rfl rfl rfl (.inl rfl) rfl (by dsimp only [List.set]) ?_
    refine at_op (some 19) rfl rfl rfl rfl (op_binI rfl rfl) (by dsimp only [putD, List.set]) ?_
    refine at_end rfl ?_
    refine at_cond [1, 1, 1, 1, 1, 1, 0, 1, 0] [1, 1, 1, 1, 1, 1, 0, 1, 1] rfl rfl (fun hc2 => ?_) (fun hc2 => ?_)
    · skip
      refine at_seq [1, 1, 1, 1, 1, 1, 0, 1, 0, 0] [1, 1, 1, 1, 1, 1, 0, 1, 0, 1] rfl ?_
      refine at_region rfl ?_
      refine at_mc 4 rfl rfl rfl (.inr rfl) (by dsimp only [constD]) (by dsimp only [List.set]) ?_
      refine at_end rfl ?_
      refine at_ret rfl (ret_one (t := 4) rfl rfl ?_ rfl)
      first | (exfalso; simp at *; done) | (simp at *; unfold ord; split <;> (try split) <;> first | rfl | omega)
    · skip
      refine at_skip rfl ?_
      refine at_seq [1, 1, 1, 1, 1, 1, 1, 0] [1, 1, 1, 1, 1, 1, 1, 1] rfl ?_
      refine at_region rfl ?_
      refine at_mc 4 rfl rfl rfl (.inr rfl) (by dsimp only [constD]) (by dsimp only [List.set]) ?_
      refine at_end rfl ?_
      refine at_ret rfl (ret_one (t := 4) rfl rfl ?_ rfl)
      first | (exfalso; simp at *; done) | (simp at *; unfold ord; split <;> (try split) <;> first | rfl | omega)

noncomputable def cSCompare : Code := Try.f63.body.getD .skip
set_option maxRecDepth 20000 in
theorem scompare_loop (a b : List Int) (hs : a.length ≤ 1000000) (m : Nat) : ∀ i : Nat, a.length - i = m → i ≤ a.length → cmpL a b = cmpL (a.drop i) (b.drop i) → Run PP (fun env σ1 => ResOK PP Try.f63 env σ1 (di (cmpL a b)) σ0) [.lp (sub cSCompare [1, 0, 1, 0, 0]), .blk 0, .code (sub cSCompare [1, 1])] ((dl a) :: (dl b) :: .undef :: .undef :: (di 0) :: .undef :: .undef :: .undef :: .undef :: (dl a) :: (di ↑a.length) :: (di ↑i) :: .undef :: .undef :: .undef :: .undef :: .undef :: .undef :: .undef :: .undef :: .undef :: .undef :: .undef :: .undef :: .undef :: .undef :: .undef :: .undef :: .undef :: .undef :: .undef :: .undef :: .undef :: .undef :: .undef :: .undef :: []) σ0 := by
  induction m using Nat.strongRecOn with
  | _ m ih =>
    intro i hm hi hb
    refine run_lp ?_
    refine at_seq [1, 0, 1, 0, 0, 0] [1, 0, 1, 0, 0, 1] rfl ?_
    refine at_region rfl ?_
    refine at_op (some 12) rfl rfl rfl rfl (op_binI rfl rfl) (by dsimp only [putD, List.set]) ?_
    refine at_end rfl ?_
    refine at_seq [1, 0, 1, 0, 0, 1, 0] [1, 0, 1, 0, 0, 1, 1] rfl ?_
    refine at_cond [1, 0, 1, 0, 0, 1, 0, 0] [1, 0, 1, 0, 0, 1, 0, 1] rfl rfl (fun hc1 => ?_) (fun hc1 => ?_)
    · skip
      have hlt : i < a.length := by simpa using hc1
      obtain ⟨x, hx⟩ := get_ex hlt
      refine at_skip rfl ?_
      refine at_seq [1, 0, 1, 0, 0, 1, 1, 0] [1, 0, 1, 0, 0, 1, 1, 1] rfl ?_
      refine at_block [1, 0, 1, 0, 0, 1, 1, 0, 0] 1 rfl ?_
      refine at_seq [1, 0, 1, 0, 0, 1, 1, 0, 0, 0] [1, 0, 1, 0, 0, 1, 1, 0, 0, 1] rfl ?_
      refine at_region rfl ?_
      refine at_mv 11 13 rfl rfl rfl (.inl rfl) rfl (by dsimp only [List.set]) ?_
      first | (refine at_op (some 14) rfl rfl rfl rfl (op_idxL rfl slInt (by first | decide | omega) (by first | exact idx_some (by assumption) | assumption | rfl) (by first | rfl | (simp [V.size]; done))) (by dsimp only [putD, List.set]) ?_) | (refine at_op (some 14) rfl rfl rfl rfl (opOK_un (op_idxL rfl slInt (by first | decide | omega) (by first | exact idx_some (by assumption) | assumption | rfl) (by first | rfl | (simp [V.size]; done)))) (by dsimp only [putD, List.set]) ?_) | (refine at_op (some 14) rfl rfl rfl rfl (op_idxA rfl slInt (by first | decide | omega) (by first | decide | omega)) (by dsimp only [putD, List.set]) ?_)
      first | (refine at_op (some 15) rfl rfl rfl rfl (op_loadR1 rfl oneInt rfl) (by dsimp only [putD, List.set]) ?_) | (refine at_op (some 15) rfl rfl rfl rfl (op_loadP1 rfl oneInt rfl rfl) (by dsimp only [putD, List.set]) ?_)
      refine at_mv 13 5 rfl rfl rfl (.inr rfl) rfl (by dsimp only [List.set]) ?_
      refine at_mv 15 6 rfl rfl rfl (.inr rfl) rfl (by dsimp only [List.set]) ?_
      refine at_end rfl ?_
      refine at_seq [1, 0, 1, 0, 0, 1, 1, 0, 0, 1, 0] [1, 0, 1, 0, 0, 1, 1, 0, 0, 1, 1] rfl ?_
      refine at_seq [1, 0, 1, 0, 0, 1, 1, 0, 0, 1, 0, 0] [1, 0, 1, 0, 0, 1, 1, 0, 0, 1, 0, 1] rfl ?_
      refine at_region rfl ?_
      refine at_mv 5 16 rfl rfl rfl (.inl rfl) rfl (by dsimp only [List.set]) ?_
      refine at_mv 1 17 rfl rfl rfl (.inl rfl) rfl (by dsimp only [List.set]) ?_
      first | (refine at_op (some 18) rfl rfl rfl rfl (op_lenL rfl uInts) (by dsimp only [putD, List.set]) ?_) | (refine at_op (some 18) rfl rfl rfl rfl (opOK_un (op_lenL rfl uInts)) (by dsimp only [putD, List.set]) ?_) | (refine at_op (some 18) rfl rfl rfl rfl (op_lenA rfl uInts) (by dsimp only [putD, List.set]) ?_)
      refine at_op (some 19) rfl rfl rfl rfl (op_binI rfl rfl) (by dsimp only [putD, List.set]) ?_
      refine at_end rfl ?_
      refine at_cond [1, 0, 1, 0, 0, 1, 1, 0, 0, 1, 0, 1, 0] [1, 0, 1, 0, 0, 1, 1, 0, 0, 1, 0, 1, 1] rfl rfl (fun hc2 => ?_) (fun hc2 => ?_)
      · skip
        have hge : b.length ≤ i := by simpa using hc2
        rw [cmpL_long hlt hge] at hb
        refine at_seq [1, 0, 1, 0, 0, 1, 1, 0, 0, 1, 0, 1, 0, 0] [1, 0, 1, 0, 0, 1, 1, 0, 0, 1, 0, 1, 0, 1] rfl ?_
        refine at_region rfl ?_
        refine at_mc 4 rfl rfl rfl (.inr rfl) (by dsimp only [constD]) (by dsimp only [List.set]) ?_
        refine at_end rfl ?_
        refine at_ret rfl (ret_one (t := 4) rfl rfl ?_ rfl)
        first | (rw [hb]; done) | (simp_all; done) | (simp_all; omega)
      · skip
        have hlb : i < b.length := by simpa using hc2
        obtain ⟨y, hy⟩ := get_ex hlb
        rw [cmpL_at hx hy] at hb
        refine at_skip rfl ?_
        refine at_seq [1, 0, 1, 0, 0, 1, 1, 0, 0, 1, 1, 0] [1, 0, 1, 0, 0, 1, 1, 0, 0, 1, 1, 1] rfl ?_
        refine at_region rfl ?_
        refine at_mv 1 20 rfl rfl rfl (.inl rfl) rfl (by dsimp only [List.set]) ?_
        refine at_mv 5 21 rfl rfl rfl (.inl rfl) rfl (by dsimp only [List.set]) ?_
        first | (refine at_op (some 22) rfl rfl rfl rfl (op_idxL rfl slInt (by first | decide | omega) (by first | exact idx_some (by assumption) | assumption | rfl) (by first | rfl | (simp [V.size]; done))) (by dsimp only [putD, List.set]) ?_) | (refine at_op (some 22) rfl rfl rfl rfl (opOK_un (op_idxL rfl slInt (by first | decide | omega) (by first | exact idx_some (by assumption) | assumption | rfl) (by first | rfl | (simp [V.size]; done)))) (by dsimp only [putD, List.set]) ?_) | (refine at_op (some 22) rfl rfl rfl rfl (op_idxA rfl slInt (by first | decide | omega) (by first | decide | omega)) (by dsimp only [putD, List.set]) ?_)
        first | (refine at_op (some 23) rfl rfl rfl rfl (op_loadR1 rfl oneInt rfl) (by dsimp only [putD, List.set]) ?_) | (refine at_op (some 23) rfl rfl rfl rfl (op_loadP1 rfl oneInt rfl rfl) (by dsimp only [putD, List.set]) ?_)
        refine at_mv 23 7 rfl rfl rfl (.inr rfl) rfl (by dsimp only [List.set]) ?_
        refine at_end rfl ?_
        refine at_seq [1, 0, 1, 0, 0, 1, 1, 0, 0, 1, 1, 1, 0] [1, 0, 1, 0, 0, 1, 1, 0, 0, 1, 1, 1, 1] rfl ?_
        refine at_region rfl ?_
        refine at_mv 6 24 rfl rfl rfl (.inl rfl) rfl (by dsimp only [List.set]) ?_
        refine at_mv 7 25 rfl rfl rfl (.inl rfl) rfl (by dsimp only [List.set]) ?_
        refine at_op (some 26) rfl rfl rfl rfl (op_call0 rfl rfl rfl rfl (compare_spec _ _)) (by dsimp only [putD, List.set]) ?_
        refine at_mv 26 8 rfl rfl rfl (.inr rfl) rfl (by dsimp only [List.set]) ?_
        refine at_end rfl ?_
        refine at_seq [1, 0, 1, 0, 0, 1, 1, 0, 0, 1, 1, 1, 1, 0] [1, 0, 1, 0, 0, 1, 1, 0, 0, 1, 1, 1, 1, 1] rfl ?_
        refine at_region rfl ?_
        refine at_mv 8 27 rfl rfl rfl (.inl rfl) rfl (by dsimp only [List.set]) ?_
        refine at_op (some 28) rfl rfl rfl rfl (op_binI rfl rfl) (by dsimp only [putD, List.set]) ?_
        refine at_end rfl ?_
        refine at_cond [1, 0, 1, 0, 0, 1, 1, 0, 0, 1, 1, 1, 1, 1, 0] [1, 0, 1, 0, 0, 1, 1, 0, 0, 1, 1, 1, 1, 1, 1] rfl rfl (fun hc3 => ?_) (fun hc3 => ?_)
        · skip
          refine at_seq [1, 0, 1, 0, 0, 1, 1, 0, 0, 1, 1, 1, 1, 1, 0, 0] [1, 0, 1, 0, 0, 1, 1, 0, 0, 1, 1, 1, 1, 1, 0, 1] rfl ?_
          refine at_region rfl ?_
          refine at_mv 8 29 rfl rfl rfl (.inl rfl) rfl (by dsimp only [List.set]) ?_
          refine at_mv 29 4 rfl rfl rfl (.inr rfl) rfl (by dsimp only [List.set]) ?_
          refine at_end rfl ?_
          refine at_ret rfl (ret_one (t := 4) rfl rfl ?_ rfl)
          first | (rw [hb]; done) | (simp_all; done) | (simp_all; omega)
        · skip
          refine at_skip rfl ?_
          refine run_blk ?_
          refine at_region rfl ?_
          refine at_op (some 30) rfl rfl rfl rfl (op_binI rfl rfl) (by dsimp only [putD, List.set]) ?_
          refine at_mv 30 11 rfl rfl rfl (.inl rfl) rfl (by dsimp only [List.set]) ?_
          refine at_end rfl ?_
          rw [wrap_succ (by omega)]
          exact run_wk (.keep (.keep (.drop (.drop (.keep (.drop (.drop (.drop (.drop (.keep (.keep (.keep (.drop (.drop (.drop (.drop (.drop (.drop (.drop (.drop (.drop (.drop (.drop (.drop (.drop (.drop (.drop (.drop (.drop (.drop (.drop (.drop (.drop (.drop (.drop (.drop .nil)))))))))))))))))))))))))))))))))))) (ih _ (by omega) (i + 1) rfl (by omega) (by simp_all))
    · skip
      have hge : a.length ≤ i := by simpa using hc1
      rw [cmpL_end (by omega)] at hb
      refine at_exit rfl rfl ?_
      refine at_seq [1, 1, 0] [1, 1, 1] rfl ?_
      refine at_seq [1, 1, 0, 0] [1, 1, 0, 1] rfl ?_
      refine at_region rfl ?_
      refine at_mv 0 31 rfl rfl rfl (.inl rfl) rfl (by dsimp only [List.set]) ?_
      first | (refine at_op (some 32) rfl rfl rfl rfl (op_lenL rfl uInts) (by dsimp only [putD, List.set]) ?_) | (refine at_op (some 32) rfl rfl rfl rfl (opOK_un (op_lenL rfl uInts)) (by dsimp only [putD, List.set]) ?_) | (refine at_op (some 32) rfl rfl rfl rfl (op_lenA rfl uInts) (by dsimp only [putD, List.set]) ?_)
      refine at_mv 1 33 rfl rfl rfl (.inl rfl) rfl (by dsimp only [List.set]) ?_
      first | (refine at_op (some 34) rfl rfl rfl rfl (op_lenL rfl uInts) (by dsimp only [putD, List.set]) ?_) | (refine at_op (some 34) rfl rfl rfl rfl (opOK_un (op_lenL rfl uInts)) (by dsimp only [putD, List.set]) ?_) | (refine at_op (some 34) rfl rfl rfl rfl (op_lenA rfl uInts) (by dsimp only [putD, List.set]) ?_)
      refine at_op (some 35) rfl rfl rfl rfl (op_binI rfl rfl) (by dsimp only [putD, List.set]) ?_
      refine at_end rfl ?_
      refine at_cond [1, 1, 0, 1, 0] [1, 1, 0, 1, 1] rfl rfl (fun hc4 => ?_) (fun hc4 => ?_)
      · skip
        refine at_seq [1, 1, 0, 1, 0, 0] [1, 1, 0, 1, 0, 1] rfl ?_
        refine at_region rfl ?_
        refine at_mc 4 rfl rfl rfl (.inr rfl) (by dsimp only [constD]) (by dsimp only [List.set]) ?_
        refine at_end rfl ?_
        refine at_ret rfl (ret_one (t := 4) rfl rfl ?_ rfl)
        first | (rw [hb]; done) | (simp_all; done) | (simp_all; omega)
      · skip
        refine at_skip rfl ?_
        refine at_seq [1, 1, 1, 0] [1, 1, 1, 1] rfl ?_
        refine at_region rfl ?_
        refine at_mc 4 rfl rfl rfl (.inr rfl) (by dsimp only [constD]) (by dsimp only [List.set]) ?_
        refine at_end rfl ?_
        refine at_ret rfl (ret_one (t := 4) rfl rfl ?_ rfl)
        first | (rw [hb]; done) | (simp_all; done) | (simp_all; omega)

set_option maxRecDepth 20000 in
theorem scompare_spec (a b : List Int) (hs : a.length ≤ 1000000) : FSpec PP 63 [dl a, dl b] σ0 (di (cmpL a b)) σ0 := by
  refine spec_at cSCompare Try.func63 rfl (by kernel_rfl) (by first | decide | simp) _ (by dsimp only [Try.f63, List.length, Nat.reduceAdd, Nat.reduceSub, List.replicate, List.cons_append, List.nil_append]) ?_
  refine at_seq [0] [1] rfl ?_
  refine at_region rfl ?_
  refine at_mc 4 rfl rfl rfl (.inr rfl) (by dsimp only [constD]) (by dsimp only [List.set]) ?_
  refine at_end rfl ?_
  refine at_seq [1, 0] [1, 1] rfl ?_
  refine at_seq [1, 0, 0] [1, 0, 1] rfl ?_
  refine at_region rfl ?_
  refine at_mv 0 9 rfl rfl rfl (.inl rfl) rfl (by dsimp only [List.set]) ?_
  first | (refine at_op (some 10) rfl rfl rfl rfl (op_lenL rfl uInts) (by dsimp only [putD, List.set]) ?_) | (refine at_op (some 10) rfl rfl rfl rfl (opOK_un (op_lenL rfl uInts)) (by dsimp only [putD, List.set]) ?_) | (refine at_op (some 10) rfl rfl rfl rfl (op_lenA rfl uInts) (by dsimp only [putD, List.set]) ?_)
  refine at_mc 11 rfl rfl rfl (.inl rfl) (by dsimp only [constD]) (by dsimp only [List.set]) ?_
  refine at_end rfl ?_
  refine at_block [1, 0, 1, 0] 0 rfl ?_
  refine at_loop [1, 0, 1, 0, 0] rfl ?_
  try simp only [List.length_map, List.length_nil, Int.toNat_natCast]
  exact scompare_loop a b hs _ 0 rfl (by omega) (by simp)

noncomputable def cOr : Code := Try.f61.body.getD .skip
set_option maxRecDepth 20000 in
theorem or_loop (a : List Int) (hs : a.length ≤ 1000000) (m : Nat) : ∀ i : Nat, a.length - i = m → orL a = orL (a.drop i) → Run PP (fun env σ1 => ResOK PP Try.f61 env σ1 (di (orL a)) σ0) [.lp (sub cOr [1, 1, 0, 1, 0, 0]), .blk 0, .code (sub cOr [1, 1, 1])] ((dl a) :: .undef :: (di 0) :: (di 0) :: .undef :: .undef :: (dl a) :: (di ↑a.length) :: (di ↑i) :: .undef :: .undef :: .undef :: .undef :: .undef :: .undef :: .undef :: .undef :: .undef :: []) σ0 := by
  induction m using Nat.strongRecOn with
  | _ m ih =>
    intro i hm hb
    refine run_lp ?_
    refine at_seq [1, 1, 0, 1, 0, 0, 0] [1, 1, 0, 1, 0, 0, 1] rfl ?_
    refine at_region rfl ?_
    refine at_op (some 9) rfl rfl rfl rfl (op_binI rfl rfl) (by dsimp only [putD, List.set]) ?_
    refine at_end rfl ?_
    refine at_seq [1, 1, 0, 1, 0, 0, 1, 0] [1, 1, 0, 1, 0, 0, 1, 1] rfl ?_
    refine at_cond [1, 1, 0, 1, 0, 0, 1, 0, 0] [1, 1, 0, 1, 0, 0, 1, 0, 1] rfl rfl (fun hc1 => ?_) (fun hc1 => ?_)
    · skip
      have hlt : i < a.length := by simpa using hc1
      obtain ⟨x, hx⟩ := get_ex hlt
      rw [orL_at hx] at hb
      refine at_skip rfl ?_
      refine at_seq [1, 1, 0, 1, 0, 0, 1, 1, 0] [1, 1, 0, 1, 0, 0, 1, 1, 1] rfl ?_
      refine at_block [1, 1, 0, 1, 0, 0, 1, 1, 0, 0] 1 rfl ?_
      refine at_seq [1, 1, 0, 1, 0, 0, 1, 1, 0, 0, 0] [1, 1, 0, 1, 0, 0, 1, 1, 0, 0, 1] rfl ?_
      refine at_region rfl ?_
      first | (refine at_op (some 10) rfl rfl rfl rfl (op_idxL rfl slInt (by first | decide | omega) (by first | exact idx_some (by assumption) | assumption | rfl) (by first | rfl | (simp [V.size]; done))) (by dsimp only [putD, List.set]) ?_) | (refine at_op (some 10) rfl rfl rfl rfl (opOK_un (op_idxL rfl slInt (by first | decide | omega) (by first | exact idx_some (by assumption) | assumption | rfl) (by first | rfl | (simp [V.size]; done)))) (by dsimp only [putD, List.set]) ?_) | (refine at_op (some 10) rfl rfl rfl rfl (op_idxA rfl slInt (by first | decide | omega) (by first | decide | omega)) (by dsimp only [putD, List.set]) ?_)
      first | (refine at_op (some 11) rfl rfl rfl rfl (op_loadR1 rfl oneInt rfl) (by dsimp only [putD, List.set]) ?_) | (refine at_op (some 11) rfl rfl rfl rfl (op_loadP1 rfl oneInt rfl rfl) (by dsimp only [putD, List.set]) ?_)
      refine at_mv 11 5 rfl rfl rfl (.inr rfl) rfl (by dsimp only [List.set]) ?_
      refine at_end rfl ?_
      refine at_seq [1, 1, 0, 1, 0, 0, 1, 1, 0, 0, 1, 0] [1, 1, 0, 1, 0, 0, 1, 1, 0, 0, 1, 1] rfl ?_
      refine at_region rfl ?_
      refine at_mv 5 12 rfl rfl rfl (.inl rfl) rfl (by dsimp only [List.set]) ?_
      refine at_mv 3 13 rfl rfl rfl (.inl rfl) rfl (by dsimp only [List.set]) ?_
      refine at_op (some 14) rfl rfl rfl rfl (op_binI rfl rfl) (by dsimp only [putD, List.set]) ?_
      refine at_end rfl ?_
      refine at_cond [1, 1, 0, 1, 0, 0, 1, 1, 0, 0, 1, 1, 0] [1, 1, 0, 1, 0, 0, 1, 1, 0, 0, 1, 1, 1] rfl rfl (fun hc2 => ?_) (fun hc2 => ?_)
      · skip
        refine at_seq [1, 1, 0, 1, 0, 0, 1, 1, 0, 0, 1, 1, 0, 0] [1, 1, 0, 1, 0, 0, 1, 1, 0, 0, 1, 1, 0, 1] rfl ?_
        refine at_region rfl ?_
        refine at_mv 5 15 rfl rfl rfl (.inl rfl) rfl (by dsimp only [List.set]) ?_
        refine at_mv 15 2 rfl rfl rfl (.inr rfl) rfl (by dsimp only [List.set]) ?_
        refine at_end rfl ?_
        refine at_ret rfl (ret_one (t := 2) rfl rfl ?_ rfl)
        first | (rw [hb]; done) | (simp_all; done)
      · skip
        refine at_skip rfl ?_
        refine run_blk ?_
        refine at_region rfl ?_
        refine at_op (some 16) rfl rfl rfl rfl (op_binI rfl rfl) (by dsimp only [putD, List.set]) ?_
        refine at_mv 16 8 rfl rfl rfl (.inl rfl) rfl (by dsimp only [List.set]) ?_
        refine at_end rfl ?_
        rw [wrap_succ (by omega)]
        exact run_wk (.keep (.drop (.keep (.keep (.drop (.drop (.keep (.keep (.keep (.drop (.drop (.drop (.drop (.drop (.drop (.drop (.drop (.drop .nil)))))))))))))))))) (ih _ (by omega) (i + 1) rfl (by simp_all))
    · skip
      have hge : a.length ≤ i := by simpa using hc1
      rw [orL_end hge] at hb
      refine at_exit rfl rfl ?_
      refine at_seq [1, 1, 1, 0] [1, 1, 1, 1] rfl ?_
      refine at_region rfl ?_
      refine at_mv 3 17 rfl rfl rfl (.inl rfl) rfl (by dsimp only [List.set]) ?_
      refine at_mv 17 2 rfl rfl rfl (.inr rfl) rfl (by dsimp only [List.set]) ?_
      refine at_end rfl ?_
      refine at_ret rfl (ret_one (t := 2) rfl rfl ?_ rfl)
      first | (rw [hb]; done) | (simp_all; done)

set_option maxRecDepth 20000 in
theorem or_spec (a : List Int) (hs : a.length ≤ 1000000) : FSpec PP 61 [dl a] σ0 (di (orL a)) σ0 := by
  refine spec_at cOr Try.func61 rfl (by kernel_rfl) (by first | decide | simp) _ (by dsimp only [Try.f61, List.length, Nat.reduceAdd, Nat.reduceSub, List.replicate, List.cons_append, List.nil_append]) ?_
  refine at_seq [0] [1] rfl ?_
  refine at_region rfl ?_
  refine at_mc 2 rfl rfl rfl (.inr rfl) (by dsimp only [constD]) (by dsimp only [List.set]) ?_
  refine at_end rfl ?_
  refine at_seq [1, 0] [1, 1] rfl ?_
  refine at_region rfl ?_
  refine at_mc 3 rfl rfl rfl (.inr rfl) (by dsimp only [constD]) (by dsimp only [List.set]) ?_
  refine at_end rfl ?_
  refine at_seq [1, 1, 0] [1, 1, 1] rfl ?_
  refine at_seq [1, 1, 0, 0] [1, 1, 0, 1] rfl ?_
  refine at_region rfl ?_
  refine at_mv 0 6 rfl rfl rfl (.inl rfl) rfl (by dsimp only [List.set]) ?_
  first | (refine at_op (some 7) rfl rfl rfl rfl (op_lenL rfl uInts) (by dsimp only [putD, List.set]) ?_) | (refine at_op (some 7) rfl rfl rfl rfl (opOK_un (op_lenL rfl uInts)) (by dsimp only [putD, List.set]) ?_) | (refine at_op (some 7) rfl rfl rfl rfl (op_lenA rfl uInts) (by dsimp only [putD, List.set]) ?_)
  refine at_mc 8 rfl rfl rfl (.inl rfl) (by dsimp only [constD]) (by dsimp only [List.set]) ?_
  refine at_end rfl ?_
  refine at_block [1, 1, 0, 1, 0] 0 rfl ?_
  refine at_loop [1, 1, 0, 1, 0, 0] rfl ?_
  try simp only [List.length_map, List.length_nil, Int.toNat_natCast]
  exact or_loop a hs _ 0 rfl (by simp)

noncomputable def cVCompare : Code := Try.f25.body.getD .skip
set_option maxRecDepth 20000 in
theorem vcompare_spec (a b : List Int) (hs : a.length ≤ 1000000) : FSpec PP 25 [dl a, dl b] σ0 (di (cmpV a b)) σ0 := by
  refine spec_at cVCompare Try.func25 rfl (by kernel_rfl) (by first | decide | simp) _ (by dsimp only [Try.f25, List.length, Nat.reduceAdd, Nat.reduceSub, List.replicate, List.cons_append, List.nil_append]) ?_
  refine at_seq [0] [1] rfl ?_
  refine at_region rfl ?_
  refine at_mc 4 rfl rfl rfl (.inr rfl) (by dsimp only [constD]) (by dsimp only [List.set]) ?_
  refine at_end rfl ?_
  refine at_seq [1, 0] [1, 1] rfl ?_
  refine at_region rfl ?_
  refine at_mv 0 5 rfl rfl rfl (.inl rfl) rfl (by dsimp only [List.set]) ?_
  first | (refine at_op (some 6) rfl rfl rfl rfl (op_lenL rfl uInts) (by dsimp only [putD, List.set]) ?_) | (refine at_op (some 6) rfl rfl rfl rfl (opOK_un (op_lenL rfl uInts)) (by dsimp only [putD, List.set]) ?_) | (refine at_op (some 6) rfl rfl rfl rfl (op_lenA rfl uInts) (by dsimp only [putD, List.set]) ?_)
  refine at_mv 1 7 rfl rfl rfl (.inl rfl) rfl (by dsimp only [List.set]) ?_
  first | (refine at_op (some 8) rfl rfl rfl rfl (op_lenL rfl uInts) (by dsimp only [putD, List.set]) ?_) | (refine at_op (some 8) rfl rfl rfl rfl (opOK_un (op_lenL rfl uInts)) (by dsimp only [putD, List.set]) ?_) | (refine at_op (some 8) rfl rfl rfl rfl (op_lenA rfl uInts) (by dsimp only [putD, List.set]) ?_)
  refine at_op (some 9) rfl rfl rfl rfl (op_call0 rfl rfl rfl rfl (compare_spec _ _)) (by dsimp only [putD, List.set]) ?_
  refine at_mv 0 10 rfl rfl rfl (.inl rfl) rfl (by dsimp only [List.set]) ?_
  refine at_mv 1 11 rfl rfl rfl (.inl rfl) rfl (by dsimp only [List.set]) ?_
  refine at_op (some 12) rfl rfl rfl rfl (op_call0 rfl rfl rfl rfl (scompare_spec _ _ hs)) (by dsimp only [putD, List.set]) ?_
  refine at_op (some 13) rfl rfl rfl rfl (op_buildSlice rfl (by rfl) (by rfl) slInt rfl rfl (by simp [V.size]) (by decide) (by decide) (by decide)) (by dsimp only [putD, List.set]) ?_
  simp only [List.length_map]
  refine at_op (some 14) rfl rfl rfl rfl (op_call0 rfl rfl rfl rfl (or_spec [ord a.length b.length, cmpL a b] (by simp))) (by dsimp only [putD, List.set]) ?_
  refine at_mv 14 4 rfl rfl rfl (.inr rfl) rfl (by dsimp only [List.set]) ?_
  refine at_end rfl ?_
  refine at_ret rfl (ret_one (t := 4) rfl rfl ?_ rfl)
  simp only [orL, cmpV]
  by_cases h : ord ↑a.length ↑b.length = 0
  · simp [h]; intro h2; exact h2.symm
  · simp [h]

noncomputable def cROrder : Code := Try.f70.body.getD .skip
set_option maxRecDepth 20000 in
theorem order_spec (x y : Int) : FSpec PP 70 [di x, di y] σ0 (di (ord x y)) σ0 := by
  refine spec_at cROrder Try.func70 rfl (by kernel_rfl) (by first | decide | simp) _ (by dsimp only [Try.f70, List.length, Nat.reduceAdd, Nat.reduceSub, List.replicate, List.cons_append, List.nil_append]) ?_
  refine at_seq [0] [1] rfl ?_
  refine at_region rfl ?_
  refine at_mc 4 rfl rfl rfl (.inr rfl) (by dsimp only [constD]) (by dsimp only [List.set]) ?_
  refine at_end rfl ?_
  refine at_seq [1, 0] [1, 1] rfl ?_
  refine at_seq [1, 0, 0] [1, 0, 1] rfl ?_
  refine at_region rfl ?_
  refine at_mv 0 5 rfl rfl rfl (.inl rfl) rfl (by dsimp only [List.set]) ?_
  refine at_mv 1 6 rfl rfl rfl (.inl rfl) rfl (by dsimp only [List.set]) ?_
  refine at_op (some 7) rfl rfl rfl rfl (op_binI rfl rfl) (by dsimp only [putD, List.set]) ?_
  refine at_end rfl ?_
  refine at_cond [1, 0, 1, 0] [1, 0, 1, 1] rfl rfl (fun hc1 => ?_) (fun hc1 => ?_)
  · skip
    refine at_seq [1, 0, 1, 0, 0] [1, 0, 1, 0, 1] rfl ?_
    refine at_region rfl ?_
    refine at_mc 4 rfl rfl rfl (.inr rfl) (by dsimp only [constD]) (by dsimp only [List.set]) ?_
    refine at_end rfl ?_
    refine at_ret rfl (ret_one (t := 4) rfl rfl ?_ rfl)
    first | (exfalso; simp at *; done) | (simp at *; unfold ord; split <;> (try split) <;> first | rfl | omega)
  · skip
    refine at_skip rfl ?_
    refine at_seq [1, 1, 0] [1, 1, 1] rfl ?_
    refine at_seq [1, 1, 0, 0] [1, 1, 0, 1] rfl ?_
    refine at_region rfl ?_
    refine at_mv 0 8 rfl rfl rfl (.inl rfl) rfl (by dsimp only [List.set]) ?_
    refine at_mv 1 9 rfl rfl rfl (.inl rfl) rfl (by dsimp only [List.set]) ?_
    refine at_op (some 10) rfl rfl rfl rfl (op_binI rfl rfl) (by dsimp only [putD, List.set]) ?_
    refine at_end rfl ?_
    refine at_cond [1, 1, 0, 1, 0] [1, 1, 0, 1, 1] rfl rfl (fun hc2 => ?_) (fun hc2 => ?_)
    · skip
      refine at_seq [1, 1, 0, 1, 0, 0] [1, 1, 0, 1, 0, 1] rfl ?_
      refine at_region rfl ?_
      refine at_mc 4 rfl rfl rfl (.inr rfl) (by dsimp only [constD]) (by dsimp only [List.set]) ?_
      refine at_end rfl ?_
      refine at_ret rfl (ret_one (t := 4) rfl rfl ?_ rfl)
      first | (exfalso; simp at *; done) | (simp at *; unfold ord; split <;> (try split) <;> first | rfl | omega)
    · skip
      refine at_skip rfl ?_
      refine at_seq [1, 1, 1, 0] [1, 1, 1, 1] rfl ?_
      refine at_region rfl ?_
      refine at_mc 4 rfl rfl rfl (.inr rfl) (by dsimp only [constD]) (by dsimp only [List.set]) ?_
      refine at_end rfl ?_
      refine at_ret rfl (ret_one (t := 4) rfl rfl ?_ rfl)
      first | (exfalso; simp at *; done) | (simp at *; unfold ord; split <;> (try split) <;> first | rfl | omega)

noncomputable def cRCompare : Code := Try.f35.body.getD .skip
set_option maxRecDepth 20000 in
theorem rcompare_loop (a b : List Int) (h : a.length = b.length) (hs : a.length ≤ 1000000) (m : Nat) : ∀ i : Nat, a.length - i = m → i ≤ a.length → cmpV a b = cmpL (a.drop i) (b.drop i) → Run PP (fun env σ1 => ResOK PP Try.f35 env σ1 (di (cmpV a b)) σ0) [.lp (sub cRCompare [1, 1, 0, 1, 0, 0]), .blk 0, .code (sub cRCompare [1, 1, 1])] ((dl a) :: (dl b) :: .undef :: .undef :: (di 0) :: (di ↑i) :: .undef :: .undef :: .undef :: .undef :: .undef :: .undef :: .undef :: .undef :: .undef :: .undef :: .undef :: .undef :: .undef :: .undef :: .undef :: .undef :: .undef :: .undef :: .undef :: .undef :: .undef :: .undef :: .undef :: .undef :: .undef :: .undef :: .undef :: .undef :: .undef :: .undef :: .undef :: .undef :: .undef :: .undef :: []) σ0 := by
  induction m using Nat.strongRecOn with
  | _ m ih =>
    intro i hm hi hb
    refine run_lp ?_
    refine at_seq [1, 1, 0, 1, 0, 0, 0] [1, 1, 0, 1, 0, 0, 1] rfl ?_
    refine at_seq [1, 1, 0, 1, 0, 0, 0, 0] [1, 1, 0, 1, 0, 0, 0, 1] rfl ?_
    refine at_region rfl ?_
    refine at_mv 5 16 rfl rfl rfl (.inl rfl) rfl (by dsimp only [List.set]) ?_
    refine at_mv 0 17 rfl rfl rfl (.inl rfl) rfl (by dsimp only [List.set]) ?_
    first | (refine at_op (some 18) rfl rfl rfl rfl (op_lenL rfl uInts) (by dsimp only [putD, List.set]) ?_) | (refine at_op (some 18) rfl rfl rfl rfl (opOK_un (op_lenL rfl uInts)) (by dsimp only [putD, List.set]) ?_) | (refine at_op (some 18) rfl rfl rfl rfl (op_lenA rfl uInts) (by dsimp only [putD, List.set]) ?_)
    refine at_op (some 19) rfl rfl rfl rfl (op_binI rfl rfl) (by dsimp only [putD, List.set]) ?_
    refine at_end rfl ?_
    refine at_cond [1, 1, 0, 1, 0, 0, 0, 1, 0] [1, 1, 0, 1, 0, 0, 0, 1, 1] rfl rfl (fun hc1 => ?_) (fun hc1 => ?_)
    · skip
      have hlt : i < a.length := by simpa using hc1
      obtain ⟨x, hx⟩ := get_ex hlt
      obtain ⟨y, hy⟩ := get_ex (a := b) (i := i) (by omega)
      rw [cmpL_at hx hy] at hb
      refine at_skip rfl ?_
      refine at_seq [1, 1, 0, 1, 0, 0, 1, 0] [1, 1, 0, 1, 0, 0, 1, 1] rfl ?_
      refine at_block [1, 1, 0, 1, 0, 0, 1, 0, 0] 1 rfl ?_
      refine at_seq [1, 1, 0, 1, 0, 0, 1, 0, 0, 0] [1, 1, 0, 1, 0, 0, 1, 0, 0, 1] rfl ?_
      refine at_draw mixed rfl [σ0] rfl ?_
      refine da_mv 0 22 rfl rfl rfl (.inl rfl) rfl (by dsimp only [List.set]) ?_
      refine da_mv 5 23 rfl rfl rfl (.inl rfl) rfl (by dsimp only [List.set]) ?_
      first | (refine da_quiet (some 24) rfl rfl rfl rfl (fun s hs => op_idxL rfl slInt (by first | decide | omega) (by first | exact idx_some (by assumption) | assumption | rfl) (by first | rfl | (simp [V.size]; done))) (by dsimp only [putD, List.set]) ?_) | (refine da_quiet (some 24) rfl rfl rfl rfl (fun s hs => opOK_un (op_idxL rfl slInt (by first | decide | omega) (by first | exact idx_some (by assumption) | assumption | rfl) (by first | rfl | (simp [V.size]; done)))) (by dsimp only [putD, List.set]) ?_) | (refine da_quiet (some 24) rfl rfl rfl rfl (fun s hs => op_idxA rfl slInt (by first | decide | omega) (by first | decide | omega)) (by dsimp only [putD, List.set]) ?_)
      first | (refine da_quiet (some 25) rfl rfl rfl rfl (fun s hs => op_loadR1 rfl oneInt rfl) (by dsimp only [putD, List.set]) ?_) | (refine da_quiet (some 25) rfl rfl rfl rfl (by intro s hs; simp only [List.mem_cons, List.not_mem_nil, or_false] at hs; rcases hs with rfl <;> exact op_loadP1 rfl oneInt rfl rfl) (by dsimp only [putD, List.set]) ?_)
      refine da_mv 1 26 rfl rfl rfl (.inl rfl) rfl (by dsimp only [List.set]) ?_
      refine da_mv 5 27 rfl rfl rfl (.inl rfl) rfl (by dsimp only [List.set]) ?_
      first | (refine da_quiet (some 28) rfl rfl rfl rfl (fun s hs => op_idxL rfl slInt (by first | decide | omega) (by first | exact idx_some (by assumption) | assumption | rfl) (by first | rfl | (simp [V.size]; done))) (by dsimp only [putD, List.set]) ?_) | (refine da_quiet (some 28) rfl rfl rfl rfl (fun s hs => opOK_un (op_idxL rfl slInt (by first | decide | omega) (by first | exact idx_some (by assumption) | assumption | rfl) (by first | rfl | (simp [V.size]; done)))) (by dsimp only [putD, List.set]) ?_) | (refine da_quiet (some 28) rfl rfl rfl rfl (fun s hs => op_idxA rfl slInt (by first | decide | omega) (by first | decide | omega)) (by dsimp only [putD, List.set]) ?_)
      first | (refine da_quiet (some 29) rfl rfl rfl rfl (fun s hs => op_loadR1 rfl oneInt rfl) (by dsimp only [putD, List.set]) ?_) | (refine da_quiet (some 29) rfl rfl rfl rfl (by intro s hs; simp only [List.mem_cons, List.not_mem_nil, or_false] at hs; rcases hs with rfl <;> exact op_loadP1 rfl oneInt rfl rfl) (by dsimp only [putD, List.set]) ?_)
      refine da_quiet (some 30) rfl rfl rfl rfl (fun s hs => op_binI rfl rfl) (by dsimp only [putD, List.set]) ?_
      refine da_end rfl ⟨by decide +kernel, _, rfl, ?_⟩
      refine at_cond [1, 1, 0, 1, 0, 0, 1, 0, 0, 1, 0] [1, 1, 0, 1, 0, 0, 1, 0, 0, 1, 1] rfl rfl (fun hc2 => ?_) (fun hc2 => ?_)
      · skip
        refine at_seq [1, 1, 0, 1, 0, 0, 1, 0, 0, 1, 0, 0] [1, 1, 0, 1, 0, 0, 1, 0, 0, 1, 0, 1] rfl ?_
        refine at_draw mixed rfl [σ0] rfl ?_
        refine da_mv 0 31 rfl rfl rfl (.inl rfl) rfl (by dsimp only [List.set]) ?_
        refine da_mv 5 32 rfl rfl rfl (.inl rfl) rfl (by dsimp only [List.set]) ?_
        first | (refine da_quiet (some 33) rfl rfl rfl rfl (fun s hs => op_idxL rfl slInt (by first | decide | omega) (by first | exact idx_some (by assumption) | assumption | rfl) (by first | rfl | (simp [V.size]; done))) (by dsimp only [putD, List.set]) ?_) | (refine da_quiet (some 33) rfl rfl rfl rfl (fun s hs => opOK_un (op_idxL rfl slInt (by first | decide | omega) (by first | exact idx_some (by assumption) | assumption | rfl) (by first | rfl | (simp [V.size]; done)))) (by dsimp only [putD, List.set]) ?_) | (refine da_quiet (some 33) rfl rfl rfl rfl (fun s hs => op_idxA rfl slInt (by first | decide | omega) (by first | decide | omega)) (by dsimp only [putD, List.set]) ?_)
        first | (refine da_quiet (some 34) rfl rfl rfl rfl (fun s hs => op_loadR1 rfl oneInt rfl) (by dsimp only [putD, List.set]) ?_) | (refine da_quiet (some 34) rfl rfl rfl rfl (by intro s hs; simp only [List.mem_cons, List.not_mem_nil, or_false] at hs; rcases hs with rfl <;> exact op_loadP1 rfl oneInt rfl rfl) (by dsimp only [putD, List.set]) ?_)
        refine da_mv 1 35 rfl rfl rfl (.inl rfl) rfl (by dsimp only [List.set]) ?_
        refine da_mv 5 36 rfl rfl rfl (.inl rfl) rfl (by dsimp only [List.set]) ?_
        first | (refine da_quiet (some 37) rfl rfl rfl rfl (fun s hs => op_idxL rfl slInt (by first | decide | omega) (by first | exact idx_some (by assumption) | assumption | rfl) (by first | rfl | (simp [V.size]; done))) (by dsimp only [putD, List.set]) ?_) | (refine da_quiet (some 37) rfl rfl rfl rfl (fun s hs => opOK_un (op_idxL rfl slInt (by first | decide | omega) (by first | exact idx_some (by assumption) | assumption | rfl) (by first | rfl | (simp [V.size]; done)))) (by dsimp only [putD, List.set]) ?_) | (refine da_quiet (some 37) rfl rfl rfl rfl (fun s hs => op_idxA rfl slInt (by first | decide | omega) (by first | decide | omega)) (by dsimp only [putD, List.set]) ?_)
        first | (refine da_quiet (some 38) rfl rfl rfl rfl (fun s hs => op_loadR1 rfl oneInt rfl) (by dsimp only [putD, List.set]) ?_) | (refine da_quiet (some 38) rfl rfl rfl rfl (by intro s hs; simp only [List.mem_cons, List.not_mem_nil, or_false] at hs; rcases hs with rfl <;> exact op_loadP1 rfl oneInt rfl rfl) (by dsimp only [putD, List.set]) ?_)
        refine da_quiet (some 39) rfl rfl rfl rfl (fun s hs => op_call0 rfl rfl rfl rfl (order_spec _ _)) (by dsimp only [putD, List.set]) ?_
        refine da_mv 39 4 rfl rfl rfl (.inr rfl) rfl (by dsimp only [List.set]) ?_
        refine da_end rfl ⟨by decide +kernel, _, rfl, ?_⟩
        refine at_ret rfl (ret_one (t := 4) rfl rfl ?_ rfl)
        first | (rw [hb]; done) | (simp_all [ord_zero]; done)
      · skip
        refine at_skip rfl ?_
        refine run_blk ?_
        refine at_region rfl ?_
        refine at_mv 5 20 rfl rfl rfl (.inl rfl) rfl (by dsimp only [List.set]) ?_
        refine at_op (some 21) rfl rfl rfl rfl (op_binI rfl rfl) (by dsimp only [putD, List.set]) ?_
        refine at_mv 21 5 rfl rfl rfl (.inr rfl) rfl (by dsimp only [List.set]) ?_
        refine at_end rfl ?_
        rw [wrap_succ (by omega)]
        exact run_wk (.keep (.keep (.drop (.drop (.keep (.keep (.drop (.drop (.drop (.drop (.drop (.drop (.drop (.drop (.drop (.drop (.drop (.drop (.drop (.drop (.drop (.drop (.drop (.drop (.drop (.drop (.drop (.drop (.drop (.drop (.drop (.drop (.drop (.drop (.drop (.drop (.drop (.drop (.drop (.drop .nil)))))))))))))))))))))))))))))))))))))))) (ih _ (by omega) (i + 1) rfl (by omega) (by simp_all [ord_zero]))
    · skip
      have hge : a.length ≤ i := by simpa using hc1
      rw [cmpL_end (by omega), if_neg (by omega)] at hb
      refine at_exit rfl rfl ?_
      refine at_seq [1, 1, 1, 0] [1, 1, 1, 1] rfl ?_
      refine at_region rfl ?_
      refine at_mc 4 rfl rfl rfl (.inr rfl) (by dsimp only [constD]) (by dsimp only [List.set]) ?_
      refine at_end rfl ?_
      refine at_ret rfl (ret_one (t := 4) rfl rfl ?_ rfl)
      first | (rw [hb]; done) | (simp_all [ord_zero]; done)

set_option maxRecDepth 20000 in
theorem rcompare_spec (a b : List Int) (hs : a.length ≤ 1000000) : FSpec PP 35 [dl a, dl b] σ0 (di (cmpV a b)) σ0 := by
  refine spec_at cRCompare Try.func35 rfl (by kernel_rfl) (by first | decide | simp) _ (by dsimp only [Try.f35, List.length, Nat.reduceAdd, Nat.reduceSub, List.replicate, List.cons_append, List.nil_append]) ?_
  refine at_seq [0] [1] rfl ?_
  refine at_region rfl ?_
  refine at_mc 4 rfl rfl rfl (.inr rfl) (by dsimp only [constD]) (by dsimp only [List.set]) ?_
  refine at_end rfl ?_
  refine at_seq [1, 0] [1, 1] rfl ?_
  refine at_seq [1, 0, 0] [1, 0, 1] rfl ?_
  refine at_region rfl ?_
  refine at_mv 0 6 rfl rfl rfl (.inl rfl) rfl (by dsimp only [List.set]) ?_
  first | (refine at_op (some 7) rfl rfl rfl rfl (op_lenL rfl uInts) (by dsimp only [putD, List.set]) ?_) | (refine at_op (some 7) rfl rfl rfl rfl (opOK_un (op_lenL rfl uInts)) (by dsimp only [putD, List.set]) ?_) | (refine at_op (some 7) rfl rfl rfl rfl (op_lenA rfl uInts) (by dsimp only [putD, List.set]) ?_)
  refine at_mv 1 8 rfl rfl rfl (.inl rfl) rfl (by dsimp only [List.set]) ?_
  first | (refine at_op (some 9) rfl rfl rfl rfl (op_lenL rfl uInts) (by dsimp only [putD, List.set]) ?_) | (refine at_op (some 9) rfl rfl rfl rfl (opOK_un (op_lenL rfl uInts)) (by dsimp only [putD, List.set]) ?_) | (refine at_op (some 9) rfl rfl rfl rfl (op_lenA rfl uInts) (by dsimp only [putD, List.set]) ?_)
  refine at_op (some 10) rfl rfl rfl rfl (op_binI rfl rfl) (by dsimp only [putD, List.set]) ?_
  refine at_end rfl ?_
  refine at_cond [1, 0, 1, 0] [1, 0, 1, 1] rfl rfl (fun hc1 => ?_) (fun hc1 => ?_)
  · skip
    refine at_seq [1, 0, 1, 0, 0] [1, 0, 1, 0, 1] rfl ?_
    refine at_region rfl ?_
    refine at_mv 0 11 rfl rfl rfl (.inl rfl) rfl (by dsimp only [List.set]) ?_
    first | (refine at_op (some 12) rfl rfl rfl rfl (op_lenL rfl uInts) (by dsimp only [putD, List.set]) ?_) | (refine at_op (some 12) rfl rfl rfl rfl (opOK_un (op_lenL rfl uInts)) (by dsimp only [putD, List.set]) ?_) | (refine at_op (some 12) rfl rfl rfl rfl (op_lenA rfl uInts) (by dsimp only [putD, List.set]) ?_)
    refine at_mv 1 13 rfl rfl rfl (.inl rfl) rfl (by dsimp only [List.set]) ?_
    first | (refine at_op (some 14) rfl rfl rfl rfl (op_lenL rfl uInts) (by dsimp only [putD, List.set]) ?_) | (refine at_op (some 14) rfl rfl rfl rfl (opOK_un (op_lenL rfl uInts)) (by dsimp only [putD, List.set]) ?_) | (refine at_op (some 14) rfl rfl rfl rfl (op_lenA rfl uInts) (by dsimp only [putD, List.set]) ?_)
    refine at_op (some 15) rfl rfl rfl rfl (op_call0 rfl rfl rfl rfl (order_spec _ _)) (by dsimp only [putD, List.set]) ?_
    refine at_mv 15 4 rfl rfl rfl (.inr rfl) rfl (by dsimp only [List.set]) ?_
    refine at_end rfl ?_
    refine at_ret rfl (ret_one (t := 4) rfl rfl ?_ rfl)
    have hn : ¬ ord ↑a.length ↑b.length = 0 := by rw [ord_zero]; simp at *; omega
    simp [cmpV, hn]
  · skip
    refine at_skip rfl ?_
    refine at_seq [1, 1, 0] [1, 1, 1] rfl ?_
    refine at_seq [1, 1, 0, 0] [1, 1, 0, 1] rfl ?_
    refine at_region rfl ?_
    refine at_mc 5 rfl rfl rfl (.inr rfl) (by dsimp only [constD]) (by dsimp only [List.set]) ?_
    refine at_end rfl ?_
    refine at_block [1, 1, 0, 1, 0] 0 rfl ?_
    refine at_loop [1, 1, 0, 1, 0, 0] rfl ?_
    try simp only [List.length_map, List.length_nil, Int.toNat_natCast]
    have h : a.length = b.length := by simp_all; omega
    exact run_wk (.keep (.keep (.drop (.drop (.keep (.keep (.drop (.drop (.drop (.drop (.drop (.drop (.drop (.drop (.drop (.drop (.drop (.drop (.drop (.drop (.drop (.drop (.drop (.drop (.drop (.drop (.drop (.drop (.drop (.drop (.drop (.drop (.drop (.drop (.drop (.drop (.drop (.drop (.drop (.drop .nil)))))))))))))))))))))))))))))))))))))))) (rcompare_loop a b h hs _ 0 rfl (by omega) (by simp [cmpV, h, ord]))

noncomputable def cSame : Code := Try.f24.body.getD .skip
set_option maxRecDepth 20000 in
theorem same_spec (a b : List Int) (hs : a.length ≤ 1000000) : FSpec PP 24 [dl a, dl b] σ0 (db (cmpV a b == 0)) σ0 := by
  refine spec_at cSame Try.func24 rfl (by kernel_rfl) (by first | decide | simp) _ (by dsimp only [Try.f24, List.length, Nat.reduceAdd, Nat.reduceSub, List.replicate, List.cons_append, List.nil_append]) ?_
  refine at_seq [0] [1] rfl ?_
  refine at_region rfl ?_
  refine at_mc 4 rfl rfl rfl (.inr rfl) (by dsimp only [constD]) (by dsimp only [List.set]) ?_
  refine at_end rfl ?_
  refine at_seq [1, 0] [1, 1] rfl ?_
  refine at_region rfl ?_
  refine at_mv 0 5 rfl rfl rfl (.inl rfl) rfl (by dsimp only [List.set]) ?_
  refine at_mv 1 6 rfl rfl rfl (.inl rfl) rfl (by dsimp only [List.set]) ?_
  refine at_op (some 7) rfl rfl rfl rfl (op_call0 rfl rfl rfl rfl (rcompare_spec _ _ hs)) (by dsimp only [putD, List.set]) ?_
  refine at_op (some 8) rfl rfl rfl rfl (op_binI rfl rfl) (by dsimp only [putD, List.set]) ?_
  refine at_mv 8 4 rfl rfl rfl (.inr rfl) rfl (by dsimp only [List.set]) ?_
  refine at_end rfl ?_
  refine at_ret rfl (ret_one (t := 4) rfl rfl ?_ rfl)
  rfl

end Go.Proofs.Ytoofgniepbidnaa
