/-
  Package coverabilityref01, walked: what is valid, the plain order, sums and bounds.
-/
import Derived.Test.YtoofgniepbidnaaWe
namespace Go.Proofs.Ytoofgniepbidnaa
open Go.Dv

theorem all_at {p : Int → Bool} {a : List Int} {i : Nat} {x : Int} (hx : a[i]? = some x) : (a.drop i).all p = (p x && (a.drop (i + 1)).all p) := by
  obtain ⟨ha1, ha2⟩ := List.getElem?_eq_some_iff.1 hx
  rw [List.drop_eq_getElem_cons ha1, ha2]; rfl
theorem all_end {p : Int → Bool} {a : List Int} {i : Nat} (hx : a.length ≤ i) : (a.drop i).all p = true := by rw [List.drop_of_length_le hx]; rfl
def nOm (x : Int) : Bool := !(x == 1099511627776)
theorem isEl_num (x : Int) : isNum x = (isEl x && nOm x) := by
  by_cases h : x = 1099511627776
  · subst h; decide
  · have h2 : (x == 1099511627776) = false := by simpa using h
    simp [isEl, nOm, h2]
theorem finite_of : ∀ a : List Int, a.all isNum = (a.all isEl && a.all nOm)
  | [] => rfl
  | x :: a => by simp only [List.all_cons, finite_of a, isEl_num x]; cases isEl x <;> cases nOm x <;> cases a.all isEl <;> simp
theorem finite_eq (a : List Int) : finite a = (valid a && a.all nOm) := by simp only [finite, valid, finite_of, Bool.and_assoc]
def faultM (a b : List Int) : Int := if valid a && valid b then (if a.length = b.length then 0 else 3) else 2
theorem zip_at {f : Int → Int → Int} {a b : List Int} {i : Nat} {x y : Int} (hx : a[i]? = some x) (hy : b[i]? = some y) : List.zipWith f (a.drop i) (b.drop i) = f x y :: List.zipWith f (a.drop (i + 1)) (b.drop (i + 1)) := by
  obtain ⟨ha1, ha2⟩ := List.getElem?_eq_some_iff.1 hx
  obtain ⟨hb1, hb2⟩ := List.getElem?_eq_some_iff.1 hy
  rw [List.drop_eq_getElem_cons ha1, List.drop_eq_getElem_cons hb1, ha2, hb2]; rfl
theorem zip_end {f : Int → Int → Int} {a b : List Int} {i : Nat} (hx : a.length ≤ i) : List.zipWith f (a.drop i) (b.drop i) = [] := by rw [List.drop_of_length_le hx]; simp
theorem all_get {p : Int → Bool} {a : List Int} {i : Nat} {x : Int} (h : a.all p = true) (hx : a[i]? = some x) : p x = true := List.all_eq_true.1 h x (List.mem_of_getElem? hx)
theorem valid_get {a : List Int} {i : Nat} {x : Int} (h : valid a = true) (hx : a[i]? = some x) : 0 ≤ x ∧ x ≤ 1048576 ∨ x = 1099511627776 := by
  simp only [valid, Bool.and_eq_true] at h
  have := all_get h.2 hx
  simpa [isEl, isNum] using this
theorem finite_get {a : List Int} {i : Nat} {x : Int} (h : finite a = true) (hx : a[i]? = some x) : 0 ≤ x ∧ x ≤ 1048576 := by
  simp only [finite, Bool.and_eq_true] at h
  have := all_get h.2 hx
  simpa [isNum] using this
theorem mvi (acc : List Int) (x : Int) : acc.map vi ++ [V.int .i64 x] = (acc ++ [x]).map vi := by simp
/-- what the sum comes to -/
def addU (a b : List Int) : List Int × Int := if (List.zipWith addF a b).all isEl then (List.zipWith addF a b, 0) else ([], 1)
theorem addM_eq (a b : List Int) : addM a b = if faultM a b = 0 then addU a b else ([], faultM a b) := by
  unfold addM addU faultM joinM
  by_cases h1 : (valid a && valid b) = true
  · simp only [h1, if_true]
    by_cases h2 : a.length = b.length
    · simp only [h2, if_true]
      have hl := valid_len (a := a) (by simp at h1; exact h1.1)
      have : valid (List.zipWith addF a b) = (List.zipWith addF a b).all isEl := by
        simp only [valid]; rw [show (decide ((List.zipWith addF a b).length ≤ 6)) = true from by simp; omega]; simp
      simp [this]
    · simp [h2]
  · simp [h1]
theorem join_fault (f : Int → Int → Int) (a b : List Int) : joinM (valid a) (valid b) f a b = if faultM a b = 0 then (List.zipWith f a b, 0) else ([], faultM a b) := by
  unfold faultM joinM
  by_cases h1 : (valid a && valid b) = true
  · simp only [h1, if_true]
    by_cases h2 : a.length = b.length
    · simp [h2]
    · simp [h2]
  · simp [h1]
theorem fault_ok {a b : List Int} (h : faultM a b = 0) : valid a = true ∧ valid b = true ∧ a.length = b.length := by
  unfold faultM at h
  by_cases h1 : (valid a && valid b) = true
  · simp only [h1, if_true] at h
    by_cases h2 : a.length = b.length
    · simp at h1; exact ⟨h1.1, h1.2, h2⟩
    · simp [h2] at h
  · simp [h1] at h
theorem addU_bad {a b : List Int} {i : Nat} {x y : Int} (hx : a[i]? = some x) (hy : b[i]? = some y) (h : isEl (addF x y) = false) : addU a b = ([], 1) := by
  unfold addU
  rw [if_neg]
  intro hc
  have : (List.zipWith addF a b)[i]? = some (addF x y) := by simp [List.getElem?_zipWith, hx, hy]
  have := all_get hc this
  rw [h] at this; cases this
theorem snoc_all {p : Int → Bool} {acc : List Int} {x : Int} (h : acc.all p = true) (hx : p x = true) : (acc ++ [x]).all p = true := by simp only [List.all_append, h, List.all_cons, hx, List.all_nil]; rfl
theorem addF_om {x y : Int} (h : x = 1099511627776 ∨ y = 1099511627776) : addF x y = 1099511627776 := if_pos h
theorem addF_fin {x y : Int} (hx : 0 ≤ x ∧ x ≤ 1048576) (hy : 0 ≤ y ∧ y ≤ 1048576) : addF x y = x + y := by unfold addF; rw [if_neg (by omega), wrap_id (by omega) (by omega)]
theorem sub_bad {a b : List Int} {i : Nat} {x y : Int} (hx : a[i]? = some x) (hy : b[i]? = some y) (h : x < y) : below b a = false := by
  cases hb : below b a with
  | false => rfl
  | true =>
    exfalso
    have : ∀ {a b : List Int} {i : Nat}, a[i]? = some x → b[i]? = some y → below b a = true → y ≤ x := by
      intro a b i
      induction i generalizing a b with
      | zero => cases a <;> cases b <;> simp_all [below]
      | succ i ih => cases a <;> cases b <;> simp_all [below]; intro h1 h2 _ h4; exact ih h1 h2 h4
    have := this hx hy hb; omega
def subOK (a b : List Int) : Int := if valid a && finite b then (if a.length = b.length then 0 else 3) else 2
theorem subM_eq (a b : List Int) : subM a b = if subOK a b = 0 then (if below b a then (List.zipWith subF a b, 0) else ([], 11)) else ([], subOK a b) := by
  unfold subM subOK joinM
  by_cases h1 : (valid a && finite b) = true
  · simp only [h1, if_true]
    by_cases h2 : a.length = b.length
    · simp [h2]
    · simp [h2]
  · simp [h1]

noncomputable def cElem : Code := Try.f68.body.getD .skip
set_option maxRecDepth 20000 in
theorem elem_spec (x : Int) : FSpec PP 68 [di x] σ0 (db (isEl x)) σ0 := by
  refine spec_at cElem Try.func68 rfl (by kernel_rfl) (by first | decide | simp) _ (by dsimp only [Try.f68, List.length, Nat.reduceAdd, Nat.reduceSub, List.replicate, List.cons_append, List.nil_append]) ?_
  refine at_seq [0] [1] rfl ?_
  refine at_region rfl ?_
  refine at_mc 2 rfl rfl rfl (.inr rfl) (by dsimp only [constD]) (by dsimp only [List.set]) ?_
  refine at_end rfl ?_
  refine at_seq [1, 0] [1, 1] rfl ?_
  refine at_region rfl ?_
  refine at_mv 0 3 rfl rfl rfl (.inl rfl) rfl (by dsimp only [List.set]) ?_
  refine at_op (some 4) rfl rfl rfl rfl (op_binI rfl rfl) (by dsimp only [putD, List.set]) ?_
  refine at_mv 4 5 rfl rfl rfl (.inl rfl) rfl (by dsimp only [List.set]) ?_
  refine at_split 5 rfl (fun hb1 env' he => ?_) (fun hb1 env' he => ?_)
  · dsimp only [List.set] at he; subst he
    refine at_mv 0 6 rfl rfl rfl (.inl rfl) rfl (by dsimp only [List.set]) ?_
    refine at_op (some 7) rfl rfl rfl rfl (op_binI rfl rfl) (by dsimp only [putD, List.set]) ?_
    refine at_pk true 5 7 8 rfl rfl rfl rfl rfl rfl rfl (by dsimp only [List.set]) ?_
    refine at_mv 8 9 rfl rfl rfl (.inl rfl) rfl (by dsimp only [List.set]) ?_
    refine at_split 9 rfl (fun hb2 env' he => ?_) (fun hb2 env' he => ?_)
    · dsimp only [List.set] at he; subst he
      refine at_opN (some 10) rfl rfl rfl (by dsimp only [putD, List.set]) ?_
      refine at_opN (some 11) rfl rfl rfl (by dsimp only [putD, List.set]) ?_
      refine at_pkc true 9 12 rfl rfl rfl rfl rfl rfl (by dsimp only [constD]) (by dsimp only [List.set]) ?_
      refine at_mv 12 2 rfl rfl rfl (.inr rfl) rfl (by dsimp only [List.set]) ?_
      refine at_end rfl ?_
      refine at_ret rfl (ret_one (t := 2) rfl rfl ?_ rfl)
      first | (simp_all [isEl, isNum]; done) | (simp_all [isEl, isNum]; omega)
    · dsimp only [List.set] at he; subst he
      refine at_mv 0 10 rfl rfl rfl (.inl rfl) rfl (by dsimp only [List.set]) ?_
      refine at_op (some 11) rfl rfl rfl rfl (op_binI rfl rfl) (by dsimp only [putD, List.set]) ?_
      refine at_pk false 9 11 12 rfl rfl rfl rfl rfl rfl rfl (by dsimp only [List.set]) ?_
      refine at_mv 12 2 rfl rfl rfl (.inr rfl) rfl (by dsimp only [List.set]) ?_
      refine at_end rfl ?_
      refine at_ret rfl (ret_one (t := 2) rfl rfl ?_ rfl)
      first | (simp_all [isEl, isNum]; done) | (simp_all [isEl, isNum]; omega)
  · dsimp only [List.set] at he; subst he
    refine at_opN (some 6) rfl rfl rfl (by dsimp only [putD, List.set]) ?_
    refine at_opN (some 7) rfl rfl rfl (by dsimp only [putD, List.set]) ?_
    refine at_pkc false 5 8 rfl rfl rfl rfl rfl rfl (by dsimp only [constD]) (by dsimp only [List.set]) ?_
    refine at_mv 8 9 rfl rfl rfl (.inl rfl) rfl (by dsimp only [List.set]) ?_
    refine at_mv 0 10 rfl rfl rfl (.inl rfl) rfl (by dsimp only [List.set]) ?_
    refine at_op (some 11) rfl rfl rfl rfl (op_binI rfl rfl) (by dsimp only [putD, List.set]) ?_
    refine at_pk false 9 11 12 rfl rfl rfl rfl rfl rfl rfl (by dsimp only [List.set]) ?_
    refine at_mv 12 2 rfl rfl rfl (.inr rfl) rfl (by dsimp only [List.set]) ?_
    refine at_end rfl ?_
    refine at_ret rfl (ret_one (t := 2) rfl rfl ?_ rfl)
    first | (simp_all [isEl, isNum]; done) | (simp_all [isEl, isNum]; omega)

noncomputable def cRValid : Code := Try.f31.body.getD .skip
set_option maxRecDepth 20000 in
theorem rvalid_loop (a : List Int) (hs : a.length ≤ 1000000) (m : Nat) : ∀ i : Nat, a.length - i = m → a.all isEl = (a.drop i).all isEl → Run PP (fun env σ1 => ResOK PP Try.f31 env σ1 (db (valid a)) σ0) [.lp (sub cRValid [1, 0, 1, 0, 0]), .blk 0, .code (sub cRValid [1, 1])] ((dl a) :: .undef :: (db false) :: (di ↑i) :: .undef :: .undef :: .undef :: .undef :: .undef :: .undef :: .undef :: .undef :: .undef :: .undef :: .undef :: .undef :: .undef :: .undef :: .undef :: []) σ0 := by
  induction m using Nat.strongRecOn with
  | _ m ih =>
    intro i hm hb
    refine run_lp ?_
    refine at_seq [1, 0, 1, 0, 0, 0] [1, 0, 1, 0, 0, 1] rfl ?_
    refine at_seq [1, 0, 1, 0, 0, 0, 0] [1, 0, 1, 0, 0, 0, 1] rfl ?_
    refine at_region rfl ?_
    refine at_mv 3 4 rfl rfl rfl (.inl rfl) rfl (by dsimp only [List.set]) ?_
    refine at_mv 0 5 rfl rfl rfl (.inl rfl) rfl (by dsimp only [List.set]) ?_
    first | (refine at_op (some 6) rfl rfl rfl rfl (op_lenL rfl uInts) (by dsimp only [putD, List.set]) ?_) | (refine at_op (some 6) rfl rfl rfl rfl (opOK_un (op_lenL rfl uInts)) (by dsimp only [putD, List.set]) ?_) | (refine at_op (some 6) rfl rfl rfl rfl (op_lenA rfl uInts) (by dsimp only [putD, List.set]) ?_)
    refine at_op (some 7) rfl rfl rfl rfl (op_binI rfl rfl) (by dsimp only [putD, List.set]) ?_
    refine at_end rfl ?_
    refine at_cond [1, 0, 1, 0, 0, 0, 1, 0] [1, 0, 1, 0, 0, 0, 1, 1] rfl rfl (fun hc1 => ?_) (fun hc1 => ?_)
    · skip
      have hlt : i < a.length := by simpa using hc1
      obtain ⟨x, hx⟩ := get_ex hlt
      rw [all_at hx] at hb
      refine at_skip rfl ?_
      refine at_seq [1, 0, 1, 0, 0, 1, 0] [1, 0, 1, 0, 0, 1, 1] rfl ?_
      refine at_block [1, 0, 1, 0, 0, 1, 0, 0] 1 rfl ?_
      refine at_seq [1, 0, 1, 0, 0, 1, 0, 0, 0] [1, 0, 1, 0, 0, 1, 0, 0, 1] rfl ?_
      refine at_region rfl ?_
      refine at_mv 0 10 rfl rfl rfl (.inl rfl) rfl (by dsimp only [List.set]) ?_
      refine at_mv 3 11 rfl rfl rfl (.inl rfl) rfl (by dsimp only [List.set]) ?_
      first | (refine at_op (some 12) rfl rfl rfl rfl (op_idxL rfl slInt (by first | decide | omega) (by first | exact idx_some (by assumption) | assumption | rfl) (by first | rfl | (simp [V.size]; done))) (by dsimp only [putD, List.set]) ?_) | (refine at_op (some 12) rfl rfl rfl rfl (opOK_un (op_idxL rfl slInt (by first | decide | omega) (by first | exact idx_some (by assumption) | assumption | rfl) (by first | rfl | (simp [V.size]; done)))) (by dsimp only [putD, List.set]) ?_) | (refine at_op (some 12) rfl rfl rfl rfl (op_idxA rfl slInt (by first | decide | omega) (by first | decide | omega)) (by dsimp only [putD, List.set]) ?_)
      first | (refine at_op (some 13) rfl rfl rfl rfl (op_loadR1 rfl oneInt rfl) (by dsimp only [putD, List.set]) ?_) | (refine at_op (some 13) rfl rfl rfl rfl (op_loadP1 rfl oneInt rfl rfl) (by dsimp only [putD, List.set]) ?_)
      refine at_op (some 14) rfl rfl rfl rfl (op_call0 rfl rfl rfl rfl (elem_spec _)) (by dsimp only [putD, List.set]) ?_
      refine at_op (some 15) rfl rfl rfl rfl (op_un rfl rfl) (by dsimp only [putD, List.set]) ?_
      refine at_end rfl ?_
      refine at_cond [1, 0, 1, 0, 0, 1, 0, 0, 1, 0] [1, 0, 1, 0, 0, 1, 0, 0, 1, 1] rfl rfl (fun hc2 => ?_) (fun hc2 => ?_)
      · skip
        refine at_seq [1, 0, 1, 0, 0, 1, 0, 0, 1, 0, 0] [1, 0, 1, 0, 0, 1, 0, 0, 1, 0, 1] rfl ?_
        refine at_region rfl ?_
        refine at_mc 2 rfl rfl rfl (.inr rfl) (by dsimp only [constD]) (by dsimp only [List.set]) ?_
        refine at_end rfl ?_
        refine at_ret rfl (ret_one (t := 2) rfl rfl ?_ rfl)
        first | (simp only [valid, hb]; simp_all; done) | (simp only [valid, hb]; simp; omega)
      · skip
        refine at_skip rfl ?_
        refine run_blk ?_
        refine at_region rfl ?_
        refine at_mv 3 8 rfl rfl rfl (.inl rfl) rfl (by dsimp only [List.set]) ?_
        refine at_op (some 9) rfl rfl rfl rfl (op_binI rfl rfl) (by dsimp only [putD, List.set]) ?_
        refine at_mv 9 3 rfl rfl rfl (.inr rfl) rfl (by dsimp only [List.set]) ?_
        refine at_end rfl ?_
        rw [wrap_succ (by omega)]
        exact run_wk (.keep (.drop (.keep (.keep (.drop (.drop (.drop (.drop (.drop (.drop (.drop (.drop (.drop (.drop (.drop (.drop (.drop (.drop (.drop .nil))))))))))))))))))) (ih _ (by omega) (i + 1) rfl (by simp_all [nOm]))
    · skip
      have hge : a.length ≤ i := by simpa using hc1
      rw [all_end hge] at hb
      refine at_exit rfl rfl ?_
      refine at_seq [1, 1, 0] [1, 1, 1] rfl ?_
      refine at_region rfl ?_
      refine at_mv 0 16 rfl rfl rfl (.inl rfl) rfl (by dsimp only [List.set]) ?_
      first | (refine at_op (some 17) rfl rfl rfl rfl (op_lenL rfl uInts) (by dsimp only [putD, List.set]) ?_) | (refine at_op (some 17) rfl rfl rfl rfl (opOK_un (op_lenL rfl uInts)) (by dsimp only [putD, List.set]) ?_) | (refine at_op (some 17) rfl rfl rfl rfl (op_lenA rfl uInts) (by dsimp only [putD, List.set]) ?_)
      refine at_op (some 18) rfl rfl rfl rfl (op_binI rfl rfl) (by dsimp only [putD, List.set]) ?_
      refine at_mv 18 2 rfl rfl rfl (.inr rfl) rfl (by dsimp only [List.set]) ?_
      refine at_end rfl ?_
      refine at_ret rfl (ret_one (t := 2) rfl rfl ?_ rfl)
      first | (simp only [valid, hb]; simp_all; done) | (simp only [valid, hb]; simp; omega)

set_option maxRecDepth 20000 in
theorem rvalid_spec (a : List Int) (hs : a.length ≤ 1000000) : FSpec PP 31 [dl a] σ0 (db (valid a)) σ0 := by
  refine spec_at cRValid Try.func31 rfl (by kernel_rfl) (by first | decide | simp) _ (by dsimp only [Try.f31, List.length, Nat.reduceAdd, Nat.reduceSub, List.replicate, List.cons_append, List.nil_append]) ?_
  refine at_seq [0] [1] rfl ?_
  refine at_region rfl ?_
  refine at_mc 2 rfl rfl rfl (.inr rfl) (by dsimp only [constD]) (by dsimp only [List.set]) ?_
  refine at_end rfl ?_
  refine at_seq [1, 0] [1, 1] rfl ?_
  refine at_seq [1, 0, 0] [1, 0, 1] rfl ?_
  refine at_region rfl ?_
  refine at_mc 3 rfl rfl rfl (.inr rfl) (by dsimp only [constD]) (by dsimp only [List.set]) ?_
  refine at_end rfl ?_
  refine at_block [1, 0, 1, 0] 0 rfl ?_
  refine at_loop [1, 0, 1, 0, 0] rfl ?_
  try simp only [List.length_map, List.length_nil, Int.toNat_natCast]
  exact rvalid_loop a hs _ 0 rfl (by simp)

noncomputable def cRFinite : Code := Try.f33.body.getD .skip
set_option maxRecDepth 20000 in
theorem rfinite_loop (a : List Int) (hs : a.length ≤ 1000000) (m : Nat) : ∀ i : Nat, a.length - i = m → a.all nOm = (a.drop i).all nOm → Run PP (fun env σ1 => ResOK PP Try.f33 env σ1 (db (finite a)) σ0) [.lp (sub cRFinite [1, 0, 1, 0, 0]), .blk 0, .code (sub cRFinite [1, 1])] ((dl a) :: .undef :: (db false) :: (di ↑i) :: .undef :: .undef :: .undef :: .undef :: .undef :: .undef :: .undef :: .undef :: .undef :: .undef :: .undef :: .undef :: .undef :: []) σ0 := by
  induction m using Nat.strongRecOn with
  | _ m ih =>
    intro i hm hb
    refine run_lp ?_
    refine at_seq [1, 0, 1, 0, 0, 0] [1, 0, 1, 0, 0, 1] rfl ?_
    refine at_seq [1, 0, 1, 0, 0, 0, 0] [1, 0, 1, 0, 0, 0, 1] rfl ?_
    refine at_region rfl ?_
    refine at_mv 3 4 rfl rfl rfl (.inl rfl) rfl (by dsimp only [List.set]) ?_
    refine at_mv 0 5 rfl rfl rfl (.inl rfl) rfl (by dsimp only [List.set]) ?_
    first | (refine at_op (some 6) rfl rfl rfl rfl (op_lenL rfl uInts) (by dsimp only [putD, List.set]) ?_) | (refine at_op (some 6) rfl rfl rfl rfl (opOK_un (op_lenL rfl uInts)) (by dsimp only [putD, List.set]) ?_) | (refine at_op (some 6) rfl rfl rfl rfl (op_lenA rfl uInts) (by dsimp only [putD, List.set]) ?_)
    refine at_op (some 7) rfl rfl rfl rfl (op_binI rfl rfl) (by dsimp only [putD, List.set]) ?_
    refine at_end rfl ?_
    refine at_cond [1, 0, 1, 0, 0, 0, 1, 0] [1, 0, 1, 0, 0, 0, 1, 1] rfl rfl (fun hc1 => ?_) (fun hc1 => ?_)
    · skip
      have hlt : i < a.length := by simpa using hc1
      obtain ⟨x, hx⟩ := get_ex hlt
      rw [all_at hx] at hb
      refine at_skip rfl ?_
      refine at_seq [1, 0, 1, 0, 0, 1, 0] [1, 0, 1, 0, 0, 1, 1] rfl ?_
      refine at_block [1, 0, 1, 0, 0, 1, 0, 0] 1 rfl ?_
      refine at_seq [1, 0, 1, 0, 0, 1, 0, 0, 0] [1, 0, 1, 0, 0, 1, 0, 0, 1] rfl ?_
      refine at_region rfl ?_
      refine at_mv 0 10 rfl rfl rfl (.inl rfl) rfl (by dsimp only [List.set]) ?_
      refine at_mv 3 11 rfl rfl rfl (.inl rfl) rfl (by dsimp only [List.set]) ?_
      first | (refine at_op (some 12) rfl rfl rfl rfl (op_idxL rfl slInt (by first | decide | omega) (by first | exact idx_some (by assumption) | assumption | rfl) (by first | rfl | (simp [V.size]; done))) (by dsimp only [putD, List.set]) ?_) | (refine at_op (some 12) rfl rfl rfl rfl (opOK_un (op_idxL rfl slInt (by first | decide | omega) (by first | exact idx_some (by assumption) | assumption | rfl) (by first | rfl | (simp [V.size]; done)))) (by dsimp only [putD, List.set]) ?_) | (refine at_op (some 12) rfl rfl rfl rfl (op_idxA rfl slInt (by first | decide | omega) (by first | decide | omega)) (by dsimp only [putD, List.set]) ?_)
      first | (refine at_op (some 13) rfl rfl rfl rfl (op_loadR1 rfl oneInt rfl) (by dsimp only [putD, List.set]) ?_) | (refine at_op (some 13) rfl rfl rfl rfl (op_loadP1 rfl oneInt rfl rfl) (by dsimp only [putD, List.set]) ?_)
      refine at_op (some 14) rfl rfl rfl rfl (op_binI rfl rfl) (by dsimp only [putD, List.set]) ?_
      refine at_end rfl ?_
      refine at_cond [1, 0, 1, 0, 0, 1, 0, 0, 1, 0] [1, 0, 1, 0, 0, 1, 0, 0, 1, 1] rfl rfl (fun hc2 => ?_) (fun hc2 => ?_)
      · skip
        refine at_seq [1, 0, 1, 0, 0, 1, 0, 0, 1, 0, 0] [1, 0, 1, 0, 0, 1, 0, 0, 1, 0, 1] rfl ?_
        refine at_region rfl ?_
        refine at_mc 2 rfl rfl rfl (.inr rfl) (by dsimp only [constD]) (by dsimp only [List.set]) ?_
        refine at_end rfl ?_
        refine at_ret rfl (ret_one (t := 2) rfl rfl ?_ rfl)
        first | (simp only [finite_eq, hb]; simp_all [nOm]; done)
      · skip
        refine at_skip rfl ?_
        refine run_blk ?_
        refine at_region rfl ?_
        refine at_mv 3 8 rfl rfl rfl (.inl rfl) rfl (by dsimp only [List.set]) ?_
        refine at_op (some 9) rfl rfl rfl rfl (op_binI rfl rfl) (by dsimp only [putD, List.set]) ?_
        refine at_mv 9 3 rfl rfl rfl (.inr rfl) rfl (by dsimp only [List.set]) ?_
        refine at_end rfl ?_
        rw [wrap_succ (by omega)]
        exact run_wk (.keep (.drop (.keep (.keep (.drop (.drop (.drop (.drop (.drop (.drop (.drop (.drop (.drop (.drop (.drop (.drop (.drop .nil))))))))))))))))) (ih _ (by omega) (i + 1) rfl (by simp_all [nOm]))
    · skip
      have hge : a.length ≤ i := by simpa using hc1
      rw [all_end hge] at hb
      refine at_exit rfl rfl ?_
      refine at_seq [1, 1, 0] [1, 1, 1] rfl ?_
      refine at_region rfl ?_
      refine at_mv 0 15 rfl rfl rfl (.inl rfl) rfl (by dsimp only [List.set]) ?_
      refine at_op (some 16) rfl rfl rfl rfl (op_call0 rfl rfl rfl rfl (rvalid_spec _ (by assumption))) (by dsimp only [putD, List.set]) ?_
      refine at_mv 16 2 rfl rfl rfl (.inr rfl) rfl (by dsimp only [List.set]) ?_
      refine at_end rfl ?_
      refine at_ret rfl (ret_one (t := 2) rfl rfl ?_ rfl)
      first | (simp only [finite_eq, hb]; simp_all [nOm]; done)

set_option maxRecDepth 20000 in
theorem rfinite_spec (a : List Int) (hs : a.length ≤ 1000000) : FSpec PP 33 [dl a] σ0 (db (finite a)) σ0 := by
  refine spec_at cRFinite Try.func33 rfl (by kernel_rfl) (by first | decide | simp) _ (by dsimp only [Try.f33, List.length, Nat.reduceAdd, Nat.reduceSub, List.replicate, List.cons_append, List.nil_append]) ?_
  refine at_seq [0] [1] rfl ?_
  refine at_region rfl ?_
  refine at_mc 2 rfl rfl rfl (.inr rfl) (by dsimp only [constD]) (by dsimp only [List.set]) ?_
  refine at_end rfl ?_
  refine at_seq [1, 0] [1, 1] rfl ?_
  refine at_seq [1, 0, 0] [1, 0, 1] rfl ?_
  refine at_region rfl ?_
  refine at_mc 3 rfl rfl rfl (.inr rfl) (by dsimp only [constD]) (by dsimp only [List.set]) ?_
  refine at_end rfl ?_
  refine at_block [1, 0, 1, 0] 0 rfl ?_
  refine at_loop [1, 0, 1, 0, 0] rfl ?_
  try simp only [List.length_map, List.length_nil, Int.toNat_natCast]
  exact rfinite_loop a hs _ 0 rfl (by simp)

noncomputable def cRLeq : Code := Try.f34.body.getD .skip
set_option maxRecDepth 20000 in
theorem rleq_loop (a b : List Int) (h : a.length = b.length) (hs : a.length ≤ 1000000) (v : Bool) (m : Nat) : ∀ i : Nat, a.length - i = m → v = below (a.drop i) (b.drop i) → Run PP (fun env σ1 => ResOK PP Try.f34 env σ1 (db v) σ0) [.lp (sub cRLeq [1, 1, 0, 1, 0, 0]), .blk 0, .code (sub cRLeq [1, 1, 1])] ((dl a) :: (dl b) :: .undef :: .undef :: (db false) :: (di ↑i) :: .undef :: .undef :: .undef :: .undef :: .undef :: .undef :: .undef :: .undef :: .undef :: .undef :: .undef :: .undef :: .undef :: .undef :: .undef :: .undef :: .undef :: .undef :: .undef :: .undef :: .undef :: .undef :: .undef :: .undef :: .undef :: .undef :: .undef :: .undef :: .undef :: .undef :: []) σ0 := by
  induction m using Nat.strongRecOn with
  | _ m ih =>
    intro i hm hb
    refine run_lp ?_
    refine at_seq [1, 1, 0, 1, 0, 0, 0] [1, 1, 0, 1, 0, 0, 1] rfl ?_
    refine at_seq [1, 1, 0, 1, 0, 0, 0, 0] [1, 1, 0, 1, 0, 0, 0, 1] rfl ?_
    refine at_region rfl ?_
    refine at_mv 5 21 rfl rfl rfl (.inl rfl) rfl (by dsimp only [List.set]) ?_
    refine at_mv 0 22 rfl rfl rfl (.inl rfl) rfl (by dsimp only [List.set]) ?_
    first | (refine at_op (some 23) rfl rfl rfl rfl (op_lenL rfl uInts) (by dsimp only [putD, List.set]) ?_) | (refine at_op (some 23) rfl rfl rfl rfl (opOK_un (op_lenL rfl uInts)) (by dsimp only [putD, List.set]) ?_) | (refine at_op (some 23) rfl rfl rfl rfl (op_lenA rfl uInts) (by dsimp only [putD, List.set]) ?_)
    refine at_op (some 24) rfl rfl rfl rfl (op_binI rfl rfl) (by dsimp only [putD, List.set]) ?_
    refine at_end rfl ?_
    refine at_cond [1, 1, 0, 1, 0, 0, 0, 1, 0] [1, 1, 0, 1, 0, 0, 0, 1, 1] rfl rfl (fun hc1 => ?_) (fun hc1 => ?_)
    · skip
      have hlt : i < a.length := by simpa using hc1
      obtain ⟨x, hx⟩ := get_ex hlt
      obtain ⟨y, hy⟩ := get_ex (a := b) (i := i) (by omega)
      rw [below_at hx hy] at hb
      refine at_skip rfl ?_
      refine at_seq [1, 1, 0, 1, 0, 0, 1, 0] [1, 1, 0, 1, 0, 0, 1, 1] rfl ?_
      refine at_block [1, 1, 0, 1, 0, 0, 1, 0, 0] 1 rfl ?_
      refine at_seq [1, 1, 0, 1, 0, 0, 1, 0, 0, 0] [1, 1, 0, 1, 0, 0, 1, 0, 0, 1] rfl ?_
      refine at_draw mixed rfl [σ0] rfl ?_
      refine da_mv 0 27 rfl rfl rfl (.inl rfl) rfl (by dsimp only [List.set]) ?_
      refine da_mv 5 28 rfl rfl rfl (.inl rfl) rfl (by dsimp only [List.set]) ?_
      first | (refine da_quiet (some 29) rfl rfl rfl rfl (fun s hs => op_idxL rfl slInt (by first | decide | omega) (by first | exact idx_some (by assumption) | assumption | rfl) (by first | rfl | (simp [V.size]; done))) (by dsimp only [putD, List.set]) ?_) | (refine da_quiet (some 29) rfl rfl rfl rfl (fun s hs => opOK_un (op_idxL rfl slInt (by first | decide | omega) (by first | exact idx_some (by assumption) | assumption | rfl) (by first | rfl | (simp [V.size]; done)))) (by dsimp only [putD, List.set]) ?_) | (refine da_quiet (some 29) rfl rfl rfl rfl (fun s hs => op_idxA rfl slInt (by first | decide | omega) (by first | decide | omega)) (by dsimp only [putD, List.set]) ?_)
      first | (refine da_quiet (some 30) rfl rfl rfl rfl (fun s hs => op_loadR1 rfl oneInt rfl) (by dsimp only [putD, List.set]) ?_) | (refine da_quiet (some 30) rfl rfl rfl rfl (by intro s hs; simp only [List.mem_cons, List.not_mem_nil, or_false] at hs; rcases hs with rfl <;> exact op_loadP1 rfl oneInt rfl rfl) (by dsimp only [putD, List.set]) ?_)
      refine da_mv 1 31 rfl rfl rfl (.inl rfl) rfl (by dsimp only [List.set]) ?_
      refine da_mv 5 32 rfl rfl rfl (.inl rfl) rfl (by dsimp only [List.set]) ?_
      first | (refine da_quiet (some 33) rfl rfl rfl rfl (fun s hs => op_idxL rfl slInt (by first | decide | omega) (by first | exact idx_some (by assumption) | assumption | rfl) (by first | rfl | (simp [V.size]; done))) (by dsimp only [putD, List.set]) ?_) | (refine da_quiet (some 33) rfl rfl rfl rfl (fun s hs => opOK_un (op_idxL rfl slInt (by first | decide | omega) (by first | exact idx_some (by assumption) | assumption | rfl) (by first | rfl | (simp [V.size]; done)))) (by dsimp only [putD, List.set]) ?_) | (refine da_quiet (some 33) rfl rfl rfl rfl (fun s hs => op_idxA rfl slInt (by first | decide | omega) (by first | decide | omega)) (by dsimp only [putD, List.set]) ?_)
      first | (refine da_quiet (some 34) rfl rfl rfl rfl (fun s hs => op_loadR1 rfl oneInt rfl) (by dsimp only [putD, List.set]) ?_) | (refine da_quiet (some 34) rfl rfl rfl rfl (by intro s hs; simp only [List.mem_cons, List.not_mem_nil, or_false] at hs; rcases hs with rfl <;> exact op_loadP1 rfl oneInt rfl rfl) (by dsimp only [putD, List.set]) ?_)
      refine da_quiet (some 35) rfl rfl rfl rfl (fun s hs => op_binI rfl rfl) (by dsimp only [putD, List.set]) ?_
      refine da_end rfl ⟨by decide +kernel, _, rfl, ?_⟩
      refine at_cond [1, 1, 0, 1, 0, 0, 1, 0, 0, 1, 0] [1, 1, 0, 1, 0, 0, 1, 0, 0, 1, 1] rfl rfl (fun hc2 => ?_) (fun hc2 => ?_)
      · skip
        refine at_seq [1, 1, 0, 1, 0, 0, 1, 0, 0, 1, 0, 0] [1, 1, 0, 1, 0, 0, 1, 0, 0, 1, 0, 1] rfl ?_
        refine at_region rfl ?_
        refine at_mc 4 rfl rfl rfl (.inr rfl) (by dsimp only [constD]) (by dsimp only [List.set]) ?_
        refine at_end rfl ?_
        refine at_ret rfl (ret_one (t := 4) rfl rfl ?_ rfl)
        first | (rw [hb]; done) | (simp_all; done) | (simp_all; omega)
      · skip
        refine at_skip rfl ?_
        refine run_blk ?_
        refine at_region rfl ?_
        refine at_mv 5 25 rfl rfl rfl (.inl rfl) rfl (by dsimp only [List.set]) ?_
        refine at_op (some 26) rfl rfl rfl rfl (op_binI rfl rfl) (by dsimp only [putD, List.set]) ?_
        refine at_mv 26 5 rfl rfl rfl (.inr rfl) rfl (by dsimp only [List.set]) ?_
        refine at_end rfl ?_
        rw [wrap_succ (by omega)]
        exact run_wk (.keep (.keep (.drop (.drop (.keep (.keep (.drop (.drop (.drop (.drop (.drop (.drop (.drop (.drop (.drop (.drop (.drop (.drop (.drop (.drop (.drop (.drop (.drop (.drop (.drop (.drop (.drop (.drop (.drop (.drop (.drop (.drop (.drop (.drop (.drop (.drop .nil)))))))))))))))))))))))))))))))))))) (ih _ (by omega) (i + 1) rfl (by simp_all))
    · skip
      have hge : a.length ≤ i := by simpa using hc1
      rw [below_end hge] at hb
      refine at_exit rfl rfl ?_
      refine at_seq [1, 1, 1, 0] [1, 1, 1, 1] rfl ?_
      refine at_region rfl ?_
      refine at_mc 4 rfl rfl rfl (.inr rfl) (by dsimp only [constD]) (by dsimp only [List.set]) ?_
      refine at_end rfl ?_
      refine at_ret rfl (ret_one (t := 4) rfl rfl ?_ rfl)
      first | (rw [hb]; done) | (simp_all; done) | (simp_all; omega)

set_option maxRecDepth 20000 in
theorem rleq_spec (a b : List Int) (hs : a.length ≤ 1000000) (hs2 : b.length ≤ 1000000) : FSpec PP 34 [dl a, dl b] σ0 (db (leq a b)) σ0 := by
  refine spec_at cRLeq Try.func34 rfl (by kernel_rfl) (by first | decide | simp) _ (by dsimp only [Try.f34, List.length, Nat.reduceAdd, Nat.reduceSub, List.replicate, List.cons_append, List.nil_append]) ?_
  refine at_seq [0] [1] rfl ?_
  refine at_region rfl ?_
  refine at_mc 4 rfl rfl rfl (.inr rfl) (by dsimp only [constD]) (by dsimp only [List.set]) ?_
  refine at_end rfl ?_
  refine at_seq [1, 0] [1, 1] rfl ?_
  refine at_seq [1, 0, 0] [1, 0, 1] rfl ?_
  refine at_region rfl ?_
  refine at_mv 0 6 rfl rfl rfl (.inl rfl) rfl (by dsimp only [List.set]) ?_
  refine at_op (some 7) rfl rfl rfl rfl (op_call0 rfl rfl rfl rfl (rvalid_spec _ (by assumption))) (by dsimp only [putD, List.set]) ?_
  refine at_op (some 8) rfl rfl rfl rfl (op_un rfl rfl) (by dsimp only [putD, List.set]) ?_
  refine at_mv 8 9 rfl rfl rfl (.inl rfl) rfl (by dsimp only [List.set]) ?_
  refine at_split 9 rfl (fun hb1 env' he => ?_) (fun hb1 env' he => ?_)
  · dsimp only [List.set] at he; subst he
    refine at_opN (some 10) rfl rfl rfl (by dsimp only [putD, List.set]) ?_
    refine at_opN (some 11) rfl rfl rfl (by dsimp only [putD, List.set]) ?_
    refine at_opN (some 12) rfl rfl rfl (by dsimp only [putD, List.set]) ?_
    refine at_pkc true 9 13 rfl rfl rfl rfl rfl rfl (by dsimp only [constD]) (by dsimp only [List.set]) ?_
    refine at_mv 13 14 rfl rfl rfl (.inl rfl) rfl (by dsimp only [List.set]) ?_
    refine at_opN (some 15) rfl rfl rfl (by dsimp only [putD, List.set]) ?_
    refine at_opN (some 16) rfl rfl rfl (by dsimp only [putD, List.set]) ?_
    refine at_opN (some 17) rfl rfl rfl (by dsimp only [putD, List.set]) ?_
    refine at_opN (some 18) rfl rfl rfl (by dsimp only [putD, List.set]) ?_
    refine at_opN (some 19) rfl rfl rfl (by dsimp only [putD, List.set]) ?_
    refine at_pkc true 14 20 rfl rfl rfl rfl rfl rfl (by dsimp only [constD]) (by dsimp only [List.set]) ?_
    refine at_end rfl ?_
    refine at_true [1, 0, 1, 0] [1, 0, 1, 1] rfl rfl ?_
    refine at_seq [1, 0, 1, 0, 0] [1, 0, 1, 0, 1] rfl ?_
    refine at_region rfl ?_
    refine at_mc 4 rfl rfl rfl (.inr rfl) (by dsimp only [constD]) (by dsimp only [List.set]) ?_
    refine at_end rfl ?_
    refine at_ret rfl (ret_one (t := 4) rfl rfl ?_ rfl)
    first | (simp_all [leq]; done) | (have hl : ¬ a.length = b.length := (by simp_all; omega); simp_all [leq]; done)
  · dsimp only [List.set] at he; subst he
    refine at_mv 1 10 rfl rfl rfl (.inl rfl) rfl (by dsimp only [List.set]) ?_
    refine at_op (some 11) rfl rfl rfl rfl (op_call0 rfl rfl rfl rfl (rvalid_spec _ (by assumption))) (by dsimp only [putD, List.set]) ?_
    refine at_op (some 12) rfl rfl rfl rfl (op_un rfl rfl) (by dsimp only [putD, List.set]) ?_
    refine at_pk false 9 12 13 rfl rfl rfl rfl rfl rfl rfl (by dsimp only [List.set]) ?_
    refine at_mv 13 14 rfl rfl rfl (.inl rfl) rfl (by dsimp only [List.set]) ?_
    refine at_split 14 rfl (fun hb2 env' he => ?_) (fun hb2 env' he => ?_)
    · dsimp only [List.set] at he; subst he
      refine at_opN (some 15) rfl rfl rfl (by dsimp only [putD, List.set]) ?_
      refine at_opN (some 16) rfl rfl rfl (by dsimp only [putD, List.set]) ?_
      refine at_opN (some 17) rfl rfl rfl (by dsimp only [putD, List.set]) ?_
      refine at_opN (some 18) rfl rfl rfl (by dsimp only [putD, List.set]) ?_
      refine at_opN (some 19) rfl rfl rfl (by dsimp only [putD, List.set]) ?_
      refine at_pkc true 14 20 rfl rfl rfl rfl rfl rfl (by dsimp only [constD]) (by dsimp only [List.set]) ?_
      refine at_end rfl ?_
      refine at_true [1, 0, 1, 0] [1, 0, 1, 1] rfl rfl ?_
      refine at_seq [1, 0, 1, 0, 0] [1, 0, 1, 0, 1] rfl ?_
      refine at_region rfl ?_
      refine at_mc 4 rfl rfl rfl (.inr rfl) (by dsimp only [constD]) (by dsimp only [List.set]) ?_
      refine at_end rfl ?_
      refine at_ret rfl (ret_one (t := 4) rfl rfl ?_ rfl)
      first | (simp_all [leq]; done) | (have hl : ¬ a.length = b.length := (by simp_all; omega); simp_all [leq]; done)
    · dsimp only [List.set] at he; subst he
      refine at_mv 0 15 rfl rfl rfl (.inl rfl) rfl (by dsimp only [List.set]) ?_
      first | (refine at_op (some 16) rfl rfl rfl rfl (op_lenL rfl uInts) (by dsimp only [putD, List.set]) ?_) | (refine at_op (some 16) rfl rfl rfl rfl (opOK_un (op_lenL rfl uInts)) (by dsimp only [putD, List.set]) ?_) | (refine at_op (some 16) rfl rfl rfl rfl (op_lenA rfl uInts) (by dsimp only [putD, List.set]) ?_)
      refine at_mv 1 17 rfl rfl rfl (.inl rfl) rfl (by dsimp only [List.set]) ?_
      first | (refine at_op (some 18) rfl rfl rfl rfl (op_lenL rfl uInts) (by dsimp only [putD, List.set]) ?_) | (refine at_op (some 18) rfl rfl rfl rfl (opOK_un (op_lenL rfl uInts)) (by dsimp only [putD, List.set]) ?_) | (refine at_op (some 18) rfl rfl rfl rfl (op_lenA rfl uInts) (by dsimp only [putD, List.set]) ?_)
      refine at_op (some 19) rfl rfl rfl rfl (op_binI rfl rfl) (by dsimp only [putD, List.set]) ?_
      refine at_pk false 14 19 20 rfl rfl rfl rfl rfl rfl rfl (by dsimp only [List.set]) ?_
      refine at_end rfl ?_
      refine at_cond [1, 0, 1, 0] [1, 0, 1, 1] rfl rfl (fun hc3 => ?_) (fun hc3 => ?_)
      · skip
        refine at_seq [1, 0, 1, 0, 0] [1, 0, 1, 0, 1] rfl ?_
        refine at_region rfl ?_
        refine at_mc 4 rfl rfl rfl (.inr rfl) (by dsimp only [constD]) (by dsimp only [List.set]) ?_
        refine at_end rfl ?_
        refine at_ret rfl (ret_one (t := 4) rfl rfl ?_ rfl)
        first | (simp_all [leq]; done) | (have hl : ¬ a.length = b.length := (by simp_all; omega); simp_all [leq]; done)
      · skip
        refine at_skip rfl ?_
        refine at_seq [1, 1, 0] [1, 1, 1] rfl ?_
        refine at_seq [1, 1, 0, 0] [1, 1, 0, 1] rfl ?_
        refine at_region rfl ?_
        refine at_mc 5 rfl rfl rfl (.inr rfl) (by dsimp only [constD]) (by dsimp only [List.set]) ?_
        refine at_end rfl ?_
        refine at_block [1, 1, 0, 1, 0] 0 rfl ?_
        refine at_loop [1, 1, 0, 1, 0, 0] rfl ?_
        try simp only [List.length_map, List.length_nil, Int.toNat_natCast]
        have h : a.length = b.length := by simp_all; omega
        exact run_wk (.keep (.keep (.drop (.drop (.keep (.keep (.drop (.drop (.drop (.drop (.drop (.drop (.drop (.drop (.drop (.drop (.drop (.drop (.drop (.drop (.drop (.drop (.drop (.drop (.drop (.drop (.drop (.drop (.drop (.drop (.drop (.drop (.drop (.drop (.drop (.drop .nil)))))))))))))))))))))))))))))))))))) (rleq_loop a b h hs _ _ 0 rfl (by simp_all [leq]))

noncomputable def cFault : Code := Try.f71.body.getD .skip
set_option maxRecDepth 20000 in
theorem fault_spec (a b : List Int) (hs : a.length ≤ 1000000) (hs2 : b.length ≤ 1000000) : FSpec PP 71 [dl a, dl b] σ0 (di (faultM a b)) σ0 := by
  refine spec_at cFault Try.func71 rfl (by kernel_rfl) (by first | decide | simp) _ (by dsimp only [Try.f71, List.length, Nat.reduceAdd, Nat.reduceSub, List.replicate, List.cons_append, List.nil_append]) ?_
  refine at_seq [0] [1] rfl ?_
  refine at_region rfl ?_
  refine at_mc 4 rfl rfl rfl (.inr rfl) (by dsimp only [constD]) (by dsimp only [List.set]) ?_
  refine at_end rfl ?_
  refine at_seq [1, 0] [1, 1] rfl ?_
  refine at_seq [1, 0, 0] [1, 0, 1] rfl ?_
  refine at_region rfl ?_
  refine at_mv 0 5 rfl rfl rfl (.inl rfl) rfl (by dsimp only [List.set]) ?_
  refine at_op (some 6) rfl rfl rfl rfl (op_call0 rfl rfl rfl rfl (rvalid_spec _ (by assumption))) (by dsimp only [putD, List.set]) ?_
  refine at_op (some 7) rfl rfl rfl rfl (op_un rfl rfl) (by dsimp only [putD, List.set]) ?_
  refine at_mv 7 8 rfl rfl rfl (.inl rfl) rfl (by dsimp only [List.set]) ?_
  refine at_split 8 rfl (fun hb1 env' he => ?_) (fun hb1 env' he => ?_)
  · dsimp only [List.set] at he; subst he
    refine at_opN (some 9) rfl rfl rfl (by dsimp only [putD, List.set]) ?_
    refine at_opN (some 10) rfl rfl rfl (by dsimp only [putD, List.set]) ?_
    refine at_opN (some 11) rfl rfl rfl (by dsimp only [putD, List.set]) ?_
    refine at_pkc true 8 12 rfl rfl rfl rfl rfl rfl (by dsimp only [constD]) (by dsimp only [List.set]) ?_
    refine at_end rfl ?_
    refine at_true [1, 0, 1, 0] [1, 0, 1, 1] rfl rfl ?_
    refine at_seq [1, 0, 1, 0, 0] [1, 0, 1, 0, 1] rfl ?_
    refine at_region rfl ?_
    refine at_mc 4 rfl rfl rfl (.inr rfl) (by dsimp only [constD]) (by dsimp only [List.set]) ?_
    refine at_end rfl ?_
    refine at_ret rfl (ret_one (t := 4) rfl rfl ?_ rfl)
    first | (simp_all [faultM]; done) | (have hl : ¬ a.length = b.length := (by simp_all; omega); simp_all [faultM]; done) | (have hl : a.length = b.length := (by simp_all; omega); simp_all [faultM]; done)
  · dsimp only [List.set] at he; subst he
    refine at_mv 1 9 rfl rfl rfl (.inl rfl) rfl (by dsimp only [List.set]) ?_
    refine at_op (some 10) rfl rfl rfl rfl (op_call0 rfl rfl rfl rfl (rvalid_spec _ (by assumption))) (by dsimp only [putD, List.set]) ?_
    refine at_op (some 11) rfl rfl rfl rfl (op_un rfl rfl) (by dsimp only [putD, List.set]) ?_
    refine at_pk false 8 11 12 rfl rfl rfl rfl rfl rfl rfl (by dsimp only [List.set]) ?_
    refine at_end rfl ?_
    refine at_cond [1, 0, 1, 0] [1, 0, 1, 1] rfl rfl (fun hc2 => ?_) (fun hc2 => ?_)
    · skip
      refine at_seq [1, 0, 1, 0, 0] [1, 0, 1, 0, 1] rfl ?_
      refine at_region rfl ?_
      refine at_mc 4 rfl rfl rfl (.inr rfl) (by dsimp only [constD]) (by dsimp only [List.set]) ?_
      refine at_end rfl ?_
      refine at_ret rfl (ret_one (t := 4) rfl rfl ?_ rfl)
      first | (simp_all [faultM]; done) | (have hl : ¬ a.length = b.length := (by simp_all; omega); simp_all [faultM]; done) | (have hl : a.length = b.length := (by simp_all; omega); simp_all [faultM]; done)
    · skip
      refine at_skip rfl ?_
      refine at_seq [1, 1, 0] [1, 1, 1] rfl ?_
      refine at_seq [1, 1, 0, 0] [1, 1, 0, 1] rfl ?_
      refine at_region rfl ?_
      refine at_mv 0 13 rfl rfl rfl (.inl rfl) rfl (by dsimp only [List.set]) ?_
      first | (refine at_op (some 14) rfl rfl rfl rfl (op_lenL rfl uInts) (by dsimp only [putD, List.set]) ?_) | (refine at_op (some 14) rfl rfl rfl rfl (opOK_un (op_lenL rfl uInts)) (by dsimp only [putD, List.set]) ?_) | (refine at_op (some 14) rfl rfl rfl rfl (op_lenA rfl uInts) (by dsimp only [putD, List.set]) ?_)
      refine at_mv 1 15 rfl rfl rfl (.inl rfl) rfl (by dsimp only [List.set]) ?_
      first | (refine at_op (some 16) rfl rfl rfl rfl (op_lenL rfl uInts) (by dsimp only [putD, List.set]) ?_) | (refine at_op (some 16) rfl rfl rfl rfl (opOK_un (op_lenL rfl uInts)) (by dsimp only [putD, List.set]) ?_) | (refine at_op (some 16) rfl rfl rfl rfl (op_lenA rfl uInts) (by dsimp only [putD, List.set]) ?_)
      refine at_op (some 17) rfl rfl rfl rfl (op_binI rfl rfl) (by dsimp only [putD, List.set]) ?_
      refine at_end rfl ?_
      refine at_cond [1, 1, 0, 1, 0] [1, 1, 0, 1, 1] rfl rfl (fun hc3 => ?_) (fun hc3 => ?_)
      · skip
        refine at_seq [1, 1, 0, 1, 0, 0] [1, 1, 0, 1, 0, 1] rfl ?_
        refine at_region rfl ?_
        refine at_mc 4 rfl rfl rfl (.inr rfl) (by dsimp only [constD]) (by dsimp only [List.set]) ?_
        refine at_end rfl ?_
        refine at_ret rfl (ret_one (t := 4) rfl rfl ?_ rfl)
        first | (simp_all [faultM]; done) | (have hl : ¬ a.length = b.length := (by simp_all; omega); simp_all [faultM]; done) | (have hl : a.length = b.length := (by simp_all; omega); simp_all [faultM]; done)
      · skip
        refine at_skip rfl ?_
        refine at_seq [1, 1, 1, 0] [1, 1, 1, 1] rfl ?_
        refine at_region rfl ?_
        refine at_mc 4 rfl rfl rfl (.inr rfl) (by dsimp only [constD]) (by dsimp only [List.set]) ?_
        refine at_end rfl ?_
        refine at_ret rfl (ret_one (t := 4) rfl rfl ?_ rfl)
        first | (simp_all [faultM]; done) | (have hl : ¬ a.length = b.length := (by simp_all; omega); simp_all [faultM]; done) | (have hl : a.length = b.length := (by simp_all; omega); simp_all [faultM]; done)

noncomputable def cRMax : Code := Try.f38.body.getD .skip
set_option maxRecDepth 20000 in
theorem rmax_loop (a b : List Int) (h : a.length = b.length) (hs : a.length ≤ 1000000) (T : List Int) (m : Nat) : ∀ (i : Nat) (acc : List Int), a.length - i = m → acc.length = i → acc ++ List.zipWith maxF (a.drop i) (b.drop i) = T → Run PP (fun env σ1 => ResOK PP Try.f38 env σ1 (.tup [dl T, di 0]) σ0) [.lp (sub cRMax [1, 1, 1, 0, 1, 0, 0]), .blk 0, .code (sub cRMax [1, 1, 1, 1])] ((dl a) :: (dl b) :: .undef :: .undef :: (.v (.list [])) :: (di 0) :: .undef :: (.acc 1 (acc.map vi)) :: (di ↑i) :: .undef :: .undef :: .undef :: .undef :: .undef :: .undef :: .undef :: .undef :: .undef :: .undef :: .undef :: .undef :: .undef :: .undef :: .undef :: .undef :: .undef :: .undef :: .undef :: .undef :: .undef :: .undef :: .undef :: .undef :: .undef :: []) ⟨[], [(1, 1, acc.map vi)]⟩ := by
  induction m using Nat.strongRecOn with
  | _ m ih =>
    intro i acc hm ha hb
    refine run_lp ?_
    refine at_seq [1, 1, 1, 0, 1, 0, 0, 0] [1, 1, 1, 0, 1, 0, 0, 1] rfl ?_
    refine at_seq [1, 1, 1, 0, 1, 0, 0, 0, 0] [1, 1, 1, 0, 1, 0, 0, 0, 1] rfl ?_
    refine at_region rfl ?_
    refine at_mv 8 15 rfl rfl rfl (.inl rfl) rfl (by dsimp only [List.set]) ?_
    refine at_mv 0 16 rfl rfl rfl (.inl rfl) rfl (by dsimp only [List.set]) ?_
    first | (refine at_op (some 17) rfl rfl rfl rfl (op_lenL rfl uInts) (by dsimp only [putD, List.set]) ?_) | (refine at_op (some 17) rfl rfl rfl rfl (opOK_un (op_lenL rfl uInts)) (by dsimp only [putD, List.set]) ?_) | (refine at_op (some 17) rfl rfl rfl rfl (op_lenA rfl uInts) (by dsimp only [putD, List.set]) ?_)
    refine at_op (some 18) rfl rfl rfl rfl (op_binI rfl rfl) (by dsimp only [putD, List.set]) ?_
    refine at_end rfl ?_
    refine at_cond [1, 1, 1, 0, 1, 0, 0, 0, 1, 0] [1, 1, 1, 0, 1, 0, 0, 0, 1, 1] rfl rfl (fun hc1 => ?_) (fun hc1 => ?_)
    · skip
      have hlt : i < a.length := by simpa using hc1
      obtain ⟨x, hx⟩ := get_ex hlt
      obtain ⟨y, hy⟩ := get_ex (a := b) (i := i) (by omega)
      rw [zip_at hx hy] at hb
      refine at_skip rfl ?_
      refine at_seq [1, 1, 1, 0, 1, 0, 0, 1, 0] [1, 1, 1, 0, 1, 0, 0, 1, 1] rfl ?_
      refine at_block [1, 1, 1, 0, 1, 0, 0, 1, 0, 0] 1 rfl ?_
      refine at_draw mixed rfl [⟨[], [(1, 1, acc.map vi)]⟩, ⟨[], [(1, 1, acc.map vi ++ [vi (maxF x y)])]⟩] rfl ?_
      refine da_mv 7 21 rfl rfl rfl (.inl rfl) rfl (by dsimp only [List.set]) ?_
      refine da_mv 0 22 rfl rfl rfl (.inl rfl) rfl (by dsimp only [List.set]) ?_
      refine da_mv 8 23 rfl rfl rfl (.inl rfl) rfl (by dsimp only [List.set]) ?_
      first | (refine da_quiet (some 24) rfl rfl rfl rfl (fun s hs => op_idxL rfl slInt (by first | decide | omega) (by first | exact idx_some (by assumption) | assumption | rfl) (by first | rfl | (simp [V.size]; done))) (by dsimp only [putD, List.set]) ?_) | (refine da_quiet (some 24) rfl rfl rfl rfl (fun s hs => opOK_un (op_idxL rfl slInt (by first | decide | omega) (by first | exact idx_some (by assumption) | assumption | rfl) (by first | rfl | (simp [V.size]; done)))) (by dsimp only [putD, List.set]) ?_) | (refine da_quiet (some 24) rfl rfl rfl rfl (fun s hs => op_idxA rfl slInt (by first | decide | omega) (by first | decide | omega)) (by dsimp only [putD, List.set]) ?_)
      first | (refine da_quiet (some 25) rfl rfl rfl rfl (fun s hs => op_loadR1 rfl oneInt rfl) (by dsimp only [putD, List.set]) ?_) | (refine da_quiet (some 25) rfl rfl rfl rfl (by intro s hs; simp only [List.mem_cons, List.not_mem_nil, or_false] at hs; rcases hs with rfl | rfl <;> exact op_loadP1 rfl oneInt rfl rfl) (by dsimp only [putD, List.set]) ?_)
      refine da_mv 1 26 rfl rfl rfl (.inl rfl) rfl (by dsimp only [List.set]) ?_
      refine da_mv 8 27 rfl rfl rfl (.inl rfl) rfl (by dsimp only [List.set]) ?_
      first | (refine da_quiet (some 28) rfl rfl rfl rfl (fun s hs => op_idxL rfl slInt (by first | decide | omega) (by first | exact idx_some (by assumption) | assumption | rfl) (by first | rfl | (simp [V.size]; done))) (by dsimp only [putD, List.set]) ?_) | (refine da_quiet (some 28) rfl rfl rfl rfl (fun s hs => opOK_un (op_idxL rfl slInt (by first | decide | omega) (by first | exact idx_some (by assumption) | assumption | rfl) (by first | rfl | (simp [V.size]; done)))) (by dsimp only [putD, List.set]) ?_) | (refine da_quiet (some 28) rfl rfl rfl rfl (fun s hs => op_idxA rfl slInt (by first | decide | omega) (by first | decide | omega)) (by dsimp only [putD, List.set]) ?_)
      first | (refine da_quiet (some 29) rfl rfl rfl rfl (fun s hs => op_loadR1 rfl oneInt rfl) (by dsimp only [putD, List.set]) ?_) | (refine da_quiet (some 29) rfl rfl rfl rfl (by intro s hs; simp only [List.mem_cons, List.not_mem_nil, or_false] at hs; rcases hs with rfl | rfl <;> exact op_loadP1 rfl oneInt rfl rfl) (by dsimp only [putD, List.set]) ?_)
      refine da_quiet (some 30) rfl rfl rfl rfl (fun s hs => op_max rfl) (by dsimp only [putD, List.set]) ?_
      refine da_quiet (some 31) rfl rfl rfl rfl (fun s hs => op_buildSlice rfl (by rfl) (by rfl) slInt rfl rfl (by simp [V.size]) (by decide) (by decide) (by decide)) (by dsimp only [putD, List.set]) ?_
      refine da_eff (some 32) rfl rfl rfl rfl rfl rfl (op_append rfl slInt rfl (by simp) (by simp [V.size]) (by simp; omega) (by simp; omega)) (by dsimp only [putD, List.set]) ?_
      refine da_mv 32 7 rfl rfl rfl (.inr rfl) rfl (by dsimp only [List.set]) ?_
      refine da_end rfl ⟨by decide +kernel, _, rfl, ?_⟩
      refine run_blk ?_
      refine at_region rfl ?_
      refine at_mv 8 19 rfl rfl rfl (.inl rfl) rfl (by dsimp only [List.set]) ?_
      refine at_op (some 20) rfl rfl rfl rfl (op_binI rfl rfl) (by dsimp only [putD, List.set]) ?_
      refine at_mv 20 8 rfl rfl rfl (.inr rfl) rfl (by dsimp only [List.set]) ?_
      refine at_end rfl ?_
      rw [wrap_succ (by omega)]
      simp only [mvi]
      exact run_wk (.keep (.keep (.drop (.drop (.keep (.keep (.drop (.keep (.keep (.drop (.drop (.drop (.drop (.drop (.drop (.drop (.drop (.drop (.drop (.drop (.drop (.drop (.drop (.drop (.drop (.drop (.drop (.drop (.drop (.drop (.drop (.drop (.drop (.drop .nil)))))))))))))))))))))))))))))))))) (ih _ (by omega) (i + 1) (acc ++ [maxF x y]) rfl (by simp [ha]) (by rw [← hb]; simp))
    · skip
      have hge : a.length ≤ i := by simpa using hc1
      rw [zip_end hge, List.append_nil] at hb
      subst hb
      refine at_exit rfl rfl ?_
      refine at_seq [1, 1, 1, 1, 0] [1, 1, 1, 1, 1] rfl ?_
      refine at_region rfl ?_
      refine at_mv 7 33 rfl rfl rfl (.inl rfl) rfl (by dsimp only [List.set]) ?_
      refine at_mv 33 4 rfl rfl rfl (.inr rfl) rfl (by dsimp only [List.set]) ?_
      refine at_mc 5 rfl rfl rfl (.inr rfl) (by dsimp only [constD]) (by dsimp only [List.set]) ?_
      refine at_end rfl ?_
      refine at_ret rfl (ret_two (t := 4) (t2 := 5) rfl rfl rfl ?_ ?_ rfl rfl)
      all_goals (rfl)

set_option maxRecDepth 20000 in
theorem rmax_spec (a b : List Int) (hs : a.length ≤ 1000000) (hs2 : b.length ≤ 1000000) : FSpec PP 38 [dl a, dl b] σ0 (.tup [dl (joinM (valid a) (valid b) maxF a b).1, di (joinM (valid a) (valid b) maxF a b).2]) σ0 := by
  refine spec_at cRMax Try.func38 rfl (by kernel_rfl) (by first | decide | simp) _ (by dsimp only [Try.f38, List.length, Nat.reduceAdd, Nat.reduceSub, List.replicate, List.cons_append, List.nil_append]) ?_
  refine at_seq [0] [1] rfl ?_
  refine at_region rfl ?_
  refine at_mc 4 rfl rfl rfl (.inr rfl) (by dsimp only [constD]) (by dsimp only [List.set]) ?_
  refine at_mc 5 rfl rfl rfl (.inr rfl) (by dsimp only [constD]) (by dsimp only [List.set]) ?_
  refine at_end rfl ?_
  refine at_seq [1, 0] [1, 1] rfl ?_
  refine at_seq [1, 0, 0] [1, 0, 1] rfl ?_
  refine at_region rfl ?_
  refine at_mv 0 9 rfl rfl rfl (.inl rfl) rfl (by dsimp only [List.set]) ?_
  refine at_mv 1 10 rfl rfl rfl (.inl rfl) rfl (by dsimp only [List.set]) ?_
  refine at_op (some 11) rfl rfl rfl rfl (op_call0 rfl rfl rfl rfl (fault_spec _ _ (by assumption) (by assumption))) (by dsimp only [putD, List.set]) ?_
  refine at_mv 11 6 rfl rfl rfl (.inr rfl) rfl (by dsimp only [List.set]) ?_
  refine at_end rfl ?_
  refine at_seq [1, 0, 1, 0] [1, 0, 1, 1] rfl ?_
  refine at_region rfl ?_
  refine at_mv 6 12 rfl rfl rfl (.inl rfl) rfl (by dsimp only [List.set]) ?_
  refine at_op (some 13) rfl rfl rfl rfl (op_binI rfl rfl) (by dsimp only [putD, List.set]) ?_
  refine at_end rfl ?_
  refine at_cond [1, 0, 1, 1, 0] [1, 0, 1, 1, 1] rfl rfl (fun hc1 => ?_) (fun hc1 => ?_)
  · skip
    refine at_seq [1, 0, 1, 1, 0, 0] [1, 0, 1, 1, 0, 1] rfl ?_
    refine at_region rfl ?_
    refine at_mv 6 14 rfl rfl rfl (.inl rfl) rfl (by dsimp only [List.set]) ?_
    refine at_mc 4 rfl rfl rfl (.inr rfl) (by dsimp only [constD]) (by dsimp only [List.set]) ?_
    refine at_mv 14 5 rfl rfl rfl (.inr rfl) rfl (by dsimp only [List.set]) ?_
    refine at_end rfl ?_
    refine at_ret rfl (ret_two (t := 4) (t2 := 5) rfl rfl rfl ?_ ?_ rfl rfl)
    all_goals (rw [join_fault]; simp_all [D.un])
  · skip
    refine at_skip rfl ?_
    refine at_seq [1, 1, 0] [1, 1, 1] rfl ?_
    refine at_region rfl ?_
    refine at_opS (some 7) rfl rfl rfl rfl (op_nilOwn (.inl rfl) 1 1 (by simp) (by decide)) (by dsimp only [putD, List.set]) (by dsimp only [List.set, List.append, List.cons_append, List.nil_append, cellsD, List.map, repl, List.length, Nat.reduceAdd, if_true, ↓reduceIte]; first | done | rfl) ?_
    refine at_end rfl ?_
    refine at_seq [1, 1, 1, 0] [1, 1, 1, 1] rfl ?_
    refine at_seq [1, 1, 1, 0, 0] [1, 1, 1, 0, 1] rfl ?_
    refine at_region rfl ?_
    refine at_mc 8 rfl rfl rfl (.inr rfl) (by dsimp only [constD]) (by dsimp only [List.set]) ?_
    refine at_end rfl ?_
    refine at_block [1, 1, 1, 0, 1, 0] 0 rfl ?_
    refine at_loop [1, 1, 1, 0, 1, 0, 0] rfl ?_
    try simp only [List.length_map, List.length_nil, Int.toNat_natCast]
    have hf : faultM a b = 0 := by simp_all
    obtain ⟨h1, h2, h⟩ := fault_ok hf
    rw [join_fault, if_pos hf]
    exact run_wk (.keep (.keep (.drop (.drop (.keep (.keep (.drop (.keep (.keep (.drop (.drop (.drop (.drop (.drop (.drop (.drop (.drop (.drop (.drop (.drop (.drop (.drop (.drop (.drop (.drop (.drop (.drop (.drop (.drop (.drop (.drop (.drop (.drop (.drop .nil)))))))))))))))))))))))))))))))))) (rmax_loop a b h hs _ _ 0 [] rfl rfl rfl)

noncomputable def cRMin : Code := Try.f39.body.getD .skip
set_option maxRecDepth 20000 in
theorem rmin_loop (a b : List Int) (h : a.length = b.length) (hs : a.length ≤ 1000000) (T : List Int) (m : Nat) : ∀ (i : Nat) (acc : List Int), a.length - i = m → acc.length = i → acc ++ List.zipWith minF (a.drop i) (b.drop i) = T → Run PP (fun env σ1 => ResOK PP Try.f39 env σ1 (.tup [dl T, di 0]) σ0) [.lp (sub cRMin [1, 1, 1, 0, 1, 0, 0]), .blk 0, .code (sub cRMin [1, 1, 1, 1])] ((dl a) :: (dl b) :: .undef :: .undef :: (.v (.list [])) :: (di 0) :: .undef :: (.acc 1 (acc.map vi)) :: (di ↑i) :: .undef :: .undef :: .undef :: .undef :: .undef :: .undef :: .undef :: .undef :: .undef :: .undef :: .undef :: .undef :: .undef :: .undef :: .undef :: .undef :: .undef :: .undef :: .undef :: .undef :: .undef :: .undef :: .undef :: .undef :: .undef :: []) ⟨[], [(1, 1, acc.map vi)]⟩ := by
  induction m using Nat.strongRecOn with
  | _ m ih =>
    intro i acc hm ha hb
    refine run_lp ?_
    refine at_seq [1, 1, 1, 0, 1, 0, 0, 0] [1, 1, 1, 0, 1, 0, 0, 1] rfl ?_
    refine at_seq [1, 1, 1, 0, 1, 0, 0, 0, 0] [1, 1, 1, 0, 1, 0, 0, 0, 1] rfl ?_
    refine at_region rfl ?_
    refine at_mv 8 15 rfl rfl rfl (.inl rfl) rfl (by dsimp only [List.set]) ?_
    refine at_mv 0 16 rfl rfl rfl (.inl rfl) rfl (by dsimp only [List.set]) ?_
    first | (refine at_op (some 17) rfl rfl rfl rfl (op_lenL rfl uInts) (by dsimp only [putD, List.set]) ?_) | (refine at_op (some 17) rfl rfl rfl rfl (opOK_un (op_lenL rfl uInts)) (by dsimp only [putD, List.set]) ?_) | (refine at_op (some 17) rfl rfl rfl rfl (op_lenA rfl uInts) (by dsimp only [putD, List.set]) ?_)
    refine at_op (some 18) rfl rfl rfl rfl (op_binI rfl rfl) (by dsimp only [putD, List.set]) ?_
    refine at_end rfl ?_
    refine at_cond [1, 1, 1, 0, 1, 0, 0, 0, 1, 0] [1, 1, 1, 0, 1, 0, 0, 0, 1, 1] rfl rfl (fun hc1 => ?_) (fun hc1 => ?_)
    · skip
      have hlt : i < a.length := by simpa using hc1
      obtain ⟨x, hx⟩ := get_ex hlt
      obtain ⟨y, hy⟩ := get_ex (a := b) (i := i) (by omega)
      rw [zip_at hx hy] at hb
      refine at_skip rfl ?_
      refine at_seq [1, 1, 1, 0, 1, 0, 0, 1, 0] [1, 1, 1, 0, 1, 0, 0, 1, 1] rfl ?_
      refine at_block [1, 1, 1, 0, 1, 0, 0, 1, 0, 0] 1 rfl ?_
      refine at_draw mixed rfl [⟨[], [(1, 1, acc.map vi)]⟩, ⟨[], [(1, 1, acc.map vi ++ [vi (minF x y)])]⟩] rfl ?_
      refine da_mv 7 21 rfl rfl rfl (.inl rfl) rfl (by dsimp only [List.set]) ?_
      refine da_mv 0 22 rfl rfl rfl (.inl rfl) rfl (by dsimp only [List.set]) ?_
      refine da_mv 8 23 rfl rfl rfl (.inl rfl) rfl (by dsimp only [List.set]) ?_
      first | (refine da_quiet (some 24) rfl rfl rfl rfl (fun s hs => op_idxL rfl slInt (by first | decide | omega) (by first | exact idx_some (by assumption) | assumption | rfl) (by first | rfl | (simp [V.size]; done))) (by dsimp only [putD, List.set]) ?_) | (refine da_quiet (some 24) rfl rfl rfl rfl (fun s hs => opOK_un (op_idxL rfl slInt (by first | decide | omega) (by first | exact idx_some (by assumption) | assumption | rfl) (by first | rfl | (simp [V.size]; done)))) (by dsimp only [putD, List.set]) ?_) | (refine da_quiet (some 24) rfl rfl rfl rfl (fun s hs => op_idxA rfl slInt (by first | decide | omega) (by first | decide | omega)) (by dsimp only [putD, List.set]) ?_)
      first | (refine da_quiet (some 25) rfl rfl rfl rfl (fun s hs => op_loadR1 rfl oneInt rfl) (by dsimp only [putD, List.set]) ?_) | (refine da_quiet (some 25) rfl rfl rfl rfl (by intro s hs; simp only [List.mem_cons, List.not_mem_nil, or_false] at hs; rcases hs with rfl | rfl <;> exact op_loadP1 rfl oneInt rfl rfl) (by dsimp only [putD, List.set]) ?_)
      refine da_mv 1 26 rfl rfl rfl (.inl rfl) rfl (by dsimp only [List.set]) ?_
      refine da_mv 8 27 rfl rfl rfl (.inl rfl) rfl (by dsimp only [List.set]) ?_
      first | (refine da_quiet (some 28) rfl rfl rfl rfl (fun s hs => op_idxL rfl slInt (by first | decide | omega) (by first | exact idx_some (by assumption) | assumption | rfl) (by first | rfl | (simp [V.size]; done))) (by dsimp only [putD, List.set]) ?_) | (refine da_quiet (some 28) rfl rfl rfl rfl (fun s hs => opOK_un (op_idxL rfl slInt (by first | decide | omega) (by first | exact idx_some (by assumption) | assumption | rfl) (by first | rfl | (simp [V.size]; done)))) (by dsimp only [putD, List.set]) ?_) | (refine da_quiet (some 28) rfl rfl rfl rfl (fun s hs => op_idxA rfl slInt (by first | decide | omega) (by first | decide | omega)) (by dsimp only [putD, List.set]) ?_)
      first | (refine da_quiet (some 29) rfl rfl rfl rfl (fun s hs => op_loadR1 rfl oneInt rfl) (by dsimp only [putD, List.set]) ?_) | (refine da_quiet (some 29) rfl rfl rfl rfl (by intro s hs; simp only [List.mem_cons, List.not_mem_nil, or_false] at hs; rcases hs with rfl | rfl <;> exact op_loadP1 rfl oneInt rfl rfl) (by dsimp only [putD, List.set]) ?_)
      refine da_quiet (some 30) rfl rfl rfl rfl (fun s hs => op_min rfl) (by dsimp only [putD, List.set]) ?_
      refine da_quiet (some 31) rfl rfl rfl rfl (fun s hs => op_buildSlice rfl (by rfl) (by rfl) slInt rfl rfl (by simp [V.size]) (by decide) (by decide) (by decide)) (by dsimp only [putD, List.set]) ?_
      refine da_eff (some 32) rfl rfl rfl rfl rfl rfl (op_append rfl slInt rfl (by simp) (by simp [V.size]) (by simp; omega) (by simp; omega)) (by dsimp only [putD, List.set]) ?_
      refine da_mv 32 7 rfl rfl rfl (.inr rfl) rfl (by dsimp only [List.set]) ?_
      refine da_end rfl ⟨by decide +kernel, _, rfl, ?_⟩
      refine run_blk ?_
      refine at_region rfl ?_
      refine at_mv 8 19 rfl rfl rfl (.inl rfl) rfl (by dsimp only [List.set]) ?_
      refine at_op (some 20) rfl rfl rfl rfl (op_binI rfl rfl) (by dsimp only [putD, List.set]) ?_
      refine at_mv 20 8 rfl rfl rfl (.inr rfl) rfl (by dsimp only [List.set]) ?_
      refine at_end rfl ?_
      rw [wrap_succ (by omega)]
      simp only [mvi]
      exact run_wk (.keep (.keep (.drop (.drop (.keep (.keep (.drop (.keep (.keep (.drop (.drop (.drop (.drop (.drop (.drop (.drop (.drop (.drop (.drop (.drop (.drop (.drop (.drop (.drop (.drop (.drop (.drop (.drop (.drop (.drop (.drop (.drop (.drop (.drop .nil)))))))))))))))))))))))))))))))))) (ih _ (by omega) (i + 1) (acc ++ [minF x y]) rfl (by simp [ha]) (by rw [← hb]; simp))
    · skip
      have hge : a.length ≤ i := by simpa using hc1
      rw [zip_end hge, List.append_nil] at hb
      subst hb
      refine at_exit rfl rfl ?_
      refine at_seq [1, 1, 1, 1, 0] [1, 1, 1, 1, 1] rfl ?_
      refine at_region rfl ?_
      refine at_mv 7 33 rfl rfl rfl (.inl rfl) rfl (by dsimp only [List.set]) ?_
      refine at_mv 33 4 rfl rfl rfl (.inr rfl) rfl (by dsimp only [List.set]) ?_
      refine at_mc 5 rfl rfl rfl (.inr rfl) (by dsimp only [constD]) (by dsimp only [List.set]) ?_
      refine at_end rfl ?_
      refine at_ret rfl (ret_two (t := 4) (t2 := 5) rfl rfl rfl ?_ ?_ rfl rfl)
      all_goals (rfl)

set_option maxRecDepth 20000 in
theorem rmin_spec (a b : List Int) (hs : a.length ≤ 1000000) (hs2 : b.length ≤ 1000000) : FSpec PP 39 [dl a, dl b] σ0 (.tup [dl (joinM (valid a) (valid b) minF a b).1, di (joinM (valid a) (valid b) minF a b).2]) σ0 := by
  refine spec_at cRMin Try.func39 rfl (by kernel_rfl) (by first | decide | simp) _ (by dsimp only [Try.f39, List.length, Nat.reduceAdd, Nat.reduceSub, List.replicate, List.cons_append, List.nil_append]) ?_
  refine at_seq [0] [1] rfl ?_
  refine at_region rfl ?_
  refine at_mc 4 rfl rfl rfl (.inr rfl) (by dsimp only [constD]) (by dsimp only [List.set]) ?_
  refine at_mc 5 rfl rfl rfl (.inr rfl) (by dsimp only [constD]) (by dsimp only [List.set]) ?_
  refine at_end rfl ?_
  refine at_seq [1, 0] [1, 1] rfl ?_
  refine at_seq [1, 0, 0] [1, 0, 1] rfl ?_
  refine at_region rfl ?_
  refine at_mv 0 9 rfl rfl rfl (.inl rfl) rfl (by dsimp only [List.set]) ?_
  refine at_mv 1 10 rfl rfl rfl (.inl rfl) rfl (by dsimp only [List.set]) ?_
  refine at_op (some 11) rfl rfl rfl rfl (op_call0 rfl rfl rfl rfl (fault_spec _ _ (by assumption) (by assumption))) (by dsimp only [putD, List.set]) ?_
  refine at_mv 11 6 rfl rfl rfl (.inr rfl) rfl (by dsimp only [List.set]) ?_
  refine at_end rfl ?_
  refine at_seq [1, 0, 1, 0] [1, 0, 1, 1] rfl ?_
  refine at_region rfl ?_
  refine at_mv 6 12 rfl rfl rfl (.inl rfl) rfl (by dsimp only [List.set]) ?_
  refine at_op (some 13) rfl rfl rfl rfl (op_binI rfl rfl) (by dsimp only [putD, List.set]) ?_
  refine at_end rfl ?_
  refine at_cond [1, 0, 1, 1, 0] [1, 0, 1, 1, 1] rfl rfl (fun hc1 => ?_) (fun hc1 => ?_)
  · skip
    refine at_seq [1, 0, 1, 1, 0, 0] [1, 0, 1, 1, 0, 1] rfl ?_
    refine at_region rfl ?_
    refine at_mv 6 14 rfl rfl rfl (.inl rfl) rfl (by dsimp only [List.set]) ?_
    refine at_mc 4 rfl rfl rfl (.inr rfl) (by dsimp only [constD]) (by dsimp only [List.set]) ?_
    refine at_mv 14 5 rfl rfl rfl (.inr rfl) rfl (by dsimp only [List.set]) ?_
    refine at_end rfl ?_
    refine at_ret rfl (ret_two (t := 4) (t2 := 5) rfl rfl rfl ?_ ?_ rfl rfl)
    all_goals (rw [join_fault]; simp_all [D.un])
  · skip
    refine at_skip rfl ?_
    refine at_seq [1, 1, 0] [1, 1, 1] rfl ?_
    refine at_region rfl ?_
    refine at_opS (some 7) rfl rfl rfl rfl (op_nilOwn (.inl rfl) 1 1 (by simp) (by decide)) (by dsimp only [putD, List.set]) (by dsimp only [List.set, List.append, List.cons_append, List.nil_append, cellsD, List.map, repl, List.length, Nat.reduceAdd, if_true, ↓reduceIte]; first | done | rfl) ?_
    refine at_end rfl ?_
    refine at_seq [1, 1, 1, 0] [1, 1, 1, 1] rfl ?_
    refine at_seq [1, 1, 1, 0, 0] [1, 1, 1, 0, 1] rfl ?_
    refine at_region rfl ?_
    refine at_mc 8 rfl rfl rfl (.inr rfl) (by dsimp only [constD]) (by dsimp only [List.set]) ?_
    refine at_end rfl ?_
    refine at_block [1, 1, 1, 0, 1, 0] 0 rfl ?_
    refine at_loop [1, 1, 1, 0, 1, 0, 0] rfl ?_
    try simp only [List.length_map, List.length_nil, Int.toNat_natCast]
    have hf : faultM a b = 0 := by simp_all
    obtain ⟨h1, h2, h⟩ := fault_ok hf
    rw [join_fault, if_pos hf]
    exact run_wk (.keep (.keep (.drop (.drop (.keep (.keep (.drop (.keep (.keep (.drop (.drop (.drop (.drop (.drop (.drop (.drop (.drop (.drop (.drop (.drop (.drop (.drop (.drop (.drop (.drop (.drop (.drop (.drop (.drop (.drop (.drop (.drop (.drop (.drop .nil)))))))))))))))))))))))))))))))))) (rmin_loop a b h hs _ _ 0 [] rfl rfl rfl)

noncomputable def cRAdd : Code := Try.f36.body.getD .skip
set_option maxRecDepth 20000 in
theorem radd_loop (a b : List Int) (h : a.length = b.length) (hs : a.length ≤ 1000000) (va : valid a = true) (vb : valid b = true) (m : Nat) : ∀ (i : Nat) (acc : List Int), a.length - i = m → acc.length = i → acc.all isEl = true → acc ++ List.zipWith addF (a.drop i) (b.drop i) = List.zipWith addF a b → Run PP (fun env σ1 => ResOK PP Try.f36 env σ1 (.tup [dl (addU a b).1, di (addU a b).2]) σ0) [.lp (sub cRAdd [1, 1, 1, 0, 1, 0, 0]), .blk 0, .code (sub cRAdd [1, 1, 1, 1])] ((dl a) :: (dl b) :: .undef :: .undef :: (.v (.list [])) :: (di 0) :: .undef :: (.acc 1 (acc.map vi)) :: (di ↑i) :: .undef :: .undef :: .undef :: .undef :: .undef :: .undef :: .undef :: .undef :: .undef :: .undef :: .undef :: .undef :: .undef :: .undef :: .undef :: .undef :: .undef :: .undef :: .undef :: .undef :: .undef :: .undef :: .undef :: .undef :: .undef :: .undef :: .undef :: .undef :: .undef :: .undef :: .undef :: .undef :: .undef :: .undef :: .undef :: .undef :: .undef :: .undef :: .undef :: .undef :: .undef :: []) ⟨[], [(1, 1, acc.map vi)]⟩ := by
  induction m using Nat.strongRecOn with
  | _ m ih =>
    intro i acc hm ha he hb
    refine run_lp ?_
    refine at_seq [1, 1, 1, 0, 1, 0, 0, 0] [1, 1, 1, 0, 1, 0, 0, 1] rfl ?_
    refine at_seq [1, 1, 1, 0, 1, 0, 0, 0, 0] [1, 1, 1, 0, 1, 0, 0, 0, 1] rfl ?_
    refine at_region rfl ?_
    refine at_mv 8 16 rfl rfl rfl (.inl rfl) rfl (by dsimp only [List.set]) ?_
    refine at_mv 0 17 rfl rfl rfl (.inl rfl) rfl (by dsimp only [List.set]) ?_
    first | (refine at_op (some 18) rfl rfl rfl rfl (op_lenL rfl uInts) (by dsimp only [putD, List.set]) ?_) | (refine at_op (some 18) rfl rfl rfl rfl (opOK_un (op_lenL rfl uInts)) (by dsimp only [putD, List.set]) ?_) | (refine at_op (some 18) rfl rfl rfl rfl (op_lenA rfl uInts) (by dsimp only [putD, List.set]) ?_)
    refine at_op (some 19) rfl rfl rfl rfl (op_binI rfl rfl) (by dsimp only [putD, List.set]) ?_
    refine at_end rfl ?_
    refine at_cond [1, 1, 1, 0, 1, 0, 0, 0, 1, 0] [1, 1, 1, 0, 1, 0, 0, 0, 1, 1] rfl rfl (fun hc1 => ?_) (fun hc1 => ?_)
    · skip
      have hlt : i < a.length := by simpa using hc1
      obtain ⟨x, hx⟩ := get_ex hlt
      obtain ⟨y, hy⟩ := get_ex (a := b) (i := i) (by omega)
      rw [zip_at hx hy] at hb
      have ex := valid_get va hx
      have ey := valid_get vb hy
      refine at_skip rfl ?_
      refine at_seq [1, 1, 1, 0, 1, 0, 0, 1, 0] [1, 1, 1, 0, 1, 0, 0, 1, 1] rfl ?_
      refine at_block [1, 1, 1, 0, 1, 0, 0, 1, 0, 0] 1 rfl ?_
      refine at_seq [1, 1, 1, 0, 1, 0, 0, 1, 0, 0, 0] [1, 1, 1, 0, 1, 0, 0, 1, 0, 0, 1] rfl ?_
      refine at_draw mixed rfl [⟨[], [(1, 1, acc.map vi)]⟩] rfl ?_
      refine da_mv 0 22 rfl rfl rfl (.inl rfl) rfl (by dsimp only [List.set]) ?_
      refine da_mv 8 23 rfl rfl rfl (.inl rfl) rfl (by dsimp only [List.set]) ?_
      first | (refine da_quiet (some 24) rfl rfl rfl rfl (fun s hs => op_idxL rfl slInt (by first | decide | omega) (by first | exact idx_some (by assumption) | assumption | rfl) (by first | rfl | (simp [V.size]; done))) (by dsimp only [putD, List.set]) ?_) | (refine da_quiet (some 24) rfl rfl rfl rfl (fun s hs => opOK_un (op_idxL rfl slInt (by first | decide | omega) (by first | exact idx_some (by assumption) | assumption | rfl) (by first | rfl | (simp [V.size]; done)))) (by dsimp only [putD, List.set]) ?_) | (refine da_quiet (some 24) rfl rfl rfl rfl (fun s hs => op_idxA rfl slInt (by first | decide | omega) (by first | decide | omega)) (by dsimp only [putD, List.set]) ?_)
      first | (refine da_quiet (some 25) rfl rfl rfl rfl (fun s hs => op_loadR1 rfl oneInt rfl) (by dsimp only [putD, List.set]) ?_) | (refine da_quiet (some 25) rfl rfl rfl rfl (by intro s hs; simp only [List.mem_cons, List.not_mem_nil, or_false] at hs; rcases hs with rfl <;> exact op_loadP1 rfl oneInt rfl rfl) (by dsimp only [putD, List.set]) ?_)
      refine da_mv 1 26 rfl rfl rfl (.inl rfl) rfl (by dsimp only [List.set]) ?_
      refine da_mv 8 27 rfl rfl rfl (.inl rfl) rfl (by dsimp only [List.set]) ?_
      first | (refine da_quiet (some 28) rfl rfl rfl rfl (fun s hs => op_idxL rfl slInt (by first | decide | omega) (by first | exact idx_some (by assumption) | assumption | rfl) (by first | rfl | (simp [V.size]; done))) (by dsimp only [putD, List.set]) ?_) | (refine da_quiet (some 28) rfl rfl rfl rfl (fun s hs => opOK_un (op_idxL rfl slInt (by first | decide | omega) (by first | exact idx_some (by assumption) | assumption | rfl) (by first | rfl | (simp [V.size]; done)))) (by dsimp only [putD, List.set]) ?_) | (refine da_quiet (some 28) rfl rfl rfl rfl (fun s hs => op_idxA rfl slInt (by first | decide | omega) (by first | decide | omega)) (by dsimp only [putD, List.set]) ?_)
      first | (refine da_quiet (some 29) rfl rfl rfl rfl (fun s hs => op_loadR1 rfl oneInt rfl) (by dsimp only [putD, List.set]) ?_) | (refine da_quiet (some 29) rfl rfl rfl rfl (by intro s hs; simp only [List.mem_cons, List.not_mem_nil, or_false] at hs; rcases hs with rfl <;> exact op_loadP1 rfl oneInt rfl rfl) (by dsimp only [putD, List.set]) ?_)
      refine da_quiet (some 30) rfl rfl rfl rfl (fun s hs => op_binI rfl rfl) (by dsimp only [putD, List.set]) ?_
      refine da_mv 30 9 rfl rfl rfl (.inr rfl) rfl (by dsimp only [List.set]) ?_
      refine da_end rfl ⟨by decide +kernel, _, rfl, ?_⟩
      refine at_seq [1, 1, 1, 0, 1, 0, 0, 1, 0, 0, 1, 0] [1, 1, 1, 0, 1, 0, 0, 1, 0, 0, 1, 1] rfl ?_
      refine at_seq [1, 1, 1, 0, 1, 0, 0, 1, 0, 0, 1, 0, 0] [1, 1, 1, 0, 1, 0, 0, 1, 0, 0, 1, 0, 1] rfl ?_
      refine at_region rfl ?_
      refine at_mv 0 31 rfl rfl rfl (.inl rfl) rfl (by dsimp only [List.set]) ?_
      refine at_mv 8 32 rfl rfl rfl (.inl rfl) rfl (by dsimp only [List.set]) ?_
      first | (refine at_op (some 33) rfl rfl rfl rfl (op_idxL rfl slInt (by first | decide | omega) (by first | exact idx_some (by assumption) | assumption | rfl) (by first | rfl | (simp [V.size]; done))) (by dsimp only [putD, List.set]) ?_) | (refine at_op (some 33) rfl rfl rfl rfl (opOK_un (op_idxL rfl slInt (by first | decide | omega) (by first | exact idx_some (by assumption) | assumption | rfl) (by first | rfl | (simp [V.size]; done)))) (by dsimp only [putD, List.set]) ?_) | (refine at_op (some 33) rfl rfl rfl rfl (op_idxA rfl slInt (by first | decide | omega) (by first | decide | omega)) (by dsimp only [putD, List.set]) ?_)
      first | (refine at_op (some 34) rfl rfl rfl rfl (op_loadR1 rfl oneInt rfl) (by dsimp only [putD, List.set]) ?_) | (refine at_op (some 34) rfl rfl rfl rfl (op_loadP1 rfl oneInt rfl rfl) (by dsimp only [putD, List.set]) ?_)
      refine at_op (some 35) rfl rfl rfl rfl (op_binI rfl rfl) (by dsimp only [putD, List.set]) ?_
      refine at_mv 35 36 rfl rfl rfl (.inl rfl) rfl (by dsimp only [List.set]) ?_
      refine at_split 36 rfl (fun hb2 env' he => ?_) (fun hb2 env' he => ?_)
      · dsimp only [List.set] at he; subst he
        have hom : x = 1099511627776 ∨ y = 1099511627776 := by simp_all
        have hA : addF x y = 1099511627776 := addF_om hom
        have hE : isEl (addF x y) = true := by rw [hA]; decide
        refine at_opN (some 37) rfl rfl rfl (by dsimp only [putD, List.set]) ?_
        refine at_opN (some 38) rfl rfl rfl (by dsimp only [putD, List.set]) ?_
        refine at_opN (some 39) rfl rfl rfl (by dsimp only [putD, List.set]) ?_
        refine at_opN (some 40) rfl rfl rfl (by dsimp only [putD, List.set]) ?_
        refine at_opN (some 41) rfl rfl rfl (by dsimp only [putD, List.set]) ?_
        refine at_pkc true 36 42 rfl rfl rfl rfl rfl rfl (by dsimp only [constD]) (by dsimp only [List.set]) ?_
        refine at_end rfl ?_
        refine at_true [1, 1, 1, 0, 1, 0, 0, 1, 0, 0, 1, 0, 1, 0] [1, 1, 1, 0, 1, 0, 0, 1, 0, 0, 1, 0, 1, 1] rfl rfl ?_
        refine at_region rfl ?_
        refine at_mc 9 rfl rfl rfl (.inr rfl) (by dsimp only [constD]) (by dsimp only [List.set]) ?_
        refine at_end rfl ?_
        refine at_region rfl ?_
        refine at_mv 7 45 rfl rfl rfl (.inl rfl) rfl (by dsimp only [List.set]) ?_
        refine at_mv 9 46 rfl rfl rfl (.inl rfl) rfl (by dsimp only [List.set]) ?_
        refine at_op (some 47) rfl rfl rfl rfl (op_buildSlice rfl (by rfl) (by rfl) slInt rfl rfl (by simp [V.size]) (by decide) (by decide) (by decide)) (by dsimp only [putD, List.set]) ?_
        refine at_opS (some 48) rfl rfl rfl rfl (op_append rfl slInt rfl (by simp) (by simp [V.size]) (by simp; omega) (by simp; omega)) (by dsimp only [putD, List.set]) (by dsimp only [List.set, List.append, List.cons_append, List.nil_append, cellsD, List.map, repl, List.length, Nat.reduceAdd, if_true, ↓reduceIte]; first | done | rfl) ?_
        refine at_mv 48 7 rfl rfl rfl (.inr rfl) rfl (by dsimp only [List.set]) ?_
        refine at_end rfl ?_
        refine run_blk ?_
        refine at_region rfl ?_
        refine at_mv 8 20 rfl rfl rfl (.inl rfl) rfl (by dsimp only [List.set]) ?_
        refine at_op (some 21) rfl rfl rfl rfl (op_binI rfl rfl) (by dsimp only [putD, List.set]) ?_
        refine at_mv 21 8 rfl rfl rfl (.inr rfl) rfl (by dsimp only [List.set]) ?_
        refine at_end rfl ?_
        rw [wrap_succ (by omega)]
        simp only [mvi]
        rw [← hA]
        exact run_wk (.keep (.keep (.drop (.drop (.keep (.keep (.drop (.keep (.keep (.drop (.drop (.drop (.drop (.drop (.drop (.drop (.drop (.drop (.drop (.drop (.drop (.drop (.drop (.drop (.drop (.drop (.drop (.drop (.drop (.drop (.drop (.drop (.drop (.drop (.drop (.drop (.drop (.drop (.drop (.drop (.drop (.drop (.drop (.drop (.drop (.drop (.drop (.drop (.drop (.drop .nil)))))))))))))))))))))))))))))))))))))))))))))))))) (ih _ (by omega) (i + 1) (acc ++ [addF x y]) rfl (by simp [ha]) (snoc_all he hE) (by rw [← hb]; simp))
      · dsimp only [List.set] at he; subst he
        refine at_mv 1 37 rfl rfl rfl (.inl rfl) rfl (by dsimp only [List.set]) ?_
        refine at_mv 8 38 rfl rfl rfl (.inl rfl) rfl (by dsimp only [List.set]) ?_
        first | (refine at_op (some 39) rfl rfl rfl rfl (op_idxL rfl slInt (by first | decide | omega) (by first | exact idx_some (by assumption) | assumption | rfl) (by first | rfl | (simp [V.size]; done))) (by dsimp only [putD, List.set]) ?_) | (refine at_op (some 39) rfl rfl rfl rfl (opOK_un (op_idxL rfl slInt (by first | decide | omega) (by first | exact idx_some (by assumption) | assumption | rfl) (by first | rfl | (simp [V.size]; done)))) (by dsimp only [putD, List.set]) ?_) | (refine at_op (some 39) rfl rfl rfl rfl (op_idxA rfl slInt (by first | decide | omega) (by first | decide | omega)) (by dsimp only [putD, List.set]) ?_)
        first | (refine at_op (some 40) rfl rfl rfl rfl (op_loadR1 rfl oneInt rfl) (by dsimp only [putD, List.set]) ?_) | (refine at_op (some 40) rfl rfl rfl rfl (op_loadP1 rfl oneInt rfl rfl) (by dsimp only [putD, List.set]) ?_)
        refine at_op (some 41) rfl rfl rfl rfl (op_binI rfl rfl) (by dsimp only [putD, List.set]) ?_
        refine at_pk false 36 41 42 rfl rfl rfl rfl rfl rfl rfl (by dsimp only [List.set]) ?_
        refine at_end rfl ?_
        refine at_cond [1, 1, 1, 0, 1, 0, 0, 1, 0, 0, 1, 0, 1, 0] [1, 1, 1, 0, 1, 0, 0, 1, 0, 0, 1, 0, 1, 1] rfl rfl (fun hc3 => ?_) (fun hc3 => ?_)
        · skip
          have hom : x = 1099511627776 ∨ y = 1099511627776 := by simp_all
          have hA : addF x y = 1099511627776 := addF_om hom
          have hE : isEl (addF x y) = true := by rw [hA]; decide
          refine at_region rfl ?_
          refine at_mc 9 rfl rfl rfl (.inr rfl) (by dsimp only [constD]) (by dsimp only [List.set]) ?_
          refine at_end rfl ?_
          refine at_region rfl ?_
          refine at_mv 7 45 rfl rfl rfl (.inl rfl) rfl (by dsimp only [List.set]) ?_
          refine at_mv 9 46 rfl rfl rfl (.inl rfl) rfl (by dsimp only [List.set]) ?_
          refine at_op (some 47) rfl rfl rfl rfl (op_buildSlice rfl (by rfl) (by rfl) slInt rfl rfl (by simp [V.size]) (by decide) (by decide) (by decide)) (by dsimp only [putD, List.set]) ?_
          refine at_opS (some 48) rfl rfl rfl rfl (op_append rfl slInt rfl (by simp) (by simp [V.size]) (by simp; omega) (by simp; omega)) (by dsimp only [putD, List.set]) (by dsimp only [List.set, List.append, List.cons_append, List.nil_append, cellsD, List.map, repl, List.length, Nat.reduceAdd, if_true, ↓reduceIte]; first | done | rfl) ?_
          refine at_mv 48 7 rfl rfl rfl (.inr rfl) rfl (by dsimp only [List.set]) ?_
          refine at_end rfl ?_
          refine run_blk ?_
          refine at_region rfl ?_
          refine at_mv 8 20 rfl rfl rfl (.inl rfl) rfl (by dsimp only [List.set]) ?_
          refine at_op (some 21) rfl rfl rfl rfl (op_binI rfl rfl) (by dsimp only [putD, List.set]) ?_
          refine at_mv 21 8 rfl rfl rfl (.inr rfl) rfl (by dsimp only [List.set]) ?_
          refine at_end rfl ?_
          rw [wrap_succ (by omega)]
          simp only [mvi]
          rw [← hA]
          exact run_wk (.keep (.keep (.drop (.drop (.keep (.keep (.drop (.keep (.keep (.drop (.drop (.drop (.drop (.drop (.drop (.drop (.drop (.drop (.drop (.drop (.drop (.drop (.drop (.drop (.drop (.drop (.drop (.drop (.drop (.drop (.drop (.drop (.drop (.drop (.drop (.drop (.drop (.drop (.drop (.drop (.drop (.drop (.drop (.drop (.drop (.drop (.drop (.drop (.drop (.drop .nil)))))))))))))))))))))))))))))))))))))))))))))))))) (ih _ (by omega) (i + 1) (acc ++ [addF x y]) rfl (by simp [ha]) (snoc_all he hE) (by rw [← hb]; simp))
        · skip
          have hom : ¬ x = 1099511627776 ∧ ¬ y = 1099511627776 := by simp_all
          have hA : addF x y = x + y := addF_fin (by omega) (by omega)
          rw [wrap_id (by omega) (by omega)]
          refine at_seq [1, 1, 1, 0, 1, 0, 0, 1, 0, 0, 1, 0, 1, 1, 0] [1, 1, 1, 0, 1, 0, 0, 1, 0, 0, 1, 0, 1, 1, 1] rfl ?_
          refine at_region rfl ?_
          refine at_mv 9 43 rfl rfl rfl (.inl rfl) rfl (by dsimp only [List.set]) ?_
          refine at_op (some 44) rfl rfl rfl rfl (op_binI rfl rfl) (by dsimp only [putD, List.set]) ?_
          refine at_end rfl ?_
          refine at_cond [1, 1, 1, 0, 1, 0, 0, 1, 0, 0, 1, 0, 1, 1, 1, 0] [1, 1, 1, 0, 1, 0, 0, 1, 0, 0, 1, 0, 1, 1, 1, 1] rfl rfl (fun hc4 => ?_) (fun hc4 => ?_)
          · skip
            have hE : isEl (addF x y) = false := by rw [hA]; simp at hc4; simp [isEl, isNum]; omega
            rw [addU_bad hx hy hE]
            refine at_seq [1, 1, 1, 0, 1, 0, 0, 1, 0, 0, 1, 0, 1, 1, 1, 0, 0] [1, 1, 1, 0, 1, 0, 0, 1, 0, 0, 1, 0, 1, 1, 1, 0, 1] rfl ?_
            refine at_region rfl ?_
            refine at_mc 4 rfl rfl rfl (.inr rfl) (by dsimp only [constD]) (by dsimp only [List.set]) ?_
            refine at_mc 5 rfl rfl rfl (.inr rfl) (by dsimp only [constD]) (by dsimp only [List.set]) ?_
            refine at_end rfl ?_
            refine at_ret rfl (ret_two (t := 4) (t2 := 5) rfl rfl rfl ?_ ?_ rfl rfl)
            all_goals (first | rfl)
          · skip
            have hE : isEl (addF x y) = true := by rw [hA]; simp at hc4; simp [isEl, isNum]; omega
            refine at_skip rfl ?_
            refine at_region rfl ?_
            refine at_mv 7 45 rfl rfl rfl (.inl rfl) rfl (by dsimp only [List.set]) ?_
            refine at_mv 9 46 rfl rfl rfl (.inl rfl) rfl (by dsimp only [List.set]) ?_
            refine at_op (some 47) rfl rfl rfl rfl (op_buildSlice rfl (by rfl) (by rfl) slInt rfl rfl (by simp [V.size]) (by decide) (by decide) (by decide)) (by dsimp only [putD, List.set]) ?_
            refine at_opS (some 48) rfl rfl rfl rfl (op_append rfl slInt rfl (by simp) (by simp [V.size]) (by simp; omega) (by simp; omega)) (by dsimp only [putD, List.set]) (by dsimp only [List.set, List.append, List.cons_append, List.nil_append, cellsD, List.map, repl, List.length, Nat.reduceAdd, if_true, ↓reduceIte]; first | done | rfl) ?_
            refine at_mv 48 7 rfl rfl rfl (.inr rfl) rfl (by dsimp only [List.set]) ?_
            refine at_end rfl ?_
            refine run_blk ?_
            refine at_region rfl ?_
            refine at_mv 8 20 rfl rfl rfl (.inl rfl) rfl (by dsimp only [List.set]) ?_
            refine at_op (some 21) rfl rfl rfl rfl (op_binI rfl rfl) (by dsimp only [putD, List.set]) ?_
            refine at_mv 21 8 rfl rfl rfl (.inr rfl) rfl (by dsimp only [List.set]) ?_
            refine at_end rfl ?_
            rw [wrap_succ (by omega)]
            simp only [mvi]
            rw [← hA]
            exact run_wk (.keep (.keep (.drop (.drop (.keep (.keep (.drop (.keep (.keep (.drop (.drop (.drop (.drop (.drop (.drop (.drop (.drop (.drop (.drop (.drop (.drop (.drop (.drop (.drop (.drop (.drop (.drop (.drop (.drop (.drop (.drop (.drop (.drop (.drop (.drop (.drop (.drop (.drop (.drop (.drop (.drop (.drop (.drop (.drop (.drop (.drop (.drop (.drop (.drop (.drop .nil)))))))))))))))))))))))))))))))))))))))))))))))))) (ih _ (by omega) (i + 1) (acc ++ [addF x y]) rfl (by simp [ha]) (snoc_all he hE) (by rw [← hb]; simp))
    · skip
      have hge : a.length ≤ i := by simpa using hc1
      rw [zip_end hge, List.append_nil] at hb
      have hu : addU a b = (acc, 0) := by unfold addU; rw [← hb, if_pos he]
      rw [hu]
      refine at_exit rfl rfl ?_
      refine at_seq [1, 1, 1, 1, 0] [1, 1, 1, 1, 1] rfl ?_
      refine at_region rfl ?_
      refine at_mv 7 49 rfl rfl rfl (.inl rfl) rfl (by dsimp only [List.set]) ?_
      refine at_mv 49 4 rfl rfl rfl (.inr rfl) rfl (by dsimp only [List.set]) ?_
      refine at_mc 5 rfl rfl rfl (.inr rfl) (by dsimp only [constD]) (by dsimp only [List.set]) ?_
      refine at_end rfl ?_
      refine at_ret rfl (ret_two (t := 4) (t2 := 5) rfl rfl rfl ?_ ?_ rfl rfl)
      all_goals (first | rfl)

set_option maxRecDepth 20000 in
theorem radd_spec (a b : List Int) (hs : a.length ≤ 1000000) (hs2 : b.length ≤ 1000000) : FSpec PP 36 [dl a, dl b] σ0 (.tup [dl (addM a b).1, di (addM a b).2]) σ0 := by
  refine spec_at cRAdd Try.func36 rfl (by kernel_rfl) (by first | decide | simp) _ (by dsimp only [Try.f36, List.length, Nat.reduceAdd, Nat.reduceSub, List.replicate, List.cons_append, List.nil_append]) ?_
  refine at_seq [0] [1] rfl ?_
  refine at_region rfl ?_
  refine at_mc 4 rfl rfl rfl (.inr rfl) (by dsimp only [constD]) (by dsimp only [List.set]) ?_
  refine at_mc 5 rfl rfl rfl (.inr rfl) (by dsimp only [constD]) (by dsimp only [List.set]) ?_
  refine at_end rfl ?_
  refine at_seq [1, 0] [1, 1] rfl ?_
  refine at_seq [1, 0, 0] [1, 0, 1] rfl ?_
  refine at_region rfl ?_
  refine at_mv 0 10 rfl rfl rfl (.inl rfl) rfl (by dsimp only [List.set]) ?_
  refine at_mv 1 11 rfl rfl rfl (.inl rfl) rfl (by dsimp only [List.set]) ?_
  refine at_op (some 12) rfl rfl rfl rfl (op_call0 rfl rfl rfl rfl (fault_spec _ _ (by assumption) (by assumption))) (by dsimp only [putD, List.set]) ?_
  refine at_mv 12 6 rfl rfl rfl (.inr rfl) rfl (by dsimp only [List.set]) ?_
  refine at_end rfl ?_
  refine at_seq [1, 0, 1, 0] [1, 0, 1, 1] rfl ?_
  refine at_region rfl ?_
  refine at_mv 6 13 rfl rfl rfl (.inl rfl) rfl (by dsimp only [List.set]) ?_
  refine at_op (some 14) rfl rfl rfl rfl (op_binI rfl rfl) (by dsimp only [putD, List.set]) ?_
  refine at_end rfl ?_
  refine at_cond [1, 0, 1, 1, 0] [1, 0, 1, 1, 1] rfl rfl (fun hc1 => ?_) (fun hc1 => ?_)
  · skip
    refine at_seq [1, 0, 1, 1, 0, 0] [1, 0, 1, 1, 0, 1] rfl ?_
    refine at_region rfl ?_
    refine at_mv 6 15 rfl rfl rfl (.inl rfl) rfl (by dsimp only [List.set]) ?_
    refine at_mc 4 rfl rfl rfl (.inr rfl) (by dsimp only [constD]) (by dsimp only [List.set]) ?_
    refine at_mv 15 5 rfl rfl rfl (.inr rfl) rfl (by dsimp only [List.set]) ?_
    refine at_end rfl ?_
    refine at_ret rfl (ret_two (t := 4) (t2 := 5) rfl rfl rfl ?_ ?_ rfl rfl)
    all_goals (rw [addM_eq]; simp_all [D.un])
  · skip
    refine at_skip rfl ?_
    refine at_seq [1, 1, 0] [1, 1, 1] rfl ?_
    refine at_region rfl ?_
    refine at_opS (some 7) rfl rfl rfl rfl (op_nilOwn (.inl rfl) 1 1 (by simp) (by decide)) (by dsimp only [putD, List.set]) (by dsimp only [List.set, List.append, List.cons_append, List.nil_append, cellsD, List.map, repl, List.length, Nat.reduceAdd, if_true, ↓reduceIte]; first | done | rfl) ?_
    refine at_end rfl ?_
    refine at_seq [1, 1, 1, 0] [1, 1, 1, 1] rfl ?_
    refine at_seq [1, 1, 1, 0, 0] [1, 1, 1, 0, 1] rfl ?_
    refine at_region rfl ?_
    refine at_mc 8 rfl rfl rfl (.inr rfl) (by dsimp only [constD]) (by dsimp only [List.set]) ?_
    refine at_end rfl ?_
    refine at_block [1, 1, 1, 0, 1, 0] 0 rfl ?_
    refine at_loop [1, 1, 1, 0, 1, 0, 0] rfl ?_
    try simp only [List.length_map, List.length_nil, Int.toNat_natCast]
    have hf : faultM a b = 0 := by simp_all
    obtain ⟨h1, h2, h⟩ := fault_ok hf
    rw [addM_eq, if_pos hf]
    exact run_wk (.keep (.keep (.drop (.drop (.keep (.keep (.drop (.keep (.keep (.drop (.drop (.drop (.drop (.drop (.drop (.drop (.drop (.drop (.drop (.drop (.drop (.drop (.drop (.drop (.drop (.drop (.drop (.drop (.drop (.drop (.drop (.drop (.drop (.drop (.drop (.drop (.drop (.drop (.drop (.drop (.drop (.drop (.drop (.drop (.drop (.drop (.drop (.drop (.drop (.drop .nil)))))))))))))))))))))))))))))))))))))))))))))))))) (radd_loop a b h hs h1 h2 _ 0 [] rfl rfl rfl rfl)

noncomputable def cRSub : Code := Try.f37.body.getD .skip
set_option maxRecDepth 20000 in
theorem rsub_loop (a b : List Int) (h : a.length = b.length) (hs : a.length ≤ 1000000) (va : valid a = true) (vb : finite b = true) (m : Nat) : ∀ (i : Nat) (acc : List Int), a.length - i = m → acc.length = i → below b a = below (b.drop i) (a.drop i) → acc ++ List.zipWith subF (a.drop i) (b.drop i) = List.zipWith subF a b → Run PP (fun env σ1 => ResOK PP Try.f37 env σ1 (.tup [dl (if below b a then (List.zipWith subF a b, (0 : Int)) else ([], 11)).1, di (if below b a then (List.zipWith subF a b, (0 : Int)) else ([], 11)).2]) σ0) [.lp (sub cRSub [1, 1, 1, 1, 0, 1, 0, 0]), .blk 0, .code (sub cRSub [1, 1, 1, 1, 1])] ((dl a) :: (dl b) :: .undef :: .undef :: (.v (.list [])) :: (di 0) :: (.acc 1 (acc.map vi)) :: (di ↑i) :: .undef :: .undef :: .undef :: .undef :: .undef :: .undef :: .undef :: .undef :: .undef :: .undef :: .undef :: .undef :: .undef :: .undef :: .undef :: .undef :: .undef :: .undef :: .undef :: .undef :: .undef :: .undef :: .undef :: .undef :: .undef :: .undef :: .undef :: .undef :: .undef :: .undef :: .undef :: .undef :: .undef :: .undef :: .undef :: .undef :: .undef :: .undef :: .undef :: .undef :: .undef :: .undef :: .undef :: .undef :: .undef :: .undef :: .undef :: .undef :: []) ⟨[], [(1, 1, acc.map vi)]⟩ := by
  induction m using Nat.strongRecOn with
  | _ m ih =>
    intro i acc hm ha he hb
    refine run_lp ?_
    refine at_seq [1, 1, 1, 1, 0, 1, 0, 0, 0] [1, 1, 1, 1, 0, 1, 0, 0, 1] rfl ?_
    refine at_seq [1, 1, 1, 1, 0, 1, 0, 0, 0, 0] [1, 1, 1, 1, 0, 1, 0, 0, 0, 1] rfl ?_
    refine at_region rfl ?_
    refine at_mv 7 22 rfl rfl rfl (.inl rfl) rfl (by dsimp only [List.set]) ?_
    refine at_mv 0 23 rfl rfl rfl (.inl rfl) rfl (by dsimp only [List.set]) ?_
    first | (refine at_op (some 24) rfl rfl rfl rfl (op_lenL rfl uInts) (by dsimp only [putD, List.set]) ?_) | (refine at_op (some 24) rfl rfl rfl rfl (opOK_un (op_lenL rfl uInts)) (by dsimp only [putD, List.set]) ?_) | (refine at_op (some 24) rfl rfl rfl rfl (op_lenA rfl uInts) (by dsimp only [putD, List.set]) ?_)
    refine at_op (some 25) rfl rfl rfl rfl (op_binI rfl rfl) (by dsimp only [putD, List.set]) ?_
    refine at_end rfl ?_
    refine at_cond [1, 1, 1, 1, 0, 1, 0, 0, 0, 1, 0] [1, 1, 1, 1, 0, 1, 0, 0, 0, 1, 1] rfl rfl (fun hc1 => ?_) (fun hc1 => ?_)
    · skip
      have hlt : i < a.length := by simpa using hc1
      obtain ⟨x, hx⟩ := get_ex hlt
      obtain ⟨y, hy⟩ := get_ex (a := b) (i := i) (by omega)
      rw [zip_at hx hy] at hb
      have ex := valid_get va hx
      have ey := finite_get vb hy
      rw [below_at hy hx] at he
      refine at_skip rfl ?_
      refine at_seq [1, 1, 1, 1, 0, 1, 0, 0, 1, 0] [1, 1, 1, 1, 0, 1, 0, 0, 1, 1] rfl ?_
      refine at_block [1, 1, 1, 1, 0, 1, 0, 0, 1, 0, 0] 1 rfl ?_
      refine at_seq [1, 1, 1, 1, 0, 1, 0, 0, 1, 0, 0, 0] [1, 1, 1, 1, 0, 1, 0, 0, 1, 0, 0, 1] rfl ?_
      refine at_seq [1, 1, 1, 1, 0, 1, 0, 0, 1, 0, 0, 0, 0] [1, 1, 1, 1, 0, 1, 0, 0, 1, 0, 0, 0, 1] rfl ?_
      refine at_draw mixed rfl [⟨[], [(1, 1, acc.map vi)]⟩] rfl ?_
      refine da_mv 0 28 rfl rfl rfl (.inl rfl) rfl (by dsimp only [List.set]) ?_
      refine da_mv 7 29 rfl rfl rfl (.inl rfl) rfl (by dsimp only [List.set]) ?_
      first | (refine da_quiet (some 30) rfl rfl rfl rfl (fun s hs => op_idxL rfl slInt (by first | decide | omega) (by first | exact idx_some (by assumption) | assumption | rfl) (by first | rfl | (simp [V.size]; done))) (by dsimp only [putD, List.set]) ?_) | (refine da_quiet (some 30) rfl rfl rfl rfl (fun s hs => opOK_un (op_idxL rfl slInt (by first | decide | omega) (by first | exact idx_some (by assumption) | assumption | rfl) (by first | rfl | (simp [V.size]; done)))) (by dsimp only [putD, List.set]) ?_) | (refine da_quiet (some 30) rfl rfl rfl rfl (fun s hs => op_idxA rfl slInt (by first | decide | omega) (by first | decide | omega)) (by dsimp only [putD, List.set]) ?_)
      first | (refine da_quiet (some 31) rfl rfl rfl rfl (fun s hs => op_loadR1 rfl oneInt rfl) (by dsimp only [putD, List.set]) ?_) | (refine da_quiet (some 31) rfl rfl rfl rfl (by intro s hs; simp only [List.mem_cons, List.not_mem_nil, or_false] at hs; rcases hs with rfl <;> exact op_loadP1 rfl oneInt rfl rfl) (by dsimp only [putD, List.set]) ?_)
      refine da_mv 1 32 rfl rfl rfl (.inl rfl) rfl (by dsimp only [List.set]) ?_
      refine da_mv 7 33 rfl rfl rfl (.inl rfl) rfl (by dsimp only [List.set]) ?_
      first | (refine da_quiet (some 34) rfl rfl rfl rfl (fun s hs => op_idxL rfl slInt (by first | decide | omega) (by first | exact idx_some (by assumption) | assumption | rfl) (by first | rfl | (simp [V.size]; done))) (by dsimp only [putD, List.set]) ?_) | (refine da_quiet (some 34) rfl rfl rfl rfl (fun s hs => opOK_un (op_idxL rfl slInt (by first | decide | omega) (by first | exact idx_some (by assumption) | assumption | rfl) (by first | rfl | (simp [V.size]; done)))) (by dsimp only [putD, List.set]) ?_) | (refine da_quiet (some 34) rfl rfl rfl rfl (fun s hs => op_idxA rfl slInt (by first | decide | omega) (by first | decide | omega)) (by dsimp only [putD, List.set]) ?_)
      first | (refine da_quiet (some 35) rfl rfl rfl rfl (fun s hs => op_loadR1 rfl oneInt rfl) (by dsimp only [putD, List.set]) ?_) | (refine da_quiet (some 35) rfl rfl rfl rfl (by intro s hs; simp only [List.mem_cons, List.not_mem_nil, or_false] at hs; rcases hs with rfl <;> exact op_loadP1 rfl oneInt rfl rfl) (by dsimp only [putD, List.set]) ?_)
      refine da_quiet (some 36) rfl rfl rfl rfl (fun s hs => op_binI rfl rfl) (by dsimp only [putD, List.set]) ?_
      refine da_end rfl ⟨by decide +kernel, _, rfl, ?_⟩
      refine at_cond [1, 1, 1, 1, 0, 1, 0, 0, 1, 0, 0, 0, 1, 0] [1, 1, 1, 1, 0, 1, 0, 0, 1, 0, 0, 0, 1, 1] rfl rfl (fun hc2 => ?_) (fun hc2 => ?_)
      · skip
        have hE : below b a = false := sub_bad hx hy (by simpa using hc2)
        rw [hE]
        refine at_seq [1, 1, 1, 1, 0, 1, 0, 0, 1, 0, 0, 0, 1, 0, 0] [1, 1, 1, 1, 0, 1, 0, 0, 1, 0, 0, 0, 1, 0, 1] rfl ?_
        refine at_region rfl ?_
        refine at_mc 4 rfl rfl rfl (.inr rfl) (by dsimp only [constD]) (by dsimp only [List.set]) ?_
        refine at_mc 5 rfl rfl rfl (.inr rfl) (by dsimp only [constD]) (by dsimp only [List.set]) ?_
        refine at_end rfl ?_
        refine at_ret rfl (ret_two (t := 4) (t2 := 5) rfl rfl rfl ?_ ?_ rfl rfl)
        all_goals (first | rfl)
      · skip
        have hE : y ≤ x := by simpa using hc2
        refine at_skip rfl ?_
        refine at_seq [1, 1, 1, 1, 0, 1, 0, 0, 1, 0, 0, 1, 0] [1, 1, 1, 1, 0, 1, 0, 0, 1, 0, 0, 1, 1] rfl ?_
        refine at_draw mixed rfl [⟨[], [(1, 1, acc.map vi)]⟩] rfl ?_
        refine da_mv 0 37 rfl rfl rfl (.inl rfl) rfl (by dsimp only [List.set]) ?_
        refine da_mv 7 38 rfl rfl rfl (.inl rfl) rfl (by dsimp only [List.set]) ?_
        first | (refine da_quiet (some 39) rfl rfl rfl rfl (fun s hs => op_idxL rfl slInt (by first | decide | omega) (by first | exact idx_some (by assumption) | assumption | rfl) (by first | rfl | (simp [V.size]; done))) (by dsimp only [putD, List.set]) ?_) | (refine da_quiet (some 39) rfl rfl rfl rfl (fun s hs => opOK_un (op_idxL rfl slInt (by first | decide | omega) (by first | exact idx_some (by assumption) | assumption | rfl) (by first | rfl | (simp [V.size]; done)))) (by dsimp only [putD, List.set]) ?_) | (refine da_quiet (some 39) rfl rfl rfl rfl (fun s hs => op_idxA rfl slInt (by first | decide | omega) (by first | decide | omega)) (by dsimp only [putD, List.set]) ?_)
        first | (refine da_quiet (some 40) rfl rfl rfl rfl (fun s hs => op_loadR1 rfl oneInt rfl) (by dsimp only [putD, List.set]) ?_) | (refine da_quiet (some 40) rfl rfl rfl rfl (by intro s hs; simp only [List.mem_cons, List.not_mem_nil, or_false] at hs; rcases hs with rfl <;> exact op_loadP1 rfl oneInt rfl rfl) (by dsimp only [putD, List.set]) ?_)
        refine da_mv 1 41 rfl rfl rfl (.inl rfl) rfl (by dsimp only [List.set]) ?_
        refine da_mv 7 42 rfl rfl rfl (.inl rfl) rfl (by dsimp only [List.set]) ?_
        first | (refine da_quiet (some 43) rfl rfl rfl rfl (fun s hs => op_idxL rfl slInt (by first | decide | omega) (by first | exact idx_some (by assumption) | assumption | rfl) (by first | rfl | (simp [V.size]; done))) (by dsimp only [putD, List.set]) ?_) | (refine da_quiet (some 43) rfl rfl rfl rfl (fun s hs => opOK_un (op_idxL rfl slInt (by first | decide | omega) (by first | exact idx_some (by assumption) | assumption | rfl) (by first | rfl | (simp [V.size]; done)))) (by dsimp only [putD, List.set]) ?_) | (refine da_quiet (some 43) rfl rfl rfl rfl (fun s hs => op_idxA rfl slInt (by first | decide | omega) (by first | decide | omega)) (by dsimp only [putD, List.set]) ?_)
        first | (refine da_quiet (some 44) rfl rfl rfl rfl (fun s hs => op_loadR1 rfl oneInt rfl) (by dsimp only [putD, List.set]) ?_) | (refine da_quiet (some 44) rfl rfl rfl rfl (by intro s hs; simp only [List.mem_cons, List.not_mem_nil, or_false] at hs; rcases hs with rfl <;> exact op_loadP1 rfl oneInt rfl rfl) (by dsimp only [putD, List.set]) ?_)
        refine da_quiet (some 45) rfl rfl rfl rfl (fun s hs => op_binI rfl rfl) (by dsimp only [putD, List.set]) ?_
        refine da_mv 45 8 rfl rfl rfl (.inr rfl) rfl (by dsimp only [List.set]) ?_
        refine da_end rfl ⟨by decide +kernel, _, rfl, ?_⟩
        refine at_seq [1, 1, 1, 1, 0, 1, 0, 0, 1, 0, 0, 1, 1, 0] [1, 1, 1, 1, 0, 1, 0, 0, 1, 0, 0, 1, 1, 1] rfl ?_
        refine at_seq [1, 1, 1, 1, 0, 1, 0, 0, 1, 0, 0, 1, 1, 0, 0] [1, 1, 1, 1, 0, 1, 0, 0, 1, 0, 0, 1, 1, 0, 1] rfl ?_
        refine at_region rfl ?_
        refine at_mv 0 46 rfl rfl rfl (.inl rfl) rfl (by dsimp only [List.set]) ?_
        refine at_mv 7 47 rfl rfl rfl (.inl rfl) rfl (by dsimp only [List.set]) ?_
        first | (refine at_op (some 48) rfl rfl rfl rfl (op_idxL rfl slInt (by first | decide | omega) (by first | exact idx_some (by assumption) | assumption | rfl) (by first | rfl | (simp [V.size]; done))) (by dsimp only [putD, List.set]) ?_) | (refine at_op (some 48) rfl rfl rfl rfl (opOK_un (op_idxL rfl slInt (by first | decide | omega) (by first | exact idx_some (by assumption) | assumption | rfl) (by first | rfl | (simp [V.size]; done)))) (by dsimp only [putD, List.set]) ?_) | (refine at_op (some 48) rfl rfl rfl rfl (op_idxA rfl slInt (by first | decide | omega) (by first | decide | omega)) (by dsimp only [putD, List.set]) ?_)
        first | (refine at_op (some 49) rfl rfl rfl rfl (op_loadR1 rfl oneInt rfl) (by dsimp only [putD, List.set]) ?_) | (refine at_op (some 49) rfl rfl rfl rfl (op_loadP1 rfl oneInt rfl rfl) (by dsimp only [putD, List.set]) ?_)
        refine at_op (some 50) rfl rfl rfl rfl (op_binI rfl rfl) (by dsimp only [putD, List.set]) ?_
        refine at_end rfl ?_
        refine at_cond [1, 1, 1, 1, 0, 1, 0, 0, 1, 0, 0, 1, 1, 0, 1, 0] [1, 1, 1, 1, 0, 1, 0, 0, 1, 0, 0, 1, 1, 0, 1, 1] rfl rfl (fun hc3 => ?_) (fun hc3 => ?_)
        · skip
          have hA : subF x y = 1099511627776 := if_pos (by simpa using hc3)
          refine at_region rfl ?_
          refine at_mc 8 rfl rfl rfl (.inr rfl) (by dsimp only [constD]) (by dsimp only [List.set]) ?_
          refine at_end rfl ?_
          refine at_region rfl ?_
          refine at_mv 6 51 rfl rfl rfl (.inl rfl) rfl (by dsimp only [List.set]) ?_
          refine at_mv 8 52 rfl rfl rfl (.inl rfl) rfl (by dsimp only [List.set]) ?_
          refine at_op (some 53) rfl rfl rfl rfl (op_buildSlice rfl (by rfl) (by rfl) slInt rfl rfl (by simp [V.size]) (by decide) (by decide) (by decide)) (by dsimp only [putD, List.set]) ?_
          refine at_opS (some 54) rfl rfl rfl rfl (op_append rfl slInt rfl (by simp) (by simp [V.size]) (by simp; omega) (by simp; omega)) (by dsimp only [putD, List.set]) (by dsimp only [List.set, List.append, List.cons_append, List.nil_append, cellsD, List.map, repl, List.length, Nat.reduceAdd, if_true, ↓reduceIte]; first | done | rfl) ?_
          refine at_mv 54 6 rfl rfl rfl (.inr rfl) rfl (by dsimp only [List.set]) ?_
          refine at_end rfl ?_
          refine run_blk ?_
          refine at_region rfl ?_
          refine at_mv 7 26 rfl rfl rfl (.inl rfl) rfl (by dsimp only [List.set]) ?_
          refine at_op (some 27) rfl rfl rfl rfl (op_binI rfl rfl) (by dsimp only [putD, List.set]) ?_
          refine at_mv 27 7 rfl rfl rfl (.inr rfl) rfl (by dsimp only [List.set]) ?_
          refine at_end rfl ?_
          rw [wrap_succ (by omega)]
          simp only [mvi]
          rw [← hA]
          exact run_wk (.keep (.keep (.drop (.drop (.keep (.keep (.keep (.keep (.drop (.drop (.drop (.drop (.drop (.drop (.drop (.drop (.drop (.drop (.drop (.drop (.drop (.drop (.drop (.drop (.drop (.drop (.drop (.drop (.drop (.drop (.drop (.drop (.drop (.drop (.drop (.drop (.drop (.drop (.drop (.drop (.drop (.drop (.drop (.drop (.drop (.drop (.drop (.drop (.drop (.drop (.drop (.drop (.drop (.drop (.drop (.drop .nil)))))))))))))))))))))))))))))))))))))))))))))))))))))))) (ih _ (by omega) (i + 1) (acc ++ [subF x y]) rfl (by simp [ha]) (by rw [he]; simp [hE]) (by rw [← hb]; simp))
        · skip
          have hA : subF x y = IntKind.i64.wrap (x - y) := if_neg (by simpa using hc3)
          refine at_skip rfl ?_
          refine at_region rfl ?_
          refine at_mv 6 51 rfl rfl rfl (.inl rfl) rfl (by dsimp only [List.set]) ?_
          refine at_mv 8 52 rfl rfl rfl (.inl rfl) rfl (by dsimp only [List.set]) ?_
          refine at_op (some 53) rfl rfl rfl rfl (op_buildSlice rfl (by rfl) (by rfl) slInt rfl rfl (by simp [V.size]) (by decide) (by decide) (by decide)) (by dsimp only [putD, List.set]) ?_
          refine at_opS (some 54) rfl rfl rfl rfl (op_append rfl slInt rfl (by simp) (by simp [V.size]) (by simp; omega) (by simp; omega)) (by dsimp only [putD, List.set]) (by dsimp only [List.set, List.append, List.cons_append, List.nil_append, cellsD, List.map, repl, List.length, Nat.reduceAdd, if_true, ↓reduceIte]; first | done | rfl) ?_
          refine at_mv 54 6 rfl rfl rfl (.inr rfl) rfl (by dsimp only [List.set]) ?_
          refine at_end rfl ?_
          refine run_blk ?_
          refine at_region rfl ?_
          refine at_mv 7 26 rfl rfl rfl (.inl rfl) rfl (by dsimp only [List.set]) ?_
          refine at_op (some 27) rfl rfl rfl rfl (op_binI rfl rfl) (by dsimp only [putD, List.set]) ?_
          refine at_mv 27 7 rfl rfl rfl (.inr rfl) rfl (by dsimp only [List.set]) ?_
          refine at_end rfl ?_
          rw [wrap_succ (by omega)]
          simp only [mvi]
          rw [← hA]
          exact run_wk (.keep (.keep (.drop (.drop (.keep (.keep (.keep (.keep (.drop (.drop (.drop (.drop (.drop (.drop (.drop (.drop (.drop (.drop (.drop (.drop (.drop (.drop (.drop (.drop (.drop (.drop (.drop (.drop (.drop (.drop (.drop (.drop (.drop (.drop (.drop (.drop (.drop (.drop (.drop (.drop (.drop (.drop (.drop (.drop (.drop (.drop (.drop (.drop (.drop (.drop (.drop (.drop (.drop (.drop (.drop (.drop .nil)))))))))))))))))))))))))))))))))))))))))))))))))))))))) (ih _ (by omega) (i + 1) (acc ++ [subF x y]) rfl (by simp [ha]) (by rw [he]; simp [hE]) (by rw [← hb]; simp))
    · skip
      have hge : a.length ≤ i := by simpa using hc1
      rw [zip_end hge, List.append_nil] at hb
      rw [below_end (by omega)] at he
      rw [if_pos he, ← hb]
      refine at_exit rfl rfl ?_
      refine at_seq [1, 1, 1, 1, 1, 0] [1, 1, 1, 1, 1, 1] rfl ?_
      refine at_region rfl ?_
      refine at_mv 6 55 rfl rfl rfl (.inl rfl) rfl (by dsimp only [List.set]) ?_
      refine at_mv 55 4 rfl rfl rfl (.inr rfl) rfl (by dsimp only [List.set]) ?_
      refine at_mc 5 rfl rfl rfl (.inr rfl) (by dsimp only [constD]) (by dsimp only [List.set]) ?_
      refine at_end rfl ?_
      refine at_ret rfl (ret_two (t := 4) (t2 := 5) rfl rfl rfl ?_ ?_ rfl rfl)
      all_goals (first | rfl)

set_option maxRecDepth 20000 in
theorem rsub_spec (a b : List Int) (hs : a.length ≤ 1000000) (hs2 : b.length ≤ 1000000) : FSpec PP 37 [dl a, dl b] σ0 (.tup [dl (subM a b).1, di (subM a b).2]) σ0 := by
  refine spec_at cRSub Try.func37 rfl (by kernel_rfl) (by first | decide | simp) _ (by dsimp only [Try.f37, List.length, Nat.reduceAdd, Nat.reduceSub, List.replicate, List.cons_append, List.nil_append]) ?_
  refine at_seq [0] [1] rfl ?_
  refine at_region rfl ?_
  refine at_mc 4 rfl rfl rfl (.inr rfl) (by dsimp only [constD]) (by dsimp only [List.set]) ?_
  refine at_mc 5 rfl rfl rfl (.inr rfl) (by dsimp only [constD]) (by dsimp only [List.set]) ?_
  refine at_end rfl ?_
  refine at_seq [1, 0] [1, 1] rfl ?_
  refine at_seq [1, 0, 0] [1, 0, 1] rfl ?_
  refine at_region rfl ?_
  refine at_mv 0 9 rfl rfl rfl (.inl rfl) rfl (by dsimp only [List.set]) ?_
  refine at_op (some 10) rfl rfl rfl rfl (op_call0 rfl rfl rfl rfl (rvalid_spec _ (by assumption))) (by dsimp only [putD, List.set]) ?_
  refine at_op (some 11) rfl rfl rfl rfl (op_un rfl rfl) (by dsimp only [putD, List.set]) ?_
  refine at_mv 11 12 rfl rfl rfl (.inl rfl) rfl (by dsimp only [List.set]) ?_
  refine at_split 12 rfl (fun hb1 env' he => ?_) (fun hb1 env' he => ?_)
  · dsimp only [List.set] at he; subst he
    refine at_opN (some 13) rfl rfl rfl (by dsimp only [putD, List.set]) ?_
    refine at_opN (some 14) rfl rfl rfl (by dsimp only [putD, List.set]) ?_
    refine at_opN (some 15) rfl rfl rfl (by dsimp only [putD, List.set]) ?_
    refine at_pkc true 12 16 rfl rfl rfl rfl rfl rfl (by dsimp only [constD]) (by dsimp only [List.set]) ?_
    refine at_end rfl ?_
    refine at_true [1, 0, 1, 0] [1, 0, 1, 1] rfl rfl ?_
    refine at_seq [1, 0, 1, 0, 0] [1, 0, 1, 0, 1] rfl ?_
    refine at_region rfl ?_
    refine at_mc 4 rfl rfl rfl (.inr rfl) (by dsimp only [constD]) (by dsimp only [List.set]) ?_
    refine at_mc 5 rfl rfl rfl (.inr rfl) (by dsimp only [constD]) (by dsimp only [List.set]) ?_
    refine at_end rfl ?_
    refine at_ret rfl (ret_two (t := 4) (t2 := 5) rfl rfl rfl ?_ ?_ rfl rfl)
    all_goals (first | (rw [subM_eq]; simp_all [D.un, subOK]; done) | (have hl : ¬ a.length = b.length := (by simp_all; omega); rw [subM_eq]; simp_all [D.un, subOK]; done))
  · dsimp only [List.set] at he; subst he
    refine at_mv 1 13 rfl rfl rfl (.inl rfl) rfl (by dsimp only [List.set]) ?_
    refine at_op (some 14) rfl rfl rfl rfl (op_call0 rfl rfl rfl rfl (rfinite_spec _ (by assumption))) (by dsimp only [putD, List.set]) ?_
    refine at_op (some 15) rfl rfl rfl rfl (op_un rfl rfl) (by dsimp only [putD, List.set]) ?_
    refine at_pk false 12 15 16 rfl rfl rfl rfl rfl rfl rfl (by dsimp only [List.set]) ?_
    refine at_end rfl ?_
    refine at_cond [1, 0, 1, 0] [1, 0, 1, 1] rfl rfl (fun hc2 => ?_) (fun hc2 => ?_)
    · skip
      refine at_seq [1, 0, 1, 0, 0] [1, 0, 1, 0, 1] rfl ?_
      refine at_region rfl ?_
      refine at_mc 4 rfl rfl rfl (.inr rfl) (by dsimp only [constD]) (by dsimp only [List.set]) ?_
      refine at_mc 5 rfl rfl rfl (.inr rfl) (by dsimp only [constD]) (by dsimp only [List.set]) ?_
      refine at_end rfl ?_
      refine at_ret rfl (ret_two (t := 4) (t2 := 5) rfl rfl rfl ?_ ?_ rfl rfl)
      all_goals (first | (rw [subM_eq]; simp_all [D.un, subOK]; done) | (have hl : ¬ a.length = b.length := (by simp_all; omega); rw [subM_eq]; simp_all [D.un, subOK]; done))
    · skip
      refine at_skip rfl ?_
      refine at_seq [1, 1, 0] [1, 1, 1] rfl ?_
      refine at_seq [1, 1, 0, 0] [1, 1, 0, 1] rfl ?_
      refine at_region rfl ?_
      refine at_mv 0 17 rfl rfl rfl (.inl rfl) rfl (by dsimp only [List.set]) ?_
      first | (refine at_op (some 18) rfl rfl rfl rfl (op_lenL rfl uInts) (by dsimp only [putD, List.set]) ?_) | (refine at_op (some 18) rfl rfl rfl rfl (opOK_un (op_lenL rfl uInts)) (by dsimp only [putD, List.set]) ?_) | (refine at_op (some 18) rfl rfl rfl rfl (op_lenA rfl uInts) (by dsimp only [putD, List.set]) ?_)
      refine at_mv 1 19 rfl rfl rfl (.inl rfl) rfl (by dsimp only [List.set]) ?_
      first | (refine at_op (some 20) rfl rfl rfl rfl (op_lenL rfl uInts) (by dsimp only [putD, List.set]) ?_) | (refine at_op (some 20) rfl rfl rfl rfl (opOK_un (op_lenL rfl uInts)) (by dsimp only [putD, List.set]) ?_) | (refine at_op (some 20) rfl rfl rfl rfl (op_lenA rfl uInts) (by dsimp only [putD, List.set]) ?_)
      refine at_op (some 21) rfl rfl rfl rfl (op_binI rfl rfl) (by dsimp only [putD, List.set]) ?_
      refine at_end rfl ?_
      refine at_cond [1, 1, 0, 1, 0] [1, 1, 0, 1, 1] rfl rfl (fun hc3 => ?_) (fun hc3 => ?_)
      · skip
        refine at_seq [1, 1, 0, 1, 0, 0] [1, 1, 0, 1, 0, 1] rfl ?_
        refine at_region rfl ?_
        refine at_mc 4 rfl rfl rfl (.inr rfl) (by dsimp only [constD]) (by dsimp only [List.set]) ?_
        refine at_mc 5 rfl rfl rfl (.inr rfl) (by dsimp only [constD]) (by dsimp only [List.set]) ?_
        refine at_end rfl ?_
        refine at_ret rfl (ret_two (t := 4) (t2 := 5) rfl rfl rfl ?_ ?_ rfl rfl)
        all_goals (first | (rw [subM_eq]; simp_all [D.un, subOK]; done) | (have hl : ¬ a.length = b.length := (by simp_all; omega); rw [subM_eq]; simp_all [D.un, subOK]; done))
      · skip
        refine at_skip rfl ?_
        refine at_seq [1, 1, 1, 0] [1, 1, 1, 1] rfl ?_
        refine at_region rfl ?_
        refine at_opS (some 6) rfl rfl rfl rfl (op_nilOwn (.inl rfl) 1 1 (by simp) (by decide)) (by dsimp only [putD, List.set]) (by dsimp only [List.set, List.append, List.cons_append, List.nil_append, cellsD, List.map, repl, List.length, Nat.reduceAdd, if_true, ↓reduceIte]; first | done | rfl) ?_
        refine at_end rfl ?_
        refine at_seq [1, 1, 1, 1, 0] [1, 1, 1, 1, 1] rfl ?_
        refine at_seq [1, 1, 1, 1, 0, 0] [1, 1, 1, 1, 0, 1] rfl ?_
        refine at_region rfl ?_
        refine at_mc 7 rfl rfl rfl (.inr rfl) (by dsimp only [constD]) (by dsimp only [List.set]) ?_
        refine at_end rfl ?_
        refine at_block [1, 1, 1, 1, 0, 1, 0] 0 rfl ?_
        refine at_loop [1, 1, 1, 1, 0, 1, 0, 0] rfl ?_
        try simp only [List.length_map, List.length_nil, Int.toNat_natCast]
        have h1 : valid a = true := by simp_all
        have h2 : finite b = true := by simp_all
        have h : a.length = b.length := by simp_all; omega
        have hf : subOK a b = 0 := by simp [subOK, h1, h2, h]
        rw [subM_eq, if_pos hf]
        exact run_wk (.keep (.keep (.drop (.drop (.keep (.keep (.keep (.keep (.drop (.drop (.drop (.drop (.drop (.drop (.drop (.drop (.drop (.drop (.drop (.drop (.drop (.drop (.drop (.drop (.drop (.drop (.drop (.drop (.drop (.drop (.drop (.drop (.drop (.drop (.drop (.drop (.drop (.drop (.drop (.drop (.drop (.drop (.drop (.drop (.drop (.drop (.drop (.drop (.drop (.drop (.drop (.drop (.drop (.drop (.drop (.drop .nil)))))))))))))))))))))))))))))))))))))))))))))))))))))))) (rsub_loop a b h hs h1 h2 _ 0 [] rfl rfl rfl rfl)

end Go.Proofs.Ytoofgniepbidnaa
