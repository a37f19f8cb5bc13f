/-
  Package tree, walked: embeddings.
-/
import Derived.Test.YtoofgniepbidnaaWk
namespace Go.Proofs.Ytoofgniepbidnaa
open Go.Dv Tr

/- nodes are well formed -/
theorem posL_range : ∀ (a : Nat) (ks : List Tr) (k : Nat), k ∈ posL a ks → a ≤ k ∧ k < a + szl ks
  | a, [], k, h => by simp [posL] at h
  | a, t :: ks, k, h => by
    simp only [posL] at h
    have := size_pos t
    rw [szl_cons]
    rcases List.mem_cons.1 h with rfl | h
    · omega
    · have := posL_range (a + t.size) ks k h; omega
mutual
theorem nodesM_wf : ∀ (t : Tr) (a x : Nat) (na : Nd), (nodesM a t)[x]? = some na → na.kids.length ≤ t.size ∧ ∀ k ∈ na.kids, a + x < k ∧ k < a + t.size
  | .mk l ks, a, x, na, h => by
    simp only [nodesM] at h
    simp only [size]
    cases x with
    | zero =>
      simp at h; subst h
      refine ⟨by simp only [posL_length]; have := szl_len ks; omega, fun k hk => ?_⟩
      have := posL_range _ _ _ hk; omega
    | succ x =>
      simp at h
      have := nodesL_wf ks (a + 1) x na h
      refine ⟨by omega, fun k hk => ?_⟩
      have := this.2 k hk; omega
theorem nodesL_wf : ∀ (ks : List Tr) (a x : Nat) (na : Nd), (nodesL a ks)[x]? = some na → na.kids.length ≤ szl ks ∧ ∀ k ∈ na.kids, a + x < k ∧ k < a + szl ks
  | [], a, x, na, h => by simp [nodesL] at h
  | t :: ks, a, x, na, h => by
    simp only [nodesL] at h
    simp only [szl]
    by_cases hx : x < t.size
    · rw [List.getElem?_append_left (by rw [nodesM_length]; exact hx)] at h
      have := nodesM_wf t a x na h
      refine ⟨by omega, fun k hk => ?_⟩
      have := this.2 k hk; omega
    · rw [List.getElem?_append_right (by rw [nodesM_length]; omega), nodesM_length] at h
      have := nodesL_wf ks (a + t.size) (x - t.size) na h
      refine ⟨by omega, fun k hk => ?_⟩
      have := this.2 k hk; omega
end
theorem nodesT_wf (t : Tr) : Wf (nodesT t) := by
  refine ⟨by have := nodesT_small t; omega, fun i na h => ?_⟩
  have h12 := nodesT_small t
  have hl := nodesT_length t
  unfold nodesT at h h12 hl
  cases hv : validT t with
  | false => simp [hv] at h
  | true =>
    simp only [hv, if_true] at h h12 hl
    have := nodesM_wf t 0 i na h
    unfold nodesT
    simp only [hv, if_true]
    refine ⟨by omega, fun k hk => ?_⟩
    have := this.2 k hk; omega

/- what solving comes to -/
theorem solD_drop (A B : List Nd) : ∀ (k x : Nat), x ≤ k → (solD A B k).drop x = solD A B (k - x)
  | k, 0, _ => by simp
  | 0, x + 1, h => by omega
  | k + 1, x + 1, h => by
    simp only [solD, List.drop_succ_cons]
    rw [solD_drop A B k x (by omega), Nat.add_sub_add_right]
theorem sol_row {A B : List Nd} (hA : Wf A) {i : Nat} (hi : i < A.length) : gt (solD A B A.length) i = rowM A B (solD A B A.length) i := by
  have h1 : (solD A B A.length)[i]? = (solD A B (A.length - i))[0]? := by rw [← solD_drop A B A.length i (by omega), List.getElem?_drop, Nat.add_zero]
  obtain ⟨k, hk⟩ : ∃ k, A.length - i = k + 1 := ⟨A.length - i - 1, by omega⟩
  unfold gt
  rw [h1, hk]
  simp only [solD, List.getElem?_cons_zero, Option.getD_some]
  rw [show A.length - (k + 1) = i by omega]
  unfold rowM
  congr 1
  funext j
  unfold rowOK
  cases ha : A[i]? with
  | none => rfl
  | some na =>
    cases hb : B[j]? with
    | none => rfl
    | some nb =>
      simp only
      rw [plM_congr na.kids nb.kids]
      intro x hx r
      have hxi := (hA.kids i na ha).2 x hx
      unfold intoT
      congr 1
      unfold gt
      rw [List.getElem?_append_right (by simp; omega), List.length_replicate]
      obtain ⟨y, hy⟩ : ∃ y, x - i = y + 1 := ⟨x - i - 1, by omega⟩
      rw [hy, List.getElem?_cons_succ]
      congr 1
      rw [show k = A.length - (i + 1) by omega, ← solD_drop A B A.length (i + 1) (by omega), List.getElem?_drop]
      congr 1; omega

theorem intoM_mem {l : List Nat} {j e : Nat} (h : 0 ≤ intoM l j e) : ∃ w ∈ l, intoM l j e = (w : Int) ∧ j ≤ w ∧ w < e := by
  unfold intoM at h ⊢
  by_cases hn : idxP (inP j e) (il l) 0 < 0
  · rw [if_pos hn] at h; omega
  · rw [if_neg hn]
    obtain ⟨x, h1, h2⟩ := idxP_get0 (p := inP j e) (xs := il l) (by omega)
    rw [List.getD_eq_getElem?_getD, h1]
    have := List.mem_of_getElem? h1
    obtain ⟨w, hw, rfl⟩ := List.mem_map.1 this
    simp [inP] at h2
    exact ⟨w, hw, rfl, by omega, by omega⟩
theorem plM_mem {f : Nat → Nat → Int} : ∀ {ks rest : List Nat} {l : List Int}, plM f ks rest = some l → l.length = ks.length ∧ ∀ (x kid : Nat) (v : Int), ks[x]? = some kid → l[x]? = some v → ∃ r ∈ rest, v = f kid r ∧ 0 ≤ v
  | [], rest, l, h => by simp [plM] at h; subst h; simp
  | k :: ks, [], l, h => by simp [plM] at h
  | k :: ks, r :: rest, l, h => by
    simp only [plM] at h
    split at h
    · rename_i hk
      cases hp : plM f ks rest with
      | none => simp [hp] at h
      | some l' =>
        simp [hp] at h; subst h
        obtain ⟨h1, h2⟩ := plM_mem hp
        refine ⟨by simp [h1], fun x kid v hx hv => ?_⟩
        cases x with
        | zero => simp at hx hv; subst hx hv; exact ⟨r, by simp, rfl, hk⟩
        | succ x =>
          simp at hx hv
          obtain ⟨r', h3, h4⟩ := h2 x kid v hx hv
          exact ⟨r', List.mem_cons_of_mem _ h3, h4⟩
    · obtain ⟨h1, h2⟩ := plM_mem h
      refine ⟨h1, fun x kid v hx hv => ?_⟩
      obtain ⟨r', h3, h4⟩ := h2 x kid v hx hv
      exact ⟨r', List.mem_cons_of_mem _ h3, h4⟩

/-- every way that is noted can be gone -/
structure Good (A B : List Nd) (to : List (List Nat)) : Prop where
  wa : Wf A
  wb : Wf B
  len : to.length = A.length
  lens : ∀ l ∈ to, l.length ≤ 1000000
  go : ∀ i j, j ∈ gt to i → ∃ na nb l, A[i]? = some na ∧ B[j]? = some nb ∧ plM (intoT B to) na.kids nb.kids = some l
theorem sol_good {A B : List Nd} (hA : Wf A) (hB : Wf B) : Good A B (solD A B A.length) := by
  refine ⟨hA, hB, solD_length A B _, fun l hl => ?_, fun i j hj => ?_⟩
  · have := solD_len hl; have := hB.len; omega
  · by_cases hi : i < A.length
    · rw [sol_row hA hi] at hj
      have := (List.mem_filter.1 hj).2
      unfold rowOK at this
      cases ha : A[i]? with
      | none => simp [ha] at this
      | some na =>
        cases hb : B[j]? with
        | none => simp [ha, hb] at this
        | some nb =>
          simp only [ha, hb, Bool.and_eq_true] at this
          obtain ⟨l, hl⟩ := Option.isSome_iff_exists.1 this.2
          exact ⟨na, nb, l, rfl, rfl, hl⟩
    · unfold gt at hj
      rw [List.getElem?_eq_none (by rw [solD_length]; omega)] at hj
      simp at hj

def kidsOf (A : List Nd) (i : Nat) : List Nat := ((A[i]?).map Nd.kids).getD []
def putM (f : Nat → Nat → Int) (A B : List Nd) : Nat → List Int → Nat → Int → List Int
  | 0, out, _, _ => out
  | n + 1, out, i, j => ((kidsOf A i).zip ((plM f (kidsOf A i) (kidsOf B j.toNat)).getD [])).foldl (fun out p => putM f A B n out p.1 p.2) (out.set i j)
theorem putM_length {f : Nat → Nat → Int} {A B : List Nd} : ∀ (n : Nat) (out : List Int) (i : Nat) (j : Int), (putM f A B n out i j).length = out.length
  | 0, out, i, j => rfl
  | n + 1, out, i, j => by
    simp only [putM]
    have : ∀ (l : List (Nat × Int)) (out : List Int), (l.foldl (fun out p => putM f A B n out p.1 p.2) out).length = out.length := by
      intro l
      induction l with
      | nil => intro out; rfl
      | cons p l ih => intro out; simp only [List.foldl_cons]; rw [ih, putM_length n]
    rw [this]; simp
abbrev dli (out : List Int) : List D := (out.map vi).map .v
theorem zip_drop {α β : Type} {a : List α} {b : List β} {i : Nat} {x : α} {y : β} (ha : a[i]? = some x) (hb : b[i]? = some y) : (a.zip b).drop i = (x, y) :: (a.zip b).drop (i + 1) := by
  have h : (a.zip b)[i]? = some (x, y) := by simp [List.getElem?_zip_eq_some, ha, hb]
  obtain ⟨h1, h2⟩ := List.getElem?_eq_some_iff.1 h
  rw [List.drop_eq_getElem_cons h1, h2]
theorem dli_set (out : List Int) (i : Nat) (v : Int) : (dli out).set i (.v (vi v)) = dli (out.set i v) := by simp [List.map_set]
theorem dli_zero (n : Nat) : List.replicate n (D.v (.int .i64 0)) = dli (List.replicate n 0) := by simp
theorem dli_len (out : List Int) : (dli out).length = out.length := by simp
theorem lend_ints {L : Nat → Option (List D)} {q n : Nat} {out : List Int} (hL : L q = some (dli out)) (hn : n = out.length) : lends L 1 (.arr q 0 n) (vl out) := by
  subst hn
  refine .inr (.inr ⟨q, 0, 1, dli out, out.map vi, .inl (by simp), rfl, by decide, by simp [V.size], hL, fun j y hj => ?_⟩)
  have hf : (out.map vi).flatMap V.cellsV = out.map vi := by
    clear hj hL
    induction out with
    | nil => rfl
    | cons l to ih => simp only [List.map_cons, List.flatMap_cons, V.cellsV, ih]; rfl
  rw [hf] at hj
  have hj2 := hj
  rw [List.getElem?_map] at hj
  cases hl : out[j]? with
  | none => simp [hl] at hj
  | some l =>
    simp [hl] at hj
    subst hj
    exact ⟨rfl, .v (vi l), by simp [hl], _, .same, rfl⟩

def embG (A B : List Nd) (to : List (List Nat)) : List Nat → Option (List Int)
  | [] => none
  | j :: _ => some (putM (intoT B to) A B A.length (List.replicate A.length 0) 0 j)
def embT (a b : Tr) : Option (List Int) := embG (nodesT a) (nodesT b) (solD (nodesT a) (nodesT b) (nodesT a).length) (gt (solD (nodesT a) (nodesT b) (nodesT a).length) 0)
abbrev solveF : FuncId := 80
theorem vs_args (n : Nat) (qs : List Nat) : ∀ us : List V, ArgsR n qs (us.map .v) (us.map .v)
  | [] => .nil
  | u :: us => .cons (.ren (dc := .v u) rfl) (vs_args n qs us)
theorem solve_call {o : Oper} {c : Call} {fo : Operand} (ho : o.op = .call c) (hc : c.callee = .value fo) {A B : List Nd} (hA : Wf A) (hB : Wf B) :
    OpOK PP o [dfn solveF, .ptr 0 0] ⟨[some [dnl A, dnl B, .v (.list [])]], []⟩ (.tup []) ⟨[seObj A B, some ((solD A B A.length).map fun l => dl (il l))], []⟩ := by
  have hm : (solD A B A.length).map (fun l => dl (il l)) = ((solD A B A.length).map fun l => vl (il l)).map .v := by simp
  have h := op_callG (σ := ⟨[some [dnl A, dnl B, .v (.list [])]], []⟩) ho hc (fD := dfn solveF) rfl (ds := [.ptr 0 0]) [0] id (solve_spec A B hA hB) (.cons (.ren (dc := .ptr 0 0) rfl) .nil) (.cons rfl (.cons (.ren (dc := dnl A) rfl) (.cons (.ren (dc := dnl B) rfl) (.cons (.ren (dc := .v (.list [])) rfl) .nil))) rfl .nil) (by simp) rfl (by simp) (by simp)
    rfl (by simp only [okH, D.okNs, D.okN, hm, okNs_vs, List.length_cons, List.length_nil]; rfl)
  simp only [hm, renH, List.map_cons, List.map_nil, Option.map_some, rens_vs, backH, D.rens, D.ren, renOwn, List.nil_append, List.set_cons_zero, List.cons_append] at h
  rw [hm]
  exact h
theorem gt_get {to : List (List Nat)} {i : Nat} {l : List Nat} (h : to[i]? = some l) : gt to i = l := by simp [gt, h]

noncomputable def cPut : Code := Try.f81.body.getD .skip
set_option maxRecDepth 20000 in
theorem put_loop (A B : List Nd) (to : List (List Nat)) (hG : Good A B to) (N : Nat) (ih : ∀ (i j : Nat) (out : List Int), A.length - i ≤ N → j ∈ gt to i → out.length = A.length → FSpec PP 81 [.v (.ref (vse A B to)), .arr 0 0 A.length, di ↑i, di ↑j] ⟨[some (dli out)], []⟩ (.tup []) ⟨[some (dli (putM (intoT B to) A B N out i ↑j))], []⟩) (i : Nat) (hi : A.length - i ≤ N + 1) (ks : List Nat) (hkl : ks.length ≤ 1000) (hks : ∀ k ∈ ks, i < k ∧ k < A.length) (l : List Int) (hlk : l.length = ks.length) (hl : ∀ (x kid : Nat) (v : Int), ks[x]? = some kid → l[x]? = some v → ∃ w ∈ gt to kid, v = (w : Int)) (T : List Int) (m : Nat) : ∀ (ix : Nat) (out : List Int), ks.length - ix = m → out.length = A.length → T = ((ks.zip l).drop ix).foldl (fun out p => putM (intoT B to) A B N out p.1 p.2) out → Run PP (fun env σ1 => ResOK PP Try.f81 env σ1 (.tup []) ⟨[some (dli T)], []⟩) [.lp (sub cPut [1, 1, 1, 0, 0]), .blk 0] ((.v (.ref (vse A B to))) :: (.arr 0 0 A.length) :: .undef :: .undef :: .undef :: .undef :: .undef :: .undef :: (dl l) :: .undef :: .undef :: .undef :: .undef :: .undef :: .undef :: .undef :: .undef :: .undef :: .undef :: .undef :: .undef :: .undef :: .undef :: .undef :: .undef :: .undef :: .undef :: .undef :: .undef :: .undef :: (dl (il ks)) :: (di ↑ks.length) :: (di ↑ix) :: .undef :: .undef :: .undef :: .undef :: .undef :: .undef :: .undef :: .undef :: .undef :: .undef :: .undef :: .undef :: .undef :: []) ⟨[some (dli out)], []⟩ := by
  induction m using Nat.strongRecOn with
  | _ m ih2 =>
    intro ix out hm ho hT
    refine run_lp ?_
    refine at_seq [1, 1, 1, 0, 0, 0] [1, 1, 1, 0, 0, 1] rfl ?_
    refine at_region rfl ?_
    refine at_op (some 33) rfl rfl rfl rfl (op_binI rfl rfl) (by dsimp only [putD, List.set]) ?_
    refine at_end rfl ?_
    refine at_seq [1, 1, 1, 0, 0, 1, 0] [1, 1, 1, 0, 0, 1, 1] rfl ?_
    refine at_cond [1, 1, 1, 0, 0, 1, 0, 0] [1, 1, 1, 0, 0, 1, 0, 1] rfl rfl (fun hc1 => ?_) (fun hc1 => ?_)
    · skip
      have hlt : ix < ks.length := by simpa using hc1
      obtain ⟨kid, hk⟩ := get_ex hlt
      obtain ⟨v, hv⟩ := get_ex (a := l) (i := ix) (by omega)
      obtain ⟨w, hw, rfl⟩ := hl ix kid v hk hv
      have hk2 := idx_il hk
      have hv2 : (l.map vi)[((ix : Nat) : Int).toNat]? = some (vi (w : Int)) := by simp [hv]
      rw [zip_drop hk hv, List.foldl_cons] at hT
      have hkk := hks kid (List.mem_of_getElem? hk)
      refine at_skip rfl ?_
      refine at_seq [1, 1, 1, 0, 0, 1, 1, 0] [1, 1, 1, 0, 0, 1, 1, 1] rfl ?_
      refine at_block [1, 1, 1, 0, 0, 1, 1, 0, 0] 1 rfl ?_
      refine at_seq [1, 1, 1, 0, 0, 1, 1, 0, 0, 0] [1, 1, 1, 0, 0, 1, 1, 0, 0, 1] rfl ?_
      refine at_region rfl ?_
      refine at_mv 32 34 rfl rfl rfl (.inl rfl) rfl (by dsimp only [List.set]) ?_
      first | (refine at_op (some 35) rfl rfl rfl rfl (op_idxL rfl fsl_Sint (by first | decide | omega) (by first | assumption | exact idx_some (by assumption) | rfl) (by first | rfl | (simp [V.size]; done))) (by dsimp only [putD, List.set]) ?_) | (refine at_op (some 35) rfl rfl rfl rfl (opOK_un (op_idxL rfl fsl_Sint (by first | decide | omega) (by first | assumption | exact idx_some (by assumption) | rfl) (by first | rfl | (simp [V.size]; done)))) (by dsimp only [putD, List.set]) ?_) | (refine at_op (some 35) rfl rfl rfl rfl (op_idxA rfl fsl_Sint (by first | decide | omega) (by first | decide | omega)) (by dsimp only [putD, List.set]) ?_)
      first | (refine at_op (some 36) rfl rfl rfl rfl (op_loadR1 rfl fone_int rfl) (by dsimp only [putD, List.set]) ?_) | (refine at_op (some 36) rfl rfl rfl rfl (op_loadP1 rfl fone_int rfl rfl) (by dsimp only [putD, List.set]) ?_)
      refine at_mv 34 10 rfl rfl rfl (.inr rfl) rfl (by dsimp only [List.set]) ?_
      refine at_mv 36 11 rfl rfl rfl (.inr rfl) rfl (by dsimp only [List.set]) ?_
      refine at_end rfl ?_
      refine at_region rfl ?_
      refine at_mv 0 37 rfl rfl rfl (.inl rfl) rfl (by dsimp only [List.set]) ?_
      refine at_mv 1 38 rfl rfl rfl (.inl rfl) rfl (by dsimp only [List.set]) ?_
      refine at_mv 11 39 rfl rfl rfl (.inl rfl) rfl (by dsimp only [List.set]) ?_
      refine at_mv 8 40 rfl rfl rfl (.inl rfl) rfl (by dsimp only [List.set]) ?_
      refine at_mv 10 41 rfl rfl rfl (.inl rfl) rfl (by dsimp only [List.set]) ?_
      first | (refine at_op (some 42) rfl rfl rfl rfl (op_idxL rfl fsl_Sint (by first | decide | omega) (by first | assumption | exact idx_some (by assumption) | rfl) (by first | rfl | (simp [V.size]; done))) (by dsimp only [putD, List.set]) ?_) | (refine at_op (some 42) rfl rfl rfl rfl (opOK_un (op_idxL rfl fsl_Sint (by first | decide | omega) (by first | assumption | exact idx_some (by assumption) | rfl) (by first | rfl | (simp [V.size]; done)))) (by dsimp only [putD, List.set]) ?_) | (refine at_op (some 42) rfl rfl rfl rfl (op_idxA rfl fsl_Sint (by first | decide | omega) (by first | decide | omega)) (by dsimp only [putD, List.set]) ?_)
      first | (refine at_op (some 43) rfl rfl rfl rfl (op_loadR1 rfl fone_int rfl) (by dsimp only [putD, List.set]) ?_) | (refine at_op (some 43) rfl rfl rfl rfl (op_loadP1 rfl fone_int rfl rfl) (by dsimp only [putD, List.set]) ?_)
      refine at_opS (some 44) rfl rfl rfl rfl (op_call1 rfl rfl rfl (pls_map _) (pls_map _) (.pl rfl (.arr (.pl rfl (.pl rfl .nil)))) rfl (ih kid w out (by omega) hw ho)) (by dsimp only [putD, List.set]) (by dsimp only [List.set, List.append, List.cons_append, List.nil_append, cellsD, List.map, repl, List.length, Nat.reduceAdd, if_true, ↓reduceIte]; first | done | rfl) ?_
      refine at_end rfl ?_
      refine run_blk ?_
      refine at_region rfl ?_
      refine at_op (some 45) rfl rfl rfl rfl (op_binI rfl rfl) (by dsimp only [putD, List.set]) ?_
      refine at_mv 45 32 rfl rfl rfl (.inl rfl) rfl (by dsimp only [List.set]) ?_
      refine at_end rfl ?_
      rw [wrap_succ (by omega)]
      exact run_wk (.keep (.keep (.drop (.drop (.drop (.drop (.drop (.drop (.keep (.drop (.drop (.drop (.drop (.drop (.drop (.drop (.drop (.drop (.drop (.drop (.drop (.drop (.drop (.drop (.drop (.drop (.drop (.drop (.drop (.drop (.keep (.keep (.keep (.drop (.drop (.drop (.drop (.drop (.drop (.drop (.drop (.drop (.drop (.drop (.drop (.drop .nil)))))))))))))))))))))))))))))))))))))))))))))) (ih2 _ (by omega) (ix + 1) _ rfl (by rw [putM_length]; exact ho) hT)
    · skip
      have hge : ks.length ≤ ix := by simpa using hc1
      rw [List.drop_of_length_le (by simp; omega), List.foldl_nil] at hT
      refine at_exit rfl rfl ?_
      refine run_nil ?_
      rw [hT]; exact ret_keep rfl rfl

set_option maxRecDepth 20000 in
theorem put_spec (A B : List Nd) (to : List (List Nat)) (hG : Good A B to) (N : Nat) : ∀ (i j : Nat) (out : List Int), A.length - i ≤ N → j ∈ gt to i → out.length = A.length → FSpec PP 81 [.v (.ref (vse A B to)), .arr 0 0 A.length, di ↑i, di ↑j] ⟨[some (dli out)], []⟩ (.tup []) ⟨[some (dli (putM (intoT B to) A B N out i ↑j))], []⟩ := by
  induction N with
  | zero => intro i j out hN hj ho; obtain ⟨na, nb, l, ha, _⟩ := hG.go i j hj; have := (List.getElem?_eq_some_iff.1 ha).1; omega
  | succ N ih =>
  intro i j out hN hj ho
  obtain ⟨na, nb, l, ha, hb, hpl⟩ := hG.go i j hj
  have hil := (List.getElem?_eq_some_iff.1 ha).1
  obtain ⟨hn1, hn2⟩ := hG.wa.kids i na ha
  obtain ⟨hb3, hb4⟩ := hG.wb.kids j nb hb
  obtain ⟨hp1, hp2⟩ := plM_mem hpl
  have ha2 := idx_node ha
  refine spec_at cPut Try.func81 rfl (by kernel_rfl) (by first | decide | simp) _ (by dsimp only [Try.f81, List.length, Nat.reduceAdd, Nat.reduceSub, List.replicate, List.cons_append, List.nil_append]) ?_
  refine at_seq [0] [1] rfl ?_
  refine at_region rfl ?_
  refine at_mv 1 12 rfl rfl rfl (.inl rfl) rfl (by dsimp only [List.set]) ?_
  refine at_mv 2 13 rfl rfl rfl (.inl rfl) rfl (by dsimp only [List.set]) ?_
  refine at_mv 3 14 rfl rfl rfl (.inl rfl) rfl (by dsimp only [List.set]) ?_
  first | (refine at_op (some 15) rfl rfl rfl rfl (op_idxL rfl fsl_Sint (by first | decide | omega) (by first | assumption | exact idx_some (by assumption) | rfl) (by first | rfl | (simp [V.size]; done))) (by dsimp only [putD, List.set]) ?_) | (refine at_op (some 15) rfl rfl rfl rfl (opOK_un (op_idxL rfl fsl_Sint (by first | decide | omega) (by first | assumption | exact idx_some (by assumption) | rfl) (by first | rfl | (simp [V.size]; done)))) (by dsimp only [putD, List.set]) ?_) | (refine at_op (some 15) rfl rfl rfl rfl (op_idxA rfl fsl_Sint (by first | decide | omega) (by first | decide | omega)) (by dsimp only [putD, List.set]) ?_)
  simp only [Int.toNat_natCast, Nat.zero_add, Nat.mul_one]
  refine at_st1 15 (.tmp 14) rfl rfl rfl rfl rfl (ev_tmp rfl) rfl fone_int rfl (by rw [dli_len]; omega) (by dsimp only [List.set, List.append, List.cons_append, List.nil_append, cellsD, List.map, repl, List.length, Nat.reduceAdd, if_true, ↓reduceIte]; first | done | rfl) ?_
  rw [dli_set]
  refine at_end rfl ?_
  refine at_seq [1, 0] [1, 1] rfl ?_
  refine at_region rfl ?_
  refine at_mv 0 17 rfl rfl rfl (.inl rfl) rfl (by dsimp only [List.set]) ?_
  refine at_mv 2 18 rfl rfl rfl (.inl rfl) rfl (by dsimp only [List.set]) ?_
  refine at_mv 3 19 rfl rfl rfl (.inl rfl) rfl (by dsimp only [List.set]) ?_
  refine at_op (some 20) rfl rfl rfl rfl (op_call0 rfl rfl rfl rfl (place_spec A B to hG.lens i j na nb ha hb (fun k hk => by rw [hG.len]; exact (hn2 k hk).2) (by omega) (fun r hr => (hb4 r hr).2) (by omega))) (by dsimp only [putD, List.set]) ?_
  rw [hpl]
  simp only [Option.getD_some, Option.isSome_some]
  refine at_mv 20 16 rfl rfl rfl (.inl rfl) rfl (by dsimp only [List.set]) ?_
  refine at_op (some 21) rfl rfl rfl rfl (op_extract rfl rfl) (by dsimp only [putD, List.set]) ?_
  refine at_op (some 22) rfl rfl rfl rfl (op_extract rfl rfl) (by dsimp only [putD, List.set]) ?_
  refine at_mv 21 8 rfl rfl rfl (.inr rfl) rfl (by dsimp only [List.set]) ?_
  refine at_mv 22 9 rfl rfl rfl (.inr rfl) rfl (by dsimp only [List.set]) ?_
  refine at_end rfl ?_
  refine at_seq [1, 1, 0] [1, 1, 1] rfl ?_
  refine at_region rfl ?_
  refine at_mv 0 23 rfl rfl rfl (.inl rfl) rfl (by dsimp only [List.set]) ?_
  first | (refine at_op (some 24) rfl rfl rfl rfl (op_nilCheck_ptr rfl) (by dsimp only [putD, List.set]) ?_) | (refine at_op (some 24) rfl rfl rfl rfl (op_nilCheck_ref rfl) (by dsimp only [putD, List.set]) ?_)
  first | (refine at_op (some 25) rfl rfl rfl rfl (op_fieldP rfl ffld0_tree_search (by decide)) (by dsimp only [putD, List.set]) ?_) | (refine at_op (some 25) rfl rfl rfl rfl (op_fieldR rfl ffld0_tree_search (by decide) (by decide) rfl) (by dsimp only [putD, List.set]) ?_)
  first | (refine at_op (some 26) rfl rfl rfl rfl (op_loadR1 rfl fone_Stree_node rfl) (by dsimp only [putD, List.set]) ?_) | (refine at_op (some 26) rfl rfl rfl rfl (op_loadP1 rfl fone_Stree_node rfl rfl) (by dsimp only [putD, List.set]) ?_)
  refine at_mv 2 27 rfl rfl rfl (.inl rfl) rfl (by dsimp only [List.set]) ?_
  first | (refine at_op (some 28) rfl rfl rfl rfl (op_idxL rfl fsl_Stree_node (by first | decide | omega) (by first | assumption | exact idx_some (by assumption) | rfl) (by first | rfl | (simp [V.size]; done))) (by dsimp only [putD, List.set]) ?_) | (refine at_op (some 28) rfl rfl rfl rfl (opOK_un (op_idxL rfl fsl_Stree_node (by first | decide | omega) (by first | assumption | exact idx_some (by assumption) | rfl) (by first | rfl | (simp [V.size]; done)))) (by dsimp only [putD, List.set]) ?_) | (refine at_op (some 28) rfl rfl rfl rfl (op_idxA rfl fsl_Stree_node (by first | decide | omega) (by first | decide | omega)) (by dsimp only [putD, List.set]) ?_)
  first | (refine at_op (some 29) rfl rfl rfl rfl (op_fieldP rfl ffld2_tree_node (by decide)) (by dsimp only [putD, List.set]) ?_) | (refine at_op (some 29) rfl rfl rfl rfl (op_fieldR rfl ffld2_tree_node (by decide) (by decide) rfl) (by dsimp only [putD, List.set]) ?_)
  first | (refine at_op (some 30) rfl rfl rfl rfl (op_loadR1 rfl fone_Sint rfl) (by dsimp only [putD, List.set]) ?_) | (refine at_op (some 30) rfl rfl rfl rfl (op_loadP1 rfl fone_Sint rfl rfl) (by dsimp only [putD, List.set]) ?_)
  first | (refine at_op (some 31) rfl rfl rfl rfl (op_lenL rfl fu_Sint) (by dsimp only [putD, List.set]) ?_) | (refine at_op (some 31) rfl rfl rfl rfl (opOK_un (op_lenL rfl fu_Sint)) (by dsimp only [putD, List.set]) ?_) | (refine at_op (some 31) rfl rfl rfl rfl (op_lenA rfl fu_Sint) (by dsimp only [putD, List.set]) ?_)
  refine at_mc 32 rfl rfl rfl (.inl rfl) (by dsimp only [constD]) (by dsimp only [List.set]) ?_
  refine at_end rfl ?_
  refine at_block [1, 1, 1, 0] 0 rfl ?_
  refine at_loop [1, 1, 1, 0, 0] rfl ?_
  try simp only [List.length_map, List.length_nil, Int.toNat_natCast]
  exact run_wk (.keep (.keep (.drop (.drop (.drop (.drop (.drop (.drop (.keep (.drop (.drop (.drop (.drop (.drop (.drop (.drop (.drop (.drop (.drop (.drop (.drop (.drop (.drop (.drop (.drop (.drop (.drop (.drop (.drop (.drop (.keep (.keep (.keep (.drop (.drop (.drop (.drop (.drop (.drop (.drop (.drop (.drop (.drop (.drop (.drop (.drop .nil)))))))))))))))))))))))))))))))))))))))))))))) (put_loop A B to hG N ih i hN na.kids (by omega) hn2 l hp1 (fun x kid v hx hv => by obtain ⟨r, hr, h1, h2⟩ := hp2 x kid v hx hv; rw [h1] at h2 ⊢; obtain ⟨w, hw, h3, _⟩ := intoM_mem h2; exact ⟨w, hw, h3⟩) _ _ 0 _ rfl (by simpa using ho) (by simp [putM, kidsOf, ha, hb, hpl]))

noncomputable def cEmbed : Code := Try.f50.body.getD .skip
set_option maxRecDepth 20000 in
theorem embed_spec (a b : Tr) (ha : a.size ≤ 1000000) (hb : b.size ≤ 1000000) : FSpec PP 50 [dt a, dt b] σ0 (.tup [dl ((embT a b).getD []), db (embT a b).isSome]) σ0 := by
  have wa := nodesT_wf a
  have wb := nodesT_wf b
  have hG := sol_good wa wb
  have h12 := nodesT_small a
  generalize hTO : (solD (nodesT a) (nodesT b) (nodesT a).length) = to at hG
  refine spec_at cEmbed Try.func50 rfl (by kernel_rfl) (by first | decide | simp) _ (by dsimp only [Try.f50, List.length, Nat.reduceAdd, Nat.reduceSub, List.replicate, List.cons_append, List.nil_append]) ?_
  refine at_seq [0] [1] rfl ?_
  refine at_region rfl ?_
  refine at_op (some 2) rfl rfl rfl rfl (op_boxI rfl rfl) (by dsimp only [putD, List.set]) ?_
  refine at_op (some 3) rfl rfl rfl rfl (op_boxI rfl rfl) (by dsimp only [putD, List.set]) ?_
  refine at_mc 4 rfl rfl rfl (.inr rfl) (by dsimp only [constD]) (by dsimp only [List.set]) ?_
  refine at_mc 5 rfl rfl rfl (.inr rfl) (by dsimp only [constD]) (by dsimp only [List.set]) ?_
  refine at_end rfl ?_
  refine at_seq [1, 0] [1, 1] rfl ?_
  refine at_draw mixed rfl [σ0, ⟨[some [dnl (nodesT a), dnl (nodesT b), .v (.list [])]], []⟩] rfl ?_
  first | (refine da_quiet (some 8) rfl rfl rfl rfl (fun s hs => op_loadRA rfl fagg_api_Tree) (by dsimp only [putD, List.set]) ?_) | (refine da_quiet (some 8) rfl rfl rfl rfl (by intro s hs; simp only [List.mem_cons, List.not_mem_nil, or_false] at hs; rcases hs with rfl | rfl <;> exact op_loadPA rfl fagg_api_Tree rfl (by decide) rfl) (by dsimp only [putD, List.set]) ?_)
  refine da_quiet (some 9) rfl rfl rfl rfl (fun s hs => op_call0 rfl rfl rfl rfl (nodes_spec a ha)) (by dsimp only [putD, List.set]) ?_
  first | (refine da_quiet (some 10) rfl rfl rfl rfl (fun s hs => op_loadRA rfl fagg_api_Tree) (by dsimp only [putD, List.set]) ?_) | (refine da_quiet (some 10) rfl rfl rfl rfl (by intro s hs; simp only [List.mem_cons, List.not_mem_nil, or_false] at hs; rcases hs with rfl | rfl <;> exact op_loadPA rfl fagg_api_Tree rfl (by decide) rfl) (by dsimp only [putD, List.set]) ?_)
  refine da_quiet (some 11) rfl rfl rfl rfl (fun s hs => op_call0 rfl rfl rfl rfl (nodes_spec b hb)) (by dsimp only [putD, List.set]) ?_
  refine da_quiet (some 12) rfl rfl rfl rfl (fun s hs => op_build rfl fbld_tree_search rfl rfl) (by dsimp only [putD, List.set]) ?_
  try dsimp only [V.cellsV, List.take, List.drop, List.cons_append, List.nil_append, List.length]
  refine da_eff (some 13) rfl rfl rfl rfl rfl rfl (op_box rfl rfl) (by dsimp only [putD, List.set]) ?_
  refine da_mv 13 6 rfl rfl rfl (.inr rfl) rfl (by dsimp only [List.set]) ?_
  refine da_end rfl ⟨by decide +kernel, _, rfl, ?_⟩
  refine at_seq [1, 1, 0] [1, 1, 1] rfl ?_
  refine at_region rfl ?_
  refine at_mv 6 14 rfl rfl rfl (.inl rfl) rfl (by dsimp only [List.set]) ?_
  refine at_opS (some 15) rfl rfl rfl rfl (solve_call rfl rfl wa wb) (by dsimp only [putD, List.set]) (by dsimp only [List.set, List.append, List.cons_append, List.nil_append, cellsD, List.map, repl, List.length, Nat.reduceAdd, if_true, ↓reduceIte]; first | done | rfl) ?_
  rw [hTO]
  refine at_end rfl ?_
  refine run_cv (cv_frz [0, 1] (.keep (.keep (.keep (.keep (.keep (.keep (.view (lend_se (A := (nodesT a)) (B := (nodesT b)) (to := to) (d := .arr 1 0 (nodesT a).length) rfl (lend_arr (cs := to.map fun l => dl (il l)) rfl hG.len.symm (fun j l hj => ⟨dl (il l), by simp [hj], _, .same, rfl⟩))) (.keep (.keep (.keep (.keep (.keep (.keep (.keep (.keep (.keep (.keep (.keep (.keep (.keep (.keep (.keep (.keep (.keep (.keep (.keep (.keep (.keep (.keep (.keep (.keep (.keep (.keep (.keep (.keep (.keep (.keep (.keep (.keep (.keep (.keep (.keep (.keep (.keep (.keep (.keep (.keep (.keep (.keep (.keep .nil))))))))))))))))))))))))))))))))))))))))))))))))))) ?_
  simp only [killH, List.foldl, List.set]
  refine at_seq [1, 1, 1, 0] [1, 1, 1, 1] rfl ?_
  refine at_seq [1, 1, 1, 0, 0] [1, 1, 1, 0, 1] rfl ?_
  refine at_region rfl ?_
  refine at_mv 6 16 rfl rfl rfl (.inl rfl) rfl (by dsimp only [List.set]) ?_
  first | (refine at_op (some 17) rfl rfl rfl rfl (op_nilCheck_ptr rfl) (by dsimp only [putD, List.set]) ?_) | (refine at_op (some 17) rfl rfl rfl rfl (op_nilCheck_ref rfl) (by dsimp only [putD, List.set]) ?_)
  first | (refine at_op (some 18) rfl rfl rfl rfl (op_fieldP rfl ffld0_tree_search (by decide)) (by dsimp only [putD, List.set]) ?_) | (refine at_op (some 18) rfl rfl rfl rfl (op_fieldR rfl ffld0_tree_search (by decide) (by decide) rfl) (by dsimp only [putD, List.set]) ?_)
  first | (refine at_op (some 19) rfl rfl rfl rfl (op_loadR1 rfl fone_Stree_node rfl) (by dsimp only [putD, List.set]) ?_) | (refine at_op (some 19) rfl rfl rfl rfl (op_loadP1 rfl fone_Stree_node rfl rfl) (by dsimp only [putD, List.set]) ?_)
  first | (refine at_op (some 20) rfl rfl rfl rfl (op_lenL rfl fu_Stree_node) (by dsimp only [putD, List.set]) ?_) | (refine at_op (some 20) rfl rfl rfl rfl (opOK_un (op_lenL rfl fu_Stree_node)) (by dsimp only [putD, List.set]) ?_) | (refine at_op (some 20) rfl rfl rfl rfl (op_lenA rfl fu_Stree_node) (by dsimp only [putD, List.set]) ?_)
  simp only [List.length_map]
  refine at_op (some 21) rfl rfl rfl rfl (op_binI rfl rfl) (by dsimp only [putD, List.set]) ?_
  refine at_mv 21 22 rfl rfl rfl (.inl rfl) rfl (by dsimp only [List.set]) ?_
  refine at_split 22 rfl (fun hb1 env' he => ?_) (fun hb1 env' he => ?_)
  · dsimp only [List.set] at he; subst he
    have hz : (nodesT a).length = 0 := by simpa using hb1
    have hE : embT a b = none := by unfold embT; rw [hz]; rfl
    refine at_opN (some 23) rfl rfl rfl (by dsimp only [putD, List.set]) ?_
    refine at_opN (some 24) rfl rfl rfl (by dsimp only [putD, List.set]) ?_
    refine at_opN (some 25) rfl rfl rfl (by dsimp only [putD, List.set]) ?_
    refine at_opN (some 26) rfl rfl rfl (by dsimp only [putD, List.set]) ?_
    refine at_opN (some 27) rfl rfl rfl (by dsimp only [putD, List.set]) ?_
    refine at_opN (some 28) rfl rfl rfl (by dsimp only [putD, List.set]) ?_
    refine at_opN (some 29) rfl rfl rfl (by dsimp only [putD, List.set]) ?_
    refine at_opN (some 30) rfl rfl rfl (by dsimp only [putD, List.set]) ?_
    refine at_pkc true 22 31 rfl rfl rfl rfl rfl rfl (by dsimp only [constD]) (by dsimp only [List.set]) ?_
    refine at_end rfl ?_
    refine at_true [1, 1, 1, 0, 1, 0] [1, 1, 1, 0, 1, 1] rfl rfl ?_
    refine at_seq [1, 1, 1, 0, 1, 0, 0] [1, 1, 1, 0, 1, 0, 1] rfl ?_
    refine at_region rfl ?_
    refine at_mc 4 rfl rfl rfl (.inr rfl) (by dsimp only [constD]) (by dsimp only [List.set]) ?_
    refine at_mc 5 rfl rfl rfl (.inr rfl) (by dsimp only [constD]) (by dsimp only [List.set]) ?_
    refine at_end rfl ?_
    refine at_ret rfl (ret_two (t := 4) (t2 := 5) rfl rfl rfl ?_ ?_ rfl rfl)
    all_goals (first | (rw [hE2]; rfl) | (rw [hE]; rfl))
  · dsimp only [List.set] at he; subst he
    have hpos : 0 < (nodesT a).length := by have h3 : (((nodesT a).length : Nat) : Int) ≠ 0 := beq_eq_false_iff_ne.1 hb1; omega
    obtain ⟨l0, hl0⟩ := get_ex (a := to) (i := 0) (by rw [hG.len]; exact hpos)
    have hl2 : (to.map fun l => vl (il l))[(0 : Int).toNat]? = some (vl (il l0)) := by simp [hl0]
    have hE : embT a b = embG (nodesT a) (nodesT b) to l0 := by unfold embT; rw [hTO, gt_get hl0]
    refine at_mv 6 23 rfl rfl rfl (.inl rfl) rfl (by dsimp only [List.set]) ?_
    first | (refine at_op (some 24) rfl rfl rfl rfl (op_nilCheck_ptr rfl) (by dsimp only [putD, List.set]) ?_) | (refine at_op (some 24) rfl rfl rfl rfl (op_nilCheck_ref rfl) (by dsimp only [putD, List.set]) ?_)
    first | (refine at_op (some 25) rfl rfl rfl rfl (op_fieldP rfl ffld2_tree_search (by decide)) (by dsimp only [putD, List.set]) ?_) | (refine at_op (some 25) rfl rfl rfl rfl (op_fieldR rfl ffld2_tree_search (by decide) (by decide) rfl) (by dsimp only [putD, List.set]) ?_)
    first | (refine at_op (some 26) rfl rfl rfl rfl (op_loadR1 rfl fone__5b5d5b5d_int rfl) (by dsimp only [putD, List.set]) ?_) | (refine at_op (some 26) rfl rfl rfl rfl (op_loadP1 rfl fone__5b5d5b5d_int rfl rfl) (by dsimp only [putD, List.set]) ?_)
    first | (refine at_op (some 27) rfl rfl rfl rfl (op_idxL rfl fsl__5b5d5b5d_int (by first | decide | omega) (by first | assumption | exact idx_some (by assumption) | rfl) (by first | rfl | (simp [V.size]; done))) (by dsimp only [putD, List.set]) ?_) | (refine at_op (some 27) rfl rfl rfl rfl (opOK_un (op_idxL rfl fsl__5b5d5b5d_int (by first | decide | omega) (by first | assumption | exact idx_some (by assumption) | rfl) (by first | rfl | (simp [V.size]; done)))) (by dsimp only [putD, List.set]) ?_) | (refine at_op (some 27) rfl rfl rfl rfl (op_idxA rfl fsl__5b5d5b5d_int (by first | decide | omega) (by first | decide | omega)) (by dsimp only [putD, List.set]) ?_)
    first | (refine at_op (some 28) rfl rfl rfl rfl (op_loadR1 rfl fone_Sint rfl) (by dsimp only [putD, List.set]) ?_) | (refine at_op (some 28) rfl rfl rfl rfl (op_loadP1 rfl fone_Sint rfl rfl) (by dsimp only [putD, List.set]) ?_)
    first | (refine at_op (some 29) rfl rfl rfl rfl (op_lenL rfl fu_Sint) (by dsimp only [putD, List.set]) ?_) | (refine at_op (some 29) rfl rfl rfl rfl (opOK_un (op_lenL rfl fu_Sint)) (by dsimp only [putD, List.set]) ?_) | (refine at_op (some 29) rfl rfl rfl rfl (op_lenA rfl fu_Sint) (by dsimp only [putD, List.set]) ?_)
    refine at_op (some 30) rfl rfl rfl rfl (op_binI rfl rfl) (by dsimp only [putD, List.set]) ?_
    refine at_pk false 22 30 31 rfl rfl rfl rfl rfl rfl rfl (by dsimp only [List.set]) ?_
    refine at_end rfl ?_
    refine at_cond [1, 1, 1, 0, 1, 0] [1, 1, 1, 0, 1, 1] rfl rfl (fun hc2 => ?_) (fun hc2 => ?_)
    · skip
      first | (have hE2 : embT a b = none := hE; skip) | (have hn : l0 = [] := (by cases l0 with | nil => rfl | cons x l => simp at hc2; omega); have hE2 : embT a b = none := (by rw [hE, hn]; rfl))
      refine at_seq [1, 1, 1, 0, 1, 0, 0] [1, 1, 1, 0, 1, 0, 1] rfl ?_
      refine at_region rfl ?_
      refine at_mc 4 rfl rfl rfl (.inr rfl) (by dsimp only [constD]) (by dsimp only [List.set]) ?_
      refine at_mc 5 rfl rfl rfl (.inr rfl) (by dsimp only [constD]) (by dsimp only [List.set]) ?_
      refine at_end rfl ?_
      refine at_ret rfl (ret_two (t := 4) (t2 := 5) rfl rfl rfl ?_ ?_ rfl rfl)
      all_goals (first | (rw [hE2]; rfl) | (rw [hE]; rfl))
    · skip
      obtain ⟨j0, l1, rfl⟩ : ∃ j0 l1, l0 = j0 :: l1 := by cases l0 with | nil => simp at hc2 | cons x l => exact ⟨x, l, rfl⟩
      have hj2 : ((il (j0 :: l1)).map vi)[(0 : Int).toNat]? = some (vi (j0 : Int)) := rfl
      refine at_skip rfl ?_
      refine at_seq [1, 1, 1, 1, 0] [1, 1, 1, 1, 1] rfl ?_
      refine at_region rfl ?_
      refine at_mv 6 32 rfl rfl rfl (.inl rfl) rfl (by dsimp only [List.set]) ?_
      first | (refine at_op (some 33) rfl rfl rfl rfl (op_nilCheck_ptr rfl) (by dsimp only [putD, List.set]) ?_) | (refine at_op (some 33) rfl rfl rfl rfl (op_nilCheck_ref rfl) (by dsimp only [putD, List.set]) ?_)
      first | (refine at_op (some 34) rfl rfl rfl rfl (op_fieldP rfl ffld0_tree_search (by decide)) (by dsimp only [putD, List.set]) ?_) | (refine at_op (some 34) rfl rfl rfl rfl (op_fieldR rfl ffld0_tree_search (by decide) (by decide) rfl) (by dsimp only [putD, List.set]) ?_)
      first | (refine at_op (some 35) rfl rfl rfl rfl (op_loadR1 rfl fone_Stree_node rfl) (by dsimp only [putD, List.set]) ?_) | (refine at_op (some 35) rfl rfl rfl rfl (op_loadP1 rfl fone_Stree_node rfl rfl) (by dsimp only [putD, List.set]) ?_)
      first | (refine at_op (some 36) rfl rfl rfl rfl (op_lenL rfl fu_Stree_node) (by dsimp only [putD, List.set]) ?_) | (refine at_op (some 36) rfl rfl rfl rfl (opOK_un (op_lenL rfl fu_Stree_node)) (by dsimp only [putD, List.set]) ?_) | (refine at_op (some 36) rfl rfl rfl rfl (op_lenA rfl fu_Stree_node) (by dsimp only [putD, List.set]) ?_)
      simp only [List.length_map]
      refine at_opS (some 37) rfl rfl rfl rfl (op_make rfl fsl_Sint rfl (by omega) (by omega) (by omega)) (by dsimp only [putD, List.set]) (by dsimp only [List.set, List.append, List.cons_append, List.nil_append, cellsD, List.map, repl, List.length, Nat.reduceAdd, if_true, ↓reduceIte]; first | done | rfl) ?_
      rw [Int.toNat_natCast, dli_zero]
      refine at_mv 37 7 rfl rfl rfl (.inr rfl) rfl (by dsimp only [List.set]) ?_
      refine at_end rfl ?_
      refine at_seq [1, 1, 1, 1, 1, 0] [1, 1, 1, 1, 1, 1] rfl ?_
      refine at_region rfl ?_
      refine at_mv 6 38 rfl rfl rfl (.inl rfl) rfl (by dsimp only [List.set]) ?_
      refine at_mv 7 39 rfl rfl rfl (.inl rfl) rfl (by dsimp only [List.set]) ?_
      refine at_mv 6 40 rfl rfl rfl (.inl rfl) rfl (by dsimp only [List.set]) ?_
      first | (refine at_op (some 41) rfl rfl rfl rfl (op_nilCheck_ptr rfl) (by dsimp only [putD, List.set]) ?_) | (refine at_op (some 41) rfl rfl rfl rfl (op_nilCheck_ref rfl) (by dsimp only [putD, List.set]) ?_)
      first | (refine at_op (some 42) rfl rfl rfl rfl (op_fieldP rfl ffld2_tree_search (by decide)) (by dsimp only [putD, List.set]) ?_) | (refine at_op (some 42) rfl rfl rfl rfl (op_fieldR rfl ffld2_tree_search (by decide) (by decide) rfl) (by dsimp only [putD, List.set]) ?_)
      first | (refine at_op (some 43) rfl rfl rfl rfl (op_loadR1 rfl fone__5b5d5b5d_int rfl) (by dsimp only [putD, List.set]) ?_) | (refine at_op (some 43) rfl rfl rfl rfl (op_loadP1 rfl fone__5b5d5b5d_int rfl rfl) (by dsimp only [putD, List.set]) ?_)
      first | (refine at_op (some 44) rfl rfl rfl rfl (op_idxL rfl fsl__5b5d5b5d_int (by first | decide | omega) (by first | assumption | exact idx_some (by assumption) | rfl) (by first | rfl | (simp [V.size]; done))) (by dsimp only [putD, List.set]) ?_) | (refine at_op (some 44) rfl rfl rfl rfl (opOK_un (op_idxL rfl fsl__5b5d5b5d_int (by first | decide | omega) (by first | assumption | exact idx_some (by assumption) | rfl) (by first | rfl | (simp [V.size]; done)))) (by dsimp only [putD, List.set]) ?_) | (refine at_op (some 44) rfl rfl rfl rfl (op_idxA rfl fsl__5b5d5b5d_int (by first | decide | omega) (by first | decide | omega)) (by dsimp only [putD, List.set]) ?_)
      first | (refine at_op (some 45) rfl rfl rfl rfl (op_loadR1 rfl fone_Sint rfl) (by dsimp only [putD, List.set]) ?_) | (refine at_op (some 45) rfl rfl rfl rfl (op_loadP1 rfl fone_Sint rfl rfl) (by dsimp only [putD, List.set]) ?_)
      first | (refine at_op (some 46) rfl rfl rfl rfl (op_idxL rfl fsl_Sint (by first | decide | omega) (by first | assumption | exact idx_some (by assumption) | rfl) (by first | rfl | (simp [V.size]; done))) (by dsimp only [putD, List.set]) ?_) | (refine at_op (some 46) rfl rfl rfl rfl (opOK_un (op_idxL rfl fsl_Sint (by first | decide | omega) (by first | assumption | exact idx_some (by assumption) | rfl) (by first | rfl | (simp [V.size]; done)))) (by dsimp only [putD, List.set]) ?_) | (refine at_op (some 46) rfl rfl rfl rfl (op_idxA rfl fsl_Sint (by first | decide | omega) (by first | decide | omega)) (by dsimp only [putD, List.set]) ?_)
      first | (refine at_op (some 47) rfl rfl rfl rfl (op_loadR1 rfl fone_int rfl) (by dsimp only [putD, List.set]) ?_) | (refine at_op (some 47) rfl rfl rfl rfl (op_loadP1 rfl fone_int rfl rfl) (by dsimp only [putD, List.set]) ?_)
      refine at_opS (some 48) rfl rfl rfl rfl (op_call1 rfl rfl rfl (pls_map _) (pls_map _) (.pl rfl (.arr (.pl rfl (.pl rfl .nil)))) rfl (put_spec (nodesT a) (nodesT b) to hG (nodesT a).length 0 j0 _ (by omega) (by rw [gt_get hl0]; simp) (by simp))) (by dsimp only [putD, List.set]) (by dsimp only [List.set, List.append, List.cons_append, List.nil_append, cellsD, List.map, repl, List.length, Nat.reduceAdd, if_true, ↓reduceIte]; first | done | rfl) ?_
      refine at_end rfl ?_
      refine run_cv (cv_frz [2] (.keep (.keep (.keep (.keep (.keep (.keep (.keep (.view (lend_ints (out := putM (intoT (nodesT b) to) (nodesT a) (nodesT b) (nodesT a).length (List.replicate (nodesT a).length 0) 0 ↑j0) rfl (by rw [putM_length]; simp)) (.keep (.keep (.keep (.keep (.keep (.keep (.keep (.keep (.keep (.keep (.keep (.keep (.keep (.keep (.keep (.keep (.keep (.keep (.keep (.keep (.keep (.keep (.keep (.keep (.keep (.keep (.keep (.keep (.keep (.keep (.keep (.keep (.keep (.keep (.keep (.keep (.keep (.keep (.keep (.keep (.keep (.keep .nil))))))))))))))))))))))))))))))))))))))))))))))))))) ?_
      refine at_seq [1, 1, 1, 1, 1, 1, 0] [1, 1, 1, 1, 1, 1, 1] rfl ?_
      refine at_region rfl ?_
      refine at_mv 7 49 rfl rfl rfl (.inl rfl) rfl (by dsimp only [List.set]) ?_
      refine at_mv 49 4 rfl rfl rfl (.inr rfl) rfl (by dsimp only [List.set]) ?_
      refine at_mc 5 rfl rfl rfl (.inr rfl) (by dsimp only [constD]) (by dsimp only [List.set]) ?_
      refine at_end rfl ?_
      refine at_ret rfl (ret_two (t := 4) (t2 := 5) rfl rfl rfl ?_ ?_ rfl rfl)
      all_goals (first | (rw [hE2]; rfl) | (rw [hE]; rfl))

noncomputable def cLeqT : Code := Try.f29.body.getD .skip
set_option maxRecDepth 20000 in
theorem tleq_spec (a b : Tr) (ha : a.size ≤ 1000000) (hb : b.size ≤ 1000000) : FSpec PP 29 [dt a, dt b] σ0 (db (embT a b).isSome) σ0 := by
  refine spec_at cLeqT Try.func29 rfl (by kernel_rfl) (by first | decide | simp) _ (by dsimp only [Try.f29, List.length, Nat.reduceAdd, Nat.reduceSub, List.replicate, List.cons_append, List.nil_append]) ?_
  refine at_seq [0] [1] rfl ?_
  refine at_region rfl ?_
  refine at_op (some 2) rfl rfl rfl rfl (op_boxI rfl rfl) (by dsimp only [putD, List.set]) ?_
  refine at_op (some 3) rfl rfl rfl rfl (op_boxI rfl rfl) (by dsimp only [putD, List.set]) ?_
  refine at_mc 4 rfl rfl rfl (.inr rfl) (by dsimp only [constD]) (by dsimp only [List.set]) ?_
  refine at_end rfl ?_
  refine at_seq [1, 0] [1, 1] rfl ?_
  refine at_region rfl ?_
  first | (refine at_op (some 8) rfl rfl rfl rfl (op_loadRA rfl fagg_api_Tree) (by dsimp only [putD, List.set]) ?_) | (refine at_op (some 8) rfl rfl rfl rfl (op_loadPA rfl fagg_api_Tree rfl (by decide) rfl) (by dsimp only [putD, List.set]) ?_)
  first | (refine at_op (some 9) rfl rfl rfl rfl (op_loadRA rfl fagg_api_Tree) (by dsimp only [putD, List.set]) ?_) | (refine at_op (some 9) rfl rfl rfl rfl (op_loadPA rfl fagg_api_Tree rfl (by decide) rfl) (by dsimp only [putD, List.set]) ?_)
  refine at_op (some 10) rfl rfl rfl rfl (op_call0 rfl rfl rfl rfl (embed_spec a b ha hb)) (by dsimp only [putD, List.set]) ?_
  refine at_mv 10 7 rfl rfl rfl (.inl rfl) rfl (by dsimp only [List.set]) ?_
  refine at_op (some 11) rfl rfl rfl rfl (op_extract rfl rfl) (by dsimp only [putD, List.set]) ?_
  refine at_op (some 12) rfl rfl rfl rfl (op_extract rfl rfl) (by dsimp only [putD, List.set]) ?_
  refine at_mv 11 5 rfl rfl rfl (.inr rfl) rfl (by dsimp only [List.set]) ?_
  refine at_mv 12 6 rfl rfl rfl (.inr rfl) rfl (by dsimp only [List.set]) ?_
  refine at_end rfl ?_
  refine at_seq [1, 1, 0] [1, 1, 1] rfl ?_
  refine at_region rfl ?_
  refine at_mv 6 13 rfl rfl rfl (.inl rfl) rfl (by dsimp only [List.set]) ?_
  refine at_mv 13 4 rfl rfl rfl (.inr rfl) rfl (by dsimp only [List.set]) ?_
  refine at_end rfl ?_
  refine at_ret rfl (ret_one (t := 4) rfl rfl ?_ rfl)
  rfl

end Go.Proofs.Ytoofgniepbidnaa
