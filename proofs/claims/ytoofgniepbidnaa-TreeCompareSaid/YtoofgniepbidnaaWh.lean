/-
  Package tree, walked: numbering nodes.
-/
import Derived.Test.YtoofgniepbidnaaWg
namespace Go.Proofs.Ytoofgniepbidnaa
open Go.Dv Tr

abbrev flatN (l : List Nd) : List D := flatV (l.map vn)
theorem flatN_cons (n : Nd) (l : List Nd) : flatN (n :: l) = di n.lab :: di n.fin :: dl (il n.kids) :: flatN l := by simp [flatN, flatV, V.cellsV]
theorem flatN_nil : flatN [] = [] := rfl
theorem flatN_append (a b : List Nd) : flatN (a ++ b) = flatN a ++ flatN b := by simp [flatN, flatV]
theorem flatN_length : ∀ l : List Nd, (flatN l).length = l.length * 3
  | [] => rfl
  | n :: l => by rw [flatN_cons]; simp only [List.length_cons, flatN_length l]; omega
theorem nodesM_eq (a : Nat) (t : Tr) : nodesM a t = ⟨t.lab, a + 1 + szl t.kids, posL (a + 1) t.kids⟩ :: nodesL (a + 1) t.kids := by cases t; simp [nodesM, lab, kids]
theorem raws_args (n : Nat) (qs : List Nat) : ∀ us : List Value, ArgsR n qs (us.map .raw) (us.map .raw)
  | [] => .nil
  | u :: us => .cons (.ren (dc := .raw u) rfl) (raws_args n qs us)
theorem rens_raws (ρ τ : Nat → Nat) : ∀ us : List Value, D.rens ρ τ (us.map .raw) = us.map .raw
  | [] => rfl
  | u :: us => by simp [D.rens, D.ren, rens_raws ρ τ us]
theorem rens_vs (ρ τ : Nat → Nat) : ∀ us : List V, D.rens ρ τ (us.map .v) = us.map .v
  | [] => rfl
  | u :: us => by simp [D.rens, D.ren, rens_vs ρ τ us]
theorem rens_app (ρ τ : Nat → Nat) : ∀ a b : List D, D.rens ρ τ (a ++ b) = D.rens ρ τ a ++ D.rens ρ τ b
  | [], b => rfl
  | d :: a, b => by simp [D.rens, rens_app ρ τ a b]
theorem okNs_raws (n : Nat) (ts : List Nat) : ∀ us : List Value, D.okNs n ts (us.map .raw) = true
  | [] => rfl
  | u :: us => by simp [D.okNs, D.okN, okNs_raws n ts us]
theorem okNs_vs (n : Nat) (ts : List Nat) : ∀ us : List V, D.okNs n ts (us.map .v) = true
  | [] => rfl
  | u :: us => by simp [D.okNs, D.okN, okNs_vs n ts us]
theorem okNs_app (n : Nat) (ts : List Nat) : ∀ a b : List D, D.okNs n ts (a ++ b) = (D.okNs n ts a && D.okNs n ts b)
  | [], b => rfl
  | d :: a, b => by simp [D.okNs, okNs_app n ts a b, Bool.and_assoc]
theorem okH_nones (n : Nat) (ts : List Nat) : ∀ (m : Nat) (H : List (Option (List D))), okH n ts (List.replicate m none ++ H) = okH n ts H
  | 0, H => rfl
  | m + 1, H => by simp [List.replicate_succ, okH, okH_nones n ts m H]

abbrev numF : FuncId := 86
/-- what numbering comes to -/
def NumOK (k : Tr) : Prop := ∀ (us : List Value) (n : Nat), us.length = n * 3 → (∀ u ∈ us, u.oneCell' = true) → n + k.size ≤ 1000000 →
  FSpec PP numF [.gro 0 n 3, dt k] ⟨[some (us.map .raw)], []⟩ (.gro k.size (n + k.size) 3) ⟨List.replicate k.size none ++ [some (us.map .raw ++ flatN (nodesM n k))], []⟩

theorem number_call {o : Oper} {c : Call} {fo : Operand} (ho : o.op = .call c) (hc : c.callee = .value fo) {k : Tr} (spec : NumOK k) {j n : Nat} {cs : List D} {own : List (Nat × Nat × List V)} (hcs : cs.length = n * 3) (hn : n + k.size ≤ 1000000) :
    OpOK PP o [dfn numF, .gro j n 3, dt k] ⟨List.replicate j none ++ [some cs], own⟩ (.gro (j + k.size) (n + k.size) 3) ⟨List.replicate (j + k.size) none ++ [some (cs ++ flatN (nodesM n k))], own⟩ := by
  have hp := size_pos k
  have hset : ∀ x : Option (List D), (List.replicate (j + k.size) none ++ [none]).set (j + k.size) x = List.replicate (j + k.size) none ++ [x] := by
    intro x
    rw [List.set_append_right _ _ (by simp), List.length_replicate, Nat.sub_self]; rfl
  have := opOK_raws (P := PP) (o := o) (σ := ⟨List.replicate j none ++ [some cs], own⟩) (d := .gro (j + k.size) (n + k.size) 3) (ds := [dfn numF, .gro j n 3, dt k]) (q := j) (q' := j + k.size) (cs := cs) (new := flatN (nodesM n k)) (H2 := List.replicate (j + k.size) none ++ [none]) (own' := own) (by simp) (by simp) ?_
  · rw [hset] at this; exact this
  intro us hus hone
  rw [hset]
  have hset2 : (List.replicate j none ++ [some cs]).set j (some (us.map D.raw)) = List.replicate j none ++ [some (us.map D.raw)] := by
    rw [List.set_append_right _ _ (by simp), List.length_replicate, Nat.sub_self]; rfl
  simp only [hset2]
  have h := op_callG (σ := ⟨List.replicate j none ++ [some (us.map .raw)], own⟩) ho hc (fD := dfn numF) rfl (ds := [.gro j n 3, dt k]) [j] id (spec us n (by omega) hone hn)
    (.cons (.ren (dc := .gro 0 n 3) rfl) (.cons (.ren (dc := dt k) rfl) .nil)) (.cons (cs := us.map .raw) (by simp) (raws_args _ _ us) (by simpa [D.one] using hone) .nil) (by simp) rfl (by simp) (by simp)
    (by simp [D.okN]) (by rw [okH_nones]; simp [okH, okNs_app, okNs_raws, flatN, flatV, okNs_vs])
  obtain ⟨s, hs⟩ : ∃ s, k.size = s + 1 := ⟨k.size - 1, by omega⟩
  rw [hs] at h ⊢
  have e1 : D.ren (rho (List.replicate j none ++ [some (us.map D.raw)]).length [j]) id (.gro (s + 1) (n + (s + 1)) 3) = .gro (j + (s + 1)) (n + (s + 1)) 3 := by
    simp [D.ren, rho]; omega
  have e2 : backH (List.replicate j none ++ [some (us.map D.raw)]) [j] (renH (rho (List.replicate j none ++ [some (us.map D.raw)]).length [j]) id (List.replicate (s + 1) none ++ [some (us.map D.raw ++ flatN (nodesM n k))])) = List.replicate (j + (s + 1)) none ++ [some (us.map D.raw ++ flatN (nodesM n k))] := by
    simp only [renH, List.replicate_succ, List.cons_append, List.map_cons, Option.map_none, backH, List.map_append, List.map_replicate, Option.map_some, List.map_nil, rens_app, rens_raws, flatN, flatV, rens_vs]
    rw [List.set_append_right _ _ (by simp), List.length_replicate, Nat.sub_self, List.set_cons_zero, show List.replicate (j + (s + 1)) (none : Option (List D)) = List.replicate j none ++ (none :: List.replicate s none) from by rw [← List.replicate_succ, List.replicate_append_replicate]]
    simp
  rw [e1] at h
  simp only [e2, renOwn, List.map_nil, List.nil_append] at h
  exact h

theorem ret_gro {P : Program} {fn : Func} {env : List D} {σ : St} {t : Tmp} {q len sz : Nat} {H : List (Option (List D))} (hr : fn.results.toList = [.tmp t]) (hs : env[t]? = some (.gro q len sz)) (hH : σ.H = H) (hq : q < H.length) (hc : ∀ (i : Nat) (cs : List D), H[i]? = some (some cs) → D.pls cs = true) : ResOK P fn env σ (.gro q len sz) ⟨H, []⟩ := by
  intro E g a w hf hE
  obtain ⟨us, h1, h2⟩ := (ResL.tmp (P := P) (σ := σ) hs .nil).run hf
  obtain ⟨u, rfl, h3⟩ := repDs_one.1 h2
  refine ⟨u, _, ?_, hf.wi.restrict (σ' := ⟨H, []⟩) (m := H.length) (by simp [hH]) (by simp [hH]) (by simpa using hE) hc (by simp), ?_⟩
  · rw [results_eq, Array.mapM_eq_mapM_toList, hr]
    simp only [Sem.run_bind, Sem.run_map, h1, Result.andThen_ok]
    rfl
  · simp only [repD] at h3 ⊢
    exact ⟨hq, h3.2⟩

theorem setRep {α : Type} (j : Nat) (z x y : α) : (List.replicate j z ++ [x]).set j y = List.replicate j z ++ [y] := by
  rw [List.set_append_right _ _ (by simp), List.length_replicate, Nat.sub_self]; rfl
theorem getRep {α : Type} (j : Nat) (z x : α) : (List.replicate j z ++ [x])[j]? = some x := by simp
theorem triL {pre r : List D} {x y z : D} {a n : Nat} (hp : pre.length = a * 3) (hr : r.length = n * 3) : (pre ++ (x :: y :: z :: r)).length = (a + 1 + n) * 3 := by simp only [List.length_append, List.length_cons, hp, hr]; omega
theorem tri1 {pre r : List D} {x y z : D} {a : Nat} (hp : pre.length = a * 3) : (pre ++ (x :: y :: z :: r))[a * 3 + 1]? = some y := by
  rw [List.getElem?_append_right (by omega), hp, Nat.add_sub_cancel_left]; rfl
theorem tri2 {pre r : List D} {x y z : D} {a : Nat} (hp : pre.length = a * 3) : (pre ++ (x :: y :: z :: r))[a * 3 + 2]? = some z := by
  rw [List.getElem?_append_right (by omega), hp, Nat.add_sub_cancel_left]; rfl
theorem triS1 {pre r : List D} {x y z w : D} {a : Nat} (hp : pre.length = a * 3) : (pre ++ (x :: y :: z :: r)).set (a * 3 + 1) w = pre ++ (x :: w :: z :: r) := by
  rw [List.set_append_right _ _ (by omega), hp, Nat.add_sub_cancel_left]; rfl
theorem triS2 {pre r : List D} {x y z w : D} {a : Nat} (hp : pre.length = a * 3) : (pre ++ (x :: y :: z :: r)).set (a * 3 + 2) w = pre ++ (x :: y :: w :: r) := by
  rw [List.set_append_right _ _ (by omega), hp, Nat.add_sub_cancel_left]; rfl
theorem posL_length : ∀ (a : Nat) (ks : List Tr), (posL a ks).length = ks.length
  | _, [] => rfl
  | a, k :: ks => by simp [posL, posL_length (a + k.size) ks]
theorem take_at {α : Type} {l : List α} {i : Nat} {x : α} (h : l[i]? = some x) : l.take (i + 1) = l.take i ++ [x] := by rw [List.take_add_one, h]; rfl
theorem szl_take (ks : List Tr) (i : Nat) : szl (ks.take i) + szl (ks.drop i) = szl ks := by rw [← szl_append, List.take_append_drop]
abbrev pv (l : List Nat) : List V := (il l).map vi
abbrev numSt (j : Nat) (pre : List D) (lab : Int) (e : Int) (ps : List Nat) (ns : List Nd) : St := ⟨List.replicate j none ++ [some (pre ++ (di lab :: di e :: .acc 1 (pv ps) :: flatN ns))], [(1, 1, pv ps)]⟩

noncomputable def cNumberT : Code := Try.f86.body.getD .skip
set_option maxRecDepth 20000 in
theorem number_loop (R : List D → St → Prop) (lab : Int) (ks : List Tr) (ih : ∀ k ∈ ks, NumOK k) (pre : List D) (a : Nat) (hpre : pre.length = a * 3) (j0 : Nat) (hsz : a + 1 + szl ks ≤ 1000000) (hR : ∀ env' : List D, env'[4]? = some (.gro (j0 + szl ks) (a + 1 + szl ks) 3) → R env' (numSt (j0 + szl ks) pre lab ↑(a + 1 + szl ks) (posL (a + 1) ks) (nodesL (a + 1) ks))) (m : Nat) : ∀ i : Nat, ks.length - i = m → i ≤ ks.length → Run PP R [.lp (sub cNumberT [1, 1, 1, 0, 1, 0, 0]), .blk 0, .code (sub cNumberT [1, 1, 1, 1])] ((.gro (j0 + szl (ks.take i)) (a + 1 + szl (ks.take i)) 3) :: .undef :: .undef :: .undef :: .undef :: (di ↑a) :: .undef :: .undef :: .undef :: .undef :: .undef :: .undef :: .undef :: .undef :: .undef :: .undef :: .undef :: (.v (vtl ks)) :: (di ↑ks.length) :: (di ↑i) :: .undef :: .undef :: .undef :: .undef :: .undef :: .undef :: .undef :: .undef :: .undef :: .undef :: .undef :: .undef :: .undef :: .undef :: .undef :: .undef :: .undef :: .undef :: .undef :: .undef :: .undef :: .undef :: .undef :: .undef :: .undef :: .undef :: .undef :: []) (numSt (j0 + szl (ks.take i)) pre lab 0 (posL (a + 1) (ks.take i)) (nodesL (a + 1) (ks.take i))) := by
  induction m using Nat.strongRecOn with
  | _ m ih2 =>
    intro i hm hi
    have hkl := szl_len ks
    have hst := szl_take ks i
    have hfl : (flatN (nodesL (a + 1) (ks.take i))).length = szl (ks.take i) * 3 := by rw [flatN_length, nodesL_length]
    refine run_lp ?_
    refine at_seq [1, 1, 1, 0, 1, 0, 0, 0] [1, 1, 1, 0, 1, 0, 0, 1] rfl ?_
    refine at_region rfl ?_
    refine at_op (some 20) rfl rfl rfl rfl (op_binI rfl rfl) (by dsimp only [putD, List.set]) ?_
    refine at_end rfl ?_
    refine at_seq [1, 1, 1, 0, 1, 0, 0, 1, 0] [1, 1, 1, 0, 1, 0, 0, 1, 1] rfl ?_
    refine at_cond [1, 1, 1, 0, 1, 0, 0, 1, 0, 0] [1, 1, 1, 0, 1, 0, 0, 1, 0, 1] rfl rfl (fun hc1 => ?_) (fun hc1 => ?_)
    · skip
      have hlt : i < ks.length := by simpa using hc1
      obtain ⟨k, hk⟩ := get_ex hlt
      have hk2 := idx_tree hk
      have hkm := szl_mem (List.mem_of_getElem? hk)
      have hks := szl_at hk
      refine at_skip rfl ?_
      refine at_seq [1, 1, 1, 0, 1, 0, 0, 1, 1, 0] [1, 1, 1, 0, 1, 0, 0, 1, 1, 1] rfl ?_
      refine at_block [1, 1, 1, 0, 1, 0, 0, 1, 1, 0, 0] 1 rfl ?_
      refine at_seq [1, 1, 1, 0, 1, 0, 0, 1, 1, 0, 0, 0] [1, 1, 1, 0, 1, 0, 0, 1, 1, 0, 0, 1] rfl ?_
      refine at_region rfl ?_
      first | (refine at_op (some 21) rfl rfl rfl rfl (op_idxL rfl fsl_Sapi_Tree (by first | decide | omega) (by first | assumption | exact idx_some (by assumption) | rfl) (by first | rfl | (simp [V.size]; done))) (by dsimp only [putD, List.set]) ?_) | (refine at_op (some 21) rfl rfl rfl rfl (opOK_un (op_idxL rfl fsl_Sapi_Tree (by first | decide | omega) (by first | assumption | exact idx_some (by assumption) | rfl) (by first | rfl | (simp [V.size]; done)))) (by dsimp only [putD, List.set]) ?_) | (refine at_op (some 21) rfl rfl rfl rfl (op_idxA rfl fsl_Sapi_Tree (by first | decide | omega) (by first | decide | omega)) (by dsimp only [putD, List.set]) ?_)
      first | (refine at_op (some 22) rfl rfl rfl rfl (op_loadRA rfl fagg_api_Tree) (by dsimp only [putD, List.set]) ?_) | (refine at_op (some 22) rfl rfl rfl rfl (op_loadPA rfl fagg_api_Tree rfl (by decide) rfl) (by dsimp only [putD, List.set]) ?_)
      refine at_new 22 7 rfl rfl rfl rfl fzero_api_Tree rfl rfl rfl rfl (by decide) rfl rfl fagg_api_Tree (by first | rfl | (simp [V.size]; done)) rfl (by simp only [List.length_cons]; omega) (by dsimp only [List.set]) ?_
      refine at_end rfl ?_
      refine at_seq [1, 1, 1, 0, 1, 0, 0, 1, 1, 0, 0, 1, 0] [1, 1, 1, 0, 1, 0, 0, 1, 1, 0, 0, 1, 1] rfl ?_
      refine at_region rfl ?_
      refine at_mv 0 23 rfl rfl rfl (.inl rfl) rfl (by dsimp only [List.set]) ?_
      refine at_mv 5 24 rfl rfl rfl (.inl rfl) rfl (by dsimp only [List.set]) ?_
      refine at_mv 0 25 rfl rfl rfl (.inl rfl) rfl (by dsimp only [List.set]) ?_
      refine at_mv 5 26 rfl rfl rfl (.inl rfl) rfl (by dsimp only [List.set]) ?_
      refine at_op (some 27) rfl rfl rfl rfl (op_idxG rfl fsl_Stree_node (by omega) (by omega)) (by dsimp only [putD, List.set]) ?_
      simp only [Int.toNat_natCast]
      first | (refine at_op (some 28) rfl rfl rfl rfl (op_fieldP rfl ffld2_tree_node (by decide)) (by dsimp only [putD, List.set]) ?_) | (refine at_op (some 28) rfl rfl rfl rfl (op_fieldR rfl ffld2_tree_node (by decide) (by decide) rfl) (by dsimp only [putD, List.set]) ?_)
      refine at_op (some 29) rfl rfl rfl rfl (op_loadP1 rfl fone_Sint (getRep _ _ _) (tri2 hpre)) (by dsimp only [putD, List.set]) ?_
      refine at_mv 0 30 rfl rfl rfl (.inl rfl) rfl (by dsimp only [List.set]) ?_
      refine at_op (some 31) rfl rfl rfl rfl (op_lenG rfl fu_Stree_node) (by dsimp only [putD, List.set]) ?_
      refine at_op (some 32) rfl rfl rfl rfl (op_buildSlice rfl (by rfl) (by rfl) fsl_Sint rfl rfl (by simp [V.size]) (by decide) (by decide) (by decide)) (by dsimp only [putD, List.set]) ?_
      refine at_opS (some 33) rfl rfl rfl rfl (op_append rfl fsl_Sint rfl (by simp) (by simp [V.size]) (by simp [posL_length]; omega) (by simp [posL_length]; omega)) (by dsimp only [putD, List.set]) (by dsimp only [List.set, List.append, List.cons_append, List.nil_append, cellsD, List.map, repl, List.length, Nat.reduceAdd, if_true, ↓reduceIte]; first | done | rfl) ?_
      refine at_op (some 34) rfl rfl rfl rfl (op_idxG rfl fsl_Stree_node (by omega) (by omega)) (by dsimp only [putD, List.set]) ?_
      simp only [Int.toNat_natCast]
      first | (refine at_op (some 35) rfl rfl rfl rfl (op_fieldP rfl ffld2_tree_node (by decide)) (by dsimp only [putD, List.set]) ?_) | (refine at_op (some 35) rfl rfl rfl rfl (op_fieldR rfl ffld2_tree_node (by decide) (by decide) rfl) (by dsimp only [putD, List.set]) ?_)
      refine at_st1 35 (.tmp 33) rfl rfl rfl rfl rfl (ev_tmp rfl) rfl fone_Sint (getRep _ _ _) (by rw [triL hpre hfl]; omega) rfl ?_
      rw [setRep, triS2 hpre]
      refine at_end rfl ?_
      refine at_region rfl ?_
      refine at_mv 0 36 rfl rfl rfl (.inl rfl) rfl (by dsimp only [List.set]) ?_
      first | (refine at_op (some 37) rfl rfl rfl rfl (op_loadRA rfl fagg_api_Tree) (by dsimp only [putD, List.set]) ?_) | (refine at_op (some 37) rfl rfl rfl rfl (op_loadPA rfl fagg_api_Tree rfl (by decide) rfl) (by dsimp only [putD, List.set]) ?_)
      refine at_opS (some 38) rfl rfl rfl rfl (number_call rfl rfl (ih k (List.mem_of_getElem? hk)) (triL hpre hfl) (by omega)) (by dsimp only [putD, List.set]) (by dsimp only [List.set, List.append, List.cons_append, List.nil_append, cellsD, List.map, repl, List.length, Nat.reduceAdd, if_true, ↓reduceIte]; first | done | rfl) ?_
      refine at_mv 38 0 rfl rfl rfl (.inr rfl) rfl (by dsimp only [List.set]) ?_
      refine at_end rfl ?_
      refine run_blk ?_
      refine at_region rfl ?_
      refine at_op (some 39) rfl rfl rfl rfl (op_binI rfl rfl) (by dsimp only [putD, List.set]) ?_
      refine at_mv 39 19 rfl rfl rfl (.inl rfl) rfl (by dsimp only [List.set]) ?_
      refine at_end rfl ?_
      rw [wrap_succ (by omega)]
      have e1 : szl (ks.take (i + 1)) = szl (ks.take i) + k.size := by rw [take_at hk, szl_append, szl_cons]; simp [szl]
      have e2 : posL (a + 1) (ks.take (i + 1)) = posL (a + 1) (ks.take i) ++ [a + 1 + szl (ks.take i)] := by rw [take_at hk, posL_append]; simp [posL]
      have e3 : nodesL (a + 1) (ks.take (i + 1)) = nodesL (a + 1) (ks.take i) ++ nodesM (a + 1 + szl (ks.take i)) k := by rw [take_at hk, nodesL_append]; simp [nodesL]
      have := ih2 _ (by omega) (i + 1) rfl (by omega)
      rw [e1, e2, e3] at this
      simp only [numSt, flatN_append, ← Nat.add_assoc] at this
      refine run_wk (.keep (.drop (.drop (.drop (.drop (.keep (.drop (.drop (.drop (.drop (.drop (.drop (.drop (.drop (.drop (.drop (.drop (.keep (.keep (.keep (.drop (.drop (.drop (.drop (.drop (.drop (.drop (.drop (.drop (.drop (.drop (.drop (.drop (.drop (.drop (.drop (.drop (.drop (.drop (.drop (.drop (.drop (.drop (.drop (.drop (.drop (.drop .nil))))))))))))))))))))))))))))))))))))))))))))))) ?_
      simpa [List.append_assoc] using this
    · skip
      have hge : ks.length ≤ i := by simpa using hc1
      rw [List.take_of_length_le hge] at hst hfl ⊢
      refine at_exit rfl rfl ?_
      refine at_seq [1, 1, 1, 1, 0] [1, 1, 1, 1, 1] rfl ?_
      refine at_region rfl ?_
      refine at_mv 0 40 rfl rfl rfl (.inl rfl) rfl (by dsimp only [List.set]) ?_
      refine at_mv 5 41 rfl rfl rfl (.inl rfl) rfl (by dsimp only [List.set]) ?_
      refine at_mv 0 42 rfl rfl rfl (.inl rfl) rfl (by dsimp only [List.set]) ?_
      refine at_op (some 43) rfl rfl rfl rfl (op_lenG rfl fu_Stree_node) (by dsimp only [putD, List.set]) ?_
      refine at_op (some 44) rfl rfl rfl rfl (op_idxG rfl fsl_Stree_node (by omega) (by omega)) (by dsimp only [putD, List.set]) ?_
      simp only [Int.toNat_natCast]
      first | (refine at_op (some 45) rfl rfl rfl rfl (op_fieldP rfl ffld1_tree_node (by decide)) (by dsimp only [putD, List.set]) ?_) | (refine at_op (some 45) rfl rfl rfl rfl (op_fieldR rfl ffld1_tree_node (by decide) (by decide) rfl) (by dsimp only [putD, List.set]) ?_)
      refine at_st1 45 (.tmp 43) rfl rfl rfl rfl rfl (ev_tmp rfl) rfl fone_int (getRep _ _ _) (by rw [triL hpre hfl]; omega) rfl ?_
      rw [setRep, triS1 hpre]
      refine at_end rfl ?_
      refine at_seq [1, 1, 1, 1, 1, 0] [1, 1, 1, 1, 1, 1] rfl ?_
      refine at_region rfl ?_
      refine at_mv 0 46 rfl rfl rfl (.inl rfl) rfl (by dsimp only [List.set]) ?_
      refine at_mv 46 4 rfl rfl rfl (.inr rfl) rfl (by dsimp only [List.set]) ?_
      refine at_end rfl ?_
      refine at_ret rfl (hR _ rfl)

theorem pls_raws : ∀ us : List Value, D.pls (us.map .raw) = true
  | [] => rfl
  | u :: us => by simp [D.pls, D.pl, pls_raws us]
theorem num_ret {pre : List D} {lab : Int} {a j : Nat} {e : Int} {ps : List Nat} {ns : List Nd} {env : List D} {n : Nat} {j' : Nat} {cs : List D} (hpre : pre.length = a * 3) (hp : D.pls pre = true) (hs : env[4]? = some (.gro j n 3)) (hj : j = j') (hcs : pre ++ (di lab :: di e :: dl (il ps) :: flatN ns) = cs) :
    ResOK PP Try.f86 env (numSt j pre lab e ps ns) (.gro j' n 3) ⟨List.replicate j' none ++ [some cs], []⟩ := by
  subst hj hcs
  refine resOK_cv (cv_see (cs := pre ++ (di lab :: di e :: .acc 1 (pv ps) :: flatN ns)) (getRep _ _ _) (SeeL.set .acc (tri2 hpre)).sees) ?_
  simp only [setRep, triS2 hpre]
  refine ret_gro (t := 4) rfl hs rfl (by simp) (fun i cs hi => ?_)
  by_cases hlt : i < j
  · rw [List.getElem?_append_left (by simpa using hlt)] at hi
    simp [List.getElem?_replicate, hlt] at hi
  · rw [List.getElem?_append_right (by simp; omega), List.length_replicate] at hi
    cases hd : i - j with
    | zero =>
      rw [hd] at hi; simp at hi; subst hi
      simp [pls_append, hp, D.pls, D.pl, flatN, flatV, pls_map]
    | succ m => rw [hd] at hi; simp at hi

set_option maxRecDepth 20000 in
theorem number_ok (N : Nat) : ∀ (t : Tr), t.size = N → NumOK t := by
  induction N using Nat.strongRecOn with
  | _ N ih =>
  intro t hN us n hus hone hn
  have hz := size_eq t
  have hpre : (us.map D.raw).length = n * 3 := by simpa using hus
  refine spec_at cNumberT Try.func86 rfl (by kernel_rfl) (by first | decide | simp) _ (by dsimp only [Try.f86, List.length, Nat.reduceAdd, Nat.reduceSub, List.replicate, List.cons_append, List.nil_append]) ?_
  refine at_seq [0] [1] rfl ?_
  refine at_region rfl ?_
  refine at_op (some 3) rfl rfl rfl rfl (op_boxI rfl rfl) (by dsimp only [putD, List.set]) ?_
  refine at_mc 4 rfl rfl rfl (.inr rfl) (by dsimp only [constD]) (by dsimp only [List.set]) ?_
  refine at_end rfl ?_
  refine at_seq [1, 0] [1, 1] rfl ?_
  refine at_region rfl ?_
  refine at_mv 0 8 rfl rfl rfl (.inl rfl) rfl (by dsimp only [List.set]) ?_
  refine at_op (some 9) rfl rfl rfl rfl (op_lenG rfl fu_Stree_node) (by dsimp only [putD, List.set]) ?_
  refine at_mv 9 5 rfl rfl rfl (.inr rfl) rfl (by dsimp only [List.set]) ?_
  refine at_end rfl ?_
  refine at_seq [1, 1, 0] [1, 1, 1] rfl ?_
  refine at_region rfl ?_
  refine at_mv 0 10 rfl rfl rfl (.inl rfl) rfl (by dsimp only [List.set]) ?_
  first | (refine at_op (some 11) rfl rfl rfl rfl (op_fieldP rfl ffld0_api_Tree (by decide)) (by dsimp only [putD, List.set]) ?_) | (refine at_op (some 11) rfl rfl rfl rfl (op_fieldR rfl ffld0_api_Tree (by decide) (by decide) rfl) (by dsimp only [putD, List.set]) ?_)
  first | (refine at_op (some 12) rfl rfl rfl rfl (op_loadR1 rfl fone_int rfl) (by dsimp only [putD, List.set]) ?_) | (refine at_op (some 12) rfl rfl rfl rfl (op_loadP1 rfl fone_int rfl rfl) (by dsimp only [putD, List.set]) ?_)
  refine at_op (some 13) rfl rfl rfl rfl (op_buildN rfl fbldN_tree_node rfl rfl) (by dsimp only [putD, List.set]) ?_
  try dsimp only [V.cellsV, List.take, List.drop, List.cons_append, List.nil_append, List.length]
  refine at_op (some 14) rfl rfl rfl rfl (op_buildSlice rfl (by rfl) (by rfl) fsl_Stree_node rfl rfl (by simp [V.size]) (by decide) (by decide) (by decide)) (by dsimp only [putD, List.set]) ?_
  refine at_opS (some 15) rfl rfl rfl rfl (op_appendGV rfl fsl_Stree_node rfl (by decide) (cs := us.map .raw) rfl hpre (by simp [V.size]) (by simp) (by simp; omega) (by simp; omega)) (by dsimp only [putD, List.set]) (by dsimp only [List.set, List.append, List.cons_append, List.nil_append, cellsD, List.map, repl, List.length, Nat.reduceAdd, if_true, ↓reduceIte]; first | done | rfl) ?_
  refine at_mv 15 0 rfl rfl rfl (.inr rfl) rfl (by dsimp only [List.set]) ?_
  refine at_end rfl ?_
  refine run_cv (cv_claim 1 (n * 3 + 2) 1 1 (cs := us.map .raw ++ [di t.lab, di 0, .v .nils]) rfl (tri2 hpre) (by simp) (by decide)) ?_
  simp only [triS2 hpre, List.set_cons_succ, List.set_cons_zero]
  refine at_seq [1, 1, 1, 0] [1, 1, 1, 1] rfl ?_
  refine at_seq [1, 1, 1, 0, 0] [1, 1, 1, 0, 1] rfl ?_
  refine at_region rfl ?_
  first | (refine at_op (some 16) rfl rfl rfl rfl (op_fieldP rfl ffld1_api_Tree (by decide)) (by dsimp only [putD, List.set]) ?_) | (refine at_op (some 16) rfl rfl rfl rfl (op_fieldR rfl ffld1_api_Tree (by decide) (by decide) rfl) (by dsimp only [putD, List.set]) ?_)
  first | (refine at_op (some 17) rfl rfl rfl rfl (op_loadR1 rfl fone_Sapi_Tree rfl) (by dsimp only [putD, List.set]) ?_) | (refine at_op (some 17) rfl rfl rfl rfl (op_loadP1 rfl fone_Sapi_Tree rfl rfl) (by dsimp only [putD, List.set]) ?_)
  first | (refine at_op (some 18) rfl rfl rfl rfl (op_lenL rfl fu_Sapi_Tree) (by dsimp only [putD, List.set]) ?_) | (refine at_op (some 18) rfl rfl rfl rfl (opOK_un (op_lenL rfl fu_Sapi_Tree)) (by dsimp only [putD, List.set]) ?_) | (refine at_op (some 18) rfl rfl rfl rfl (op_lenA rfl fu_Sapi_Tree) (by dsimp only [putD, List.set]) ?_)
  refine at_mc 19 rfl rfl rfl (.inl rfl) (by dsimp only [constD]) (by dsimp only [List.set]) ?_
  refine at_end rfl ?_
  refine at_block [1, 1, 1, 0, 1, 0] 0 rfl ?_
  refine at_loop [1, 1, 1, 0, 1, 0, 0] rfl ?_
  try simp only [List.length_map, List.length_nil, Int.toNat_natCast]
  refine run_wk (.keep (.drop (.drop (.drop (.drop (.keep (.drop (.drop (.drop (.drop (.drop (.drop (.drop (.drop (.drop (.drop (.drop (.keep (.keep (.keep (.drop (.drop (.drop (.drop (.drop (.drop (.drop (.drop (.drop (.drop (.drop (.drop (.drop (.drop (.drop (.drop (.drop (.drop (.drop (.drop (.drop (.drop (.drop (.drop (.drop (.drop (.drop .nil))))))))))))))))))))))))))))))))))))))))))))))) ?_
  have := number_loop (fun env σ1 => ResOK PP Try.f86 env σ1 (.gro t.size (n + t.size) 3) ⟨List.replicate t.size none ++ [some (us.map .raw ++ flatN (nodesM n t))], []⟩) t.lab t.kids (fun k hk => ih k.size (by have := szl_mem hk; omega) k rfl) (us.map .raw) n hpre 1 (by omega) (fun env he => num_ret (lab := t.lab) (e := ↑(n + 1 + szl t.kids)) (ps := posL (n + 1) t.kids) (ns := nodesL (n + 1) t.kids) (j' := t.size) (cs := us.map .raw ++ flatN (nodesM n t)) hpre (pls_raws us) (n := n + t.size) (by rw [he]; congr 2; omega) (by omega) (by rw [nodesM_eq, flatN_cons])) _ 0 rfl (by omega)
  simp [posL, nodesL, szl, flatN_nil] at this; exact this

set_option maxRecDepth 20000 in
theorem number_nil (t : Tr) (hs : t.size ≤ 1000000) : FSpec PP numF [.v .nils, dt t] σ0 (.gro (t.size - 1) t.size 3) ⟨List.replicate (t.size - 1) none ++ [some (flatN (nodesM 0 t))], []⟩ := by
  have hz := size_eq t
  have hpre : ([] : List D).length = 0 * 3 := rfl
  have hnil : SeeL [D.v V.nils] [.v (.list [])] := .cons .nils .nil
  refine spec_at cNumberT Try.func86 rfl (by kernel_rfl) (by first | decide | simp) _ (by dsimp only [Try.f86, List.length, Nat.reduceAdd, Nat.reduceSub, List.replicate, List.cons_append, List.nil_append]) ?_
  refine at_seq [0] [1] rfl ?_
  refine at_region rfl ?_
  refine at_op (some 3) rfl rfl rfl rfl (op_boxI rfl rfl) (by dsimp only [putD, List.set]) ?_
  refine at_mc 4 rfl rfl rfl (.inr rfl) (by dsimp only [constD]) (by dsimp only [List.set]) ?_
  refine at_end rfl ?_
  refine at_seq [1, 0] [1, 1] rfl ?_
  refine at_region rfl ?_
  refine at_mv 0 8 rfl rfl rfl (.inl rfl) rfl (by dsimp only [List.set]) ?_
  refine at_op (some 9) rfl rfl rfl rfl (opOK_see hnil (op_lenL rfl fu_Stree_node)) (by dsimp only [putD, List.set]) ?_
  refine at_mv 9 5 rfl rfl rfl (.inr rfl) rfl (by dsimp only [List.set]) ?_
  refine at_end rfl ?_
  refine at_seq [1, 1, 0] [1, 1, 1] rfl ?_
  refine at_region rfl ?_
  refine at_mv 0 10 rfl rfl rfl (.inl rfl) rfl (by dsimp only [List.set]) ?_
  first | (refine at_op (some 11) rfl rfl rfl rfl (op_fieldP rfl ffld0_api_Tree (by decide)) (by dsimp only [putD, List.set]) ?_) | (refine at_op (some 11) rfl rfl rfl rfl (op_fieldR rfl ffld0_api_Tree (by decide) (by decide) rfl) (by dsimp only [putD, List.set]) ?_)
  first | (refine at_op (some 12) rfl rfl rfl rfl (op_loadR1 rfl fone_int rfl) (by dsimp only [putD, List.set]) ?_) | (refine at_op (some 12) rfl rfl rfl rfl (op_loadP1 rfl fone_int rfl rfl) (by dsimp only [putD, List.set]) ?_)
  refine at_op (some 13) rfl rfl rfl rfl (op_buildN rfl fbldN_tree_node rfl rfl) (by dsimp only [putD, List.set]) ?_
  try dsimp only [V.cellsV, List.take, List.drop, List.cons_append, List.nil_append, List.length]
  refine at_op (some 14) rfl rfl rfl rfl (op_buildSlice rfl (by rfl) (by rfl) fsl_Stree_node rfl rfl (by simp [V.size]) (by decide) (by decide) (by decide)) (by dsimp only [putD, List.set]) ?_
  refine at_opS (some 15) rfl rfl rfl rfl (op_appendG0V rfl fsl_Stree_node rfl (by decide) (by simp [V.size]) (by simp) (by simp) (by simp)) (by dsimp only [putD, List.set]) (by dsimp only [List.set, List.append, List.cons_append, List.nil_append, cellsD, List.map, repl, List.length, Nat.reduceAdd, if_true, ↓reduceIte]; first | done | rfl) ?_
  refine at_mv 15 0 rfl rfl rfl (.inr rfl) rfl (by dsimp only [List.set]) ?_
  refine at_end rfl ?_
  refine run_cv (cv_claim 0 2 1 1 (cs := [di t.lab, di 0, .v .nils]) rfl rfl (by simp) (by decide)) ?_
  simp only [List.set_cons_succ, List.set_cons_zero]
  refine at_seq [1, 1, 1, 0] [1, 1, 1, 1] rfl ?_
  refine at_seq [1, 1, 1, 0, 0] [1, 1, 1, 0, 1] rfl ?_
  refine at_region rfl ?_
  first | (refine at_op (some 16) rfl rfl rfl rfl (op_fieldP rfl ffld1_api_Tree (by decide)) (by dsimp only [putD, List.set]) ?_) | (refine at_op (some 16) rfl rfl rfl rfl (op_fieldR rfl ffld1_api_Tree (by decide) (by decide) rfl) (by dsimp only [putD, List.set]) ?_)
  first | (refine at_op (some 17) rfl rfl rfl rfl (op_loadR1 rfl fone_Sapi_Tree rfl) (by dsimp only [putD, List.set]) ?_) | (refine at_op (some 17) rfl rfl rfl rfl (op_loadP1 rfl fone_Sapi_Tree rfl rfl) (by dsimp only [putD, List.set]) ?_)
  first | (refine at_op (some 18) rfl rfl rfl rfl (op_lenL rfl fu_Sapi_Tree) (by dsimp only [putD, List.set]) ?_) | (refine at_op (some 18) rfl rfl rfl rfl (opOK_un (op_lenL rfl fu_Sapi_Tree)) (by dsimp only [putD, List.set]) ?_) | (refine at_op (some 18) rfl rfl rfl rfl (op_lenA rfl fu_Sapi_Tree) (by dsimp only [putD, List.set]) ?_)
  refine at_mc 19 rfl rfl rfl (.inl rfl) (by dsimp only [constD]) (by dsimp only [List.set]) ?_
  refine at_end rfl ?_
  refine at_block [1, 1, 1, 0, 1, 0] 0 rfl ?_
  refine at_loop [1, 1, 1, 0, 1, 0, 0] rfl ?_
  try simp only [List.length_map, List.length_nil, Int.toNat_natCast]
  refine run_wk (.keep (.drop (.drop (.drop (.drop (.keep (.drop (.drop (.drop (.drop (.drop (.drop (.drop (.drop (.drop (.drop (.drop (.keep (.keep (.keep (.drop (.drop (.drop (.drop (.drop (.drop (.drop (.drop (.drop (.drop (.drop (.drop (.drop (.drop (.drop (.drop (.drop (.drop (.drop (.drop (.drop (.drop (.drop (.drop (.drop (.drop (.drop .nil))))))))))))))))))))))))))))))))))))))))))))))) ?_
  have := number_loop (fun env σ1 => ResOK PP Try.f86 env σ1 (.gro (t.size - 1) t.size 3) ⟨List.replicate (t.size - 1) none ++ [some (flatN (nodesM 0 t))], []⟩) t.lab t.kids (fun k hk => number_ok k.size k rfl) [] 0 hpre 0 (by omega) (fun env he => num_ret (lab := t.lab) (e := ↑(0 + 1 + szl t.kids)) (ps := posL (0 + 1) t.kids) (ns := nodesL (0 + 1) t.kids) (j' := t.size - 1) (cs := flatN (nodesM 0 t)) hpre rfl (n := t.size) (by rw [he]; congr 2; omega) (by omega) (by rw [nodesM_eq, flatN_cons]; simp)) _ 0 rfl (by omega)
  simp [posL, nodesL, szl, flatN_nil] at this; exact this

end Go.Proofs.Ytoofgniepbidnaa
