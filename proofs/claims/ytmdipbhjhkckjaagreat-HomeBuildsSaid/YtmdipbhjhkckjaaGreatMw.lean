/-
 Numbers dealt, configurations made: walked.
-/
import Derived.Test.YtmdipbhjhkckjaaGreatMz
import Derived.Test.YtmdipbhjhkckjaaGreatDb
import Derived.Test.YtmdipbhjhkckjaaGreatHx
namespace Go.Proofs.YtmdipbhjhkckjaaGreat
open Go.Dv
def inV (s : List Int) (q : Int) : Nat → Nat → List Int × Nat
 | 0, k => ([], k)
 | c + 1, k => (pkV s k q :: (inV s q c (pkAt s k)).1, (inV s q c (pkAt s k)).2)
theorem inV_ok {s : List Int} (hb : BytesOK s) (hs : s.length ≤ 200) {q : Int} (hq : 1 ≤ q) : ∀ (c k : Nat), k ≤ 200 → (inV s q c k).1.length = c ∧ (∀ x ∈ (inV s q c k).1, 0 ≤ x ∧ x < q) ∧ (inV s q c k).2 ≤ 200
 | 0, k, h => by simp [inV, h]
 | c + 1, k, h => by
  obtain ⟨h1, h2, h3⟩ := inV_ok hb hs hq c (pkAt s k) (pkAt_lt h hs)
  have := pkV_range hb k hq
  refine ⟨by simp [inV, h1], fun x hx => ?_, by simp only [inV]; exact h3⟩
  simp only [inV, List.mem_cons] at hx
  rcases hx with rfl | hx
  ·exact this
  ·exact h2 x hx
abbrev inSt (s : List Int) (k : Nat) (acc : List Int) : St := ⟨[some [.v (.list (s.map vu)), .v (.int .i64 (k : Int))]], [(1, 1, acc.map vi)]⟩
theorem pick_ex (s : List Int) (hb : BytesOK s) (hs : s.length ≤ 200) (k : Nat) (hk : k ≤ 200) (n : Int) (hn : 1 ≤ n) : ∃ (v : Int) (k' : Nat), 0 ≤ v ∧ v < n ∧ k' ≤ 200 ∧ FSpec PP 36 [.ptr 0 0, di n] (dice s k) (di v) (dice s k') :=
 ⟨_, _, (pkV_range hb k hn).1, (pkV_range hb k hn).2, pkAt_lt hk hs, pick_spec s hb hs k (by omega) n hn⟩
abbrev stQ (acc : List Int) : St := ⟨[some [di 0, .v .nils], some [di 0, .acc 1 (acc.map vN)]], [(1, 2, acc.map vN)]⟩
noncomputable def cIntsD : Code := Tryz.f52.body.getD .skip
set_option maxRecDepth 20000 in
theorem intsD_loop (s : List Int) (hb : BytesOK s) (hs : s.length ≤ 200) (n : Nat) (hn : n ≤ 100) (mo : Int) (h0 : 0 ≤ mo) (h1 : mo ≤ 100) (T : List Int × Nat) (m : Nat) : ∀ (i k : Nat) (acc : List Int), n - i = m → i ≤ n → k ≤ 200 → acc.length = i → T = (acc ++ (inV s (mo + 1) (n - i) k).1, (inV s (mo + 1) (n - i) k).2) → Run PP (fun env σ1 => ResOK PP Tryz.f52 env σ1 (dl T.1) (dice s T.2)) [.lp (sub cIntsD [1, 1, 0, 1, 0, 0]), .blk 0, .code (sub cIntsD [1, 1, 1])] ((.ptr 0 0) :: (di ↑n) :: (di mo) :: .undef :: .undef :: .undef :: .undef :: (.acc 1 (acc.map vi)) :: (di ↑i) :: .undef :: .undef :: .undef :: .undef :: .undef :: .undef :: .undef :: .undef :: .undef :: .undef :: .undef :: .undef :: .undef :: []) (inSt s k acc) := by
 induction m using Nat.strongRecOn with
 | _ m ih =>
  intro i k acc hm hi hk hal hT
  refine run_lp ?_
  refine at_seq [1, 1, 0, 1, 0, 0, 0] [1, 1, 0, 1, 0, 0, 1] rfl ?_
  refine at_seq [1, 1, 0, 1, 0, 0, 0, 0] [1, 1, 0, 1, 0, 0, 0, 1] rfl ?_
  refine at_region rfl ?_
  refine at_m 8 9 rfl rfl rfl (.inl rfl) rfl ?_
  refine at_m 1 10 rfl rfl rfl (.inl rfl) rfl ?_
  refine at_o 11 rfl rfl rfl rfl (op_binI rfl rfl) ?_
  refine at_end rfl ?_
  refine at_cond [1, 1, 0, 1, 0, 0, 0, 1, 0] [1, 1, 0, 1, 0, 0, 0, 1, 1] rfl rfl (fun hc1 => ?_) (fun hc1 => ?_)
  ·skip
   have hlt : i < n := by simp at hc1; omega
   obtain ⟨c, hc⟩ : ∃ c, n - i = c + 1 := ⟨n - i - 1, by omega⟩
   rw [hc] at hT
   simp only [inV] at hT
   have hk2 := pkAt_lt hk hs
   refine at_skip rfl ?_
   refine at_seq [1, 1, 0, 1, 0, 0, 1, 0] [1, 1, 0, 1, 0, 0, 1, 1] rfl ?_
   refine at_block [1, 1, 0, 1, 0, 0, 1, 0, 0] 1 rfl ?_
   refine at_region rfl ?_
   refine at_m 7 14 rfl rfl rfl (.inl rfl) rfl ?_
   refine at_m 0 15 rfl rfl rfl (.inl rfl) rfl ?_
   refine at_m 2 16 rfl rfl rfl (.inl rfl) rfl ?_
   refine at_o 17 rfl rfl rfl rfl (op_binI rfl rfl) ?_
   rw [wrap_id (by omega) (by omega)]
   refine at_opS (some 18) rfl rfl rfl rfl (op_call1 rfl rfl rfl rfl rfl (.ptr (.pl rfl .nil)) rfl (pick_spec s hb hs _ (by omega) _ (by omega))) (by dsimp only [putD, List.set]) (by dsimp only [List.set, List.append, List.cons_append, List.nil_append, cellsD, List.map, repl, List.length, Nat.reduceAdd, if_true, ↓reduceIte]; first | done | rfl) ?_
   refine at_o 19 rfl rfl rfl rfl (op_buildSlice rfl (by rfl) (by rfl) fsl_Sint rfl rfl (by simp [V.size]) (by decide) (by decide) (by decide)) ?_
   refine at_opS (some 20) rfl rfl rfl rfl (op_append rfl fsl_Sint rfl (by simp) (by simp [V.size]) (by simp; omega) (by simp; omega)) (by dsimp only [putD, List.set]) (by dsimp only [List.set, List.append, List.cons_append, List.nil_append, cellsD, List.map, repl, List.length, Nat.reduceAdd, if_true, ↓reduceIte]; first | done | rfl) ?_
   refine at_m 20 7 rfl rfl rfl (.inr rfl) rfl ?_
   refine at_end rfl ?_
   rw [show (acc.map vi ++ [.int .i64 (pkV s k (mo + 1))]) = (acc ++ [pkV s k (mo + 1)]).map vi by simp]
   refine run_blk ?_
   refine at_region rfl ?_
   refine at_m 8 12 rfl rfl rfl (.inl rfl) rfl ?_
   refine at_o 13 rfl rfl rfl rfl (op_binI rfl rfl) ?_
   rw [wrap_succ (by omega)]
   refine at_m 13 8 rfl rfl rfl (.inr rfl) rfl ?_
   refine at_end rfl ?_
   exact run_wk (.keep (.keep (.keep (.d4 (.keep (.keep (.d4 (.d4 (.d4 (.drop .nil)))))))))) (ih _ (by omega) (i + 1) (pkAt s k) _ rfl (by omega) hk2 (by simp; omega) (by rw [hT, show n - (i + 1) = c by omega]; simp))
  ·skip
   have hin : i = n := by simp at hc1; omega
   rw [hin, Nat.sub_self] at hT
   simp only [inV, List.append_nil] at hT
   refine at_exit rfl rfl ?_
   refine at_seq [1, 1, 1, 0] [1, 1, 1, 1] rfl ?_
   refine at_region rfl ?_
   refine at_m 7 21 rfl rfl rfl (.inl rfl) rfl ?_
   refine at_m 21 6 rfl rfl rfl (.inr rfl) rfl ?_
   refine at_end rfl ?_
   refine at_ret rfl (resOK_cv (cv_sub (.cons (.same _) (.cons (.same _) (.cons (.same _) (.cons (.same _) (.cons (.same _) (.cons (.same _) (.cons .acc (.cons .acc (.cons (.same _) (.cons (.same _) (.cons (.same _) (.cons (.same _) (.cons (.same _) (.cons (.same _) (.cons (.same _) (.cons (.same _) (.cons (.same _) (.cons (.same _) (.cons (.same _) (.cons (.same _) (.cons (.same _) (.cons .acc .nil))))))))))))))))))))))) (ret_one1 (t := 6) (os := _) rfl rfl ?_ rfl ?_ rfl)) <;> first | rfl | (rw [hT]; done) | (rw [hT]; rfl)
set_option maxRecDepth 20000 in
theorem intsD_spec (s : List Int) (hb : BytesOK s) (hs : s.length ≤ 200) (n : Nat) (hn : n ≤ 100) (mo : Int) (h0 : 0 ≤ mo) (h1 : mo ≤ 100) (k : Nat) (hk : k ≤ 200) : FSpec PP 52 [.ptr 0 0, di ↑n, di mo] (dice s k) (dl (inV s (mo + 1) n k).1) (dice s (inV s (mo + 1) n k).2) := by
 refine spec_at cIntsD Tryz.func52 rfl (by kernel_rfl) (by first | decide | simp) _ (by dsimp only [Tryz.f52, List.length, Nat.reduceAdd, Nat.reduceSub, List.replicate, List.cons_append, List.nil_append]) ?_
 refine at_seq [0] [1] rfl ?_
 refine at_region rfl ?_
 refine at_c 6 rfl rfl rfl (.inr rfl) ?_
 refine at_end rfl ?_
 refine at_seq [1, 0] [1, 1] rfl ?_
 refine at_region rfl ?_
 refine at_opS (some 7) rfl rfl rfl rfl (op_nilOwn (.inl rfl) 1 1 (by simp) (by decide)) (by dsimp only [putD, List.set]) (by dsimp only [List.set, List.append, List.cons_append, List.nil_append, cellsD, List.map, repl, List.length, Nat.reduceAdd, if_true, ↓reduceIte]; first | done | rfl) ?_
 refine at_end rfl ?_
 refine at_seq [1, 1, 0] [1, 1, 1] rfl ?_
 refine at_seq [1, 1, 0, 0] [1, 1, 0, 1] rfl ?_
 refine at_region rfl ?_
 refine at_c 8 rfl rfl rfl (.inr rfl) ?_
 refine at_end rfl ?_
 refine at_block [1, 1, 0, 1, 0] 0 rfl ?_
 refine at_loop [1, 1, 0, 1, 0, 0] rfl ?_
 try simp only [List.length_map, List.length_nil, Int.toNat_natCast]
 exact run_wk (.keep (.keep (.keep (.d4 (.keep (.keep (.d4 (.d4 (.d4 (.drop .nil)))))))))) (intsD_loop s hb hs n hn mo h0 h1 _ _ 0 k [] rfl (by omega) hk rfl (by simp))
theorem ints_ex (s : List Int) (hb : BytesOK s) (hs : s.length ≤ 200) (n : Nat) (hn : n ≤ 100) (mo : Int) (h0 : 0 ≤ mo) (h1 : mo ≤ 100) (k : Nat) (hk : k ≤ 200) : ∃ (l : List Int) (k' : Nat), l.length = n ∧ (∀ x ∈ l, 0 ≤ x ∧ x ≤ mo) ∧ k' ≤ 200 ∧ FSpec PP 52 [.ptr 0 0, di ↑n, di mo] (dice s k) (dl l) (dice s k') := by
 obtain ⟨a, b, c⟩ := inV_ok hb hs (q := mo + 1) (by omega) n k hk
 exact ⟨_, _, a, fun x hx => by have := b x hx; omega, c, intsD_spec s hb hs n hn mo h0 h1 k hk⟩
noncomputable def cCfg28 : Code := Tryz.f53.body.getD .skip
set_option maxRecDepth 20000 in
theorem cfg28_loop (v : List Int) (hv : v.length ≤ 100) (T : List Int) (m : Nat) : ∀ (i : Nat) (acc : List Int), v.length - i = m → acc.length = i + 1 → T = acc ++ v.drop i → Run PP (fun env σ1 => ResOK PP Tryz.f53 env σ1 (.v (vCf T)) σ0) [.lp (sub cCfg28 [1, 1, 0, 1, 0, 0]), .blk 0, .code (sub cCfg28 [1, 1, 1])] (.undef :: (dl v) :: .undef :: .undef :: (.ptr 0 0) :: (.ptr 1 0) :: (di ↑i) :: .undef :: .undef :: .undef :: .undef :: .undef :: .undef :: .undef :: .undef :: .undef :: .undef :: .undef :: .undef :: .undef :: .undef :: .undef :: .undef :: .undef :: .undef :: .undef :: .undef :: .undef :: []) (stQ acc) := by
 induction m using Nat.strongRecOn with
 | _ m ih =>
  intro i acc hm hal hT
  refine run_lp ?_
  refine at_seq [1, 1, 0, 1, 0, 0, 0] [1, 1, 0, 1, 0, 0, 1] rfl ?_
  refine at_seq [1, 1, 0, 1, 0, 0, 0, 0] [1, 1, 0, 1, 0, 0, 0, 1] rfl ?_
  refine at_region rfl ?_
  refine at_m 6 11 rfl rfl rfl (.inl rfl) rfl ?_
  refine at_m 1 12 rfl rfl rfl (.inl rfl) rfl ?_
  first | (refine at_o 13 rfl rfl rfl rfl (op_lenL rfl fu_Sint) ?_) | (refine at_o 13 rfl rfl rfl rfl (opOK_un (op_lenL rfl fu_Sint)) ?_) | (refine at_o 13 rfl rfl rfl rfl (op_lenA rfl fu_Sint) ?_)
  simp only [List.length_map]
  refine at_o 14 rfl rfl rfl rfl (op_binI rfl rfl) ?_
  refine at_end rfl ?_
  refine at_cond [1, 1, 0, 1, 0, 0, 0, 1, 0] [1, 1, 0, 1, 0, 0, 0, 1, 1] rfl rfl (fun hc1 => ?_) (fun hc1 => ?_)
  ·skip
   have hlt : i < v.length := by simpa using hc1
   obtain ⟨x, hx⟩ := get_ex hlt
   have hx2 := idx_some (f := vi) hx
   rw [List.drop_eq_getElem_cons hlt, (List.getElem?_eq_some_iff.1 hx).2] at hT
   refine at_skip rfl ?_
   refine at_seq [1, 1, 0, 1, 0, 0, 1, 0] [1, 1, 0, 1, 0, 0, 1, 1] rfl ?_
   refine at_block [1, 1, 0, 1, 0, 0, 1, 0, 0] 1 rfl ?_
   refine at_draw mixed rfl [stQ acc, ⟨[some [di 0, .v .nils], some [di 0, .acc 1 (acc.map vN)]], [(1, 2, (acc.map vN ++ [.agg [.int .i64 x, .nils]]))]⟩, ⟨[some [di 0, .v .nils], some [di 0, .acc 1 (acc.map vN ++ [.agg [.int .i64 x, .nils]])]], [(1, 2, (acc.map vN ++ [.agg [.int .i64 x, .nils]]))]⟩] rfl ?_
   first | (refine da_q 17 rfl rfl rfl rfl (fun s hs => op_fieldP rfl ffld1_api_Value (by decide)) ?_) | (refine da_q 17 rfl rfl rfl rfl (fun s hs => op_fieldR rfl ffld1_api_Value (by decide) (by decide) rfl) ?_)
   refine da_quietW 0 (some 18) rfl rfl rfl rfl (by intro s hs; simp only [List.take_succ_cons, List.take_zero, List.mem_cons, List.not_mem_nil, or_false] at hs; rcases hs with rfl <;> exact op_loadP1 rfl fone_Sapi_Value rfl rfl) (by dsimp only [putD, List.set]) ?_
   refine da_m 1 19 rfl rfl rfl (.inl rfl) rfl ?_
   refine da_m 6 20 rfl rfl rfl (.inl rfl) rfl ?_
   first | (refine da_q 21 rfl rfl rfl rfl (fun s hs => op_idxL rfl fsl_Sint (by first | decide | omega) (by first | assumption | exact idx_some (by assumption) | rfl) (by first | rfl | (simp [V.size]; done))) ?_) | (refine da_q 21 rfl rfl rfl rfl (fun s hs => opOK_un (op_idxL rfl fsl_Sint (by first | decide | omega) (by first | assumption | exact idx_some (by assumption) | rfl) (by first | rfl | (simp [V.size]; done)))) ?_) | (refine da_q 21 rfl rfl rfl rfl (fun s hs => op_idxA rfl fsl_Sint (by first | decide | omega) (by first | decide | omega)) ?_)
   first | (refine da_q 22 rfl rfl rfl rfl (fun s hs => op_loadR1 rfl fone_int rfl) ?_) | (refine da_q 22 rfl rfl rfl rfl (by intro s hs; simp only [List.mem_cons, List.not_mem_nil, or_false] at hs; rcases hs with rfl | rfl | rfl <;> exact op_loadP1 rfl fone_int rfl rfl) ?_)
   refine da_q 23 rfl rfl rfl rfl (fun s hs => op_buildN rfl fbldN_api_Value rfl rfl) ?_
   try dsimp only [V.cellsV, List.take, List.drop, List.cons_append, List.nil_append, List.length]
   refine da_q 24 rfl rfl rfl rfl (fun s hs => op_buildSlice rfl (by rfl) (by rfl) fsl_Sapi_Value rfl rfl (by simp [V.size]) (by decide) (by decide) (by decide)) ?_
   refine da_eff (some 25) rfl rfl rfl rfl rfl rfl (op_append rfl fsl_Sapi_Value rfl (by simp) (by simp [V.size]) (by simp; omega) (by simp; omega)) (by dsimp only [putD, List.set]) ?_
   first | (refine da_q 26 rfl rfl rfl rfl (fun s hs => op_fieldP rfl ffld1_api_Value (by decide)) ?_) | (refine da_q 26 rfl rfl rfl rfl (fun s hs => op_fieldR rfl ffld1_api_Value (by decide) (by decide) rfl) ?_)
   refine da_st1 26 (.tmp 25) rfl rfl rfl rfl rfl rfl rfl (ev_tmp rfl) rfl fone_Sapi_Value rfl (by first | decide | simp | (simp; omega)) (by first | rfl | (dsimp only [List.set, List.append, List.cons_append, List.nil_append, cellsD, List.map, repl, List.length, Nat.reduceAdd, if_true, ↓reduceIte]; first | done | rfl)) ?_
   refine da_end rfl ⟨by decide +kernel, _, rfl, ?_⟩
   rw [show (acc.map vN ++ [.agg [.int .i64 x, .nils]]) = (acc ++ [x]).map vN by simp]
   refine run_blk ?_
   refine at_region rfl ?_
   refine at_m 6 15 rfl rfl rfl (.inl rfl) rfl ?_
   refine at_o 16 rfl rfl rfl rfl (op_binI rfl rfl) ?_
   rw [wrap_succ (by omega)]
   refine at_m 16 6 rfl rfl rfl (.inr rfl) rfl ?_
   refine at_end rfl ?_
   exact run_wk (.drop (.keep (.drop (.drop (.keep (.keep (.keep (.d16 (.d4 (.drop .nil)))))))))) (ih _ (by omega) (i + 1) (acc ++ [x]) rfl (by simp; omega) (by rw [hT]; simp))
  ·skip
   have hge : v.length ≤ i := by simpa using hc1
   rw [List.drop_of_length_le hge, List.append_nil] at hT
   subst hT
   refine at_exit rfl rfl ?_
   refine at_seq [1, 1, 1, 0] [1, 1, 1, 1] rfl ?_
   refine at_region rfl ?_
   first | (refine at_o 27 rfl rfl rfl rfl (op_loadRA rfl fagg_api_Value) ?_) | (refine at_o 27 rfl rfl rfl rfl (op_loadPA rfl fagg_api_Value rfl (by first | decide | simp) rfl) ?_)
   refine at_stA 4 (.tmp 27) rfl rfl rfl rfl rfl (ev_tmp rfl) rfl fagg_api_Value rfl rfl (by first | decide | simp | (simp; omega)) (by dsimp only [List.set, List.append, List.cons_append, List.nil_append, cellsD, List.map, repl, List.length, Nat.reduceAdd, if_true, ↓reduceIte]; first | done | rfl) ?_
   refine at_end rfl ?_
   exact at_ret rfl (res_ok (ds := [.v (vCf T)]) (.cellA rfl rfl fagg_api_Value (by simp) rfl .nil) rfl 0 rfl (by simp) (fun i cs h => by simp at h) (List.nil_sublist _) rfl)
set_option maxRecDepth 20000 in
theorem cfg28_spec (st : Int) (v : List Int) (hv : v.length ≤ 100) : FSpec PP 53 [di st, dl v] σ0 (.v (vCf (st :: v))) σ0 := by
 refine spec_at cCfg28 Tryz.func53 rfl (by kernel_rfl) (by first | decide | simp) _ (by dsimp only [Tryz.f53, List.length, Nat.reduceAdd, Nat.reduceSub, List.replicate, List.cons_append, List.nil_append]) ?_
 refine at_seq [0] [1] rfl ?_
 refine at_region rfl ?_
 refine at_opS (some 4) rfl rfl rfl rfl (op_allocN rfl fzeroN_api_Value) (by dsimp only [putD, List.set]) (by dsimp only [List.set, List.append, List.cons_append, List.nil_append, cellsD, List.map, repl, List.length, Nat.reduceAdd, if_true, ↓reduceIte]; first | done | rfl) ?_
 refine at_end rfl ?_
 refine at_seq [1, 0] [1, 1] rfl ?_
 refine at_region rfl ?_
 refine at_m 0 7 rfl rfl rfl (.inl rfl) rfl ?_
 refine at_o 8 rfl rfl rfl rfl (op_buildN rfl fbldN_api_Value rfl rfl) ?_
 try dsimp only [V.cellsV, List.take, List.drop, List.cons_append, List.nil_append, List.length]
 refine at_opS (some 9) rfl rfl rfl rfl (op_buildSliceA rfl (by rfl) (by rfl) fsl_Sapi_Value rfl rfl (by simp [V.size]) (by decide) (by decide) (by decide) 1 (by simp)) (by dsimp only [putD, List.set]) (by dsimp only [List.set, List.append, List.cons_append, List.nil_append, cellsD, List.map, repl, List.length, Nat.reduceAdd, if_true, ↓reduceIte]; first | done | rfl) ?_
 refine at_o 10 rfl rfl rfl rfl (op_buildKids rfl) ?_
 try dsimp only [V.cellsV, List.take, List.drop, List.cons_append, List.nil_append, List.length]
 refine at_opS (some 5) rfl rfl rfl rfl (op_allocN rfl fzeroN_api_Value) (by dsimp only [putD, List.set]) (by dsimp only [List.set, List.append, List.cons_append, List.nil_append, cellsD, List.map, repl, List.length, Nat.reduceAdd, if_true, ↓reduceIte]; first | done | rfl) ?_
 refine at_stA 5 (.tmp 10) rfl rfl rfl rfl rfl (ev_tmp rfl) rfl fagg_api_Value rfl rfl (by first | decide | simp | (simp; omega)) (by dsimp only [List.set, List.append, List.cons_append, List.nil_append, cellsD, List.map, repl, List.length, Nat.reduceAdd, if_true, ↓reduceIte]; first | done | rfl) ?_
 refine at_end rfl ?_
 refine at_seq [1, 1, 0] [1, 1, 1] rfl ?_
 refine at_seq [1, 1, 0, 0] [1, 1, 0, 1] rfl ?_
 refine at_region rfl ?_
 refine at_c 6 rfl rfl rfl (.inr rfl) ?_
 refine at_end rfl ?_
 refine at_block [1, 1, 0, 1, 0] 0 rfl ?_
 refine at_loop [1, 1, 0, 1, 0, 0] rfl ?_
 try simp only [List.length_map, List.length_nil, Int.toNat_natCast]
 exact run_wk (.drop (.keep (.drop (.drop (.keep (.keep (.keep (.d16 (.d4 (.drop .nil)))))))))) (cfg28_loop v hv _ _ 0 [st] rfl rfl (by simp))
end Go.Proofs.YtmdipbhjhkckjaaGreat

namespace Go.Proofs.YtmdipbhjhkckjaaGreat
open Go.Dv
abbrev pickF : FuncId := 36
abbrev intsF : FuncId := 52
theorem slice2 {n m : Nat} (h : m ≤ n) : sliceI n none (some (m : Int)) = some (0, m) := by
 unfold sliceI
 simp only [Option.getD_some, Option.getD_none]
 rw [if_pos (by omega)]; simp
noncomputable def cCounter : Code := Tryz.f25.body.getD .skip
set_option maxRecDepth 20000 in
theorem counter1 (s : List Int) (k0 k1 p00 p01 p02 p03 p04 p10 p11 p12 ns np : Nat) (a b cz c0 f0 t0 : Int) (n0 g0 st : List Int) (hA : FSpec PP pickF [.ptr 0 0, di 2] (dice s k0) (di a) (dice s k1)) (ha : 1 + a = (ns : Int)) (ha2 : ns ≤ 2) (ha1 : 1 ≤ ns) (hB : FSpec PP pickF [.ptr 0 0, di 2] (dice s k1) (di b) (dice s p00)) (hb : 1 + b = (np : Int)) (hb2 : np ≤ 2) (hb1 : 1 ≤ np) (hC0 : FSpec PP pickF [.ptr 0 0, di 3] (dice s p00) (di c0) (dice s p01)) (hc0 : 0 < 1 + c0 ∧ c0 ≤ 2) (hF0 : FSpec PP pickF [.ptr 0 0, di ↑ns] (dice s p01) (di f0) (dice s p02)) (hT0 : FSpec PP pickF [.ptr 0 0, di ↑ns] (dice s p02) (di t0) (dice s p03)) (hN0 : FSpec PP intsF [.ptr 0 0, di ↑np, di 2] (dice s p03) (dl n0) (dice s p04)) (hG0 : FSpec PP intsF [.ptr 0 0, di ↑np, di 2] (dice s p04) (dl g0) (dice s p10)) (hCz : FSpec PP pickF [.ptr 0 0, di 3] (dice s p10) (di cz) (dice s p11)) (hcz : ¬ 1 < 1 + cz ∧ 0 ≤ cz ∧ cz ≤ 2) (hS : FSpec PP intsF [.ptr 0 0, di ↑np, di 3] (dice s p11) (dl st) (dice s p12)) (hSl : st.length = np) : FSpec PP 25 [.ptr 0 0, db false] (dice s k0) (.dagg [di 1, .v (vNm (nmS.take ns)), .v (vNm (nmP.take np)), .v .nils, .v .nils, di 0, di 0, .gro 4 1 14, di 0, .v (vK (0 :: st))]) ⟨[some [.v (.list (s.map vu)), .v (.int .i64 ((p12 : Nat) : Int))], none, none, none, some (flatV [vRl (⟨[114], f0, t0, n0, g0⟩ : Rl)])], []⟩ := by
 have hSl2 : (nmS.take ns).length = ns := by simp [nmS]; omega
 have hPl2 : (nmP.take np).length = np := by simp [nmP]; omega
 refine spec_at cCounter Tryz.func25 rfl (by kernel_rfl) (by first | decide | simp) _ (by dsimp only [Tryz.f25, List.length, Nat.reduceAdd, Nat.reduceSub, List.replicate, List.cons_append, List.nil_append]) ?_
 refine at_seq [0] [1] rfl ?_
 refine at_region rfl ?_
 refine at_opS (some 4) rfl rfl rfl rfl (op_allocN rfl fzeroN_api_Model) (by dsimp only [putD, List.set]) (by dsimp only [List.set, List.append, List.cons_append, List.nil_append, cellsD, List.map, repl, List.length, Nat.reduceAdd, if_true, ↓reduceIte]; first | done | rfl) ?_
 refine at_end rfl ?_
 refine at_seq [1, 0] [1, 1] rfl ?_
 refine at_draw2 mixed rfl 11 [⟨[some [.v (.list (s.map vu)), .v (.int .i64 ((k0 : Nat) : Int))], some [di 0, .v .nils, .v .nils, .v .nils, .v .nils, di 0, di 0, .v .nils, di 0, .v .nils]], []⟩, ⟨[some [.v (.list (s.map vu)), .v (.int .i64 ((k1 : Nat) : Int))], some [di 0, .v .nils, .v .nils, .v .nils, .v .nils, di 0, di 0, .v .nils, di 0, .v .nils]], []⟩, ⟨[some [.v (.list (s.map vu)), .v (.int .i64 ((p00 : Nat) : Int))], some [di 0, .v .nils, .v .nils, .v .nils, .v .nils, di 0, di 0, .v .nils, di 0, .v .nils]], []⟩] [⟨[some [.v (.list (s.map vu)), .v (.int .i64 ((k0 : Nat) : Int))], some [di 0, .v .nils, .v .nils, .v .nils, .v .nils, di 0, di 0, .v .nils, di 0, .v .nils], some [di 0, .v .nils, .v .nils, .v .nils, .v .nils, di 0, di 0, .v .nils, di 0, .v .nils]], []⟩, ⟨[some [.v (.list (s.map vu)), .v (.int .i64 ((k1 : Nat) : Int))], some [di 0, .v .nils, .v .nils, .v .nils, .v .nils, di 0, di 0, .v .nils, di 0, .v .nils], some [di 0, .v .nils, .v .nils, .v .nils, .v .nils, di 0, di 0, .v .nils, di 0, .v .nils]], []⟩, ⟨[some [.v (.list (s.map vu)), .v (.int .i64 ((p00 : Nat) : Int))], some [di 0, .v .nils, .v .nils, .v .nils, .v .nils, di 0, di 0, .v .nils, di 0, .v .nils], some [di 0, .v .nils, .v .nils, .v .nils, .v .nils, di 0, di 0, .v .nils, di 0, .v .nils]], []⟩, ⟨[some [.v (.list (s.map vu)), .v (.int .i64 ((p00 : Nat) : Int))], some [di 0, .v .nils, .v .nils, .v .nils, .v .nils, di 0, di 0, .v .nils, di 0, .v .nils], some [di 1, .v (vNm (nmS.take ns)), .v (vNm (nmP.take np)), .v .nils, .v .nils, di 0, di 0, .v .nils, di 0, .v .nils]], []⟩] (by decide +kernel) rfl ?_
 refine da_quiet2 (some 10) rfl rfl rfl rfl (fun s hs => op_buildSlice rfl (by rfl) (by rfl) fsl_Sstring rfl (xs := nmS.map V.str) rfl (by simp [V.size]) (by decide) (by decide) (by decide)) (by dsimp only [putD, List.set]) ?_
 refine da_m 0 11 rfl rfl rfl (.inl rfl) rfl ?_
 refine da_eff2 (some 12) rfl rfl rfl rfl rfl rfl rfl rfl (op_call1 rfl rfl rfl rfl rfl (.ptr (.pl rfl .nil)) rfl hA) (op_call1 rfl rfl rfl rfl rfl (.ptr (.pl rfl .nil)) rfl hA) (by dsimp only [putD, List.set]) ?_
 refine da_quiet2 (some 13) rfl rfl rfl rfl (fun s hs => op_binI rfl rfl) (by dsimp only [putD, List.set]) ?_
 rw [wrap_id (by omega) (by omega), ha]
 refine da_quiet2 (some 14) rfl rfl rfl rfl (fun s hs => op_sliceL rfl fsl_Sstring (by simp [V.size]) (by decide) none (some (_, _)) rfl rfl (l' := 0) (h' := ns) (slice2 ha2)) (by dsimp only [putD, List.set]) ?_
 rw [List.drop_zero, ← List.map_take]
 refine da_quiet2 (some 15) rfl rfl rfl rfl (fun s hs => op_buildSlice rfl (by rfl) (by rfl) fsl_Sstring rfl (xs := nmP.map V.str) rfl (by simp [V.size]) (by decide) (by decide) (by decide)) (by dsimp only [putD, List.set]) ?_
 refine da_m 0 16 rfl rfl rfl (.inl rfl) rfl ?_
 refine da_eff2 (some 17) rfl rfl rfl rfl rfl rfl rfl rfl (op_call1 rfl rfl rfl rfl rfl (.ptr (.pl rfl .nil)) rfl hB) (op_call1 rfl rfl rfl rfl rfl (.ptr (.pl rfl .nil)) rfl hB) (by dsimp only [putD, List.set]) ?_
 refine da_quiet2 (some 18) rfl rfl rfl rfl (fun s hs => op_binI rfl rfl) (by dsimp only [putD, List.set]) ?_
 rw [wrap_id (by omega) (by omega), hb]
 refine da_quiet2 (some 19) rfl rfl rfl rfl (fun s hs => op_sliceL rfl fsl_Sstring (by simp [V.size]) (by decide) none (some (_, _)) rfl rfl (l' := 0) (h' := np) (slice2 hb2)) (by dsimp only [putD, List.set]) ?_
 rw [List.drop_zero, ← List.map_take]
 refine da_quiet2 (some 20) rfl rfl rfl rfl (fun s hs => op_buildN rfl fbldN_api_Model rfl rfl) (by dsimp only [putD, List.set]) ?_
 try dsimp only [V.cellsV, List.take, List.drop, List.cons_append, List.nil_append, List.length]
 refine da_free (some 5) rfl rfl rfl rfl (by simp) (by intro x hx; simp only [List.zip_cons_cons, List.zip_nil_left, List.zip_nil_right, List.mem_cons, List.not_mem_nil, or_false] at hx; rcases hx with rfl | rfl | rfl <;> exact op_allocN rfl fzeroN_api_Model) (by dsimp only [putD, List.set]) ?_
 refine da_effT none rfl rfl rfl rfl rfl rfl (by decide +kernel) (op_store rfl rfl fagg_api_Model rfl (q := 2) (off := 0) (cs := [di 0, .v .nils, .v .nils, .v .nils, .v .nils, di 0, di 0, .v .nils, di 0, .v .nils]) rfl (by simp)) (by dsimp only [putD, List.set]) ?_
 refine da_end rfl ⟨by decide +kernel, _, rfl, ?_⟩
 refine at_seq [1, 1, 0] [1, 1, 1] rfl ?_
 refine at_region rfl ?_
 first | (refine at_o 21 rfl rfl rfl rfl (op_fieldP rfl ffld2_api_Model (by decide)) ?_) | (refine at_o 21 rfl rfl rfl rfl (op_fieldR rfl ffld2_api_Model (by decide) (by decide) rfl) ?_)
 first | (refine at_o 22 rfl rfl rfl rfl (op_loadR1 rfl fone_Sstring rfl) ?_) | (refine at_o 22 rfl rfl rfl rfl (op_loadP1 rfl fone_Sstring rfl rfl) ?_)
 first | (refine at_o 23 rfl rfl rfl rfl (op_lenL rfl fu_Sstring) ?_) | (refine at_o 23 rfl rfl rfl rfl (opOK_un (op_lenL rfl fu_Sstring)) ?_) | (refine at_o 23 rfl rfl rfl rfl (op_lenA rfl fu_Sstring) ?_)
 simp only [List.length_map, hPl2]
 refine at_m 23 6 rfl rfl rfl (.inr rfl) rfl ?_
 refine at_end rfl ?_
 refine at_seq [1, 1, 1, 0] [1, 1, 1, 1] rfl ?_
 refine at_seq [1, 1, 1, 0, 0] [1, 1, 1, 0, 1] rfl ?_
 refine at_region rfl ?_
 refine at_c 7 rfl rfl rfl (.inr rfl) ?_
 refine at_end rfl ?_
 refine at_block [1, 1, 1, 0, 1, 0] 0 rfl ?_
 refine at_loop [1, 1, 1, 0, 1, 0, 0] rfl ?_
 try simp only [List.length_map, List.length_nil, Int.toNat_natCast]
 refine run_lp ?_
 refine at_seq [1, 1, 1, 0, 1, 0, 0, 0] [1, 1, 1, 0, 1, 0, 0, 1] rfl ?_
 refine at_seq [1, 1, 1, 0, 1, 0, 0, 0, 0] [1, 1, 1, 0, 1, 0, 0, 0, 1] rfl ?_
 refine at_region rfl ?_
 refine at_m 7 24 rfl rfl rfl (.inl rfl) rfl ?_
 refine at_m 0 25 rfl rfl rfl (.inl rfl) rfl ?_
 refine at_opS (some 26) rfl rfl rfl rfl (op_call1 rfl rfl rfl rfl rfl (.ptr (.pl rfl .nil)) rfl hC0) (by dsimp only [putD, List.set]) (by dsimp only [List.set, List.append, List.cons_append, List.nil_append, cellsD, List.map, repl, List.length, Nat.reduceAdd, if_true, ↓reduceIte]; first | done | rfl) ?_
 refine at_o 27 rfl rfl rfl rfl (op_binI rfl rfl) ?_
 rw [wrap_id (by omega) (by omega)]
 refine at_o 28 rfl rfl rfl rfl (op_binI rfl rfl) ?_
 refine at_end rfl ?_
 refine at_cond [1, 1, 1, 0, 1, 0, 0, 0, 1, 0] [1, 1, 1, 0, 1, 0, 0, 0, 1, 1] rfl rfl (fun hc1 => ?_) (fun hc1 => ?_)
 ·skip
  refine at_skip rfl ?_
  refine at_seq [1, 1, 1, 0, 1, 0, 0, 1, 0] [1, 1, 1, 0, 1, 0, 0, 1, 1] rfl ?_
  refine at_block [1, 1, 1, 0, 1, 0, 0, 1, 0, 0] 1 rfl ?_
  refine at_seq [1, 1, 1, 0, 1, 0, 0, 1, 0, 0, 0] [1, 1, 1, 0, 1, 0, 0, 1, 0, 0, 1] rfl ?_
  refine at_draw2 mixed rfl 21 [⟨[some [.v (.list (s.map vu)), .v (.int .i64 ((p01 : Nat) : Int))], some [di 0, .v .nils, .v .nils, .v .nils, .v .nils, di 0, di 0, .v .nils, di 0, .v .nils], some [di 1, .v (vNm (nmS.take ns)), .v (vNm (nmP.take np)), .v .nils, .v .nils, di 0, di 0, .v .nils, di 0, .v .nils]], []⟩, ⟨[some [.v (.list (s.map vu)), .v (.int .i64 ((p02 : Nat) : Int))], some [di 0, .v .nils, .v .nils, .v .nils, .v .nils, di 0, di 0, .v .nils, di 0, .v .nils], some [di 1, .v (vNm (nmS.take ns)), .v (vNm (nmP.take np)), .v .nils, .v .nils, di 0, di 0, .v .nils, di 0, .v .nils]], []⟩, ⟨[some [.v (.list (s.map vu)), .v (.int .i64 ((p03 : Nat) : Int))], some [di 0, .v .nils, .v .nils, .v .nils, .v .nils, di 0, di 0, .v .nils, di 0, .v .nils], some [di 1, .v (vNm (nmS.take ns)), .v (vNm (nmP.take np)), .v .nils, .v .nils, di 0, di 0, .v .nils, di 0, .v .nils]], []⟩, ⟨[some [.v (.list (s.map vu)), .v (.int .i64 ((p04 : Nat) : Int))], some [di 0, .v .nils, .v .nils, .v .nils, .v .nils, di 0, di 0, .v .nils, di 0, .v .nils], some [di 1, .v (vNm (nmS.take ns)), .v (vNm (nmP.take np)), .v .nils, .v .nils, di 0, di 0, .v .nils, di 0, .v .nils]], []⟩, ⟨[some [.v (.list (s.map vu)), .v (.int .i64 ((p10 : Nat) : Int))], some [di 0, .v .nils, .v .nils, .v .nils, .v .nils, di 0, di 0, .v .nils, di 0, .v .nils], some [di 1, .v (vNm (nmS.take ns)), .v (vNm (nmP.take np)), .v .nils, .v .nils, di 0, di 0, .v .nils, di 0, .v .nils]], []⟩] [⟨[some [.v (.list (s.map vu)), .v (.int .i64 ((p01 : Nat) : Int))], some [di 0, .v .nils, .v .nils, .v .nils, .v .nils, di 0, di 0, .v .nils, di 0, .v .nils], some [di 1, .v (vNm (nmS.take ns)), .v (vNm (nmP.take np)), .v .nils, .v .nils, di 0, di 0, .v .nils, di 0, .v .nils], some [.v (.str []), di 0, di 0, .v .nils, .v .nils, .v .nils, di 0, di 0, di 0, .v .nils, .v .nils, .v .nils, .v .nils, di 0]], []⟩, ⟨[some [.v (.list (s.map vu)), .v (.int .i64 ((p02 : Nat) : Int))], some [di 0, .v .nils, .v .nils, .v .nils, .v .nils, di 0, di 0, .v .nils, di 0, .v .nils], some [di 1, .v (vNm (nmS.take ns)), .v (vNm (nmP.take np)), .v .nils, .v .nils, di 0, di 0, .v .nils, di 0, .v .nils], some [.v (.str []), di 0, di 0, .v .nils, .v .nils, .v .nils, di 0, di 0, di 0, .v .nils, .v .nils, .v .nils, .v .nils, di 0]], []⟩, ⟨[some [.v (.list (s.map vu)), .v (.int .i64 ((p03 : Nat) : Int))], some [di 0, .v .nils, .v .nils, .v .nils, .v .nils, di 0, di 0, .v .nils, di 0, .v .nils], some [di 1, .v (vNm (nmS.take ns)), .v (vNm (nmP.take np)), .v .nils, .v .nils, di 0, di 0, .v .nils, di 0, .v .nils], some [.v (.str []), di 0, di 0, .v .nils, .v .nils, .v .nils, di 0, di 0, di 0, .v .nils, .v .nils, .v .nils, .v .nils, di 0]], []⟩, ⟨[some [.v (.list (s.map vu)), .v (.int .i64 ((p04 : Nat) : Int))], some [di 0, .v .nils, .v .nils, .v .nils, .v .nils, di 0, di 0, .v .nils, di 0, .v .nils], some [di 1, .v (vNm (nmS.take ns)), .v (vNm (nmP.take np)), .v .nils, .v .nils, di 0, di 0, .v .nils, di 0, .v .nils], some [.v (.str []), di 0, di 0, .v .nils, .v .nils, .v .nils, di 0, di 0, di 0, .v .nils, .v .nils, .v .nils, .v .nils, di 0]], []⟩, ⟨[some [.v (.list (s.map vu)), .v (.int .i64 ((p10 : Nat) : Int))], some [di 0, .v .nils, .v .nils, .v .nils, .v .nils, di 0, di 0, .v .nils, di 0, .v .nils], some [di 1, .v (vNm (nmS.take ns)), .v (vNm (nmP.take np)), .v .nils, .v .nils, di 0, di 0, .v .nils, di 0, .v .nils], some [.v (.str []), di 0, di 0, .v .nils, .v .nils, .v .nils, di 0, di 0, di 0, .v .nils, .v .nils, .v .nils, .v .nils, di 0]], []⟩, ⟨[some [.v (.list (s.map vu)), .v (.int .i64 ((p10 : Nat) : Int))], some [di 0, .v .nils, .v .nils, .v .nils, .v .nils, di 0, di 0, .v .nils, di 0, .v .nils], some [di 1, .v (vNm (nmS.take ns)), .v (vNm (nmP.take np)), .v .nils, .v .nils, di 0, di 0, .v .nils, di 0, .v .nils], some [.v (.str [114]), di f0, di t0, .v (vl n0), .v (vl g0), .v .nils, di 0, di 0, di 0, .v .nils, .v .nils, .v .nils, .v .nils, di 0]], []⟩] (by decide +kernel) rfl ?_
  refine da_quiet2 (some 31) rfl rfl rfl rfl (fun s hs => op_buildSlice rfl (by rfl) (by rfl) fsl_Sstring rfl (xs := nmR.map V.str) rfl (by simp [V.size]) (by decide) (by decide) (by decide)) (by dsimp only [putD, List.set]) ?_
  refine da_m 7 32 rfl rfl rfl (.inl rfl) rfl ?_
  first | (refine da_quiet2 (some 33) rfl rfl rfl rfl (fun s hs => op_idxL rfl fsl_Sstring (by first | decide | omega) (by first | assumption | exact idx_some (by assumption) | rfl) (by first | rfl | (simp [V.size]; done))) (by dsimp only [putD, List.set]) ?_) | (refine da_quiet2 (some 33) rfl rfl rfl rfl (fun s hs => opOK_un (op_idxL rfl fsl_Sstring (by first | decide | omega) (by first | assumption | exact idx_some (by assumption) | rfl) (by first | rfl | (simp [V.size]; done)))) (by dsimp only [putD, List.set]) ?_) | (refine da_quiet2 (some 33) rfl rfl rfl rfl (fun s hs => op_idxA rfl fsl_Sstring (by first | decide | omega) (by first | decide | omega)) (by dsimp only [putD, List.set]) ?_)
  first | (refine da_quiet2 (some 34) rfl rfl rfl rfl (fun s hs => op_loadR1 rfl fone_string rfl) (by dsimp only [putD, List.set]) ?_) | (refine da_quiet2 (some 34) rfl rfl rfl rfl (by intro s hs; simp only [List.cons_append, List.nil_append, List.mem_cons, List.not_mem_nil, or_false] at hs; rcases hs with rfl | rfl | rfl | rfl | rfl | rfl | rfl | rfl | rfl | rfl | rfl <;> exact op_loadP1 rfl fone_string rfl rfl) (by dsimp only [putD, List.set]) ?_)
  refine da_m 0 35 rfl rfl rfl (.inl rfl) rfl ?_
  first | (refine da_quiet2 (some 36) rfl rfl rfl rfl (fun s hs => op_fieldP rfl ffld1_api_Model (by decide)) (by dsimp only [putD, List.set]) ?_) | (refine da_quiet2 (some 36) rfl rfl rfl rfl (fun s hs => op_fieldR rfl ffld1_api_Model (by decide) (by decide) rfl) (by dsimp only [putD, List.set]) ?_)
  refine da_quiet2 (some 37) rfl rfl rfl rfl (by intro s hs; simp only [List.cons_append, List.nil_append, List.mem_cons, List.not_mem_nil, or_false] at hs; rcases hs with rfl | rfl | rfl | rfl | rfl | rfl | rfl | rfl | rfl | rfl | rfl <;> exact op_loadP1 rfl fone_Sstring rfl rfl) (by dsimp only [putD, List.set]) ?_
  first | (refine da_quiet2 (some 38) rfl rfl rfl rfl (fun s hs => op_lenL rfl fu_Sstring) (by dsimp only [putD, List.set]) ?_) | (refine da_quiet2 (some 38) rfl rfl rfl rfl (fun s hs => opOK_un (op_lenL rfl fu_Sstring)) (by dsimp only [putD, List.set]) ?_) | (refine da_quiet2 (some 38) rfl rfl rfl rfl (fun s hs => op_lenA rfl fu_Sstring) (by dsimp only [putD, List.set]) ?_)
  simp only [List.length_map, hSl2]
  refine da_eff2 (some 39) rfl rfl rfl rfl rfl rfl rfl rfl (op_call1 rfl rfl rfl rfl rfl (.ptr (.pl rfl .nil)) rfl hF0) (op_call1 rfl rfl rfl rfl rfl (.ptr (.pl rfl .nil)) rfl hF0) (by dsimp only [putD, List.set]) ?_
  refine da_m 0 40 rfl rfl rfl (.inl rfl) rfl ?_
  first | (refine da_quiet2 (some 41) rfl rfl rfl rfl (fun s hs => op_fieldP rfl ffld1_api_Model (by decide)) (by dsimp only [putD, List.set]) ?_) | (refine da_quiet2 (some 41) rfl rfl rfl rfl (fun s hs => op_fieldR rfl ffld1_api_Model (by decide) (by decide) rfl) (by dsimp only [putD, List.set]) ?_)
  refine da_quiet2 (some 42) rfl rfl rfl rfl (by intro s hs; simp only [List.cons_append, List.nil_append, List.mem_cons, List.not_mem_nil, or_false] at hs; rcases hs with rfl | rfl | rfl | rfl | rfl | rfl | rfl | rfl | rfl | rfl | rfl <;> exact op_loadP1 rfl fone_Sstring rfl rfl) (by dsimp only [putD, List.set]) ?_
  first | (refine da_quiet2 (some 43) rfl rfl rfl rfl (fun s hs => op_lenL rfl fu_Sstring) (by dsimp only [putD, List.set]) ?_) | (refine da_quiet2 (some 43) rfl rfl rfl rfl (fun s hs => opOK_un (op_lenL rfl fu_Sstring)) (by dsimp only [putD, List.set]) ?_) | (refine da_quiet2 (some 43) rfl rfl rfl rfl (fun s hs => op_lenA rfl fu_Sstring) (by dsimp only [putD, List.set]) ?_)
  simp only [List.length_map, hSl2]
  refine da_eff2 (some 44) rfl rfl rfl rfl rfl rfl rfl rfl (op_call1 rfl rfl rfl rfl rfl (.ptr (.pl rfl .nil)) rfl hT0) (op_call1 rfl rfl rfl rfl rfl (.ptr (.pl rfl .nil)) rfl hT0) (by dsimp only [putD, List.set]) ?_
  refine da_m 0 45 rfl rfl rfl (.inl rfl) rfl ?_
  refine da_m 6 46 rfl rfl rfl (.inl rfl) rfl ?_
  refine da_eff2 (some 47) rfl rfl rfl rfl rfl rfl rfl rfl (op_call1 rfl rfl rfl rfl rfl (.ptr (.pl rfl (.pl rfl .nil))) rfl hN0) (op_call1 rfl rfl rfl rfl rfl (.ptr (.pl rfl (.pl rfl .nil))) rfl hN0) (by dsimp only [putD, List.set]) ?_
  refine da_m 0 48 rfl rfl rfl (.inl rfl) rfl ?_
  refine da_m 6 49 rfl rfl rfl (.inl rfl) rfl ?_
  refine da_eff2 (some 50) rfl rfl rfl rfl rfl rfl rfl rfl (op_call1 rfl rfl rfl rfl rfl (.ptr (.pl rfl (.pl rfl .nil))) rfl hG0) (op_call1 rfl rfl rfl rfl rfl (.ptr (.pl rfl (.pl rfl .nil))) rfl hG0) (by dsimp only [putD, List.set]) ?_
  refine da_quiet2 (some 51) rfl rfl rfl rfl (fun s hs => op_buildN rfl fbldN_api_Rule rfl rfl) (by dsimp only [putD, List.set]) ?_
  try dsimp only [V.cellsV, List.take, List.drop, List.cons_append, List.nil_append, List.length]
  refine da_free (some 8) rfl rfl rfl rfl (by simp) (by intro x hx; simp only [List.zip_cons_cons, List.zip_nil_left, List.zip_nil_right, List.mem_cons, List.not_mem_nil, or_false] at hx; rcases hx with rfl | rfl | rfl | rfl | rfl <;> exact op_allocN rfl fzeroN_api_Rule) (by dsimp only [putD, List.set]) ?_
  refine da_effT none rfl rfl rfl rfl rfl rfl (by decide +kernel) (op_store rfl rfl fagg_api_Rule rfl (q := 3) (off := 0) (cs := [.v (.str []), di 0, di 0, .v .nils, .v .nils, .v .nils, di 0, di 0, di 0, .v .nils, .v .nils, .v .nils, .v .nils, di 0]) rfl (by simp)) (by dsimp only [putD, List.set]) ?_
  refine da_end rfl ⟨by decide +kernel, _, rfl, ?_⟩
  refine at_seq [1, 1, 1, 0, 1, 0, 0, 1, 0, 0, 1, 0] [1, 1, 1, 0, 1, 0, 0, 1, 0, 0, 1, 1] rfl ?_
  refine at_seq [1, 1, 1, 0, 1, 0, 0, 1, 0, 0, 1, 0, 0] [1, 1, 1, 0, 1, 0, 0, 1, 0, 0, 1, 0, 1] rfl ?_
  refine at_region rfl ?_
  refine at_m 1 52 rfl rfl rfl (.inl rfl) rfl ?_
  refine at_m 52 53 rfl rfl rfl (.inl rfl) rfl ?_
  refine at_split 53 rfl (fun hb2 env' he => ?_) (fun hb2 env' he => ?_)
  ·dsimp only [List.set] at he; subst he
   exact absurd hb2 (by simp)
  ·dsimp only [List.set] at he; subst he
   refine at_opN (some 54) rfl rfl rfl (by dsimp only [putD, List.set]) ?_
   refine at_opN (some 55) rfl rfl rfl (by dsimp only [putD, List.set]) ?_
   refine at_opN (some 56) rfl rfl rfl (by dsimp only [putD, List.set]) ?_
   refine at_pkc false 53 57 rfl rfl rfl rfl rfl rfl (by dsimp only [constD]) (by dsimp only [List.set]) ?_
   refine at_end rfl ?_
   refine at_false [1, 1, 1, 0, 1, 0, 0, 1, 0, 0, 1, 0, 1, 0] [1, 1, 1, 0, 1, 0, 0, 1, 0, 0, 1, 0, 1, 1] rfl rfl ?_
   refine at_skip rfl ?_
   refine at_region rfl ?_
   first | (refine at_o 73 rfl rfl rfl rfl (op_fieldP rfl ffld7_api_Model (by decide)) ?_) | (refine at_o 73 rfl rfl rfl rfl (op_fieldR rfl ffld7_api_Model (by decide) (by decide) rfl) ?_)
   refine at_o 74 rfl rfl rfl rfl (op_loadP1 rfl fone_Sapi_Rule rfl rfl) ?_
   refine at_o 75 rfl rfl rfl rfl (op_loadPA rfl fagg_api_Rule rfl (by simp) rfl) ?_
   refine at_o 76 rfl rfl rfl rfl (op_buildSlice rfl (by rfl) (by rfl) fsl_Sapi_Rule rfl rfl (by simp [V.size]) (by decide) (by decide) (by decide)) ?_
   refine at_opS (some 77) rfl rfl rfl rfl (op_appendG0V rfl fsl_Sapi_Rule rfl (by decide) (by simp [V.size]) (by simp) (by simp) (by simp)) (by dsimp only [putD, List.set]) (by dsimp only [List.set, List.append, List.cons_append, List.nil_append, cellsD, List.map, repl, List.length, Nat.reduceAdd, if_true, ↓reduceIte]; first | done | rfl) ?_
   first | (refine at_o 78 rfl rfl rfl rfl (op_fieldP rfl ffld7_api_Model (by decide)) ?_) | (refine at_o 78 rfl rfl rfl rfl (op_fieldR rfl ffld7_api_Model (by decide) (by decide) rfl) ?_)
   refine at_st1 78 (.tmp 77) rfl rfl rfl rfl rfl (ev_tmp rfl) rfl fone_Sapi_Rule rfl (by first | decide | simp | (simp; omega)) (by dsimp only [List.set, List.append, List.cons_append, List.nil_append, cellsD, List.map, repl, List.length, Nat.reduceAdd, if_true, ↓reduceIte]; first | done | rfl) ?_
   refine at_end rfl ?_
   refine run_blk ?_
   refine at_region rfl ?_
   refine at_m 7 29 rfl rfl rfl (.inl rfl) rfl ?_
   refine at_o 30 rfl rfl rfl rfl (op_binI rfl rfl) ?_
   rw [show IntKind.i64.wrap (0 + 1) = 1 from by decide]
   refine at_m 30 7 rfl rfl rfl (.inr rfl) rfl ?_
   refine at_end rfl ?_
   refine run_lp ?_
   refine at_seq [1, 1, 1, 0, 1, 0, 0, 0] [1, 1, 1, 0, 1, 0, 0, 1] rfl ?_
   refine at_seq [1, 1, 1, 0, 1, 0, 0, 0, 0] [1, 1, 1, 0, 1, 0, 0, 0, 1] rfl ?_
   refine at_region rfl ?_
   refine at_m 7 24 rfl rfl rfl (.inl rfl) rfl ?_
   refine at_m 0 25 rfl rfl rfl (.inl rfl) rfl ?_
   refine at_opS (some 26) rfl rfl rfl rfl (op_call1 rfl rfl rfl rfl rfl (.ptr (.pl rfl .nil)) rfl hCz) (by dsimp only [putD, List.set]) (by dsimp only [List.set, List.append, List.cons_append, List.nil_append, cellsD, List.map, repl, List.length, Nat.reduceAdd, if_true, ↓reduceIte]; first | done | rfl) ?_
   refine at_o 27 rfl rfl rfl rfl (op_binI rfl rfl) ?_
   rw [wrap_id (by omega) (by omega)]
   refine at_o 28 rfl rfl rfl rfl (op_binI rfl rfl) ?_
   refine at_end rfl ?_
   refine at_cond [1, 1, 1, 0, 1, 0, 0, 0, 1, 0] [1, 1, 1, 0, 1, 0, 0, 0, 1, 1] rfl rfl (fun hc3 => ?_) (fun hc3 => ?_)
   ·skip
    exact absurd hc3 (by simp only [decide_eq_true_eq, decide_eq_false_iff_not, Bool.not_eq_true]; omega)
   ·skip
    refine at_exit rfl rfl ?_
    refine at_seq [1, 1, 1, 1, 0] [1, 1, 1, 1, 1] rfl ?_
    refine at_region rfl ?_
    refine at_m 0 79 rfl rfl rfl (.inl rfl) rfl ?_
    refine at_m 6 80 rfl rfl rfl (.inl rfl) rfl ?_
    refine at_opS (some 81) rfl rfl rfl rfl (op_call1 rfl rfl rfl rfl rfl (.ptr (.pl rfl (.pl rfl .nil))) rfl hS) (by dsimp only [putD, List.set]) (by dsimp only [List.set, List.append, List.cons_append, List.nil_append, cellsD, List.map, repl, List.length, Nat.reduceAdd, if_true, ↓reduceIte]; first | done | rfl) ?_
    refine at_o 82 rfl rfl rfl rfl (op_call0 rfl rfl rfl rfl (cfg28_spec 0 st (by omega))) ?_
    first | (refine at_o 83 rfl rfl rfl rfl (op_fieldP rfl ffld8_api_Model (by decide)) ?_) | (refine at_o 83 rfl rfl rfl rfl (op_fieldR rfl ffld8_api_Model (by decide) (by decide) rfl) ?_)
    refine at_stA 83 (.tmp 82) rfl rfl rfl rfl rfl (ev_tmp rfl) rfl fagg_api_Value rfl rfl (by first | decide | simp | (simp; omega)) (by dsimp only [List.set, List.append, List.cons_append, List.nil_append, cellsD, List.map, repl, List.length, Nat.reduceAdd, if_true, ↓reduceIte]; first | done | rfl) ?_
    refine at_end rfl ?_
    refine at_seq [1, 1, 1, 1, 1, 0] [1, 1, 1, 1, 1, 1] rfl ?_
    refine at_region rfl ?_
    refine at_o 84 rfl rfl rfl rfl (op_loadPD rfl fagg_api_Model rfl (by simp) rfl) ?_
    refine at_stA 4 (.tmp 84) rfl rfl rfl rfl rfl (ev_tmp rfl) rfl fagg_api_Model rfl rfl (by first | decide | simp | (simp; omega)) (by dsimp only [List.set, List.append, List.cons_append, List.nil_append, cellsD, List.map, repl, List.length, Nat.reduceAdd, if_true, ↓reduceIte]; first | done | rfl) ?_
    refine at_end rfl ?_
    exact at_ret rfl (res_dagg [1, 2, 3] rfl rfl rfl fagg_api_Model rfl rfl rfl (fun i cs h => by match i, h with | 0, h => (simp at h; subst h; rfl) | 1, h => (simp at h) | 2, h => (simp at h) | 3, h => (simp at h) | 4, h => (simp at h; subst h; rfl) | i + 5, h => simp at h))
 ·skip
  exact absurd hc1 (by simp only [decide_eq_true_eq, decide_eq_false_iff_not, Bool.not_eq_true]; omega)
set_option maxRecDepth 20000 in
theorem counter2 (s : List Int) (k0 k1 p00 p01 p02 p03 p04 p10 p11 p12 p13 p14 p20 p21 p22 ns np : Nat) (a b cz c0 f0 t0 c1 f1 t1 : Int) (n0 g0 n1 g1 st : List Int) (hA : FSpec PP pickF [.ptr 0 0, di 2] (dice s k0) (di a) (dice s k1)) (ha : 1 + a = (ns : Int)) (ha2 : ns ≤ 2) (ha1 : 1 ≤ ns) (hB : FSpec PP pickF [.ptr 0 0, di 2] (dice s k1) (di b) (dice s p00)) (hb : 1 + b = (np : Int)) (hb2 : np ≤ 2) (hb1 : 1 ≤ np) (hC0 : FSpec PP pickF [.ptr 0 0, di 3] (dice s p00) (di c0) (dice s p01)) (hc0 : 0 < 1 + c0 ∧ c0 ≤ 2) (hF0 : FSpec PP pickF [.ptr 0 0, di ↑ns] (dice s p01) (di f0) (dice s p02)) (hT0 : FSpec PP pickF [.ptr 0 0, di ↑ns] (dice s p02) (di t0) (dice s p03)) (hN0 : FSpec PP intsF [.ptr 0 0, di ↑np, di 2] (dice s p03) (dl n0) (dice s p04)) (hG0 : FSpec PP intsF [.ptr 0 0, di ↑np, di 2] (dice s p04) (dl g0) (dice s p10)) (hC1 : FSpec PP pickF [.ptr 0 0, di 3] (dice s p10) (di c1) (dice s p11)) (hc1 : 1 < 1 + c1 ∧ c1 ≤ 2) (hF1 : FSpec PP pickF [.ptr 0 0, di ↑ns] (dice s p11) (di f1) (dice s p12)) (hT1 : FSpec PP pickF [.ptr 0 0, di ↑ns] (dice s p12) (di t1) (dice s p13)) (hN1 : FSpec PP intsF [.ptr 0 0, di ↑np, di 2] (dice s p13) (dl n1) (dice s p14)) (hG1 : FSpec PP intsF [.ptr 0 0, di ↑np, di 2] (dice s p14) (dl g1) (dice s p20)) (hCz : FSpec PP pickF [.ptr 0 0, di 3] (dice s p20) (di cz) (dice s p21)) (hcz : ¬ 2 < 1 + cz ∧ 0 ≤ cz ∧ cz ≤ 2) (hS : FSpec PP intsF [.ptr 0 0, di ↑np, di 3] (dice s p21) (dl st) (dice s p22)) (hSl : st.length = np) : FSpec PP 25 [.ptr 0 0, db false] (dice s k0) (.dagg [di 1, .v (vNm (nmS.take ns)), .v (vNm (nmP.take np)), .v .nils, .v .nils, di 0, di 0, .gro 6 2 14, di 0, .v (vK (0 :: st))]) ⟨[some [.v (.list (s.map vu)), .v (.int .i64 ((p22 : Nat) : Int))], none, none, none, none, none, some (flatV [vRl (⟨[114], f0, t0, n0, g0⟩ : Rl)] ++ flatV [vRl (⟨[115], f1, t1, n1, g1⟩ : Rl)])], []⟩ := by
 have hSl2 : (nmS.take ns).length = ns := by simp [nmS]; omega
 have hPl2 : (nmP.take np).length = np := by simp [nmP]; omega
 refine spec_at cCounter Tryz.func25 rfl (by kernel_rfl) (by first | decide | simp) _ (by dsimp only [Tryz.f25, List.length, Nat.reduceAdd, Nat.reduceSub, List.replicate, List.cons_append, List.nil_append]) ?_
 refine at_seq [0] [1] rfl ?_
 refine at_region rfl ?_
 refine at_opS (some 4) rfl rfl rfl rfl (op_allocN rfl fzeroN_api_Model) (by dsimp only [putD, List.set]) (by dsimp only [List.set, List.append, List.cons_append, List.nil_append, cellsD, List.map, repl, List.length, Nat.reduceAdd, if_true, ↓reduceIte]; first | done | rfl) ?_
 refine at_end rfl ?_
 refine at_seq [1, 0] [1, 1] rfl ?_
 refine at_draw2 mixed rfl 11 [⟨[some [.v (.list (s.map vu)), .v (.int .i64 ((k0 : Nat) : Int))], some [di 0, .v .nils, .v .nils, .v .nils, .v .nils, di 0, di 0, .v .nils, di 0, .v .nils]], []⟩, ⟨[some [.v (.list (s.map vu)), .v (.int .i64 ((k1 : Nat) : Int))], some [di 0, .v .nils, .v .nils, .v .nils, .v .nils, di 0, di 0, .v .nils, di 0, .v .nils]], []⟩, ⟨[some [.v (.list (s.map vu)), .v (.int .i64 ((p00 : Nat) : Int))], some [di 0, .v .nils, .v .nils, .v .nils, .v .nils, di 0, di 0, .v .nils, di 0, .v .nils]], []⟩] [⟨[some [.v (.list (s.map vu)), .v (.int .i64 ((k0 : Nat) : Int))], some [di 0, .v .nils, .v .nils, .v .nils, .v .nils, di 0, di 0, .v .nils, di 0, .v .nils], some [di 0, .v .nils, .v .nils, .v .nils, .v .nils, di 0, di 0, .v .nils, di 0, .v .nils]], []⟩, ⟨[some [.v (.list (s.map vu)), .v (.int .i64 ((k1 : Nat) : Int))], some [di 0, .v .nils, .v .nils, .v .nils, .v .nils, di 0, di 0, .v .nils, di 0, .v .nils], some [di 0, .v .nils, .v .nils, .v .nils, .v .nils, di 0, di 0, .v .nils, di 0, .v .nils]], []⟩, ⟨[some [.v (.list (s.map vu)), .v (.int .i64 ((p00 : Nat) : Int))], some [di 0, .v .nils, .v .nils, .v .nils, .v .nils, di 0, di 0, .v .nils, di 0, .v .nils], some [di 0, .v .nils, .v .nils, .v .nils, .v .nils, di 0, di 0, .v .nils, di 0, .v .nils]], []⟩, ⟨[some [.v (.list (s.map vu)), .v (.int .i64 ((p00 : Nat) : Int))], some [di 0, .v .nils, .v .nils, .v .nils, .v .nils, di 0, di 0, .v .nils, di 0, .v .nils], some [di 1, .v (vNm (nmS.take ns)), .v (vNm (nmP.take np)), .v .nils, .v .nils, di 0, di 0, .v .nils, di 0, .v .nils]], []⟩] (by decide +kernel) rfl ?_
 refine da_quiet2 (some 10) rfl rfl rfl rfl (fun s hs => op_buildSlice rfl (by rfl) (by rfl) fsl_Sstring rfl (xs := nmS.map V.str) rfl (by simp [V.size]) (by decide) (by decide) (by decide)) (by dsimp only [putD, List.set]) ?_
 refine da_m 0 11 rfl rfl rfl (.inl rfl) rfl ?_
 refine da_eff2 (some 12) rfl rfl rfl rfl rfl rfl rfl rfl (op_call1 rfl rfl rfl rfl rfl (.ptr (.pl rfl .nil)) rfl hA) (op_call1 rfl rfl rfl rfl rfl (.ptr (.pl rfl .nil)) rfl hA) (by dsimp only [putD, List.set]) ?_
 refine da_quiet2 (some 13) rfl rfl rfl rfl (fun s hs => op_binI rfl rfl) (by dsimp only [putD, List.set]) ?_
 rw [wrap_id (by omega) (by omega), ha]
 refine da_quiet2 (some 14) rfl rfl rfl rfl (fun s hs => op_sliceL rfl fsl_Sstring (by simp [V.size]) (by decide) none (some (_, _)) rfl rfl (l' := 0) (h' := ns) (slice2 ha2)) (by dsimp only [putD, List.set]) ?_
 rw [List.drop_zero, ← List.map_take]
 refine da_quiet2 (some 15) rfl rfl rfl rfl (fun s hs => op_buildSlice rfl (by rfl) (by rfl) fsl_Sstring rfl (xs := nmP.map V.str) rfl (by simp [V.size]) (by decide) (by decide) (by decide)) (by dsimp only [putD, List.set]) ?_
 refine da_m 0 16 rfl rfl rfl (.inl rfl) rfl ?_
 refine da_eff2 (some 17) rfl rfl rfl rfl rfl rfl rfl rfl (op_call1 rfl rfl rfl rfl rfl (.ptr (.pl rfl .nil)) rfl hB) (op_call1 rfl rfl rfl rfl rfl (.ptr (.pl rfl .nil)) rfl hB) (by dsimp only [putD, List.set]) ?_
 refine da_quiet2 (some 18) rfl rfl rfl rfl (fun s hs => op_binI rfl rfl) (by dsimp only [putD, List.set]) ?_
 rw [wrap_id (by omega) (by omega), hb]
 refine da_quiet2 (some 19) rfl rfl rfl rfl (fun s hs => op_sliceL rfl fsl_Sstring (by simp [V.size]) (by decide) none (some (_, _)) rfl rfl (l' := 0) (h' := np) (slice2 hb2)) (by dsimp only [putD, List.set]) ?_
 rw [List.drop_zero, ← List.map_take]
 refine da_quiet2 (some 20) rfl rfl rfl rfl (fun s hs => op_buildN rfl fbldN_api_Model rfl rfl) (by dsimp only [putD, List.set]) ?_
 try dsimp only [V.cellsV, List.take, List.drop, List.cons_append, List.nil_append, List.length]
 refine da_free (some 5) rfl rfl rfl rfl (by simp) (by intro x hx; simp only [List.zip_cons_cons, List.zip_nil_left, List.zip_nil_right, List.mem_cons, List.not_mem_nil, or_false] at hx; rcases hx with rfl | rfl | rfl <;> exact op_allocN rfl fzeroN_api_Model) (by dsimp only [putD, List.set]) ?_
 refine da_effT none rfl rfl rfl rfl rfl rfl (by decide +kernel) (op_store rfl rfl fagg_api_Model rfl (q := 2) (off := 0) (cs := [di 0, .v .nils, .v .nils, .v .nils, .v .nils, di 0, di 0, .v .nils, di 0, .v .nils]) rfl (by simp)) (by dsimp only [putD, List.set]) ?_
 refine da_end rfl ⟨by decide +kernel, _, rfl, ?_⟩
 refine at_seq [1, 1, 0] [1, 1, 1] rfl ?_
 refine at_region rfl ?_
 first | (refine at_o 21 rfl rfl rfl rfl (op_fieldP rfl ffld2_api_Model (by decide)) ?_) | (refine at_o 21 rfl rfl rfl rfl (op_fieldR rfl ffld2_api_Model (by decide) (by decide) rfl) ?_)
 first | (refine at_o 22 rfl rfl rfl rfl (op_loadR1 rfl fone_Sstring rfl) ?_) | (refine at_o 22 rfl rfl rfl rfl (op_loadP1 rfl fone_Sstring rfl rfl) ?_)
 first | (refine at_o 23 rfl rfl rfl rfl (op_lenL rfl fu_Sstring) ?_) | (refine at_o 23 rfl rfl rfl rfl (opOK_un (op_lenL rfl fu_Sstring)) ?_) | (refine at_o 23 rfl rfl rfl rfl (op_lenA rfl fu_Sstring) ?_)
 simp only [List.length_map, hPl2]
 refine at_m 23 6 rfl rfl rfl (.inr rfl) rfl ?_
 refine at_end rfl ?_
 refine at_seq [1, 1, 1, 0] [1, 1, 1, 1] rfl ?_
 refine at_seq [1, 1, 1, 0, 0] [1, 1, 1, 0, 1] rfl ?_
 refine at_region rfl ?_
 refine at_c 7 rfl rfl rfl (.inr rfl) ?_
 refine at_end rfl ?_
 refine at_block [1, 1, 1, 0, 1, 0] 0 rfl ?_
 refine at_loop [1, 1, 1, 0, 1, 0, 0] rfl ?_
 try simp only [List.length_map, List.length_nil, Int.toNat_natCast]
 refine run_lp ?_
 refine at_seq [1, 1, 1, 0, 1, 0, 0, 0] [1, 1, 1, 0, 1, 0, 0, 1] rfl ?_
 refine at_seq [1, 1, 1, 0, 1, 0, 0, 0, 0] [1, 1, 1, 0, 1, 0, 0, 0, 1] rfl ?_
 refine at_region rfl ?_
 refine at_m 7 24 rfl rfl rfl (.inl rfl) rfl ?_
 refine at_m 0 25 rfl rfl rfl (.inl rfl) rfl ?_
 refine at_opS (some 26) rfl rfl rfl rfl (op_call1 rfl rfl rfl rfl rfl (.ptr (.pl rfl .nil)) rfl hC0) (by dsimp only [putD, List.set]) (by dsimp only [List.set, List.append, List.cons_append, List.nil_append, cellsD, List.map, repl, List.length, Nat.reduceAdd, if_true, ↓reduceIte]; first | done | rfl) ?_
 refine at_o 27 rfl rfl rfl rfl (op_binI rfl rfl) ?_
 rw [wrap_id (by omega) (by omega)]
 refine at_o 28 rfl rfl rfl rfl (op_binI rfl rfl) ?_
 refine at_end rfl ?_
 refine at_cond [1, 1, 1, 0, 1, 0, 0, 0, 1, 0] [1, 1, 1, 0, 1, 0, 0, 0, 1, 1] rfl rfl (fun hc1 => ?_) (fun hc1 => ?_)
 ·skip
  refine at_skip rfl ?_
  refine at_seq [1, 1, 1, 0, 1, 0, 0, 1, 0] [1, 1, 1, 0, 1, 0, 0, 1, 1] rfl ?_
  refine at_block [1, 1, 1, 0, 1, 0, 0, 1, 0, 0] 1 rfl ?_
  refine at_seq [1, 1, 1, 0, 1, 0, 0, 1, 0, 0, 0] [1, 1, 1, 0, 1, 0, 0, 1, 0, 0, 1] rfl ?_
  refine at_draw2 mixed rfl 21 [⟨[some [.v (.list (s.map vu)), .v (.int .i64 ((p01 : Nat) : Int))], some [di 0, .v .nils, .v .nils, .v .nils, .v .nils, di 0, di 0, .v .nils, di 0, .v .nils], some [di 1, .v (vNm (nmS.take ns)), .v (vNm (nmP.take np)), .v .nils, .v .nils, di 0, di 0, .v .nils, di 0, .v .nils]], []⟩, ⟨[some [.v (.list (s.map vu)), .v (.int .i64 ((p02 : Nat) : Int))], some [di 0, .v .nils, .v .nils, .v .nils, .v .nils, di 0, di 0, .v .nils, di 0, .v .nils], some [di 1, .v (vNm (nmS.take ns)), .v (vNm (nmP.take np)), .v .nils, .v .nils, di 0, di 0, .v .nils, di 0, .v .nils]], []⟩, ⟨[some [.v (.list (s.map vu)), .v (.int .i64 ((p03 : Nat) : Int))], some [di 0, .v .nils, .v .nils, .v .nils, .v .nils, di 0, di 0, .v .nils, di 0, .v .nils], some [di 1, .v (vNm (nmS.take ns)), .v (vNm (nmP.take np)), .v .nils, .v .nils, di 0, di 0, .v .nils, di 0, .v .nils]], []⟩, ⟨[some [.v (.list (s.map vu)), .v (.int .i64 ((p04 : Nat) : Int))], some [di 0, .v .nils, .v .nils, .v .nils, .v .nils, di 0, di 0, .v .nils, di 0, .v .nils], some [di 1, .v (vNm (nmS.take ns)), .v (vNm (nmP.take np)), .v .nils, .v .nils, di 0, di 0, .v .nils, di 0, .v .nils]], []⟩, ⟨[some [.v (.list (s.map vu)), .v (.int .i64 ((p10 : Nat) : Int))], some [di 0, .v .nils, .v .nils, .v .nils, .v .nils, di 0, di 0, .v .nils, di 0, .v .nils], some [di 1, .v (vNm (nmS.take ns)), .v (vNm (nmP.take np)), .v .nils, .v .nils, di 0, di 0, .v .nils, di 0, .v .nils]], []⟩] [⟨[some [.v (.list (s.map vu)), .v (.int .i64 ((p01 : Nat) : Int))], some [di 0, .v .nils, .v .nils, .v .nils, .v .nils, di 0, di 0, .v .nils, di 0, .v .nils], some [di 1, .v (vNm (nmS.take ns)), .v (vNm (nmP.take np)), .v .nils, .v .nils, di 0, di 0, .v .nils, di 0, .v .nils], some [.v (.str []), di 0, di 0, .v .nils, .v .nils, .v .nils, di 0, di 0, di 0, .v .nils, .v .nils, .v .nils, .v .nils, di 0]], []⟩, ⟨[some [.v (.list (s.map vu)), .v (.int .i64 ((p02 : Nat) : Int))], some [di 0, .v .nils, .v .nils, .v .nils, .v .nils, di 0, di 0, .v .nils, di 0, .v .nils], some [di 1, .v (vNm (nmS.take ns)), .v (vNm (nmP.take np)), .v .nils, .v .nils, di 0, di 0, .v .nils, di 0, .v .nils], some [.v (.str []), di 0, di 0, .v .nils, .v .nils, .v .nils, di 0, di 0, di 0, .v .nils, .v .nils, .v .nils, .v .nils, di 0]], []⟩, ⟨[some [.v (.list (s.map vu)), .v (.int .i64 ((p03 : Nat) : Int))], some [di 0, .v .nils, .v .nils, .v .nils, .v .nils, di 0, di 0, .v .nils, di 0, .v .nils], some [di 1, .v (vNm (nmS.take ns)), .v (vNm (nmP.take np)), .v .nils, .v .nils, di 0, di 0, .v .nils, di 0, .v .nils], some [.v (.str []), di 0, di 0, .v .nils, .v .nils, .v .nils, di 0, di 0, di 0, .v .nils, .v .nils, .v .nils, .v .nils, di 0]], []⟩, ⟨[some [.v (.list (s.map vu)), .v (.int .i64 ((p04 : Nat) : Int))], some [di 0, .v .nils, .v .nils, .v .nils, .v .nils, di 0, di 0, .v .nils, di 0, .v .nils], some [di 1, .v (vNm (nmS.take ns)), .v (vNm (nmP.take np)), .v .nils, .v .nils, di 0, di 0, .v .nils, di 0, .v .nils], some [.v (.str []), di 0, di 0, .v .nils, .v .nils, .v .nils, di 0, di 0, di 0, .v .nils, .v .nils, .v .nils, .v .nils, di 0]], []⟩, ⟨[some [.v (.list (s.map vu)), .v (.int .i64 ((p10 : Nat) : Int))], some [di 0, .v .nils, .v .nils, .v .nils, .v .nils, di 0, di 0, .v .nils, di 0, .v .nils], some [di 1, .v (vNm (nmS.take ns)), .v (vNm (nmP.take np)), .v .nils, .v .nils, di 0, di 0, .v .nils, di 0, .v .nils], some [.v (.str []), di 0, di 0, .v .nils, .v .nils, .v .nils, di 0, di 0, di 0, .v .nils, .v .nils, .v .nils, .v .nils, di 0]], []⟩, ⟨[some [.v (.list (s.map vu)), .v (.int .i64 ((p10 : Nat) : Int))], some [di 0, .v .nils, .v .nils, .v .nils, .v .nils, di 0, di 0, .v .nils, di 0, .v .nils], some [di 1, .v (vNm (nmS.take ns)), .v (vNm (nmP.take np)), .v .nils, .v .nils, di 0, di 0, .v .nils, di 0, .v .nils], some [.v (.str [114]), di f0, di t0, .v (vl n0), .v (vl g0), .v .nils, di 0, di 0, di 0, .v .nils, .v .nils, .v .nils, .v .nils, di 0]], []⟩] (by decide +kernel) rfl ?_
  refine da_quiet2 (some 31) rfl rfl rfl rfl (fun s hs => op_buildSlice rfl (by rfl) (by rfl) fsl_Sstring rfl (xs := nmR.map V.str) rfl (by simp [V.size]) (by decide) (by decide) (by decide)) (by dsimp only [putD, List.set]) ?_
  refine da_m 7 32 rfl rfl rfl (.inl rfl) rfl ?_
  first | (refine da_quiet2 (some 33) rfl rfl rfl rfl (fun s hs => op_idxL rfl fsl_Sstring (by first | decide | omega) (by first | assumption | exact idx_some (by assumption) | rfl) (by first | rfl | (simp [V.size]; done))) (by dsimp only [putD, List.set]) ?_) | (refine da_quiet2 (some 33) rfl rfl rfl rfl (fun s hs => opOK_un (op_idxL rfl fsl_Sstring (by first | decide | omega) (by first | assumption | exact idx_some (by assumption) | rfl) (by first | rfl | (simp [V.size]; done)))) (by dsimp only [putD, List.set]) ?_) | (refine da_quiet2 (some 33) rfl rfl rfl rfl (fun s hs => op_idxA rfl fsl_Sstring (by first | decide | omega) (by first | decide | omega)) (by dsimp only [putD, List.set]) ?_)
  first | (refine da_quiet2 (some 34) rfl rfl rfl rfl (fun s hs => op_loadR1 rfl fone_string rfl) (by dsimp only [putD, List.set]) ?_) | (refine da_quiet2 (some 34) rfl rfl rfl rfl (by intro s hs; simp only [List.cons_append, List.nil_append, List.mem_cons, List.not_mem_nil, or_false] at hs; rcases hs with rfl | rfl | rfl | rfl | rfl | rfl | rfl | rfl | rfl | rfl | rfl <;> exact op_loadP1 rfl fone_string rfl rfl) (by dsimp only [putD, List.set]) ?_)
  refine da_m 0 35 rfl rfl rfl (.inl rfl) rfl ?_
  first | (refine da_quiet2 (some 36) rfl rfl rfl rfl (fun s hs => op_fieldP rfl ffld1_api_Model (by decide)) (by dsimp only [putD, List.set]) ?_) | (refine da_quiet2 (some 36) rfl rfl rfl rfl (fun s hs => op_fieldR rfl ffld1_api_Model (by decide) (by decide) rfl) (by dsimp only [putD, List.set]) ?_)
  refine da_quiet2 (some 37) rfl rfl rfl rfl (by intro s hs; simp only [List.cons_append, List.nil_append, List.mem_cons, List.not_mem_nil, or_false] at hs; rcases hs with rfl | rfl | rfl | rfl | rfl | rfl | rfl | rfl | rfl | rfl | rfl <;> exact op_loadP1 rfl fone_Sstring rfl rfl) (by dsimp only [putD, List.set]) ?_
  first | (refine da_quiet2 (some 38) rfl rfl rfl rfl (fun s hs => op_lenL rfl fu_Sstring) (by dsimp only [putD, List.set]) ?_) | (refine da_quiet2 (some 38) rfl rfl rfl rfl (fun s hs => opOK_un (op_lenL rfl fu_Sstring)) (by dsimp only [putD, List.set]) ?_) | (refine da_quiet2 (some 38) rfl rfl rfl rfl (fun s hs => op_lenA rfl fu_Sstring) (by dsimp only [putD, List.set]) ?_)
  simp only [List.length_map, hSl2]
  refine da_eff2 (some 39) rfl rfl rfl rfl rfl rfl rfl rfl (op_call1 rfl rfl rfl rfl rfl (.ptr (.pl rfl .nil)) rfl hF0) (op_call1 rfl rfl rfl rfl rfl (.ptr (.pl rfl .nil)) rfl hF0) (by dsimp only [putD, List.set]) ?_
  refine da_m 0 40 rfl rfl rfl (.inl rfl) rfl ?_
  first | (refine da_quiet2 (some 41) rfl rfl rfl rfl (fun s hs => op_fieldP rfl ffld1_api_Model (by decide)) (by dsimp only [putD, List.set]) ?_) | (refine da_quiet2 (some 41) rfl rfl rfl rfl (fun s hs => op_fieldR rfl ffld1_api_Model (by decide) (by decide) rfl) (by dsimp only [putD, List.set]) ?_)
  refine da_quiet2 (some 42) rfl rfl rfl rfl (by intro s hs; simp only [List.cons_append, List.nil_append, List.mem_cons, List.not_mem_nil, or_false] at hs; rcases hs with rfl | rfl | rfl | rfl | rfl | rfl | rfl | rfl | rfl | rfl | rfl <;> exact op_loadP1 rfl fone_Sstring rfl rfl) (by dsimp only [putD, List.set]) ?_
  first | (refine da_quiet2 (some 43) rfl rfl rfl rfl (fun s hs => op_lenL rfl fu_Sstring) (by dsimp only [putD, List.set]) ?_) | (refine da_quiet2 (some 43) rfl rfl rfl rfl (fun s hs => opOK_un (op_lenL rfl fu_Sstring)) (by dsimp only [putD, List.set]) ?_) | (refine da_quiet2 (some 43) rfl rfl rfl rfl (fun s hs => op_lenA rfl fu_Sstring) (by dsimp only [putD, List.set]) ?_)
  simp only [List.length_map, hSl2]
  refine da_eff2 (some 44) rfl rfl rfl rfl rfl rfl rfl rfl (op_call1 rfl rfl rfl rfl rfl (.ptr (.pl rfl .nil)) rfl hT0) (op_call1 rfl rfl rfl rfl rfl (.ptr (.pl rfl .nil)) rfl hT0) (by dsimp only [putD, List.set]) ?_
  refine da_m 0 45 rfl rfl rfl (.inl rfl) rfl ?_
  refine da_m 6 46 rfl rfl rfl (.inl rfl) rfl ?_
  refine da_eff2 (some 47) rfl rfl rfl rfl rfl rfl rfl rfl (op_call1 rfl rfl rfl rfl rfl (.ptr (.pl rfl (.pl rfl .nil))) rfl hN0) (op_call1 rfl rfl rfl rfl rfl (.ptr (.pl rfl (.pl rfl .nil))) rfl hN0) (by dsimp only [putD, List.set]) ?_
  refine da_m 0 48 rfl rfl rfl (.inl rfl) rfl ?_
  refine da_m 6 49 rfl rfl rfl (.inl rfl) rfl ?_
  refine da_eff2 (some 50) rfl rfl rfl rfl rfl rfl rfl rfl (op_call1 rfl rfl rfl rfl rfl (.ptr (.pl rfl (.pl rfl .nil))) rfl hG0) (op_call1 rfl rfl rfl rfl rfl (.ptr (.pl rfl (.pl rfl .nil))) rfl hG0) (by dsimp only [putD, List.set]) ?_
  refine da_quiet2 (some 51) rfl rfl rfl rfl (fun s hs => op_buildN rfl fbldN_api_Rule rfl rfl) (by dsimp only [putD, List.set]) ?_
  try dsimp only [V.cellsV, List.take, List.drop, List.cons_append, List.nil_append, List.length]
  refine da_free (some 8) rfl rfl rfl rfl (by simp) (by intro x hx; simp only [List.zip_cons_cons, List.zip_nil_left, List.zip_nil_right, List.mem_cons, List.not_mem_nil, or_false] at hx; rcases hx with rfl | rfl | rfl | rfl | rfl <;> exact op_allocN rfl fzeroN_api_Rule) (by dsimp only [putD, List.set]) ?_
  refine da_effT none rfl rfl rfl rfl rfl rfl (by decide +kernel) (op_store rfl rfl fagg_api_Rule rfl (q := 3) (off := 0) (cs := [.v (.str []), di 0, di 0, .v .nils, .v .nils, .v .nils, di 0, di 0, di 0, .v .nils, .v .nils, .v .nils, .v .nils, di 0]) rfl (by simp)) (by dsimp only [putD, List.set]) ?_
  refine da_end rfl ⟨by decide +kernel, _, rfl, ?_⟩
  refine at_seq [1, 1, 1, 0, 1, 0, 0, 1, 0, 0, 1, 0] [1, 1, 1, 0, 1, 0, 0, 1, 0, 0, 1, 1] rfl ?_
  refine at_seq [1, 1, 1, 0, 1, 0, 0, 1, 0, 0, 1, 0, 0] [1, 1, 1, 0, 1, 0, 0, 1, 0, 0, 1, 0, 1] rfl ?_
  refine at_region rfl ?_
  refine at_m 1 52 rfl rfl rfl (.inl rfl) rfl ?_
  refine at_m 52 53 rfl rfl rfl (.inl rfl) rfl ?_
  refine at_split 53 rfl (fun hb2 env' he => ?_) (fun hb2 env' he => ?_)
  ·dsimp only [List.set] at he; subst he
   exact absurd hb2 (by simp)
  ·dsimp only [List.set] at he; subst he
   refine at_opN (some 54) rfl rfl rfl (by dsimp only [putD, List.set]) ?_
   refine at_opN (some 55) rfl rfl rfl (by dsimp only [putD, List.set]) ?_
   refine at_opN (some 56) rfl rfl rfl (by dsimp only [putD, List.set]) ?_
   refine at_pkc false 53 57 rfl rfl rfl rfl rfl rfl (by dsimp only [constD]) (by dsimp only [List.set]) ?_
   refine at_end rfl ?_
   refine at_false [1, 1, 1, 0, 1, 0, 0, 1, 0, 0, 1, 0, 1, 0] [1, 1, 1, 0, 1, 0, 0, 1, 0, 0, 1, 0, 1, 1] rfl rfl ?_
   refine at_skip rfl ?_
   refine at_region rfl ?_
   first | (refine at_o 73 rfl rfl rfl rfl (op_fieldP rfl ffld7_api_Model (by decide)) ?_) | (refine at_o 73 rfl rfl rfl rfl (op_fieldR rfl ffld7_api_Model (by decide) (by decide) rfl) ?_)
   refine at_o 74 rfl rfl rfl rfl (op_loadP1 rfl fone_Sapi_Rule rfl rfl) ?_
   refine at_o 75 rfl rfl rfl rfl (op_loadPA rfl fagg_api_Rule rfl (by simp) rfl) ?_
   refine at_o 76 rfl rfl rfl rfl (op_buildSlice rfl (by rfl) (by rfl) fsl_Sapi_Rule rfl rfl (by simp [V.size]) (by decide) (by decide) (by decide)) ?_
   refine at_opS (some 77) rfl rfl rfl rfl (op_appendG0V rfl fsl_Sapi_Rule rfl (by decide) (by simp [V.size]) (by simp) (by simp) (by simp)) (by dsimp only [putD, List.set]) (by dsimp only [List.set, List.append, List.cons_append, List.nil_append, cellsD, List.map, repl, List.length, Nat.reduceAdd, if_true, ↓reduceIte]; first | done | rfl) ?_
   first | (refine at_o 78 rfl rfl rfl rfl (op_fieldP rfl ffld7_api_Model (by decide)) ?_) | (refine at_o 78 rfl rfl rfl rfl (op_fieldR rfl ffld7_api_Model (by decide) (by decide) rfl) ?_)
   refine at_st1 78 (.tmp 77) rfl rfl rfl rfl rfl (ev_tmp rfl) rfl fone_Sapi_Rule rfl (by first | decide | simp | (simp; omega)) (by dsimp only [List.set, List.append, List.cons_append, List.nil_append, cellsD, List.map, repl, List.length, Nat.reduceAdd, if_true, ↓reduceIte]; first | done | rfl) ?_
   refine at_end rfl ?_
   refine run_blk ?_
   refine at_region rfl ?_
   refine at_m 7 29 rfl rfl rfl (.inl rfl) rfl ?_
   refine at_o 30 rfl rfl rfl rfl (op_binI rfl rfl) ?_
   rw [show IntKind.i64.wrap (0 + 1) = 1 from by decide]
   refine at_m 30 7 rfl rfl rfl (.inr rfl) rfl ?_
   refine at_end rfl ?_
   refine run_lp ?_
   refine at_seq [1, 1, 1, 0, 1, 0, 0, 0] [1, 1, 1, 0, 1, 0, 0, 1] rfl ?_
   refine at_seq [1, 1, 1, 0, 1, 0, 0, 0, 0] [1, 1, 1, 0, 1, 0, 0, 0, 1] rfl ?_
   refine at_region rfl ?_
   refine at_m 7 24 rfl rfl rfl (.inl rfl) rfl ?_
   refine at_m 0 25 rfl rfl rfl (.inl rfl) rfl ?_
   refine at_opS (some 26) rfl rfl rfl rfl (op_call1 rfl rfl rfl rfl rfl (.ptr (.pl rfl .nil)) rfl hC1) (by dsimp only [putD, List.set]) (by dsimp only [List.set, List.append, List.cons_append, List.nil_append, cellsD, List.map, repl, List.length, Nat.reduceAdd, if_true, ↓reduceIte]; first | done | rfl) ?_
   refine at_o 27 rfl rfl rfl rfl (op_binI rfl rfl) ?_
   rw [wrap_id (by omega) (by omega)]
   refine at_o 28 rfl rfl rfl rfl (op_binI rfl rfl) ?_
   refine at_end rfl ?_
   refine at_cond [1, 1, 1, 0, 1, 0, 0, 0, 1, 0] [1, 1, 1, 0, 1, 0, 0, 0, 1, 1] rfl rfl (fun hc3 => ?_) (fun hc3 => ?_)
   ·skip
    refine at_skip rfl ?_
    refine at_seq [1, 1, 1, 0, 1, 0, 0, 1, 0] [1, 1, 1, 0, 1, 0, 0, 1, 1] rfl ?_
    refine at_block [1, 1, 1, 0, 1, 0, 0, 1, 0, 0] 1 rfl ?_
    refine at_seq [1, 1, 1, 0, 1, 0, 0, 1, 0, 0, 0] [1, 1, 1, 0, 1, 0, 0, 1, 0, 0, 1] rfl ?_
    refine at_draw2 mixed rfl 21 [⟨[some [.v (.list (s.map vu)), .v (.int .i64 ((p11 : Nat) : Int))], some [di 0, .v .nils, .v .nils, .v .nils, .v .nils, di 0, di 0, .v .nils, di 0, .v .nils], some [di 1, .v (vNm (nmS.take ns)), .v (vNm (nmP.take np)), .v .nils, .v .nils, di 0, di 0, .gro 4 1 14, di 0, .v .nils], some [.v (.str [114]), di f0, di t0, .v (vl n0), .v (vl g0), .v .nils, di 0, di 0, di 0, .v .nils, .v .nils, .v .nils, .v .nils, di 0], some (flatV [vRl (⟨[114], f0, t0, n0, g0⟩ : Rl)])], []⟩, ⟨[some [.v (.list (s.map vu)), .v (.int .i64 ((p12 : Nat) : Int))], some [di 0, .v .nils, .v .nils, .v .nils, .v .nils, di 0, di 0, .v .nils, di 0, .v .nils], some [di 1, .v (vNm (nmS.take ns)), .v (vNm (nmP.take np)), .v .nils, .v .nils, di 0, di 0, .gro 4 1 14, di 0, .v .nils], some [.v (.str [114]), di f0, di t0, .v (vl n0), .v (vl g0), .v .nils, di 0, di 0, di 0, .v .nils, .v .nils, .v .nils, .v .nils, di 0], some (flatV [vRl (⟨[114], f0, t0, n0, g0⟩ : Rl)])], []⟩, ⟨[some [.v (.list (s.map vu)), .v (.int .i64 ((p13 : Nat) : Int))], some [di 0, .v .nils, .v .nils, .v .nils, .v .nils, di 0, di 0, .v .nils, di 0, .v .nils], some [di 1, .v (vNm (nmS.take ns)), .v (vNm (nmP.take np)), .v .nils, .v .nils, di 0, di 0, .gro 4 1 14, di 0, .v .nils], some [.v (.str [114]), di f0, di t0, .v (vl n0), .v (vl g0), .v .nils, di 0, di 0, di 0, .v .nils, .v .nils, .v .nils, .v .nils, di 0], some (flatV [vRl (⟨[114], f0, t0, n0, g0⟩ : Rl)])], []⟩, ⟨[some [.v (.list (s.map vu)), .v (.int .i64 ((p14 : Nat) : Int))], some [di 0, .v .nils, .v .nils, .v .nils, .v .nils, di 0, di 0, .v .nils, di 0, .v .nils], some [di 1, .v (vNm (nmS.take ns)), .v (vNm (nmP.take np)), .v .nils, .v .nils, di 0, di 0, .gro 4 1 14, di 0, .v .nils], some [.v (.str [114]), di f0, di t0, .v (vl n0), .v (vl g0), .v .nils, di 0, di 0, di 0, .v .nils, .v .nils, .v .nils, .v .nils, di 0], some (flatV [vRl (⟨[114], f0, t0, n0, g0⟩ : Rl)])], []⟩, ⟨[some [.v (.list (s.map vu)), .v (.int .i64 ((p20 : Nat) : Int))], some [di 0, .v .nils, .v .nils, .v .nils, .v .nils, di 0, di 0, .v .nils, di 0, .v .nils], some [di 1, .v (vNm (nmS.take ns)), .v (vNm (nmP.take np)), .v .nils, .v .nils, di 0, di 0, .gro 4 1 14, di 0, .v .nils], some [.v (.str [114]), di f0, di t0, .v (vl n0), .v (vl g0), .v .nils, di 0, di 0, di 0, .v .nils, .v .nils, .v .nils, .v .nils, di 0], some (flatV [vRl (⟨[114], f0, t0, n0, g0⟩ : Rl)])], []⟩] [⟨[some [.v (.list (s.map vu)), .v (.int .i64 ((p11 : Nat) : Int))], some [di 0, .v .nils, .v .nils, .v .nils, .v .nils, di 0, di 0, .v .nils, di 0, .v .nils], some [di 1, .v (vNm (nmS.take ns)), .v (vNm (nmP.take np)), .v .nils, .v .nils, di 0, di 0, .gro 4 1 14, di 0, .v .nils], some [.v (.str [114]), di f0, di t0, .v (vl n0), .v (vl g0), .v .nils, di 0, di 0, di 0, .v .nils, .v .nils, .v .nils, .v .nils, di 0], some (flatV [vRl (⟨[114], f0, t0, n0, g0⟩ : Rl)]), some [.v (.str []), di 0, di 0, .v .nils, .v .nils, .v .nils, di 0, di 0, di 0, .v .nils, .v .nils, .v .nils, .v .nils, di 0]], []⟩, ⟨[some [.v (.list (s.map vu)), .v (.int .i64 ((p12 : Nat) : Int))], some [di 0, .v .nils, .v .nils, .v .nils, .v .nils, di 0, di 0, .v .nils, di 0, .v .nils], some [di 1, .v (vNm (nmS.take ns)), .v (vNm (nmP.take np)), .v .nils, .v .nils, di 0, di 0, .gro 4 1 14, di 0, .v .nils], some [.v (.str [114]), di f0, di t0, .v (vl n0), .v (vl g0), .v .nils, di 0, di 0, di 0, .v .nils, .v .nils, .v .nils, .v .nils, di 0], some (flatV [vRl (⟨[114], f0, t0, n0, g0⟩ : Rl)]), some [.v (.str []), di 0, di 0, .v .nils, .v .nils, .v .nils, di 0, di 0, di 0, .v .nils, .v .nils, .v .nils, .v .nils, di 0]], []⟩, ⟨[some [.v (.list (s.map vu)), .v (.int .i64 ((p13 : Nat) : Int))], some [di 0, .v .nils, .v .nils, .v .nils, .v .nils, di 0, di 0, .v .nils, di 0, .v .nils], some [di 1, .v (vNm (nmS.take ns)), .v (vNm (nmP.take np)), .v .nils, .v .nils, di 0, di 0, .gro 4 1 14, di 0, .v .nils], some [.v (.str [114]), di f0, di t0, .v (vl n0), .v (vl g0), .v .nils, di 0, di 0, di 0, .v .nils, .v .nils, .v .nils, .v .nils, di 0], some (flatV [vRl (⟨[114], f0, t0, n0, g0⟩ : Rl)]), some [.v (.str []), di 0, di 0, .v .nils, .v .nils, .v .nils, di 0, di 0, di 0, .v .nils, .v .nils, .v .nils, .v .nils, di 0]], []⟩, ⟨[some [.v (.list (s.map vu)), .v (.int .i64 ((p14 : Nat) : Int))], some [di 0, .v .nils, .v .nils, .v .nils, .v .nils, di 0, di 0, .v .nils, di 0, .v .nils], some [di 1, .v (vNm (nmS.take ns)), .v (vNm (nmP.take np)), .v .nils, .v .nils, di 0, di 0, .gro 4 1 14, di 0, .v .nils], some [.v (.str [114]), di f0, di t0, .v (vl n0), .v (vl g0), .v .nils, di 0, di 0, di 0, .v .nils, .v .nils, .v .nils, .v .nils, di 0], some (flatV [vRl (⟨[114], f0, t0, n0, g0⟩ : Rl)]), some [.v (.str []), di 0, di 0, .v .nils, .v .nils, .v .nils, di 0, di 0, di 0, .v .nils, .v .nils, .v .nils, .v .nils, di 0]], []⟩, ⟨[some [.v (.list (s.map vu)), .v (.int .i64 ((p20 : Nat) : Int))], some [di 0, .v .nils, .v .nils, .v .nils, .v .nils, di 0, di 0, .v .nils, di 0, .v .nils], some [di 1, .v (vNm (nmS.take ns)), .v (vNm (nmP.take np)), .v .nils, .v .nils, di 0, di 0, .gro 4 1 14, di 0, .v .nils], some [.v (.str [114]), di f0, di t0, .v (vl n0), .v (vl g0), .v .nils, di 0, di 0, di 0, .v .nils, .v .nils, .v .nils, .v .nils, di 0], some (flatV [vRl (⟨[114], f0, t0, n0, g0⟩ : Rl)]), some [.v (.str []), di 0, di 0, .v .nils, .v .nils, .v .nils, di 0, di 0, di 0, .v .nils, .v .nils, .v .nils, .v .nils, di 0]], []⟩, ⟨[some [.v (.list (s.map vu)), .v (.int .i64 ((p20 : Nat) : Int))], some [di 0, .v .nils, .v .nils, .v .nils, .v .nils, di 0, di 0, .v .nils, di 0, .v .nils], some [di 1, .v (vNm (nmS.take ns)), .v (vNm (nmP.take np)), .v .nils, .v .nils, di 0, di 0, .gro 4 1 14, di 0, .v .nils], some [.v (.str [114]), di f0, di t0, .v (vl n0), .v (vl g0), .v .nils, di 0, di 0, di 0, .v .nils, .v .nils, .v .nils, .v .nils, di 0], some (flatV [vRl (⟨[114], f0, t0, n0, g0⟩ : Rl)]), some [.v (.str [115]), di f1, di t1, .v (vl n1), .v (vl g1), .v .nils, di 0, di 0, di 0, .v .nils, .v .nils, .v .nils, .v .nils, di 0]], []⟩] (by decide +kernel) rfl ?_
    refine da_quiet2 (some 31) rfl rfl rfl rfl (fun s hs => op_buildSlice rfl (by rfl) (by rfl) fsl_Sstring rfl (xs := nmR.map V.str) rfl (by simp [V.size]) (by decide) (by decide) (by decide)) (by dsimp only [putD, List.set]) ?_
    refine da_m 7 32 rfl rfl rfl (.inl rfl) rfl ?_
    first | (refine da_quiet2 (some 33) rfl rfl rfl rfl (fun s hs => op_idxL rfl fsl_Sstring (by first | decide | omega) (by first | assumption | exact idx_some (by assumption) | rfl) (by first | rfl | (simp [V.size]; done))) (by dsimp only [putD, List.set]) ?_) | (refine da_quiet2 (some 33) rfl rfl rfl rfl (fun s hs => opOK_un (op_idxL rfl fsl_Sstring (by first | decide | omega) (by first | assumption | exact idx_some (by assumption) | rfl) (by first | rfl | (simp [V.size]; done)))) (by dsimp only [putD, List.set]) ?_) | (refine da_quiet2 (some 33) rfl rfl rfl rfl (fun s hs => op_idxA rfl fsl_Sstring (by first | decide | omega) (by first | decide | omega)) (by dsimp only [putD, List.set]) ?_)
    first | (refine da_quiet2 (some 34) rfl rfl rfl rfl (fun s hs => op_loadR1 rfl fone_string rfl) (by dsimp only [putD, List.set]) ?_) | (refine da_quiet2 (some 34) rfl rfl rfl rfl (by intro s hs; simp only [List.cons_append, List.nil_append, List.mem_cons, List.not_mem_nil, or_false] at hs; rcases hs with rfl | rfl | rfl | rfl | rfl | rfl | rfl | rfl | rfl | rfl | rfl <;> exact op_loadP1 rfl fone_string rfl rfl) (by dsimp only [putD, List.set]) ?_)
    refine da_m 0 35 rfl rfl rfl (.inl rfl) rfl ?_
    first | (refine da_quiet2 (some 36) rfl rfl rfl rfl (fun s hs => op_fieldP rfl ffld1_api_Model (by decide)) (by dsimp only [putD, List.set]) ?_) | (refine da_quiet2 (some 36) rfl rfl rfl rfl (fun s hs => op_fieldR rfl ffld1_api_Model (by decide) (by decide) rfl) (by dsimp only [putD, List.set]) ?_)
    refine da_quiet2 (some 37) rfl rfl rfl rfl (by intro s hs; simp only [List.cons_append, List.nil_append, List.mem_cons, List.not_mem_nil, or_false] at hs; rcases hs with rfl | rfl | rfl | rfl | rfl | rfl | rfl | rfl | rfl | rfl | rfl <;> exact op_loadP1 rfl fone_Sstring rfl rfl) (by dsimp only [putD, List.set]) ?_
    first | (refine da_quiet2 (some 38) rfl rfl rfl rfl (fun s hs => op_lenL rfl fu_Sstring) (by dsimp only [putD, List.set]) ?_) | (refine da_quiet2 (some 38) rfl rfl rfl rfl (fun s hs => opOK_un (op_lenL rfl fu_Sstring)) (by dsimp only [putD, List.set]) ?_) | (refine da_quiet2 (some 38) rfl rfl rfl rfl (fun s hs => op_lenA rfl fu_Sstring) (by dsimp only [putD, List.set]) ?_)
    simp only [List.length_map, hSl2]
    refine da_eff2 (some 39) rfl rfl rfl rfl rfl rfl rfl rfl (op_call1 rfl rfl rfl rfl rfl (.ptr (.pl rfl .nil)) rfl hF1) (op_call1 rfl rfl rfl rfl rfl (.ptr (.pl rfl .nil)) rfl hF1) (by dsimp only [putD, List.set]) ?_
    refine da_m 0 40 rfl rfl rfl (.inl rfl) rfl ?_
    first | (refine da_quiet2 (some 41) rfl rfl rfl rfl (fun s hs => op_fieldP rfl ffld1_api_Model (by decide)) (by dsimp only [putD, List.set]) ?_) | (refine da_quiet2 (some 41) rfl rfl rfl rfl (fun s hs => op_fieldR rfl ffld1_api_Model (by decide) (by decide) rfl) (by dsimp only [putD, List.set]) ?_)
    refine da_quiet2 (some 42) rfl rfl rfl rfl (by intro s hs; simp only [List.cons_append, List.nil_append, List.mem_cons, List.not_mem_nil, or_false] at hs; rcases hs with rfl | rfl | rfl | rfl | rfl | rfl | rfl | rfl | rfl | rfl | rfl <;> exact op_loadP1 rfl fone_Sstring rfl rfl) (by dsimp only [putD, List.set]) ?_
    first | (refine da_quiet2 (some 43) rfl rfl rfl rfl (fun s hs => op_lenL rfl fu_Sstring) (by dsimp only [putD, List.set]) ?_) | (refine da_quiet2 (some 43) rfl rfl rfl rfl (fun s hs => opOK_un (op_lenL rfl fu_Sstring)) (by dsimp only [putD, List.set]) ?_) | (refine da_quiet2 (some 43) rfl rfl rfl rfl (fun s hs => op_lenA rfl fu_Sstring) (by dsimp only [putD, List.set]) ?_)
    simp only [List.length_map, hSl2]
    refine da_eff2 (some 44) rfl rfl rfl rfl rfl rfl rfl rfl (op_call1 rfl rfl rfl rfl rfl (.ptr (.pl rfl .nil)) rfl hT1) (op_call1 rfl rfl rfl rfl rfl (.ptr (.pl rfl .nil)) rfl hT1) (by dsimp only [putD, List.set]) ?_
    refine da_m 0 45 rfl rfl rfl (.inl rfl) rfl ?_
    refine da_m 6 46 rfl rfl rfl (.inl rfl) rfl ?_
    refine da_eff2 (some 47) rfl rfl rfl rfl rfl rfl rfl rfl (op_call1 rfl rfl rfl rfl rfl (.ptr (.pl rfl (.pl rfl .nil))) rfl hN1) (op_call1 rfl rfl rfl rfl rfl (.ptr (.pl rfl (.pl rfl .nil))) rfl hN1) (by dsimp only [putD, List.set]) ?_
    refine da_m 0 48 rfl rfl rfl (.inl rfl) rfl ?_
    refine da_m 6 49 rfl rfl rfl (.inl rfl) rfl ?_
    refine da_eff2 (some 50) rfl rfl rfl rfl rfl rfl rfl rfl (op_call1 rfl rfl rfl rfl rfl (.ptr (.pl rfl (.pl rfl .nil))) rfl hG1) (op_call1 rfl rfl rfl rfl rfl (.ptr (.pl rfl (.pl rfl .nil))) rfl hG1) (by dsimp only [putD, List.set]) ?_
    refine da_quiet2 (some 51) rfl rfl rfl rfl (fun s hs => op_buildN rfl fbldN_api_Rule rfl rfl) (by dsimp only [putD, List.set]) ?_
    try dsimp only [V.cellsV, List.take, List.drop, List.cons_append, List.nil_append, List.length]
    refine da_free (some 8) rfl rfl rfl rfl (by simp) (by intro x hx; simp only [List.zip_cons_cons, List.zip_nil_left, List.zip_nil_right, List.mem_cons, List.not_mem_nil, or_false] at hx; rcases hx with rfl | rfl | rfl | rfl | rfl <;> exact op_allocN rfl fzeroN_api_Rule) (by dsimp only [putD, List.set]) ?_
    refine da_effT none rfl rfl rfl rfl rfl rfl (by decide +kernel) (op_store rfl rfl fagg_api_Rule rfl (q := 5) (off := 0) (cs := [.v (.str []), di 0, di 0, .v .nils, .v .nils, .v .nils, di 0, di 0, di 0, .v .nils, .v .nils, .v .nils, .v .nils, di 0]) rfl (by simp)) (by dsimp only [putD, List.set]) ?_
    refine da_end rfl ⟨by decide +kernel, _, rfl, ?_⟩
    refine at_seq [1, 1, 1, 0, 1, 0, 0, 1, 0, 0, 1, 0] [1, 1, 1, 0, 1, 0, 0, 1, 0, 0, 1, 1] rfl ?_
    refine at_seq [1, 1, 1, 0, 1, 0, 0, 1, 0, 0, 1, 0, 0] [1, 1, 1, 0, 1, 0, 0, 1, 0, 0, 1, 0, 1] rfl ?_
    refine at_region rfl ?_
    refine at_m 1 52 rfl rfl rfl (.inl rfl) rfl ?_
    refine at_m 52 53 rfl rfl rfl (.inl rfl) rfl ?_
    refine at_split 53 rfl (fun hb4 env' he => ?_) (fun hb4 env' he => ?_)
    ·dsimp only [List.set] at he; subst he
     exact absurd hb4 (by simp)
    ·dsimp only [List.set] at he; subst he
     refine at_opN (some 54) rfl rfl rfl (by dsimp only [putD, List.set]) ?_
     refine at_opN (some 55) rfl rfl rfl (by dsimp only [putD, List.set]) ?_
     refine at_opN (some 56) rfl rfl rfl (by dsimp only [putD, List.set]) ?_
     refine at_pkc false 53 57 rfl rfl rfl rfl rfl rfl (by dsimp only [constD]) (by dsimp only [List.set]) ?_
     refine at_end rfl ?_
     refine at_false [1, 1, 1, 0, 1, 0, 0, 1, 0, 0, 1, 0, 1, 0] [1, 1, 1, 0, 1, 0, 0, 1, 0, 0, 1, 0, 1, 1] rfl rfl ?_
     refine at_skip rfl ?_
     refine at_region rfl ?_
     first | (refine at_o 73 rfl rfl rfl rfl (op_fieldP rfl ffld7_api_Model (by decide)) ?_) | (refine at_o 73 rfl rfl rfl rfl (op_fieldR rfl ffld7_api_Model (by decide) (by decide) rfl) ?_)
     refine at_o 74 rfl rfl rfl rfl (op_loadP1 rfl fone_Sapi_Rule rfl rfl) ?_
     refine at_o 75 rfl rfl rfl rfl (op_loadPA rfl fagg_api_Rule rfl (by simp) rfl) ?_
     refine at_o 76 rfl rfl rfl rfl (op_buildSlice rfl (by rfl) (by rfl) fsl_Sapi_Rule rfl rfl (by simp [V.size]) (by decide) (by decide) (by decide)) ?_
     refine at_opS (some 77) rfl rfl rfl rfl (op_appendGV rfl fsl_Sapi_Rule rfl (by decide) rfl rfl (by simp [V.size]) (by simp) (by simp) (by simp)) (by dsimp only [putD, List.set]) (by dsimp only [List.set, List.append, List.cons_append, List.nil_append, cellsD, List.map, repl, List.length, Nat.reduceAdd, if_true, ↓reduceIte]; first | done | rfl) ?_
     first | (refine at_o 78 rfl rfl rfl rfl (op_fieldP rfl ffld7_api_Model (by decide)) ?_) | (refine at_o 78 rfl rfl rfl rfl (op_fieldR rfl ffld7_api_Model (by decide) (by decide) rfl) ?_)
     refine at_st1 78 (.tmp 77) rfl rfl rfl rfl rfl (ev_tmp rfl) rfl fone_Sapi_Rule rfl (by first | decide | simp | (simp; omega)) (by dsimp only [List.set, List.append, List.cons_append, List.nil_append, cellsD, List.map, repl, List.length, Nat.reduceAdd, if_true, ↓reduceIte]; first | done | rfl) ?_
     refine at_end rfl ?_
     refine run_blk ?_
     refine at_region rfl ?_
     refine at_m 7 29 rfl rfl rfl (.inl rfl) rfl ?_
     refine at_o 30 rfl rfl rfl rfl (op_binI rfl rfl) ?_
     rw [show IntKind.i64.wrap (1 + 1) = 2 from by decide]
     refine at_m 30 7 rfl rfl rfl (.inr rfl) rfl ?_
     refine at_end rfl ?_
     refine run_lp ?_
     refine at_seq [1, 1, 1, 0, 1, 0, 0, 0] [1, 1, 1, 0, 1, 0, 0, 1] rfl ?_
     refine at_seq [1, 1, 1, 0, 1, 0, 0, 0, 0] [1, 1, 1, 0, 1, 0, 0, 0, 1] rfl ?_
     refine at_region rfl ?_
     refine at_m 7 24 rfl rfl rfl (.inl rfl) rfl ?_
     refine at_m 0 25 rfl rfl rfl (.inl rfl) rfl ?_
     refine at_opS (some 26) rfl rfl rfl rfl (op_call1 rfl rfl rfl rfl rfl (.ptr (.pl rfl .nil)) rfl hCz) (by dsimp only [putD, List.set]) (by dsimp only [List.set, List.append, List.cons_append, List.nil_append, cellsD, List.map, repl, List.length, Nat.reduceAdd, if_true, ↓reduceIte]; first | done | rfl) ?_
     refine at_o 27 rfl rfl rfl rfl (op_binI rfl rfl) ?_
     rw [wrap_id (by omega) (by omega)]
     refine at_o 28 rfl rfl rfl rfl (op_binI rfl rfl) ?_
     refine at_end rfl ?_
     refine at_cond [1, 1, 1, 0, 1, 0, 0, 0, 1, 0] [1, 1, 1, 0, 1, 0, 0, 0, 1, 1] rfl rfl (fun hc5 => ?_) (fun hc5 => ?_)
     ·skip
      exact absurd hc5 (by simp only [decide_eq_true_eq, decide_eq_false_iff_not, Bool.not_eq_true]; omega)
     ·skip
      refine at_exit rfl rfl ?_
      refine at_seq [1, 1, 1, 1, 0] [1, 1, 1, 1, 1] rfl ?_
      refine at_region rfl ?_
      refine at_m 0 79 rfl rfl rfl (.inl rfl) rfl ?_
      refine at_m 6 80 rfl rfl rfl (.inl rfl) rfl ?_
      refine at_opS (some 81) rfl rfl rfl rfl (op_call1 rfl rfl rfl rfl rfl (.ptr (.pl rfl (.pl rfl .nil))) rfl hS) (by dsimp only [putD, List.set]) (by dsimp only [List.set, List.append, List.cons_append, List.nil_append, cellsD, List.map, repl, List.length, Nat.reduceAdd, if_true, ↓reduceIte]; first | done | rfl) ?_
      refine at_o 82 rfl rfl rfl rfl (op_call0 rfl rfl rfl rfl (cfg28_spec 0 st (by omega))) ?_
      first | (refine at_o 83 rfl rfl rfl rfl (op_fieldP rfl ffld8_api_Model (by decide)) ?_) | (refine at_o 83 rfl rfl rfl rfl (op_fieldR rfl ffld8_api_Model (by decide) (by decide) rfl) ?_)
      refine at_stA 83 (.tmp 82) rfl rfl rfl rfl rfl (ev_tmp rfl) rfl fagg_api_Value rfl rfl (by first | decide | simp | (simp; omega)) (by dsimp only [List.set, List.append, List.cons_append, List.nil_append, cellsD, List.map, repl, List.length, Nat.reduceAdd, if_true, ↓reduceIte]; first | done | rfl) ?_
      refine at_end rfl ?_
      refine at_seq [1, 1, 1, 1, 1, 0] [1, 1, 1, 1, 1, 1] rfl ?_
      refine at_region rfl ?_
      refine at_o 84 rfl rfl rfl rfl (op_loadPD rfl fagg_api_Model rfl (by simp) rfl) ?_
      refine at_stA 4 (.tmp 84) rfl rfl rfl rfl rfl (ev_tmp rfl) rfl fagg_api_Model rfl rfl (by first | decide | simp | (simp; omega)) (by dsimp only [List.set, List.append, List.cons_append, List.nil_append, cellsD, List.map, repl, List.length, Nat.reduceAdd, if_true, ↓reduceIte]; first | done | rfl) ?_
      refine at_end rfl ?_
      exact at_ret rfl (res_dagg [1, 2, 3, 5] rfl rfl rfl fagg_api_Model rfl rfl rfl (fun i cs h => by match i, h with | 0, h => (simp at h; subst h; rfl) | 1, h => (simp at h) | 2, h => (simp at h) | 3, h => (simp at h) | 4, h => (simp at h) | 5, h => (simp at h) | 6, h => (simp at h; subst h; rfl) | i + 7, h => simp at h))
   ·skip
    exact absurd hc3 (by simp only [decide_eq_true_eq, decide_eq_false_iff_not, Bool.not_eq_true]; omega)
 ·skip
  exact absurd hc1 (by simp only [decide_eq_true_eq, decide_eq_false_iff_not, Bool.not_eq_true]; omega)
set_option maxRecDepth 20000 in
theorem counter3 (s : List Int) (k0 k1 p00 p01 p02 p03 p04 p10 p11 p12 p13 p14 p20 p21 p22 p23 p24 p30 p31 p32 ns np : Nat) (a b cz c0 f0 t0 c1 f1 t1 c2 f2 t2 : Int) (n0 g0 n1 g1 n2 g2 st : List Int) (hA : FSpec PP pickF [.ptr 0 0, di 2] (dice s k0) (di a) (dice s k1)) (ha : 1 + a = (ns : Int)) (ha2 : ns ≤ 2) (ha1 : 1 ≤ ns) (hB : FSpec PP pickF [.ptr 0 0, di 2] (dice s k1) (di b) (dice s p00)) (hb : 1 + b = (np : Int)) (hb2 : np ≤ 2) (hb1 : 1 ≤ np) (hC0 : FSpec PP pickF [.ptr 0 0, di 3] (dice s p00) (di c0) (dice s p01)) (hc0 : 0 < 1 + c0 ∧ c0 ≤ 2) (hF0 : FSpec PP pickF [.ptr 0 0, di ↑ns] (dice s p01) (di f0) (dice s p02)) (hT0 : FSpec PP pickF [.ptr 0 0, di ↑ns] (dice s p02) (di t0) (dice s p03)) (hN0 : FSpec PP intsF [.ptr 0 0, di ↑np, di 2] (dice s p03) (dl n0) (dice s p04)) (hG0 : FSpec PP intsF [.ptr 0 0, di ↑np, di 2] (dice s p04) (dl g0) (dice s p10)) (hC1 : FSpec PP pickF [.ptr 0 0, di 3] (dice s p10) (di c1) (dice s p11)) (hc1 : 1 < 1 + c1 ∧ c1 ≤ 2) (hF1 : FSpec PP pickF [.ptr 0 0, di ↑ns] (dice s p11) (di f1) (dice s p12)) (hT1 : FSpec PP pickF [.ptr 0 0, di ↑ns] (dice s p12) (di t1) (dice s p13)) (hN1 : FSpec PP intsF [.ptr 0 0, di ↑np, di 2] (dice s p13) (dl n1) (dice s p14)) (hG1 : FSpec PP intsF [.ptr 0 0, di ↑np, di 2] (dice s p14) (dl g1) (dice s p20)) (hC2 : FSpec PP pickF [.ptr 0 0, di 3] (dice s p20) (di c2) (dice s p21)) (hc2 : 2 < 1 + c2 ∧ c2 ≤ 2) (hF2 : FSpec PP pickF [.ptr 0 0, di ↑ns] (dice s p21) (di f2) (dice s p22)) (hT2 : FSpec PP pickF [.ptr 0 0, di ↑ns] (dice s p22) (di t2) (dice s p23)) (hN2 : FSpec PP intsF [.ptr 0 0, di ↑np, di 2] (dice s p23) (dl n2) (dice s p24)) (hG2 : FSpec PP intsF [.ptr 0 0, di ↑np, di 2] (dice s p24) (dl g2) (dice s p30)) (hCz : FSpec PP pickF [.ptr 0 0, di 3] (dice s p30) (di cz) (dice s p31)) (hcz : ¬ 3 < 1 + cz ∧ 0 ≤ cz ∧ cz ≤ 2) (hS : FSpec PP intsF [.ptr 0 0, di ↑np, di 3] (dice s p31) (dl st) (dice s p32)) (hSl : st.length = np) : FSpec PP 25 [.ptr 0 0, db false] (dice s k0) (.dagg [di 1, .v (vNm (nmS.take ns)), .v (vNm (nmP.take np)), .v .nils, .v .nils, di 0, di 0, .gro 8 3 14, di 0, .v (vK (0 :: st))]) ⟨[some [.v (.list (s.map vu)), .v (.int .i64 ((p32 : Nat) : Int))], none, none, none, none, none, none, none, some (flatV [vRl (⟨[114], f0, t0, n0, g0⟩ : Rl)] ++ flatV [vRl (⟨[115], f1, t1, n1, g1⟩ : Rl)] ++ flatV [vRl (⟨[116], f2, t2, n2, g2⟩ : Rl)])], []⟩ := by
 have hSl2 : (nmS.take ns).length = ns := by simp [nmS]; omega
 have hPl2 : (nmP.take np).length = np := by simp [nmP]; omega
 refine spec_at cCounter Tryz.func25 rfl (by kernel_rfl) (by first | decide | simp) _ (by dsimp only [Tryz.f25, List.length, Nat.reduceAdd, Nat.reduceSub, List.replicate, List.cons_append, List.nil_append]) ?_
 refine at_seq [0] [1] rfl ?_
 refine at_region rfl ?_
 refine at_opS (some 4) rfl rfl rfl rfl (op_allocN rfl fzeroN_api_Model) (by dsimp only [putD, List.set]) (by dsimp only [List.set, List.append, List.cons_append, List.nil_append, cellsD, List.map, repl, List.length, Nat.reduceAdd, if_true, ↓reduceIte]; first | done | rfl) ?_
 refine at_end rfl ?_
 refine at_seq [1, 0] [1, 1] rfl ?_
 refine at_draw2 mixed rfl 11 [⟨[some [.v (.list (s.map vu)), .v (.int .i64 ((k0 : Nat) : Int))], some [di 0, .v .nils, .v .nils, .v .nils, .v .nils, di 0, di 0, .v .nils, di 0, .v .nils]], []⟩, ⟨[some [.v (.list (s.map vu)), .v (.int .i64 ((k1 : Nat) : Int))], some [di 0, .v .nils, .v .nils, .v .nils, .v .nils, di 0, di 0, .v .nils, di 0, .v .nils]], []⟩, ⟨[some [.v (.list (s.map vu)), .v (.int .i64 ((p00 : Nat) : Int))], some [di 0, .v .nils, .v .nils, .v .nils, .v .nils, di 0, di 0, .v .nils, di 0, .v .nils]], []⟩] [⟨[some [.v (.list (s.map vu)), .v (.int .i64 ((k0 : Nat) : Int))], some [di 0, .v .nils, .v .nils, .v .nils, .v .nils, di 0, di 0, .v .nils, di 0, .v .nils], some [di 0, .v .nils, .v .nils, .v .nils, .v .nils, di 0, di 0, .v .nils, di 0, .v .nils]], []⟩, ⟨[some [.v (.list (s.map vu)), .v (.int .i64 ((k1 : Nat) : Int))], some [di 0, .v .nils, .v .nils, .v .nils, .v .nils, di 0, di 0, .v .nils, di 0, .v .nils], some [di 0, .v .nils, .v .nils, .v .nils, .v .nils, di 0, di 0, .v .nils, di 0, .v .nils]], []⟩, ⟨[some [.v (.list (s.map vu)), .v (.int .i64 ((p00 : Nat) : Int))], some [di 0, .v .nils, .v .nils, .v .nils, .v .nils, di 0, di 0, .v .nils, di 0, .v .nils], some [di 0, .v .nils, .v .nils, .v .nils, .v .nils, di 0, di 0, .v .nils, di 0, .v .nils]], []⟩, ⟨[some [.v (.list (s.map vu)), .v (.int .i64 ((p00 : Nat) : Int))], some [di 0, .v .nils, .v .nils, .v .nils, .v .nils, di 0, di 0, .v .nils, di 0, .v .nils], some [di 1, .v (vNm (nmS.take ns)), .v (vNm (nmP.take np)), .v .nils, .v .nils, di 0, di 0, .v .nils, di 0, .v .nils]], []⟩] (by decide +kernel) rfl ?_
 refine da_quiet2 (some 10) rfl rfl rfl rfl (fun s hs => op_buildSlice rfl (by rfl) (by rfl) fsl_Sstring rfl (xs := nmS.map V.str) rfl (by simp [V.size]) (by decide) (by decide) (by decide)) (by dsimp only [putD, List.set]) ?_
 refine da_m 0 11 rfl rfl rfl (.inl rfl) rfl ?_
 refine da_eff2 (some 12) rfl rfl rfl rfl rfl rfl rfl rfl (op_call1 rfl rfl rfl rfl rfl (.ptr (.pl rfl .nil)) rfl hA) (op_call1 rfl rfl rfl rfl rfl (.ptr (.pl rfl .nil)) rfl hA) (by dsimp only [putD, List.set]) ?_
 refine da_quiet2 (some 13) rfl rfl rfl rfl (fun s hs => op_binI rfl rfl) (by dsimp only [putD, List.set]) ?_
 rw [wrap_id (by omega) (by omega), ha]
 refine da_quiet2 (some 14) rfl rfl rfl rfl (fun s hs => op_sliceL rfl fsl_Sstring (by simp [V.size]) (by decide) none (some (_, _)) rfl rfl (l' := 0) (h' := ns) (slice2 ha2)) (by dsimp only [putD, List.set]) ?_
 rw [List.drop_zero, ← List.map_take]
 refine da_quiet2 (some 15) rfl rfl rfl rfl (fun s hs => op_buildSlice rfl (by rfl) (by rfl) fsl_Sstring rfl (xs := nmP.map V.str) rfl (by simp [V.size]) (by decide) (by decide) (by decide)) (by dsimp only [putD, List.set]) ?_
 refine da_m 0 16 rfl rfl rfl (.inl rfl) rfl ?_
 refine da_eff2 (some 17) rfl rfl rfl rfl rfl rfl rfl rfl (op_call1 rfl rfl rfl rfl rfl (.ptr (.pl rfl .nil)) rfl hB) (op_call1 rfl rfl rfl rfl rfl (.ptr (.pl rfl .nil)) rfl hB) (by dsimp only [putD, List.set]) ?_
 refine da_quiet2 (some 18) rfl rfl rfl rfl (fun s hs => op_binI rfl rfl) (by dsimp only [putD, List.set]) ?_
 rw [wrap_id (by omega) (by omega), hb]
 refine da_quiet2 (some 19) rfl rfl rfl rfl (fun s hs => op_sliceL rfl fsl_Sstring (by simp [V.size]) (by decide) none (some (_, _)) rfl rfl (l' := 0) (h' := np) (slice2 hb2)) (by dsimp only [putD, List.set]) ?_
 rw [List.drop_zero, ← List.map_take]
 refine da_quiet2 (some 20) rfl rfl rfl rfl (fun s hs => op_buildN rfl fbldN_api_Model rfl rfl) (by dsimp only [putD, List.set]) ?_
 try dsimp only [V.cellsV, List.take, List.drop, List.cons_append, List.nil_append, List.length]
 refine da_free (some 5) rfl rfl rfl rfl (by simp) (by intro x hx; simp only [List.zip_cons_cons, List.zip_nil_left, List.zip_nil_right, List.mem_cons, List.not_mem_nil, or_false] at hx; rcases hx with rfl | rfl | rfl <;> exact op_allocN rfl fzeroN_api_Model) (by dsimp only [putD, List.set]) ?_
 refine da_effT none rfl rfl rfl rfl rfl rfl (by decide +kernel) (op_store rfl rfl fagg_api_Model rfl (q := 2) (off := 0) (cs := [di 0, .v .nils, .v .nils, .v .nils, .v .nils, di 0, di 0, .v .nils, di 0, .v .nils]) rfl (by simp)) (by dsimp only [putD, List.set]) ?_
 refine da_end rfl ⟨by decide +kernel, _, rfl, ?_⟩
 refine at_seq [1, 1, 0] [1, 1, 1] rfl ?_
 refine at_region rfl ?_
 first | (refine at_o 21 rfl rfl rfl rfl (op_fieldP rfl ffld2_api_Model (by decide)) ?_) | (refine at_o 21 rfl rfl rfl rfl (op_fieldR rfl ffld2_api_Model (by decide) (by decide) rfl) ?_)
 first | (refine at_o 22 rfl rfl rfl rfl (op_loadR1 rfl fone_Sstring rfl) ?_) | (refine at_o 22 rfl rfl rfl rfl (op_loadP1 rfl fone_Sstring rfl rfl) ?_)
 first | (refine at_o 23 rfl rfl rfl rfl (op_lenL rfl fu_Sstring) ?_) | (refine at_o 23 rfl rfl rfl rfl (opOK_un (op_lenL rfl fu_Sstring)) ?_) | (refine at_o 23 rfl rfl rfl rfl (op_lenA rfl fu_Sstring) ?_)
 simp only [List.length_map, hPl2]
 refine at_m 23 6 rfl rfl rfl (.inr rfl) rfl ?_
 refine at_end rfl ?_
 refine at_seq [1, 1, 1, 0] [1, 1, 1, 1] rfl ?_
 refine at_seq [1, 1, 1, 0, 0] [1, 1, 1, 0, 1] rfl ?_
 refine at_region rfl ?_
 refine at_c 7 rfl rfl rfl (.inr rfl) ?_
 refine at_end rfl ?_
 refine at_block [1, 1, 1, 0, 1, 0] 0 rfl ?_
 refine at_loop [1, 1, 1, 0, 1, 0, 0] rfl ?_
 try simp only [List.length_map, List.length_nil, Int.toNat_natCast]
 refine run_lp ?_
 refine at_seq [1, 1, 1, 0, 1, 0, 0, 0] [1, 1, 1, 0, 1, 0, 0, 1] rfl ?_
 refine at_seq [1, 1, 1, 0, 1, 0, 0, 0, 0] [1, 1, 1, 0, 1, 0, 0, 0, 1] rfl ?_
 refine at_region rfl ?_
 refine at_m 7 24 rfl rfl rfl (.inl rfl) rfl ?_
 refine at_m 0 25 rfl rfl rfl (.inl rfl) rfl ?_
 refine at_opS (some 26) rfl rfl rfl rfl (op_call1 rfl rfl rfl rfl rfl (.ptr (.pl rfl .nil)) rfl hC0) (by dsimp only [putD, List.set]) (by dsimp only [List.set, List.append, List.cons_append, List.nil_append, cellsD, List.map, repl, List.length, Nat.reduceAdd, if_true, ↓reduceIte]; first | done | rfl) ?_
 refine at_o 27 rfl rfl rfl rfl (op_binI rfl rfl) ?_
 rw [wrap_id (by omega) (by omega)]
 refine at_o 28 rfl rfl rfl rfl (op_binI rfl rfl) ?_
 refine at_end rfl ?_
 refine at_cond [1, 1, 1, 0, 1, 0, 0, 0, 1, 0] [1, 1, 1, 0, 1, 0, 0, 0, 1, 1] rfl rfl (fun hc1 => ?_) (fun hc1 => ?_)
 ·skip
  refine at_skip rfl ?_
  refine at_seq [1, 1, 1, 0, 1, 0, 0, 1, 0] [1, 1, 1, 0, 1, 0, 0, 1, 1] rfl ?_
  refine at_block [1, 1, 1, 0, 1, 0, 0, 1, 0, 0] 1 rfl ?_
  refine at_seq [1, 1, 1, 0, 1, 0, 0, 1, 0, 0, 0] [1, 1, 1, 0, 1, 0, 0, 1, 0, 0, 1] rfl ?_
  refine at_draw2 mixed rfl 21 [⟨[some [.v (.list (s.map vu)), .v (.int .i64 ((p01 : Nat) : Int))], some [di 0, .v .nils, .v .nils, .v .nils, .v .nils, di 0, di 0, .v .nils, di 0, .v .nils], some [di 1, .v (vNm (nmS.take ns)), .v (vNm (nmP.take np)), .v .nils, .v .nils, di 0, di 0, .v .nils, di 0, .v .nils]], []⟩, ⟨[some [.v (.list (s.map vu)), .v (.int .i64 ((p02 : Nat) : Int))], some [di 0, .v .nils, .v .nils, .v .nils, .v .nils, di 0, di 0, .v .nils, di 0, .v .nils], some [di 1, .v (vNm (nmS.take ns)), .v (vNm (nmP.take np)), .v .nils, .v .nils, di 0, di 0, .v .nils, di 0, .v .nils]], []⟩, ⟨[some [.v (.list (s.map vu)), .v (.int .i64 ((p03 : Nat) : Int))], some [di 0, .v .nils, .v .nils, .v .nils, .v .nils, di 0, di 0, .v .nils, di 0, .v .nils], some [di 1, .v (vNm (nmS.take ns)), .v (vNm (nmP.take np)), .v .nils, .v .nils, di 0, di 0, .v .nils, di 0, .v .nils]], []⟩, ⟨[some [.v (.list (s.map vu)), .v (.int .i64 ((p04 : Nat) : Int))], some [di 0, .v .nils, .v .nils, .v .nils, .v .nils, di 0, di 0, .v .nils, di 0, .v .nils], some [di 1, .v (vNm (nmS.take ns)), .v (vNm (nmP.take np)), .v .nils, .v .nils, di 0, di 0, .v .nils, di 0, .v .nils]], []⟩, ⟨[some [.v (.list (s.map vu)), .v (.int .i64 ((p10 : Nat) : Int))], some [di 0, .v .nils, .v .nils, .v .nils, .v .nils, di 0, di 0, .v .nils, di 0, .v .nils], some [di 1, .v (vNm (nmS.take ns)), .v (vNm (nmP.take np)), .v .nils, .v .nils, di 0, di 0, .v .nils, di 0, .v .nils]], []⟩] [⟨[some [.v (.list (s.map vu)), .v (.int .i64 ((p01 : Nat) : Int))], some [di 0, .v .nils, .v .nils, .v .nils, .v .nils, di 0, di 0, .v .nils, di 0, .v .nils], some [di 1, .v (vNm (nmS.take ns)), .v (vNm (nmP.take np)), .v .nils, .v .nils, di 0, di 0, .v .nils, di 0, .v .nils], some [.v (.str []), di 0, di 0, .v .nils, .v .nils, .v .nils, di 0, di 0, di 0, .v .nils, .v .nils, .v .nils, .v .nils, di 0]], []⟩, ⟨[some [.v (.list (s.map vu)), .v (.int .i64 ((p02 : Nat) : Int))], some [di 0, .v .nils, .v .nils, .v .nils, .v .nils, di 0, di 0, .v .nils, di 0, .v .nils], some [di 1, .v (vNm (nmS.take ns)), .v (vNm (nmP.take np)), .v .nils, .v .nils, di 0, di 0, .v .nils, di 0, .v .nils], some [.v (.str []), di 0, di 0, .v .nils, .v .nils, .v .nils, di 0, di 0, di 0, .v .nils, .v .nils, .v .nils, .v .nils, di 0]], []⟩, ⟨[some [.v (.list (s.map vu)), .v (.int .i64 ((p03 : Nat) : Int))], some [di 0, .v .nils, .v .nils, .v .nils, .v .nils, di 0, di 0, .v .nils, di 0, .v .nils], some [di 1, .v (vNm (nmS.take ns)), .v (vNm (nmP.take np)), .v .nils, .v .nils, di 0, di 0, .v .nils, di 0, .v .nils], some [.v (.str []), di 0, di 0, .v .nils, .v .nils, .v .nils, di 0, di 0, di 0, .v .nils, .v .nils, .v .nils, .v .nils, di 0]], []⟩, ⟨[some [.v (.list (s.map vu)), .v (.int .i64 ((p04 : Nat) : Int))], some [di 0, .v .nils, .v .nils, .v .nils, .v .nils, di 0, di 0, .v .nils, di 0, .v .nils], some [di 1, .v (vNm (nmS.take ns)), .v (vNm (nmP.take np)), .v .nils, .v .nils, di 0, di 0, .v .nils, di 0, .v .nils], some [.v (.str []), di 0, di 0, .v .nils, .v .nils, .v .nils, di 0, di 0, di 0, .v .nils, .v .nils, .v .nils, .v .nils, di 0]], []⟩, ⟨[some [.v (.list (s.map vu)), .v (.int .i64 ((p10 : Nat) : Int))], some [di 0, .v .nils, .v .nils, .v .nils, .v .nils, di 0, di 0, .v .nils, di 0, .v .nils], some [di 1, .v (vNm (nmS.take ns)), .v (vNm (nmP.take np)), .v .nils, .v .nils, di 0, di 0, .v .nils, di 0, .v .nils], some [.v (.str []), di 0, di 0, .v .nils, .v .nils, .v .nils, di 0, di 0, di 0, .v .nils, .v .nils, .v .nils, .v .nils, di 0]], []⟩, ⟨[some [.v (.list (s.map vu)), .v (.int .i64 ((p10 : Nat) : Int))], some [di 0, .v .nils, .v .nils, .v .nils, .v .nils, di 0, di 0, .v .nils, di 0, .v .nils], some [di 1, .v (vNm (nmS.take ns)), .v (vNm (nmP.take np)), .v .nils, .v .nils, di 0, di 0, .v .nils, di 0, .v .nils], some [.v (.str [114]), di f0, di t0, .v (vl n0), .v (vl g0), .v .nils, di 0, di 0, di 0, .v .nils, .v .nils, .v .nils, .v .nils, di 0]], []⟩] (by decide +kernel) rfl ?_
  refine da_quiet2 (some 31) rfl rfl rfl rfl (fun s hs => op_buildSlice rfl (by rfl) (by rfl) fsl_Sstring rfl (xs := nmR.map V.str) rfl (by simp [V.size]) (by decide) (by decide) (by decide)) (by dsimp only [putD, List.set]) ?_
  refine da_m 7 32 rfl rfl rfl (.inl rfl) rfl ?_
  first | (refine da_quiet2 (some 33) rfl rfl rfl rfl (fun s hs => op_idxL rfl fsl_Sstring (by first | decide | omega) (by first | assumption | exact idx_some (by assumption) | rfl) (by first | rfl | (simp [V.size]; done))) (by dsimp only [putD, List.set]) ?_) | (refine da_quiet2 (some 33) rfl rfl rfl rfl (fun s hs => opOK_un (op_idxL rfl fsl_Sstring (by first | decide | omega) (by first | assumption | exact idx_some (by assumption) | rfl) (by first | rfl | (simp [V.size]; done)))) (by dsimp only [putD, List.set]) ?_) | (refine da_quiet2 (some 33) rfl rfl rfl rfl (fun s hs => op_idxA rfl fsl_Sstring (by first | decide | omega) (by first | decide | omega)) (by dsimp only [putD, List.set]) ?_)
  first | (refine da_quiet2 (some 34) rfl rfl rfl rfl (fun s hs => op_loadR1 rfl fone_string rfl) (by dsimp only [putD, List.set]) ?_) | (refine da_quiet2 (some 34) rfl rfl rfl rfl (by intro s hs; simp only [List.cons_append, List.nil_append, List.mem_cons, List.not_mem_nil, or_false] at hs; rcases hs with rfl | rfl | rfl | rfl | rfl | rfl | rfl | rfl | rfl | rfl | rfl <;> exact op_loadP1 rfl fone_string rfl rfl) (by dsimp only [putD, List.set]) ?_)
  refine da_m 0 35 rfl rfl rfl (.inl rfl) rfl ?_
  first | (refine da_quiet2 (some 36) rfl rfl rfl rfl (fun s hs => op_fieldP rfl ffld1_api_Model (by decide)) (by dsimp only [putD, List.set]) ?_) | (refine da_quiet2 (some 36) rfl rfl rfl rfl (fun s hs => op_fieldR rfl ffld1_api_Model (by decide) (by decide) rfl) (by dsimp only [putD, List.set]) ?_)
  refine da_quiet2 (some 37) rfl rfl rfl rfl (by intro s hs; simp only [List.cons_append, List.nil_append, List.mem_cons, List.not_mem_nil, or_false] at hs; rcases hs with rfl | rfl | rfl | rfl | rfl | rfl | rfl | rfl | rfl | rfl | rfl <;> exact op_loadP1 rfl fone_Sstring rfl rfl) (by dsimp only [putD, List.set]) ?_
  first | (refine da_quiet2 (some 38) rfl rfl rfl rfl (fun s hs => op_lenL rfl fu_Sstring) (by dsimp only [putD, List.set]) ?_) | (refine da_quiet2 (some 38) rfl rfl rfl rfl (fun s hs => opOK_un (op_lenL rfl fu_Sstring)) (by dsimp only [putD, List.set]) ?_) | (refine da_quiet2 (some 38) rfl rfl rfl rfl (fun s hs => op_lenA rfl fu_Sstring) (by dsimp only [putD, List.set]) ?_)
  simp only [List.length_map, hSl2]
  refine da_eff2 (some 39) rfl rfl rfl rfl rfl rfl rfl rfl (op_call1 rfl rfl rfl rfl rfl (.ptr (.pl rfl .nil)) rfl hF0) (op_call1 rfl rfl rfl rfl rfl (.ptr (.pl rfl .nil)) rfl hF0) (by dsimp only [putD, List.set]) ?_
  refine da_m 0 40 rfl rfl rfl (.inl rfl) rfl ?_
  first | (refine da_quiet2 (some 41) rfl rfl rfl rfl (fun s hs => op_fieldP rfl ffld1_api_Model (by decide)) (by dsimp only [putD, List.set]) ?_) | (refine da_quiet2 (some 41) rfl rfl rfl rfl (fun s hs => op_fieldR rfl ffld1_api_Model (by decide) (by decide) rfl) (by dsimp only [putD, List.set]) ?_)
  refine da_quiet2 (some 42) rfl rfl rfl rfl (by intro s hs; simp only [List.cons_append, List.nil_append, List.mem_cons, List.not_mem_nil, or_false] at hs; rcases hs with rfl | rfl | rfl | rfl | rfl | rfl | rfl | rfl | rfl | rfl | rfl <;> exact op_loadP1 rfl fone_Sstring rfl rfl) (by dsimp only [putD, List.set]) ?_
  first | (refine da_quiet2 (some 43) rfl rfl rfl rfl (fun s hs => op_lenL rfl fu_Sstring) (by dsimp only [putD, List.set]) ?_) | (refine da_quiet2 (some 43) rfl rfl rfl rfl (fun s hs => opOK_un (op_lenL rfl fu_Sstring)) (by dsimp only [putD, List.set]) ?_) | (refine da_quiet2 (some 43) rfl rfl rfl rfl (fun s hs => op_lenA rfl fu_Sstring) (by dsimp only [putD, List.set]) ?_)
  simp only [List.length_map, hSl2]
  refine da_eff2 (some 44) rfl rfl rfl rfl rfl rfl rfl rfl (op_call1 rfl rfl rfl rfl rfl (.ptr (.pl rfl .nil)) rfl hT0) (op_call1 rfl rfl rfl rfl rfl (.ptr (.pl rfl .nil)) rfl hT0) (by dsimp only [putD, List.set]) ?_
  refine da_m 0 45 rfl rfl rfl (.inl rfl) rfl ?_
  refine da_m 6 46 rfl rfl rfl (.inl rfl) rfl ?_
  refine da_eff2 (some 47) rfl rfl rfl rfl rfl rfl rfl rfl (op_call1 rfl rfl rfl rfl rfl (.ptr (.pl rfl (.pl rfl .nil))) rfl hN0) (op_call1 rfl rfl rfl rfl rfl (.ptr (.pl rfl (.pl rfl .nil))) rfl hN0) (by dsimp only [putD, List.set]) ?_
  refine da_m 0 48 rfl rfl rfl (.inl rfl) rfl ?_
  refine da_m 6 49 rfl rfl rfl (.inl rfl) rfl ?_
  refine da_eff2 (some 50) rfl rfl rfl rfl rfl rfl rfl rfl (op_call1 rfl rfl rfl rfl rfl (.ptr (.pl rfl (.pl rfl .nil))) rfl hG0) (op_call1 rfl rfl rfl rfl rfl (.ptr (.pl rfl (.pl rfl .nil))) rfl hG0) (by dsimp only [putD, List.set]) ?_
  refine da_quiet2 (some 51) rfl rfl rfl rfl (fun s hs => op_buildN rfl fbldN_api_Rule rfl rfl) (by dsimp only [putD, List.set]) ?_
  try dsimp only [V.cellsV, List.take, List.drop, List.cons_append, List.nil_append, List.length]
  refine da_free (some 8) rfl rfl rfl rfl (by simp) (by intro x hx; simp only [List.zip_cons_cons, List.zip_nil_left, List.zip_nil_right, List.mem_cons, List.not_mem_nil, or_false] at hx; rcases hx with rfl | rfl | rfl | rfl | rfl <;> exact op_allocN rfl fzeroN_api_Rule) (by dsimp only [putD, List.set]) ?_
  refine da_effT none rfl rfl rfl rfl rfl rfl (by decide +kernel) (op_store rfl rfl fagg_api_Rule rfl (q := 3) (off := 0) (cs := [.v (.str []), di 0, di 0, .v .nils, .v .nils, .v .nils, di 0, di 0, di 0, .v .nils, .v .nils, .v .nils, .v .nils, di 0]) rfl (by simp)) (by dsimp only [putD, List.set]) ?_
  refine da_end rfl ⟨by decide +kernel, _, rfl, ?_⟩
  refine at_seq [1, 1, 1, 0, 1, 0, 0, 1, 0, 0, 1, 0] [1, 1, 1, 0, 1, 0, 0, 1, 0, 0, 1, 1] rfl ?_
  refine at_seq [1, 1, 1, 0, 1, 0, 0, 1, 0, 0, 1, 0, 0] [1, 1, 1, 0, 1, 0, 0, 1, 0, 0, 1, 0, 1] rfl ?_
  refine at_region rfl ?_
  refine at_m 1 52 rfl rfl rfl (.inl rfl) rfl ?_
  refine at_m 52 53 rfl rfl rfl (.inl rfl) rfl ?_
  refine at_split 53 rfl (fun hb2 env' he => ?_) (fun hb2 env' he => ?_)
  ·dsimp only [List.set] at he; subst he
   exact absurd hb2 (by simp)
  ·dsimp only [List.set] at he; subst he
   refine at_opN (some 54) rfl rfl rfl (by dsimp only [putD, List.set]) ?_
   refine at_opN (some 55) rfl rfl rfl (by dsimp only [putD, List.set]) ?_
   refine at_opN (some 56) rfl rfl rfl (by dsimp only [putD, List.set]) ?_
   refine at_pkc false 53 57 rfl rfl rfl rfl rfl rfl (by dsimp only [constD]) (by dsimp only [List.set]) ?_
   refine at_end rfl ?_
   refine at_false [1, 1, 1, 0, 1, 0, 0, 1, 0, 0, 1, 0, 1, 0] [1, 1, 1, 0, 1, 0, 0, 1, 0, 0, 1, 0, 1, 1] rfl rfl ?_
   refine at_skip rfl ?_
   refine at_region rfl ?_
   first | (refine at_o 73 rfl rfl rfl rfl (op_fieldP rfl ffld7_api_Model (by decide)) ?_) | (refine at_o 73 rfl rfl rfl rfl (op_fieldR rfl ffld7_api_Model (by decide) (by decide) rfl) ?_)
   refine at_o 74 rfl rfl rfl rfl (op_loadP1 rfl fone_Sapi_Rule rfl rfl) ?_
   refine at_o 75 rfl rfl rfl rfl (op_loadPA rfl fagg_api_Rule rfl (by simp) rfl) ?_
   refine at_o 76 rfl rfl rfl rfl (op_buildSlice rfl (by rfl) (by rfl) fsl_Sapi_Rule rfl rfl (by simp [V.size]) (by decide) (by decide) (by decide)) ?_
   refine at_opS (some 77) rfl rfl rfl rfl (op_appendG0V rfl fsl_Sapi_Rule rfl (by decide) (by simp [V.size]) (by simp) (by simp) (by simp)) (by dsimp only [putD, List.set]) (by dsimp only [List.set, List.append, List.cons_append, List.nil_append, cellsD, List.map, repl, List.length, Nat.reduceAdd, if_true, ↓reduceIte]; first | done | rfl) ?_
   first | (refine at_o 78 rfl rfl rfl rfl (op_fieldP rfl ffld7_api_Model (by decide)) ?_) | (refine at_o 78 rfl rfl rfl rfl (op_fieldR rfl ffld7_api_Model (by decide) (by decide) rfl) ?_)
   refine at_st1 78 (.tmp 77) rfl rfl rfl rfl rfl (ev_tmp rfl) rfl fone_Sapi_Rule rfl (by first | decide | simp | (simp; omega)) (by dsimp only [List.set, List.append, List.cons_append, List.nil_append, cellsD, List.map, repl, List.length, Nat.reduceAdd, if_true, ↓reduceIte]; first | done | rfl) ?_
   refine at_end rfl ?_
   refine run_blk ?_
   refine at_region rfl ?_
   refine at_m 7 29 rfl rfl rfl (.inl rfl) rfl ?_
   refine at_o 30 rfl rfl rfl rfl (op_binI rfl rfl) ?_
   rw [show IntKind.i64.wrap (0 + 1) = 1 from by decide]
   refine at_m 30 7 rfl rfl rfl (.inr rfl) rfl ?_
   refine at_end rfl ?_
   refine run_lp ?_
   refine at_seq [1, 1, 1, 0, 1, 0, 0, 0] [1, 1, 1, 0, 1, 0, 0, 1] rfl ?_
   refine at_seq [1, 1, 1, 0, 1, 0, 0, 0, 0] [1, 1, 1, 0, 1, 0, 0, 0, 1] rfl ?_
   refine at_region rfl ?_
   refine at_m 7 24 rfl rfl rfl (.inl rfl) rfl ?_
   refine at_m 0 25 rfl rfl rfl (.inl rfl) rfl ?_
   refine at_opS (some 26) rfl rfl rfl rfl (op_call1 rfl rfl rfl rfl rfl (.ptr (.pl rfl .nil)) rfl hC1) (by dsimp only [putD, List.set]) (by dsimp only [List.set, List.append, List.cons_append, List.nil_append, cellsD, List.map, repl, List.length, Nat.reduceAdd, if_true, ↓reduceIte]; first | done | rfl) ?_
   refine at_o 27 rfl rfl rfl rfl (op_binI rfl rfl) ?_
   rw [wrap_id (by omega) (by omega)]
   refine at_o 28 rfl rfl rfl rfl (op_binI rfl rfl) ?_
   refine at_end rfl ?_
   refine at_cond [1, 1, 1, 0, 1, 0, 0, 0, 1, 0] [1, 1, 1, 0, 1, 0, 0, 0, 1, 1] rfl rfl (fun hc3 => ?_) (fun hc3 => ?_)
   ·skip
    refine at_skip rfl ?_
    refine at_seq [1, 1, 1, 0, 1, 0, 0, 1, 0] [1, 1, 1, 0, 1, 0, 0, 1, 1] rfl ?_
    refine at_block [1, 1, 1, 0, 1, 0, 0, 1, 0, 0] 1 rfl ?_
    refine at_seq [1, 1, 1, 0, 1, 0, 0, 1, 0, 0, 0] [1, 1, 1, 0, 1, 0, 0, 1, 0, 0, 1] rfl ?_
    refine at_draw2 mixed rfl 21 [⟨[some [.v (.list (s.map vu)), .v (.int .i64 ((p11 : Nat) : Int))], some [di 0, .v .nils, .v .nils, .v .nils, .v .nils, di 0, di 0, .v .nils, di 0, .v .nils], some [di 1, .v (vNm (nmS.take ns)), .v (vNm (nmP.take np)), .v .nils, .v .nils, di 0, di 0, .gro 4 1 14, di 0, .v .nils], some [.v (.str [114]), di f0, di t0, .v (vl n0), .v (vl g0), .v .nils, di 0, di 0, di 0, .v .nils, .v .nils, .v .nils, .v .nils, di 0], some (flatV [vRl (⟨[114], f0, t0, n0, g0⟩ : Rl)])], []⟩, ⟨[some [.v (.list (s.map vu)), .v (.int .i64 ((p12 : Nat) : Int))], some [di 0, .v .nils, .v .nils, .v .nils, .v .nils, di 0, di 0, .v .nils, di 0, .v .nils], some [di 1, .v (vNm (nmS.take ns)), .v (vNm (nmP.take np)), .v .nils, .v .nils, di 0, di 0, .gro 4 1 14, di 0, .v .nils], some [.v (.str [114]), di f0, di t0, .v (vl n0), .v (vl g0), .v .nils, di 0, di 0, di 0, .v .nils, .v .nils, .v .nils, .v .nils, di 0], some (flatV [vRl (⟨[114], f0, t0, n0, g0⟩ : Rl)])], []⟩, ⟨[some [.v (.list (s.map vu)), .v (.int .i64 ((p13 : Nat) : Int))], some [di 0, .v .nils, .v .nils, .v .nils, .v .nils, di 0, di 0, .v .nils, di 0, .v .nils], some [di 1, .v (vNm (nmS.take ns)), .v (vNm (nmP.take np)), .v .nils, .v .nils, di 0, di 0, .gro 4 1 14, di 0, .v .nils], some [.v (.str [114]), di f0, di t0, .v (vl n0), .v (vl g0), .v .nils, di 0, di 0, di 0, .v .nils, .v .nils, .v .nils, .v .nils, di 0], some (flatV [vRl (⟨[114], f0, t0, n0, g0⟩ : Rl)])], []⟩, ⟨[some [.v (.list (s.map vu)), .v (.int .i64 ((p14 : Nat) : Int))], some [di 0, .v .nils, .v .nils, .v .nils, .v .nils, di 0, di 0, .v .nils, di 0, .v .nils], some [di 1, .v (vNm (nmS.take ns)), .v (vNm (nmP.take np)), .v .nils, .v .nils, di 0, di 0, .gro 4 1 14, di 0, .v .nils], some [.v (.str [114]), di f0, di t0, .v (vl n0), .v (vl g0), .v .nils, di 0, di 0, di 0, .v .nils, .v .nils, .v .nils, .v .nils, di 0], some (flatV [vRl (⟨[114], f0, t0, n0, g0⟩ : Rl)])], []⟩, ⟨[some [.v (.list (s.map vu)), .v (.int .i64 ((p20 : Nat) : Int))], some [di 0, .v .nils, .v .nils, .v .nils, .v .nils, di 0, di 0, .v .nils, di 0, .v .nils], some [di 1, .v (vNm (nmS.take ns)), .v (vNm (nmP.take np)), .v .nils, .v .nils, di 0, di 0, .gro 4 1 14, di 0, .v .nils], some [.v (.str [114]), di f0, di t0, .v (vl n0), .v (vl g0), .v .nils, di 0, di 0, di 0, .v .nils, .v .nils, .v .nils, .v .nils, di 0], some (flatV [vRl (⟨[114], f0, t0, n0, g0⟩ : Rl)])], []⟩] [⟨[some [.v (.list (s.map vu)), .v (.int .i64 ((p11 : Nat) : Int))], some [di 0, .v .nils, .v .nils, .v .nils, .v .nils, di 0, di 0, .v .nils, di 0, .v .nils], some [di 1, .v (vNm (nmS.take ns)), .v (vNm (nmP.take np)), .v .nils, .v .nils, di 0, di 0, .gro 4 1 14, di 0, .v .nils], some [.v (.str [114]), di f0, di t0, .v (vl n0), .v (vl g0), .v .nils, di 0, di 0, di 0, .v .nils, .v .nils, .v .nils, .v .nils, di 0], some (flatV [vRl (⟨[114], f0, t0, n0, g0⟩ : Rl)]), some [.v (.str []), di 0, di 0, .v .nils, .v .nils, .v .nils, di 0, di 0, di 0, .v .nils, .v .nils, .v .nils, .v .nils, di 0]], []⟩, ⟨[some [.v (.list (s.map vu)), .v (.int .i64 ((p12 : Nat) : Int))], some [di 0, .v .nils, .v .nils, .v .nils, .v .nils, di 0, di 0, .v .nils, di 0, .v .nils], some [di 1, .v (vNm (nmS.take ns)), .v (vNm (nmP.take np)), .v .nils, .v .nils, di 0, di 0, .gro 4 1 14, di 0, .v .nils], some [.v (.str [114]), di f0, di t0, .v (vl n0), .v (vl g0), .v .nils, di 0, di 0, di 0, .v .nils, .v .nils, .v .nils, .v .nils, di 0], some (flatV [vRl (⟨[114], f0, t0, n0, g0⟩ : Rl)]), some [.v (.str []), di 0, di 0, .v .nils, .v .nils, .v .nils, di 0, di 0, di 0, .v .nils, .v .nils, .v .nils, .v .nils, di 0]], []⟩, ⟨[some [.v (.list (s.map vu)), .v (.int .i64 ((p13 : Nat) : Int))], some [di 0, .v .nils, .v .nils, .v .nils, .v .nils, di 0, di 0, .v .nils, di 0, .v .nils], some [di 1, .v (vNm (nmS.take ns)), .v (vNm (nmP.take np)), .v .nils, .v .nils, di 0, di 0, .gro 4 1 14, di 0, .v .nils], some [.v (.str [114]), di f0, di t0, .v (vl n0), .v (vl g0), .v .nils, di 0, di 0, di 0, .v .nils, .v .nils, .v .nils, .v .nils, di 0], some (flatV [vRl (⟨[114], f0, t0, n0, g0⟩ : Rl)]), some [.v (.str []), di 0, di 0, .v .nils, .v .nils, .v .nils, di 0, di 0, di 0, .v .nils, .v .nils, .v .nils, .v .nils, di 0]], []⟩, ⟨[some [.v (.list (s.map vu)), .v (.int .i64 ((p14 : Nat) : Int))], some [di 0, .v .nils, .v .nils, .v .nils, .v .nils, di 0, di 0, .v .nils, di 0, .v .nils], some [di 1, .v (vNm (nmS.take ns)), .v (vNm (nmP.take np)), .v .nils, .v .nils, di 0, di 0, .gro 4 1 14, di 0, .v .nils], some [.v (.str [114]), di f0, di t0, .v (vl n0), .v (vl g0), .v .nils, di 0, di 0, di 0, .v .nils, .v .nils, .v .nils, .v .nils, di 0], some (flatV [vRl (⟨[114], f0, t0, n0, g0⟩ : Rl)]), some [.v (.str []), di 0, di 0, .v .nils, .v .nils, .v .nils, di 0, di 0, di 0, .v .nils, .v .nils, .v .nils, .v .nils, di 0]], []⟩, ⟨[some [.v (.list (s.map vu)), .v (.int .i64 ((p20 : Nat) : Int))], some [di 0, .v .nils, .v .nils, .v .nils, .v .nils, di 0, di 0, .v .nils, di 0, .v .nils], some [di 1, .v (vNm (nmS.take ns)), .v (vNm (nmP.take np)), .v .nils, .v .nils, di 0, di 0, .gro 4 1 14, di 0, .v .nils], some [.v (.str [114]), di f0, di t0, .v (vl n0), .v (vl g0), .v .nils, di 0, di 0, di 0, .v .nils, .v .nils, .v .nils, .v .nils, di 0], some (flatV [vRl (⟨[114], f0, t0, n0, g0⟩ : Rl)]), some [.v (.str []), di 0, di 0, .v .nils, .v .nils, .v .nils, di 0, di 0, di 0, .v .nils, .v .nils, .v .nils, .v .nils, di 0]], []⟩, ⟨[some [.v (.list (s.map vu)), .v (.int .i64 ((p20 : Nat) : Int))], some [di 0, .v .nils, .v .nils, .v .nils, .v .nils, di 0, di 0, .v .nils, di 0, .v .nils], some [di 1, .v (vNm (nmS.take ns)), .v (vNm (nmP.take np)), .v .nils, .v .nils, di 0, di 0, .gro 4 1 14, di 0, .v .nils], some [.v (.str [114]), di f0, di t0, .v (vl n0), .v (vl g0), .v .nils, di 0, di 0, di 0, .v .nils, .v .nils, .v .nils, .v .nils, di 0], some (flatV [vRl (⟨[114], f0, t0, n0, g0⟩ : Rl)]), some [.v (.str [115]), di f1, di t1, .v (vl n1), .v (vl g1), .v .nils, di 0, di 0, di 0, .v .nils, .v .nils, .v .nils, .v .nils, di 0]], []⟩] (by decide +kernel) rfl ?_
    refine da_quiet2 (some 31) rfl rfl rfl rfl (fun s hs => op_buildSlice rfl (by rfl) (by rfl) fsl_Sstring rfl (xs := nmR.map V.str) rfl (by simp [V.size]) (by decide) (by decide) (by decide)) (by dsimp only [putD, List.set]) ?_
    refine da_m 7 32 rfl rfl rfl (.inl rfl) rfl ?_
    first | (refine da_quiet2 (some 33) rfl rfl rfl rfl (fun s hs => op_idxL rfl fsl_Sstring (by first | decide | omega) (by first | assumption | exact idx_some (by assumption) | rfl) (by first | rfl | (simp [V.size]; done))) (by dsimp only [putD, List.set]) ?_) | (refine da_quiet2 (some 33) rfl rfl rfl rfl (fun s hs => opOK_un (op_idxL rfl fsl_Sstring (by first | decide | omega) (by first | assumption | exact idx_some (by assumption) | rfl) (by first | rfl | (simp [V.size]; done)))) (by dsimp only [putD, List.set]) ?_) | (refine da_quiet2 (some 33) rfl rfl rfl rfl (fun s hs => op_idxA rfl fsl_Sstring (by first | decide | omega) (by first | decide | omega)) (by dsimp only [putD, List.set]) ?_)
    first | (refine da_quiet2 (some 34) rfl rfl rfl rfl (fun s hs => op_loadR1 rfl fone_string rfl) (by dsimp only [putD, List.set]) ?_) | (refine da_quiet2 (some 34) rfl rfl rfl rfl (by intro s hs; simp only [List.cons_append, List.nil_append, List.mem_cons, List.not_mem_nil, or_false] at hs; rcases hs with rfl | rfl | rfl | rfl | rfl | rfl | rfl | rfl | rfl | rfl | rfl <;> exact op_loadP1 rfl fone_string rfl rfl) (by dsimp only [putD, List.set]) ?_)
    refine da_m 0 35 rfl rfl rfl (.inl rfl) rfl ?_
    first | (refine da_quiet2 (some 36) rfl rfl rfl rfl (fun s hs => op_fieldP rfl ffld1_api_Model (by decide)) (by dsimp only [putD, List.set]) ?_) | (refine da_quiet2 (some 36) rfl rfl rfl rfl (fun s hs => op_fieldR rfl ffld1_api_Model (by decide) (by decide) rfl) (by dsimp only [putD, List.set]) ?_)
    refine da_quiet2 (some 37) rfl rfl rfl rfl (by intro s hs; simp only [List.cons_append, List.nil_append, List.mem_cons, List.not_mem_nil, or_false] at hs; rcases hs with rfl | rfl | rfl | rfl | rfl | rfl | rfl | rfl | rfl | rfl | rfl <;> exact op_loadP1 rfl fone_Sstring rfl rfl) (by dsimp only [putD, List.set]) ?_
    first | (refine da_quiet2 (some 38) rfl rfl rfl rfl (fun s hs => op_lenL rfl fu_Sstring) (by dsimp only [putD, List.set]) ?_) | (refine da_quiet2 (some 38) rfl rfl rfl rfl (fun s hs => opOK_un (op_lenL rfl fu_Sstring)) (by dsimp only [putD, List.set]) ?_) | (refine da_quiet2 (some 38) rfl rfl rfl rfl (fun s hs => op_lenA rfl fu_Sstring) (by dsimp only [putD, List.set]) ?_)
    simp only [List.length_map, hSl2]
    refine da_eff2 (some 39) rfl rfl rfl rfl rfl rfl rfl rfl (op_call1 rfl rfl rfl rfl rfl (.ptr (.pl rfl .nil)) rfl hF1) (op_call1 rfl rfl rfl rfl rfl (.ptr (.pl rfl .nil)) rfl hF1) (by dsimp only [putD, List.set]) ?_
    refine da_m 0 40 rfl rfl rfl (.inl rfl) rfl ?_
    first | (refine da_quiet2 (some 41) rfl rfl rfl rfl (fun s hs => op_fieldP rfl ffld1_api_Model (by decide)) (by dsimp only [putD, List.set]) ?_) | (refine da_quiet2 (some 41) rfl rfl rfl rfl (fun s hs => op_fieldR rfl ffld1_api_Model (by decide) (by decide) rfl) (by dsimp only [putD, List.set]) ?_)
    refine da_quiet2 (some 42) rfl rfl rfl rfl (by intro s hs; simp only [List.cons_append, List.nil_append, List.mem_cons, List.not_mem_nil, or_false] at hs; rcases hs with rfl | rfl | rfl | rfl | rfl | rfl | rfl | rfl | rfl | rfl | rfl <;> exact op_loadP1 rfl fone_Sstring rfl rfl) (by dsimp only [putD, List.set]) ?_
    first | (refine da_quiet2 (some 43) rfl rfl rfl rfl (fun s hs => op_lenL rfl fu_Sstring) (by dsimp only [putD, List.set]) ?_) | (refine da_quiet2 (some 43) rfl rfl rfl rfl (fun s hs => opOK_un (op_lenL rfl fu_Sstring)) (by dsimp only [putD, List.set]) ?_) | (refine da_quiet2 (some 43) rfl rfl rfl rfl (fun s hs => op_lenA rfl fu_Sstring) (by dsimp only [putD, List.set]) ?_)
    simp only [List.length_map, hSl2]
    refine da_eff2 (some 44) rfl rfl rfl rfl rfl rfl rfl rfl (op_call1 rfl rfl rfl rfl rfl (.ptr (.pl rfl .nil)) rfl hT1) (op_call1 rfl rfl rfl rfl rfl (.ptr (.pl rfl .nil)) rfl hT1) (by dsimp only [putD, List.set]) ?_
    refine da_m 0 45 rfl rfl rfl (.inl rfl) rfl ?_
    refine da_m 6 46 rfl rfl rfl (.inl rfl) rfl ?_
    refine da_eff2 (some 47) rfl rfl rfl rfl rfl rfl rfl rfl (op_call1 rfl rfl rfl rfl rfl (.ptr (.pl rfl (.pl rfl .nil))) rfl hN1) (op_call1 rfl rfl rfl rfl rfl (.ptr (.pl rfl (.pl rfl .nil))) rfl hN1) (by dsimp only [putD, List.set]) ?_
    refine da_m 0 48 rfl rfl rfl (.inl rfl) rfl ?_
    refine da_m 6 49 rfl rfl rfl (.inl rfl) rfl ?_
    refine da_eff2 (some 50) rfl rfl rfl rfl rfl rfl rfl rfl (op_call1 rfl rfl rfl rfl rfl (.ptr (.pl rfl (.pl rfl .nil))) rfl hG1) (op_call1 rfl rfl rfl rfl rfl (.ptr (.pl rfl (.pl rfl .nil))) rfl hG1) (by dsimp only [putD, List.set]) ?_
    refine da_quiet2 (some 51) rfl rfl rfl rfl (fun s hs => op_buildN rfl fbldN_api_Rule rfl rfl) (by dsimp only [putD, List.set]) ?_
    try dsimp only [V.cellsV, List.take, List.drop, List.cons_append, List.nil_append, List.length]
    refine da_free (some 8) rfl rfl rfl rfl (by simp) (by intro x hx; simp only [List.zip_cons_cons, List.zip_nil_left, List.zip_nil_right, List.mem_cons, List.not_mem_nil, or_false] at hx; rcases hx with rfl | rfl | rfl | rfl | rfl <;> exact op_allocN rfl fzeroN_api_Rule) (by dsimp only [putD, List.set]) ?_
    refine da_effT none rfl rfl rfl rfl rfl rfl (by decide +kernel) (op_store rfl rfl fagg_api_Rule rfl (q := 5) (off := 0) (cs := [.v (.str []), di 0, di 0, .v .nils, .v .nils, .v .nils, di 0, di 0, di 0, .v .nils, .v .nils, .v .nils, .v .nils, di 0]) rfl (by simp)) (by dsimp only [putD, List.set]) ?_
    refine da_end rfl ⟨by decide +kernel, _, rfl, ?_⟩
    refine at_seq [1, 1, 1, 0, 1, 0, 0, 1, 0, 0, 1, 0] [1, 1, 1, 0, 1, 0, 0, 1, 0, 0, 1, 1] rfl ?_
    refine at_seq [1, 1, 1, 0, 1, 0, 0, 1, 0, 0, 1, 0, 0] [1, 1, 1, 0, 1, 0, 0, 1, 0, 0, 1, 0, 1] rfl ?_
    refine at_region rfl ?_
    refine at_m 1 52 rfl rfl rfl (.inl rfl) rfl ?_
    refine at_m 52 53 rfl rfl rfl (.inl rfl) rfl ?_
    refine at_split 53 rfl (fun hb4 env' he => ?_) (fun hb4 env' he => ?_)
    ·dsimp only [List.set] at he; subst he
     exact absurd hb4 (by simp)
    ·dsimp only [List.set] at he; subst he
     refine at_opN (some 54) rfl rfl rfl (by dsimp only [putD, List.set]) ?_
     refine at_opN (some 55) rfl rfl rfl (by dsimp only [putD, List.set]) ?_
     refine at_opN (some 56) rfl rfl rfl (by dsimp only [putD, List.set]) ?_
     refine at_pkc false 53 57 rfl rfl rfl rfl rfl rfl (by dsimp only [constD]) (by dsimp only [List.set]) ?_
     refine at_end rfl ?_
     refine at_false [1, 1, 1, 0, 1, 0, 0, 1, 0, 0, 1, 0, 1, 0] [1, 1, 1, 0, 1, 0, 0, 1, 0, 0, 1, 0, 1, 1] rfl rfl ?_
     refine at_skip rfl ?_
     refine at_region rfl ?_
     first | (refine at_o 73 rfl rfl rfl rfl (op_fieldP rfl ffld7_api_Model (by decide)) ?_) | (refine at_o 73 rfl rfl rfl rfl (op_fieldR rfl ffld7_api_Model (by decide) (by decide) rfl) ?_)
     refine at_o 74 rfl rfl rfl rfl (op_loadP1 rfl fone_Sapi_Rule rfl rfl) ?_
     refine at_o 75 rfl rfl rfl rfl (op_loadPA rfl fagg_api_Rule rfl (by simp) rfl) ?_
     refine at_o 76 rfl rfl rfl rfl (op_buildSlice rfl (by rfl) (by rfl) fsl_Sapi_Rule rfl rfl (by simp [V.size]) (by decide) (by decide) (by decide)) ?_
     refine at_opS (some 77) rfl rfl rfl rfl (op_appendGV rfl fsl_Sapi_Rule rfl (by decide) rfl rfl (by simp [V.size]) (by simp) (by simp) (by simp)) (by dsimp only [putD, List.set]) (by dsimp only [List.set, List.append, List.cons_append, List.nil_append, cellsD, List.map, repl, List.length, Nat.reduceAdd, if_true, ↓reduceIte]; first | done | rfl) ?_
     first | (refine at_o 78 rfl rfl rfl rfl (op_fieldP rfl ffld7_api_Model (by decide)) ?_) | (refine at_o 78 rfl rfl rfl rfl (op_fieldR rfl ffld7_api_Model (by decide) (by decide) rfl) ?_)
     refine at_st1 78 (.tmp 77) rfl rfl rfl rfl rfl (ev_tmp rfl) rfl fone_Sapi_Rule rfl (by first | decide | simp | (simp; omega)) (by dsimp only [List.set, List.append, List.cons_append, List.nil_append, cellsD, List.map, repl, List.length, Nat.reduceAdd, if_true, ↓reduceIte]; first | done | rfl) ?_
     refine at_end rfl ?_
     refine run_blk ?_
     refine at_region rfl ?_
     refine at_m 7 29 rfl rfl rfl (.inl rfl) rfl ?_
     refine at_o 30 rfl rfl rfl rfl (op_binI rfl rfl) ?_
     rw [show IntKind.i64.wrap (1 + 1) = 2 from by decide]
     refine at_m 30 7 rfl rfl rfl (.inr rfl) rfl ?_
     refine at_end rfl ?_
     refine run_lp ?_
     refine at_seq [1, 1, 1, 0, 1, 0, 0, 0] [1, 1, 1, 0, 1, 0, 0, 1] rfl ?_
     refine at_seq [1, 1, 1, 0, 1, 0, 0, 0, 0] [1, 1, 1, 0, 1, 0, 0, 0, 1] rfl ?_
     refine at_region rfl ?_
     refine at_m 7 24 rfl rfl rfl (.inl rfl) rfl ?_
     refine at_m 0 25 rfl rfl rfl (.inl rfl) rfl ?_
     refine at_opS (some 26) rfl rfl rfl rfl (op_call1 rfl rfl rfl rfl rfl (.ptr (.pl rfl .nil)) rfl hC2) (by dsimp only [putD, List.set]) (by dsimp only [List.set, List.append, List.cons_append, List.nil_append, cellsD, List.map, repl, List.length, Nat.reduceAdd, if_true, ↓reduceIte]; first | done | rfl) ?_
     refine at_o 27 rfl rfl rfl rfl (op_binI rfl rfl) ?_
     rw [wrap_id (by omega) (by omega)]
     refine at_o 28 rfl rfl rfl rfl (op_binI rfl rfl) ?_
     refine at_end rfl ?_
     refine at_cond [1, 1, 1, 0, 1, 0, 0, 0, 1, 0] [1, 1, 1, 0, 1, 0, 0, 0, 1, 1] rfl rfl (fun hc5 => ?_) (fun hc5 => ?_)
     ·skip
      refine at_skip rfl ?_
      refine at_seq [1, 1, 1, 0, 1, 0, 0, 1, 0] [1, 1, 1, 0, 1, 0, 0, 1, 1] rfl ?_
      refine at_block [1, 1, 1, 0, 1, 0, 0, 1, 0, 0] 1 rfl ?_
      refine at_seq [1, 1, 1, 0, 1, 0, 0, 1, 0, 0, 0] [1, 1, 1, 0, 1, 0, 0, 1, 0, 0, 1] rfl ?_
      refine at_draw2 mixed rfl 21 [⟨[some [.v (.list (s.map vu)), .v (.int .i64 ((p21 : Nat) : Int))], some [di 0, .v .nils, .v .nils, .v .nils, .v .nils, di 0, di 0, .v .nils, di 0, .v .nils], some [di 1, .v (vNm (nmS.take ns)), .v (vNm (nmP.take np)), .v .nils, .v .nils, di 0, di 0, .gro 6 2 14, di 0, .v .nils], some [.v (.str [114]), di f0, di t0, .v (vl n0), .v (vl g0), .v .nils, di 0, di 0, di 0, .v .nils, .v .nils, .v .nils, .v .nils, di 0], none, some [.v (.str [115]), di f1, di t1, .v (vl n1), .v (vl g1), .v .nils, di 0, di 0, di 0, .v .nils, .v .nils, .v .nils, .v .nils, di 0], some (flatV [vRl (⟨[114], f0, t0, n0, g0⟩ : Rl)] ++ flatV [vRl (⟨[115], f1, t1, n1, g1⟩ : Rl)])], []⟩, ⟨[some [.v (.list (s.map vu)), .v (.int .i64 ((p22 : Nat) : Int))], some [di 0, .v .nils, .v .nils, .v .nils, .v .nils, di 0, di 0, .v .nils, di 0, .v .nils], some [di 1, .v (vNm (nmS.take ns)), .v (vNm (nmP.take np)), .v .nils, .v .nils, di 0, di 0, .gro 6 2 14, di 0, .v .nils], some [.v (.str [114]), di f0, di t0, .v (vl n0), .v (vl g0), .v .nils, di 0, di 0, di 0, .v .nils, .v .nils, .v .nils, .v .nils, di 0], none, some [.v (.str [115]), di f1, di t1, .v (vl n1), .v (vl g1), .v .nils, di 0, di 0, di 0, .v .nils, .v .nils, .v .nils, .v .nils, di 0], some (flatV [vRl (⟨[114], f0, t0, n0, g0⟩ : Rl)] ++ flatV [vRl (⟨[115], f1, t1, n1, g1⟩ : Rl)])], []⟩, ⟨[some [.v (.list (s.map vu)), .v (.int .i64 ((p23 : Nat) : Int))], some [di 0, .v .nils, .v .nils, .v .nils, .v .nils, di 0, di 0, .v .nils, di 0, .v .nils], some [di 1, .v (vNm (nmS.take ns)), .v (vNm (nmP.take np)), .v .nils, .v .nils, di 0, di 0, .gro 6 2 14, di 0, .v .nils], some [.v (.str [114]), di f0, di t0, .v (vl n0), .v (vl g0), .v .nils, di 0, di 0, di 0, .v .nils, .v .nils, .v .nils, .v .nils, di 0], none, some [.v (.str [115]), di f1, di t1, .v (vl n1), .v (vl g1), .v .nils, di 0, di 0, di 0, .v .nils, .v .nils, .v .nils, .v .nils, di 0], some (flatV [vRl (⟨[114], f0, t0, n0, g0⟩ : Rl)] ++ flatV [vRl (⟨[115], f1, t1, n1, g1⟩ : Rl)])], []⟩, ⟨[some [.v (.list (s.map vu)), .v (.int .i64 ((p24 : Nat) : Int))], some [di 0, .v .nils, .v .nils, .v .nils, .v .nils, di 0, di 0, .v .nils, di 0, .v .nils], some [di 1, .v (vNm (nmS.take ns)), .v (vNm (nmP.take np)), .v .nils, .v .nils, di 0, di 0, .gro 6 2 14, di 0, .v .nils], some [.v (.str [114]), di f0, di t0, .v (vl n0), .v (vl g0), .v .nils, di 0, di 0, di 0, .v .nils, .v .nils, .v .nils, .v .nils, di 0], none, some [.v (.str [115]), di f1, di t1, .v (vl n1), .v (vl g1), .v .nils, di 0, di 0, di 0, .v .nils, .v .nils, .v .nils, .v .nils, di 0], some (flatV [vRl (⟨[114], f0, t0, n0, g0⟩ : Rl)] ++ flatV [vRl (⟨[115], f1, t1, n1, g1⟩ : Rl)])], []⟩, ⟨[some [.v (.list (s.map vu)), .v (.int .i64 ((p30 : Nat) : Int))], some [di 0, .v .nils, .v .nils, .v .nils, .v .nils, di 0, di 0, .v .nils, di 0, .v .nils], some [di 1, .v (vNm (nmS.take ns)), .v (vNm (nmP.take np)), .v .nils, .v .nils, di 0, di 0, .gro 6 2 14, di 0, .v .nils], some [.v (.str [114]), di f0, di t0, .v (vl n0), .v (vl g0), .v .nils, di 0, di 0, di 0, .v .nils, .v .nils, .v .nils, .v .nils, di 0], none, some [.v (.str [115]), di f1, di t1, .v (vl n1), .v (vl g1), .v .nils, di 0, di 0, di 0, .v .nils, .v .nils, .v .nils, .v .nils, di 0], some (flatV [vRl (⟨[114], f0, t0, n0, g0⟩ : Rl)] ++ flatV [vRl (⟨[115], f1, t1, n1, g1⟩ : Rl)])], []⟩] [⟨[some [.v (.list (s.map vu)), .v (.int .i64 ((p21 : Nat) : Int))], some [di 0, .v .nils, .v .nils, .v .nils, .v .nils, di 0, di 0, .v .nils, di 0, .v .nils], some [di 1, .v (vNm (nmS.take ns)), .v (vNm (nmP.take np)), .v .nils, .v .nils, di 0, di 0, .gro 6 2 14, di 0, .v .nils], some [.v (.str [114]), di f0, di t0, .v (vl n0), .v (vl g0), .v .nils, di 0, di 0, di 0, .v .nils, .v .nils, .v .nils, .v .nils, di 0], none, some [.v (.str [115]), di f1, di t1, .v (vl n1), .v (vl g1), .v .nils, di 0, di 0, di 0, .v .nils, .v .nils, .v .nils, .v .nils, di 0], some (flatV [vRl (⟨[114], f0, t0, n0, g0⟩ : Rl)] ++ flatV [vRl (⟨[115], f1, t1, n1, g1⟩ : Rl)]), some [.v (.str []), di 0, di 0, .v .nils, .v .nils, .v .nils, di 0, di 0, di 0, .v .nils, .v .nils, .v .nils, .v .nils, di 0]], []⟩, ⟨[some [.v (.list (s.map vu)), .v (.int .i64 ((p22 : Nat) : Int))], some [di 0, .v .nils, .v .nils, .v .nils, .v .nils, di 0, di 0, .v .nils, di 0, .v .nils], some [di 1, .v (vNm (nmS.take ns)), .v (vNm (nmP.take np)), .v .nils, .v .nils, di 0, di 0, .gro 6 2 14, di 0, .v .nils], some [.v (.str [114]), di f0, di t0, .v (vl n0), .v (vl g0), .v .nils, di 0, di 0, di 0, .v .nils, .v .nils, .v .nils, .v .nils, di 0], none, some [.v (.str [115]), di f1, di t1, .v (vl n1), .v (vl g1), .v .nils, di 0, di 0, di 0, .v .nils, .v .nils, .v .nils, .v .nils, di 0], some (flatV [vRl (⟨[114], f0, t0, n0, g0⟩ : Rl)] ++ flatV [vRl (⟨[115], f1, t1, n1, g1⟩ : Rl)]), some [.v (.str []), di 0, di 0, .v .nils, .v .nils, .v .nils, di 0, di 0, di 0, .v .nils, .v .nils, .v .nils, .v .nils, di 0]], []⟩, ⟨[some [.v (.list (s.map vu)), .v (.int .i64 ((p23 : Nat) : Int))], some [di 0, .v .nils, .v .nils, .v .nils, .v .nils, di 0, di 0, .v .nils, di 0, .v .nils], some [di 1, .v (vNm (nmS.take ns)), .v (vNm (nmP.take np)), .v .nils, .v .nils, di 0, di 0, .gro 6 2 14, di 0, .v .nils], some [.v (.str [114]), di f0, di t0, .v (vl n0), .v (vl g0), .v .nils, di 0, di 0, di 0, .v .nils, .v .nils, .v .nils, .v .nils, di 0], none, some [.v (.str [115]), di f1, di t1, .v (vl n1), .v (vl g1), .v .nils, di 0, di 0, di 0, .v .nils, .v .nils, .v .nils, .v .nils, di 0], some (flatV [vRl (⟨[114], f0, t0, n0, g0⟩ : Rl)] ++ flatV [vRl (⟨[115], f1, t1, n1, g1⟩ : Rl)]), some [.v (.str []), di 0, di 0, .v .nils, .v .nils, .v .nils, di 0, di 0, di 0, .v .nils, .v .nils, .v .nils, .v .nils, di 0]], []⟩, ⟨[some [.v (.list (s.map vu)), .v (.int .i64 ((p24 : Nat) : Int))], some [di 0, .v .nils, .v .nils, .v .nils, .v .nils, di 0, di 0, .v .nils, di 0, .v .nils], some [di 1, .v (vNm (nmS.take ns)), .v (vNm (nmP.take np)), .v .nils, .v .nils, di 0, di 0, .gro 6 2 14, di 0, .v .nils], some [.v (.str [114]), di f0, di t0, .v (vl n0), .v (vl g0), .v .nils, di 0, di 0, di 0, .v .nils, .v .nils, .v .nils, .v .nils, di 0], none, some [.v (.str [115]), di f1, di t1, .v (vl n1), .v (vl g1), .v .nils, di 0, di 0, di 0, .v .nils, .v .nils, .v .nils, .v .nils, di 0], some (flatV [vRl (⟨[114], f0, t0, n0, g0⟩ : Rl)] ++ flatV [vRl (⟨[115], f1, t1, n1, g1⟩ : Rl)]), some [.v (.str []), di 0, di 0, .v .nils, .v .nils, .v .nils, di 0, di 0, di 0, .v .nils, .v .nils, .v .nils, .v .nils, di 0]], []⟩, ⟨[some [.v (.list (s.map vu)), .v (.int .i64 ((p30 : Nat) : Int))], some [di 0, .v .nils, .v .nils, .v .nils, .v .nils, di 0, di 0, .v .nils, di 0, .v .nils], some [di 1, .v (vNm (nmS.take ns)), .v (vNm (nmP.take np)), .v .nils, .v .nils, di 0, di 0, .gro 6 2 14, di 0, .v .nils], some [.v (.str [114]), di f0, di t0, .v (vl n0), .v (vl g0), .v .nils, di 0, di 0, di 0, .v .nils, .v .nils, .v .nils, .v .nils, di 0], none, some [.v (.str [115]), di f1, di t1, .v (vl n1), .v (vl g1), .v .nils, di 0, di 0, di 0, .v .nils, .v .nils, .v .nils, .v .nils, di 0], some (flatV [vRl (⟨[114], f0, t0, n0, g0⟩ : Rl)] ++ flatV [vRl (⟨[115], f1, t1, n1, g1⟩ : Rl)]), some [.v (.str []), di 0, di 0, .v .nils, .v .nils, .v .nils, di 0, di 0, di 0, .v .nils, .v .nils, .v .nils, .v .nils, di 0]], []⟩, ⟨[some [.v (.list (s.map vu)), .v (.int .i64 ((p30 : Nat) : Int))], some [di 0, .v .nils, .v .nils, .v .nils, .v .nils, di 0, di 0, .v .nils, di 0, .v .nils], some [di 1, .v (vNm (nmS.take ns)), .v (vNm (nmP.take np)), .v .nils, .v .nils, di 0, di 0, .gro 6 2 14, di 0, .v .nils], some [.v (.str [114]), di f0, di t0, .v (vl n0), .v (vl g0), .v .nils, di 0, di 0, di 0, .v .nils, .v .nils, .v .nils, .v .nils, di 0], none, some [.v (.str [115]), di f1, di t1, .v (vl n1), .v (vl g1), .v .nils, di 0, di 0, di 0, .v .nils, .v .nils, .v .nils, .v .nils, di 0], some (flatV [vRl (⟨[114], f0, t0, n0, g0⟩ : Rl)] ++ flatV [vRl (⟨[115], f1, t1, n1, g1⟩ : Rl)]), some [.v (.str [116]), di f2, di t2, .v (vl n2), .v (vl g2), .v .nils, di 0, di 0, di 0, .v .nils, .v .nils, .v .nils, .v .nils, di 0]], []⟩] (by decide +kernel) rfl ?_
      refine da_quiet2 (some 31) rfl rfl rfl rfl (fun s hs => op_buildSlice rfl (by rfl) (by rfl) fsl_Sstring rfl (xs := nmR.map V.str) rfl (by simp [V.size]) (by decide) (by decide) (by decide)) (by dsimp only [putD, List.set]) ?_
      refine da_m 7 32 rfl rfl rfl (.inl rfl) rfl ?_
      first | (refine da_quiet2 (some 33) rfl rfl rfl rfl (fun s hs => op_idxL rfl fsl_Sstring (by first | decide | omega) (by first | assumption | exact idx_some (by assumption) | rfl) (by first | rfl | (simp [V.size]; done))) (by dsimp only [putD, List.set]) ?_) | (refine da_quiet2 (some 33) rfl rfl rfl rfl (fun s hs => opOK_un (op_idxL rfl fsl_Sstring (by first | decide | omega) (by first | assumption | exact idx_some (by assumption) | rfl) (by first | rfl | (simp [V.size]; done)))) (by dsimp only [putD, List.set]) ?_) | (refine da_quiet2 (some 33) rfl rfl rfl rfl (fun s hs => op_idxA rfl fsl_Sstring (by first | decide | omega) (by first | decide | omega)) (by dsimp only [putD, List.set]) ?_)
      first | (refine da_quiet2 (some 34) rfl rfl rfl rfl (fun s hs => op_loadR1 rfl fone_string rfl) (by dsimp only [putD, List.set]) ?_) | (refine da_quiet2 (some 34) rfl rfl rfl rfl (by intro s hs; simp only [List.cons_append, List.nil_append, List.mem_cons, List.not_mem_nil, or_false] at hs; rcases hs with rfl | rfl | rfl | rfl | rfl | rfl | rfl | rfl | rfl | rfl | rfl <;> exact op_loadP1 rfl fone_string rfl rfl) (by dsimp only [putD, List.set]) ?_)
      refine da_m 0 35 rfl rfl rfl (.inl rfl) rfl ?_
      first | (refine da_quiet2 (some 36) rfl rfl rfl rfl (fun s hs => op_fieldP rfl ffld1_api_Model (by decide)) (by dsimp only [putD, List.set]) ?_) | (refine da_quiet2 (some 36) rfl rfl rfl rfl (fun s hs => op_fieldR rfl ffld1_api_Model (by decide) (by decide) rfl) (by dsimp only [putD, List.set]) ?_)
      refine da_quiet2 (some 37) rfl rfl rfl rfl (by intro s hs; simp only [List.cons_append, List.nil_append, List.mem_cons, List.not_mem_nil, or_false] at hs; rcases hs with rfl | rfl | rfl | rfl | rfl | rfl | rfl | rfl | rfl | rfl | rfl <;> exact op_loadP1 rfl fone_Sstring rfl rfl) (by dsimp only [putD, List.set]) ?_
      first | (refine da_quiet2 (some 38) rfl rfl rfl rfl (fun s hs => op_lenL rfl fu_Sstring) (by dsimp only [putD, List.set]) ?_) | (refine da_quiet2 (some 38) rfl rfl rfl rfl (fun s hs => opOK_un (op_lenL rfl fu_Sstring)) (by dsimp only [putD, List.set]) ?_) | (refine da_quiet2 (some 38) rfl rfl rfl rfl (fun s hs => op_lenA rfl fu_Sstring) (by dsimp only [putD, List.set]) ?_)
      simp only [List.length_map, hSl2]
      refine da_eff2 (some 39) rfl rfl rfl rfl rfl rfl rfl rfl (op_call1 rfl rfl rfl rfl rfl (.ptr (.pl rfl .nil)) rfl hF2) (op_call1 rfl rfl rfl rfl rfl (.ptr (.pl rfl .nil)) rfl hF2) (by dsimp only [putD, List.set]) ?_
      refine da_m 0 40 rfl rfl rfl (.inl rfl) rfl ?_
      first | (refine da_quiet2 (some 41) rfl rfl rfl rfl (fun s hs => op_fieldP rfl ffld1_api_Model (by decide)) (by dsimp only [putD, List.set]) ?_) | (refine da_quiet2 (some 41) rfl rfl rfl rfl (fun s hs => op_fieldR rfl ffld1_api_Model (by decide) (by decide) rfl) (by dsimp only [putD, List.set]) ?_)
      refine da_quiet2 (some 42) rfl rfl rfl rfl (by intro s hs; simp only [List.cons_append, List.nil_append, List.mem_cons, List.not_mem_nil, or_false] at hs; rcases hs with rfl | rfl | rfl | rfl | rfl | rfl | rfl | rfl | rfl | rfl | rfl <;> exact op_loadP1 rfl fone_Sstring rfl rfl) (by dsimp only [putD, List.set]) ?_
      first | (refine da_quiet2 (some 43) rfl rfl rfl rfl (fun s hs => op_lenL rfl fu_Sstring) (by dsimp only [putD, List.set]) ?_) | (refine da_quiet2 (some 43) rfl rfl rfl rfl (fun s hs => opOK_un (op_lenL rfl fu_Sstring)) (by dsimp only [putD, List.set]) ?_) | (refine da_quiet2 (some 43) rfl rfl rfl rfl (fun s hs => op_lenA rfl fu_Sstring) (by dsimp only [putD, List.set]) ?_)
      simp only [List.length_map, hSl2]
      refine da_eff2 (some 44) rfl rfl rfl rfl rfl rfl rfl rfl (op_call1 rfl rfl rfl rfl rfl (.ptr (.pl rfl .nil)) rfl hT2) (op_call1 rfl rfl rfl rfl rfl (.ptr (.pl rfl .nil)) rfl hT2) (by dsimp only [putD, List.set]) ?_
      refine da_m 0 45 rfl rfl rfl (.inl rfl) rfl ?_
      refine da_m 6 46 rfl rfl rfl (.inl rfl) rfl ?_
      refine da_eff2 (some 47) rfl rfl rfl rfl rfl rfl rfl rfl (op_call1 rfl rfl rfl rfl rfl (.ptr (.pl rfl (.pl rfl .nil))) rfl hN2) (op_call1 rfl rfl rfl rfl rfl (.ptr (.pl rfl (.pl rfl .nil))) rfl hN2) (by dsimp only [putD, List.set]) ?_
      refine da_m 0 48 rfl rfl rfl (.inl rfl) rfl ?_
      refine da_m 6 49 rfl rfl rfl (.inl rfl) rfl ?_
      refine da_eff2 (some 50) rfl rfl rfl rfl rfl rfl rfl rfl (op_call1 rfl rfl rfl rfl rfl (.ptr (.pl rfl (.pl rfl .nil))) rfl hG2) (op_call1 rfl rfl rfl rfl rfl (.ptr (.pl rfl (.pl rfl .nil))) rfl hG2) (by dsimp only [putD, List.set]) ?_
      refine da_quiet2 (some 51) rfl rfl rfl rfl (fun s hs => op_buildN rfl fbldN_api_Rule rfl rfl) (by dsimp only [putD, List.set]) ?_
      try dsimp only [V.cellsV, List.take, List.drop, List.cons_append, List.nil_append, List.length]
      refine da_free (some 8) rfl rfl rfl rfl (by simp) (by intro x hx; simp only [List.zip_cons_cons, List.zip_nil_left, List.zip_nil_right, List.mem_cons, List.not_mem_nil, or_false] at hx; rcases hx with rfl | rfl | rfl | rfl | rfl <;> exact op_allocN rfl fzeroN_api_Rule) (by dsimp only [putD, List.set]) ?_
      refine da_effT none rfl rfl rfl rfl rfl rfl (by decide +kernel) (op_store rfl rfl fagg_api_Rule rfl (q := 7) (off := 0) (cs := [.v (.str []), di 0, di 0, .v .nils, .v .nils, .v .nils, di 0, di 0, di 0, .v .nils, .v .nils, .v .nils, .v .nils, di 0]) rfl (by simp)) (by dsimp only [putD, List.set]) ?_
      refine da_end rfl ⟨by decide +kernel, _, rfl, ?_⟩
      refine at_seq [1, 1, 1, 0, 1, 0, 0, 1, 0, 0, 1, 0] [1, 1, 1, 0, 1, 0, 0, 1, 0, 0, 1, 1] rfl ?_
      refine at_seq [1, 1, 1, 0, 1, 0, 0, 1, 0, 0, 1, 0, 0] [1, 1, 1, 0, 1, 0, 0, 1, 0, 0, 1, 0, 1] rfl ?_
      refine at_region rfl ?_
      refine at_m 1 52 rfl rfl rfl (.inl rfl) rfl ?_
      refine at_m 52 53 rfl rfl rfl (.inl rfl) rfl ?_
      refine at_split 53 rfl (fun hb6 env' he => ?_) (fun hb6 env' he => ?_)
      ·dsimp only [List.set] at he; subst he
       exact absurd hb6 (by simp)
      ·dsimp only [List.set] at he; subst he
       refine at_opN (some 54) rfl rfl rfl (by dsimp only [putD, List.set]) ?_
       refine at_opN (some 55) rfl rfl rfl (by dsimp only [putD, List.set]) ?_
       refine at_opN (some 56) rfl rfl rfl (by dsimp only [putD, List.set]) ?_
       refine at_pkc false 53 57 rfl rfl rfl rfl rfl rfl (by dsimp only [constD]) (by dsimp only [List.set]) ?_
       refine at_end rfl ?_
       refine at_false [1, 1, 1, 0, 1, 0, 0, 1, 0, 0, 1, 0, 1, 0] [1, 1, 1, 0, 1, 0, 0, 1, 0, 0, 1, 0, 1, 1] rfl rfl ?_
       refine at_skip rfl ?_
       refine at_region rfl ?_
       first | (refine at_o 73 rfl rfl rfl rfl (op_fieldP rfl ffld7_api_Model (by decide)) ?_) | (refine at_o 73 rfl rfl rfl rfl (op_fieldR rfl ffld7_api_Model (by decide) (by decide) rfl) ?_)
       refine at_o 74 rfl rfl rfl rfl (op_loadP1 rfl fone_Sapi_Rule rfl rfl) ?_
       refine at_o 75 rfl rfl rfl rfl (op_loadPA rfl fagg_api_Rule rfl (by simp) rfl) ?_
       refine at_o 76 rfl rfl rfl rfl (op_buildSlice rfl (by rfl) (by rfl) fsl_Sapi_Rule rfl rfl (by simp [V.size]) (by decide) (by decide) (by decide)) ?_
       refine at_opS (some 77) rfl rfl rfl rfl (op_appendGV rfl fsl_Sapi_Rule rfl (by decide) rfl rfl (by simp [V.size]) (by simp) (by simp) (by simp)) (by dsimp only [putD, List.set]) (by dsimp only [List.set, List.append, List.cons_append, List.nil_append, cellsD, List.map, repl, List.length, Nat.reduceAdd, if_true, ↓reduceIte]; first | done | rfl) ?_
       first | (refine at_o 78 rfl rfl rfl rfl (op_fieldP rfl ffld7_api_Model (by decide)) ?_) | (refine at_o 78 rfl rfl rfl rfl (op_fieldR rfl ffld7_api_Model (by decide) (by decide) rfl) ?_)
       refine at_st1 78 (.tmp 77) rfl rfl rfl rfl rfl (ev_tmp rfl) rfl fone_Sapi_Rule rfl (by first | decide | simp | (simp; omega)) (by dsimp only [List.set, List.append, List.cons_append, List.nil_append, cellsD, List.map, repl, List.length, Nat.reduceAdd, if_true, ↓reduceIte]; first | done | rfl) ?_
       refine at_end rfl ?_
       refine run_blk ?_
       refine at_region rfl ?_
       refine at_m 7 29 rfl rfl rfl (.inl rfl) rfl ?_
       refine at_o 30 rfl rfl rfl rfl (op_binI rfl rfl) ?_
       rw [show IntKind.i64.wrap (2 + 1) = 3 from by decide]
       refine at_m 30 7 rfl rfl rfl (.inr rfl) rfl ?_
       refine at_end rfl ?_
       refine run_lp ?_
       refine at_seq [1, 1, 1, 0, 1, 0, 0, 0] [1, 1, 1, 0, 1, 0, 0, 1] rfl ?_
       refine at_seq [1, 1, 1, 0, 1, 0, 0, 0, 0] [1, 1, 1, 0, 1, 0, 0, 0, 1] rfl ?_
       refine at_region rfl ?_
       refine at_m 7 24 rfl rfl rfl (.inl rfl) rfl ?_
       refine at_m 0 25 rfl rfl rfl (.inl rfl) rfl ?_
       refine at_opS (some 26) rfl rfl rfl rfl (op_call1 rfl rfl rfl rfl rfl (.ptr (.pl rfl .nil)) rfl hCz) (by dsimp only [putD, List.set]) (by dsimp only [List.set, List.append, List.cons_append, List.nil_append, cellsD, List.map, repl, List.length, Nat.reduceAdd, if_true, ↓reduceIte]; first | done | rfl) ?_
       refine at_o 27 rfl rfl rfl rfl (op_binI rfl rfl) ?_
       rw [wrap_id (by omega) (by omega)]
       refine at_o 28 rfl rfl rfl rfl (op_binI rfl rfl) ?_
       refine at_end rfl ?_
       refine at_cond [1, 1, 1, 0, 1, 0, 0, 0, 1, 0] [1, 1, 1, 0, 1, 0, 0, 0, 1, 1] rfl rfl (fun hc7 => ?_) (fun hc7 => ?_)
       ·skip
        exact absurd hc7 (by simp only [decide_eq_true_eq, decide_eq_false_iff_not, Bool.not_eq_true]; omega)
       ·skip
        refine at_exit rfl rfl ?_
        refine at_seq [1, 1, 1, 1, 0] [1, 1, 1, 1, 1] rfl ?_
        refine at_region rfl ?_
        refine at_m 0 79 rfl rfl rfl (.inl rfl) rfl ?_
        refine at_m 6 80 rfl rfl rfl (.inl rfl) rfl ?_
        refine at_opS (some 81) rfl rfl rfl rfl (op_call1 rfl rfl rfl rfl rfl (.ptr (.pl rfl (.pl rfl .nil))) rfl hS) (by dsimp only [putD, List.set]) (by dsimp only [List.set, List.append, List.cons_append, List.nil_append, cellsD, List.map, repl, List.length, Nat.reduceAdd, if_true, ↓reduceIte]; first | done | rfl) ?_
        refine at_o 82 rfl rfl rfl rfl (op_call0 rfl rfl rfl rfl (cfg28_spec 0 st (by omega))) ?_
        first | (refine at_o 83 rfl rfl rfl rfl (op_fieldP rfl ffld8_api_Model (by decide)) ?_) | (refine at_o 83 rfl rfl rfl rfl (op_fieldR rfl ffld8_api_Model (by decide) (by decide) rfl) ?_)
        refine at_stA 83 (.tmp 82) rfl rfl rfl rfl rfl (ev_tmp rfl) rfl fagg_api_Value rfl rfl (by first | decide | simp | (simp; omega)) (by dsimp only [List.set, List.append, List.cons_append, List.nil_append, cellsD, List.map, repl, List.length, Nat.reduceAdd, if_true, ↓reduceIte]; first | done | rfl) ?_
        refine at_end rfl ?_
        refine at_seq [1, 1, 1, 1, 1, 0] [1, 1, 1, 1, 1, 1] rfl ?_
        refine at_region rfl ?_
        refine at_o 84 rfl rfl rfl rfl (op_loadPD rfl fagg_api_Model rfl (by simp) rfl) ?_
        refine at_stA 4 (.tmp 84) rfl rfl rfl rfl rfl (ev_tmp rfl) rfl fagg_api_Model rfl rfl (by first | decide | simp | (simp; omega)) (by dsimp only [List.set, List.append, List.cons_append, List.nil_append, cellsD, List.map, repl, List.length, Nat.reduceAdd, if_true, ↓reduceIte]; first | done | rfl) ?_
        refine at_end rfl ?_
        exact at_ret rfl (res_dagg [1, 2, 3, 5, 7] rfl rfl rfl fagg_api_Model rfl rfl rfl (fun i cs h => by match i, h with | 0, h => (simp at h; subst h; rfl) | 1, h => (simp at h) | 2, h => (simp at h) | 3, h => (simp at h) | 4, h => (simp at h) | 5, h => (simp at h) | 6, h => (simp at h) | 7, h => (simp at h) | 8, h => (simp at h; subst h; rfl) | i + 9, h => simp at h))
     ·skip
      exact absurd hc5 (by simp only [decide_eq_true_eq, decide_eq_false_iff_not, Bool.not_eq_true]; omega)
   ·skip
    exact absurd hc3 (by simp only [decide_eq_true_eq, decide_eq_false_iff_not, Bool.not_eq_true]; omega)
 ·skip
  exact absurd hc1 (by simp only [decide_eq_true_eq, decide_eq_false_iff_not, Bool.not_eq_true]; omega)
end Go.Proofs.YtmdipbhjhkckjaaGreat

namespace Go.Proofs.YtmdipbhjhkckjaaGreat
open Go.Dv
structure RowOK (cs : List (List Int)) (L : List Stp) (row : List Arc) : Prop where
 len : row.length = L.length
 arc : ∀ (k : Nat) (a : Arc) (s : Stp), row[k]? = some a → L[k]? = some s → a.1 = s.1 ∧ 0 ≤ a.2 ∧ cs[a.2.toNat]? = some s.2
theorem RowOK.grow {cs : List (List Int)} {L : List Stp} {row : List Arc} (h : RowOK cs L row) (t : List (List Int)) : RowOK (cs ++ t) L row :=
 ⟨h.len, fun k a s h1 h2 => by
  obtain ⟨e1, e2, e3⟩ := h.arc k a s h1 h2
  exact ⟨e1, e2, by rw [List.getElem?_append_left (List.getElem?_eq_some_iff.1 e3).1]; exact e3⟩⟩
theorem RowOK.snoc {cs : List (List Int)} {L : List Stp} {row : List Arc} (h : RowOK cs L row) {s : Stp} {x : Int} (h0 : 0 ≤ x) (hx : cs[x.toNat]? = some s.2) : RowOK cs (L ++ [s]) (row ++ [(s.1, x)]) := by
 have hl := h.len
 refine ⟨by simp [hl], fun k a t h1 h2 => ?_⟩
 by_cases hk : k < row.length
 ·rw [List.getElem?_append_left hk] at h1
  rw [List.getElem?_append_left (by omega)] at h2
  exact h.arc k a t h1 h2
 ·rw [List.getElem?_append_right (by omega)] at h1
  rw [List.getElem?_append_right (by omega)] at h2
  have e1 : k - row.length = 0 := by have := (List.getElem?_eq_some_iff.1 h1).1; simp at this; omega
  rw [e1] at h1
  rw [show k - L.length = 0 by omega] at h2
  simp at h1 h2
  subst h1 h2
  exact ⟨rfl, h0, hx⟩
theorem inM_row : ∀ (L : List Stp) (cs : List (List Int)) (row : List Arc) (L0 : List Stp), RowOK cs L0 row →
  ∃ t, (inM L cs row).1 = cs ++ t ∧ RowOK (inM L cs row).1 (L0 ++ L) (inM L cs row).2 ∧ (∀ a ∈ row, a ∈ (inM L cs row).2) ∧ ∀ j, cs.length ≤ j → j < (inM L cs row).1.length → ∃ a ∈ (inM L cs row).2, a.2 = (j : Int)
 | [], cs, row, L0, h => ⟨[], by simp [inM], by simpa [inM] using h, fun a ha => ha, fun j h1 h2 => by simp [inM] at h2; omega⟩
 | s :: L, cs, row, L0, h => by
  unfold inM
  split
  ·obtain ⟨t, e, hr, hsub, hj⟩ := inM_row L (cs ++ [s.2]) (row ++ [(s.1, (cs.length : Int))]) (L0 ++ [s]) ((h.grow [s.2]).snoc (by omega) (by simp))
   refine ⟨s.2 :: t, by rw [e]; simp, by simpa using hr, fun a ha => hsub a (by simp [ha]), fun j h1 h2 => ?_⟩
   by_cases hjj : j = cs.length
   ·exact ⟨(s.1, (cs.length : Int)), hsub _ (by simp), by simp [hjj]⟩
   ·exact hj j (by simp; omega) h2
  ·rename_i hx
   have hix : 0 ≤ ixM cs s.2 ∧ cs[(ixM cs s.2).toNat]? = some s.2 := by
    rcases ixM_spec cs s.2 with ⟨h1, _⟩ | ⟨j, h1, h2⟩
    ·omega
    ·rw [h1]; exact ⟨by omega, by simpa using h2⟩
   obtain ⟨t, e, hr, hsub, hj⟩ := inM_row L cs (row ++ [(s.1, ixM cs s.2)]) (L0 ++ [s]) (h.snoc hix.1 hix.2)
   exact ⟨t, e, by simpa using hr, fun a ha => hsub a (by simp [ha]), hj⟩
structure BInv (m : Md) (cs : List (List Int)) (A : List (List Arc)) : Prop where
 ok : CsOK m cs
 first : cs[0]? = some m.start
 le : A.length ≤ cs.length
 rows : ∀ (k : Nat) (row : List Arc) (c : List Int), A[k]? = some row → cs[k]? = some c → RowOK cs (stM m.rules 0 c) row
 pred : ∀ j, j < cs.length → j = 0 ∨ ∃ (k : Nat) (row : List Arc) (a : Arc), k < j ∧ A[k]? = some row ∧ a ∈ row ∧ a.2 = (j : Int)
theorem BInv.step {m : Md} (hm : MdS m) {cs : List (List Int)} {A : List (List Arc)} (h : BInv m cs A) {c : List Int} (hc : cs[A.length]? = some c) : BInv m (inM (stM m.rules 0 c) cs []).1 (A ++ [(inM (stM m.rules 0 c) cs []).2]) := by
 have hcS := h.ok.ok c (List.mem_of_getElem? hc)
 have hlt := (List.getElem?_eq_some_iff.1 hc).1
 have hL := stM_ok hm hcS m.rules 0 (fun r hr => hr)
 have hok := inM_ok (m := m) (stM m.rules 0 c) cs [] h.ok hL
 obtain ⟨t, e, hr, _, hj⟩ := inM_row (stM m.rules 0 c) cs [] [] ⟨rfl, fun k a s h1 => by simp at h1⟩
 rw [List.nil_append] at hr
 generalize inM (stM m.rules 0 c) cs [] = X at hok e hr hj ⊢
 obtain ⟨cs', row'⟩ := X
 simp only at hok e hr hj ⊢
 subst e
 refine ⟨hok, ?_, by simp; omega, fun k row d h1 h2 => ?_, fun j hjl => ?_⟩
 ·rw [List.getElem?_append_left (by omega)]; exact h.first
 ·by_cases hk : k < A.length
  ·rw [List.getElem?_append_left hk] at h1
   rw [List.getElem?_append_left (by omega)] at h2
   exact (h.rows k row d h1 h2).grow t
  ·rw [List.getElem?_append_right (by omega)] at h1
   have e1 : k - A.length = 0 := by have := (List.getElem?_eq_some_iff.1 h1).1; simp at this; omega
   rw [e1] at h1
   simp at h1; subst h1
   have e2 : k = A.length := by omega
   subst e2
   rw [List.getElem?_append_left hlt, hc] at h2
   simp at h2; subst h2
   exact hr
 ·by_cases hj1 : j < cs.length
  ·rcases h.pred j hj1 with h0 | ⟨k, row, a, h1, h2, h3, h4⟩
   ·exact .inl h0
   ·exact .inr ⟨k, row, a, h1, by rw [List.getElem?_append_left (List.getElem?_eq_some_iff.1 h2).1]; exact h2, h3, h4⟩
  ·obtain ⟨a, ha, ha2⟩ := hj j (by omega) hjl
   exact .inr ⟨A.length, row', a, by omega, by simp, ha, ha2⟩
theorem outM_inv {m : Md} (hm : MdS m) : ∀ (f : Nat) (cs : List (List Int)) (A : List (List Arc)), BInv m cs A → f + A.length = 99 → BInv m (outM m.rules f A.length cs A).1 (outM m.rules f A.length cs A).2 ∧ (outM m.rules f A.length cs A).2.length = (outM m.rules f A.length cs A).1.length
 | 0, cs, A, h, hf => by
  have := h.ok.le hm.ok
  have := h.le
  omega
 | f + 1, cs, A, h, hf => by
  simp only [outM]
  cases hc : cs[A.length]? with
  | none =>
   have := List.getElem?_eq_none_iff.1 hc
   exact ⟨h, by have := h.le; simp only; omega⟩
  | some c =>
   have h1 := h.step hm hc
   have := outM_inv hm f _ _ h1 (by simp; omega)
   simpa using this
theorem built_inv {m : Md} (hm : MdS m) (hst : CfS m.ns m.np m.start) : BInv m (outM m.rules 99 0 [m.start] []).1 (outM m.rules 99 0 [m.start] []).2 ∧ (outM m.rules 99 0 [m.start] []).2.length = (outM m.rules 99 0 [m.start] []).1.length :=
 outM_inv hm 99 [m.start] [] ⟨⟨by simpa using hst, by simp⟩, rfl, by simp, fun k row c h => by simp at h, fun j hj => by simp at hj; exact .inl hj⟩ rfl
theorem BInv.g {m : Md} (hm : MdS m) {cs : List (List Int)} {A : List (List Arc)} (h : BInv m cs A) (hl : A.length = cs.length) : GOK cs.length A := by
 refine ⟨?_, by have := h.ok.le hm.ok; omega, hl, fun row hrow => ?_⟩
 ·have := (List.getElem?_eq_some_iff.1 h.first).1; omega
 ·obtain ⟨k, hk⟩ := List.getElem?_of_mem hrow
  obtain ⟨c, hc⟩ := get_ex (a := cs) (i := k) (by have := (List.getElem?_eq_some_iff.1 hk).1; omega)
  have hr := h.rows k row c hk hc
  have h3 := stM_le c m.rules 0
  have h4 := hm.ok.k1
  have h5 := hr.len
  refine ⟨by omega, fun a ha => ?_⟩
  obtain ⟨j, hj⟩ := List.getElem?_of_mem ha
  obtain ⟨s, hs⟩ := get_ex (a := stM m.rules 0 c) (i := j) (by have := (List.getElem?_eq_some_iff.1 hj).1; omega)
  obtain ⟨_, e2, e3⟩ := hr.arc j a s hj hs
  have := (List.getElem?_eq_some_iff.1 e3).1
  omega
theorem BInv.path {m : Md} {cs : List (List Int)} {A : List (List Arc)} (h : BInv m cs A) : ∀ (j : Nat), j < cs.length → Path A 0 j := by
 intro j
 induction j using Nat.strongRecOn with
 | _ j ih =>
  intro hj
  rcases h.pred j hj with rfl | ⟨k, row, a, h1, h2, h3, h4⟩
  ·exact .refl 0
  ·exact (ih k h1 (by omega)).snoc ⟨a, by rw [stepM_get h2]; exact h3, by rw [h4]; simp⟩
theorem BInv.all {m : Md} (hm : MdS m) {cs : List (List Int)} {A : List (List Arc)} (h : BInv m cs A) (hl : A.length = cs.length) : (reachL A cs.length 0).length = cs.length := by
 have hg := h.g hm hl
 have hp := hg.pos
 unfold reachL
 rw [List.filter_eq_self.2 (fun j hj => (reachM_iff hg (by omega) j).2 (h.path j (List.mem_range.1 hj)))]
 simp
inductive RS (m : Md) : List Int → Prop
 | start : RS m m.start
 | step {c : List Int} (h : RS m c) {s : Stp} (hs : s ∈ stM m.rules 0 c) : RS m s.2
theorem BInv.rs {m : Md} {cs : List (List Int)} {A : List (List Arc)} (h : BInv m cs A) (hl : A.length = cs.length) {c : List Int} (hc : RS m c) : c ∈ cs := by
 induction hc with
 | start => exact List.mem_of_getElem? h.first
 | step _ hs ih =>
  rename_i c _ s
  obtain ⟨k, hk⟩ := List.getElem?_of_mem ih
  obtain ⟨row, hrow⟩ := get_ex (a := A) (i := k) (by have := (List.getElem?_eq_some_iff.1 hk).1; omega)
  have hr := h.rows k row c hrow hk
  obtain ⟨j, hj⟩ := List.getElem?_of_mem hs
  obtain ⟨a, ha⟩ := get_ex (a := row) (i := j) (by have := (List.getElem?_eq_some_iff.1 hj).1; have := hr.len; omega)
  exact List.mem_of_getElem? (hr.arc j a s ha hj).2.2
theorem RS.ok {m : Md} (hm : MdS m) (hst : CfS m.ns m.np m.start) {c : List Int} (h : RS m c) : CfS m.ns m.np c := by
 induction h with
 | start => exact hst
 | step _ hs ih => exact stM_ok hm ih m.rules 0 (fun r hr => hr) _ hs
end Go.Proofs.YtmdipbhjhkckjaaGreat

namespace Go.Proofs.YtmdipbhjhkckjaaGreat
open Go.Dv
def nearM (s : List Int) (rules : List Rl) : Nat → Nat → List Int → List Stp → List Int × List Stp × Nat
 | 0, k, c, acc => (c, acc, k)
 | n + 1, k, c, acc => match (stM rules 0 c)[(pkV s k (stM rules 0 c).length).toNat]? with
  | none => (c, acc, k)
  | some x => nearM s rules n (pkAt s k) x.2 (acc ++ [x])
abbrev nSt (s : List Int) (k : Nat) (c : List Int) (acc : List Stp) : St := ⟨[some [.v (.list (s.map vu)), .v (.int .i64 (k : Int))], some [di 0, .v .nils], some [di 0, .v (vK c)]], [(1, 3, acc.map vStp)]⟩
theorem nearM_rs {s : List Int} {m : Md} : ∀ (n k : Nat) (c : List Int) (acc : List Stp), RS m c → RS m (nearM s m.rules n k c acc).1
 | 0, k, c, acc, h => h
 | n + 1, k, c, acc, h => by
  unfold nearM
  split
  ·exact h
  ·rename_i x hx
   exact nearM_rs n _ _ _ (.step h (List.mem_of_getElem? hx))
noncomputable def cNear : Code := Tryz.f15.body.getD .skip
set_option maxRecDepth 20000 in
theorem near_loop (s : List Int) (hb : BytesOK s) (hs : s.length ≤ 200) (m : Md) (hm : MdS m) (T : List Int × List Stp × Nat) (q : Nat) : ∀ (n k : Nat) (c : List Int) (acc : List Stp), n = q → k ≤ 200 → n + acc.length ≤ 20 → CfS m.ns m.np c → T = nearM s m.rules n k c acc → Run PP (fun env σ1 => ResOK PP Tryz.f15 env σ1 (.tup [.v (vCf T.1), .v (vStps T.2.1)]) (dice s T.2.2)) [.lp (sub cNear [1, 1, 1, 0, 1, 0, 0]), .blk 0, .code (sub cNear [1, 1, 1, 1])] ((.ptr 0 0) :: .undef :: .undef :: .undef :: (.v (.ref (vMd m))) :: .undef :: (.ptr 1 0) :: .undef :: (.ptr 2 0) :: (.acc 1 (acc.map vStp)) :: (di ↑n) :: .undef :: .undef :: .undef :: .undef :: .undef :: .undef :: .undef :: .undef :: .undef :: .undef :: .undef :: .undef :: .undef :: .undef :: .undef :: .undef :: .undef :: .undef :: .undef :: .undef :: .undef :: .undef :: .undef :: .undef :: .undef :: .undef :: .undef :: .undef :: .undef :: .undef :: .undef :: .undef :: .undef :: .undef :: .undef :: .undef :: .undef :: .undef :: .undef :: .undef :: .undef :: []) (nSt s k c acc) := by
 induction q using Nat.strongRecOn with
 | _ q ih =>
  intro n k c acc hq hk hal hc hT
  refine run_lp ?_
  refine at_seq [1, 1, 1, 0, 1, 0, 0, 0] [1, 1, 1, 0, 1, 0, 0, 1] rfl ?_
  refine at_seq [1, 1, 1, 0, 1, 0, 0, 0, 0] [1, 1, 1, 0, 1, 0, 0, 0, 1] rfl ?_
  refine at_region rfl ?_
  refine at_m 10 20 rfl rfl rfl (.inl rfl) rfl ?_
  refine at_o 21 rfl rfl rfl rfl (op_binI rfl rfl) ?_
  refine at_end rfl ?_
  refine at_cond [1, 1, 1, 0, 1, 0, 0, 0, 1, 0] [1, 1, 1, 0, 1, 0, 0, 0, 1, 1] rfl rfl (fun hc1 => ?_) (fun hc1 => ?_)
  ·skip
   obtain ⟨n', rfl⟩ : ∃ n', n = n' + 1 := ⟨n - 1, by simp at hc1; omega⟩
   obtain ⟨s0, l, rfl, _⟩ := hc.ok.cons
   have hall := rall_spec m hm.ok s0 l hc.ok
   have hLok := stM_ok hm hc m.rules 0 (fun r hr => hr)
   have hLl := stM_le (s0 :: l) m.rules 0
   have hk1 := hm.ok.k1
   simp only [nearM] at hT
   generalize hL : stM m.rules 0 (s0 :: l) = L at hall hLok hLl hT
   refine at_skip rfl ?_
   refine at_seq [1, 1, 1, 0, 1, 0, 0, 1, 0] [1, 1, 1, 0, 1, 0, 0, 1, 1] rfl ?_
   refine at_block [1, 1, 1, 0, 1, 0, 0, 1, 0, 0] 1 rfl ?_
   refine at_seq [1, 1, 1, 0, 1, 0, 0, 1, 0, 0, 0] [1, 1, 1, 0, 1, 0, 0, 1, 0, 0, 1] rfl ?_
   refine at_region rfl ?_
   first | (refine at_o 25 rfl rfl rfl rfl (op_loadRA rfl fagg_api_Model) ?_) | (refine at_o 25 rfl rfl rfl rfl (op_loadPA rfl fagg_api_Model rfl (by first | decide | simp) rfl) ?_)
   first | (refine at_o 26 rfl rfl rfl rfl (op_loadRA rfl fagg_api_Value) ?_) | (refine at_o 26 rfl rfl rfl rfl (op_loadPA rfl fagg_api_Value rfl (by first | decide | simp) rfl) ?_)
   refine at_o 27 rfl rfl rfl rfl (op_call0 rfl rfl rfl rfl (hall)) ?_
   refine at_m 27 24 rfl rfl rfl (.inl rfl) rfl ?_
   refine at_o 28 rfl rfl rfl rfl (op_extract rfl rfl) ?_
   refine at_o 29 rfl rfl rfl rfl (op_extract rfl rfl) ?_
   refine at_m 28 11 rfl rfl rfl (.inr rfl) rfl ?_
   refine at_m 29 12 rfl rfl rfl (.inr rfl) rfl ?_
   refine at_end rfl ?_
   refine at_seq [1, 1, 1, 0, 1, 0, 0, 1, 0, 0, 1, 0] [1, 1, 1, 0, 1, 0, 0, 1, 0, 0, 1, 1] rfl ?_
   refine at_seq [1, 1, 1, 0, 1, 0, 0, 1, 0, 0, 1, 0, 0] [1, 1, 1, 0, 1, 0, 0, 1, 0, 0, 1, 0, 1] rfl ?_
   refine at_region rfl ?_
   refine at_m 12 30 rfl rfl rfl (.inl rfl) rfl ?_
   refine at_o 31 rfl rfl rfl rfl (op_binI rfl rfl) ?_
   rw [show ((0 : Int) != 0) = false from rfl]
   refine at_m 31 32 rfl rfl rfl (.inl rfl) rfl ?_
   refine at_m 11 33 rfl rfl rfl (.inl rfl) rfl ?_
   first | (refine at_o 34 rfl rfl rfl rfl (op_lenL rfl fu_Sapi_Step) ?_) | (refine at_o 34 rfl rfl rfl rfl (opOK_un (op_lenL rfl fu_Sapi_Step)) ?_) | (refine at_o 34 rfl rfl rfl rfl (op_lenA rfl fu_Sapi_Step) ?_)
   simp only [List.length_map]
   refine at_o 35 rfl rfl rfl rfl (op_binI rfl rfl) ?_
   refine at_pk false 32 35 36 rfl rfl rfl rfl rfl rfl rfl (by dsimp only [List.set]) ?_
   refine at_end rfl ?_
   refine at_cond [1, 1, 1, 0, 1, 0, 0, 1, 0, 0, 1, 0, 1, 0] [1, 1, 1, 0, 1, 0, 0, 1, 0, 0, 1, 0, 1, 1] rfl rfl (fun hc2 => ?_) (fun hc2 => ?_)
   ·skip
    have hLn : L = [] := by simpa using hc2
    subst hLn
    simp only [List.getElem?_nil] at hT
    generalize hcc : s0 :: l = c at hT hc ⊢
    refine at_exit rfl rfl ?_
    refine at_seq [1, 1, 1, 1, 0] [1, 1, 1, 1, 1] rfl ?_
    refine at_region rfl ?_
    first | (refine at_o 50 rfl rfl rfl rfl (op_loadRA rfl fagg_api_Value) ?_) | (refine at_o 50 rfl rfl rfl rfl (op_loadPA rfl fagg_api_Value rfl (by first | decide | simp) rfl) ?_)
    refine at_m 9 51 rfl rfl rfl (.inl rfl) rfl ?_
    refine at_stA 6 (.tmp 50) rfl rfl rfl rfl rfl (ev_tmp rfl) rfl fagg_api_Value rfl rfl (by first | decide | simp | (simp; omega)) (by dsimp only [List.set, List.append, List.cons_append, List.nil_append, cellsD, List.map, repl, List.length, Nat.reduceAdd, if_true, ↓reduceIte]; first | done | rfl) ?_
    refine at_m 51 7 rfl rfl rfl (.inr rfl) rfl ?_
    refine at_end rfl ?_
    rw [hT]
    refine at_ret rfl (resOK_cv (cv_sub (.cons (.same _) (.cons (.same _) (.cons (.same _) (.cons (.same _) (.cons (.same _) (.cons (.same _) (.cons (.same _) (.cons .acc (.cons (.same _) (.cons .acc (.cons (.same _) (.cons (.same _) (.cons (.same _) (.cons (.same _) (.cons (.same _) (.cons (.same _) (.cons (.same _) (.cons (.same _) (.cons (.same _) (.cons (.same _) (.cons (.same _) (.cons (.same _) (.cons (.same _) (.cons (.same _) (.cons (.same _) (.cons (.same _) (.cons (.same _) (.cons (.same _) (.cons (.same _) (.cons (.same _) (.cons (.same _) (.cons (.same _) (.cons (.same _) (.cons (.same _) (.cons (.same _) (.cons (.same _) (.cons (.same _) (.cons (.same _) (.cons (.same _) (.cons (.same _) (.cons (.same _) (.cons (.same _) (.cons (.same _) (.cons (.same _) (.cons (.same _) (.cons (.same _) (.cons (.same _) (.cons (.same _) (.cons (.same _) (.cons (.same _) (.cons (.same _) (.cons .acc .nil))))))))))))))))))))))))))))))))))))))))))))))))))))) ?_)
    exact res_ok (ds := [.v (vCf c), .v (vStps acc)]) (.cellA rfl rfl fagg_api_Value (by simp) rfl (.tmp rfl .nil)) rfl 1 rfl (by simp) (fun i cs h => by match i, h with | 0, h => (simp at h; subst h; rfl) | i + 1, h => simp at h) (List.nil_sublist _) rfl
   ·skip
    have hLn0 : L ≠ [] := by simpa using hc2
    have hLn := List.length_pos_iff.2 hLn0
    have hpr := pkV_range hb k (n := (L.length : Int)) (by omega)
    obtain ⟨j, hj⟩ := Int.eq_ofNat_of_zero_le hpr.1
    obtain ⟨x, hx⟩ := get_ex (a := L) (i := j) (by omega)
    have hx2 := idx_some (f := vStp) hx
    rw [hj] at hT
    simp only [Int.toNat_natCast, hx] at hT
    have hpk := pick_spec s hb hs k (by omega) (L.length : Int) (by omega)
    rw [hj] at hpk
    have hk2 := pkAt_lt hk hs
    refine at_skip rfl ?_
    refine at_seq [1, 1, 1, 0, 1, 0, 0, 1, 0, 0, 1, 1, 0] [1, 1, 1, 0, 1, 0, 0, 1, 0, 0, 1, 1, 1] rfl ?_
    refine at_region rfl ?_
    refine at_m 11 37 rfl rfl rfl (.inl rfl) rfl ?_
    refine at_m 0 38 rfl rfl rfl (.inl rfl) rfl ?_
    refine at_m 11 39 rfl rfl rfl (.inl rfl) rfl ?_
    first | (refine at_o 40 rfl rfl rfl rfl (op_lenL rfl fu_Sapi_Step) ?_) | (refine at_o 40 rfl rfl rfl rfl (opOK_un (op_lenL rfl fu_Sapi_Step)) ?_) | (refine at_o 40 rfl rfl rfl rfl (op_lenA rfl fu_Sapi_Step) ?_)
    simp only [List.length_map]
    refine at_opS (some 41) rfl rfl rfl rfl (op_call1 rfl rfl rfl rfl rfl (.ptr (.pl rfl .nil)) rfl hpk) (by dsimp only [putD, List.set]) (by dsimp only [List.set, List.append, List.cons_append, List.nil_append, cellsD, List.map, repl, List.length, Nat.reduceAdd, if_true, ↓reduceIte]; first | done | rfl) ?_
    first | (refine at_o 42 rfl rfl rfl rfl (op_idxL rfl fsl_Sapi_Step (by first | decide | omega) (by first | assumption | exact idx_some (by assumption) | rfl) (by first | rfl | (simp [V.size]; done))) ?_) | (refine at_o 42 rfl rfl rfl rfl (opOK_un (op_idxL rfl fsl_Sapi_Step (by first | decide | omega) (by first | assumption | exact idx_some (by assumption) | rfl) (by first | rfl | (simp [V.size]; done)))) ?_) | (refine at_o 42 rfl rfl rfl rfl (op_idxA rfl fsl_Sapi_Step (by first | decide | omega) (by first | decide | omega)) ?_)
    first | (refine at_o 43 rfl rfl rfl rfl (op_loadRA rfl fagg_api_Step) ?_) | (refine at_o 43 rfl rfl rfl rfl (op_loadPA rfl fagg_api_Step rfl (by first | decide | simp) rfl) ?_)
    refine at_new 43 13 rfl rfl rfl rfl fzero_api_Step rfl rfl rfl rfl (by decide) rfl rfl fagg_api_Step (by first | rfl | (simp [V.size]; done)) rfl (by simp only [List.length_cons]; omega) (by dsimp only [List.set]) ?_
    refine at_end rfl ?_
    refine at_draw mixed rfl [⟨[some [.v (.list (s.map vu)), .v (.int .i64 ((pkAt s k : Nat) : Int))], some [di 0, .v .nils], some [di 0, .v (vK (s0 :: l))]], [(1, 3, (acc.map vStp))]⟩, ⟨[some [.v (.list (s.map vu)), .v (.int .i64 ((pkAt s k : Nat) : Int))], some [di 0, .v .nils], some [di 0, .v (vK (s0 :: l))]], [(1, 3, (acc.map vStp ++ [.agg [.int .i64 x.1, .int .i64 0, vK x.2]]))]⟩, ⟨[some [.v (.list (s.map vu)), .v (.int .i64 ((pkAt s k : Nat) : Int))], some [di 0, .v .nils], some [di 0, .v (vK x.2)]], [(1, 3, (acc.map vStp ++ [.agg [.int .i64 x.1, .int .i64 0, vK x.2]]))]⟩] rfl ?_
    first | (refine da_q 44 rfl rfl rfl rfl (fun s hs => op_fieldP rfl ffld1_api_Step (by decide)) ?_) | (refine da_q 44 rfl rfl rfl rfl (fun s hs => op_fieldR rfl ffld1_api_Step (by decide) (by decide) rfl) ?_)
    first | (refine da_q 45 rfl rfl rfl rfl (fun s hs => op_loadRA rfl fagg_api_Value) ?_) | (refine da_q 45 rfl rfl rfl rfl (by intro s hs; simp only [List.mem_cons, List.not_mem_nil, or_false] at hs; rcases hs with rfl | rfl | rfl <;> exact op_loadPA rfl fagg_api_Value rfl (by first | decide | simp) rfl) ?_)
    refine da_m 9 46 rfl rfl rfl (.inl rfl) rfl ?_
    first | (refine da_q 47 rfl rfl rfl rfl (fun s hs => op_loadRA rfl fagg_api_Step) ?_) | (refine da_q 47 rfl rfl rfl rfl (by intro s hs; simp only [List.mem_cons, List.not_mem_nil, or_false] at hs; rcases hs with rfl | rfl | rfl <;> exact op_loadPA rfl fagg_api_Step rfl (by first | decide | simp) rfl) ?_)
    refine da_q 48 rfl rfl rfl rfl (fun s hs => op_buildSlice rfl (by rfl) (by rfl) fsl_Sapi_Step rfl rfl (by simp [V.size]) (by decide) (by decide) (by decide)) ?_
    refine da_eff (some 49) rfl rfl rfl rfl rfl rfl (op_append rfl fsl_Sapi_Step rfl (by simp) (by simp [V.size]) (by simp; omega) (by simp; omega)) (by dsimp only [putD, List.set]) ?_
    refine da_eff none rfl rfl rfl rfl rfl rfl (op_store rfl rfl fagg_api_Value rfl (q := 2) (off := 0) (cs := [di 0, .v (vK (s0 :: l))]) rfl (by simp)) (by dsimp only [putD, List.set]) ?_
    refine da_m 49 9 rfl rfl rfl (.inr rfl) rfl ?_
    refine da_end rfl ⟨by decide +kernel, _, rfl, ?_⟩
    rw [show (acc.map vStp ++ [.agg [.int .i64 x.1, .int .i64 0, vK x.2]]) = (acc ++ [x]).map vStp by simp]
    refine run_blk ?_
    refine at_region rfl ?_
    refine at_m 10 22 rfl rfl rfl (.inl rfl) rfl ?_
    refine at_o 23 rfl rfl rfl rfl (op_binI rfl rfl) ?_
    rw [wrap_id (by omega) (by omega), show ((n' + 1 : Nat) : Int) - 1 = (n' : Int) by omega]
    refine at_m 23 10 rfl rfl rfl (.inr rfl) rfl ?_
    refine at_end rfl ?_
    exact run_wk (.keep (.drop (.drop (.drop (.keep (.drop (.keep (.drop (.keep (.keep (.keep (.d16 (.d16 (.d4 (.d4 (.drop .nil)))))))))))))))) (ih n' (by omega) n' (pkAt s k) x.2 (acc ++ [x]) rfl hk2 (by simp; omega) (hLok x (List.mem_of_getElem? hx)) hT)
  ·skip
   have hn0 : n = 0 := by simp at hc1; omega
   subst hn0
   simp only [nearM] at hT
   refine at_exit rfl rfl ?_
   refine at_seq [1, 1, 1, 1, 0] [1, 1, 1, 1, 1] rfl ?_
   refine at_region rfl ?_
   first | (refine at_o 50 rfl rfl rfl rfl (op_loadRA rfl fagg_api_Value) ?_) | (refine at_o 50 rfl rfl rfl rfl (op_loadPA rfl fagg_api_Value rfl (by first | decide | simp) rfl) ?_)
   refine at_m 9 51 rfl rfl rfl (.inl rfl) rfl ?_
   refine at_stA 6 (.tmp 50) rfl rfl rfl rfl rfl (ev_tmp rfl) rfl fagg_api_Value rfl rfl (by first | decide | simp | (simp; omega)) (by dsimp only [List.set, List.append, List.cons_append, List.nil_append, cellsD, List.map, repl, List.length, Nat.reduceAdd, if_true, ↓reduceIte]; first | done | rfl) ?_
   refine at_m 51 7 rfl rfl rfl (.inr rfl) rfl ?_
   refine at_end rfl ?_
   rw [hT]
   refine at_ret rfl (resOK_cv (cv_sub (.cons (.same _) (.cons (.same _) (.cons (.same _) (.cons (.same _) (.cons (.same _) (.cons (.same _) (.cons (.same _) (.cons .acc (.cons (.same _) (.cons .acc (.cons (.same _) (.cons (.same _) (.cons (.same _) (.cons (.same _) (.cons (.same _) (.cons (.same _) (.cons (.same _) (.cons (.same _) (.cons (.same _) (.cons (.same _) (.cons (.same _) (.cons (.same _) (.cons (.same _) (.cons (.same _) (.cons (.same _) (.cons (.same _) (.cons (.same _) (.cons (.same _) (.cons (.same _) (.cons (.same _) (.cons (.same _) (.cons (.same _) (.cons (.same _) (.cons (.same _) (.cons (.same _) (.cons (.same _) (.cons (.same _) (.cons (.same _) (.cons (.same _) (.cons (.same _) (.cons (.same _) (.cons (.same _) (.cons (.same _) (.cons (.same _) (.cons (.same _) (.cons (.same _) (.cons (.same _) (.cons (.same _) (.cons (.same _) (.cons (.same _) (.cons (.same _) (.cons .acc .nil))))))))))))))))))))))))))))))))))))))))))))))))))))) ?_)
   exact res_ok (ds := [.v (vCf c), .v (vStps acc)]) (.cellA rfl rfl fagg_api_Value (by simp) rfl (.tmp rfl .nil)) rfl 1 rfl (by simp) (fun i cs h => by match i, h with | 0, h => (simp at h; subst h; rfl) | i + 1, h => simp at h) (List.nil_sublist _) rfl
set_option maxRecDepth 20000 in
theorem near_spec (s : List Int) (hb : BytesOK s) (hs : s.length ≤ 200) (m : Md) (hm : MdS m) (hst : CfS m.ns m.np m.start) (k : Nat) (hk : k ≤ 200) : FSpec PP 15 [.ptr 0 0, .v (vMd m), di 8] (dice s k) (.tup [.v (vCf (nearM s m.rules (pkV s k 9).toNat (pkAt s k) m.start []).1), .v (vStps (nearM s m.rules (pkV s k 9).toNat (pkAt s k) m.start []).2.1)]) (dice s (nearM s m.rules (pkV s k 9).toNat (pkAt s k) m.start []).2.2) := by
 have hpr := pkV_range hb k (n := 9) (by omega)
 obtain ⟨n, hn⟩ := Int.eq_ofNat_of_zero_le hpr.1
 have hpk := pick_spec s hb hs k (by omega) 9 (by omega)
 rw [hn] at hpk hpr ⊢
 have hk2 := pkAt_lt hk hs
 refine spec_at cNear Tryz.func15 rfl (by kernel_rfl) (by first | decide | simp) _ (by dsimp only [Tryz.f15, List.length, Nat.reduceAdd, Nat.reduceSub, List.replicate, List.cons_append, List.nil_append]) ?_
 refine at_seq [0] [1] rfl ?_
 refine at_region rfl ?_
 refine at_o 4 rfl rfl rfl rfl (op_boxI rfl rfl) ?_
 refine at_opS (some 6) rfl rfl rfl rfl (op_allocN rfl fzeroN_api_Value) (by dsimp only [putD, List.set]) (by dsimp only [List.set, List.append, List.cons_append, List.nil_append, cellsD, List.map, repl, List.length, Nat.reduceAdd, if_true, ↓reduceIte]; first | done | rfl) ?_
 refine at_c 7 rfl rfl rfl (.inr rfl) ?_
 refine at_end rfl ?_
 refine at_seq [1, 0] [1, 1] rfl ?_
 refine at_region rfl ?_
 first | (refine at_o 14 rfl rfl rfl rfl (op_fieldP rfl ffld8_api_Model (by decide)) ?_) | (refine at_o 14 rfl rfl rfl rfl (op_fieldR rfl ffld8_api_Model (by decide) (by decide) rfl) ?_)
 first | (refine at_o 15 rfl rfl rfl rfl (op_loadRA rfl fagg_api_Value) ?_) | (refine at_o 15 rfl rfl rfl rfl (op_loadPA rfl fagg_api_Value rfl (by first | decide | simp) rfl) ?_)
 refine at_opS (some 8) rfl rfl rfl rfl (op_allocN rfl fzeroN_api_Value) (by dsimp only [putD, List.set]) (by dsimp only [List.set, List.append, List.cons_append, List.nil_append, cellsD, List.map, repl, List.length, Nat.reduceAdd, if_true, ↓reduceIte]; first | done | rfl) ?_
 refine at_stA 8 (.tmp 15) rfl rfl rfl rfl rfl (ev_tmp rfl) rfl fagg_api_Value rfl rfl (by first | decide | simp | (simp; omega)) (by dsimp only [List.set, List.append, List.cons_append, List.nil_append, cellsD, List.map, repl, List.length, Nat.reduceAdd, if_true, ↓reduceIte]; first | done | rfl) ?_
 refine at_end rfl ?_
 refine at_seq [1, 1, 0] [1, 1, 1] rfl ?_
 refine at_region rfl ?_
 refine at_opS (some 9) rfl rfl rfl rfl (op_nilOwn (.inl rfl) 1 3 (by simp) (by decide)) (by dsimp only [putD, List.set]) (by dsimp only [List.set, List.append, List.cons_append, List.nil_append, cellsD, List.map, repl, List.length, Nat.reduceAdd, if_true, ↓reduceIte]; first | done | rfl) ?_
 refine at_end rfl ?_
 refine at_seq [1, 1, 1, 0] [1, 1, 1, 1] rfl ?_
 refine at_seq [1, 1, 1, 0, 0] [1, 1, 1, 0, 1] rfl ?_
 refine at_region rfl ?_
 refine at_m 0 16 rfl rfl rfl (.inl rfl) rfl ?_
 refine at_m 2 17 rfl rfl rfl (.inl rfl) rfl ?_
 refine at_o 18 rfl rfl rfl rfl (op_binI rfl rfl) ?_
 rw [show IntKind.i64.wrap (8 + 1) = 9 from by decide]
 refine at_opS (some 19) rfl rfl rfl rfl (op_call1 rfl rfl rfl rfl rfl (.ptr (.pl rfl .nil)) rfl hpk) (by dsimp only [putD, List.set]) (by dsimp only [List.set, List.append, List.cons_append, List.nil_append, cellsD, List.map, repl, List.length, Nat.reduceAdd, if_true, ↓reduceIte]; first | done | rfl) ?_
 refine at_m 19 10 rfl rfl rfl (.inr rfl) rfl ?_
 refine at_end rfl ?_
 refine at_block [1, 1, 1, 0, 1, 0] 0 rfl ?_
 refine at_loop [1, 1, 1, 0, 1, 0, 0] rfl ?_
 try simp only [List.length_map, List.length_nil, Int.toNat_natCast]
 exact run_wk (.keep (.drop (.drop (.drop (.keep (.drop (.keep (.drop (.keep (.keep (.keep (.d16 (.d16 (.d4 (.d4 (.drop .nil)))))))))))))))) (near_loop s hb hs m hm _ _ n (pkAt s k) m.start [] rfl hk2 (by simp; omega) hst rfl)
theorem near_ex (s : List Int) (hb : BytesOK s) (hs : s.length ≤ 200) (m : Md) (hm : MdS m) (hst : CfS m.ns m.np m.start) (k : Nat) (hk : k ≤ 200) : ∃ (c : List Int) (l : List Stp) (k' : Nat), RS m c ∧ FSpec PP 15 [.ptr 0 0, .v (vMd m), di 8] (dice s k) (.tup [.v (vCf c), .v (vStps l)]) (dice s k') :=
 ⟨_, _, _, nearM_rs _ _ _ _ .start, near_spec s hb hs m hm hst k hk⟩
end Go.Proofs.YtmdipbhjhkckjaaGreat

namespace Go.Proofs.YtmdipbhjhkckjaaGreat
open Go.Dv
theorem rsame_self {c : List Int} (hc : c.length ≤ 100) : FSpec PP 13 [.v (vCf c), .v (vCf c)] σ0 (db true) σ0 := by
 have := rsame_spec c c hc hc
 rwa [decide_eq_true rfl] at this
noncomputable def cHB : Code := Tryz.f3.body.getD .skip
set_option maxRecDepth 20000 in
theorem hb_in (R : List D → St → Prop) (K : List KI) (m : Md) (cs : List (List Int)) (A : List (List Arc)) (σd : St) (i : Nat) (L : List Stp) (row : List Arc) (hr : RowOK cs L row) (hl : row.length ≤ 100) (hcl : ∀ c ∈ cs, c.length ≤ 100) (hk : Run PP R K (.undef :: .undef :: .undef :: (.ptr 0 0) :: (.v (.ref (vMd m))) :: (.v (.ref (vGC cs A))) :: .undef :: .undef :: .undef :: .undef :: .undef :: .undef :: .undef :: .undef :: .undef :: .undef :: .undef :: .undef :: .undef :: .undef :: .undef :: .undef :: .undef :: .undef :: .undef :: .undef :: .undef :: .undef :: .undef :: .undef :: .undef :: .undef :: .undef :: .undef :: .undef :: .undef :: .undef :: .undef :: .undef :: .undef :: .undef :: .undef :: .undef :: .undef :: (.v (.list (cs.map vCf))) :: (di ↑cs.length) :: (di ↑i) :: .undef :: .undef :: .undef :: .undef :: .undef :: .undef :: .undef :: .undef :: .undef :: .undef :: .undef :: .undef :: .undef :: .undef :: .undef :: .undef :: .undef :: .undef :: .undef :: .undef :: .undef :: .undef :: .undef :: .undef :: .undef :: .undef :: .undef :: .undef :: .undef :: .undef :: .undef :: .undef :: .undef :: .undef :: .undef :: .undef :: .undef :: .undef :: .undef :: .undef :: .undef :: .undef :: .undef :: .undef :: .undef :: .undef :: .undef :: .undef :: .undef :: .undef :: .undef :: .undef :: .undef :: .undef :: .undef :: .undef :: .undef :: .undef :: .undef :: .undef :: .undef :: .undef :: .undef :: .undef :: .undef :: .undef :: .undef :: .undef :: .undef :: .undef :: .undef :: .undef :: .undef :: .undef :: .undef :: .undef :: .undef :: .undef :: []) σd) (n : Nat) : ∀ (k : Nat), row.length - k = n → Run PP R (.lp (sub cHB [1, 1, 1, 1, 1, 1, 1, 0, 1, 0, 0, 1, 1, 0, 0, 1, 1, 1, 1, 0, 0]) :: .blk 2 :: K) (.undef :: .undef :: .undef :: (.ptr 0 0) :: (.v (.ref (vMd m))) :: (.v (.ref (vGC cs A))) :: .undef :: .undef :: .undef :: (.v (vStps L)) :: .undef :: .undef :: .undef :: .undef :: .undef :: .undef :: .undef :: .undef :: .undef :: .undef :: .undef :: .undef :: .undef :: .undef :: .undef :: .undef :: .undef :: .undef :: .undef :: .undef :: .undef :: .undef :: .undef :: .undef :: .undef :: .undef :: .undef :: .undef :: .undef :: .undef :: .undef :: .undef :: .undef :: .undef :: (.v (.list (cs.map vCf))) :: (di ↑cs.length) :: (di ↑i) :: .undef :: .undef :: .undef :: .undef :: .undef :: .undef :: .undef :: .undef :: .undef :: .undef :: .undef :: .undef :: .undef :: .undef :: .undef :: .undef :: .undef :: .undef :: .undef :: .undef :: .undef :: .undef :: .undef :: .undef :: .undef :: .undef :: .undef :: (.v (vArcs row)) :: (di ↑row.length) :: (di ↑k) :: .undef :: .undef :: .undef :: .undef :: .undef :: .undef :: .undef :: .undef :: .undef :: .undef :: .undef :: .undef :: .undef :: .undef :: .undef :: .undef :: .undef :: .undef :: .undef :: .undef :: .undef :: .undef :: .undef :: .undef :: .undef :: .undef :: .undef :: .undef :: .undef :: .undef :: .undef :: .undef :: .undef :: .undef :: .undef :: .undef :: .undef :: .undef :: .undef :: .undef :: .undef :: .undef :: .undef :: .undef :: .undef :: .undef :: .undef :: .undef :: []) σd := by
 induction n using Nat.strongRecOn with
 | _ n ih =>
  intro k hn
  refine run_lp ?_
  refine at_seq [1, 1, 1, 1, 1, 1, 1, 0, 1, 0, 0, 1, 1, 0, 0, 1, 1, 1, 1, 0, 0, 0] [1, 1, 1, 1, 1, 1, 1, 0, 1, 0, 0, 1, 1, 0, 0, 1, 1, 1, 1, 0, 0, 1] rfl ?_
  refine at_region rfl ?_
  refine at_o 77 rfl rfl rfl rfl (op_binI rfl rfl) ?_
  refine at_end rfl ?_
  refine at_seq [1, 1, 1, 1, 1, 1, 1, 0, 1, 0, 0, 1, 1, 0, 0, 1, 1, 1, 1, 0, 0, 1, 0] [1, 1, 1, 1, 1, 1, 1, 0, 1, 0, 0, 1, 1, 0, 0, 1, 1, 1, 1, 0, 0, 1, 1] rfl ?_
  refine at_cond [1, 1, 1, 1, 1, 1, 1, 0, 1, 0, 0, 1, 1, 0, 0, 1, 1, 1, 1, 0, 0, 1, 0, 0] [1, 1, 1, 1, 1, 1, 1, 0, 1, 0, 0, 1, 1, 0, 0, 1, 1, 1, 1, 0, 0, 1, 0, 1] rfl rfl (fun hc1 => ?_) (fun hc1 => ?_)
  ·skip
   have hlt : k < row.length := by simpa using hc1
   obtain ⟨a, ha⟩ := get_ex hlt
   obtain ⟨x, hx⟩ := get_ex (a := L) (i := k) (by have := hr.len; omega)
   have ha2 := idx_some (f := vArc) ha
   have hx2 := idx_some (f := vStp) hx
   obtain ⟨q1, q2, q3⟩ := hr.arc k a x ha hx
   have hto : (cs.map vCf)[a.2.toNat]? = some (vCf x.2) := by simp [q3]
   have hsm := rsame_self (hcl x.2 (List.mem_of_getElem? q3))
   refine at_skip rfl ?_
   refine at_seq [1, 1, 1, 1, 1, 1, 1, 0, 1, 0, 0, 1, 1, 0, 0, 1, 1, 1, 1, 0, 0, 1, 1, 0] [1, 1, 1, 1, 1, 1, 1, 0, 1, 0, 0, 1, 1, 0, 0, 1, 1, 1, 1, 0, 0, 1, 1, 1] rfl ?_
   refine at_block [1, 1, 1, 1, 1, 1, 1, 0, 1, 0, 0, 1, 1, 0, 0, 1, 1, 1, 1, 0, 0, 1, 1, 0, 0] 3 rfl ?_
   refine at_seq [1, 1, 1, 1, 1, 1, 1, 0, 1, 0, 0, 1, 1, 0, 0, 1, 1, 1, 1, 0, 0, 1, 1, 0, 0, 0] [1, 1, 1, 1, 1, 1, 1, 0, 1, 0, 0, 1, 1, 0, 0, 1, 1, 1, 1, 0, 0, 1, 1, 0, 0, 1] rfl ?_
   refine at_region rfl ?_
   refine at_m 76 78 rfl rfl rfl (.inl rfl) rfl ?_
   first | (refine at_o 79 rfl rfl rfl rfl (op_idxL rfl fsl_Sapi_Arc (by first | decide | omega) (by first | assumption | exact idx_some (by assumption) | rfl) (by first | rfl | (simp [V.size]; done))) ?_) | (refine at_o 79 rfl rfl rfl rfl (opOK_un (op_idxL rfl fsl_Sapi_Arc (by first | decide | omega) (by first | assumption | exact idx_some (by assumption) | rfl) (by first | rfl | (simp [V.size]; done)))) ?_) | (refine at_o 79 rfl rfl rfl rfl (op_idxA rfl fsl_Sapi_Arc (by first | decide | omega) (by first | decide | omega)) ?_)
   first | (refine at_o 80 rfl rfl rfl rfl (op_loadRA rfl fagg_api_Arc) ?_) | (refine at_o 80 rfl rfl rfl rfl (op_loadPA rfl fagg_api_Arc rfl (by first | decide | simp) rfl) ?_)
   refine at_new1 80 12 78 11 rfl rfl rfl rfl fzero_api_Arc rfl rfl rfl (.inr rfl) rfl (by decide) (by decide) (by decide) rfl rfl rfl rfl (by decide) rfl rfl fagg_api_Arc (by first | rfl | (simp [V.size]; done)) rfl (by simp only [List.length_cons]; omega) (by dsimp only [List.set]) ?_
   refine at_end rfl ?_
   refine at_seq [1, 1, 1, 1, 1, 1, 1, 0, 1, 0, 0, 1, 1, 0, 0, 1, 1, 1, 1, 0, 0, 1, 1, 0, 0, 1, 0] [1, 1, 1, 1, 1, 1, 1, 0, 1, 0, 0, 1, 1, 0, 0, 1, 1, 1, 1, 0, 0, 1, 1, 0, 0, 1, 1] rfl ?_
   refine at_draw mixed rfl [σd] rfl ?_
   first | (refine da_q 81 rfl rfl rfl rfl (fun s hs => op_fieldP rfl ffld0_api_Arc (by decide)) ?_) | (refine da_q 81 rfl rfl rfl rfl (fun s hs => op_fieldR rfl ffld0_api_Arc (by decide) (by decide) rfl) ?_)
   first | (refine da_q 82 rfl rfl rfl rfl (fun s hs => op_loadR1 rfl fone_int rfl) ?_) | (refine da_q 82 rfl rfl rfl rfl (by intro s hs; simp only [List.mem_cons, List.not_mem_nil, or_false] at hs; rcases hs with rfl <;> exact op_loadP1 rfl fone_int rfl rfl) ?_)
   refine da_m 9 83 rfl rfl rfl (.inl rfl) rfl ?_
   refine da_m 11 84 rfl rfl rfl (.inl rfl) rfl ?_
   first | (refine da_q 85 rfl rfl rfl rfl (fun s hs => op_idxL rfl fsl_Sapi_Step (by first | decide | omega) (by first | assumption | exact idx_some (by assumption) | rfl) (by first | rfl | (simp [V.size]; done))) ?_) | (refine da_q 85 rfl rfl rfl rfl (fun s hs => opOK_un (op_idxL rfl fsl_Sapi_Step (by first | decide | omega) (by first | assumption | exact idx_some (by assumption) | rfl) (by first | rfl | (simp [V.size]; done)))) ?_) | (refine da_q 85 rfl rfl rfl rfl (fun s hs => op_idxA rfl fsl_Sapi_Step (by first | decide | omega) (by first | decide | omega)) ?_)
   first | (refine da_q 86 rfl rfl rfl rfl (fun s hs => op_fieldP rfl ffld0_api_Step (by decide)) ?_) | (refine da_q 86 rfl rfl rfl rfl (fun s hs => op_fieldR rfl ffld0_api_Step (by decide) (by decide) rfl) ?_)
   first | (refine da_q 87 rfl rfl rfl rfl (fun s hs => op_loadR1 rfl fone_int rfl) ?_) | (refine da_q 87 rfl rfl rfl rfl (by intro s hs; simp only [List.mem_cons, List.not_mem_nil, or_false] at hs; rcases hs with rfl <;> exact op_loadP1 rfl fone_int rfl rfl) ?_)
   refine da_q 88 rfl rfl rfl rfl (fun s hs => op_binI rfl rfl) ?_
   rw [show (a.1 != x.1) = false by simp [q1]]
   refine da_m 88 89 rfl rfl rfl (.inl rfl) rfl ?_
   first | (refine da_q 90 rfl rfl rfl rfl (fun s hs => op_fieldP rfl ffld0_api_Graph (by decide)) ?_) | (refine da_q 90 rfl rfl rfl rfl (fun s hs => op_fieldR rfl ffld0_api_Graph (by decide) (by decide) rfl) ?_)
   first | (refine da_q 91 rfl rfl rfl rfl (fun s hs => op_loadR1 rfl fone_Sapi_Value rfl) ?_) | (refine da_q 91 rfl rfl rfl rfl (by intro s hs; simp only [List.mem_cons, List.not_mem_nil, or_false] at hs; rcases hs with rfl <;> exact op_loadP1 rfl fone_Sapi_Value rfl rfl) ?_)
   first | (refine da_q 92 rfl rfl rfl rfl (fun s hs => op_fieldP rfl ffld1_api_Arc (by decide)) ?_) | (refine da_q 92 rfl rfl rfl rfl (fun s hs => op_fieldR rfl ffld1_api_Arc (by decide) (by decide) rfl) ?_)
   first | (refine da_q 93 rfl rfl rfl rfl (fun s hs => op_loadR1 rfl fone_int rfl) ?_) | (refine da_q 93 rfl rfl rfl rfl (by intro s hs; simp only [List.mem_cons, List.not_mem_nil, or_false] at hs; rcases hs with rfl <;> exact op_loadP1 rfl fone_int rfl rfl) ?_)
   first | (refine da_q 94 rfl rfl rfl rfl (fun s hs => op_idxL rfl fsl_Sapi_Value (by first | decide | omega) (by first | assumption | exact idx_some (by assumption) | rfl) (by first | rfl | (simp [V.size]; done))) ?_) | (refine da_q 94 rfl rfl rfl rfl (fun s hs => opOK_un (op_idxL rfl fsl_Sapi_Value (by first | decide | omega) (by first | assumption | exact idx_some (by assumption) | rfl) (by first | rfl | (simp [V.size]; done)))) ?_) | (refine da_q 94 rfl rfl rfl rfl (fun s hs => op_idxA rfl fsl_Sapi_Value (by first | decide | omega) (by first | decide | omega)) ?_)
   first | (refine da_q 95 rfl rfl rfl rfl (fun s hs => op_loadRA rfl fagg_api_Value) ?_) | (refine da_q 95 rfl rfl rfl rfl (by intro s hs; simp only [List.mem_cons, List.not_mem_nil, or_false] at hs; rcases hs with rfl <;> exact op_loadPA rfl fagg_api_Value rfl (by first | decide | simp) rfl) ?_)
   refine da_m 9 96 rfl rfl rfl (.inl rfl) rfl ?_
   refine da_m 11 97 rfl rfl rfl (.inl rfl) rfl ?_
   first | (refine da_q 98 rfl rfl rfl rfl (fun s hs => op_idxL rfl fsl_Sapi_Step (by first | decide | omega) (by first | assumption | exact idx_some (by assumption) | rfl) (by first | rfl | (simp [V.size]; done))) ?_) | (refine da_q 98 rfl rfl rfl rfl (fun s hs => opOK_un (op_idxL rfl fsl_Sapi_Step (by first | decide | omega) (by first | assumption | exact idx_some (by assumption) | rfl) (by first | rfl | (simp [V.size]; done)))) ?_) | (refine da_q 98 rfl rfl rfl rfl (fun s hs => op_idxA rfl fsl_Sapi_Step (by first | decide | omega) (by first | decide | omega)) ?_)
   first | (refine da_q 99 rfl rfl rfl rfl (fun s hs => op_fieldP rfl ffld1_api_Step (by decide)) ?_) | (refine da_q 99 rfl rfl rfl rfl (fun s hs => op_fieldR rfl ffld1_api_Step (by decide) (by decide) rfl) ?_)
   first | (refine da_q 100 rfl rfl rfl rfl (fun s hs => op_loadRA rfl fagg_api_Value) ?_) | (refine da_q 100 rfl rfl rfl rfl (by intro s hs; simp only [List.mem_cons, List.not_mem_nil, or_false] at hs; rcases hs with rfl <;> exact op_loadPA rfl fagg_api_Value rfl (by first | decide | simp) rfl) ?_)
   refine da_q 101 rfl rfl rfl rfl (fun s hs => op_call0 rfl rfl rfl rfl (hsm)) ?_
   refine da_q 102 rfl rfl rfl rfl (fun s hs => op_un rfl rfl) ?_
   refine da_pk false 89 102 103 rfl rfl rfl rfl rfl rfl rfl (by dsimp only [List.set]) ?_
   refine da_end rfl ⟨by decide +kernel, _, rfl, ?_⟩
   refine at_false [1, 1, 1, 1, 1, 1, 1, 0, 1, 0, 0, 1, 1, 0, 0, 1, 1, 1, 1, 0, 0, 1, 1, 0, 0, 1, 1, 0] [1, 1, 1, 1, 1, 1, 1, 0, 1, 0, 0, 1, 1, 0, 0, 1, 1, 1, 1, 0, 0, 1, 1, 0, 0, 1, 1, 1] rfl rfl ?_
   refine at_skip rfl ?_
   refine run_blk ?_
   refine at_region rfl ?_
   refine at_o 104 rfl rfl rfl rfl (op_binI rfl rfl) ?_
   rw [wrap_succ (by omega)]
   refine at_m 104 76 rfl rfl rfl (.inl rfl) rfl ?_
   refine at_end rfl ?_
   exact run_wk (.drop (.drop (.drop (.keep (.keep (.keep (.drop (.drop (.drop (.keep (.d16 (.d16 (.drop (.drop (.keep (.keep (.keep (.d16 (.d4 (.d4 (.drop (.drop (.drop (.keep (.keep (.keep (.d16 (.d16 (.d16 .nil))))))))))))))))))))))))))))) (ih _ (by omega) (k + 1) rfl)
  ·skip
   have hge : row.length ≤ k := by simpa using hc1
   refine at_exit rfl rfl ?_
   exact run_wk (.drop (.drop (.drop (.keep (.keep (.keep (.d16 (.d16 (.d4 (.drop (.drop (.keep (.keep (.keep (.d16 (.d16 (.d16 (.d16 (.d4 (.d4 (.d4 (.drop (.drop .nil))))))))))))))))))))))) hk
set_option maxRecDepth 20000 in
theorem hb_out (R : List D → St → Prop) (K : List KI) (m : Md) (cs : List (List Int)) (A : List (List Arc)) (σd : St) (hm : MdS m) (hI : BInv m cs A) (hlen : A.length = cs.length) (hcl : ∀ c ∈ cs, c.length ≤ 100) (hk : Run PP R K (.undef :: .undef :: .undef :: (.ptr 0 0) :: (.v (.ref (vMd m))) :: (.v (.ref (vGC cs A))) :: .undef :: .undef :: .undef :: .undef :: .undef :: .undef :: .undef :: .undef :: .undef :: .undef :: .undef :: .undef :: .undef :: .undef :: .undef :: .undef :: .undef :: .undef :: .undef :: .undef :: .undef :: .undef :: .undef :: .undef :: .undef :: .undef :: .undef :: .undef :: .undef :: .undef :: .undef :: .undef :: .undef :: .undef :: .undef :: .undef :: .undef :: .undef :: .undef :: .undef :: .undef :: .undef :: .undef :: .undef :: .undef :: .undef :: .undef :: .undef :: .undef :: .undef :: .undef :: .undef :: .undef :: .undef :: .undef :: .undef :: .undef :: .undef :: .undef :: .undef :: .undef :: .undef :: .undef :: .undef :: .undef :: .undef :: .undef :: .undef :: .undef :: .undef :: .undef :: .undef :: .undef :: .undef :: .undef :: .undef :: .undef :: .undef :: .undef :: .undef :: .undef :: .undef :: .undef :: .undef :: .undef :: .undef :: .undef :: .undef :: .undef :: .undef :: .undef :: .undef :: .undef :: .undef :: .undef :: .undef :: .undef :: .undef :: .undef :: .undef :: .undef :: .undef :: .undef :: .undef :: .undef :: .undef :: .undef :: .undef :: .undef :: .undef :: .undef :: .undef :: .undef :: .undef :: .undef :: .undef :: .undef :: .undef :: .undef :: []) σd) (n : Nat) : ∀ (i : Nat), cs.length - i = n → Run PP R (.lp (sub cHB [1, 1, 1, 1, 1, 1, 1, 0, 1, 0, 0]) :: .blk 0 :: K) (.undef :: .undef :: .undef :: (.ptr 0 0) :: (.v (.ref (vMd m))) :: (.v (.ref (vGC cs A))) :: .undef :: .undef :: .undef :: .undef :: .undef :: .undef :: .undef :: .undef :: .undef :: .undef :: .undef :: .undef :: .undef :: .undef :: .undef :: .undef :: .undef :: .undef :: .undef :: .undef :: .undef :: .undef :: .undef :: .undef :: .undef :: .undef :: .undef :: .undef :: .undef :: .undef :: .undef :: .undef :: .undef :: .undef :: .undef :: .undef :: .undef :: .undef :: (.v (.list (cs.map vCf))) :: (di ↑cs.length) :: (di ↑i) :: .undef :: .undef :: .undef :: .undef :: .undef :: .undef :: .undef :: .undef :: .undef :: .undef :: .undef :: .undef :: .undef :: .undef :: .undef :: .undef :: .undef :: .undef :: .undef :: .undef :: .undef :: .undef :: .undef :: .undef :: .undef :: .undef :: .undef :: .undef :: .undef :: .undef :: .undef :: .undef :: .undef :: .undef :: .undef :: .undef :: .undef :: .undef :: .undef :: .undef :: .undef :: .undef :: .undef :: .undef :: .undef :: .undef :: .undef :: .undef :: .undef :: .undef :: .undef :: .undef :: .undef :: .undef :: .undef :: .undef :: .undef :: .undef :: .undef :: .undef :: .undef :: .undef :: .undef :: .undef :: .undef :: .undef :: .undef :: .undef :: .undef :: .undef :: .undef :: .undef :: .undef :: .undef :: .undef :: .undef :: .undef :: .undef :: []) σd := by
 induction n using Nat.strongRecOn with
 | _ n ih =>
  intro i hn
  have hle := hI.ok.le hm.ok
  refine run_lp ?_
  refine at_seq [1, 1, 1, 1, 1, 1, 1, 0, 1, 0, 0, 0] [1, 1, 1, 1, 1, 1, 1, 0, 1, 0, 0, 1] rfl ?_
  refine at_region rfl ?_
  refine at_o 47 rfl rfl rfl rfl (op_binI rfl rfl) ?_
  refine at_end rfl ?_
  refine at_seq [1, 1, 1, 1, 1, 1, 1, 0, 1, 0, 0, 1, 0] [1, 1, 1, 1, 1, 1, 1, 0, 1, 0, 0, 1, 1] rfl ?_
  refine at_cond [1, 1, 1, 1, 1, 1, 1, 0, 1, 0, 0, 1, 0, 0] [1, 1, 1, 1, 1, 1, 1, 0, 1, 0, 0, 1, 0, 1] rfl rfl (fun hc1 => ?_) (fun hc1 => ?_)
  ·skip
   have hlt : i < cs.length := by simpa using hc1
   obtain ⟨c, hcc⟩ := get_ex hlt
   have hc2 := idx_some (f := vCf) hcc
   obtain ⟨row, hrw⟩ := get_ex (a := A) (i := i) (by omega)
   have hr2 := idx_some (f := vArcs) hrw
   have hro := hI.rows i row c hrw hcc
   have hcS := hI.ok.ok c (List.mem_of_getElem? hcc)
   obtain ⟨s0, l, rfl, _⟩ := hcS.ok.cons
   have hall := rall_spec m hm.ok s0 l hcS.ok
   have hLl := stM_le (s0 :: l) m.rules 0
   have hk1 := hm.ok.k1
   have hrl := hro.len
   refine at_skip rfl ?_
   refine at_seq [1, 1, 1, 1, 1, 1, 1, 0, 1, 0, 0, 1, 1, 0] [1, 1, 1, 1, 1, 1, 1, 0, 1, 0, 0, 1, 1, 1] rfl ?_
   refine at_block [1, 1, 1, 1, 1, 1, 1, 0, 1, 0, 0, 1, 1, 0, 0] 1 rfl ?_
   refine at_seq [1, 1, 1, 1, 1, 1, 1, 0, 1, 0, 0, 1, 1, 0, 0, 0] [1, 1, 1, 1, 1, 1, 1, 0, 1, 0, 0, 1, 1, 0, 0, 1] rfl ?_
   refine at_region rfl ?_
   refine at_m 46 48 rfl rfl rfl (.inl rfl) rfl ?_
   first | (refine at_o 49 rfl rfl rfl rfl (op_idxL rfl fsl_Sapi_Value (by first | decide | omega) (by first | assumption | exact idx_some (by assumption) | rfl) (by first | rfl | (simp [V.size]; done))) ?_) | (refine at_o 49 rfl rfl rfl rfl (opOK_un (op_idxL rfl fsl_Sapi_Value (by first | decide | omega) (by first | assumption | exact idx_some (by assumption) | rfl) (by first | rfl | (simp [V.size]; done)))) ?_) | (refine at_o 49 rfl rfl rfl rfl (op_idxA rfl fsl_Sapi_Value (by first | decide | omega) (by first | decide | omega)) ?_)
   first | (refine at_o 50 rfl rfl rfl rfl (op_loadRA rfl fagg_api_Value) ?_) | (refine at_o 50 rfl rfl rfl rfl (op_loadPA rfl fagg_api_Value rfl (by first | decide | simp) rfl) ?_)
   refine at_new1 50 8 48 7 rfl rfl rfl rfl fzero_api_Value rfl rfl rfl (.inr rfl) rfl (by decide) (by decide) (by decide) rfl rfl rfl rfl (by decide) rfl rfl fagg_api_Value (by first | rfl | (simp [V.size]; done)) rfl (by simp only [List.length_cons]; omega) (by dsimp only [List.set]) ?_
   refine at_end rfl ?_
   refine at_seq [1, 1, 1, 1, 1, 1, 1, 0, 1, 0, 0, 1, 1, 0, 0, 1, 0] [1, 1, 1, 1, 1, 1, 1, 0, 1, 0, 0, 1, 1, 0, 0, 1, 1] rfl ?_
   refine at_region rfl ?_
   first | (refine at_o 52 rfl rfl rfl rfl (op_loadRA rfl fagg_api_Model) ?_) | (refine at_o 52 rfl rfl rfl rfl (op_loadPA rfl fagg_api_Model rfl (by first | decide | simp) rfl) ?_)
   first | (refine at_o 53 rfl rfl rfl rfl (op_loadRA rfl fagg_api_Value) ?_) | (refine at_o 53 rfl rfl rfl rfl (op_loadPA rfl fagg_api_Value rfl (by first | decide | simp) rfl) ?_)
   refine at_o 54 rfl rfl rfl rfl (op_call0 rfl rfl rfl rfl (hall)) ?_
   refine at_m 54 51 rfl rfl rfl (.inl rfl) rfl ?_
   refine at_o 55 rfl rfl rfl rfl (op_extract rfl rfl) ?_
   refine at_o 56 rfl rfl rfl rfl (op_extract rfl rfl) ?_
   refine at_m 55 9 rfl rfl rfl (.inr rfl) rfl ?_
   refine at_m 56 10 rfl rfl rfl (.inr rfl) rfl ?_
   refine at_end rfl ?_
   refine at_seq [1, 1, 1, 1, 1, 1, 1, 0, 1, 0, 0, 1, 1, 0, 0, 1, 1, 0] [1, 1, 1, 1, 1, 1, 1, 0, 1, 0, 0, 1, 1, 0, 0, 1, 1, 1] rfl ?_
   refine at_seq [1, 1, 1, 1, 1, 1, 1, 0, 1, 0, 0, 1, 1, 0, 0, 1, 1, 0, 0] [1, 1, 1, 1, 1, 1, 1, 0, 1, 0, 0, 1, 1, 0, 0, 1, 1, 0, 1] rfl ?_
   refine at_region rfl ?_
   refine at_m 10 57 rfl rfl rfl (.inl rfl) rfl ?_
   refine at_o 58 rfl rfl rfl rfl (op_binI rfl rfl) ?_
   rw [show ((0 : Int) != 0) = false from rfl]
   refine at_m 58 59 rfl rfl rfl (.inl rfl) rfl ?_
   refine at_m 9 60 rfl rfl rfl (.inl rfl) rfl ?_
   first | (refine at_o 61 rfl rfl rfl rfl (op_lenL rfl fu_Sapi_Step) ?_) | (refine at_o 61 rfl rfl rfl rfl (opOK_un (op_lenL rfl fu_Sapi_Step)) ?_) | (refine at_o 61 rfl rfl rfl rfl (op_lenA rfl fu_Sapi_Step) ?_)
   simp only [List.length_map]
   first | (refine at_o 62 rfl rfl rfl rfl (op_fieldP rfl ffld1_api_Graph (by decide)) ?_) | (refine at_o 62 rfl rfl rfl rfl (op_fieldR rfl ffld1_api_Graph (by decide) (by decide) rfl) ?_)
   first | (refine at_o 63 rfl rfl rfl rfl (op_loadR1 rfl fone__5b5d5b5d_api_Arc rfl) ?_) | (refine at_o 63 rfl rfl rfl rfl (op_loadP1 rfl fone__5b5d5b5d_api_Arc rfl rfl) ?_)
   refine at_m 7 64 rfl rfl rfl (.inl rfl) rfl ?_
   first | (refine at_o 65 rfl rfl rfl rfl (op_idxL rfl fsl__5b5d5b5d_api_Arc (by first | decide | omega) (by first | assumption | exact idx_some (by assumption) | rfl) (by first | rfl | (simp [V.size]; done))) ?_) | (refine at_o 65 rfl rfl rfl rfl (opOK_un (op_idxL rfl fsl__5b5d5b5d_api_Arc (by first | decide | omega) (by first | assumption | exact idx_some (by assumption) | rfl) (by first | rfl | (simp [V.size]; done)))) ?_) | (refine at_o 65 rfl rfl rfl rfl (op_idxA rfl fsl__5b5d5b5d_api_Arc (by first | decide | omega) (by first | decide | omega)) ?_)
   first | (refine at_o 66 rfl rfl rfl rfl (op_loadR1 rfl fone_Sapi_Arc rfl) ?_) | (refine at_o 66 rfl rfl rfl rfl (op_loadP1 rfl fone_Sapi_Arc rfl rfl) ?_)
   first | (refine at_o 67 rfl rfl rfl rfl (op_lenL rfl fu_Sapi_Arc) ?_) | (refine at_o 67 rfl rfl rfl rfl (opOK_un (op_lenL rfl fu_Sapi_Arc)) ?_) | (refine at_o 67 rfl rfl rfl rfl (op_lenA rfl fu_Sapi_Arc) ?_)
   simp only [List.length_map]
   refine at_o 68 rfl rfl rfl rfl (op_binI rfl rfl) ?_
   rw [show (((stM m.rules 0 (s0 :: l)).length : Int) != (row.length : Int)) = false by simp [hrl]]
   refine at_pk false 59 68 69 rfl rfl rfl rfl rfl rfl rfl (by dsimp only [List.set]) ?_
   refine at_end rfl ?_
   refine at_false [1, 1, 1, 1, 1, 1, 1, 0, 1, 0, 0, 1, 1, 0, 0, 1, 1, 0, 1, 0] [1, 1, 1, 1, 1, 1, 1, 0, 1, 0, 0, 1, 1, 0, 0, 1, 1, 0, 1, 1] rfl rfl ?_
   refine at_skip rfl ?_
   refine at_seq [1, 1, 1, 1, 1, 1, 1, 0, 1, 0, 0, 1, 1, 0, 0, 1, 1, 1, 0] [1, 1, 1, 1, 1, 1, 1, 0, 1, 0, 0, 1, 1, 0, 0, 1, 1, 1, 1] rfl ?_
   refine at_region rfl ?_
   first | (refine at_o 70 rfl rfl rfl rfl (op_fieldP rfl ffld1_api_Graph (by decide)) ?_) | (refine at_o 70 rfl rfl rfl rfl (op_fieldR rfl ffld1_api_Graph (by decide) (by decide) rfl) ?_)
   first | (refine at_o 71 rfl rfl rfl rfl (op_loadR1 rfl fone__5b5d5b5d_api_Arc rfl) ?_) | (refine at_o 71 rfl rfl rfl rfl (op_loadP1 rfl fone__5b5d5b5d_api_Arc rfl rfl) ?_)
   refine at_m 7 72 rfl rfl rfl (.inl rfl) rfl ?_
   first | (refine at_o 73 rfl rfl rfl rfl (op_idxL rfl fsl__5b5d5b5d_api_Arc (by first | decide | omega) (by first | assumption | exact idx_some (by assumption) | rfl) (by first | rfl | (simp [V.size]; done))) ?_) | (refine at_o 73 rfl rfl rfl rfl (opOK_un (op_idxL rfl fsl__5b5d5b5d_api_Arc (by first | decide | omega) (by first | assumption | exact idx_some (by assumption) | rfl) (by first | rfl | (simp [V.size]; done)))) ?_) | (refine at_o 73 rfl rfl rfl rfl (op_idxA rfl fsl__5b5d5b5d_api_Arc (by first | decide | omega) (by first | decide | omega)) ?_)
   first | (refine at_o 74 rfl rfl rfl rfl (op_loadR1 rfl fone_Sapi_Arc rfl) ?_) | (refine at_o 74 rfl rfl rfl rfl (op_loadP1 rfl fone_Sapi_Arc rfl rfl) ?_)
   first | (refine at_o 75 rfl rfl rfl rfl (op_lenL rfl fu_Sapi_Arc) ?_) | (refine at_o 75 rfl rfl rfl rfl (opOK_un (op_lenL rfl fu_Sapi_Arc)) ?_) | (refine at_o 75 rfl rfl rfl rfl (op_lenA rfl fu_Sapi_Arc) ?_)
   simp only [List.length_map]
   refine at_c 76 rfl rfl rfl (.inl rfl) ?_
   refine at_end rfl ?_
   refine at_block [1, 1, 1, 1, 1, 1, 1, 0, 1, 0, 0, 1, 1, 0, 0, 1, 1, 1, 1, 0] 2 rfl ?_
   refine at_loop [1, 1, 1, 1, 1, 1, 1, 0, 1, 0, 0, 1, 1, 0, 0, 1, 1, 1, 1, 0, 0] rfl ?_
   try simp only [List.length_map, List.length_nil, Int.toNat_natCast]
   refine run_wk (.drop (.drop (.drop (.keep (.keep (.keep (.drop (.drop (.drop (.keep (.d16 (.d16 (.drop (.drop (.keep (.keep (.keep (.d16 (.d4 (.d4 (.drop (.drop (.drop (.keep (.keep (.keep (.d16 (.d16 (.d16 .nil))))))))))))))))))))))))))))) (hb_in _ _ m cs A σd i (stM m.rules 0 (s0 :: l)) row hro (by omega) hcl ?_ _ 0 rfl)
   refine run_blk ?_
   refine at_region rfl ?_
   refine at_o 105 rfl rfl rfl rfl (op_binI rfl rfl) ?_
   rw [wrap_succ (by omega)]
   refine at_m 105 46 rfl rfl rfl (.inl rfl) rfl ?_
   refine at_end rfl ?_
   exact run_wk (.drop (.drop (.drop (.keep (.keep (.keep (.d16 (.d16 (.d4 (.drop (.drop (.keep (.keep (.keep (.d16 (.d16 (.d16 (.d16 (.d4 (.d4 (.d4 (.drop (.drop .nil))))))))))))))))))))))) (ih _ (by omega) (i + 1) rfl)
  ·skip
   have hge : cs.length ≤ i := by simpa using hc1
   refine at_exit rfl rfl ?_
   exact run_wk (.drop (.drop (.drop (.keep (.keep (.keep (.d16 (.d16 (.d16 (.d16 (.d16 (.d16 (.d16 (.d4 (.drop (.drop (.drop .nil))))))))))))))))) hk
set_option maxRecDepth 20000 in
theorem hb_core (s : List Int) (hbs : BytesOK s) (m : Md) (hm : MdS m) (hst : CfS m.ns m.np m.start) (k0 : Nat) (hk0 : k0 ≤ 200) (hsd : FSpec PP 10 [.ptr 0 0] (dice (s.take 200) 0) (.v (vMd m)) (dice (s.take 200) k0)) : FSpec PP 3 [dus s] σ0 (db true) σ0 := by
 obtain ⟨cn, ln, kn, hrs, hne⟩ := near_ex (s.take 200) (bytes_take hbs 200) (by simp; omega) m hm hst k0 hk0
 have hbu := build_spec m hm hst
 obtain ⟨hI, hlen⟩ := built_inv hm hst
 generalize outM m.rules 99 0 [m.start] [] = X at hbu hI hlen
 obtain ⟨cs, A⟩ := X
 simp only at hbu hI hlen
 have hp := hm.ok.p1
 have hcl : ∀ c ∈ cs, c.length ≤ 100 := fun c hc => ((hI.ok.ok c hc).ok.len3 hp).1
 have hle := hI.ok.le hm.ok
 have hG := hI.g hm hlen
 have hpos := hG.pos
 have hck := gcheck_spec cs.length A hG cs rfl hI.ok.once hcl
 have hre := greachP_spec cs.length A hG cs rfl hI.ok.once hcl 0 (by omega)
 have hra := hI.all hm hlen
 have hin := hI.rs hlen hrs
 have hx0 : (cs.map vCf)[(0 : Int).toNat]? = some (vCf m.start) := by simp [hI.first]
 have hsm := rsame_self (hst.ok.len3 hp).1
 have hinS := in_spec cs cn (by omega) hcl (hcl cn hin)
 rw [show cs.any (fun c => decide (c = cn)) = true from List.any_eq_true.2 ⟨cn, hin, by simp⟩] at hinS
 refine spec_at cHB Tryz.func3 rfl (by kernel_rfl) (by first | decide | simp) _ (by dsimp only [Tryz.f3, List.length, Nat.reduceAdd, Nat.reduceSub, List.replicate, List.cons_append, List.nil_append]) ?_
 refine at_seq [0] [1] rfl ?_
 refine at_region rfl ?_
 refine at_c 2 rfl rfl rfl (.inr rfl) ?_
 refine at_end rfl ?_
 refine at_seq [1, 0] [1, 1] rfl ?_
 refine at_seq [1, 0, 0] [1, 0, 1] rfl ?_
 refine at_region rfl ?_
 refine at_o 15 rfl rfl rfl rfl (op_call0 rfl rfl rfl rfl (sane_spec)) ?_
 refine at_o 16 rfl rfl rfl rfl (op_un rfl rfl) ?_
 refine at_end rfl ?_
 refine at_false [1, 0, 1, 0] [1, 0, 1, 1] rfl rfl ?_
 refine at_skip rfl ?_
 refine at_seq [1, 1, 0] [1, 1, 1] rfl ?_
 refine at_region rfl ?_
 refine at_m 0 17 rfl rfl rfl (.inl rfl) rfl ?_
 refine at_opS (some 18) rfl rfl rfl rfl (op_call0_new rfl rfl rfl rfl (newD_spec s)) (by dsimp only [putD, List.set]) (by dsimp only [List.set, List.append, List.cons_append, List.nil_append, cellsD, List.map, repl, List.length, Nat.reduceAdd, if_true, ↓reduceIte]; first | done | rfl) ?_
 refine at_m 18 3 rfl rfl rfl (.inr rfl) rfl ?_
 refine at_end rfl ?_
 refine at_seq [1, 1, 1, 0] [1, 1, 1, 1] rfl ?_
 refine at_region rfl ?_
 refine at_m 3 19 rfl rfl rfl (.inl rfl) rfl ?_
 refine at_opS (some 20) rfl rfl rfl rfl (op_call1 rfl rfl rfl rfl rfl (.ptr .nil) rfl hsd) (by dsimp only [putD, List.set]) (by dsimp only [List.set, List.append, List.cons_append, List.nil_append, cellsD, List.map, repl, List.length, Nat.reduceAdd, if_true, ↓reduceIte]; first | done | rfl) ?_
 refine at_new 20 4 rfl rfl rfl rfl fzero_api_Model rfl rfl rfl rfl (by decide) rfl rfl fagg_api_Model (by first | rfl | (simp [V.size]; done)) rfl (by simp only [List.length_cons]; omega) (by dsimp only [List.set]) ?_
 refine at_end rfl ?_
 refine at_seq [1, 1, 1, 1, 0] [1, 1, 1, 1, 1] rfl ?_
 refine at_region rfl ?_
 first | (refine at_o 22 rfl rfl rfl rfl (op_loadRA rfl fagg_api_Model) ?_) | (refine at_o 22 rfl rfl rfl rfl (op_loadPA rfl fagg_api_Model rfl (by first | decide | simp) rfl) ?_)
 refine at_o 23 rfl rfl rfl rfl (op_call0 rfl rfl rfl rfl (hbu)) ?_
 refine at_m 23 21 rfl rfl rfl (.inl rfl) rfl ?_
 refine at_o 24 rfl rfl rfl rfl (op_extract rfl rfl) ?_
 refine at_o 25 rfl rfl rfl rfl (op_extract rfl rfl) ?_
 refine at_new 24 5 rfl rfl rfl rfl fzero_api_Graph rfl rfl rfl rfl (by decide) rfl rfl fagg_api_Graph (by first | rfl | (simp [V.size]; done)) rfl (by simp only [List.length_cons]; omega) (by dsimp only [List.set]) ?_
 refine at_m 25 6 rfl rfl rfl (.inr rfl) rfl ?_
 refine at_end rfl ?_
 refine at_seq [1, 1, 1, 1, 1, 0] [1, 1, 1, 1, 1, 1] rfl ?_
 refine at_seq [1, 1, 1, 1, 1, 0, 0] [1, 1, 1, 1, 1, 0, 1] rfl ?_
 refine at_region rfl ?_
 refine at_m 6 26 rfl rfl rfl (.inl rfl) rfl ?_
 refine at_o 27 rfl rfl rfl rfl (op_binI rfl rfl) ?_
 refine at_end rfl ?_
 refine at_cond [1, 1, 1, 1, 1, 0, 1, 0] [1, 1, 1, 1, 1, 0, 1, 1] rfl rfl (fun hc1 => ?_) (fun hc1 => ?_)
 ·skip
  exact absurd hc1 (by simp)
 ·skip
  refine at_skip rfl ?_
  refine at_seq [1, 1, 1, 1, 1, 1, 0] [1, 1, 1, 1, 1, 1, 1] rfl ?_
  refine at_seq [1, 1, 1, 1, 1, 1, 0, 0] [1, 1, 1, 1, 1, 1, 0, 1] rfl ?_
  refine at_draw mixed rfl [dice (s.take 200) k0] rfl ?_
  first | (refine da_q 30 rfl rfl rfl rfl (fun s hs => op_loadRA rfl fagg_api_Graph) ?_) | (refine da_q 30 rfl rfl rfl rfl (by intro s hs; simp only [List.mem_cons, List.not_mem_nil, or_false] at hs; rcases hs with rfl <;> exact op_loadPA rfl fagg_api_Graph rfl (by first | decide | simp) rfl) ?_)
  refine da_q 31 rfl rfl rfl rfl (fun s hs => op_call0 rfl rfl rfl rfl (hck)) ?_
  refine da_q 32 rfl rfl rfl rfl (fun s hs => op_binI rfl rfl) ?_
  rw [show ((0 : Int) != 0) = false from rfl]
  refine da_m 32 33 rfl rfl rfl (.inl rfl) rfl ?_
  first | (refine da_q 34 rfl rfl rfl rfl (fun s hs => op_fieldP rfl ffld0_api_Graph (by decide)) ?_) | (refine da_q 34 rfl rfl rfl rfl (fun s hs => op_fieldR rfl ffld0_api_Graph (by decide) (by decide) rfl) ?_)
  first | (refine da_q 35 rfl rfl rfl rfl (fun s hs => op_loadR1 rfl fone_Sapi_Value rfl) ?_) | (refine da_q 35 rfl rfl rfl rfl (by intro s hs; simp only [List.mem_cons, List.not_mem_nil, or_false] at hs; rcases hs with rfl <;> exact op_loadP1 rfl fone_Sapi_Value rfl rfl) ?_)
  first | (refine da_q 36 rfl rfl rfl rfl (fun s hs => op_idxL rfl fsl_Sapi_Value (by first | decide | omega) (by first | assumption | exact idx_some (by assumption) | rfl) (by first | rfl | (simp [V.size]; done))) ?_) | (refine da_q 36 rfl rfl rfl rfl (fun s hs => opOK_un (op_idxL rfl fsl_Sapi_Value (by first | decide | omega) (by first | assumption | exact idx_some (by assumption) | rfl) (by first | rfl | (simp [V.size]; done)))) ?_) | (refine da_q 36 rfl rfl rfl rfl (fun s hs => op_idxA rfl fsl_Sapi_Value (by first | decide | omega) (by first | decide | omega)) ?_)
  first | (refine da_q 37 rfl rfl rfl rfl (fun s hs => op_loadRA rfl fagg_api_Value) ?_) | (refine da_q 37 rfl rfl rfl rfl (by intro s hs; simp only [List.mem_cons, List.not_mem_nil, or_false] at hs; rcases hs with rfl <;> exact op_loadPA rfl fagg_api_Value rfl (by first | decide | simp) rfl) ?_)
  first | (refine da_q 38 rfl rfl rfl rfl (fun s hs => op_fieldP rfl ffld8_api_Model (by decide)) ?_) | (refine da_q 38 rfl rfl rfl rfl (fun s hs => op_fieldR rfl ffld8_api_Model (by decide) (by decide) rfl) ?_)
  first | (refine da_q 39 rfl rfl rfl rfl (fun s hs => op_loadRA rfl fagg_api_Value) ?_) | (refine da_q 39 rfl rfl rfl rfl (by intro s hs; simp only [List.mem_cons, List.not_mem_nil, or_false] at hs; rcases hs with rfl <;> exact op_loadPA rfl fagg_api_Value rfl (by first | decide | simp) rfl) ?_)
  refine da_q 40 rfl rfl rfl rfl (fun s hs => op_call0 rfl rfl rfl rfl (hsm)) ?_
  refine da_q 41 rfl rfl rfl rfl (fun s hs => op_un rfl rfl) ?_
  refine da_pk false 33 41 42 rfl rfl rfl rfl rfl rfl rfl (by dsimp only [List.set]) ?_
  refine da_end rfl ⟨by decide +kernel, _, rfl, ?_⟩
  refine at_false [1, 1, 1, 1, 1, 1, 0, 1, 0] [1, 1, 1, 1, 1, 1, 0, 1, 1] rfl rfl ?_
  refine at_skip rfl ?_
  refine at_seq [1, 1, 1, 1, 1, 1, 1, 0] [1, 1, 1, 1, 1, 1, 1, 1] rfl ?_
  refine at_seq [1, 1, 1, 1, 1, 1, 1, 0, 0] [1, 1, 1, 1, 1, 1, 1, 0, 1] rfl ?_
  refine at_region rfl ?_
  first | (refine at_o 43 rfl rfl rfl rfl (op_fieldP rfl ffld0_api_Graph (by decide)) ?_) | (refine at_o 43 rfl rfl rfl rfl (op_fieldR rfl ffld0_api_Graph (by decide) (by decide) rfl) ?_)
  first | (refine at_o 44 rfl rfl rfl rfl (op_loadR1 rfl fone_Sapi_Value rfl) ?_) | (refine at_o 44 rfl rfl rfl rfl (op_loadP1 rfl fone_Sapi_Value rfl rfl) ?_)
  first | (refine at_o 45 rfl rfl rfl rfl (op_lenL rfl fu_Sapi_Value) ?_) | (refine at_o 45 rfl rfl rfl rfl (opOK_un (op_lenL rfl fu_Sapi_Value)) ?_) | (refine at_o 45 rfl rfl rfl rfl (op_lenA rfl fu_Sapi_Value) ?_)
  simp only [List.length_map]
  refine at_c 46 rfl rfl rfl (.inl rfl) ?_
  refine at_end rfl ?_
  refine at_block [1, 1, 1, 1, 1, 1, 1, 0, 1, 0] 0 rfl ?_
  refine at_loop [1, 1, 1, 1, 1, 1, 1, 0, 1, 0, 0] rfl ?_
  try simp only [List.length_map, List.length_nil, Int.toNat_natCast]
  refine run_wk (.drop (.drop (.drop (.keep (.keep (.keep (.d16 (.d16 (.d4 (.drop (.drop (.keep (.keep (.keep (.d16 (.d16 (.d16 (.d16 (.d4 (.d4 (.d4 (.drop (.drop .nil))))))))))))))))))))))) (hb_out _ _ m cs A _ hm hI hlen hcl ?_ _ 0 rfl)
  refine at_seq [1, 1, 1, 1, 1, 1, 1, 1, 0] [1, 1, 1, 1, 1, 1, 1, 1, 1] rfl ?_
  refine at_region rfl ?_
  refine at_m 3 107 rfl rfl rfl (.inl rfl) rfl ?_
  first | (refine at_o 108 rfl rfl rfl rfl (op_loadRA rfl fagg_api_Model) ?_) | (refine at_o 108 rfl rfl rfl rfl (op_loadPA rfl fagg_api_Model rfl (by first | decide | simp) rfl) ?_)
  refine at_opS (some 109) rfl rfl rfl rfl (op_call1 rfl rfl rfl rfl rfl (.ptr (.pl rfl (.pl rfl .nil))) rfl hne) (by dsimp only [putD, List.set]) (by dsimp only [List.set, List.append, List.cons_append, List.nil_append, cellsD, List.map, repl, List.length, Nat.reduceAdd, if_true, ↓reduceIte]; first | done | rfl) ?_
  refine at_m 109 106 rfl rfl rfl (.inl rfl) rfl ?_
  refine at_o 110 rfl rfl rfl rfl (op_extract rfl rfl) ?_
  refine at_o 111 rfl rfl rfl rfl (op_extract rfl rfl) ?_
  refine at_new 110 13 rfl rfl rfl rfl fzero_api_Value rfl rfl rfl rfl (by decide) rfl rfl fagg_api_Value (by first | rfl | (simp [V.size]; done)) rfl (by simp only [List.length_cons]; omega) (by dsimp only [List.set]) ?_
  refine at_m 111 14 rfl rfl rfl (.inr rfl) rfl ?_
  refine at_end rfl ?_
  refine at_seq [1, 1, 1, 1, 1, 1, 1, 1, 1, 0] [1, 1, 1, 1, 1, 1, 1, 1, 1, 1] rfl ?_
  refine at_draw mixed rfl [dice (s.take 200) kn] rfl ?_
  first | (refine da_q 112 rfl rfl rfl rfl (fun s hs => op_loadRA rfl fagg_api_Graph) ?_) | (refine da_q 112 rfl rfl rfl rfl (by intro s hs; simp only [List.mem_cons, List.not_mem_nil, or_false] at hs; rcases hs with rfl <;> exact op_loadPA rfl fagg_api_Graph rfl (by first | decide | simp) rfl) ?_)
  refine da_q 113 rfl rfl rfl rfl (fun s hs => op_call0 rfl rfl rfl rfl (hre)) ?_
  first | (refine da_q 114 rfl rfl rfl rfl (fun s hs => op_lenL rfl fu_Sint) ?_) | (refine da_q 114 rfl rfl rfl rfl (fun s hs => opOK_un (op_lenL rfl fu_Sint)) ?_) | (refine da_q 114 rfl rfl rfl rfl (fun s hs => op_lenA rfl fu_Sint) ?_)
  simp only [List.length_map]
  rw [hra]
  first | (refine da_q 115 rfl rfl rfl rfl (fun s hs => op_fieldP rfl ffld0_api_Graph (by decide)) ?_) | (refine da_q 115 rfl rfl rfl rfl (fun s hs => op_fieldR rfl ffld0_api_Graph (by decide) (by decide) rfl) ?_)
  first | (refine da_q 116 rfl rfl rfl rfl (fun s hs => op_loadR1 rfl fone_Sapi_Value rfl) ?_) | (refine da_q 116 rfl rfl rfl rfl (by intro s hs; simp only [List.mem_cons, List.not_mem_nil, or_false] at hs; rcases hs with rfl <;> exact op_loadP1 rfl fone_Sapi_Value rfl rfl) ?_)
  first | (refine da_q 117 rfl rfl rfl rfl (fun s hs => op_lenL rfl fu_Sapi_Value) ?_) | (refine da_q 117 rfl rfl rfl rfl (fun s hs => opOK_un (op_lenL rfl fu_Sapi_Value)) ?_) | (refine da_q 117 rfl rfl rfl rfl (fun s hs => op_lenA rfl fu_Sapi_Value) ?_)
  simp only [List.length_map]
  refine da_q 118 rfl rfl rfl rfl (fun s hs => op_binI rfl rfl) ?_
  rw [beq_self_eq_true]
  refine da_m 118 119 rfl rfl rfl (.inl rfl) rfl ?_
  first | (refine da_q 120 rfl rfl rfl rfl (fun s hs => op_fieldP rfl ffld0_api_Graph (by decide)) ?_) | (refine da_q 120 rfl rfl rfl rfl (fun s hs => op_fieldR rfl ffld0_api_Graph (by decide) (by decide) rfl) ?_)
  first | (refine da_q 121 rfl rfl rfl rfl (fun s hs => op_loadR1 rfl fone_Sapi_Value rfl) ?_) | (refine da_q 121 rfl rfl rfl rfl (by intro s hs; simp only [List.mem_cons, List.not_mem_nil, or_false] at hs; rcases hs with rfl <;> exact op_loadP1 rfl fone_Sapi_Value rfl rfl) ?_)
  first | (refine da_q 122 rfl rfl rfl rfl (fun s hs => op_loadRA rfl fagg_api_Value) ?_) | (refine da_q 122 rfl rfl rfl rfl (by intro s hs; simp only [List.mem_cons, List.not_mem_nil, or_false] at hs; rcases hs with rfl <;> exact op_loadPA rfl fagg_api_Value rfl (by first | decide | simp) rfl) ?_)
  refine da_q 123 rfl rfl rfl rfl (fun s hs => op_call0 rfl rfl rfl rfl (hinS)) ?_
  refine da_pk true 119 123 124 rfl rfl rfl rfl rfl rfl rfl (by dsimp only [List.set]) ?_
  refine da_m 124 2 rfl rfl rfl (.inr rfl) rfl ?_
  refine da_end rfl ⟨by decide +kernel, _, rfl, ?_⟩
  refine at_ret rfl (ret_one (t := 2) rfl rfl ?_ rfl)
  rfl
end Go.Proofs.YtmdipbhjhkckjaaGreat

namespace Go.Proofs.YtmdipbhjhkckjaaGreat
open Go.Dv
def flR (rs : List Rl) : List D := flatV (rs.map vRl)
abbrev rcD (r : Rl) : List D := [.v (.str r.name), di r.frm, di r.to, .v (vl r.need), .v (vl r.give), .v .nils, di 0, di 0, di 0, .v .nils, .v .nils, .v .nils, .v .nils, di 0]
theorem flR_cons (r : Rl) (rs : List Rl) : flR (r :: rs) = rcD r ++ flR rs := by simp [flR, flatV, V.cellsV]
theorem flR_length : ∀ rs : List Rl, (flR rs).length = rs.length * 14
 | [] => rfl
 | r :: rs => by rw [flR_cons, List.length_append, flR_length rs]; simp; omega
theorem flR_at : ∀ {rs : List Rl} {i : Nat} {r : Rl}, rs[i]? = some r → ((flR rs).drop (i * 14)).take 14 = rcD r
 | [], i, r, h => by simp at h
 | a :: rs, 0, r, h => by simp at h; subst h; rw [flR_cons]; rfl
 | a :: rs, i + 1, r, h => by
  have h : rs[i]? = some r := by simpa using h
  rw [flR_cons, show (i + 1) * 14 = 14 + i * 14 by omega, ← List.drop_drop]
  exact flR_at h
abbrev swR (r : Rl) : Rl := ⟨r.name, r.frm, r.to, r.give, r.need⟩
theorem flR_set : ∀ {rs : List Rl} {i : Nat} {r : Rl}, rs[i]? = some r → ((flR rs).set (i * 14 + 3) (.v (vl r.give))).set (i * 14 + 4) (.v (vl r.need)) = flR (rs.set i (swR r))
 | [], i, r, h => by simp at h
 | a :: rs, 0, r, h => by simp at h; subst h; rw [List.set_cons_zero, flR_cons, flR_cons]; rfl
 | a :: rs, i + 1, r, h => by
  have h : rs[i]? = some r := by simpa using h
  rw [List.set_cons_succ, flR_cons, flR_cons, ← flR_set h, List.set_append_right _ _ (by simp; omega), List.set_append_right _ _ (by simp; omega)]
  congr 2
  ·congr 1; simp; omega
  ·simp; omega
def stR (r : Rl) : Rl := if r.need.sum < r.give.sum then swR r else r
theorem lend_md {L : Nat → Option (List D)} {q : Nat} {m : Md} (h1 : L (q + 1) = some [di 1, .v (vNm (nmS.take m.ns)), .v (vNm (nmP.take m.np)), .v .nils, .v .nils, di 0, di 0, .gro q m.rules.length 14, di 0, .v (vK m.start)]) (h2 : L q = some (flR m.rules)) : lends L 2 (.ptr (q + 1) 0) (.ref (vMd m)) := by
 refine .inr (.inl ⟨q + 1, 0, _, vMd m, rfl, rfl, h1, fun j y hj => ?_⟩)
 match j, hj with
 | 0, hj => simp [V.cellsV] at hj; subst hj; exact ⟨rfl, _, rfl, .inl ⟨_, .same, rfl⟩⟩
 | 1, hj => simp [V.cellsV] at hj; subst hj; exact ⟨rfl, _, rfl, .inl ⟨_, .same, rfl⟩⟩
 | 2, hj => simp [V.cellsV] at hj; subst hj; exact ⟨rfl, _, rfl, .inl ⟨_, .same, rfl⟩⟩
 | 3, hj => simp [V.cellsV] at hj; subst hj; exact ⟨rfl, _, rfl, .inl ⟨_, .same, rfl⟩⟩
 | 4, hj => simp [V.cellsV] at hj; subst hj; exact ⟨rfl, _, rfl, .inl ⟨_, .same, rfl⟩⟩
 | 5, hj => simp [V.cellsV] at hj; subst hj; exact ⟨rfl, _, rfl, .inl ⟨_, .same, rfl⟩⟩
 | 6, hj => simp [V.cellsV] at hj; subst hj; exact ⟨rfl, _, rfl, .inl ⟨_, .same, rfl⟩⟩
 | 7, hj =>
  simp [V.cellsV] at hj; subst hj
  refine ⟨rfl, _, rfl, .inr (.inr ⟨q, 0, 14, flR m.rules, m.rules.map vRl, .inr ⟨14, by simp, rfl⟩, rfl, by decide, fun y hy => (by obtain ⟨r, _, rfl⟩ := List.mem_map.1 hy; rfl), h2, fun j y hj => ?_⟩)⟩
  have hc : y.isAgg = false := by
   have hm := List.mem_of_getElem? hj
   simp only [List.mem_flatMap, List.mem_map] at hm
   obtain ⟨_, ⟨r, _, rfl⟩, hy⟩ := hm
   simp [V.cellsV] at hy
   rcases hy with h | h | h | h | h | h | h | h | h <;> subst h <;> rfl
  exact ⟨hc, .v y, by simp only [flR, flatV, Nat.zero_add, List.getElem?_map, hj, Option.map_some], ⟨_, .same, rfl⟩⟩
 | 8, hj => simp [V.cellsV] at hj; subst hj; exact ⟨rfl, _, rfl, .inl ⟨_, .same, rfl⟩⟩
 | 9, hj => simp [V.cellsV] at hj; subst hj; exact ⟨rfl, _, rfl, .inl ⟨_, .same, rfl⟩⟩
 | j + 10, hj => simp [V.cellsV] at hj
noncomputable def cSteady : Code := Tryz.f10.body.getD .skip
set_option maxRecDepth 20000 in
theorem sums_loop (R : List D → St → Prop) (K : List KI) (σd : St) (qq i : Nat) (r : Rl) (hl : r.give.length = r.need.length) (hl2 : r.need.length ≤ 100) (hn : ∀ x ∈ r.need, 0 ≤ x ∧ x ≤ 2) (hg : ∀ x ∈ r.give, 0 ≤ x ∧ x ≤ 2) (SA SB : Int) (hk : Run PP R K (.undef :: .undef :: (.ptr 1 0) :: (.ptr qq 0) :: (di ↑i) :: (.v (.ref (vRl r))) :: (di SA) :: (di SB) :: .undef :: .undef :: .undef :: .undef :: .undef :: .undef :: .undef :: .undef :: .undef :: .undef :: .undef :: .undef :: .undef :: .undef :: .undef :: .undef :: .undef :: .undef :: .undef :: .undef :: .undef :: .undef :: .undef :: .undef :: .undef :: .undef :: .undef :: .undef :: .undef :: .undef :: .undef :: .undef :: .undef :: .undef :: .undef :: .undef :: .undef :: .undef :: .undef :: .undef :: .undef :: .undef :: .undef :: .undef :: .undef :: .undef :: .undef :: .undef :: .undef :: .undef :: .undef :: .undef :: .undef :: .undef :: []) σd) (m : Nat) : ∀ (j : Nat) (a b : Int), r.need.length - j = m → 0 ≤ a ∧ a ≤ 2 * j → 0 ≤ b ∧ b ≤ 2 * j → SA = a + (r.need.drop j).sum → SB = b + (r.give.drop j).sum → Run PP R (.lp (sub cSteady [1, 1, 0, 1, 0, 0, 1, 0, 0, 1, 1, 0, 1, 0, 0]) :: .blk 2 :: K) (.undef :: .undef :: (.ptr 1 0) :: (.ptr qq 0) :: (di ↑i) :: (.v (.ref (vRl r))) :: (di a) :: (di b) :: (di ↑j) :: .undef :: .undef :: .undef :: .undef :: .undef :: .undef :: .undef :: .undef :: .undef :: .undef :: .undef :: .undef :: .undef :: .undef :: .undef :: .undef :: .undef :: .undef :: .undef :: .undef :: .undef :: .undef :: .undef :: .undef :: .undef :: .undef :: .undef :: .undef :: .undef :: .undef :: .undef :: .undef :: .undef :: .undef :: .undef :: .undef :: .undef :: .undef :: .undef :: .undef :: .undef :: .undef :: .undef :: .undef :: .undef :: .undef :: .undef :: .undef :: .undef :: .undef :: .undef :: .undef :: .undef :: []) σd := by
 induction m using Nat.strongRecOn with
 | _ m ih =>
  intro j a b hm ha hb hA hB
  refine run_lp ?_
  refine at_seq [1, 1, 0, 1, 0, 0, 1, 0, 0, 1, 1, 0, 1, 0, 0, 0] [1, 1, 0, 1, 0, 0, 1, 0, 0, 1, 1, 0, 1, 0, 0, 1] rfl ?_
  refine at_seq [1, 1, 0, 1, 0, 0, 1, 0, 0, 1, 1, 0, 1, 0, 0, 0, 0] [1, 1, 0, 1, 0, 0, 1, 0, 0, 1, 1, 0, 1, 0, 0, 0, 1] rfl ?_
  refine at_region rfl ?_
  refine at_m 8 23 rfl rfl rfl (.inl rfl) rfl ?_
  first | (refine at_o 24 rfl rfl rfl rfl (op_fieldP rfl ffld3_api_Rule (by decide)) ?_) | (refine at_o 24 rfl rfl rfl rfl (op_fieldR rfl ffld3_api_Rule (by decide) (by decide) rfl) ?_)
  first | (refine at_o 25 rfl rfl rfl rfl (op_loadR1 rfl fone_Sint rfl) ?_) | (refine at_o 25 rfl rfl rfl rfl (op_loadP1 rfl fone_Sint rfl rfl) ?_)
  first | (refine at_o 26 rfl rfl rfl rfl (op_lenL rfl fu_Sint) ?_) | (refine at_o 26 rfl rfl rfl rfl (opOK_un (op_lenL rfl fu_Sint)) ?_) | (refine at_o 26 rfl rfl rfl rfl (op_lenA rfl fu_Sint) ?_)
  simp only [List.length_map]
  refine at_o 27 rfl rfl rfl rfl (op_binI rfl rfl) ?_
  refine at_end rfl ?_
  refine at_cond [1, 1, 0, 1, 0, 0, 1, 0, 0, 1, 1, 0, 1, 0, 0, 0, 1, 0] [1, 1, 0, 1, 0, 0, 1, 0, 0, 1, 1, 0, 1, 0, 0, 0, 1, 1] rfl rfl (fun hc1 => ?_) (fun hc1 => ?_)
  ·skip
   have hlt : j < r.need.length := by simpa using hc1
   obtain ⟨x, hx⟩ := get_ex hlt
   obtain ⟨y, hy⟩ := get_ex (a := r.give) (i := j) (by omega)
   have hx2 := idx_some (f := vi) hx
   have hy2 := idx_some (f := vi) hy
   have bx := hn x (List.mem_of_getElem? hx)
   have by_ := hg y (List.mem_of_getElem? hy)
   rw [List.drop_eq_getElem_cons hlt, (List.getElem?_eq_some_iff.1 hx).2, List.sum_cons] at hA
   rw [List.drop_eq_getElem_cons (show j < r.give.length by omega), (List.getElem?_eq_some_iff.1 hy).2, List.sum_cons] at hB
   refine at_skip rfl ?_
   refine at_seq [1, 1, 0, 1, 0, 0, 1, 0, 0, 1, 1, 0, 1, 0, 0, 1, 0] [1, 1, 0, 1, 0, 0, 1, 0, 0, 1, 1, 0, 1, 0, 0, 1, 1] rfl ?_
   refine at_block [1, 1, 0, 1, 0, 0, 1, 0, 0, 1, 1, 0, 1, 0, 0, 1, 0, 0] 3 rfl ?_
   refine at_draw mixed rfl [σd] rfl ?_
   refine da_m 6 30 rfl rfl rfl (.inl rfl) rfl ?_
   first | (refine da_q 31 rfl rfl rfl rfl (fun s hs => op_fieldP rfl ffld3_api_Rule (by decide)) ?_) | (refine da_q 31 rfl rfl rfl rfl (fun s hs => op_fieldR rfl ffld3_api_Rule (by decide) (by decide) rfl) ?_)
   first | (refine da_q 32 rfl rfl rfl rfl (fun s hs => op_loadR1 rfl fone_Sint rfl) ?_) | (refine da_q 32 rfl rfl rfl rfl (by intro s hs; simp only [List.mem_cons, List.not_mem_nil, or_false] at hs; rcases hs with rfl <;> exact op_loadP1 rfl fone_Sint rfl rfl) ?_)
   refine da_m 8 33 rfl rfl rfl (.inl rfl) rfl ?_
   first | (refine da_q 34 rfl rfl rfl rfl (fun s hs => op_idxL rfl fsl_Sint (by first | decide | omega) (by first | assumption | exact idx_some (by assumption) | rfl) (by first | rfl | (simp [V.size]; done))) ?_) | (refine da_q 34 rfl rfl rfl rfl (fun s hs => opOK_un (op_idxL rfl fsl_Sint (by first | decide | omega) (by first | assumption | exact idx_some (by assumption) | rfl) (by first | rfl | (simp [V.size]; done)))) ?_) | (refine da_q 34 rfl rfl rfl rfl (fun s hs => op_idxA rfl fsl_Sint (by first | decide | omega) (by first | decide | omega)) ?_)
   first | (refine da_q 35 rfl rfl rfl rfl (fun s hs => op_loadR1 rfl fone_int rfl) ?_) | (refine da_q 35 rfl rfl rfl rfl (by intro s hs; simp only [List.mem_cons, List.not_mem_nil, or_false] at hs; rcases hs with rfl <;> exact op_loadP1 rfl fone_int rfl rfl) ?_)
   refine da_q 36 rfl rfl rfl rfl (fun s hs => op_binI rfl rfl) ?_
   rw [wrap_id (by omega) (by omega)]
   refine da_m 7 37 rfl rfl rfl (.inl rfl) rfl ?_
   first | (refine da_q 38 rfl rfl rfl rfl (fun s hs => op_fieldP rfl ffld4_api_Rule (by decide)) ?_) | (refine da_q 38 rfl rfl rfl rfl (fun s hs => op_fieldR rfl ffld4_api_Rule (by decide) (by decide) rfl) ?_)
   first | (refine da_q 39 rfl rfl rfl rfl (fun s hs => op_loadR1 rfl fone_Sint rfl) ?_) | (refine da_q 39 rfl rfl rfl rfl (by intro s hs; simp only [List.mem_cons, List.not_mem_nil, or_false] at hs; rcases hs with rfl <;> exact op_loadP1 rfl fone_Sint rfl rfl) ?_)
   refine da_m 8 40 rfl rfl rfl (.inl rfl) rfl ?_
   first | (refine da_q 41 rfl rfl rfl rfl (fun s hs => op_idxL rfl fsl_Sint (by first | decide | omega) (by first | assumption | exact idx_some (by assumption) | rfl) (by first | rfl | (simp [V.size]; done))) ?_) | (refine da_q 41 rfl rfl rfl rfl (fun s hs => opOK_un (op_idxL rfl fsl_Sint (by first | decide | omega) (by first | assumption | exact idx_some (by assumption) | rfl) (by first | rfl | (simp [V.size]; done)))) ?_) | (refine da_q 41 rfl rfl rfl rfl (fun s hs => op_idxA rfl fsl_Sint (by first | decide | omega) (by first | decide | omega)) ?_)
   first | (refine da_q 42 rfl rfl rfl rfl (fun s hs => op_loadR1 rfl fone_int rfl) ?_) | (refine da_q 42 rfl rfl rfl rfl (by intro s hs; simp only [List.mem_cons, List.not_mem_nil, or_false] at hs; rcases hs with rfl <;> exact op_loadP1 rfl fone_int rfl rfl) ?_)
   refine da_q 43 rfl rfl rfl rfl (fun s hs => op_binI rfl rfl) ?_
   rw [wrap_id (by omega) (by omega)]
   refine da_m 36 6 rfl rfl rfl (.inr rfl) rfl ?_
   refine da_m 43 7 rfl rfl rfl (.inr rfl) rfl ?_
   refine da_end rfl ⟨by decide +kernel, _, rfl, ?_⟩
   refine run_blk ?_
   refine at_region rfl ?_
   refine at_m 8 28 rfl rfl rfl (.inl rfl) rfl ?_
   refine at_o 29 rfl rfl rfl rfl (op_binI rfl rfl) ?_
   rw [wrap_succ (by omega)]
   refine at_m 29 8 rfl rfl rfl (.inr rfl) rfl ?_
   refine at_end rfl ?_
   exact run_wk (.drop (.drop (.keep (.keep (.keep (.keep (.keep (.keep (.keep (.d16 (.d16 (.d16 (.d4 (.drop .nil)))))))))))))) (ih _ (by omega) (j + 1) _ _ rfl (by omega) (by omega) (by omega) (by omega))
  ·skip
   have hge : r.need.length ≤ j := by simpa using hc1
   rw [List.drop_of_length_le hge, List.sum_nil] at hA
   rw [List.drop_of_length_le (by omega), List.sum_nil] at hB
   have hA2 : a = SA := by omega
   have hB2 : b = SB := by omega
   subst hA2 hB2
   refine at_exit rfl rfl ?_
   exact run_wk (.drop (.drop (.keep (.keep (.keep (.keep (.keep (.keep (.d16 (.d16 (.d16 (.d4 (.drop (.drop .nil)))))))))))))) hk
theorem op_cnt1 {o : Oper} {c : Call} {fo : Operand} (ho : o.op = .call c) (hc : c.callee = .value fo) {s : List Int} {k0 kz ns np : Nat} {st : List Int} {r0 : Rl} (h : FSpec PP 25 [.ptr 0 0, db false] (dice s k0) (.dagg [di 1, .v (vNm (nmS.take ns)), .v (vNm (nmP.take np)), .v .nils, .v .nils, di 0, di 0, .gro 4 1 14, di 0, .v (vK st)]) ⟨[some [.v (.list (s.map vu)), .v (.int .i64 ((kz : Nat) : Int))], none, none, none, some (flatV [vRl r0])], []⟩) :
  OpOK PP o [.v (.fn 25 [] []), .ptr 0 0, db false] ⟨[some [.v (.list (s.map vu)), .v (.int .i64 ((k0 : Nat) : Int))], some [di 0, .v .nils, .v .nils, .v .nils, .v .nils, di 0, di 0, .v .nils, di 0, .v .nils]], []⟩ (.dagg [di 1, .v (vNm (nmS.take ns)), .v (vNm (nmP.take np)), .v .nils, .v .nils, di 0, di 0, .gro 5 1 14, di 0, .v (vK st)]) ⟨[some [.v (.list (s.map vu)), .v (.int .i64 ((kz : Nat) : Int))], some [di 0, .v .nils, .v .nils, .v .nils, .v .nils, di 0, di 0, .v .nils, di 0, .v .nils], none, none, none, some (flatV [vRl r0])], []⟩ := by
 have h := op_callG (σ := ⟨[some [.v (.list (s.map vu)), .v (.int .i64 ((k0 : Nat) : Int))], some [di 0, .v .nils, .v .nils, .v .nils, .v .nils, di 0, di 0, .v .nils, di 0, .v .nils]], []⟩) ho hc (fD := .v (.fn 25 [] [])) rfl (ds := [.ptr 0 0, db false]) [0] id h (.cons (.ren (dc := .ptr 0 0) rfl) (.cons (.ren (dc := db false) rfl) .nil)) (.cons rfl (.cons (.ren (dc := .v (.list (s.map vu))) rfl) (.cons (.ren (dc := .v (.int .i64 (k0 : Int))) rfl) .nil)) rfl .nil) (by simp) rfl (by simp) (by simp) rfl rfl
 exact h
set_option maxRecDepth 20000 in
theorem steady1_loop (s : List Int) (kz ns np : Nat) (st : List Int) (hnp : np ≤ 2) (T : List Rl) (m : Nat) : ∀ (i : Nat) (rs : List Rl), 1 - i = m → rs.length = 1 → (∀ r ∈ rs, RlOK ns np r) → T = rs.take i ++ (rs.drop i).map stR → Run PP (fun env σ1 => ResOK PP Tryz.f10 env σ1 (.v (vMd ⟨ns, np, T, st⟩)) (dice s kz)) [.lp (sub cSteady [1, 1, 0, 1, 0, 0]), .blk 0, .code (sub cSteady [1, 1, 1])] (.undef :: .undef :: (.ptr 1 0) :: (.ptr 6 0) :: (di ↑i) :: .undef :: .undef :: .undef :: .undef :: .undef :: .undef :: .undef :: .undef :: .undef :: .undef :: .undef :: .undef :: .undef :: .undef :: .undef :: .undef :: .undef :: .undef :: .undef :: .undef :: .undef :: .undef :: .undef :: .undef :: .undef :: .undef :: .undef :: .undef :: .undef :: .undef :: .undef :: .undef :: .undef :: .undef :: .undef :: .undef :: .undef :: .undef :: .undef :: .undef :: .undef :: .undef :: .undef :: .undef :: .undef :: .undef :: .undef :: .undef :: .undef :: .undef :: .undef :: .undef :: .undef :: .undef :: .undef :: .undef :: .undef :: []) ⟨[some [.v (.list (s.map vu)), .v (.int .i64 ((kz : Nat) : Int))], some [di 0, .v .nils, .v .nils, .v .nils, .v .nils, di 0, di 0, .v .nils, di 0, .v .nils], none, none, none, some (flR rs), some [di 1, .v (vNm (nmS.take ns)), .v (vNm (nmP.take np)), .v .nils, .v .nils, di 0, di 0, .gro 5 1 14, di 0, .v (vK st)]], []⟩ := by
 induction m using Nat.strongRecOn with
 | _ m ih =>
  intro i rs hm hrl hro hT
  have hfl := flR_length rs
  refine run_lp ?_
  refine at_seq [1, 1, 0, 1, 0, 0, 0] [1, 1, 0, 1, 0, 0, 1] rfl ?_
  refine at_seq [1, 1, 0, 1, 0, 0, 0, 0] [1, 1, 0, 1, 0, 0, 0, 1] rfl ?_
  refine at_region rfl ?_
  refine at_m 4 11 rfl rfl rfl (.inl rfl) rfl ?_
  first | (refine at_o 12 rfl rfl rfl rfl (op_fieldP rfl ffld7_api_Model (by decide)) ?_) | (refine at_o 12 rfl rfl rfl rfl (op_fieldR rfl ffld7_api_Model (by decide) (by decide) rfl) ?_)
  refine at_o 13 rfl rfl rfl rfl (op_loadP1 rfl fone_Sapi_Rule rfl rfl) ?_
  refine at_o 14 rfl rfl rfl rfl (op_lenG rfl fu_Sapi_Rule) ?_
  refine at_o 15 rfl rfl rfl rfl (op_binI rfl rfl) ?_
  refine at_end rfl ?_
  refine at_cond [1, 1, 0, 1, 0, 0, 0, 1, 0] [1, 1, 0, 1, 0, 0, 0, 1, 1] rfl rfl (fun hc1 => ?_) (fun hc1 => ?_)
  ·skip
   have hlt : i < 1 := by simp at hc1; omega
   obtain ⟨r, hr⟩ := get_ex (a := rs) (i := i) (by omega)
   have ro := hro r (List.mem_of_getElem? hr)
   have h1 := ro.nl
   have h2 := ro.gl
   have hnb := ro.n
   have hgb := ro.g
   rw [List.drop_eq_getElem_cons (by omega), (List.getElem?_eq_some_iff.1 hr).2, List.map_cons] at hT
   have htk : rs.take (i + 1) = rs.take i ++ [r] := by rw [List.take_succ_eq_append_getElem (by omega), (List.getElem?_eq_some_iff.1 hr).2]
   refine at_skip rfl ?_
   refine at_seq [1, 1, 0, 1, 0, 0, 1, 0] [1, 1, 0, 1, 0, 0, 1, 1] rfl ?_
   refine at_block [1, 1, 0, 1, 0, 0, 1, 0, 0] 1 rfl ?_
   refine at_seq [1, 1, 0, 1, 0, 0, 1, 0, 0, 0] [1, 1, 0, 1, 0, 0, 1, 0, 0, 1] rfl ?_
   refine at_region rfl ?_
   first | (refine at_o 18 rfl rfl rfl rfl (op_fieldP rfl ffld7_api_Model (by decide)) ?_) | (refine at_o 18 rfl rfl rfl rfl (op_fieldR rfl ffld7_api_Model (by decide) (by decide) rfl) ?_)
   refine at_o 19 rfl rfl rfl rfl (op_loadP1 rfl fone_Sapi_Rule rfl rfl) ?_
   refine at_m 4 20 rfl rfl rfl (.inl rfl) rfl ?_
   refine at_o 21 rfl rfl rfl rfl (op_idxG rfl fsl_Sapi_Rule (by omega) (by omega)) ?_
   simp only [Int.toNat_natCast]
   refine at_o 22 rfl rfl rfl rfl (op_loadPA rfl fagg_api_Rule rfl (by omega) (xs := (vRl r).cellsV) (by rw [flR_at hr]; rfl)) ?_
   refine at_new 22 5 rfl rfl rfl rfl fzero_api_Rule rfl rfl rfl rfl (by decide) rfl rfl fagg_api_Rule (by first | rfl | (simp [V.size]; done)) rfl (by simp only [List.length_cons]; omega) (by dsimp only [List.set]) ?_
   refine at_end rfl ?_
   refine at_seq [1, 1, 0, 1, 0, 0, 1, 0, 0, 1, 0] [1, 1, 0, 1, 0, 0, 1, 0, 0, 1, 1] rfl ?_
   refine at_region rfl ?_
   refine at_c 6 rfl rfl rfl (.inr rfl) ?_
   refine at_c 7 rfl rfl rfl (.inr rfl) ?_
   refine at_end rfl ?_
   refine at_seq [1, 1, 0, 1, 0, 0, 1, 0, 0, 1, 1, 0] [1, 1, 0, 1, 0, 0, 1, 0, 0, 1, 1, 1] rfl ?_
   refine at_seq [1, 1, 0, 1, 0, 0, 1, 0, 0, 1, 1, 0, 0] [1, 1, 0, 1, 0, 0, 1, 0, 0, 1, 1, 0, 1] rfl ?_
   refine at_region rfl ?_
   refine at_c 8 rfl rfl rfl (.inr rfl) ?_
   refine at_end rfl ?_
   refine at_block [1, 1, 0, 1, 0, 0, 1, 0, 0, 1, 1, 0, 1, 0] 2 rfl ?_
   refine at_loop [1, 1, 0, 1, 0, 0, 1, 0, 0, 1, 1, 0, 1, 0, 0] rfl ?_
   try simp only [List.length_map, List.length_nil, Int.toNat_natCast]
   refine run_wk (.drop (.drop (.keep (.keep (.keep (.keep (.keep (.keep (.keep (.d16 (.d16 (.d16 (.d4 (.drop .nil)))))))))))))) (sums_loop _ _ _ 6 i r (by omega) (by omega) hnb hgb r.need.sum r.give.sum ?_ _ 0 0 0 rfl (by omega) (by omega) (by simp) (by simp))
   refine at_seq [1, 1, 0, 1, 0, 0, 1, 0, 0, 1, 1, 1, 0] [1, 1, 0, 1, 0, 0, 1, 0, 0, 1, 1, 1, 1] rfl ?_
   refine at_region rfl ?_
   refine at_m 7 44 rfl rfl rfl (.inl rfl) rfl ?_
   refine at_m 6 45 rfl rfl rfl (.inl rfl) rfl ?_
   refine at_o 46 rfl rfl rfl rfl (op_binI rfl rfl) ?_
   refine at_end rfl ?_
   refine at_cond [1, 1, 0, 1, 0, 0, 1, 0, 0, 1, 1, 1, 1, 0] [1, 1, 0, 1, 0, 0, 1, 0, 0, 1, 1, 1, 1, 1] rfl rfl (fun hc2 => ?_) (fun hc2 => ?_)
   ·skip
    have hsw : r.need.sum < r.give.sum := by simpa using hc2
    rw [show stR r = swR r by simp [stR, hsw]] at hT
    have hT2 : T = (rs.set i (swR r)).take (i + 1) ++ ((rs.set i (swR r)).drop (i + 1)).map stR := by rw [hT, List.take_succ_eq_append_getElem (by simp; omega), List.getElem_set_self, List.take_set_of_le (Nat.le_refl _), List.drop_set_of_lt (by omega)]; simp
    have hro2 : ∀ x ∈ rs.set i (swR r), RlOK ns np x := fun x hx => by rcases List.mem_or_eq_of_mem_set hx with h | h; exact hro x h; subst h; exact ⟨ro.f0, ro.f1, ro.t0, ro.t1, ro.gl, ro.nl, ro.g, ro.n⟩
    refine at_draw mixed rfl [⟨[some [.v (.list (s.map vu)), .v (.int .i64 ((kz : Nat) : Int))], some [di 0, .v .nils, .v .nils, .v .nils, .v .nils, di 0, di 0, .v .nils, di 0, .v .nils], none, none, none, some (flR rs), some [di 1, .v (vNm (nmS.take ns)), .v (vNm (nmP.take np)), .v .nils, .v .nils, di 0, di 0, .gro 5 1 14, di 0, .v (vK st)]], []⟩, ⟨[some [.v (.list (s.map vu)), .v (.int .i64 ((kz : Nat) : Int))], some [di 0, .v .nils, .v .nils, .v .nils, .v .nils, di 0, di 0, .v .nils, di 0, .v .nils], none, none, none, some ((flR rs).set (i * 14 + 3) (.v (vl r.give))), some [di 1, .v (vNm (nmS.take ns)), .v (vNm (nmP.take np)), .v .nils, .v .nils, di 0, di 0, .gro 5 1 14, di 0, .v (vK st)]], []⟩, ⟨[some [.v (.list (s.map vu)), .v (.int .i64 ((kz : Nat) : Int))], some [di 0, .v .nils, .v .nils, .v .nils, .v .nils, di 0, di 0, .v .nils, di 0, .v .nils], none, none, none, some (((flR rs).set (i * 14 + 3) (.v (vl r.give))).set (i * 14 + 4) (.v (vl r.need))), some [di 1, .v (vNm (nmS.take ns)), .v (vNm (nmP.take np)), .v .nils, .v .nils, di 0, di 0, .gro 5 1 14, di 0, .v (vK st)]], []⟩] rfl ?_
    first | (refine da_q 47 rfl rfl rfl rfl (fun s hs => op_fieldP rfl ffld7_api_Model (by decide)) ?_) | (refine da_q 47 rfl rfl rfl rfl (fun s hs => op_fieldR rfl ffld7_api_Model (by decide) (by decide) rfl) ?_)
    refine da_q 48 rfl rfl rfl rfl (by intro s hs; simp only [List.mem_cons, List.not_mem_nil, or_false] at hs; rcases hs with rfl | rfl | rfl <;> exact op_loadP1 rfl fone_Sapi_Rule rfl rfl) ?_
    refine da_m 4 49 rfl rfl rfl (.inl rfl) rfl ?_
    first | (refine da_q 50 rfl rfl rfl rfl (fun s hs => op_fieldP rfl ffld7_api_Model (by decide)) ?_) | (refine da_q 50 rfl rfl rfl rfl (fun s hs => op_fieldR rfl ffld7_api_Model (by decide) (by decide) rfl) ?_)
    refine da_q 51 rfl rfl rfl rfl (by intro s hs; simp only [List.mem_cons, List.not_mem_nil, or_false] at hs; rcases hs with rfl | rfl | rfl <;> exact op_loadP1 rfl fone_Sapi_Rule rfl rfl) ?_
    refine da_m 4 52 rfl rfl rfl (.inl rfl) rfl ?_
    first | (refine da_q 53 rfl rfl rfl rfl (fun s hs => op_fieldP rfl ffld4_api_Rule (by decide)) ?_) | (refine da_q 53 rfl rfl rfl rfl (fun s hs => op_fieldR rfl ffld4_api_Rule (by decide) (by decide) rfl) ?_)
    first | (refine da_q 54 rfl rfl rfl rfl (fun s hs => op_loadR1 rfl fone_Sint rfl) ?_) | (refine da_q 54 rfl rfl rfl rfl (by intro s hs; simp only [List.mem_cons, List.not_mem_nil, or_false] at hs; rcases hs with rfl | rfl | rfl <;> exact op_loadP1 rfl fone_Sint rfl rfl) ?_)
    first | (refine da_q 55 rfl rfl rfl rfl (fun s hs => op_fieldP rfl ffld3_api_Rule (by decide)) ?_) | (refine da_q 55 rfl rfl rfl rfl (fun s hs => op_fieldR rfl ffld3_api_Rule (by decide) (by decide) rfl) ?_)
    first | (refine da_q 56 rfl rfl rfl rfl (fun s hs => op_loadR1 rfl fone_Sint rfl) ?_) | (refine da_q 56 rfl rfl rfl rfl (by intro s hs; simp only [List.mem_cons, List.not_mem_nil, or_false] at hs; rcases hs with rfl | rfl | rfl <;> exact op_loadP1 rfl fone_Sint rfl rfl) ?_)
    refine da_q 57 rfl rfl rfl rfl (fun s hs => op_idxG rfl fsl_Sapi_Rule (by omega) (by omega)) ?_
    simp only [Int.toNat_natCast]
    first | (refine da_q 58 rfl rfl rfl rfl (fun s hs => op_fieldP rfl ffld3_api_Rule (by decide)) ?_) | (refine da_q 58 rfl rfl rfl rfl (fun s hs => op_fieldR rfl ffld3_api_Rule (by decide) (by decide) rfl) ?_)
    refine da_st1 58 (.tmp 54) rfl rfl rfl rfl rfl rfl rfl (ev_tmp rfl) rfl fone_Sint rfl (by rw [hfl]; omega) (by first | rfl | (dsimp only [List.set, List.append, List.cons_append, List.nil_append, cellsD, List.map, repl, List.length, Nat.reduceAdd, if_true, ↓reduceIte]; first | done | rfl)) ?_
    refine da_q 59 rfl rfl rfl rfl (fun s hs => op_idxG rfl fsl_Sapi_Rule (by omega) (by omega)) ?_
    simp only [Int.toNat_natCast]
    first | (refine da_q 60 rfl rfl rfl rfl (fun s hs => op_fieldP rfl ffld4_api_Rule (by decide)) ?_) | (refine da_q 60 rfl rfl rfl rfl (fun s hs => op_fieldR rfl ffld4_api_Rule (by decide) (by decide) rfl) ?_)
    refine da_st1 60 (.tmp 56) rfl rfl rfl rfl rfl rfl rfl (ev_tmp rfl) rfl fone_Sint rfl (by rw [List.length_set, hfl]; omega) (by first | rfl | (dsimp only [List.set, List.append, List.cons_append, List.nil_append, cellsD, List.map, repl, List.length, Nat.reduceAdd, if_true, ↓reduceIte]; first | done | rfl)) ?_
    refine da_end rfl ⟨by decide +kernel, _, rfl, ?_⟩
    rw [flR_set hr]
    refine run_blk ?_
    refine at_region rfl ?_
    refine at_m 4 16 rfl rfl rfl (.inl rfl) rfl ?_
    refine at_o 17 rfl rfl rfl rfl (op_binI rfl rfl) ?_
    rw [wrap_succ (by omega)]
    refine at_m 17 4 rfl rfl rfl (.inr rfl) rfl ?_
    refine at_end rfl ?_
    first | exact run_wk (.drop (.drop (.keep (.keep (.keep (.d16 (.d16 (.d16 (.d4 (.d4 (.drop .nil))))))))))) (ih _ (by omega) (i + 1) _ rfl (by simp [hrl]) hro2 hT2) | exact run_wk (.drop (.drop (.keep (.keep (.keep (.d16 (.d16 (.d16 (.d4 (.d4 (.drop .nil))))))))))) (ih _ (by omega) (i + 1) rs rfl hrl hro hT2)
   ·skip
    have hsw : ¬ r.need.sum < r.give.sum := by simpa using hc2
    rw [show stR r = r by simp only [stR, hsw, if_false]] at hT
    have hT2 : T = rs.take (i + 1) ++ (rs.drop (i + 1)).map stR := by rw [hT, htk]; simp
    refine at_skip rfl ?_
    refine run_blk ?_
    refine at_region rfl ?_
    refine at_m 4 16 rfl rfl rfl (.inl rfl) rfl ?_
    refine at_o 17 rfl rfl rfl rfl (op_binI rfl rfl) ?_
    rw [wrap_succ (by omega)]
    refine at_m 17 4 rfl rfl rfl (.inr rfl) rfl ?_
    refine at_end rfl ?_
    first | exact run_wk (.drop (.drop (.keep (.keep (.keep (.d16 (.d16 (.d16 (.d4 (.d4 (.drop .nil))))))))))) (ih _ (by omega) (i + 1) _ rfl (by simp [hrl]) hro2 hT2) | exact run_wk (.drop (.drop (.keep (.keep (.keep (.d16 (.d16 (.d16 (.d4 (.d4 (.drop .nil))))))))))) (ih _ (by omega) (i + 1) rs rfl hrl hro hT2)
  ·skip
   have hge : 1 ≤ i := by simp at hc1; omega
   rw [List.take_of_length_le (by omega), List.drop_of_length_le (by omega), List.map_nil, List.append_nil] at hT
   refine run_wk (.drop (.drop (.keep (.keep (.d16 (.d16 (.d16 (.d4 (.d4 (.drop (.drop .nil))))))))))) ?_
   refine run_cv (cv_frz [5, 6] (.keep (.keep (.keep (.view (lend_md (q := 5) (m := ⟨ns, np, rs, st⟩) (by simp only [hrl]; rfl) rfl) (.keep (.keep (.keep (.keep (.keep (.keep (.keep (.keep (.keep (.keep (.keep (.keep (.keep (.keep (.keep (.keep (.keep (.keep (.keep (.keep (.keep (.keep (.keep (.keep (.keep (.keep (.keep (.keep (.keep (.keep (.keep (.keep (.keep (.keep (.keep (.keep (.keep (.keep (.keep (.keep (.keep (.keep (.keep (.keep (.keep (.keep (.keep (.keep (.keep (.keep (.keep (.keep (.keep (.keep (.keep (.keep (.keep (.keep .nil))))))))))))))))))))))))))))))))))))))))))))))))))))))))))))))) ?_
   simp only [killH, List.foldl, List.set]
   refine at_exit rfl rfl ?_
   refine at_seq [1, 1, 1, 0] [1, 1, 1, 1] rfl ?_
   refine at_region rfl ?_
   first | (refine at_o 61 rfl rfl rfl rfl (op_loadRA rfl fagg_api_Model) ?_) | (refine at_o 61 rfl rfl rfl rfl (op_loadPA rfl fagg_api_Model rfl (by first | decide | simp) rfl) ?_)
   refine at_stA 2 (.tmp 61) rfl rfl rfl rfl rfl (ev_tmp rfl) rfl fagg_api_Model rfl rfl (by first | decide | simp | (simp; omega)) (by dsimp only [List.set, List.append, List.cons_append, List.nil_append, cellsD, List.map, repl, List.length, Nat.reduceAdd, if_true, ↓reduceIte]; first | done | rfl) ?_
   refine at_end rfl ?_
   rw [hT]
   exact at_ret rfl (res_ok (ds := [.v (vMd ⟨ns, np, rs, st⟩)]) (.cellA rfl rfl fagg_api_Model (by simp) rfl .nil) rfl 1 rfl (by simp) (fun i cs h => by match i, h with | 0, h => (simp at h; subst h; rfl) | i + 1, h => simp at h) (List.nil_sublist _) rfl)
set_option maxRecDepth 20000 in
theorem steady1 (s : List Int) (k0 kz ns np : Nat) (st : List Int) (hnp : np ≤ 2) (r0 : Rl) (hro : ∀ r ∈ [r0], RlOK ns np r) (h : FSpec PP 25 [.ptr 0 0, db false] (dice s k0) (.dagg [di 1, .v (vNm (nmS.take ns)), .v (vNm (nmP.take np)), .v .nils, .v .nils, di 0, di 0, .gro 4 1 14, di 0, .v (vK st)]) ⟨[some [.v (.list (s.map vu)), .v (.int .i64 ((kz : Nat) : Int))], none, none, none, some (flatV [vRl r0])], []⟩) : FSpec PP 10 [.ptr 0 0] (dice s k0) (.v (vMd ⟨ns, np, [r0].map stR, st⟩)) (dice s kz) := by
 refine spec_at cSteady Tryz.func10 rfl (by kernel_rfl) (by first | decide | simp) _ (by dsimp only [Tryz.f10, List.length, Nat.reduceAdd, Nat.reduceSub, List.replicate, List.cons_append, List.nil_append]) ?_
 refine at_seq [0] [1] rfl ?_
 refine at_region rfl ?_
 refine at_opS (some 2) rfl rfl rfl rfl (op_allocN rfl fzeroN_api_Model) (by dsimp only [putD, List.set]) (by dsimp only [List.set, List.append, List.cons_append, List.nil_append, cellsD, List.map, repl, List.length, Nat.reduceAdd, if_true, ↓reduceIte]; first | done | rfl) ?_
 refine at_end rfl ?_
 refine at_seq [1, 0] [1, 1] rfl ?_
 refine at_region rfl ?_
 refine at_m 0 9 rfl rfl rfl (.inl rfl) rfl ?_
 refine at_opS (some 10) rfl rfl rfl rfl (op_cnt1 rfl rfl h) (by dsimp only [putD, List.set]) (by dsimp only [List.set, List.append, List.cons_append, List.nil_append, cellsD, List.map, repl, List.length, Nat.reduceAdd, if_true, ↓reduceIte]; first | done | rfl) ?_
 refine at_opS (some 3) rfl rfl rfl rfl (op_allocN rfl fzeroN_api_Model) (by dsimp only [putD, List.set]) (by dsimp only [List.set, List.append, List.cons_append, List.nil_append, cellsD, List.map, repl, List.length, Nat.reduceAdd, if_true, ↓reduceIte]; first | done | rfl) ?_
 refine at_stA 3 (.tmp 10) rfl rfl rfl rfl rfl (ev_tmp rfl) rfl fagg_api_Model rfl rfl (by first | decide | simp | (simp; omega)) (by dsimp only [List.set, List.append, List.cons_append, List.nil_append, cellsD, List.map, repl, List.length, Nat.reduceAdd, if_true, ↓reduceIte]; first | done | rfl) ?_
 refine at_end rfl ?_
 refine at_seq [1, 1, 0] [1, 1, 1] rfl ?_
 refine at_seq [1, 1, 0, 0] [1, 1, 0, 1] rfl ?_
 refine at_region rfl ?_
 refine at_c 4 rfl rfl rfl (.inr rfl) ?_
 refine at_end rfl ?_
 refine at_block [1, 1, 0, 1, 0] 0 rfl ?_
 refine at_loop [1, 1, 0, 1, 0, 0] rfl ?_
 try simp only [List.length_map, List.length_nil, Int.toNat_natCast]
 exact run_wk (.drop (.drop (.keep (.keep (.keep (.d16 (.d16 (.d16 (.d4 (.d4 (.drop .nil))))))))))) (steady1_loop s kz ns np st hnp _ _ 0 [r0] rfl rfl hro (by simp))
theorem op_cnt2 {o : Oper} {c : Call} {fo : Operand} (ho : o.op = .call c) (hc : c.callee = .value fo) {s : List Int} {k0 kz ns np : Nat} {st : List Int} {r0 r1 : Rl} (h : FSpec PP 25 [.ptr 0 0, db false] (dice s k0) (.dagg [di 1, .v (vNm (nmS.take ns)), .v (vNm (nmP.take np)), .v .nils, .v .nils, di 0, di 0, .gro 6 2 14, di 0, .v (vK st)]) ⟨[some [.v (.list (s.map vu)), .v (.int .i64 ((kz : Nat) : Int))], none, none, none, none, none, some (flatV [vRl r0] ++ flatV [vRl r1])], []⟩) :
  OpOK PP o [.v (.fn 25 [] []), .ptr 0 0, db false] ⟨[some [.v (.list (s.map vu)), .v (.int .i64 ((k0 : Nat) : Int))], some [di 0, .v .nils, .v .nils, .v .nils, .v .nils, di 0, di 0, .v .nils, di 0, .v .nils]], []⟩ (.dagg [di 1, .v (vNm (nmS.take ns)), .v (vNm (nmP.take np)), .v .nils, .v .nils, di 0, di 0, .gro 7 2 14, di 0, .v (vK st)]) ⟨[some [.v (.list (s.map vu)), .v (.int .i64 ((kz : Nat) : Int))], some [di 0, .v .nils, .v .nils, .v .nils, .v .nils, di 0, di 0, .v .nils, di 0, .v .nils], none, none, none, none, none, some (flatV [vRl r0] ++ flatV [vRl r1])], []⟩ := by
 have h := op_callG (σ := ⟨[some [.v (.list (s.map vu)), .v (.int .i64 ((k0 : Nat) : Int))], some [di 0, .v .nils, .v .nils, .v .nils, .v .nils, di 0, di 0, .v .nils, di 0, .v .nils]], []⟩) ho hc (fD := .v (.fn 25 [] [])) rfl (ds := [.ptr 0 0, db false]) [0] id h (.cons (.ren (dc := .ptr 0 0) rfl) (.cons (.ren (dc := db false) rfl) .nil)) (.cons rfl (.cons (.ren (dc := .v (.list (s.map vu))) rfl) (.cons (.ren (dc := .v (.int .i64 (k0 : Int))) rfl) .nil)) rfl .nil) (by simp) rfl (by simp) (by simp) rfl rfl
 exact h
set_option maxRecDepth 20000 in
theorem steady2_loop (s : List Int) (kz ns np : Nat) (st : List Int) (hnp : np ≤ 2) (T : List Rl) (m : Nat) : ∀ (i : Nat) (rs : List Rl), 2 - i = m → rs.length = 2 → (∀ r ∈ rs, RlOK ns np r) → T = rs.take i ++ (rs.drop i).map stR → Run PP (fun env σ1 => ResOK PP Tryz.f10 env σ1 (.v (vMd ⟨ns, np, T, st⟩)) (dice s kz)) [.lp (sub cSteady [1, 1, 0, 1, 0, 0]), .blk 0, .code (sub cSteady [1, 1, 1])] (.undef :: .undef :: (.ptr 1 0) :: (.ptr 8 0) :: (di ↑i) :: .undef :: .undef :: .undef :: .undef :: .undef :: .undef :: .undef :: .undef :: .undef :: .undef :: .undef :: .undef :: .undef :: .undef :: .undef :: .undef :: .undef :: .undef :: .undef :: .undef :: .undef :: .undef :: .undef :: .undef :: .undef :: .undef :: .undef :: .undef :: .undef :: .undef :: .undef :: .undef :: .undef :: .undef :: .undef :: .undef :: .undef :: .undef :: .undef :: .undef :: .undef :: .undef :: .undef :: .undef :: .undef :: .undef :: .undef :: .undef :: .undef :: .undef :: .undef :: .undef :: .undef :: .undef :: .undef :: .undef :: .undef :: []) ⟨[some [.v (.list (s.map vu)), .v (.int .i64 ((kz : Nat) : Int))], some [di 0, .v .nils, .v .nils, .v .nils, .v .nils, di 0, di 0, .v .nils, di 0, .v .nils], none, none, none, none, none, some (flR rs), some [di 1, .v (vNm (nmS.take ns)), .v (vNm (nmP.take np)), .v .nils, .v .nils, di 0, di 0, .gro 7 2 14, di 0, .v (vK st)]], []⟩ := by
 induction m using Nat.strongRecOn with
 | _ m ih =>
  intro i rs hm hrl hro hT
  have hfl := flR_length rs
  refine run_lp ?_
  refine at_seq [1, 1, 0, 1, 0, 0, 0] [1, 1, 0, 1, 0, 0, 1] rfl ?_
  refine at_seq [1, 1, 0, 1, 0, 0, 0, 0] [1, 1, 0, 1, 0, 0, 0, 1] rfl ?_
  refine at_region rfl ?_
  refine at_m 4 11 rfl rfl rfl (.inl rfl) rfl ?_
  first | (refine at_o 12 rfl rfl rfl rfl (op_fieldP rfl ffld7_api_Model (by decide)) ?_) | (refine at_o 12 rfl rfl rfl rfl (op_fieldR rfl ffld7_api_Model (by decide) (by decide) rfl) ?_)
  refine at_o 13 rfl rfl rfl rfl (op_loadP1 rfl fone_Sapi_Rule rfl rfl) ?_
  refine at_o 14 rfl rfl rfl rfl (op_lenG rfl fu_Sapi_Rule) ?_
  refine at_o 15 rfl rfl rfl rfl (op_binI rfl rfl) ?_
  refine at_end rfl ?_
  refine at_cond [1, 1, 0, 1, 0, 0, 0, 1, 0] [1, 1, 0, 1, 0, 0, 0, 1, 1] rfl rfl (fun hc1 => ?_) (fun hc1 => ?_)
  ·skip
   have hlt : i < 2 := by simp at hc1; omega
   obtain ⟨r, hr⟩ := get_ex (a := rs) (i := i) (by omega)
   have ro := hro r (List.mem_of_getElem? hr)
   have h1 := ro.nl
   have h2 := ro.gl
   have hnb := ro.n
   have hgb := ro.g
   rw [List.drop_eq_getElem_cons (by omega), (List.getElem?_eq_some_iff.1 hr).2, List.map_cons] at hT
   have htk : rs.take (i + 1) = rs.take i ++ [r] := by rw [List.take_succ_eq_append_getElem (by omega), (List.getElem?_eq_some_iff.1 hr).2]
   refine at_skip rfl ?_
   refine at_seq [1, 1, 0, 1, 0, 0, 1, 0] [1, 1, 0, 1, 0, 0, 1, 1] rfl ?_
   refine at_block [1, 1, 0, 1, 0, 0, 1, 0, 0] 1 rfl ?_
   refine at_seq [1, 1, 0, 1, 0, 0, 1, 0, 0, 0] [1, 1, 0, 1, 0, 0, 1, 0, 0, 1] rfl ?_
   refine at_region rfl ?_
   first | (refine at_o 18 rfl rfl rfl rfl (op_fieldP rfl ffld7_api_Model (by decide)) ?_) | (refine at_o 18 rfl rfl rfl rfl (op_fieldR rfl ffld7_api_Model (by decide) (by decide) rfl) ?_)
   refine at_o 19 rfl rfl rfl rfl (op_loadP1 rfl fone_Sapi_Rule rfl rfl) ?_
   refine at_m 4 20 rfl rfl rfl (.inl rfl) rfl ?_
   refine at_o 21 rfl rfl rfl rfl (op_idxG rfl fsl_Sapi_Rule (by omega) (by omega)) ?_
   simp only [Int.toNat_natCast]
   refine at_o 22 rfl rfl rfl rfl (op_loadPA rfl fagg_api_Rule rfl (by omega) (xs := (vRl r).cellsV) (by rw [flR_at hr]; rfl)) ?_
   refine at_new 22 5 rfl rfl rfl rfl fzero_api_Rule rfl rfl rfl rfl (by decide) rfl rfl fagg_api_Rule (by first | rfl | (simp [V.size]; done)) rfl (by simp only [List.length_cons]; omega) (by dsimp only [List.set]) ?_
   refine at_end rfl ?_
   refine at_seq [1, 1, 0, 1, 0, 0, 1, 0, 0, 1, 0] [1, 1, 0, 1, 0, 0, 1, 0, 0, 1, 1] rfl ?_
   refine at_region rfl ?_
   refine at_c 6 rfl rfl rfl (.inr rfl) ?_
   refine at_c 7 rfl rfl rfl (.inr rfl) ?_
   refine at_end rfl ?_
   refine at_seq [1, 1, 0, 1, 0, 0, 1, 0, 0, 1, 1, 0] [1, 1, 0, 1, 0, 0, 1, 0, 0, 1, 1, 1] rfl ?_
   refine at_seq [1, 1, 0, 1, 0, 0, 1, 0, 0, 1, 1, 0, 0] [1, 1, 0, 1, 0, 0, 1, 0, 0, 1, 1, 0, 1] rfl ?_
   refine at_region rfl ?_
   refine at_c 8 rfl rfl rfl (.inr rfl) ?_
   refine at_end rfl ?_
   refine at_block [1, 1, 0, 1, 0, 0, 1, 0, 0, 1, 1, 0, 1, 0] 2 rfl ?_
   refine at_loop [1, 1, 0, 1, 0, 0, 1, 0, 0, 1, 1, 0, 1, 0, 0] rfl ?_
   try simp only [List.length_map, List.length_nil, Int.toNat_natCast]
   refine run_wk (.drop (.drop (.keep (.keep (.keep (.keep (.keep (.keep (.keep (.d16 (.d16 (.d16 (.d4 (.drop .nil)))))))))))))) (sums_loop _ _ _ 8 i r (by omega) (by omega) hnb hgb r.need.sum r.give.sum ?_ _ 0 0 0 rfl (by omega) (by omega) (by simp) (by simp))
   refine at_seq [1, 1, 0, 1, 0, 0, 1, 0, 0, 1, 1, 1, 0] [1, 1, 0, 1, 0, 0, 1, 0, 0, 1, 1, 1, 1] rfl ?_
   refine at_region rfl ?_
   refine at_m 7 44 rfl rfl rfl (.inl rfl) rfl ?_
   refine at_m 6 45 rfl rfl rfl (.inl rfl) rfl ?_
   refine at_o 46 rfl rfl rfl rfl (op_binI rfl rfl) ?_
   refine at_end rfl ?_
   refine at_cond [1, 1, 0, 1, 0, 0, 1, 0, 0, 1, 1, 1, 1, 0] [1, 1, 0, 1, 0, 0, 1, 0, 0, 1, 1, 1, 1, 1] rfl rfl (fun hc2 => ?_) (fun hc2 => ?_)
   ·skip
    have hsw : r.need.sum < r.give.sum := by simpa using hc2
    rw [show stR r = swR r by simp [stR, hsw]] at hT
    have hT2 : T = (rs.set i (swR r)).take (i + 1) ++ ((rs.set i (swR r)).drop (i + 1)).map stR := by rw [hT, List.take_succ_eq_append_getElem (by simp; omega), List.getElem_set_self, List.take_set_of_le (Nat.le_refl _), List.drop_set_of_lt (by omega)]; simp
    have hro2 : ∀ x ∈ rs.set i (swR r), RlOK ns np x := fun x hx => by rcases List.mem_or_eq_of_mem_set hx with h | h; exact hro x h; subst h; exact ⟨ro.f0, ro.f1, ro.t0, ro.t1, ro.gl, ro.nl, ro.g, ro.n⟩
    refine at_draw mixed rfl [⟨[some [.v (.list (s.map vu)), .v (.int .i64 ((kz : Nat) : Int))], some [di 0, .v .nils, .v .nils, .v .nils, .v .nils, di 0, di 0, .v .nils, di 0, .v .nils], none, none, none, none, none, some (flR rs), some [di 1, .v (vNm (nmS.take ns)), .v (vNm (nmP.take np)), .v .nils, .v .nils, di 0, di 0, .gro 7 2 14, di 0, .v (vK st)]], []⟩, ⟨[some [.v (.list (s.map vu)), .v (.int .i64 ((kz : Nat) : Int))], some [di 0, .v .nils, .v .nils, .v .nils, .v .nils, di 0, di 0, .v .nils, di 0, .v .nils], none, none, none, none, none, some ((flR rs).set (i * 14 + 3) (.v (vl r.give))), some [di 1, .v (vNm (nmS.take ns)), .v (vNm (nmP.take np)), .v .nils, .v .nils, di 0, di 0, .gro 7 2 14, di 0, .v (vK st)]], []⟩, ⟨[some [.v (.list (s.map vu)), .v (.int .i64 ((kz : Nat) : Int))], some [di 0, .v .nils, .v .nils, .v .nils, .v .nils, di 0, di 0, .v .nils, di 0, .v .nils], none, none, none, none, none, some (((flR rs).set (i * 14 + 3) (.v (vl r.give))).set (i * 14 + 4) (.v (vl r.need))), some [di 1, .v (vNm (nmS.take ns)), .v (vNm (nmP.take np)), .v .nils, .v .nils, di 0, di 0, .gro 7 2 14, di 0, .v (vK st)]], []⟩] rfl ?_
    first | (refine da_q 47 rfl rfl rfl rfl (fun s hs => op_fieldP rfl ffld7_api_Model (by decide)) ?_) | (refine da_q 47 rfl rfl rfl rfl (fun s hs => op_fieldR rfl ffld7_api_Model (by decide) (by decide) rfl) ?_)
    refine da_q 48 rfl rfl rfl rfl (by intro s hs; simp only [List.mem_cons, List.not_mem_nil, or_false] at hs; rcases hs with rfl | rfl | rfl <;> exact op_loadP1 rfl fone_Sapi_Rule rfl rfl) ?_
    refine da_m 4 49 rfl rfl rfl (.inl rfl) rfl ?_
    first | (refine da_q 50 rfl rfl rfl rfl (fun s hs => op_fieldP rfl ffld7_api_Model (by decide)) ?_) | (refine da_q 50 rfl rfl rfl rfl (fun s hs => op_fieldR rfl ffld7_api_Model (by decide) (by decide) rfl) ?_)
    refine da_q 51 rfl rfl rfl rfl (by intro s hs; simp only [List.mem_cons, List.not_mem_nil, or_false] at hs; rcases hs with rfl | rfl | rfl <;> exact op_loadP1 rfl fone_Sapi_Rule rfl rfl) ?_
    refine da_m 4 52 rfl rfl rfl (.inl rfl) rfl ?_
    first | (refine da_q 53 rfl rfl rfl rfl (fun s hs => op_fieldP rfl ffld4_api_Rule (by decide)) ?_) | (refine da_q 53 rfl rfl rfl rfl (fun s hs => op_fieldR rfl ffld4_api_Rule (by decide) (by decide) rfl) ?_)
    first | (refine da_q 54 rfl rfl rfl rfl (fun s hs => op_loadR1 rfl fone_Sint rfl) ?_) | (refine da_q 54 rfl rfl rfl rfl (by intro s hs; simp only [List.mem_cons, List.not_mem_nil, or_false] at hs; rcases hs with rfl | rfl | rfl <;> exact op_loadP1 rfl fone_Sint rfl rfl) ?_)
    first | (refine da_q 55 rfl rfl rfl rfl (fun s hs => op_fieldP rfl ffld3_api_Rule (by decide)) ?_) | (refine da_q 55 rfl rfl rfl rfl (fun s hs => op_fieldR rfl ffld3_api_Rule (by decide) (by decide) rfl) ?_)
    first | (refine da_q 56 rfl rfl rfl rfl (fun s hs => op_loadR1 rfl fone_Sint rfl) ?_) | (refine da_q 56 rfl rfl rfl rfl (by intro s hs; simp only [List.mem_cons, List.not_mem_nil, or_false] at hs; rcases hs with rfl | rfl | rfl <;> exact op_loadP1 rfl fone_Sint rfl rfl) ?_)
    refine da_q 57 rfl rfl rfl rfl (fun s hs => op_idxG rfl fsl_Sapi_Rule (by omega) (by omega)) ?_
    simp only [Int.toNat_natCast]
    first | (refine da_q 58 rfl rfl rfl rfl (fun s hs => op_fieldP rfl ffld3_api_Rule (by decide)) ?_) | (refine da_q 58 rfl rfl rfl rfl (fun s hs => op_fieldR rfl ffld3_api_Rule (by decide) (by decide) rfl) ?_)
    refine da_st1 58 (.tmp 54) rfl rfl rfl rfl rfl rfl rfl (ev_tmp rfl) rfl fone_Sint rfl (by rw [hfl]; omega) (by first | rfl | (dsimp only [List.set, List.append, List.cons_append, List.nil_append, cellsD, List.map, repl, List.length, Nat.reduceAdd, if_true, ↓reduceIte]; first | done | rfl)) ?_
    refine da_q 59 rfl rfl rfl rfl (fun s hs => op_idxG rfl fsl_Sapi_Rule (by omega) (by omega)) ?_
    simp only [Int.toNat_natCast]
    first | (refine da_q 60 rfl rfl rfl rfl (fun s hs => op_fieldP rfl ffld4_api_Rule (by decide)) ?_) | (refine da_q 60 rfl rfl rfl rfl (fun s hs => op_fieldR rfl ffld4_api_Rule (by decide) (by decide) rfl) ?_)
    refine da_st1 60 (.tmp 56) rfl rfl rfl rfl rfl rfl rfl (ev_tmp rfl) rfl fone_Sint rfl (by rw [List.length_set, hfl]; omega) (by first | rfl | (dsimp only [List.set, List.append, List.cons_append, List.nil_append, cellsD, List.map, repl, List.length, Nat.reduceAdd, if_true, ↓reduceIte]; first | done | rfl)) ?_
    refine da_end rfl ⟨by decide +kernel, _, rfl, ?_⟩
    rw [flR_set hr]
    refine run_blk ?_
    refine at_region rfl ?_
    refine at_m 4 16 rfl rfl rfl (.inl rfl) rfl ?_
    refine at_o 17 rfl rfl rfl rfl (op_binI rfl rfl) ?_
    rw [wrap_succ (by omega)]
    refine at_m 17 4 rfl rfl rfl (.inr rfl) rfl ?_
    refine at_end rfl ?_
    first | exact run_wk (.drop (.drop (.keep (.keep (.keep (.d16 (.d16 (.d16 (.d4 (.d4 (.drop .nil))))))))))) (ih _ (by omega) (i + 1) _ rfl (by simp [hrl]) hro2 hT2) | exact run_wk (.drop (.drop (.keep (.keep (.keep (.d16 (.d16 (.d16 (.d4 (.d4 (.drop .nil))))))))))) (ih _ (by omega) (i + 1) rs rfl hrl hro hT2)
   ·skip
    have hsw : ¬ r.need.sum < r.give.sum := by simpa using hc2
    rw [show stR r = r by simp only [stR, hsw, if_false]] at hT
    have hT2 : T = rs.take (i + 1) ++ (rs.drop (i + 1)).map stR := by rw [hT, htk]; simp
    refine at_skip rfl ?_
    refine run_blk ?_
    refine at_region rfl ?_
    refine at_m 4 16 rfl rfl rfl (.inl rfl) rfl ?_
    refine at_o 17 rfl rfl rfl rfl (op_binI rfl rfl) ?_
    rw [wrap_succ (by omega)]
    refine at_m 17 4 rfl rfl rfl (.inr rfl) rfl ?_
    refine at_end rfl ?_
    first | exact run_wk (.drop (.drop (.keep (.keep (.keep (.d16 (.d16 (.d16 (.d4 (.d4 (.drop .nil))))))))))) (ih _ (by omega) (i + 1) _ rfl (by simp [hrl]) hro2 hT2) | exact run_wk (.drop (.drop (.keep (.keep (.keep (.d16 (.d16 (.d16 (.d4 (.d4 (.drop .nil))))))))))) (ih _ (by omega) (i + 1) rs rfl hrl hro hT2)
  ·skip
   have hge : 2 ≤ i := by simp at hc1; omega
   rw [List.take_of_length_le (by omega), List.drop_of_length_le (by omega), List.map_nil, List.append_nil] at hT
   refine run_wk (.drop (.drop (.keep (.keep (.d16 (.d16 (.d16 (.d4 (.d4 (.drop (.drop .nil))))))))))) ?_
   refine run_cv (cv_frz [7, 8] (.keep (.keep (.keep (.view (lend_md (q := 7) (m := ⟨ns, np, rs, st⟩) (by simp only [hrl]; rfl) rfl) (.keep (.keep (.keep (.keep (.keep (.keep (.keep (.keep (.keep (.keep (.keep (.keep (.keep (.keep (.keep (.keep (.keep (.keep (.keep (.keep (.keep (.keep (.keep (.keep (.keep (.keep (.keep (.keep (.keep (.keep (.keep (.keep (.keep (.keep (.keep (.keep (.keep (.keep (.keep (.keep (.keep (.keep (.keep (.keep (.keep (.keep (.keep (.keep (.keep (.keep (.keep (.keep (.keep (.keep (.keep (.keep (.keep (.keep .nil))))))))))))))))))))))))))))))))))))))))))))))))))))))))))))))) ?_
   simp only [killH, List.foldl, List.set]
   refine at_exit rfl rfl ?_
   refine at_seq [1, 1, 1, 0] [1, 1, 1, 1] rfl ?_
   refine at_region rfl ?_
   first | (refine at_o 61 rfl rfl rfl rfl (op_loadRA rfl fagg_api_Model) ?_) | (refine at_o 61 rfl rfl rfl rfl (op_loadPA rfl fagg_api_Model rfl (by first | decide | simp) rfl) ?_)
   refine at_stA 2 (.tmp 61) rfl rfl rfl rfl rfl (ev_tmp rfl) rfl fagg_api_Model rfl rfl (by first | decide | simp | (simp; omega)) (by dsimp only [List.set, List.append, List.cons_append, List.nil_append, cellsD, List.map, repl, List.length, Nat.reduceAdd, if_true, ↓reduceIte]; first | done | rfl) ?_
   refine at_end rfl ?_
   rw [hT]
   exact at_ret rfl (res_ok (ds := [.v (vMd ⟨ns, np, rs, st⟩)]) (.cellA rfl rfl fagg_api_Model (by simp) rfl .nil) rfl 1 rfl (by simp) (fun i cs h => by match i, h with | 0, h => (simp at h; subst h; rfl) | i + 1, h => simp at h) (List.nil_sublist _) rfl)
set_option maxRecDepth 20000 in
theorem steady2 (s : List Int) (k0 kz ns np : Nat) (st : List Int) (hnp : np ≤ 2) (r0 r1 : Rl) (hro : ∀ r ∈ [r0, r1], RlOK ns np r) (h : FSpec PP 25 [.ptr 0 0, db false] (dice s k0) (.dagg [di 1, .v (vNm (nmS.take ns)), .v (vNm (nmP.take np)), .v .nils, .v .nils, di 0, di 0, .gro 6 2 14, di 0, .v (vK st)]) ⟨[some [.v (.list (s.map vu)), .v (.int .i64 ((kz : Nat) : Int))], none, none, none, none, none, some (flatV [vRl r0] ++ flatV [vRl r1])], []⟩) : FSpec PP 10 [.ptr 0 0] (dice s k0) (.v (vMd ⟨ns, np, [r0, r1].map stR, st⟩)) (dice s kz) := by
 refine spec_at cSteady Tryz.func10 rfl (by kernel_rfl) (by first | decide | simp) _ (by dsimp only [Tryz.f10, List.length, Nat.reduceAdd, Nat.reduceSub, List.replicate, List.cons_append, List.nil_append]) ?_
 refine at_seq [0] [1] rfl ?_
 refine at_region rfl ?_
 refine at_opS (some 2) rfl rfl rfl rfl (op_allocN rfl fzeroN_api_Model) (by dsimp only [putD, List.set]) (by dsimp only [List.set, List.append, List.cons_append, List.nil_append, cellsD, List.map, repl, List.length, Nat.reduceAdd, if_true, ↓reduceIte]; first | done | rfl) ?_
 refine at_end rfl ?_
 refine at_seq [1, 0] [1, 1] rfl ?_
 refine at_region rfl ?_
 refine at_m 0 9 rfl rfl rfl (.inl rfl) rfl ?_
 refine at_opS (some 10) rfl rfl rfl rfl (op_cnt2 rfl rfl h) (by dsimp only [putD, List.set]) (by dsimp only [List.set, List.append, List.cons_append, List.nil_append, cellsD, List.map, repl, List.length, Nat.reduceAdd, if_true, ↓reduceIte]; first | done | rfl) ?_
 refine at_opS (some 3) rfl rfl rfl rfl (op_allocN rfl fzeroN_api_Model) (by dsimp only [putD, List.set]) (by dsimp only [List.set, List.append, List.cons_append, List.nil_append, cellsD, List.map, repl, List.length, Nat.reduceAdd, if_true, ↓reduceIte]; first | done | rfl) ?_
 refine at_stA 3 (.tmp 10) rfl rfl rfl rfl rfl (ev_tmp rfl) rfl fagg_api_Model rfl rfl (by first | decide | simp | (simp; omega)) (by dsimp only [List.set, List.append, List.cons_append, List.nil_append, cellsD, List.map, repl, List.length, Nat.reduceAdd, if_true, ↓reduceIte]; first | done | rfl) ?_
 refine at_end rfl ?_
 refine at_seq [1, 1, 0] [1, 1, 1] rfl ?_
 refine at_seq [1, 1, 0, 0] [1, 1, 0, 1] rfl ?_
 refine at_region rfl ?_
 refine at_c 4 rfl rfl rfl (.inr rfl) ?_
 refine at_end rfl ?_
 refine at_block [1, 1, 0, 1, 0] 0 rfl ?_
 refine at_loop [1, 1, 0, 1, 0, 0] rfl ?_
 try simp only [List.length_map, List.length_nil, Int.toNat_natCast]
 exact run_wk (.drop (.drop (.keep (.keep (.keep (.d16 (.d16 (.d16 (.d4 (.d4 (.drop .nil))))))))))) (steady2_loop s kz ns np st hnp _ _ 0 [r0, r1] rfl rfl hro (by simp))
theorem op_cnt3 {o : Oper} {c : Call} {fo : Operand} (ho : o.op = .call c) (hc : c.callee = .value fo) {s : List Int} {k0 kz ns np : Nat} {st : List Int} {r0 r1 r2 : Rl} (h : FSpec PP 25 [.ptr 0 0, db false] (dice s k0) (.dagg [di 1, .v (vNm (nmS.take ns)), .v (vNm (nmP.take np)), .v .nils, .v .nils, di 0, di 0, .gro 8 3 14, di 0, .v (vK st)]) ⟨[some [.v (.list (s.map vu)), .v (.int .i64 ((kz : Nat) : Int))], none, none, none, none, none, none, none, some (flatV [vRl r0] ++ flatV [vRl r1] ++ flatV [vRl r2])], []⟩) :
  OpOK PP o [.v (.fn 25 [] []), .ptr 0 0, db false] ⟨[some [.v (.list (s.map vu)), .v (.int .i64 ((k0 : Nat) : Int))], some [di 0, .v .nils, .v .nils, .v .nils, .v .nils, di 0, di 0, .v .nils, di 0, .v .nils]], []⟩ (.dagg [di 1, .v (vNm (nmS.take ns)), .v (vNm (nmP.take np)), .v .nils, .v .nils, di 0, di 0, .gro 9 3 14, di 0, .v (vK st)]) ⟨[some [.v (.list (s.map vu)), .v (.int .i64 ((kz : Nat) : Int))], some [di 0, .v .nils, .v .nils, .v .nils, .v .nils, di 0, di 0, .v .nils, di 0, .v .nils], none, none, none, none, none, none, none, some (flatV [vRl r0] ++ flatV [vRl r1] ++ flatV [vRl r2])], []⟩ := by
 have h := op_callG (σ := ⟨[some [.v (.list (s.map vu)), .v (.int .i64 ((k0 : Nat) : Int))], some [di 0, .v .nils, .v .nils, .v .nils, .v .nils, di 0, di 0, .v .nils, di 0, .v .nils]], []⟩) ho hc (fD := .v (.fn 25 [] [])) rfl (ds := [.ptr 0 0, db false]) [0] id h (.cons (.ren (dc := .ptr 0 0) rfl) (.cons (.ren (dc := db false) rfl) .nil)) (.cons rfl (.cons (.ren (dc := .v (.list (s.map vu))) rfl) (.cons (.ren (dc := .v (.int .i64 (k0 : Int))) rfl) .nil)) rfl .nil) (by simp) rfl (by simp) (by simp) rfl rfl
 exact h
set_option maxRecDepth 20000 in
theorem steady3_loop (s : List Int) (kz ns np : Nat) (st : List Int) (hnp : np ≤ 2) (T : List Rl) (m : Nat) : ∀ (i : Nat) (rs : List Rl), 3 - i = m → rs.length = 3 → (∀ r ∈ rs, RlOK ns np r) → T = rs.take i ++ (rs.drop i).map stR → Run PP (fun env σ1 => ResOK PP Tryz.f10 env σ1 (.v (vMd ⟨ns, np, T, st⟩)) (dice s kz)) [.lp (sub cSteady [1, 1, 0, 1, 0, 0]), .blk 0, .code (sub cSteady [1, 1, 1])] (.undef :: .undef :: (.ptr 1 0) :: (.ptr 10 0) :: (di ↑i) :: .undef :: .undef :: .undef :: .undef :: .undef :: .undef :: .undef :: .undef :: .undef :: .undef :: .undef :: .undef :: .undef :: .undef :: .undef :: .undef :: .undef :: .undef :: .undef :: .undef :: .undef :: .undef :: .undef :: .undef :: .undef :: .undef :: .undef :: .undef :: .undef :: .undef :: .undef :: .undef :: .undef :: .undef :: .undef :: .undef :: .undef :: .undef :: .undef :: .undef :: .undef :: .undef :: .undef :: .undef :: .undef :: .undef :: .undef :: .undef :: .undef :: .undef :: .undef :: .undef :: .undef :: .undef :: .undef :: .undef :: .undef :: []) ⟨[some [.v (.list (s.map vu)), .v (.int .i64 ((kz : Nat) : Int))], some [di 0, .v .nils, .v .nils, .v .nils, .v .nils, di 0, di 0, .v .nils, di 0, .v .nils], none, none, none, none, none, none, none, some (flR rs), some [di 1, .v (vNm (nmS.take ns)), .v (vNm (nmP.take np)), .v .nils, .v .nils, di 0, di 0, .gro 9 3 14, di 0, .v (vK st)]], []⟩ := by
 induction m using Nat.strongRecOn with
 | _ m ih =>
  intro i rs hm hrl hro hT
  have hfl := flR_length rs
  refine run_lp ?_
  refine at_seq [1, 1, 0, 1, 0, 0, 0] [1, 1, 0, 1, 0, 0, 1] rfl ?_
  refine at_seq [1, 1, 0, 1, 0, 0, 0, 0] [1, 1, 0, 1, 0, 0, 0, 1] rfl ?_
  refine at_region rfl ?_
  refine at_m 4 11 rfl rfl rfl (.inl rfl) rfl ?_
  first | (refine at_o 12 rfl rfl rfl rfl (op_fieldP rfl ffld7_api_Model (by decide)) ?_) | (refine at_o 12 rfl rfl rfl rfl (op_fieldR rfl ffld7_api_Model (by decide) (by decide) rfl) ?_)
  refine at_o 13 rfl rfl rfl rfl (op_loadP1 rfl fone_Sapi_Rule rfl rfl) ?_
  refine at_o 14 rfl rfl rfl rfl (op_lenG rfl fu_Sapi_Rule) ?_
  refine at_o 15 rfl rfl rfl rfl (op_binI rfl rfl) ?_
  refine at_end rfl ?_
  refine at_cond [1, 1, 0, 1, 0, 0, 0, 1, 0] [1, 1, 0, 1, 0, 0, 0, 1, 1] rfl rfl (fun hc1 => ?_) (fun hc1 => ?_)
  ·skip
   have hlt : i < 3 := by simp at hc1; omega
   obtain ⟨r, hr⟩ := get_ex (a := rs) (i := i) (by omega)
   have ro := hro r (List.mem_of_getElem? hr)
   have h1 := ro.nl
   have h2 := ro.gl
   have hnb := ro.n
   have hgb := ro.g
   rw [List.drop_eq_getElem_cons (by omega), (List.getElem?_eq_some_iff.1 hr).2, List.map_cons] at hT
   have htk : rs.take (i + 1) = rs.take i ++ [r] := by rw [List.take_succ_eq_append_getElem (by omega), (List.getElem?_eq_some_iff.1 hr).2]
   refine at_skip rfl ?_
   refine at_seq [1, 1, 0, 1, 0, 0, 1, 0] [1, 1, 0, 1, 0, 0, 1, 1] rfl ?_
   refine at_block [1, 1, 0, 1, 0, 0, 1, 0, 0] 1 rfl ?_
   refine at_seq [1, 1, 0, 1, 0, 0, 1, 0, 0, 0] [1, 1, 0, 1, 0, 0, 1, 0, 0, 1] rfl ?_
   refine at_region rfl ?_
   first | (refine at_o 18 rfl rfl rfl rfl (op_fieldP rfl ffld7_api_Model (by decide)) ?_) | (refine at_o 18 rfl rfl rfl rfl (op_fieldR rfl ffld7_api_Model (by decide) (by decide) rfl) ?_)
   refine at_o 19 rfl rfl rfl rfl (op_loadP1 rfl fone_Sapi_Rule rfl rfl) ?_
   refine at_m 4 20 rfl rfl rfl (.inl rfl) rfl ?_
   refine at_o 21 rfl rfl rfl rfl (op_idxG rfl fsl_Sapi_Rule (by omega) (by omega)) ?_
   simp only [Int.toNat_natCast]
   refine at_o 22 rfl rfl rfl rfl (op_loadPA rfl fagg_api_Rule rfl (by omega) (xs := (vRl r).cellsV) (by rw [flR_at hr]; rfl)) ?_
   refine at_new 22 5 rfl rfl rfl rfl fzero_api_Rule rfl rfl rfl rfl (by decide) rfl rfl fagg_api_Rule (by first | rfl | (simp [V.size]; done)) rfl (by simp only [List.length_cons]; omega) (by dsimp only [List.set]) ?_
   refine at_end rfl ?_
   refine at_seq [1, 1, 0, 1, 0, 0, 1, 0, 0, 1, 0] [1, 1, 0, 1, 0, 0, 1, 0, 0, 1, 1] rfl ?_
   refine at_region rfl ?_
   refine at_c 6 rfl rfl rfl (.inr rfl) ?_
   refine at_c 7 rfl rfl rfl (.inr rfl) ?_
   refine at_end rfl ?_
   refine at_seq [1, 1, 0, 1, 0, 0, 1, 0, 0, 1, 1, 0] [1, 1, 0, 1, 0, 0, 1, 0, 0, 1, 1, 1] rfl ?_
   refine at_seq [1, 1, 0, 1, 0, 0, 1, 0, 0, 1, 1, 0, 0] [1, 1, 0, 1, 0, 0, 1, 0, 0, 1, 1, 0, 1] rfl ?_
   refine at_region rfl ?_
   refine at_c 8 rfl rfl rfl (.inr rfl) ?_
   refine at_end rfl ?_
   refine at_block [1, 1, 0, 1, 0, 0, 1, 0, 0, 1, 1, 0, 1, 0] 2 rfl ?_
   refine at_loop [1, 1, 0, 1, 0, 0, 1, 0, 0, 1, 1, 0, 1, 0, 0] rfl ?_
   try simp only [List.length_map, List.length_nil, Int.toNat_natCast]
   refine run_wk (.drop (.drop (.keep (.keep (.keep (.keep (.keep (.keep (.keep (.d16 (.d16 (.d16 (.d4 (.drop .nil)))))))))))))) (sums_loop _ _ _ 10 i r (by omega) (by omega) hnb hgb r.need.sum r.give.sum ?_ _ 0 0 0 rfl (by omega) (by omega) (by simp) (by simp))
   refine at_seq [1, 1, 0, 1, 0, 0, 1, 0, 0, 1, 1, 1, 0] [1, 1, 0, 1, 0, 0, 1, 0, 0, 1, 1, 1, 1] rfl ?_
   refine at_region rfl ?_
   refine at_m 7 44 rfl rfl rfl (.inl rfl) rfl ?_
   refine at_m 6 45 rfl rfl rfl (.inl rfl) rfl ?_
   refine at_o 46 rfl rfl rfl rfl (op_binI rfl rfl) ?_
   refine at_end rfl ?_
   refine at_cond [1, 1, 0, 1, 0, 0, 1, 0, 0, 1, 1, 1, 1, 0] [1, 1, 0, 1, 0, 0, 1, 0, 0, 1, 1, 1, 1, 1] rfl rfl (fun hc2 => ?_) (fun hc2 => ?_)
   ·skip
    have hsw : r.need.sum < r.give.sum := by simpa using hc2
    rw [show stR r = swR r by simp [stR, hsw]] at hT
    have hT2 : T = (rs.set i (swR r)).take (i + 1) ++ ((rs.set i (swR r)).drop (i + 1)).map stR := by rw [hT, List.take_succ_eq_append_getElem (by simp; omega), List.getElem_set_self, List.take_set_of_le (Nat.le_refl _), List.drop_set_of_lt (by omega)]; simp
    have hro2 : ∀ x ∈ rs.set i (swR r), RlOK ns np x := fun x hx => by rcases List.mem_or_eq_of_mem_set hx with h | h; exact hro x h; subst h; exact ⟨ro.f0, ro.f1, ro.t0, ro.t1, ro.gl, ro.nl, ro.g, ro.n⟩
    refine at_draw mixed rfl [⟨[some [.v (.list (s.map vu)), .v (.int .i64 ((kz : Nat) : Int))], some [di 0, .v .nils, .v .nils, .v .nils, .v .nils, di 0, di 0, .v .nils, di 0, .v .nils], none, none, none, none, none, none, none, some (flR rs), some [di 1, .v (vNm (nmS.take ns)), .v (vNm (nmP.take np)), .v .nils, .v .nils, di 0, di 0, .gro 9 3 14, di 0, .v (vK st)]], []⟩, ⟨[some [.v (.list (s.map vu)), .v (.int .i64 ((kz : Nat) : Int))], some [di 0, .v .nils, .v .nils, .v .nils, .v .nils, di 0, di 0, .v .nils, di 0, .v .nils], none, none, none, none, none, none, none, some ((flR rs).set (i * 14 + 3) (.v (vl r.give))), some [di 1, .v (vNm (nmS.take ns)), .v (vNm (nmP.take np)), .v .nils, .v .nils, di 0, di 0, .gro 9 3 14, di 0, .v (vK st)]], []⟩, ⟨[some [.v (.list (s.map vu)), .v (.int .i64 ((kz : Nat) : Int))], some [di 0, .v .nils, .v .nils, .v .nils, .v .nils, di 0, di 0, .v .nils, di 0, .v .nils], none, none, none, none, none, none, none, some (((flR rs).set (i * 14 + 3) (.v (vl r.give))).set (i * 14 + 4) (.v (vl r.need))), some [di 1, .v (vNm (nmS.take ns)), .v (vNm (nmP.take np)), .v .nils, .v .nils, di 0, di 0, .gro 9 3 14, di 0, .v (vK st)]], []⟩] rfl ?_
    first | (refine da_q 47 rfl rfl rfl rfl (fun s hs => op_fieldP rfl ffld7_api_Model (by decide)) ?_) | (refine da_q 47 rfl rfl rfl rfl (fun s hs => op_fieldR rfl ffld7_api_Model (by decide) (by decide) rfl) ?_)
    refine da_q 48 rfl rfl rfl rfl (by intro s hs; simp only [List.mem_cons, List.not_mem_nil, or_false] at hs; rcases hs with rfl | rfl | rfl <;> exact op_loadP1 rfl fone_Sapi_Rule rfl rfl) ?_
    refine da_m 4 49 rfl rfl rfl (.inl rfl) rfl ?_
    first | (refine da_q 50 rfl rfl rfl rfl (fun s hs => op_fieldP rfl ffld7_api_Model (by decide)) ?_) | (refine da_q 50 rfl rfl rfl rfl (fun s hs => op_fieldR rfl ffld7_api_Model (by decide) (by decide) rfl) ?_)
    refine da_q 51 rfl rfl rfl rfl (by intro s hs; simp only [List.mem_cons, List.not_mem_nil, or_false] at hs; rcases hs with rfl | rfl | rfl <;> exact op_loadP1 rfl fone_Sapi_Rule rfl rfl) ?_
    refine da_m 4 52 rfl rfl rfl (.inl rfl) rfl ?_
    first | (refine da_q 53 rfl rfl rfl rfl (fun s hs => op_fieldP rfl ffld4_api_Rule (by decide)) ?_) | (refine da_q 53 rfl rfl rfl rfl (fun s hs => op_fieldR rfl ffld4_api_Rule (by decide) (by decide) rfl) ?_)
    first | (refine da_q 54 rfl rfl rfl rfl (fun s hs => op_loadR1 rfl fone_Sint rfl) ?_) | (refine da_q 54 rfl rfl rfl rfl (by intro s hs; simp only [List.mem_cons, List.not_mem_nil, or_false] at hs; rcases hs with rfl | rfl | rfl <;> exact op_loadP1 rfl fone_Sint rfl rfl) ?_)
    first | (refine da_q 55 rfl rfl rfl rfl (fun s hs => op_fieldP rfl ffld3_api_Rule (by decide)) ?_) | (refine da_q 55 rfl rfl rfl rfl (fun s hs => op_fieldR rfl ffld3_api_Rule (by decide) (by decide) rfl) ?_)
    first | (refine da_q 56 rfl rfl rfl rfl (fun s hs => op_loadR1 rfl fone_Sint rfl) ?_) | (refine da_q 56 rfl rfl rfl rfl (by intro s hs; simp only [List.mem_cons, List.not_mem_nil, or_false] at hs; rcases hs with rfl | rfl | rfl <;> exact op_loadP1 rfl fone_Sint rfl rfl) ?_)
    refine da_q 57 rfl rfl rfl rfl (fun s hs => op_idxG rfl fsl_Sapi_Rule (by omega) (by omega)) ?_
    simp only [Int.toNat_natCast]
    first | (refine da_q 58 rfl rfl rfl rfl (fun s hs => op_fieldP rfl ffld3_api_Rule (by decide)) ?_) | (refine da_q 58 rfl rfl rfl rfl (fun s hs => op_fieldR rfl ffld3_api_Rule (by decide) (by decide) rfl) ?_)
    refine da_st1 58 (.tmp 54) rfl rfl rfl rfl rfl rfl rfl (ev_tmp rfl) rfl fone_Sint rfl (by rw [hfl]; omega) (by first | rfl | (dsimp only [List.set, List.append, List.cons_append, List.nil_append, cellsD, List.map, repl, List.length, Nat.reduceAdd, if_true, ↓reduceIte]; first | done | rfl)) ?_
    refine da_q 59 rfl rfl rfl rfl (fun s hs => op_idxG rfl fsl_Sapi_Rule (by omega) (by omega)) ?_
    simp only [Int.toNat_natCast]
    first | (refine da_q 60 rfl rfl rfl rfl (fun s hs => op_fieldP rfl ffld4_api_Rule (by decide)) ?_) | (refine da_q 60 rfl rfl rfl rfl (fun s hs => op_fieldR rfl ffld4_api_Rule (by decide) (by decide) rfl) ?_)
    refine da_st1 60 (.tmp 56) rfl rfl rfl rfl rfl rfl rfl (ev_tmp rfl) rfl fone_Sint rfl (by rw [List.length_set, hfl]; omega) (by first | rfl | (dsimp only [List.set, List.append, List.cons_append, List.nil_append, cellsD, List.map, repl, List.length, Nat.reduceAdd, if_true, ↓reduceIte]; first | done | rfl)) ?_
    refine da_end rfl ⟨by decide +kernel, _, rfl, ?_⟩
    rw [flR_set hr]
    refine run_blk ?_
    refine at_region rfl ?_
    refine at_m 4 16 rfl rfl rfl (.inl rfl) rfl ?_
    refine at_o 17 rfl rfl rfl rfl (op_binI rfl rfl) ?_
    rw [wrap_succ (by omega)]
    refine at_m 17 4 rfl rfl rfl (.inr rfl) rfl ?_
    refine at_end rfl ?_
    first | exact run_wk (.drop (.drop (.keep (.keep (.keep (.d16 (.d16 (.d16 (.d4 (.d4 (.drop .nil))))))))))) (ih _ (by omega) (i + 1) _ rfl (by simp [hrl]) hro2 hT2) | exact run_wk (.drop (.drop (.keep (.keep (.keep (.d16 (.d16 (.d16 (.d4 (.d4 (.drop .nil))))))))))) (ih _ (by omega) (i + 1) rs rfl hrl hro hT2)
   ·skip
    have hsw : ¬ r.need.sum < r.give.sum := by simpa using hc2
    rw [show stR r = r by simp only [stR, hsw, if_false]] at hT
    have hT2 : T = rs.take (i + 1) ++ (rs.drop (i + 1)).map stR := by rw [hT, htk]; simp
    refine at_skip rfl ?_
    refine run_blk ?_
    refine at_region rfl ?_
    refine at_m 4 16 rfl rfl rfl (.inl rfl) rfl ?_
    refine at_o 17 rfl rfl rfl rfl (op_binI rfl rfl) ?_
    rw [wrap_succ (by omega)]
    refine at_m 17 4 rfl rfl rfl (.inr rfl) rfl ?_
    refine at_end rfl ?_
    first | exact run_wk (.drop (.drop (.keep (.keep (.keep (.d16 (.d16 (.d16 (.d4 (.d4 (.drop .nil))))))))))) (ih _ (by omega) (i + 1) _ rfl (by simp [hrl]) hro2 hT2) | exact run_wk (.drop (.drop (.keep (.keep (.keep (.d16 (.d16 (.d16 (.d4 (.d4 (.drop .nil))))))))))) (ih _ (by omega) (i + 1) rs rfl hrl hro hT2)
  ·skip
   have hge : 3 ≤ i := by simp at hc1; omega
   rw [List.take_of_length_le (by omega), List.drop_of_length_le (by omega), List.map_nil, List.append_nil] at hT
   refine run_wk (.drop (.drop (.keep (.keep (.d16 (.d16 (.d16 (.d4 (.d4 (.drop (.drop .nil))))))))))) ?_
   refine run_cv (cv_frz [9, 10] (.keep (.keep (.keep (.view (lend_md (q := 9) (m := ⟨ns, np, rs, st⟩) (by simp only [hrl]; rfl) rfl) (.keep (.keep (.keep (.keep (.keep (.keep (.keep (.keep (.keep (.keep (.keep (.keep (.keep (.keep (.keep (.keep (.keep (.keep (.keep (.keep (.keep (.keep (.keep (.keep (.keep (.keep (.keep (.keep (.keep (.keep (.keep (.keep (.keep (.keep (.keep (.keep (.keep (.keep (.keep (.keep (.keep (.keep (.keep (.keep (.keep (.keep (.keep (.keep (.keep (.keep (.keep (.keep (.keep (.keep (.keep (.keep (.keep (.keep .nil))))))))))))))))))))))))))))))))))))))))))))))))))))))))))))))) ?_
   simp only [killH, List.foldl, List.set]
   refine at_exit rfl rfl ?_
   refine at_seq [1, 1, 1, 0] [1, 1, 1, 1] rfl ?_
   refine at_region rfl ?_
   first | (refine at_o 61 rfl rfl rfl rfl (op_loadRA rfl fagg_api_Model) ?_) | (refine at_o 61 rfl rfl rfl rfl (op_loadPA rfl fagg_api_Model rfl (by first | decide | simp) rfl) ?_)
   refine at_stA 2 (.tmp 61) rfl rfl rfl rfl rfl (ev_tmp rfl) rfl fagg_api_Model rfl rfl (by first | decide | simp | (simp; omega)) (by dsimp only [List.set, List.append, List.cons_append, List.nil_append, cellsD, List.map, repl, List.length, Nat.reduceAdd, if_true, ↓reduceIte]; first | done | rfl) ?_
   refine at_end rfl ?_
   rw [hT]
   exact at_ret rfl (res_ok (ds := [.v (vMd ⟨ns, np, rs, st⟩)]) (.cellA rfl rfl fagg_api_Model (by simp) rfl .nil) rfl 1 rfl (by simp) (fun i cs h => by match i, h with | 0, h => (simp at h; subst h; rfl) | i + 1, h => simp at h) (List.nil_sublist _) rfl)
set_option maxRecDepth 20000 in
theorem steady3 (s : List Int) (k0 kz ns np : Nat) (st : List Int) (hnp : np ≤ 2) (r0 r1 r2 : Rl) (hro : ∀ r ∈ [r0, r1, r2], RlOK ns np r) (h : FSpec PP 25 [.ptr 0 0, db false] (dice s k0) (.dagg [di 1, .v (vNm (nmS.take ns)), .v (vNm (nmP.take np)), .v .nils, .v .nils, di 0, di 0, .gro 8 3 14, di 0, .v (vK st)]) ⟨[some [.v (.list (s.map vu)), .v (.int .i64 ((kz : Nat) : Int))], none, none, none, none, none, none, none, some (flatV [vRl r0] ++ flatV [vRl r1] ++ flatV [vRl r2])], []⟩) : FSpec PP 10 [.ptr 0 0] (dice s k0) (.v (vMd ⟨ns, np, [r0, r1, r2].map stR, st⟩)) (dice s kz) := by
 refine spec_at cSteady Tryz.func10 rfl (by kernel_rfl) (by first | decide | simp) _ (by dsimp only [Tryz.f10, List.length, Nat.reduceAdd, Nat.reduceSub, List.replicate, List.cons_append, List.nil_append]) ?_
 refine at_seq [0] [1] rfl ?_
 refine at_region rfl ?_
 refine at_opS (some 2) rfl rfl rfl rfl (op_allocN rfl fzeroN_api_Model) (by dsimp only [putD, List.set]) (by dsimp only [List.set, List.append, List.cons_append, List.nil_append, cellsD, List.map, repl, List.length, Nat.reduceAdd, if_true, ↓reduceIte]; first | done | rfl) ?_
 refine at_end rfl ?_
 refine at_seq [1, 0] [1, 1] rfl ?_
 refine at_region rfl ?_
 refine at_m 0 9 rfl rfl rfl (.inl rfl) rfl ?_
 refine at_opS (some 10) rfl rfl rfl rfl (op_cnt3 rfl rfl h) (by dsimp only [putD, List.set]) (by dsimp only [List.set, List.append, List.cons_append, List.nil_append, cellsD, List.map, repl, List.length, Nat.reduceAdd, if_true, ↓reduceIte]; first | done | rfl) ?_
 refine at_opS (some 3) rfl rfl rfl rfl (op_allocN rfl fzeroN_api_Model) (by dsimp only [putD, List.set]) (by dsimp only [List.set, List.append, List.cons_append, List.nil_append, cellsD, List.map, repl, List.length, Nat.reduceAdd, if_true, ↓reduceIte]; first | done | rfl) ?_
 refine at_stA 3 (.tmp 10) rfl rfl rfl rfl rfl (ev_tmp rfl) rfl fagg_api_Model rfl rfl (by first | decide | simp | (simp; omega)) (by dsimp only [List.set, List.append, List.cons_append, List.nil_append, cellsD, List.map, repl, List.length, Nat.reduceAdd, if_true, ↓reduceIte]; first | done | rfl) ?_
 refine at_end rfl ?_
 refine at_seq [1, 1, 0] [1, 1, 1] rfl ?_
 refine at_seq [1, 1, 0, 0] [1, 1, 0, 1] rfl ?_
 refine at_region rfl ?_
 refine at_c 4 rfl rfl rfl (.inr rfl) ?_
 refine at_end rfl ?_
 refine at_block [1, 1, 0, 1, 0] 0 rfl ?_
 refine at_loop [1, 1, 0, 1, 0, 0] rfl ?_
 try simp only [List.length_map, List.length_nil, Int.toNat_natCast]
 exact run_wk (.drop (.drop (.keep (.keep (.keep (.d16 (.d16 (.d16 (.d4 (.d4 (.drop .nil))))))))))) (steady3_loop s kz ns np st hnp _ _ 0 [r0, r1, r2] rfl rfl hro (by simp))
end Go.Proofs.YtmdipbhjhkckjaaGreat
