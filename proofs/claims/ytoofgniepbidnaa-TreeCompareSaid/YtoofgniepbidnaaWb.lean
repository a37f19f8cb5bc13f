/-
  Walks of package vector, continued; the deck that deals numbers.
-/
import Derived.Test.YtoofgniepbidnaaWa
namespace Go.Proofs.Ytoofgniepbidnaa
open Go.Dv

theorem map_set_v (L : List Int) (i : Nat) (z : Int) : ((L.map vi).map D.v).set i (.v (vi z)) = ((L.set i z).map vi).map D.v := by simp [List.map_set]
theorem rep_v (n : Nat) : (List.replicate n (D.v (.int .i64 0))) = ((List.replicate n (0 : Int)).map vi).map D.v := by simp [List.map_replicate]

noncomputable def cJoin : Code := Try.f55.body.getD .skip
set_option maxRecDepth 20000 in
theorem join_loop (rf ff : FuncId) (rb : Bool) (f : Int → Int → Int) (a b : List Int) (hR : FSpec PP rf [dl b] σ0 (db rb) σ0) (hF : ∀ x y, FSpec PP ff [di x, di y] σ0 (di (f x y)) σ0) (h : a.length = b.length) (hv : valid a = true) (hr : rb = true) (m : Nat) : ∀ i : Nat, a.length - i = m → Run PP (fun env σ1 => ResOK PP Try.f55 env σ1 (.tup [dl (joinM (valid a) rb f a b).1, di (joinM (valid a) rb f a b).2]) σ0) [.lp (sub cJoin [1, 1, 1, 0, 1, 0, 0]), .blk 1, .code (sub cJoin [1, 1, 1, 1])] ((dl a) :: (dl b) :: (dfn rf) :: (dfn ff) :: .undef :: .undef :: .undef :: .undef :: .undef :: .undef :: (.arr 0 0 a.length) :: .undef :: .undef :: .undef :: .undef :: .undef :: .undef :: .undef :: .undef :: .undef :: .undef :: .undef :: .undef :: .undef :: .undef :: .undef :: .undef :: .undef :: .undef :: .undef :: .undef :: .undef :: (dl a) :: (di ↑a.length) :: (di ↑i) :: .undef :: .undef :: .undef :: .undef :: .undef :: .undef :: .undef :: .undef :: .undef :: .undef :: .undef :: .undef :: .undef :: .undef :: .undef :: .undef :: []) ⟨[some (((fillM f a b i).map vi).map .v)], []⟩ := by
  have h6 := valid_len hv
  induction m using Nat.strongRecOn with
  | _ m ih =>
    intro i hm
    refine run_lp ?_
    refine at_seq [1, 1, 1, 0, 1, 0, 0, 0] [1, 1, 1, 0, 1, 0, 0, 1] rfl ?_
    refine at_region rfl ?_
    refine at_op (some 35) rfl rfl rfl rfl (op_binI rfl rfl) (by dsimp only [putD, List.set]) ?_
    refine at_end rfl ?_
    refine at_seq [1, 1, 1, 0, 1, 0, 0, 1, 0] [1, 1, 1, 0, 1, 0, 0, 1, 1] rfl ?_
    refine at_cond [1, 1, 1, 0, 1, 0, 0, 1, 0, 0] [1, 1, 1, 0, 1, 0, 0, 1, 0, 1] rfl rfl (fun hc1 => ?_) (fun hc1 => ?_)
    · skip
      have hlt : i < a.length := by simpa using hc1
      obtain ⟨x, hx⟩ := get_ex hlt
      obtain ⟨y, hy⟩ := get_ex (a := b) (i := i) (by omega)
      refine at_skip rfl ?_
      refine at_seq [1, 1, 1, 0, 1, 0, 0, 1, 1, 0] [1, 1, 1, 0, 1, 0, 0, 1, 1, 1] rfl ?_
      refine at_block [1, 1, 1, 0, 1, 0, 0, 1, 1, 0, 0] 2 rfl ?_
      refine at_seq [1, 1, 1, 0, 1, 0, 0, 1, 1, 0, 0, 0] [1, 1, 1, 0, 1, 0, 0, 1, 1, 0, 0, 1] rfl ?_
      refine at_region rfl ?_
      refine at_mv 34 36 rfl rfl rfl (.inl rfl) rfl (by dsimp only [List.set]) ?_
      first | (refine at_op (some 37) rfl rfl rfl rfl (op_idxL rfl slInt (by first | decide | omega) (by first | exact idx_some (by assumption) | assumption | rfl) (by first | rfl | (simp [V.size]; done))) (by dsimp only [putD, List.set]) ?_) | (refine at_op (some 37) rfl rfl rfl rfl (opOK_un (op_idxL rfl slInt (by first | decide | omega) (by first | exact idx_some (by assumption) | assumption | rfl) (by first | rfl | (simp [V.size]; done)))) (by dsimp only [putD, List.set]) ?_) | (refine at_op (some 37) rfl rfl rfl rfl (op_idxA rfl slInt (by first | decide | omega) (by first | decide | omega)) (by dsimp only [putD, List.set]) ?_)
      first | (refine at_op (some 38) rfl rfl rfl rfl (op_loadR1 rfl oneInt rfl) (by dsimp only [putD, List.set]) ?_) | (refine at_op (some 38) rfl rfl rfl rfl (op_loadP1 rfl oneInt rfl rfl) (by dsimp only [putD, List.set]) ?_)
      refine at_mv 36 11 rfl rfl rfl (.inr rfl) rfl (by dsimp only [List.set]) ?_
      refine at_mv 38 12 rfl rfl rfl (.inr rfl) rfl (by dsimp only [List.set]) ?_
      refine at_end rfl ?_
      refine at_region rfl ?_
      refine at_mv 10 39 rfl rfl rfl (.inl rfl) rfl (by dsimp only [List.set]) ?_
      refine at_mv 11 40 rfl rfl rfl (.inl rfl) rfl (by dsimp only [List.set]) ?_
      refine at_mv 3 41 rfl rfl rfl (.inl rfl) rfl (by dsimp only [List.set]) ?_
      refine at_mv 12 42 rfl rfl rfl (.inl rfl) rfl (by dsimp only [List.set]) ?_
      refine at_mv 1 43 rfl rfl rfl (.inl rfl) rfl (by dsimp only [List.set]) ?_
      refine at_mv 11 44 rfl rfl rfl (.inl rfl) rfl (by dsimp only [List.set]) ?_
      first | (refine at_op (some 45) rfl rfl rfl rfl (op_idxL rfl slInt (by first | decide | omega) (by first | exact idx_some (by assumption) | assumption | rfl) (by first | rfl | (simp [V.size]; done))) (by dsimp only [putD, List.set]) ?_) | (refine at_op (some 45) rfl rfl rfl rfl (opOK_un (op_idxL rfl slInt (by first | decide | omega) (by first | exact idx_some (by assumption) | assumption | rfl) (by first | rfl | (simp [V.size]; done)))) (by dsimp only [putD, List.set]) ?_) | (refine at_op (some 45) rfl rfl rfl rfl (op_idxA rfl slInt (by first | decide | omega) (by first | decide | omega)) (by dsimp only [putD, List.set]) ?_)
      first | (refine at_op (some 46) rfl rfl rfl rfl (op_loadR1 rfl oneInt rfl) (by dsimp only [putD, List.set]) ?_) | (refine at_op (some 46) rfl rfl rfl rfl (op_loadP1 rfl oneInt rfl rfl) (by dsimp only [putD, List.set]) ?_)
      refine at_op (some 47) rfl rfl rfl rfl (op_call0 rfl rfl rfl rfl (hF x y)) (by dsimp only [putD, List.set]) ?_
      first | (refine at_op (some 48) rfl rfl rfl rfl (op_idxL rfl slInt (by first | decide | omega) (by first | exact idx_some (by assumption) | assumption | rfl) (by first | rfl | (simp [V.size]; done))) (by dsimp only [putD, List.set]) ?_) | (refine at_op (some 48) rfl rfl rfl rfl (opOK_un (op_idxL rfl slInt (by first | decide | omega) (by first | exact idx_some (by assumption) | assumption | rfl) (by first | rfl | (simp [V.size]; done)))) (by dsimp only [putD, List.set]) ?_) | (refine at_op (some 48) rfl rfl rfl rfl (op_idxA rfl slInt (by first | decide | omega) (by first | decide | omega)) (by dsimp only [putD, List.set]) ?_)
      refine at_st1 48 (.tmp 47) rfl rfl rfl rfl rfl (ev_tmp rfl) rfl oneInt rfl (by simp [fillM_length h]; omega) (by dsimp only [List.set, List.append, List.cons_append, List.nil_append, cellsD, List.map, repl, List.length, Nat.reduceAdd, if_true, ↓reduceIte]; first | done | rfl) ?_
      simp only [Nat.zero_add, Nat.mul_one, Int.toNat_natCast, map_set_v, fillM_set h hx hy]
      refine at_end rfl ?_
      refine run_blk ?_
      refine at_region rfl ?_
      refine at_op (some 49) rfl rfl rfl rfl (op_binI rfl rfl) (by dsimp only [putD, List.set]) ?_
      refine at_mv 49 34 rfl rfl rfl (.inl rfl) rfl (by dsimp only [List.set]) ?_
      refine at_end rfl ?_
      rw [wrap_succ (by omega)]
      exact run_wk (.keep (.keep (.keep (.keep (.drop (.drop (.drop (.drop (.drop (.drop (.keep (.drop (.drop (.drop (.drop (.drop (.drop (.drop (.drop (.drop (.drop (.drop (.drop (.drop (.drop (.drop (.drop (.drop (.drop (.drop (.drop (.drop (.keep (.keep (.keep (.drop (.drop (.drop (.drop (.drop (.drop (.drop (.drop (.drop (.drop (.drop (.drop (.drop (.drop (.drop (.drop .nil))))))))))))))))))))))))))))))))))))))))))))))))))) (ih _ (by omega) (i + 1) rfl)
    · skip
      have hge : a.length ≤ i := by simpa using hc1
      rw [fillM_end h hge]
      have hl : ((List.zipWith f a b).map vi).length = a.length := by simp; omega
      refine run_frz (s := 10) (q := 0) (xs := (List.zipWith f a b).map vi) (by rw [hl]; rfl) rfl ?_
      dsimp only [List.set]
      refine at_exit rfl rfl ?_
      refine at_seq [1, 1, 1, 1, 0] [1, 1, 1, 1, 1] rfl ?_
      refine at_region rfl ?_
      refine at_mv 10 50 rfl rfl rfl (.inl rfl) rfl (by dsimp only [List.set]) ?_
      refine at_mv 50 8 rfl rfl rfl (.inr rfl) rfl (by dsimp only [List.set]) ?_
      refine at_mc 9 rfl rfl rfl (.inr rfl) (by dsimp only [constD]) (by dsimp only [List.set]) ?_
      refine at_end rfl ?_
      refine at_ret rfl (ret_two (t := 8) (t2 := 9) rfl rfl rfl ?_ ?_ rfl rfl)
      all_goals (simp [joinM, D.un, h, hv, hr])

set_option maxRecDepth 20000 in
theorem join_spec (rf ff : FuncId) (rb : Bool) (f : Int → Int → Int) (a b : List Int) (hR : FSpec PP rf [dl b] σ0 (db rb) σ0) (hF : ∀ x y, FSpec PP ff [di x, di y] σ0 (di (f x y)) σ0) : FSpec PP 55 [dl a, dl b, dfn rf, dfn ff] σ0 (.tup [dl (joinM (valid a) rb f a b).1, di (joinM (valid a) rb f a b).2]) σ0 := by
  refine spec_at cJoin Try.func55 rfl (by kernel_rfl) (by first | decide | simp) _ (by dsimp only [Try.f55, List.length, Nat.reduceAdd, Nat.reduceSub, List.replicate, List.cons_append, List.nil_append]) ?_
  refine at_seq [0] [1] rfl ?_
  refine at_region rfl ?_
  refine at_mc 8 rfl rfl rfl (.inr rfl) (by dsimp only [constD]) (by dsimp only [List.set]) ?_
  refine at_mc 9 rfl rfl rfl (.inr rfl) (by dsimp only [constD]) (by dsimp only [List.set]) ?_
  refine at_end rfl ?_
  refine at_seq [1, 0] [1, 1] rfl ?_
  refine at_block [1, 0, 0] 0 rfl ?_
  refine at_seq [1, 0, 0, 0] [1, 0, 0, 1] rfl ?_
  refine at_region rfl ?_
  refine at_mv 0 14 rfl rfl rfl (.inl rfl) rfl (by dsimp only [List.set]) ?_
  refine at_op (some 15) rfl rfl rfl rfl (op_call0 rfl rfl rfl rfl (valid_spec _)) (by dsimp only [putD, List.set]) ?_
  refine at_op (some 16) rfl rfl rfl rfl (op_un rfl rfl) (by dsimp only [putD, List.set]) ?_
  refine at_mv 16 17 rfl rfl rfl (.inl rfl) rfl (by dsimp only [List.set]) ?_
  refine at_split 17 rfl (fun hb1 env' he => ?_) (fun hb1 env' he => ?_)
  · dsimp only [List.set] at he; subst he
    refine at_opN (some 18) rfl rfl rfl (by dsimp only [putD, List.set]) ?_
    refine at_opN (some 19) rfl rfl rfl (by dsimp only [putD, List.set]) ?_
    refine at_opN (some 20) rfl rfl rfl (by dsimp only [putD, List.set]) ?_
    refine at_opN (some 21) rfl rfl rfl (by dsimp only [putD, List.set]) ?_
    refine at_pkc true 17 22 rfl rfl rfl rfl rfl rfl (by dsimp only [constD]) (by dsimp only [List.set]) ?_
    refine at_mv 22 13 rfl rfl rfl (.inr rfl) rfl (by dsimp only [List.set]) ?_
    refine at_end rfl ?_
    refine at_true [1, 0, 0, 1, 0] [1, 0, 0, 1, 1] rfl rfl ?_
    refine at_seq [1, 0, 0, 1, 0, 0] [1, 0, 0, 1, 0, 1] rfl ?_
    refine at_region rfl ?_
    refine at_mc 8 rfl rfl rfl (.inr rfl) (by dsimp only [constD]) (by dsimp only [List.set]) ?_
    refine at_mc 9 rfl rfl rfl (.inr rfl) (by dsimp only [constD]) (by dsimp only [List.set]) ?_
    refine at_end rfl ?_
    refine at_ret rfl (ret_two (t := 8) (t2 := 9) rfl rfl rfl ?_ ?_ rfl rfl)
    all_goals (first | (simp_all [joinM, D.un]; done) | (simp_all [joinM, D.un]; rw [if_neg (by omega)]))
  · dsimp only [List.set] at he; subst he
    refine at_mv 2 18 rfl rfl rfl (.inl rfl) rfl (by dsimp only [List.set]) ?_
    refine at_mv 1 19 rfl rfl rfl (.inl rfl) rfl (by dsimp only [List.set]) ?_
    refine at_op (some 20) rfl rfl rfl rfl (op_call0 rfl rfl rfl rfl hR) (by dsimp only [putD, List.set]) ?_
    refine at_op (some 21) rfl rfl rfl rfl (op_un rfl rfl) (by dsimp only [putD, List.set]) ?_
    refine at_pk false 17 21 22 rfl rfl rfl rfl rfl rfl rfl (by dsimp only [List.set]) ?_
    refine at_mv 22 13 rfl rfl rfl (.inr rfl) rfl (by dsimp only [List.set]) ?_
    refine at_end rfl ?_
    refine at_cond [1, 0, 0, 1, 0] [1, 0, 0, 1, 1] rfl rfl (fun hc2 => ?_) (fun hc2 => ?_)
    · skip
      refine at_seq [1, 0, 0, 1, 0, 0] [1, 0, 0, 1, 0, 1] rfl ?_
      refine at_region rfl ?_
      refine at_mc 8 rfl rfl rfl (.inr rfl) (by dsimp only [constD]) (by dsimp only [List.set]) ?_
      refine at_mc 9 rfl rfl rfl (.inr rfl) (by dsimp only [constD]) (by dsimp only [List.set]) ?_
      refine at_end rfl ?_
      refine at_ret rfl (ret_two (t := 8) (t2 := 9) rfl rfl rfl ?_ ?_ rfl rfl)
      all_goals (first | (simp_all [joinM, D.un]; done) | (simp_all [joinM, D.un]; rw [if_neg (by omega)]))
    · skip
      refine at_seq [1, 0, 0, 1, 1, 0] [1, 0, 0, 1, 1, 1] rfl ?_
      refine at_region rfl ?_
      refine at_mv 0 24 rfl rfl rfl (.inl rfl) rfl (by dsimp only [List.set]) ?_
      first | (refine at_op (some 25) rfl rfl rfl rfl (op_lenL rfl uInts) (by dsimp only [putD, List.set]) ?_) | (refine at_op (some 25) rfl rfl rfl rfl (opOK_un (op_lenL rfl uInts)) (by dsimp only [putD, List.set]) ?_) | (refine at_op (some 25) rfl rfl rfl rfl (op_lenA rfl uInts) (by dsimp only [putD, List.set]) ?_)
      refine at_mv 1 26 rfl rfl rfl (.inl rfl) rfl (by dsimp only [List.set]) ?_
      first | (refine at_op (some 27) rfl rfl rfl rfl (op_lenL rfl uInts) (by dsimp only [putD, List.set]) ?_) | (refine at_op (some 27) rfl rfl rfl rfl (opOK_un (op_lenL rfl uInts)) (by dsimp only [putD, List.set]) ?_) | (refine at_op (some 27) rfl rfl rfl rfl (op_lenA rfl uInts) (by dsimp only [putD, List.set]) ?_)
      refine at_op (some 28) rfl rfl rfl rfl (op_binI rfl rfl) (by dsimp only [putD, List.set]) ?_
      refine at_mv 28 23 rfl rfl rfl (.inr rfl) rfl (by dsimp only [List.set]) ?_
      refine at_end rfl ?_
      refine at_cond [1, 0, 0, 1, 1, 1, 0] [1, 0, 0, 1, 1, 1, 1] rfl rfl (fun hc3 => ?_) (fun hc3 => ?_)
      · skip
        refine at_seq [1, 0, 0, 1, 1, 1, 0, 0] [1, 0, 0, 1, 1, 1, 0, 1] rfl ?_
        refine at_region rfl ?_
        refine at_mc 8 rfl rfl rfl (.inr rfl) (by dsimp only [constD]) (by dsimp only [List.set]) ?_
        refine at_mc 9 rfl rfl rfl (.inr rfl) (by dsimp only [constD]) (by dsimp only [List.set]) ?_
        refine at_end rfl ?_
        refine at_ret rfl (ret_two (t := 8) (t2 := 9) rfl rfl rfl ?_ ?_ rfl rfl)
        all_goals (first | (simp_all [joinM, D.un]; done) | (simp_all [joinM, D.un]; rw [if_neg (by omega)]))
      · skip
        refine at_skip rfl ?_
        refine run_blk ?_
        refine at_seq [1, 1, 0] [1, 1, 1] rfl ?_
        refine at_region rfl ?_
        refine at_mv 0 29 rfl rfl rfl (.inl rfl) rfl (by dsimp only [List.set]) ?_
        first | (refine at_op (some 30) rfl rfl rfl rfl (op_lenL rfl uInts) (by dsimp only [putD, List.set]) ?_) | (refine at_op (some 30) rfl rfl rfl rfl (opOK_un (op_lenL rfl uInts)) (by dsimp only [putD, List.set]) ?_) | (refine at_op (some 30) rfl rfl rfl rfl (op_lenA rfl uInts) (by dsimp only [putD, List.set]) ?_)
        refine at_opS (some 31) rfl rfl rfl rfl (op_make rfl slInt rfl (by omega) (by have := valid_len (a := a) (by simp_all); simp; omega) (by have := valid_len (a := a) (by simp_all); simp; omega)) (by dsimp only [putD, List.set]) (by dsimp only [List.set, List.append, List.cons_append, List.nil_append, cellsD, List.map, repl, List.length, Nat.reduceAdd, if_true, ↓reduceIte]; first | done | rfl) ?_
        refine at_mv 31 10 rfl rfl rfl (.inr rfl) rfl (by dsimp only [List.set]) ?_
        refine at_end rfl ?_
        refine at_seq [1, 1, 1, 0] [1, 1, 1, 1] rfl ?_
        refine at_seq [1, 1, 1, 0, 0] [1, 1, 1, 0, 1] rfl ?_
        refine at_region rfl ?_
        refine at_mv 0 32 rfl rfl rfl (.inl rfl) rfl (by dsimp only [List.set]) ?_
        first | (refine at_op (some 33) rfl rfl rfl rfl (op_lenL rfl uInts) (by dsimp only [putD, List.set]) ?_) | (refine at_op (some 33) rfl rfl rfl rfl (opOK_un (op_lenL rfl uInts)) (by dsimp only [putD, List.set]) ?_) | (refine at_op (some 33) rfl rfl rfl rfl (op_lenA rfl uInts) (by dsimp only [putD, List.set]) ?_)
        refine at_mc 34 rfl rfl rfl (.inl rfl) (by dsimp only [constD]) (by dsimp only [List.set]) ?_
        refine at_end rfl ?_
        refine at_block [1, 1, 1, 0, 1, 0] 1 rfl ?_
        refine at_loop [1, 1, 1, 0, 1, 0, 0] rfl ?_
        try simp only [List.length_map, List.length_nil, Int.toNat_natCast]
        have h : a.length = b.length := by simp_all; omega
        have hv : valid a = true := by simp_all
        have hr : rb = true := by simp_all
        have := join_loop rf ff rb f a b hR hF h hv hr _ 0 rfl
        rw [fillM_zero, ← rep_v] at this
        exact run_wk (.keep (.keep (.keep (.keep (.drop (.drop (.drop (.drop (.drop (.drop (.keep (.drop (.drop (.drop (.drop (.drop (.drop (.drop (.drop (.drop (.drop (.drop (.drop (.drop (.drop (.drop (.drop (.drop (.drop (.drop (.drop (.drop (.keep (.keep (.keep (.drop (.drop (.drop (.drop (.drop (.drop (.drop (.drop (.drop (.drop (.drop (.drop (.drop (.drop (.drop (.drop .nil))))))))))))))))))))))))))))))))))))))))))))))))))) this

noncomputable def cMax : Code := Try.f18.body.getD .skip
set_option maxRecDepth 20000 in
theorem max_spec (a b : List Int) : FSpec PP 18 [dl a, dl b] σ0 (.tup [dl (joinM (valid a) (valid b) maxF a b).1, di (joinM (valid a) (valid b) maxF a b).2]) σ0 := by
  refine spec_at cMax Try.func18 rfl (by kernel_rfl) (by first | decide | simp) _ (by dsimp only [Try.f18, List.length, Nat.reduceAdd, Nat.reduceSub, List.replicate, List.cons_append, List.nil_append]) ?_
  refine at_seq [0] [1] rfl ?_
  refine at_region rfl ?_
  refine at_mc 4 rfl rfl rfl (.inr rfl) (by dsimp only [constD]) (by dsimp only [List.set]) ?_
  refine at_mc 5 rfl rfl rfl (.inr rfl) (by dsimp only [constD]) (by dsimp only [List.set]) ?_
  refine at_end rfl ?_
  refine at_seq [1, 0] [1, 1] rfl ?_
  refine at_region rfl ?_
  refine at_mv 0 6 rfl rfl rfl (.inl rfl) rfl (by dsimp only [List.set]) ?_
  refine at_mv 1 7 rfl rfl rfl (.inl rfl) rfl (by dsimp only [List.set]) ?_
  refine at_op (some 8) rfl rfl rfl rfl (op_call0 rfl rfl rfl rfl (join_spec 30 56 (valid b) maxF a b (valid_spec b) max1_spec)) (by dsimp only [putD, List.set]) ?_
  refine at_op (some 9) rfl rfl rfl rfl (op_extract rfl rfl) (by dsimp only [putD, List.set]) ?_
  refine at_op (some 10) rfl rfl rfl rfl (op_extract rfl rfl) (by dsimp only [putD, List.set]) ?_
  refine at_mv 9 4 rfl rfl rfl (.inr rfl) rfl (by dsimp only [List.set]) ?_
  refine at_mv 10 5 rfl rfl rfl (.inr rfl) rfl (by dsimp only [List.set]) ?_
  refine at_end rfl ?_
  refine at_ret rfl (ret_two (t := 4) (t2 := 5) rfl rfl rfl ?_ ?_ rfl rfl)
  all_goals (rfl)

noncomputable def cMin : Code := Try.f19.body.getD .skip
set_option maxRecDepth 20000 in
theorem min_spec (a b : List Int) : FSpec PP 19 [dl a, dl b] σ0 (.tup [dl (joinM (valid a) (valid b) minF a b).1, di (joinM (valid a) (valid b) minF a b).2]) σ0 := by
  refine spec_at cMin Try.func19 rfl (by kernel_rfl) (by first | decide | simp) _ (by dsimp only [Try.f19, List.length, Nat.reduceAdd, Nat.reduceSub, List.replicate, List.cons_append, List.nil_append]) ?_
  refine at_seq [0] [1] rfl ?_
  refine at_region rfl ?_
  refine at_mc 4 rfl rfl rfl (.inr rfl) (by dsimp only [constD]) (by dsimp only [List.set]) ?_
  refine at_mc 5 rfl rfl rfl (.inr rfl) (by dsimp only [constD]) (by dsimp only [List.set]) ?_
  refine at_end rfl ?_
  refine at_seq [1, 0] [1, 1] rfl ?_
  refine at_region rfl ?_
  refine at_mv 0 6 rfl rfl rfl (.inl rfl) rfl (by dsimp only [List.set]) ?_
  refine at_mv 1 7 rfl rfl rfl (.inl rfl) rfl (by dsimp only [List.set]) ?_
  refine at_op (some 8) rfl rfl rfl rfl (op_call0 rfl rfl rfl rfl (join_spec 30 57 (valid b) minF a b (valid_spec b) min1_spec)) (by dsimp only [putD, List.set]) ?_
  refine at_op (some 9) rfl rfl rfl rfl (op_extract rfl rfl) (by dsimp only [putD, List.set]) ?_
  refine at_op (some 10) rfl rfl rfl rfl (op_extract rfl rfl) (by dsimp only [putD, List.set]) ?_
  refine at_mv 9 4 rfl rfl rfl (.inr rfl) rfl (by dsimp only [List.set]) ?_
  refine at_mv 10 5 rfl rfl rfl (.inr rfl) rfl (by dsimp only [List.set]) ?_
  refine at_end rfl ?_
  refine at_ret rfl (ret_two (t := 4) (t2 := 5) rfl rfl rfl ?_ ?_ rfl rfl)
  all_goals (rfl)

end Go.Proofs.Ytoofgniepbidnaa
