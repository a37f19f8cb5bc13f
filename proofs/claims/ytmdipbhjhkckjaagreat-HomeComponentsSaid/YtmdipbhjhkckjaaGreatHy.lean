/-
  least, walked.
-/
import Derived.Test.YtmdipbhjhkckjaaGreatHx
import Derived.Test.YtmdipbhjhkckjaaGreatDb
import Derived.Test.YtmdipbhjhkckjaaGreatCy
import Derived.Laws.StructEq
import Derived.ChangeKeysEq
namespace Go.Proofs.YtmdipbhjhkckjaaGreat
open Go.Dv

/-- is the arc taken in place of the best one? -/
def better (d : List Int) (x : Int) (f : Bool) (b a : Arc) : Bool := (d.getD a.2.toNat 0 == x) && (!f || decide (a.1 < b.1) || (a.1 == b.1 && decide (a.2 < b.2)))
def leastM (d : List Int) (x : Int) : List Arc → Bool → Arc → Arc
  | [], _, b => b
  | a :: l, f, b => if better d x f b a then leastM d x l true a else leastM d x l f b
theorem ret_arc {P : Program} {fn : Func} {env : List D} {a : Arc} {c : List (Option (List D))} {own : List (Nat × Nat × List V)} {ty : TypeId} (hr : fn.results.toList = [.cell 6 ty]) (ht : AggTy P ty 2) (he : env[6]? = some (.ptr 0 0)) :
    ResOK P fn env ⟨some [di a.1, di a.2] :: c, own⟩ (.v (vArc a)) σ0 := by
  refine res_ok (ds := [.v (vArc a)]) ?_ rfl 0 (by simp) (by simp) (fun i cs hi => by simp at hi) (by simp) rfl
  rw [hr]; exact .cellA (n := 2) (cs := [di a.1, di a.2]) he rfl ht (by simp) rfl .nil

noncomputable def cLeast : Code := Tryz.f42.body.getD .skip
set_option maxRecDepth 20000 in
theorem least_loop (l : List Arc) (hl : l.length ≤ 1000) (d : List Int) (x : Int) (hd : ∀ a ∈ l, 0 ≤ a.2 ∧ a.2.toNat < d.length) (T : Arc) (m : Nat) : ∀ (i : Nat) (f : Bool) (b : Arc), l.length - i = m → T = leastM d x (l.drop i) f b → Run PP (fun env σ1 => ResOK PP Tryz.f42 env σ1 (.v (vArc T)) σ0) [.lp (sub cLeast [1, 1, 0, 1, 0, 0]), .blk 0, .code (sub cLeast [1, 1, 1])] ((.v (vArcs l)) :: (dl d) :: (di x) :: .undef :: .undef :: .undef :: (.ptr 0 0) :: (.ptr 1 0) :: (db f) :: .undef :: .undef :: .undef :: (.v (vArcs l)) :: (di ↑l.length) :: (di ↑i) :: .undef :: .undef :: .undef :: .undef :: .undef :: .undef :: .undef :: .undef :: .undef :: .undef :: .undef :: .undef :: .undef :: .undef :: .undef :: .undef :: .undef :: .undef :: .undef :: .undef :: .undef :: .undef :: .undef :: .undef :: .undef :: .undef :: .undef :: .undef :: .undef :: .undef :: .undef :: .undef :: .undef :: .undef :: .undef :: .undef :: .undef :: .undef :: []) ⟨[some [di 0, di 0], some [di b.1, di b.2]], []⟩ := by
  induction m using Nat.strongRecOn with
  | _ m ih =>
    intro i f b hm hT
    refine run_lp ?_
    refine at_seq [1, 1, 0, 1, 0, 0, 0] [1, 1, 0, 1, 0, 0, 1] rfl ?_
    refine at_region rfl ?_
    refine at_op (some 15) rfl rfl rfl rfl (op_binI rfl rfl) (by dsimp only [putD, List.set]) ?_
    refine at_end rfl ?_
    refine at_seq [1, 1, 0, 1, 0, 0, 1, 0] [1, 1, 0, 1, 0, 0, 1, 1] rfl ?_
    refine at_cond [1, 1, 0, 1, 0, 0, 1, 0, 0] [1, 1, 0, 1, 0, 0, 1, 0, 1] rfl rfl (fun hc1 => ?_) (fun hc1 => ?_)
    · skip
      have hlt : i < l.length := by simpa using hc1
      obtain ⟨a, ha⟩ := get_ex hlt
      have ha2 := idx_some (f := vArc) ha
      obtain ⟨h0, h1⟩ := hd a (List.mem_of_getElem? ha)
      rw [List.drop_eq_getElem_cons hlt, (List.getElem?_eq_some_iff.1 ha).2] at hT
      simp only [leastM] at hT
      obtain ⟨y, hy⟩ := get_ex h1
      have hy2 : (d.map vi)[a.2.toNat]? = some (vi y) := by simp [hy]
      have hbe : better d x f b a = ((y == x) && (!f || decide (a.1 < b.1) || (a.1 == b.1 && decide (a.2 < b.2)))) := by simp [better, List.getD_eq_getElem?_getD, hy]
      refine at_skip rfl ?_
      refine at_seq [1, 1, 0, 1, 0, 0, 1, 1, 0] [1, 1, 0, 1, 0, 0, 1, 1, 1] rfl ?_
      refine at_block [1, 1, 0, 1, 0, 0, 1, 1, 0, 0] 1 rfl ?_
      refine at_seq [1, 1, 0, 1, 0, 0, 1, 1, 0, 0, 0] [1, 1, 0, 1, 0, 0, 1, 1, 0, 0, 1] rfl ?_
      refine at_region rfl ?_
      first | (refine at_op (some 16) rfl rfl rfl rfl (op_idxL rfl fsl_Sapi_Arc (by first | decide | omega) (by first | assumption | exact idx_some (by assumption) | rfl) (by first | rfl | (simp [V.size]; done))) (by dsimp only [putD, List.set]) ?_) | (refine at_op (some 16) rfl rfl rfl rfl (opOK_un (op_idxL rfl fsl_Sapi_Arc (by first | decide | omega) (by first | assumption | exact idx_some (by assumption) | rfl) (by first | rfl | (simp [V.size]; done)))) (by dsimp only [putD, List.set]) ?_) | (refine at_op (some 16) rfl rfl rfl rfl (op_idxA rfl fsl_Sapi_Arc (by first | decide | omega) (by first | decide | omega)) (by dsimp only [putD, List.set]) ?_)
      first | (refine at_op (some 17) rfl rfl rfl rfl (op_loadRA rfl fagg_api_Arc) (by dsimp only [putD, List.set]) ?_) | (refine at_op (some 17) rfl rfl rfl rfl (op_loadPA rfl fagg_api_Arc rfl (by first | decide | simp) rfl) (by dsimp only [putD, List.set]) ?_)
      refine at_new 17 10 rfl rfl rfl rfl fzero_api_Arc rfl rfl rfl rfl (by decide) rfl rfl fagg_api_Arc (by first | rfl | (simp [V.size]; done)) rfl (by simp only [List.length_cons]; omega) (by dsimp only [List.set]) ?_
      refine at_end rfl ?_
      refine at_seq [1, 1, 0, 1, 0, 0, 1, 1, 0, 0, 1, 0] [1, 1, 0, 1, 0, 0, 1, 1, 0, 0, 1, 1] rfl ?_
      refine at_region rfl ?_
      refine at_mv 1 18 rfl rfl rfl (.inl rfl) rfl (by dsimp only [List.set]) ?_
      first | (refine at_op (some 19) rfl rfl rfl rfl (op_fieldP rfl ffld1_api_Arc (by decide)) (by dsimp only [putD, List.set]) ?_) | (refine at_op (some 19) rfl rfl rfl rfl (op_fieldR rfl ffld1_api_Arc (by decide) (by decide) rfl) (by dsimp only [putD, List.set]) ?_)
      first | (refine at_op (some 20) rfl rfl rfl rfl (op_loadR1 rfl fone_int rfl) (by dsimp only [putD, List.set]) ?_) | (refine at_op (some 20) rfl rfl rfl rfl (op_loadP1 rfl fone_int rfl rfl) (by dsimp only [putD, List.set]) ?_)
      first | (refine at_op (some 21) rfl rfl rfl rfl (op_idxL rfl fsl_Sint (by first | decide | omega) (by first | assumption | exact idx_some (by assumption) | rfl) (by first | rfl | (simp [V.size]; done))) (by dsimp only [putD, List.set]) ?_) | (refine at_op (some 21) rfl rfl rfl rfl (opOK_un (op_idxL rfl fsl_Sint (by first | decide | omega) (by first | assumption | exact idx_some (by assumption) | rfl) (by first | rfl | (simp [V.size]; done)))) (by dsimp only [putD, List.set]) ?_) | (refine at_op (some 21) rfl rfl rfl rfl (op_idxA rfl fsl_Sint (by first | decide | omega) (by first | decide | omega)) (by dsimp only [putD, List.set]) ?_)
      first | (refine at_op (some 22) rfl rfl rfl rfl (op_loadR1 rfl fone_int rfl) (by dsimp only [putD, List.set]) ?_) | (refine at_op (some 22) rfl rfl rfl rfl (op_loadP1 rfl fone_int rfl rfl) (by dsimp only [putD, List.set]) ?_)
      refine at_mv 2 23 rfl rfl rfl (.inl rfl) rfl (by dsimp only [List.set]) ?_
      refine at_op (some 24) rfl rfl rfl rfl (op_binI rfl rfl) (by dsimp only [putD, List.set]) ?_
      refine at_mv 24 25 rfl rfl rfl (.inl rfl) rfl (by dsimp only [List.set]) ?_
      refine at_split 25 rfl (fun hb2 env' he => ?_) (fun hb2 env' he => ?_)
      · dsimp only [List.set] at he; subst he
        refine at_mv 8 26 rfl rfl rfl (.inl rfl) rfl (by dsimp only [List.set]) ?_
        refine at_op (some 27) rfl rfl rfl rfl (op_un rfl rfl) (by dsimp only [putD, List.set]) ?_
        refine at_mv 27 28 rfl rfl rfl (.inl rfl) rfl (by dsimp only [List.set]) ?_
        refine at_split 28 rfl (fun hb3 env' he => ?_) (fun hb3 env' he => ?_)
        · dsimp only [List.set] at he; subst he
          refine at_opN (some 29) rfl rfl rfl (by dsimp only [putD, List.set]) ?_
          refine at_opN (some 30) rfl rfl rfl (by dsimp only [putD, List.set]) ?_
          refine at_opN (some 31) rfl rfl rfl (by dsimp only [putD, List.set]) ?_
          refine at_opN (some 32) rfl rfl rfl (by dsimp only [putD, List.set]) ?_
          refine at_opN (some 33) rfl rfl rfl (by dsimp only [putD, List.set]) ?_
          refine at_pkc true 28 34 rfl rfl rfl rfl rfl rfl (by dsimp only [constD]) (by dsimp only [List.set]) ?_
          refine at_mv 34 35 rfl rfl rfl (.inl rfl) rfl (by dsimp only [List.set]) ?_
          refine at_opN (some 36) rfl rfl rfl (by dsimp only [putD, List.set]) ?_
          refine at_opN (some 37) rfl rfl rfl (by dsimp only [putD, List.set]) ?_
          refine at_opN (some 38) rfl rfl rfl (by dsimp only [putD, List.set]) ?_
          refine at_opN (some 39) rfl rfl rfl (by dsimp only [putD, List.set]) ?_
          refine at_opN (some 40) rfl rfl rfl (by dsimp only [putD, List.set]) ?_
          refine at_opN (some 41) rfl rfl rfl (by dsimp only [putD, List.set]) ?_
          refine at_opN (some 42) rfl rfl rfl (by dsimp only [putD, List.set]) ?_
          refine at_opN (some 43) rfl rfl rfl (by dsimp only [putD, List.set]) ?_
          refine at_opN (some 44) rfl rfl rfl (by dsimp only [putD, List.set]) ?_
          refine at_opN (some 45) rfl rfl rfl (by dsimp only [putD, List.set]) ?_
          refine at_opN (some 46) rfl rfl rfl (by dsimp only [putD, List.set]) ?_
          refine at_opN (some 47) rfl rfl rfl (by dsimp only [putD, List.set]) ?_
          refine at_pkc true 35 48 rfl rfl rfl rfl rfl rfl (by dsimp only [constD]) (by dsimp only [List.set]) ?_
          refine at_pk true 25 48 49 rfl rfl rfl rfl rfl rfl rfl (by dsimp only [List.set]) ?_
          refine at_end rfl ?_
          refine at_true [1, 1, 0, 1, 0, 0, 1, 1, 0, 0, 1, 1, 0] [1, 1, 0, 1, 0, 0, 1, 1, 0, 0, 1, 1, 1] rfl rfl ?_
          refine at_region rfl ?_
          first | (refine at_op (some 50) rfl rfl rfl rfl (op_loadRA rfl fagg_api_Arc) (by dsimp only [putD, List.set]) ?_) | (refine at_op (some 50) rfl rfl rfl rfl (op_loadPA rfl fagg_api_Arc rfl (by first | decide | simp) rfl) (by dsimp only [putD, List.set]) ?_)
          refine at_stA 7 (.tmp 50) rfl rfl rfl rfl rfl (ev_tmp rfl) rfl fagg_api_Arc rfl rfl (by first | decide | simp | (simp; omega)) (by dsimp only [List.set, List.append, List.cons_append, List.nil_append, cellsD, List.map, repl, List.length, Nat.reduceAdd, if_true, ↓reduceIte]; first | done | rfl) ?_
          refine at_mc 8 rfl rfl rfl (.inr rfl) (by dsimp only [constD]) (by dsimp only [List.set]) ?_
          refine at_end rfl ?_
          refine run_blk ?_
          refine at_region rfl ?_
          refine at_op (some 51) rfl rfl rfl rfl (op_binI rfl rfl) (by dsimp only [putD, List.set]) ?_
          rw [wrap_succ (by omega)]
          refine at_mv 51 14 rfl rfl rfl (.inl rfl) rfl (by dsimp only [List.set]) ?_
          refine at_end rfl ?_
          first | exact run_wk (.keep (.keep (.keep (.drop (.drop (.drop (.keep (.keep (.keep (.drop (.drop (.drop (.keep (.keep (.keep (.drop (.drop (.drop (.drop (.drop (.drop (.drop (.drop (.drop (.drop (.drop (.drop (.drop (.drop (.drop (.drop (.drop (.drop (.drop (.drop (.drop (.drop (.drop (.drop (.drop (.drop (.drop (.drop (.drop (.drop (.drop (.drop (.drop (.drop (.drop (.drop (.drop (.drop .nil))))))))))))))))))))))))))))))))))))))))))))))))))))) (ih _ (by omega) (i + 1) true a rfl (by first | exact hT | (rw [hT, if_pos (by rw [hbe]; simp_all)]))) | exact run_wk (.keep (.keep (.keep (.drop (.drop (.drop (.keep (.keep (.keep (.drop (.drop (.drop (.keep (.keep (.keep (.drop (.drop (.drop (.drop (.drop (.drop (.drop (.drop (.drop (.drop (.drop (.drop (.drop (.drop (.drop (.drop (.drop (.drop (.drop (.drop (.drop (.drop (.drop (.drop (.drop (.drop (.drop (.drop (.drop (.drop (.drop (.drop (.drop (.drop (.drop (.drop (.drop (.drop .nil))))))))))))))))))))))))))))))))))))))))))))))))))))) (ih _ (by omega) (i + 1) f b rfl (by first | exact hT | (rw [hT, if_neg (by rw [hbe]; simp_all)])))
        · dsimp only [List.set] at he; subst he
          first | (refine at_op (some 29) rfl rfl rfl rfl (op_fieldP rfl ffld0_api_Arc (by decide)) (by dsimp only [putD, List.set]) ?_) | (refine at_op (some 29) rfl rfl rfl rfl (op_fieldR rfl ffld0_api_Arc (by decide) (by decide) rfl) (by dsimp only [putD, List.set]) ?_)
          first | (refine at_op (some 30) rfl rfl rfl rfl (op_loadR1 rfl fone_int rfl) (by dsimp only [putD, List.set]) ?_) | (refine at_op (some 30) rfl rfl rfl rfl (op_loadP1 rfl fone_int rfl rfl) (by dsimp only [putD, List.set]) ?_)
          first | (refine at_op (some 31) rfl rfl rfl rfl (op_fieldP rfl ffld0_api_Arc (by decide)) (by dsimp only [putD, List.set]) ?_) | (refine at_op (some 31) rfl rfl rfl rfl (op_fieldR rfl ffld0_api_Arc (by decide) (by decide) rfl) (by dsimp only [putD, List.set]) ?_)
          first | (refine at_op (some 32) rfl rfl rfl rfl (op_loadR1 rfl fone_int rfl) (by dsimp only [putD, List.set]) ?_) | (refine at_op (some 32) rfl rfl rfl rfl (op_loadP1 rfl fone_int rfl rfl) (by dsimp only [putD, List.set]) ?_)
          refine at_op (some 33) rfl rfl rfl rfl (op_binI rfl rfl) (by dsimp only [putD, List.set]) ?_
          refine at_pk false 28 33 34 rfl rfl rfl rfl rfl rfl rfl (by dsimp only [List.set]) ?_
          refine at_mv 34 35 rfl rfl rfl (.inl rfl) rfl (by dsimp only [List.set]) ?_
          refine at_split 35 rfl (fun hb4 env' he => ?_) (fun hb4 env' he => ?_)
          · dsimp only [List.set] at he; subst he
            refine at_opN (some 36) rfl rfl rfl (by dsimp only [putD, List.set]) ?_
            refine at_opN (some 37) rfl rfl rfl (by dsimp only [putD, List.set]) ?_
            refine at_opN (some 38) rfl rfl rfl (by dsimp only [putD, List.set]) ?_
            refine at_opN (some 39) rfl rfl rfl (by dsimp only [putD, List.set]) ?_
            refine at_opN (some 40) rfl rfl rfl (by dsimp only [putD, List.set]) ?_
            refine at_opN (some 41) rfl rfl rfl (by dsimp only [putD, List.set]) ?_
            refine at_opN (some 42) rfl rfl rfl (by dsimp only [putD, List.set]) ?_
            refine at_opN (some 43) rfl rfl rfl (by dsimp only [putD, List.set]) ?_
            refine at_opN (some 44) rfl rfl rfl (by dsimp only [putD, List.set]) ?_
            refine at_opN (some 45) rfl rfl rfl (by dsimp only [putD, List.set]) ?_
            refine at_opN (some 46) rfl rfl rfl (by dsimp only [putD, List.set]) ?_
            refine at_opN (some 47) rfl rfl rfl (by dsimp only [putD, List.set]) ?_
            refine at_pkc true 35 48 rfl rfl rfl rfl rfl rfl (by dsimp only [constD]) (by dsimp only [List.set]) ?_
            refine at_pk true 25 48 49 rfl rfl rfl rfl rfl rfl rfl (by dsimp only [List.set]) ?_
            refine at_end rfl ?_
            refine at_true [1, 1, 0, 1, 0, 0, 1, 1, 0, 0, 1, 1, 0] [1, 1, 0, 1, 0, 0, 1, 1, 0, 0, 1, 1, 1] rfl rfl ?_
            refine at_region rfl ?_
            first | (refine at_op (some 50) rfl rfl rfl rfl (op_loadRA rfl fagg_api_Arc) (by dsimp only [putD, List.set]) ?_) | (refine at_op (some 50) rfl rfl rfl rfl (op_loadPA rfl fagg_api_Arc rfl (by first | decide | simp) rfl) (by dsimp only [putD, List.set]) ?_)
            refine at_stA 7 (.tmp 50) rfl rfl rfl rfl rfl (ev_tmp rfl) rfl fagg_api_Arc rfl rfl (by first | decide | simp | (simp; omega)) (by dsimp only [List.set, List.append, List.cons_append, List.nil_append, cellsD, List.map, repl, List.length, Nat.reduceAdd, if_true, ↓reduceIte]; first | done | rfl) ?_
            refine at_mc 8 rfl rfl rfl (.inr rfl) (by dsimp only [constD]) (by dsimp only [List.set]) ?_
            refine at_end rfl ?_
            refine run_blk ?_
            refine at_region rfl ?_
            refine at_op (some 51) rfl rfl rfl rfl (op_binI rfl rfl) (by dsimp only [putD, List.set]) ?_
            rw [wrap_succ (by omega)]
            refine at_mv 51 14 rfl rfl rfl (.inl rfl) rfl (by dsimp only [List.set]) ?_
            refine at_end rfl ?_
            first | exact run_wk (.keep (.keep (.keep (.drop (.drop (.drop (.keep (.keep (.keep (.drop (.drop (.drop (.keep (.keep (.keep (.drop (.drop (.drop (.drop (.drop (.drop (.drop (.drop (.drop (.drop (.drop (.drop (.drop (.drop (.drop (.drop (.drop (.drop (.drop (.drop (.drop (.drop (.drop (.drop (.drop (.drop (.drop (.drop (.drop (.drop (.drop (.drop (.drop (.drop (.drop (.drop (.drop (.drop .nil))))))))))))))))))))))))))))))))))))))))))))))))))))) (ih _ (by omega) (i + 1) true a rfl (by first | exact hT | (rw [hT, if_pos (by rw [hbe]; simp_all)]))) | exact run_wk (.keep (.keep (.keep (.drop (.drop (.drop (.keep (.keep (.keep (.drop (.drop (.drop (.keep (.keep (.keep (.drop (.drop (.drop (.drop (.drop (.drop (.drop (.drop (.drop (.drop (.drop (.drop (.drop (.drop (.drop (.drop (.drop (.drop (.drop (.drop (.drop (.drop (.drop (.drop (.drop (.drop (.drop (.drop (.drop (.drop (.drop (.drop (.drop (.drop (.drop (.drop (.drop (.drop .nil))))))))))))))))))))))))))))))))))))))))))))))))))))) (ih _ (by omega) (i + 1) f b rfl (by first | exact hT | (rw [hT, if_neg (by rw [hbe]; simp_all)])))
          · dsimp only [List.set] at he; subst he
            first | (refine at_op (some 36) rfl rfl rfl rfl (op_fieldP rfl ffld0_api_Arc (by decide)) (by dsimp only [putD, List.set]) ?_) | (refine at_op (some 36) rfl rfl rfl rfl (op_fieldR rfl ffld0_api_Arc (by decide) (by decide) rfl) (by dsimp only [putD, List.set]) ?_)
            first | (refine at_op (some 37) rfl rfl rfl rfl (op_loadR1 rfl fone_int rfl) (by dsimp only [putD, List.set]) ?_) | (refine at_op (some 37) rfl rfl rfl rfl (op_loadP1 rfl fone_int rfl rfl) (by dsimp only [putD, List.set]) ?_)
            first | (refine at_op (some 38) rfl rfl rfl rfl (op_fieldP rfl ffld0_api_Arc (by decide)) (by dsimp only [putD, List.set]) ?_) | (refine at_op (some 38) rfl rfl rfl rfl (op_fieldR rfl ffld0_api_Arc (by decide) (by decide) rfl) (by dsimp only [putD, List.set]) ?_)
            first | (refine at_op (some 39) rfl rfl rfl rfl (op_loadR1 rfl fone_int rfl) (by dsimp only [putD, List.set]) ?_) | (refine at_op (some 39) rfl rfl rfl rfl (op_loadP1 rfl fone_int rfl rfl) (by dsimp only [putD, List.set]) ?_)
            refine at_op (some 40) rfl rfl rfl rfl (op_binI rfl rfl) (by dsimp only [putD, List.set]) ?_
            refine at_mv 40 41 rfl rfl rfl (.inl rfl) rfl (by dsimp only [List.set]) ?_
            refine at_split 41 rfl (fun hb5 env' he => ?_) (fun hb5 env' he => ?_)
            · dsimp only [List.set] at he; subst he
              first | (refine at_op (some 42) rfl rfl rfl rfl (op_fieldP rfl ffld1_api_Arc (by decide)) (by dsimp only [putD, List.set]) ?_) | (refine at_op (some 42) rfl rfl rfl rfl (op_fieldR rfl ffld1_api_Arc (by decide) (by decide) rfl) (by dsimp only [putD, List.set]) ?_)
              first | (refine at_op (some 43) rfl rfl rfl rfl (op_loadR1 rfl fone_int rfl) (by dsimp only [putD, List.set]) ?_) | (refine at_op (some 43) rfl rfl rfl rfl (op_loadP1 rfl fone_int rfl rfl) (by dsimp only [putD, List.set]) ?_)
              first | (refine at_op (some 44) rfl rfl rfl rfl (op_fieldP rfl ffld1_api_Arc (by decide)) (by dsimp only [putD, List.set]) ?_) | (refine at_op (some 44) rfl rfl rfl rfl (op_fieldR rfl ffld1_api_Arc (by decide) (by decide) rfl) (by dsimp only [putD, List.set]) ?_)
              first | (refine at_op (some 45) rfl rfl rfl rfl (op_loadR1 rfl fone_int rfl) (by dsimp only [putD, List.set]) ?_) | (refine at_op (some 45) rfl rfl rfl rfl (op_loadP1 rfl fone_int rfl rfl) (by dsimp only [putD, List.set]) ?_)
              refine at_op (some 46) rfl rfl rfl rfl (op_binI rfl rfl) (by dsimp only [putD, List.set]) ?_
              refine at_pk true 41 46 47 rfl rfl rfl rfl rfl rfl rfl (by dsimp only [List.set]) ?_
              refine at_pk false 35 47 48 rfl rfl rfl rfl rfl rfl rfl (by dsimp only [List.set]) ?_
              refine at_pk true 25 48 49 rfl rfl rfl rfl rfl rfl rfl (by dsimp only [List.set]) ?_
              refine at_end rfl ?_
              refine at_cond [1, 1, 0, 1, 0, 0, 1, 1, 0, 0, 1, 1, 0] [1, 1, 0, 1, 0, 0, 1, 1, 0, 0, 1, 1, 1] rfl rfl (fun hc6 => ?_) (fun hc6 => ?_)
              · skip
                have hq : better d x f b a = true := by rw [hbe]; simp_all
                rw [if_pos hq] at hT
                refine at_region rfl ?_
                first | (refine at_op (some 50) rfl rfl rfl rfl (op_loadRA rfl fagg_api_Arc) (by dsimp only [putD, List.set]) ?_) | (refine at_op (some 50) rfl rfl rfl rfl (op_loadPA rfl fagg_api_Arc rfl (by first | decide | simp) rfl) (by dsimp only [putD, List.set]) ?_)
                refine at_stA 7 (.tmp 50) rfl rfl rfl rfl rfl (ev_tmp rfl) rfl fagg_api_Arc rfl rfl (by first | decide | simp | (simp; omega)) (by dsimp only [List.set, List.append, List.cons_append, List.nil_append, cellsD, List.map, repl, List.length, Nat.reduceAdd, if_true, ↓reduceIte]; first | done | rfl) ?_
                refine at_mc 8 rfl rfl rfl (.inr rfl) (by dsimp only [constD]) (by dsimp only [List.set]) ?_
                refine at_end rfl ?_
                refine run_blk ?_
                refine at_region rfl ?_
                refine at_op (some 51) rfl rfl rfl rfl (op_binI rfl rfl) (by dsimp only [putD, List.set]) ?_
                rw [wrap_succ (by omega)]
                refine at_mv 51 14 rfl rfl rfl (.inl rfl) rfl (by dsimp only [List.set]) ?_
                refine at_end rfl ?_
                first | exact run_wk (.keep (.keep (.keep (.drop (.drop (.drop (.keep (.keep (.keep (.drop (.drop (.drop (.keep (.keep (.keep (.drop (.drop (.drop (.drop (.drop (.drop (.drop (.drop (.drop (.drop (.drop (.drop (.drop (.drop (.drop (.drop (.drop (.drop (.drop (.drop (.drop (.drop (.drop (.drop (.drop (.drop (.drop (.drop (.drop (.drop (.drop (.drop (.drop (.drop (.drop (.drop (.drop (.drop .nil))))))))))))))))))))))))))))))))))))))))))))))))))))) (ih _ (by omega) (i + 1) true a rfl (by first | exact hT | (rw [hT, if_pos (by rw [hbe]; simp_all)]))) | exact run_wk (.keep (.keep (.keep (.drop (.drop (.drop (.keep (.keep (.keep (.drop (.drop (.drop (.keep (.keep (.keep (.drop (.drop (.drop (.drop (.drop (.drop (.drop (.drop (.drop (.drop (.drop (.drop (.drop (.drop (.drop (.drop (.drop (.drop (.drop (.drop (.drop (.drop (.drop (.drop (.drop (.drop (.drop (.drop (.drop (.drop (.drop (.drop (.drop (.drop (.drop (.drop (.drop (.drop .nil))))))))))))))))))))))))))))))))))))))))))))))))))))) (ih _ (by omega) (i + 1) f b rfl (by first | exact hT | (rw [hT, if_neg (by rw [hbe]; simp_all)])))
              · skip
                have hq : ¬ better d x f b a = true := by rw [hbe]; simp_all
                rw [if_neg hq] at hT
                refine at_skip rfl ?_
                refine run_blk ?_
                refine at_region rfl ?_
                refine at_op (some 51) rfl rfl rfl rfl (op_binI rfl rfl) (by dsimp only [putD, List.set]) ?_
                rw [wrap_succ (by omega)]
                refine at_mv 51 14 rfl rfl rfl (.inl rfl) rfl (by dsimp only [List.set]) ?_
                refine at_end rfl ?_
                first | exact run_wk (.keep (.keep (.keep (.drop (.drop (.drop (.keep (.keep (.keep (.drop (.drop (.drop (.keep (.keep (.keep (.drop (.drop (.drop (.drop (.drop (.drop (.drop (.drop (.drop (.drop (.drop (.drop (.drop (.drop (.drop (.drop (.drop (.drop (.drop (.drop (.drop (.drop (.drop (.drop (.drop (.drop (.drop (.drop (.drop (.drop (.drop (.drop (.drop (.drop (.drop (.drop (.drop (.drop .nil))))))))))))))))))))))))))))))))))))))))))))))))))))) (ih _ (by omega) (i + 1) true a rfl (by first | exact hT | (rw [hT, if_pos (by rw [hbe]; simp_all)]))) | exact run_wk (.keep (.keep (.keep (.drop (.drop (.drop (.keep (.keep (.keep (.drop (.drop (.drop (.keep (.keep (.keep (.drop (.drop (.drop (.drop (.drop (.drop (.drop (.drop (.drop (.drop (.drop (.drop (.drop (.drop (.drop (.drop (.drop (.drop (.drop (.drop (.drop (.drop (.drop (.drop (.drop (.drop (.drop (.drop (.drop (.drop (.drop (.drop (.drop (.drop (.drop (.drop (.drop (.drop .nil))))))))))))))))))))))))))))))))))))))))))))))))))))) (ih _ (by omega) (i + 1) f b rfl (by first | exact hT | (rw [hT, if_neg (by rw [hbe]; simp_all)])))
            · dsimp only [List.set] at he; subst he
              refine at_opN (some 42) rfl rfl rfl (by dsimp only [putD, List.set]) ?_
              refine at_opN (some 43) rfl rfl rfl (by dsimp only [putD, List.set]) ?_
              refine at_opN (some 44) rfl rfl rfl (by dsimp only [putD, List.set]) ?_
              refine at_opN (some 45) rfl rfl rfl (by dsimp only [putD, List.set]) ?_
              refine at_opN (some 46) rfl rfl rfl (by dsimp only [putD, List.set]) ?_
              refine at_pkc false 41 47 rfl rfl rfl rfl rfl rfl (by dsimp only [constD]) (by dsimp only [List.set]) ?_
              refine at_pk false 35 47 48 rfl rfl rfl rfl rfl rfl rfl (by dsimp only [List.set]) ?_
              refine at_pk true 25 48 49 rfl rfl rfl rfl rfl rfl rfl (by dsimp only [List.set]) ?_
              refine at_end rfl ?_
              refine at_false [1, 1, 0, 1, 0, 0, 1, 1, 0, 0, 1, 1, 0] [1, 1, 0, 1, 0, 0, 1, 1, 0, 0, 1, 1, 1] rfl rfl ?_
              refine at_skip rfl ?_
              refine run_blk ?_
              refine at_region rfl ?_
              refine at_op (some 51) rfl rfl rfl rfl (op_binI rfl rfl) (by dsimp only [putD, List.set]) ?_
              rw [wrap_succ (by omega)]
              refine at_mv 51 14 rfl rfl rfl (.inl rfl) rfl (by dsimp only [List.set]) ?_
              refine at_end rfl ?_
              first | exact run_wk (.keep (.keep (.keep (.drop (.drop (.drop (.keep (.keep (.keep (.drop (.drop (.drop (.keep (.keep (.keep (.drop (.drop (.drop (.drop (.drop (.drop (.drop (.drop (.drop (.drop (.drop (.drop (.drop (.drop (.drop (.drop (.drop (.drop (.drop (.drop (.drop (.drop (.drop (.drop (.drop (.drop (.drop (.drop (.drop (.drop (.drop (.drop (.drop (.drop (.drop (.drop (.drop (.drop .nil))))))))))))))))))))))))))))))))))))))))))))))))))))) (ih _ (by omega) (i + 1) true a rfl (by first | exact hT | (rw [hT, if_pos (by rw [hbe]; simp_all)]))) | exact run_wk (.keep (.keep (.keep (.drop (.drop (.drop (.keep (.keep (.keep (.drop (.drop (.drop (.keep (.keep (.keep (.drop (.drop (.drop (.drop (.drop (.drop (.drop (.drop (.drop (.drop (.drop (.drop (.drop (.drop (.drop (.drop (.drop (.drop (.drop (.drop (.drop (.drop (.drop (.drop (.drop (.drop (.drop (.drop (.drop (.drop (.drop (.drop (.drop (.drop (.drop (.drop (.drop (.drop .nil))))))))))))))))))))))))))))))))))))))))))))))))))))) (ih _ (by omega) (i + 1) f b rfl (by first | exact hT | (rw [hT, if_neg (by rw [hbe]; simp_all)])))
      · dsimp only [List.set] at he; subst he
        refine at_opN (some 26) rfl rfl rfl (by dsimp only [putD, List.set]) ?_
        refine at_opN (some 27) rfl rfl rfl (by dsimp only [putD, List.set]) ?_
        refine at_opN (some 28) rfl rfl rfl (by dsimp only [putD, List.set]) ?_
        refine at_opN (some 29) rfl rfl rfl (by dsimp only [putD, List.set]) ?_
        refine at_opN (some 30) rfl rfl rfl (by dsimp only [putD, List.set]) ?_
        refine at_opN (some 31) rfl rfl rfl (by dsimp only [putD, List.set]) ?_
        refine at_opN (some 32) rfl rfl rfl (by dsimp only [putD, List.set]) ?_
        refine at_opN (some 33) rfl rfl rfl (by dsimp only [putD, List.set]) ?_
        refine at_opN (some 34) rfl rfl rfl (by dsimp only [putD, List.set]) ?_
        refine at_opN (some 35) rfl rfl rfl (by dsimp only [putD, List.set]) ?_
        refine at_opN (some 36) rfl rfl rfl (by dsimp only [putD, List.set]) ?_
        refine at_opN (some 37) rfl rfl rfl (by dsimp only [putD, List.set]) ?_
        refine at_opN (some 38) rfl rfl rfl (by dsimp only [putD, List.set]) ?_
        refine at_opN (some 39) rfl rfl rfl (by dsimp only [putD, List.set]) ?_
        refine at_opN (some 40) rfl rfl rfl (by dsimp only [putD, List.set]) ?_
        refine at_opN (some 41) rfl rfl rfl (by dsimp only [putD, List.set]) ?_
        refine at_opN (some 42) rfl rfl rfl (by dsimp only [putD, List.set]) ?_
        refine at_opN (some 43) rfl rfl rfl (by dsimp only [putD, List.set]) ?_
        refine at_opN (some 44) rfl rfl rfl (by dsimp only [putD, List.set]) ?_
        refine at_opN (some 45) rfl rfl rfl (by dsimp only [putD, List.set]) ?_
        refine at_opN (some 46) rfl rfl rfl (by dsimp only [putD, List.set]) ?_
        refine at_opN (some 47) rfl rfl rfl (by dsimp only [putD, List.set]) ?_
        refine at_opN (some 48) rfl rfl rfl (by dsimp only [putD, List.set]) ?_
        refine at_pkc false 25 49 rfl rfl rfl rfl rfl rfl (by dsimp only [constD]) (by dsimp only [List.set]) ?_
        refine at_end rfl ?_
        refine at_false [1, 1, 0, 1, 0, 0, 1, 1, 0, 0, 1, 1, 0] [1, 1, 0, 1, 0, 0, 1, 1, 0, 0, 1, 1, 1] rfl rfl ?_
        refine at_skip rfl ?_
        refine run_blk ?_
        refine at_region rfl ?_
        refine at_op (some 51) rfl rfl rfl rfl (op_binI rfl rfl) (by dsimp only [putD, List.set]) ?_
        rw [wrap_succ (by omega)]
        refine at_mv 51 14 rfl rfl rfl (.inl rfl) rfl (by dsimp only [List.set]) ?_
        refine at_end rfl ?_
        first | exact run_wk (.keep (.keep (.keep (.drop (.drop (.drop (.keep (.keep (.keep (.drop (.drop (.drop (.keep (.keep (.keep (.drop (.drop (.drop (.drop (.drop (.drop (.drop (.drop (.drop (.drop (.drop (.drop (.drop (.drop (.drop (.drop (.drop (.drop (.drop (.drop (.drop (.drop (.drop (.drop (.drop (.drop (.drop (.drop (.drop (.drop (.drop (.drop (.drop (.drop (.drop (.drop (.drop (.drop .nil))))))))))))))))))))))))))))))))))))))))))))))))))))) (ih _ (by omega) (i + 1) true a rfl (by first | exact hT | (rw [hT, if_pos (by rw [hbe]; simp_all)]))) | exact run_wk (.keep (.keep (.keep (.drop (.drop (.drop (.keep (.keep (.keep (.drop (.drop (.drop (.keep (.keep (.keep (.drop (.drop (.drop (.drop (.drop (.drop (.drop (.drop (.drop (.drop (.drop (.drop (.drop (.drop (.drop (.drop (.drop (.drop (.drop (.drop (.drop (.drop (.drop (.drop (.drop (.drop (.drop (.drop (.drop (.drop (.drop (.drop (.drop (.drop (.drop (.drop (.drop (.drop .nil))))))))))))))))))))))))))))))))))))))))))))))))))))) (ih _ (by omega) (i + 1) f b rfl (by first | exact hT | (rw [hT, if_neg (by rw [hbe]; simp_all)])))
    · skip
      have hge : l.length ≤ i := by simpa using hc1
      rw [List.drop_of_length_le hge] at hT
      simp only [leastM] at hT
      refine at_exit rfl rfl ?_
      refine at_seq [1, 1, 1, 0] [1, 1, 1, 1] rfl ?_
      refine at_region rfl ?_
      first | (refine at_op (some 52) rfl rfl rfl rfl (op_loadRA rfl fagg_api_Arc) (by dsimp only [putD, List.set]) ?_) | (refine at_op (some 52) rfl rfl rfl rfl (op_loadPA rfl fagg_api_Arc rfl (by first | decide | simp) rfl) (by dsimp only [putD, List.set]) ?_)
      refine at_stA 6 (.tmp 52) rfl rfl rfl rfl rfl (ev_tmp rfl) rfl fagg_api_Arc rfl rfl (by first | decide | simp | (simp; omega)) (by dsimp only [List.set, List.append, List.cons_append, List.nil_append, cellsD, List.map, repl, List.length, Nat.reduceAdd, if_true, ↓reduceIte]; first | done | rfl) ?_
      refine at_end rfl ?_
      refine at_ret rfl ?_
      rw [hT]
      exact ret_arc rfl fagg_api_Arc rfl

set_option maxRecDepth 20000 in
theorem least_spec (l : List Arc) (hl : l.length ≤ 1000) (d : List Int) (x : Int) (hd : ∀ a ∈ l, 0 ≤ a.2 ∧ a.2.toNat < d.length) : FSpec PP 42 [.v (vArcs l), dl d, di x] σ0 (.v (vArc (leastM d x l false (0, 0)))) σ0 := by
  refine spec_at cLeast Tryz.func42 rfl (by kernel_rfl) (by first | decide | simp) _ (by dsimp only [Tryz.f42, List.length, Nat.reduceAdd, Nat.reduceSub, List.replicate, List.cons_append, List.nil_append]) ?_
  refine at_seq [0] [1] rfl ?_
  refine at_region rfl ?_
  refine at_opS (some 6) rfl rfl rfl rfl (op_alloc rfl fzero_api_Arc) (by dsimp only [putD, List.set]) (by dsimp only [List.set, List.append, List.cons_append, List.nil_append, cellsD, List.map, repl, List.length, Nat.reduceAdd, if_true, ↓reduceIte]; first | done | rfl) ?_
  refine at_end rfl ?_
  refine at_seq [1, 0] [1, 1] rfl ?_
  refine at_region rfl ?_
  refine at_op (some 11) rfl rfl rfl rfl (op_build rfl fbld_api_Arc rfl rfl) (by dsimp only [putD, List.set]) ?_
  try dsimp only [V.cellsV, List.take, List.drop, List.cons_append, List.nil_append, List.length]
  refine at_opS (some 7) rfl rfl rfl rfl (op_alloc rfl fzero_api_Arc) (by dsimp only [putD, List.set]) (by dsimp only [List.set, List.append, List.cons_append, List.nil_append, cellsD, List.map, repl, List.length, Nat.reduceAdd, if_true, ↓reduceIte]; first | done | rfl) ?_
  refine at_stA 7 (.tmp 11) rfl rfl rfl rfl rfl (ev_tmp rfl) rfl fagg_api_Arc rfl rfl (by first | decide | simp | (simp; omega)) (by dsimp only [List.set, List.append, List.cons_append, List.nil_append, cellsD, List.map, repl, List.length, Nat.reduceAdd, if_true, ↓reduceIte]; first | done | rfl) ?_
  refine at_mc 8 rfl rfl rfl (.inr rfl) (by dsimp only [constD]) (by dsimp only [List.set]) ?_
  refine at_end rfl ?_
  refine at_seq [1, 1, 0] [1, 1, 1] rfl ?_
  refine at_seq [1, 1, 0, 0] [1, 1, 0, 1] rfl ?_
  refine at_region rfl ?_
  refine at_mv 0 12 rfl rfl rfl (.inl rfl) rfl (by dsimp only [List.set]) ?_
  first | (refine at_op (some 13) rfl rfl rfl rfl (op_lenL rfl fu_Sapi_Arc) (by dsimp only [putD, List.set]) ?_) | (refine at_op (some 13) rfl rfl rfl rfl (opOK_un (op_lenL rfl fu_Sapi_Arc)) (by dsimp only [putD, List.set]) ?_) | (refine at_op (some 13) rfl rfl rfl rfl (op_lenA rfl fu_Sapi_Arc) (by dsimp only [putD, List.set]) ?_)
  simp only [List.length_map]
  refine at_mc 14 rfl rfl rfl (.inl rfl) (by dsimp only [constD]) (by dsimp only [List.set]) ?_
  refine at_end rfl ?_
  refine at_block [1, 1, 0, 1, 0] 0 rfl ?_
  refine at_loop [1, 1, 0, 1, 0, 0] rfl ?_
  try simp only [List.length_map, List.length_nil, Int.toNat_natCast]
  exact run_wk (.keep (.keep (.keep (.drop (.drop (.drop (.keep (.keep (.keep (.drop (.drop (.drop (.keep (.keep (.keep (.drop (.drop (.drop (.drop (.drop (.drop (.drop (.drop (.drop (.drop (.drop (.drop (.drop (.drop (.drop (.drop (.drop (.drop (.drop (.drop (.drop (.drop (.drop (.drop (.drop (.drop (.drop (.drop (.drop (.drop (.drop (.drop (.drop (.drop (.drop (.drop (.drop (.drop .nil))))))))))))))))))))))))))))))))))))))))))))))))))))) (least_loop l hl d x hd _ _ 0 false (0, 0) rfl (by rw [List.drop_zero]))

end Go.Proofs.YtmdipbhjhkckjaaGreat

namespace Go.Proofs.YtmdipbhjhkckjaaGreat
open Go.Dv

abbrev mulF : FuncId := 116
noncomputable def mulOK (n : Nat) : Bool := match Ci.runD2 PP (fun _ => none) 30 mulF [.int .u64 1, .int .u64 (n : Int)] with
  | some (d1, d2) => Ci.eqV d1 (.int .u64 0) && Ci.eqV d2 (.int .u64 (n : Int))
  | none => false
theorem mul_run : ([1, 2, 3, 4, 5, 6].all mulOK) = true := by kernel_rfl
theorem mul_spec (n : Nat) (h0 : 1 ≤ n) (h6 : n ≤ 6) : FSpec PP mulF [.v (.int .u64 1), .v (.int .u64 (n : Int))] σ0 (.tup [.v (.int .u64 0), .v (.int .u64 (n : Int))]) σ0 := by
  have hm : n ∈ [1, 2, 3, 4, 5, 6] := by simp; omega
  have h := List.all_eq_true.1 mul_run n hm
  unfold mulOK at h
  split at h
  · rename_i d1 d2 hr
    simp only [Bool.and_eq_true] at h
    rw [Ci.eqV_eq _ _ h.1, Ci.eqV_eq _ _ h.2] at hr
    exact (Ci.runD2_T (Ci.tab0 PP) mixed hr).f2 rfl rfl
  · simp at h

def repCs (n k : Nat) : List D := List.replicate k (di (-1)) ++ List.replicate (n - k) (di 0)
section
variable {P : Program} {o : Oper} {σ : St}
theorem op_sliceFrom {t : TypeId} {x lo : Operand} (ho : o.op = .slice t x (some lo) none none) {e : TypeId} {by' : Nat} {z : Option Value} (hs : slTy P t = some (e, 1, by', z)) {q len k : Nat} (hk : k < len) :
    OpOK P o [.arr q 0 len, di ↑k] σ (.arr q k (len - k)) σ := by
  have := op_sliceArr (P := P) (o := o) (σ := σ) ho hs (q := q) (off := 0) (len := len) (some (.i64, (k : Int))) none rfl rfl (l' := k) (h' := len) (by simp [sliceI]; omega) hk
  rw [Nat.zero_add] at this; exact this
theorem op_sliceTo {t : TypeId} {x hi : Operand} (ho : o.op = .slice t x none (some hi) none) {e : TypeId} {by' : Nat} {z : Option Value} (hs : slTy P t = some (e, 1, by', z)) {q len k : Nat} (hk : k < len) :
    OpOK P o [.arr q 0 len, di ↑k] σ (.arr q 0 k) σ := by
  have := op_sliceArr (P := P) (o := o) (σ := σ) ho hs (q := q) (off := 0) (len := len) none (some (.i64, (k : Int))) rfl rfl (l' := 0) (h' := k) (by simp [sliceI]; omega) (by omega)
  rw [Nat.zero_add, Nat.sub_zero] at this; exact this
theorem op_copyRep {x y : Operand} {t : TypeId} (ho : o.op = .call { callee := .builtin .copy, args := #[x, y], argTypes := #[t, t] }) {e : TypeId} {by' : Nat} {z : Option Value} (hs : slTy P t = some (e, 1, by', z)) {n k : Nat} (hk : k < n) :
    OpOK P o [.arr 0 k (n - k), .arr 0 0 k] ⟨[some (repCs n k)], []⟩ (di ↑(min k (n - k))) ⟨[some (repCs n (k + min k (n - k)))], []⟩ := by
  have hl : (repCs n k).length = n := by simp [repCs]; omega
  have h1 : min k (n - k) ≤ n - k := Nat.min_le_right _ _
  have h2 : min k (n - k) ≤ k := Nat.min_le_left _ _
  have := op_copyA (P := P) (o := o) (σ := ⟨[some (repCs n k)], []⟩) ho hs (q := 0) (off := k) (len := n - k) (off2 := 0) (len2 := k) (k := min k (n - k)) (cs := repCs n k) rfl rfl (by omega) (by omega)
  have e : (repCs n k).take k ++ ((repCs n k).drop 0).take (min k (n - k)) ++ (repCs n k).drop (k + min k (n - k)) = repCs n (k + min k (n - k)) := by
    generalize min k (n - k) = j at h1 h2 ⊢
    simp only [repCs, List.drop_zero]
    rw [List.take_append_of_le_length (by simp), List.take_replicate, Nat.min_self, List.take_append_of_le_length (by simpa using h2), List.take_replicate, Nat.min_eq_left h2, List.drop_append, List.drop_replicate, List.drop_replicate, List.length_replicate]
    rw [show k - (k + j) = 0 by omega, List.replicate_zero, List.nil_append, List.replicate_append_replicate, show k + j - k = j by omega, show n - k - j = n - (k + j) by omega]
  rw [e] at this
  exact this
end
theorem pls_rep (n : Nat) : D.pls (List.replicate n (di (-1))) = true := by
  induction n with
  | zero => rfl
  | succ n ih => rw [List.replicate_succ]; simp only [D.pls, ih, Bool.and_true]; rfl
theorem wrap_u {n : Nat} (h : n ≤ 1000) : IntKind.u64.wrap (n : Int) = n := by
  have : ∀ m : Nat, m ≤ 1000 → IntKind.u64.wrap (m : Int) = m := by decide +kernel
  exact this n h
theorem rep_start {n : Nat} (_ : 1 ≤ n) : List.take 0 (List.replicate n (di 0)) ++ List.map D.v (List.take 1 [vi (-1)]) ++ List.drop 1 (List.replicate n (di 0)) = repCs n 1 := by
  simp [repCs]

noncomputable def cRep : Code := Tryz.f73.body.getD .skip
set_option maxRecDepth 20000 in
theorem rep_loop (n : Nat) (hn : n ≤ 100) (m : Nat) : ∀ (k : Nat), n - k = m → 1 ≤ k → k ≤ n → Run PP (fun env σ1 => ResOK PP Tryz.f73 env σ1 (.arr 0 0 n) ⟨[some (List.replicate n (di (-1)))], []⟩) [.lp (sub cRep [1, 1, 1, 1, 1, 1, 0, 0, 0]), .blk 0, .code (sub cRep [1, 1, 1, 1, 1, 1, 1])] (.undef :: .undef :: .undef :: .undef :: .undef :: .undef :: .undef :: (.arr 0 0 n) :: (di ↑k) :: .undef :: .undef :: .undef :: .undef :: .undef :: .undef :: .undef :: .undef :: .undef :: .undef :: .undef :: .undef :: .undef :: .undef :: .undef :: .undef :: .undef :: .undef :: .undef :: .undef :: .undef :: .undef :: .undef :: .undef :: .undef :: .undef :: .undef :: .undef :: .undef :: .undef :: .undef :: .undef :: .undef :: .undef :: .undef :: .undef :: .undef :: .undef :: .undef :: []) ⟨[some (repCs n k)], []⟩ := by
  induction m using Nat.strongRecOn with
  | _ m ih =>
    intro k hm hk1 hkn
    refine run_lp ?_
    refine at_seq [1, 1, 1, 1, 1, 1, 0, 0, 0, 0] [1, 1, 1, 1, 1, 1, 0, 0, 0, 1] rfl ?_
    refine at_seq [1, 1, 1, 1, 1, 1, 0, 0, 0, 0, 0] [1, 1, 1, 1, 1, 1, 0, 0, 0, 0, 1] rfl ?_
    refine at_region rfl ?_
    refine at_mv 8 34 rfl rfl rfl (.inl rfl) rfl (by dsimp only [List.set]) ?_
    refine at_mv 7 35 rfl rfl rfl (.inl rfl) rfl (by dsimp only [List.set]) ?_
    first | (refine at_op (some 36) rfl rfl rfl rfl (op_lenL rfl fu_Sint) (by dsimp only [putD, List.set]) ?_) | (refine at_op (some 36) rfl rfl rfl rfl (opOK_un (op_lenL rfl fu_Sint)) (by dsimp only [putD, List.set]) ?_) | (refine at_op (some 36) rfl rfl rfl rfl (op_lenA rfl fu_Sint) (by dsimp only [putD, List.set]) ?_)
    refine at_op (some 37) rfl rfl rfl rfl (op_binI rfl rfl) (by dsimp only [putD, List.set]) ?_
    refine at_end rfl ?_
    refine at_cond [1, 1, 1, 1, 1, 1, 0, 0, 0, 0, 1, 0] [1, 1, 1, 1, 1, 1, 0, 0, 0, 0, 1, 1] rfl rfl (fun hc1 => ?_) (fun hc1 => ?_)
    · skip
      have hlt : k < n := by simp at hc1; omega
      refine at_skip rfl ?_
      refine at_block [1, 1, 1, 1, 1, 1, 0, 0, 0, 1, 0] 1 rfl ?_
      refine at_draw mixed rfl [⟨[some (repCs n k)], []⟩, ⟨[some (repCs n (k + min k (n - k)))], []⟩] rfl ?_
      refine da_mv 8 38 rfl rfl rfl (.inl rfl) rfl (by dsimp only [List.set]) ?_
      refine da_mv 7 39 rfl rfl rfl (.inl rfl) rfl (by dsimp only [List.set]) ?_
      refine da_mv 8 40 rfl rfl rfl (.inl rfl) rfl (by dsimp only [List.set]) ?_
      refine da_quiet (some 41) rfl rfl rfl rfl (fun s hs => op_sliceFrom rfl fsl_Sint hlt) (by dsimp only [putD, List.set]) ?_
      refine da_mv 7 42 rfl rfl rfl (.inl rfl) rfl (by dsimp only [List.set]) ?_
      refine da_mv 8 43 rfl rfl rfl (.inl rfl) rfl (by dsimp only [List.set]) ?_
      refine da_quiet (some 44) rfl rfl rfl rfl (fun s hs => op_sliceTo rfl fsl_Sint hlt) (by dsimp only [putD, List.set]) ?_
      refine da_eff (some 45) rfl rfl rfl rfl rfl rfl (op_copyRep rfl fsl_Sint hlt) (by dsimp only [putD, List.set]) ?_
      refine da_quiet (some 46) rfl rfl rfl rfl (fun s hs => op_binI rfl rfl) (by dsimp only [putD, List.set]) ?_
      refine da_mv 46 8 rfl rfl rfl (.inr rfl) rfl (by dsimp only [List.set]) ?_
      refine da_end rfl ⟨by decide +kernel, _, rfl, ?_⟩
      refine run_blk ?_
      rw [wrap_id (by omega) (by omega), show (k : Int) + ((min k (n - k) : Nat) : Int) = ((k + min k (n - k) : Nat) : Int) by omega]
      exact run_wk (.drop (.drop (.drop (.drop (.drop (.drop (.drop (.keep (.keep (.drop (.drop (.drop (.drop (.drop (.drop (.drop (.drop (.drop (.drop (.drop (.drop (.drop (.drop (.drop (.drop (.drop (.drop (.drop (.drop (.drop (.drop (.drop (.drop (.drop (.drop (.drop (.drop (.drop (.drop (.drop (.drop (.drop (.drop (.drop (.drop (.drop (.drop (.drop .nil)))))))))))))))))))))))))))))))))))))))))))))))) (ih _ (by omega) (k + min k (n - k)) rfl (by omega) (by omega))
    · skip
      have hge : k = n := by simp at hc1; omega
      subst hge
      rw [show repCs k k = List.replicate k (di (-1)) by simp [repCs]]
      refine at_exit rfl rfl ?_
      refine at_seq [1, 1, 1, 1, 1, 1, 1, 0] [1, 1, 1, 1, 1, 1, 1, 1] rfl ?_
      refine at_region rfl ?_
      refine at_mv 7 47 rfl rfl rfl (.inl rfl) rfl (by dsimp only [List.set]) ?_
      refine at_mv 47 4 rfl rfl rfl (.inr rfl) rfl (by dsimp only [List.set]) ?_
      refine at_end rfl ?_
      refine at_ret rfl ?_
      exact res_okA (.tmp rfl .nil) 1 rfl (by simp) (fun i cs h => by cases i with | zero => (simp only [List.getElem?_cons_zero, Option.some.injEq] at h; subst h; exact pls_rep _) | succ i => simp at h) (List.Sublist.refl _) (by decide)

set_option maxRecDepth 20000 in
theorem rep_spec (n : Nat) (h0 : 1 ≤ n) (h6 : n ≤ 6) : FSpec PP 73 [dl [-1], di ↑n] σ0 (.arr 0 0 n) ⟨[some (List.replicate n (di (-1)))], []⟩ := by
  refine spec_at cRep Tryz.func73 rfl (by kernel_rfl) (by first | decide | simp) _ (by dsimp only [Tryz.f73, List.length, Nat.reduceAdd, Nat.reduceSub, List.replicate, List.cons_append, List.nil_append]) ?_
  refine at_seq [0] [1] rfl ?_
  refine at_region rfl ?_
  refine at_mc 4 rfl rfl rfl (.inr rfl) (by dsimp only [constD]) (by dsimp only [List.set]) ?_
  refine at_end rfl ?_
  refine at_seq [1, 0] [1, 1] rfl ?_
  refine at_seq [1, 0, 0] [1, 0, 1] rfl ?_
  refine at_region rfl ?_
  refine at_mv 1 9 rfl rfl rfl (.inl rfl) rfl (by dsimp only [List.set]) ?_
  refine at_op (some 10) rfl rfl rfl rfl (op_binI rfl rfl) (by dsimp only [putD, List.set]) ?_
  refine at_end rfl ?_
  refine at_cond [1, 0, 1, 0] [1, 0, 1, 1] rfl rfl (fun hc1 => ?_) (fun hc1 => ?_)
  · skip
    exact absurd hc1 (by first | (simp; done) | (simp; omega))
  · skip
    refine at_skip rfl ?_
    refine at_seq [1, 1, 0] [1, 1, 1] rfl ?_
    refine at_region rfl ?_
    refine at_mv 0 13 rfl rfl rfl (.inl rfl) rfl (by dsimp only [List.set]) ?_
    first | (refine at_op (some 14) rfl rfl rfl rfl (op_lenL rfl fu_Sint) (by dsimp only [putD, List.set]) ?_) | (refine at_op (some 14) rfl rfl rfl rfl (opOK_un (op_lenL rfl fu_Sint)) (by dsimp only [putD, List.set]) ?_) | (refine at_op (some 14) rfl rfl rfl rfl (op_lenA rfl fu_Sint) (by dsimp only [putD, List.set]) ?_)
    refine at_op (some 15) rfl rfl rfl rfl (op_convI rfl fu_int fu_uint) (by dsimp only [putD, List.set]) ?_
    rw [show IntKind.u64.wrap (((List.map vi [-1]).length : Nat) : Int) = 1 from wrap_u (n := 1) (by decide)]
    refine at_mv 1 16 rfl rfl rfl (.inl rfl) rfl (by dsimp only [List.set]) ?_
    refine at_op (some 17) rfl rfl rfl rfl (op_convI rfl fu_int fu_uint) (by dsimp only [putD, List.set]) ?_
    rw [wrap_u (by omega)]
    refine at_op (some 18) rfl rfl rfl rfl (op_call0 rfl rfl rfl rfl (mul_spec n h0 h6)) (by dsimp only [putD, List.set]) ?_
    refine at_mv 18 12 rfl rfl rfl (.inl rfl) rfl (by dsimp only [List.set]) ?_
    refine at_op (some 19) rfl rfl rfl rfl (op_extract rfl rfl) (by dsimp only [putD, List.set]) ?_
    refine at_op (some 20) rfl rfl rfl rfl (op_extract rfl rfl) (by dsimp only [putD, List.set]) ?_
    refine at_mv 19 5 rfl rfl rfl (.inr rfl) rfl (by dsimp only [List.set]) ?_
    refine at_mv 20 6 rfl rfl rfl (.inr rfl) rfl (by dsimp only [List.set]) ?_
    refine at_end rfl ?_
    refine at_seq [1, 1, 1, 0] [1, 1, 1, 1] rfl ?_
    refine at_seq [1, 1, 1, 0, 0] [1, 1, 1, 0, 1] rfl ?_
    refine at_region rfl ?_
    refine at_mv 5 21 rfl rfl rfl (.inl rfl) rfl (by dsimp only [List.set]) ?_
    refine at_op (some 22) rfl rfl rfl rfl (op_binI rfl rfl) (by dsimp only [putD, List.set]) ?_
    refine at_mv 22 23 rfl rfl rfl (.inl rfl) rfl (by dsimp only [List.set]) ?_
    refine at_split 23 rfl (fun hb2 env' he => ?_) (fun hb2 env' he => ?_)
    · dsimp only [List.set] at he; subst he
      exact absurd hb2 (by simp)
    · dsimp only [List.set] at he; subst he
      refine at_mv 6 24 rfl rfl rfl (.inl rfl) rfl (by dsimp only [List.set]) ?_
      refine at_op (some 25) rfl rfl rfl rfl (op_binI rfl rfl) (by dsimp only [putD, List.set]) ?_
      refine at_pk false 23 25 26 rfl rfl rfl rfl rfl rfl rfl (by dsimp only [List.set]) ?_
      refine at_end rfl ?_
      refine at_cond [1, 1, 1, 0, 1, 0] [1, 1, 1, 0, 1, 1] rfl rfl (fun hc3 => ?_) (fun hc3 => ?_)
      · skip
        exact absurd hc3 (by first | (simp; done) | (simp; omega))
      · skip
        refine at_skip rfl ?_
        refine at_seq [1, 1, 1, 1, 0] [1, 1, 1, 1, 1] rfl ?_
        refine at_region rfl ?_
        refine at_mv 6 28 rfl rfl rfl (.inl rfl) rfl (by dsimp only [List.set]) ?_
        refine at_op (some 29) rfl rfl rfl rfl (op_convI rfl fu_uint fu_int) (by dsimp only [putD, List.set]) ?_
        rw [wrap_id (by omega) (by omega)]
        refine at_opS (some 30) rfl rfl rfl rfl (op_make rfl fsl_Sint rfl (by omega) (by omega) (by omega)) (by dsimp only [putD, List.set]) (by dsimp only [List.set, List.append, List.cons_append, List.nil_append, cellsD, List.map, repl, List.length, Nat.reduceAdd, if_true, ↓reduceIte]; first | done | rfl) ?_
        rw [Int.toNat_natCast]
        refine at_mv 30 7 rfl rfl rfl (.inr rfl) rfl (by dsimp only [List.set]) ?_
        refine at_end rfl ?_
        refine at_seq [1, 1, 1, 1, 1, 0] [1, 1, 1, 1, 1, 1] rfl ?_
        refine at_region rfl ?_
        refine at_mv 7 31 rfl rfl rfl (.inl rfl) rfl (by dsimp only [List.set]) ?_
        refine at_mv 0 32 rfl rfl rfl (.inl rfl) rfl (by dsimp only [List.set]) ?_
        refine at_opS (some 33) rfl rfl rfl rfl (op_copyL (k := 1) rfl fsl_Sint rfl (by simp [V.size, V.isAgg]) (by show (1 : Nat) = min 1 n; omega) (by decide) (by simp; omega)) (by dsimp only [putD, List.set]) (by dsimp only [List.set, List.append, List.cons_append, List.nil_append, cellsD, List.map, repl, List.length, Nat.reduceAdd, if_true, ↓reduceIte]; first | done | rfl) ?_
        refine at_mv 33 8 rfl rfl rfl (.inr rfl) rfl (by dsimp only [List.set]) ?_
        refine at_end rfl ?_
        rw [rep_start h0]
        refine at_seq [1, 1, 1, 1, 1, 1, 0] [1, 1, 1, 1, 1, 1, 1] rfl ?_
        refine at_block [1, 1, 1, 1, 1, 1, 0, 0] 0 rfl ?_
        refine at_loop [1, 1, 1, 1, 1, 1, 0, 0, 0] rfl ?_
        try simp only [List.length_map, List.length_nil]
        exact run_wk (.drop (.drop (.drop (.drop (.drop (.drop (.drop (.keep (.keep (.drop (.drop (.drop (.drop (.drop (.drop (.drop (.drop (.drop (.drop (.drop (.drop (.drop (.drop (.drop (.drop (.drop (.drop (.drop (.drop (.drop (.drop (.drop (.drop (.drop (.drop (.drop (.drop (.drop (.drop (.drop (.drop (.drop (.drop (.drop (.drop (.drop (.drop (.drop .nil)))))))))))))))))))))))))))))))))))))))))))))))) (rep_loop n (by omega) _ 1 rfl (by omega) h0)

end Go.Proofs.YtmdipbhjhkckjaaGreat

namespace Go.Proofs.YtmdipbhjhkckjaaGreat
open Go.Dv

def gI (out : List Int) (i : Nat) : Int := out.getD i 0
theorem gI_some {out : List Int} {i : Nat} {x : Int} (h : out[i]? = some x) : gI out i = x := by simp [gI, List.getD_eq_getElem?_getD, h]
def hitM (d : Int) (out : List Int) (row : List Arc) : Bool := row.any fun a => gI out a.2.toNat == d
def dIn (d : Int) : List (List Arc) → Nat → List Int → Bool → List Int × Bool
  | [], _, out, ch => (out, ch)
  | row :: G, i, out, ch => if decide (gI out i < 0) && hitM d out row then dIn d G (i + 1) (out.set i (d + 1)) true else dIn d G (i + 1) out ch
def dOut (G : List (List Arc)) : Nat → Int → List Int → List Int
  | 0, _, out => out
  | f + 1, d, out => if (dIn d G 0 out false).2 then dOut G f (d + 1) (dIn d G 0 out false).1 else (dIn d G 0 out false).1
def distM (G : List (List Arc)) (n to : Nat) : List Int := dOut G (n + 1) 0 ((List.replicate n (-1)).set to 0)

abbrev dli (out : List Int) : List D := out.map fun x => di x
theorem dIn_length (d : Int) : ∀ (G : List (List Arc)) (i : Nat) (out : List Int) (ch : Bool), (dIn d G i out ch).1.length = out.length
  | [], _, _, _ => rfl
  | row :: G, i, out, ch => by unfold dIn; split <;> simp [dIn_length d G]
abbrev neg (x : Int) : Bool := decide (x < 0)
theorem countP_set {out : List Int} {i : Nat} {x y : Int} (h : out[i]? = some x) (hx : x < 0) (hy : 0 ≤ y) : (out.set i y).countP neg + 1 = out.countP neg := by
  obtain ⟨h1, h2⟩ := List.getElem?_eq_some_iff.1 h
  have e : out = out.take i ++ x :: out.drop (i + 1) := by
    conv => lhs; rw [← List.take_append_drop i out, List.drop_eq_getElem_cons h1, h2]
  rw [List.set_eq_take_append_cons_drop, if_pos h1]
  conv => rhs; rw [e]
  simp only [List.countP_append, List.countP_cons]
  have a1 : neg y = false := by simp [neg]; omega
  have a2 : neg x = true := by simp [neg]; omega
  rw [a1, a2]; simp; omega
theorem dIn_count {d : Int} (hd : 0 ≤ d) : ∀ (G : List (List Arc)) (i : Nat) (out : List Int) (ch : Bool), i + G.length ≤ out.length →
    (dIn d G i out ch).1.countP neg ≤ out.countP neg ∧ ((dIn d G i out ch).2 = true → ch = true ∨ (dIn d G i out ch).1.countP neg < out.countP neg)
  | [], _, out, ch, _ => ⟨Nat.le_refl _, fun h => .inl h⟩
  | row :: G, i, out, ch, hl => by
    simp only [List.length_cons] at hl
    unfold dIn
    split
    · rename_i h
      simp only [Bool.and_eq_true, decide_eq_true_eq] at h
      obtain ⟨x, hx⟩ := get_ex (a := out) (i := i) (by omega)
      rw [gI_some hx] at h
      have hc := countP_set (y := d + 1) hx h.1 (by omega)
      have := dIn_count hd G (i + 1) (out.set i (d + 1)) true (by simp; omega)
      exact ⟨by omega, fun _ => .inr (by omega)⟩
    · exact dIn_count hd G (i + 1) out ch (by omega)
/-- the numbers, the variable that has them, the counter's variable behind `c` that were given up -/
abbrev dSt (n : Nat) (out : List Int) (c : Nat) (d : Int) : St := ⟨some (dli out) :: some [.arr 0 0 n] :: (List.replicate c none ++ [some [di d]]), []⟩
theorem dSt_get (a b : Option (List D)) (c : Nat) (x : Option (List D)) : (a :: b :: (List.replicate c none ++ [x]))[2 + c]? = some x := by
  rw [show 2 + c = c + 1 + 1 by omega, List.getElem?_cons_succ, List.getElem?_cons_succ, List.getElem?_append_right (by simp)]; simp
theorem dSt_set (a b : Option (List D)) (c : Nat) (x y : Option (List D)) : (a :: b :: (List.replicate c none ++ [x])).set (2 + c) y = a :: b :: (List.replicate c none ++ [y]) := by
  rw [show 2 + c = c + 1 + 1 by omega, List.set_cons_succ, List.set_cons_succ, List.set_append_right _ _ (by simp)]; simp
theorem dSt_kill (a b : Option (List D)) (c : Nat) (x : Option (List D)) : (a :: b :: (List.replicate c none ++ [x])).set (2 + c) none = a :: b :: List.replicate (c + 1) none := by
  rw [dSt_set, List.replicate_succ']
theorem lend_ints {L : Nat → Option (List D)} {q n : Nat} {out : List Int} (hL : L q = some (dli out)) (hn : n = out.length) : lends L 1 (.arr q 0 n) (vl out) := by
  subst hn
  refine .inr (.inr ⟨q, 0, 1, dli out, out.map vi, .inl (by simp), rfl, by decide, by simp [V.size], hL, fun j y hj => ?_⟩)
  have hf : (out.map vi).flatMap V.cellsV = out.map vi := by
    clear hj hL
    induction out with
    | nil => rfl
    | cons l to ih => simp only [List.map_cons, List.flatMap_cons, V.cellsV, ih]; rfl
  rw [hf] at hj
  have hj2 := hj
  rw [List.getElem?_map] at hj
  cases hl : out[j]? with
  | none => simp [hl] at hj
  | some l =>
    simp [hl] at hj
    subst hj
    exact ⟨rfl, .v (vi l), by simp [hl], _, .same, rfl⟩
theorem lend_var {L : Nat → Option (List D)} {q n : Nat} {d : D} {x : V} (hx : x.isAgg = false) (hL : L q = some [d]) (h : lends L n d x) : lends L (n + 1) (.ptr q 0) (.ref x) := by
  refine .inr (.inl ⟨q, 0, [d], x, rfl, rfl, hL, fun j y hj => ?_⟩)
  have hc : x.cellsV = [x] := by cases x <;> simp_all [V.cellsV, V.isAgg]
  rw [hc] at hj
  match j, hj with
  | 0, hj => simp at hj; subst hj; exact ⟨hx, d, rfl, h⟩
  | j + 1, hj => simp at hj
theorem lend_clo (n : Nat) (out : List Int) (c : Nat) (d : Int) (hn : n = out.length) : LendL (fun o => ((dSt n out c d).H[o]?).join) [.ptr 1 0, .ptr (2 + c) 0] [.ref (vl out), .ref (vi d)] :=
  .cons (n := 2) (lend_var rfl rfl (lend_ints (out := out) rfl hn)) (.cons (n := 1) (lend_var (d := di d) rfl (by simp only [dSt_get]; rfl) ⟨di d, .same, rfl⟩) .nil)
theorem dli_get {l : List Int} {i : Nat} {x : Int} (h : l[i]? = some x) : (dli l)[i]? = some (di x) := by simp [h]
theorem dli_set (l : List Int) (i : Nat) (x : Int) : (dli l).set i (di x) = dli (l.set i x) := by simp [List.map_set]
theorem op_allocC {P : Program} {o : Oper} {e : TypeId} (ho : o.op = .alloc e) (hz : zeroV P e = some [.int .i64 0]) (a b : Option (List D)) (c : Nat) :
    OpOK P o [] ⟨a :: b :: List.replicate c none, []⟩ (.ptr (2 + c) 0) ⟨a :: b :: (List.replicate c none ++ [some [di 0]]), []⟩ := by
  have := op_alloc (P := P) (o := o) (σ := ⟨a :: b :: List.replicate c none, []⟩) ho hz
  rw [show (a :: b :: List.replicate c (none : Option (List D))).length = 2 + c by simp; omega] at this
  exact this
theorem dli_start (n to : Nat) : (List.replicate n (di (-1))).set to (di 0) = dli ((List.replicate n (-1)).set to 0) := by
  rw [← dli_set]; simp

noncomputable def cDist1 : Code := Tryz.f74.body.getD .skip
set_option maxRecDepth 20000 in
theorem dist1_spec (a : Arc) (out : List Int) (d : Int) (h0 : 0 ≤ a.2) (h1 : a.2.toNat < out.length) : FSpec PP 74 [.v (vArc a), .v (.ref (vl out)), .v (.ref (vi d))] σ0 (db (gI out a.2.toNat == d)) σ0 := by
  obtain ⟨x, hx⟩ := get_ex h1
  have hx2 : (out.map vi)[a.2.toNat]? = some (vi x) := by simp [hx]
  rw [gI_some hx]
  refine spec_at cDist1 Tryz.func74 rfl (by kernel_rfl) (by first | decide | simp) _ (by dsimp only [Tryz.f74, List.length, Nat.reduceAdd, Nat.reduceSub, List.replicate, List.cons_append, List.nil_append]) ?_
  refine at_seq [0] [1] rfl ?_
  refine at_region rfl ?_
  refine at_op (some 3) rfl rfl rfl rfl (op_boxI rfl rfl) (by dsimp only [putD, List.set]) ?_
  refine at_mc 4 rfl rfl rfl (.inr rfl) (by dsimp only [constD]) (by dsimp only [List.set]) ?_
  refine at_end rfl ?_
  refine at_seq [1, 0] [1, 1] rfl ?_
  refine at_draw mixed rfl [σ0] rfl ?_
  first | (refine da_quiet (some 5) rfl rfl rfl rfl (fun s hs => op_loadR1 rfl fone_Sint rfl) (by dsimp only [putD, List.set]) ?_) | (refine da_quiet (some 5) rfl rfl rfl rfl (by intro s hs; simp only [List.mem_cons, List.not_mem_nil, or_false] at hs; rcases hs with rfl <;> exact op_loadP1 rfl fone_Sint rfl rfl) (by dsimp only [putD, List.set]) ?_)
  first | (refine da_quiet (some 6) rfl rfl rfl rfl (fun s hs => op_fieldP rfl ffld1_api_Arc (by decide)) (by dsimp only [putD, List.set]) ?_) | (refine da_quiet (some 6) rfl rfl rfl rfl (fun s hs => op_fieldR rfl ffld1_api_Arc (by decide) (by decide) rfl) (by dsimp only [putD, List.set]) ?_)
  first | (refine da_quiet (some 7) rfl rfl rfl rfl (fun s hs => op_loadR1 rfl fone_int rfl) (by dsimp only [putD, List.set]) ?_) | (refine da_quiet (some 7) rfl rfl rfl rfl (by intro s hs; simp only [List.mem_cons, List.not_mem_nil, or_false] at hs; rcases hs with rfl <;> exact op_loadP1 rfl fone_int rfl rfl) (by dsimp only [putD, List.set]) ?_)
  first | (refine da_quiet (some 8) rfl rfl rfl rfl (fun s hs => op_idxL rfl fsl_Sint (by first | decide | omega) (by first | assumption | exact idx_some (by assumption) | rfl) (by first | rfl | (simp [V.size]; done))) (by dsimp only [putD, List.set]) ?_) | (refine da_quiet (some 8) rfl rfl rfl rfl (fun s hs => opOK_un (op_idxL rfl fsl_Sint (by first | decide | omega) (by first | assumption | exact idx_some (by assumption) | rfl) (by first | rfl | (simp [V.size]; done)))) (by dsimp only [putD, List.set]) ?_) | (refine da_quiet (some 8) rfl rfl rfl rfl (fun s hs => op_idxA rfl fsl_Sint (by first | decide | omega) (by first | decide | omega)) (by dsimp only [putD, List.set]) ?_)
  first | (refine da_quiet (some 9) rfl rfl rfl rfl (fun s hs => op_loadR1 rfl fone_int rfl) (by dsimp only [putD, List.set]) ?_) | (refine da_quiet (some 9) rfl rfl rfl rfl (by intro s hs; simp only [List.mem_cons, List.not_mem_nil, or_false] at hs; rcases hs with rfl <;> exact op_loadP1 rfl fone_int rfl rfl) (by dsimp only [putD, List.set]) ?_)
  first | (refine da_quiet (some 10) rfl rfl rfl rfl (fun s hs => op_loadR1 rfl fone_int rfl) (by dsimp only [putD, List.set]) ?_) | (refine da_quiet (some 10) rfl rfl rfl rfl (by intro s hs; simp only [List.mem_cons, List.not_mem_nil, or_false] at hs; rcases hs with rfl <;> exact op_loadP1 rfl fone_int rfl rfl) (by dsimp only [putD, List.set]) ?_)
  refine da_quiet (some 11) rfl rfl rfl rfl (fun s hs => op_binI rfl rfl) (by dsimp only [putD, List.set]) ?_
  refine da_mv 11 4 rfl rfl rfl (.inr rfl) rfl (by dsimp only [List.set]) ?_
  refine da_end rfl ⟨by decide +kernel, _, rfl, ?_⟩
  refine at_ret rfl (ret_one (t := 4) rfl rfl ?_ rfl)
  rfl

noncomputable def cDist : Code := Tryz.f41.body.getD .skip
set_option maxRecDepth 20000 in
theorem dist_inner (R : List D → St → Prop) (K : List KI) (n : Nat) (G : List (List Arc)) (hG : GOK n G) (to c : Nat) (d : Int) (h0 : 0 ≤ d) (hd : d ≤ 1000) (T : List Int × Bool) (hk : Run PP R K (.undef :: (di ↑to) :: (.v (.ref (vG n G))) :: .undef :: .undef :: (.ptr 1 0) :: (.ptr (2 + c) 0) :: (db T.2) :: .undef :: .undef :: .undef :: .undef :: .undef :: .undef :: .undef :: .undef :: .undef :: .undef :: .undef :: .undef :: .undef :: .undef :: .undef :: .undef :: .undef :: .undef :: .undef :: .undef :: .undef :: .undef :: .undef :: .undef :: .undef :: .undef :: .undef :: .undef :: .undef :: .undef :: .undef :: .undef :: .undef :: .undef :: .undef :: .undef :: .undef :: .undef :: .undef :: []) (dSt n T.1 c d)) (m : Nat) : ∀ (i : Nat) (out : List Int) (ch : Bool), n - i = m → out.length = n → T = dIn d (G.drop i) i out ch → Run PP R (.lp (sub cDist [1, 1, 1, 0, 1, 0, 0, 1, 0, 0, 1, 1, 0, 0]) :: .blk 2 :: K) (.undef :: (di ↑to) :: (.v (.ref (vG n G))) :: .undef :: .undef :: (.ptr 1 0) :: (.ptr (2 + c) 0) :: (db ch) :: .undef :: .undef :: .undef :: .undef :: .undef :: .undef :: .undef :: .undef :: .undef :: .undef :: .undef :: .undef :: .undef :: .undef :: (.v (.list (G.map vArcs))) :: (di ↑G.length) :: (di ↑i) :: .undef :: .undef :: .undef :: .undef :: .undef :: .undef :: .undef :: .undef :: .undef :: .undef :: .undef :: .undef :: .undef :: .undef :: .undef :: .undef :: .undef :: .undef :: .undef :: .undef :: .undef :: .undef :: []) (dSt n out c d) := by
  induction m using Nat.strongRecOn with
  | _ m ih =>
    intro i out ch hm ho hT
    have hn := hG.le
    have hgl := hG.len
    refine run_lp ?_
    refine at_seq [1, 1, 1, 0, 1, 0, 0, 1, 0, 0, 1, 1, 0, 0, 0] [1, 1, 1, 0, 1, 0, 0, 1, 0, 0, 1, 1, 0, 0, 1] rfl ?_
    refine at_region rfl ?_
    refine at_op (some 25) rfl rfl rfl rfl (op_binI rfl rfl) (by dsimp only [putD, List.set]) ?_
    refine at_end rfl ?_
    refine at_seq [1, 1, 1, 0, 1, 0, 0, 1, 0, 0, 1, 1, 0, 0, 1, 0] [1, 1, 1, 0, 1, 0, 0, 1, 0, 0, 1, 1, 0, 0, 1, 1] rfl ?_
    refine at_cond [1, 1, 1, 0, 1, 0, 0, 1, 0, 0, 1, 1, 0, 0, 1, 0, 0] [1, 1, 1, 0, 1, 0, 0, 1, 0, 0, 1, 1, 0, 0, 1, 0, 1] rfl rfl (fun hc1 => ?_) (fun hc1 => ?_)
    · skip
      have hlt : i < n := by simp at hc1; omega
      obtain ⟨row, hr⟩ := get_ex (a := G) (i := i) (by omega)
      have hr2 := idx_some (f := vArcs) hr
      obtain ⟨hrl, hrow⟩ := hG.row row (List.mem_of_getElem? hr)
      obtain ⟨x, hx⟩ := get_ex (a := out) (i := i) (by omega)
      have hx2 := dli_get hx
      rw [List.drop_eq_getElem_cons (by omega), (List.getElem?_eq_some_iff.1 hr).2] at hT
      simp only [dIn, gI_some hx] at hT
      refine at_skip rfl ?_
      refine at_seq [1, 1, 1, 0, 1, 0, 0, 1, 0, 0, 1, 1, 0, 0, 1, 1, 0] [1, 1, 1, 0, 1, 0, 0, 1, 0, 0, 1, 1, 0, 0, 1, 1, 1] rfl ?_
      refine at_block [1, 1, 1, 0, 1, 0, 0, 1, 0, 0, 1, 1, 0, 0, 1, 1, 0, 0] 3 rfl ?_
      refine at_seq [1, 1, 1, 0, 1, 0, 0, 1, 0, 0, 1, 1, 0, 0, 1, 1, 0, 0, 0] [1, 1, 1, 0, 1, 0, 0, 1, 0, 0, 1, 1, 0, 0, 1, 1, 0, 0, 1] rfl ?_
      refine at_region rfl ?_
      refine at_mv 24 26 rfl rfl rfl (.inl rfl) rfl (by dsimp only [List.set]) ?_
      first | (refine at_op (some 27) rfl rfl rfl rfl (op_idxL rfl fsl__5b5d5b5d_api_Arc (by first | decide | omega) (by first | assumption | exact idx_some (by assumption) | rfl) (by first | rfl | (simp [V.size]; done))) (by dsimp only [putD, List.set]) ?_) | (refine at_op (some 27) rfl rfl rfl rfl (opOK_un (op_idxL rfl fsl__5b5d5b5d_api_Arc (by first | decide | omega) (by first | assumption | exact idx_some (by assumption) | rfl) (by first | rfl | (simp [V.size]; done)))) (by dsimp only [putD, List.set]) ?_) | (refine at_op (some 27) rfl rfl rfl rfl (op_idxA rfl fsl__5b5d5b5d_api_Arc (by first | decide | omega) (by first | decide | omega)) (by dsimp only [putD, List.set]) ?_)
      first | (refine at_op (some 28) rfl rfl rfl rfl (op_loadR1 rfl fone_Sapi_Arc rfl) (by dsimp only [putD, List.set]) ?_) | (refine at_op (some 28) rfl rfl rfl rfl (op_loadP1 rfl fone_Sapi_Arc rfl rfl) (by dsimp only [putD, List.set]) ?_)
      refine at_mv 26 8 rfl rfl rfl (.inr rfl) rfl (by dsimp only [List.set]) ?_
      refine at_mv 28 9 rfl rfl rfl (.inr rfl) rfl (by dsimp only [List.set]) ?_
      refine at_end rfl ?_
      refine at_seq [1, 1, 1, 0, 1, 0, 0, 1, 0, 0, 1, 1, 0, 0, 1, 1, 0, 0, 1, 0] [1, 1, 1, 0, 1, 0, 0, 1, 0, 0, 1, 1, 0, 0, 1, 1, 0, 0, 1, 1] rfl ?_
      refine at_region rfl ?_
      first | (refine at_op (some 29) rfl rfl rfl rfl (op_loadR1 rfl fone_Sint rfl) (by dsimp only [putD, List.set]) ?_) | (refine at_op (some 29) rfl rfl rfl rfl (op_loadP1 rfl fone_Sint rfl rfl) (by dsimp only [putD, List.set]) ?_)
      refine at_mv 8 30 rfl rfl rfl (.inl rfl) rfl (by dsimp only [List.set]) ?_
      first | (refine at_op (some 31) rfl rfl rfl rfl (op_idxL rfl fsl_Sint (by first | decide | omega) (by first | assumption | exact idx_some (by assumption) | rfl) (by first | rfl | (simp [V.size]; done))) (by dsimp only [putD, List.set]) ?_) | (refine at_op (some 31) rfl rfl rfl rfl (opOK_un (op_idxL rfl fsl_Sint (by first | decide | omega) (by first | assumption | exact idx_some (by assumption) | rfl) (by first | rfl | (simp [V.size]; done)))) (by dsimp only [putD, List.set]) ?_) | (refine at_op (some 31) rfl rfl rfl rfl (op_idxA rfl fsl_Sint (by first | decide | omega) (by first | decide | omega)) (by dsimp only [putD, List.set]) ?_)
      simp only [Nat.zero_add, Nat.mul_one, Int.toNat_natCast]
      refine at_op (some 32) rfl rfl rfl rfl (op_loadP1 rfl fone_int rfl hx2) (by dsimp only [putD, List.set]) ?_
      refine at_op (some 33) rfl rfl rfl rfl (op_binI rfl rfl) (by dsimp only [putD, List.set]) ?_
      refine at_mv 33 34 rfl rfl rfl (.inl rfl) rfl (by dsimp only [List.set]) ?_
      refine at_split 34 rfl (fun hb2 env' he => ?_) (fun hb2 env' he => ?_)
      · dsimp only [List.set] at he; subst he
        have hneg : x < 0 := by simpa using hb2
        refine at_mv 9 35 rfl rfl rfl (.inl rfl) rfl (by dsimp only [List.set]) ?_
        refine at_op (some 36) rfl rfl rfl rfl (op_makeFuncD rfl rfl) (by dsimp only [putD, List.set]) ?_
        refine at_op (some 37) rfl rfl rfl rfl (op_callB rfl rfl (.cons (n := 0) ⟨_, .same, rfl⟩ (.fn (lend_clo n out c d ho.symm) .nil)) rfl (containsFA_spec 74 [] [.ref (vl out), .ref (vi d)] row (fun a => gI out a.2.toNat == d) (fun a ha => dist1_spec a out d (hrow a ha).1 (by have := hrow a ha; omega)) (by omega))) (by dsimp only [putD, List.set]) ?_
        refine at_pk true 34 37 38 rfl rfl rfl rfl rfl rfl rfl (by dsimp only [List.set]) ?_
        refine at_end rfl ?_
        refine at_cond [1, 1, 1, 0, 1, 0, 0, 1, 0, 0, 1, 1, 0, 0, 1, 1, 0, 0, 1, 1, 0] [1, 1, 1, 0, 1, 0, 0, 1, 0, 0, 1, 1, 0, 0, 1, 1, 0, 0, 1, 1, 1] rfl rfl (fun hc3 => ?_) (fun hc3 => ?_)
        · skip
          have hit : hitM d out row = true := hc3
          rw [if_pos (by rw [hit]; simp; omega)] at hT
          refine at_seq [1, 1, 1, 0, 1, 0, 0, 1, 0, 0, 1, 1, 0, 0, 1, 1, 0, 0, 1, 1, 0, 0] [1, 1, 1, 0, 1, 0, 0, 1, 0, 0, 1, 1, 0, 0, 1, 1, 0, 0, 1, 1, 0, 1] rfl ?_
          refine at_region rfl ?_
          first | (refine at_op (some 39) rfl rfl rfl rfl (op_loadR1 rfl fone_Sint rfl) (by dsimp only [putD, List.set]) ?_) | (refine at_op (some 39) rfl rfl rfl rfl (op_loadP1 rfl fone_Sint rfl rfl) (by dsimp only [putD, List.set]) ?_)
          refine at_mv 8 40 rfl rfl rfl (.inl rfl) rfl (by dsimp only [List.set]) ?_
          refine at_op (some 41) rfl rfl rfl rfl (op_loadP1 rfl fone_int (dSt_get _ _ _ _) rfl) (by dsimp only [putD, List.set]) ?_
          refine at_op (some 42) rfl rfl rfl rfl (op_binI rfl rfl) (by dsimp only [putD, List.set]) ?_
          rw [wrap_id (by omega) (by omega)]
          first | (refine at_op (some 43) rfl rfl rfl rfl (op_idxL rfl fsl_Sint (by first | decide | omega) (by first | assumption | exact idx_some (by assumption) | rfl) (by first | rfl | (simp [V.size]; done))) (by dsimp only [putD, List.set]) ?_) | (refine at_op (some 43) rfl rfl rfl rfl (opOK_un (op_idxL rfl fsl_Sint (by first | decide | omega) (by first | assumption | exact idx_some (by assumption) | rfl) (by first | rfl | (simp [V.size]; done)))) (by dsimp only [putD, List.set]) ?_) | (refine at_op (some 43) rfl rfl rfl rfl (op_idxA rfl fsl_Sint (by first | decide | omega) (by first | decide | omega)) (by dsimp only [putD, List.set]) ?_)
          simp only [Nat.zero_add, Nat.mul_one, Int.toNat_natCast]
          refine at_st1 43 (.tmp 42) rfl rfl rfl rfl rfl (ev_tmp rfl) rfl fone_int rfl (by simp; omega) (by dsimp only [List.set, List.append, List.cons_append, List.nil_append, cellsD, List.map, repl, List.length, Nat.reduceAdd, if_true, ↓reduceIte]; first | done | rfl) ?_
          rw [dli_set]
          refine at_end rfl ?_
          refine at_region rfl ?_
          refine at_mc 7 rfl rfl rfl (.inr rfl) (by dsimp only [constD]) (by dsimp only [List.set]) ?_
          refine at_end rfl ?_
          refine run_blk ?_
          refine at_region rfl ?_
          refine at_op (some 44) rfl rfl rfl rfl (op_binI rfl rfl) (by dsimp only [putD, List.set]) ?_
          rw [wrap_succ (by omega)]
          refine at_mv 44 24 rfl rfl rfl (.inl rfl) rfl (by dsimp only [List.set]) ?_
          refine at_end rfl ?_
          first | exact run_wk (.drop (.keep (.keep (.drop (.drop (.keep (.keep (.keep (.drop (.drop (.drop (.drop (.drop (.drop (.drop (.drop (.drop (.drop (.drop (.drop (.drop (.drop (.keep (.keep (.keep (.drop (.drop (.drop (.drop (.drop (.drop (.drop (.drop (.drop (.drop (.drop (.drop (.drop (.drop (.drop (.drop (.drop (.drop (.drop (.drop (.drop (.drop .nil))))))))))))))))))))))))))))))))))))))))))))))) (ih _ (by omega) (i + 1) (out.set i (d + 1)) true rfl (by simp; omega) hT) | exact run_wk (.drop (.keep (.keep (.drop (.drop (.keep (.keep (.keep (.drop (.drop (.drop (.drop (.drop (.drop (.drop (.drop (.drop (.drop (.drop (.drop (.drop (.drop (.keep (.keep (.keep (.drop (.drop (.drop (.drop (.drop (.drop (.drop (.drop (.drop (.drop (.drop (.drop (.drop (.drop (.drop (.drop (.drop (.drop (.drop (.drop (.drop (.drop .nil))))))))))))))))))))))))))))))))))))))))))))))) (ih _ (by omega) (i + 1) out ch rfl ho hT)
        · skip
          have hit : hitM d out row = false := hc3
          rw [if_neg (by rw [hit]; simp)] at hT
          refine at_skip rfl ?_
          refine run_blk ?_
          refine at_region rfl ?_
          refine at_op (some 44) rfl rfl rfl rfl (op_binI rfl rfl) (by dsimp only [putD, List.set]) ?_
          rw [wrap_succ (by omega)]
          refine at_mv 44 24 rfl rfl rfl (.inl rfl) rfl (by dsimp only [List.set]) ?_
          refine at_end rfl ?_
          first | exact run_wk (.drop (.keep (.keep (.drop (.drop (.keep (.keep (.keep (.drop (.drop (.drop (.drop (.drop (.drop (.drop (.drop (.drop (.drop (.drop (.drop (.drop (.drop (.keep (.keep (.keep (.drop (.drop (.drop (.drop (.drop (.drop (.drop (.drop (.drop (.drop (.drop (.drop (.drop (.drop (.drop (.drop (.drop (.drop (.drop (.drop (.drop (.drop .nil))))))))))))))))))))))))))))))))))))))))))))))) (ih _ (by omega) (i + 1) (out.set i (d + 1)) true rfl (by simp; omega) hT) | exact run_wk (.drop (.keep (.keep (.drop (.drop (.keep (.keep (.keep (.drop (.drop (.drop (.drop (.drop (.drop (.drop (.drop (.drop (.drop (.drop (.drop (.drop (.drop (.keep (.keep (.keep (.drop (.drop (.drop (.drop (.drop (.drop (.drop (.drop (.drop (.drop (.drop (.drop (.drop (.drop (.drop (.drop (.drop (.drop (.drop (.drop (.drop (.drop .nil))))))))))))))))))))))))))))))))))))))))))))))) (ih _ (by omega) (i + 1) out ch rfl ho hT)
      · dsimp only [List.set] at he; subst he
        have hneg : ¬ x < 0 := by simpa using hb2
        rw [if_neg (by simp; omega)] at hT
        refine at_opN (some 35) rfl rfl rfl (by dsimp only [putD, List.set]) ?_
        refine at_opN (some 36) rfl rfl rfl (by dsimp only [putD, List.set]) ?_
        refine at_opN (some 37) rfl rfl rfl (by dsimp only [putD, List.set]) ?_
        refine at_pkc false 34 38 rfl rfl rfl rfl rfl rfl (by dsimp only [constD]) (by dsimp only [List.set]) ?_
        refine at_end rfl ?_
        refine at_false [1, 1, 1, 0, 1, 0, 0, 1, 0, 0, 1, 1, 0, 0, 1, 1, 0, 0, 1, 1, 0] [1, 1, 1, 0, 1, 0, 0, 1, 0, 0, 1, 1, 0, 0, 1, 1, 0, 0, 1, 1, 1] rfl rfl ?_
        refine at_skip rfl ?_
        refine run_blk ?_
        refine at_region rfl ?_
        refine at_op (some 44) rfl rfl rfl rfl (op_binI rfl rfl) (by dsimp only [putD, List.set]) ?_
        rw [wrap_succ (by omega)]
        refine at_mv 44 24 rfl rfl rfl (.inl rfl) rfl (by dsimp only [List.set]) ?_
        refine at_end rfl ?_
        first | exact run_wk (.drop (.keep (.keep (.drop (.drop (.keep (.keep (.keep (.drop (.drop (.drop (.drop (.drop (.drop (.drop (.drop (.drop (.drop (.drop (.drop (.drop (.drop (.keep (.keep (.keep (.drop (.drop (.drop (.drop (.drop (.drop (.drop (.drop (.drop (.drop (.drop (.drop (.drop (.drop (.drop (.drop (.drop (.drop (.drop (.drop (.drop (.drop .nil))))))))))))))))))))))))))))))))))))))))))))))) (ih _ (by omega) (i + 1) (out.set i (d + 1)) true rfl (by simp; omega) hT) | exact run_wk (.drop (.keep (.keep (.drop (.drop (.keep (.keep (.keep (.drop (.drop (.drop (.drop (.drop (.drop (.drop (.drop (.drop (.drop (.drop (.drop (.drop (.drop (.keep (.keep (.keep (.drop (.drop (.drop (.drop (.drop (.drop (.drop (.drop (.drop (.drop (.drop (.drop (.drop (.drop (.drop (.drop (.drop (.drop (.drop (.drop (.drop (.drop .nil))))))))))))))))))))))))))))))))))))))))))))))) (ih _ (by omega) (i + 1) out ch rfl ho hT)
    · skip
      have hge : n ≤ i := by simp at hc1; omega
      rw [List.drop_of_length_le (by omega)] at hT
      simp only [dIn] at hT
      rw [hT] at hk
      refine at_exit rfl rfl ?_
      exact run_wk (.drop (.keep (.keep (.drop (.drop (.keep (.keep (.keep (.drop (.drop (.drop (.drop (.drop (.drop (.drop (.drop (.drop (.drop (.drop (.drop (.drop (.drop (.drop (.drop (.drop (.drop (.drop (.drop (.drop (.drop (.drop (.drop (.drop (.drop (.drop (.drop (.drop (.drop (.drop (.drop (.drop (.drop (.drop (.drop (.drop (.drop (.drop .nil))))))))))))))))))))))))))))))))))))))))))))))) hk

set_option maxRecDepth 20000 in
theorem dist_outer (n : Nat) (G : List (List Arc)) (hG : GOK n G) (to : Nat) (T : List Int) (m : Nat) : ∀ (f c : Nat) (d : Int) (out : List Int) (ch : Bool), f = m → out.length = n → 0 ≤ d → d + f ≤ 900 → (ch = true → out.countP neg + 1 ≤ f) → T = (if ch = true then dOut G f d out else out) → Run PP (fun env σ1 => ResOK PP Tryz.f41 env σ1 (.v (vl T)) σ0) [.lp (sub cDist [1, 1, 1, 0, 1, 0, 0]), .blk 0, .code (sub cDist [1, 1, 1, 1])] (.undef :: (di ↑to) :: (.v (.ref (vG n G))) :: .undef :: .undef :: (.ptr 1 0) :: (.ptr (2 + c) 0) :: (db ch) :: .undef :: .undef :: .undef :: .undef :: .undef :: .undef :: .undef :: .undef :: .undef :: .undef :: .undef :: .undef :: .undef :: .undef :: .undef :: .undef :: .undef :: .undef :: .undef :: .undef :: .undef :: .undef :: .undef :: .undef :: .undef :: .undef :: .undef :: .undef :: .undef :: .undef :: .undef :: .undef :: .undef :: .undef :: .undef :: .undef :: .undef :: .undef :: .undef :: []) (dSt n out c d) := by
  induction m using Nat.strongRecOn with
  | _ m ih =>
    intro f c d out ch hm ho h0 hdf hcf hT
    have hn := hG.le
    have hgl := hG.len
    refine run_lp ?_
    refine at_seq [1, 1, 1, 0, 1, 0, 0, 0] [1, 1, 1, 0, 1, 0, 0, 1] rfl ?_
    refine at_seq [1, 1, 1, 0, 1, 0, 0, 0, 0] [1, 1, 1, 0, 1, 0, 0, 0, 1] rfl ?_
    refine at_region rfl ?_
    refine at_mv 7 18 rfl rfl rfl (.inl rfl) rfl (by dsimp only [List.set]) ?_
    refine at_end rfl ?_
    refine at_cond [1, 1, 1, 0, 1, 0, 0, 0, 1, 0] [1, 1, 1, 0, 1, 0, 0, 0, 1, 1] rfl rfl (fun hc1 => ?_) (fun hc1 => ?_)
    · skip
      have hch : ch = true := hc1
      subst hch
      obtain ⟨f', rfl⟩ : ∃ f', f = f' + 1 := ⟨f - 1, by have := hcf rfl; omega⟩
      rw [if_pos rfl] at hT
      simp only [dOut] at hT
      have hcn := (dIn_count h0 G 0 out false (by omega)).2
      have hln := dIn_length d G 0 out false
      have hcf2 := hcf rfl
      refine at_skip rfl ?_
      refine at_seq [1, 1, 1, 0, 1, 0, 0, 1, 0] [1, 1, 1, 0, 1, 0, 0, 1, 1] rfl ?_
      refine at_block [1, 1, 1, 0, 1, 0, 0, 1, 0, 0] 1 rfl ?_
      refine at_seq [1, 1, 1, 0, 1, 0, 0, 1, 0, 0, 0] [1, 1, 1, 0, 1, 0, 0, 1, 0, 0, 1] rfl ?_
      refine at_region rfl ?_
      refine at_mc 7 rfl rfl rfl (.inr rfl) (by dsimp only [constD]) (by dsimp only [List.set]) ?_
      refine at_end rfl ?_
      refine at_seq [1, 1, 1, 0, 1, 0, 0, 1, 0, 0, 1, 0] [1, 1, 1, 0, 1, 0, 0, 1, 0, 0, 1, 1] rfl ?_
      refine at_region rfl ?_
      first | (refine at_op (some 21) rfl rfl rfl rfl (op_fieldP rfl ffld1_api_Graph (by decide)) (by dsimp only [putD, List.set]) ?_) | (refine at_op (some 21) rfl rfl rfl rfl (op_fieldR rfl ffld1_api_Graph (by decide) (by decide) rfl) (by dsimp only [putD, List.set]) ?_)
      first | (refine at_op (some 22) rfl rfl rfl rfl (op_loadR1 rfl fone__5b5d5b5d_api_Arc rfl) (by dsimp only [putD, List.set]) ?_) | (refine at_op (some 22) rfl rfl rfl rfl (op_loadP1 rfl fone__5b5d5b5d_api_Arc rfl rfl) (by dsimp only [putD, List.set]) ?_)
      first | (refine at_op (some 23) rfl rfl rfl rfl (op_lenL rfl fu__5b5d5b5d_api_Arc) (by dsimp only [putD, List.set]) ?_) | (refine at_op (some 23) rfl rfl rfl rfl (opOK_un (op_lenL rfl fu__5b5d5b5d_api_Arc)) (by dsimp only [putD, List.set]) ?_) | (refine at_op (some 23) rfl rfl rfl rfl (op_lenA rfl fu__5b5d5b5d_api_Arc) (by dsimp only [putD, List.set]) ?_)
      simp only [List.length_map]
      refine at_mc 24 rfl rfl rfl (.inl rfl) (by dsimp only [constD]) (by dsimp only [List.set]) ?_
      refine at_end rfl ?_
      refine at_block [1, 1, 1, 0, 1, 0, 0, 1, 0, 0, 1, 1, 0] 2 rfl ?_
      refine at_loop [1, 1, 1, 0, 1, 0, 0, 1, 0, 0, 1, 1, 0, 0] rfl ?_
      try simp only [List.length_map, List.length_nil, Int.toNat_natCast]
      refine run_wk (.drop (.keep (.keep (.drop (.drop (.keep (.keep (.keep (.drop (.drop (.drop (.drop (.drop (.drop (.drop (.drop (.drop (.drop (.drop (.drop (.drop (.drop (.keep (.keep (.keep (.drop (.drop (.drop (.drop (.drop (.drop (.drop (.drop (.drop (.drop (.drop (.drop (.drop (.drop (.drop (.drop (.drop (.drop (.drop (.drop (.drop (.drop .nil))))))))))))))))))))))))))))))))))))))))))))))) (dist_inner _ _ n G hG to c d h0 (by omega) (dIn d G 0 out false) ?_ _ 0 out false rfl ho (by rw [List.drop_zero]))
      generalize hX : dIn d G 0 out false = X at hT hcn hln
      obtain ⟨out2, ch2⟩ := X
      simp only at hT hcn hln
      refine run_blk ?_
      refine at_seq [1, 1, 1, 0, 1, 0, 0, 1, 1, 0] [1, 1, 1, 0, 1, 0, 0, 1, 1, 1] rfl ?_
      refine at_seq [1, 1, 1, 0, 1, 0, 0, 1, 1, 0, 0] [1, 1, 1, 0, 1, 0, 0, 1, 1, 0, 1] rfl ?_
      refine at_region rfl ?_
      refine at_op (some 45) rfl rfl rfl rfl (op_loadP1 rfl fone_int (dSt_get _ _ _ _) rfl) (by dsimp only [putD, List.set]) ?_
      refine at_end rfl ?_
      refine run_cv (cv_frz [2 + c] (.keep (.keep (.keep (.keep (.keep (.keep (.keep (.keep (.keep (.keep (.keep (.keep (.keep (.keep (.keep (.keep (.keep (.keep (.keep (.keep (.keep (.keep (.keep (.keep (.keep (.keep (.keep (.keep (.keep (.keep (.keep (.keep (.keep (.keep (.keep (.keep (.keep (.keep (.keep (.keep (.keep (.keep (.keep (.keep (.keep (.keep (.keep .nil)))))))))))))))))))))))))))))))))))))))))))))))) ?_
      simp only [killH, List.foldl, dSt_kill]
      refine at_region rfl ?_
      refine at_opS (some 6) rfl rfl rfl rfl (op_allocC rfl fzero_int _ _ _) (by dsimp only [putD, List.set]) (by dsimp only [List.set, List.append, List.cons_append, List.nil_append, cellsD, List.map, repl, List.length, Nat.reduceAdd, if_true, ↓reduceIte]; first | done | rfl) ?_
      refine at_st1 6 (.tmp 45) rfl rfl rfl rfl rfl (ev_tmp rfl) rfl fone_int (dSt_get _ _ _ _) (by simp) rfl ?_
      rw [dSt_set]
      dsimp only [List.set]
      refine at_end rfl ?_
      refine at_region rfl ?_
      refine at_op (some 19) rfl rfl rfl rfl (op_loadP1 rfl fone_int (dSt_get _ _ _ _) rfl) (by dsimp only [putD, List.set]) ?_
      refine at_op (some 20) rfl rfl rfl rfl (op_binI rfl rfl) (by dsimp only [putD, List.set]) ?_
      rw [wrap_id (by omega) (by omega)]
      refine at_st1 6 (.tmp 20) rfl rfl rfl rfl rfl (ev_tmp rfl) rfl fone_int (dSt_get _ _ _ _) (by simp) rfl ?_
      rw [dSt_set]
      dsimp only [List.set]
      refine at_end rfl ?_
      exact run_wk (.drop (.keep (.keep (.drop (.drop (.keep (.keep (.keep (.drop (.drop (.drop (.drop (.drop (.drop (.drop (.drop (.drop (.drop (.drop (.drop (.drop (.drop (.drop (.drop (.drop (.drop (.drop (.drop (.drop (.drop (.drop (.drop (.drop (.drop (.drop (.drop (.drop (.drop (.drop (.drop (.drop (.drop (.drop (.drop (.drop (.drop (.drop .nil))))))))))))))))))))))))))))))))))))))))))))))) (ih f' (by omega) f' (c + 1) (d + 1) out2 ch2 rfl (by omega) (by omega) (by omega) (fun h => by have h2 := hcn h; simp at h2; omega) hT)
    · skip
      have hch : ch = false := hc1
      subst hch
      rw [if_neg (by simp)] at hT
      subst hT
      refine run_wk (.drop (.drop (.drop (.drop (.drop (.keep (.drop (.drop (.drop (.drop (.drop (.drop (.drop (.drop (.drop (.drop (.drop (.drop (.drop (.drop (.drop (.drop (.drop (.drop (.drop (.drop (.drop (.drop (.drop (.drop (.drop (.drop (.drop (.drop (.drop (.drop (.drop (.drop (.drop (.drop (.drop (.drop (.drop (.drop (.drop (.drop (.drop .nil))))))))))))))))))))))))))))))))))))))))))))))) ?_
      refine run_cv (cv_frz [0, 1] (.keep (.keep (.keep (.keep (.keep (.view (lend_var rfl rfl (lend_ints (out := T) rfl ho.symm)) (.keep (.keep (.keep (.keep (.keep (.keep (.keep (.keep (.keep (.keep (.keep (.keep (.keep (.keep (.keep (.keep (.keep (.keep (.keep (.keep (.keep (.keep (.keep (.keep (.keep (.keep (.keep (.keep (.keep (.keep (.keep (.keep (.keep (.keep (.keep (.keep (.keep (.keep (.keep (.keep (.keep .nil)))))))))))))))))))))))))))))))))))))))))))))))) ?_
      refine at_exit rfl rfl ?_
      refine at_seq [1, 1, 1, 1, 0] [1, 1, 1, 1, 1] rfl ?_
      refine at_region rfl ?_
      first | (refine at_op (some 46) rfl rfl rfl rfl (op_loadR1 rfl fone_Sint rfl) (by dsimp only [putD, List.set]) ?_) | (refine at_op (some 46) rfl rfl rfl rfl (op_loadP1 rfl fone_Sint rfl rfl) (by dsimp only [putD, List.set]) ?_)
      refine at_mv 46 4 rfl rfl rfl (.inr rfl) rfl (by dsimp only [List.set]) ?_
      refine at_end rfl ?_
      refine at_ret rfl (ret_one (t := 4) rfl rfl ?_ rfl)
      rfl

set_option maxRecDepth 20000 in
theorem dist_spec (n : Nat) (G : List (List Arc)) (hG : GOK n G) (h6 : n ≤ 6) (to : Nat) (hto : to < n) : FSpec PP 41 [.v (vG n G), di ↑to] σ0 (.v (vl (distM G n to))) σ0 := by
  have hn := hG.le
  refine spec_at cDist Tryz.func41 rfl (by kernel_rfl) (by first | decide | simp) _ (by dsimp only [Tryz.f41, List.length, Nat.reduceAdd, Nat.reduceSub, List.replicate, List.cons_append, List.nil_append]) ?_
  refine at_seq [0] [1] rfl ?_
  refine at_region rfl ?_
  refine at_op (some 2) rfl rfl rfl rfl (op_boxI rfl rfl) (by dsimp only [putD, List.set]) ?_
  refine at_mc 4 rfl rfl rfl (.inr rfl) (by dsimp only [constD]) (by dsimp only [List.set]) ?_
  refine at_end rfl ?_
  refine at_seq [1, 0] [1, 1] rfl ?_
  refine at_region rfl ?_
  refine at_op (some 10) rfl rfl rfl rfl (op_buildSlice rfl (by rfl) (by rfl) fsl_Sint rfl rfl (by simp [V.size]) (by decide) (by decide) (by decide)) (by dsimp only [putD, List.set]) ?_
  first | (refine at_op (some 11) rfl rfl rfl rfl (op_fieldP rfl ffld0_api_Graph (by decide)) (by dsimp only [putD, List.set]) ?_) | (refine at_op (some 11) rfl rfl rfl rfl (op_fieldR rfl ffld0_api_Graph (by decide) (by decide) rfl) (by dsimp only [putD, List.set]) ?_)
  first | (refine at_op (some 12) rfl rfl rfl rfl (op_loadR1 rfl fone_Sapi_Value rfl) (by dsimp only [putD, List.set]) ?_) | (refine at_op (some 12) rfl rfl rfl rfl (op_loadP1 rfl fone_Sapi_Value rfl rfl) (by dsimp only [putD, List.set]) ?_)
  first | (refine at_op (some 13) rfl rfl rfl rfl (op_lenL rfl fu_Sapi_Value) (by dsimp only [putD, List.set]) ?_) | (refine at_op (some 13) rfl rfl rfl rfl (opOK_un (op_lenL rfl fu_Sapi_Value)) (by dsimp only [putD, List.set]) ?_) | (refine at_op (some 13) rfl rfl rfl rfl (op_lenA rfl fu_Sapi_Value) (by dsimp only [putD, List.set]) ?_)
  simp only [List.length_map, List.length_range]
  refine at_opS (some 14) rfl rfl rfl rfl (op_call0_arr rfl rfl rfl (pls_rep n) (rep_spec n hG.pos h6)) (by dsimp only [putD, List.set]) (by dsimp only [List.set, List.append, List.cons_append, List.nil_append, cellsD, List.map, repl, List.length, Nat.reduceAdd, if_true, ↓reduceIte]; first | done | rfl) ?_
  refine at_opS (some 5) rfl rfl rfl rfl (op_alloc rfl fzero_Sint) (by dsimp only [putD, List.set]) (by dsimp only [List.set, List.append, List.cons_append, List.nil_append, cellsD, List.map, repl, List.length, Nat.reduceAdd, if_true, ↓reduceIte]; first | done | rfl) ?_
  refine at_st1 5 (.tmp 14) rfl rfl rfl rfl rfl (ev_tmp rfl) rfl fone_Sint rfl (by first | decide | simp | (simp; omega)) (by dsimp only [List.set, List.append, List.cons_append, List.nil_append, cellsD, List.map, repl, List.length, Nat.reduceAdd, if_true, ↓reduceIte]; first | done | rfl) ?_
  refine at_end rfl ?_
  refine at_seq [1, 1, 0] [1, 1, 1] rfl ?_
  refine at_region rfl ?_
  first | (refine at_op (some 15) rfl rfl rfl rfl (op_loadR1 rfl fone_Sint rfl) (by dsimp only [putD, List.set]) ?_) | (refine at_op (some 15) rfl rfl rfl rfl (op_loadP1 rfl fone_Sint rfl rfl) (by dsimp only [putD, List.set]) ?_)
  refine at_mv 1 16 rfl rfl rfl (.inl rfl) rfl (by dsimp only [List.set]) ?_
  first | (refine at_op (some 17) rfl rfl rfl rfl (op_idxL rfl fsl_Sint (by first | decide | omega) (by first | assumption | exact idx_some (by assumption) | rfl) (by first | rfl | (simp [V.size]; done))) (by dsimp only [putD, List.set]) ?_) | (refine at_op (some 17) rfl rfl rfl rfl (opOK_un (op_idxL rfl fsl_Sint (by first | decide | omega) (by first | assumption | exact idx_some (by assumption) | rfl) (by first | rfl | (simp [V.size]; done)))) (by dsimp only [putD, List.set]) ?_) | (refine at_op (some 17) rfl rfl rfl rfl (op_idxA rfl fsl_Sint (by first | decide | omega) (by first | decide | omega)) (by dsimp only [putD, List.set]) ?_)
  simp only [Nat.zero_add, Nat.mul_one, Int.toNat_natCast]
  refine at_st1 17 (.const _) rfl rfl rfl rfl rfl ((by dsimp only [evD, constD])) rfl fone_int rfl (by simp; omega) (by dsimp only [List.set, List.append, List.cons_append, List.nil_append, cellsD, List.map, repl, List.length, Nat.reduceAdd, if_true, ↓reduceIte]; first | done | rfl) ?_
  rw [dli_start]
  refine at_end rfl ?_
  refine at_seq [1, 1, 1, 0] [1, 1, 1, 1] rfl ?_
  refine at_seq [1, 1, 1, 0, 0] [1, 1, 1, 0, 1] rfl ?_
  refine at_region rfl ?_
  refine at_opS (some 6) rfl rfl rfl rfl (op_alloc rfl fzero_int) (by dsimp only [putD, List.set]) (by dsimp only [List.set, List.append, List.cons_append, List.nil_append, cellsD, List.map, repl, List.length, Nat.reduceAdd, if_true, ↓reduceIte]; first | done | rfl) ?_
  refine at_st1 6 (.const _) rfl rfl rfl rfl rfl ((by dsimp only [evD, constD])) rfl fone_int rfl (by first | decide | simp | (simp; omega)) (by dsimp only [List.set, List.append, List.cons_append, List.nil_append, cellsD, List.map, repl, List.length, Nat.reduceAdd, if_true, ↓reduceIte]; first | done | rfl) ?_
  refine at_mc 7 rfl rfl rfl (.inr rfl) (by dsimp only [constD]) (by dsimp only [List.set]) ?_
  refine at_end rfl ?_
  refine at_block [1, 1, 1, 0, 1, 0] 0 rfl ?_
  refine at_loop [1, 1, 1, 0, 1, 0, 0] rfl ?_
  try simp only [List.length_nil]
  exact run_wk (.drop (.keep (.keep (.drop (.drop (.keep (.keep (.keep (.drop (.drop (.drop (.drop (.drop (.drop (.drop (.drop (.drop (.drop (.drop (.drop (.drop (.drop (.drop (.drop (.drop (.drop (.drop (.drop (.drop (.drop (.drop (.drop (.drop (.drop (.drop (.drop (.drop (.drop (.drop (.drop (.drop (.drop (.drop (.drop (.drop (.drop (.drop .nil))))))))))))))))))))))))))))))))))))))))))))))) (dist_outer n G hG to _ _ (n + 1) 0 0 _ true rfl (by simp) (by omega) (by omega) (fun _ => by have := List.countP_le_length (p := neg) (l := (List.replicate n (-1 : Int)).set to 0); simp at this ⊢; omega) (by rw [if_pos rfl]; rfl))

end Go.Proofs.YtmdipbhjhkckjaaGreat

namespace Go.Proofs.YtmdipbhjhkckjaaGreat
open Go.Dv

/-- distances that lead to `to` -/
structure DOK (n : Nat) (G : List (List Arc)) (to : Nat) (d : List Int) : Prop where
  len : d.length = n
  zero : ∀ i, i < n → (gI d i = 0 ↔ i = to)
  big : ∀ i, i < n → gI d i ≤ 1000
  down : ∀ i, i < n → 0 < gI d i → ∃ a ∈ G.getD i [], gI d a.2.toNat = gI d i - 1
def wayM (G : List (List Arc)) (d : List Int) : Nat → Nat → List Arc
  | 0, _ => []
  | k + 1, x => leastM d k (G.getD x []) false (0, 0) :: wayM G d k (leastM d k (G.getD x []) false (0, 0)).2.toNat
theorem leastM_mem {d : List Int} {x : Int} : ∀ (l : List Arc) (f : Bool) (b : Arc), (f = true → gI d b.2.toNat = x) →
    (f = true ∨ ∃ a ∈ l, gI d a.2.toNat = x) → gI d (leastM d x l f b).2.toNat = x ∧ (leastM d x l f b ∈ l ∨ (f = true ∧ leastM d x l f b = b))
  | [], f, b, hb, h => by
    rcases h with h | ⟨a, ha, _⟩
    · exact ⟨hb h, .inr ⟨h, rfl⟩⟩
    · simp at ha
  | a :: l, f, b, hb, h => by
    simp only [leastM]
    by_cases hq : better d x f b a = true
    · rw [if_pos hq]
      have hx : gI d a.2.toNat = x := by simp only [better, Bool.and_eq_true] at hq; simpa [gI] using hq.1
      obtain ⟨h1, h2⟩ := leastM_mem l true a (fun _ => hx) (.inl rfl)
      refine ⟨h1, .inl ?_⟩
      rcases h2 with h2 | ⟨_, h2⟩
      · exact List.mem_cons_of_mem _ h2
      · rw [h2]; simp
    · rw [if_neg hq]
      have h' : f = true ∨ ∃ a ∈ l, gI d a.2.toNat = x := by
        rcases h with h | ⟨c, hc, hcx⟩
        · exact .inl h
        · rcases List.mem_cons.1 hc with rfl | hc
          · left
            cases f with
            | true => rfl
            | false => exact absurd (by simp only [better]; simpa [gI] using hcx) hq
          · exact .inr ⟨c, hc, hcx⟩
      obtain ⟨h1, h2⟩ := leastM_mem l f b hb h'
      exact ⟨h1, h2.imp (List.mem_cons_of_mem _) id⟩
theorem op_allocR {P : Program} {o : Oper} {e : TypeId} (ho : o.op = .alloc e) (hz : zeroV P e = some [.int .i64 0, .int .i64 0]) (c : Nat) (own : List (Nat × Nat × List V)) :
    OpOK P o [] ⟨List.replicate c none, own⟩ (.ptr c 0) ⟨List.replicate c none ++ [some [di 0, di 0]], own⟩ := by
  have := op_alloc (P := P) (o := o) (σ := ⟨List.replicate c none, own⟩) ho hz
  rw [show (List.replicate c (none : Option (List D))).length = c by simp] at this
  exact this
theorem rep_get1 (c : Nat) (x : Option (List D)) : (List.replicate c none ++ [x])[c]? = some x := by rw [List.getElem?_append_right (by simp)]; simp
theorem rep_set1 (c : Nat) (x y : Option (List D)) : (List.replicate c none ++ [x]).set c y = List.replicate c none ++ [y] := by rw [List.set_append_right _ _ (by simp)]; simp
theorem rep_kill1 (c : Nat) (x : Option (List D)) : (List.replicate c none ++ [x]).set c none = List.replicate (c + 1) none := by rw [rep_set1, List.replicate_succ']
theorem op_storeR {P : Program} {o : Oper} {t : TypeId} {x y : Operand} (ho : o.op = .store t x y) (ht : AggTy P t 2) (c : Nat) (own : List (Nat × Nat × List V)) (a : Arc) :
    OpOK P o [.ptr c 0, .v (vArc a)] ⟨List.replicate c none ++ [some [di 0, di 0]], own⟩ .undef ⟨List.replicate c none ++ [some [di a.1, di a.2]], own⟩ := by
  have := op_store (P := P) (o := o) (σ := ⟨List.replicate c none ++ [some [di 0, di 0]], own⟩) (d := .v (vArc a)) ho rfl ht rfl (q := c) (off := 0) (cs := [di 0, di 0]) (rep_get1 _ _) (by simp)
  rw [rep_set1] at this
  exact this
theorem lend_pair1 {c : Nat} {a : Arc} : lends (lentIn [c] (List.replicate c none ++ [some [di a.1, di a.2]])) 1 (.ptr c 0) (.ref (vArc a)) := by
  refine .inr (.inl ⟨c, 0, [di a.1, di a.2], vArc a, rfl, rfl, by simp [lentIn], fun j y hj => ?_⟩)
  match j, hj with
  | 0, hj => simp [V.cellsV] at hj; subst hj; exact ⟨rfl, di a.1, rfl, _, .same, rfl⟩
  | 1, hj => simp [V.cellsV] at hj; subst hj; exact ⟨rfl, di a.2, rfl, _, .same, rfl⟩
  | j + 2, hj => simp [V.cellsV] at hj

noncomputable def cWay : Code := Tryz.f19.body.getD .skip
set_option maxRecDepth 20000 in
theorem way_loop (n : Nat) (G : List (List Arc)) (hG : GOK n G) (fr to : Nat) (_ : to < n) (d : List Int) (hd : DOK n G to d) (T : List Arc) (m : Nat) : ∀ (j c x : Nat) (acc : List Arc), j = m → x < n → gI d x = j → j + acc.length ≤ 2000 → T = acc ++ wayM G d j x → Run PP (fun env σ1 => ResOK PP Tryz.f19 env σ1 (.tup [.v (vArcs T), db true]) σ0) [.lp (sub cWay [1, 1, 1, 1, 1, 0, 1, 0, 0]), .blk 0, .code (sub cWay [1, 1, 1, 1, 1, 1])] (.undef :: (di ↑fr) :: (di ↑to) :: (.v (.ref (vG n G))) :: .undef :: .undef :: .undef :: .undef :: (dl d) :: (.acc 1 (acc.map vArc)) :: (di ↑x) :: .undef :: .undef :: .undef :: .undef :: .undef :: .undef :: .undef :: .undef :: .undef :: .undef :: .undef :: .undef :: .undef :: .undef :: .undef :: .undef :: .undef :: .undef :: .undef :: .undef :: .undef :: .undef :: .undef :: .undef :: .undef :: .undef :: .undef :: .undef :: .undef :: .undef :: .undef :: .undef :: .undef :: .undef :: .undef :: .undef :: .undef :: .undef :: []) ⟨List.replicate c none, [(1, 2, acc.map vArc)]⟩ := by
  induction m using Nat.strongRecOn with
  | _ m ih =>
    intro j c x acc hm hx hj hal hT
    have hn := hG.le
    have hgl := hG.len
    have hdl := hd.len
    have hz := hd.zero x hx
    refine run_lp ?_
    refine at_seq [1, 1, 1, 1, 1, 0, 1, 0, 0, 0] [1, 1, 1, 1, 1, 0, 1, 0, 0, 1] rfl ?_
    refine at_seq [1, 1, 1, 1, 1, 0, 1, 0, 0, 0, 0] [1, 1, 1, 1, 1, 0, 1, 0, 0, 0, 1] rfl ?_
    refine at_region rfl ?_
    refine at_mv 10 27 rfl rfl rfl (.inl rfl) rfl (by dsimp only [List.set]) ?_
    refine at_mv 2 28 rfl rfl rfl (.inl rfl) rfl (by dsimp only [List.set]) ?_
    refine at_op (some 29) rfl rfl rfl rfl (op_binI rfl rfl) (by dsimp only [putD, List.set]) ?_
    refine at_end rfl ?_
    refine at_cond [1, 1, 1, 1, 1, 0, 1, 0, 0, 0, 1, 0] [1, 1, 1, 1, 1, 0, 1, 0, 0, 0, 1, 1] rfl rfl (fun hc1 => ?_) (fun hc1 => ?_)
    · skip
      have hne : x ≠ to := by simp at hc1; omega
      obtain ⟨k, rfl⟩ : ∃ k, j = k + 1 := ⟨j - 1, by have : ¬ gI d x = 0 := fun h => hne (hz.1 h); omega⟩
      obtain ⟨row, hr⟩ := get_ex (a := G) (i := x) (by omega)
      have hr2 := idx_some (f := vArcs) hr
      obtain ⟨hrl, hrow⟩ := hG.row row (List.mem_of_getElem? hr)
      have hgd : G.getD x [] = row := stepM_get hr
      obtain ⟨y, hy⟩ := get_ex (a := d) (i := x) (by omega)
      have hy2 := idx_some (f := vi) hy
      rw [gI_some hy] at hj
      have hdn := hd.down x hx (by rw [gI_some hy]; omega)
      rw [hgd, gI_some hy, show y - 1 = (k : Int) by omega] at hdn
      simp only [wayM, hgd] at hT
      obtain ⟨hb1, hb2⟩ := leastM_mem (d := d) (x := ↑k) row false (0, 0) (by simp) (.inr hdn)
      generalize hb : (leastM d ↑k row false (0, 0)) = b at hT hb1 hb2
      have hbm : b ∈ row := by rcases hb2 with h | ⟨h, _⟩ <;> simp_all
      have hbr := hrow b hbm
      have hls := least_spec row (by omega) d ↑k (fun a ha => ⟨(hrow a ha).1, by have := hrow a ha; omega⟩)
      rw [hb] at hls
      refine at_skip rfl ?_
      refine at_block [1, 1, 1, 1, 1, 0, 1, 0, 0, 1, 0] 1 rfl ?_
      refine at_seq [1, 1, 1, 1, 1, 0, 1, 0, 0, 1, 0, 0] [1, 1, 1, 1, 1, 0, 1, 0, 0, 1, 0, 1] rfl ?_
      refine at_draw2 mixed rfl 12 [⟨List.replicate c none, [(1, 2, acc.map vArc)]⟩] [⟨List.replicate c none ++ [some [di 0, di 0]], [(1, 2, acc.map vArc)]⟩, ⟨List.replicate c none ++ [some [di b.1, di b.2]], [(1, 2, acc.map vArc)]⟩] (by decide +kernel) rfl ?_
      first | (refine da_quiet2 (some 30) rfl rfl rfl rfl (fun s hs => op_fieldP rfl ffld1_api_Graph (by decide)) (by dsimp only [putD, List.set]) ?_) | (refine da_quiet2 (some 30) rfl rfl rfl rfl (fun s hs => op_fieldR rfl ffld1_api_Graph (by decide) (by decide) rfl) (by dsimp only [putD, List.set]) ?_)
      first | (refine da_quiet2 (some 31) rfl rfl rfl rfl (fun s hs => op_loadR1 rfl fone__5b5d5b5d_api_Arc rfl) (by dsimp only [putD, List.set]) ?_) | (refine da_quiet2 (some 31) rfl rfl rfl rfl (by intro s hs; simp only [List.cons_append, List.nil_append, List.mem_cons, List.not_mem_nil, or_false] at hs; rcases hs with rfl | rfl | rfl <;> exact op_loadP1 rfl fone__5b5d5b5d_api_Arc rfl rfl) (by dsimp only [putD, List.set]) ?_)
      refine da_mv 10 32 rfl rfl rfl (.inl rfl) rfl (by dsimp only [List.set]) ?_
      first | (refine da_quiet2 (some 33) rfl rfl rfl rfl (fun s hs => op_idxL rfl fsl__5b5d5b5d_api_Arc (by first | decide | omega) (by first | assumption | exact idx_some (by assumption) | rfl) (by first | rfl | (simp [V.size]; done))) (by dsimp only [putD, List.set]) ?_) | (refine da_quiet2 (some 33) rfl rfl rfl rfl (fun s hs => opOK_un (op_idxL rfl fsl__5b5d5b5d_api_Arc (by first | decide | omega) (by first | assumption | exact idx_some (by assumption) | rfl) (by first | rfl | (simp [V.size]; done)))) (by dsimp only [putD, List.set]) ?_) | (refine da_quiet2 (some 33) rfl rfl rfl rfl (fun s hs => op_idxA rfl fsl__5b5d5b5d_api_Arc (by first | decide | omega) (by first | decide | omega)) (by dsimp only [putD, List.set]) ?_)
      first | (refine da_quiet2 (some 34) rfl rfl rfl rfl (fun s hs => op_loadR1 rfl fone_Sapi_Arc rfl) (by dsimp only [putD, List.set]) ?_) | (refine da_quiet2 (some 34) rfl rfl rfl rfl (by intro s hs; simp only [List.cons_append, List.nil_append, List.mem_cons, List.not_mem_nil, or_false] at hs; rcases hs with rfl | rfl | rfl <;> exact op_loadP1 rfl fone_Sapi_Arc rfl rfl) (by dsimp only [putD, List.set]) ?_)
      refine da_mv 8 35 rfl rfl rfl (.inl rfl) rfl (by dsimp only [List.set]) ?_
      refine da_mv 8 36 rfl rfl rfl (.inl rfl) rfl (by dsimp only [List.set]) ?_
      refine da_mv 10 37 rfl rfl rfl (.inl rfl) rfl (by dsimp only [List.set]) ?_
      first | (refine da_quiet2 (some 38) rfl rfl rfl rfl (fun s hs => op_idxL rfl fsl_Sint (by first | decide | omega) (by first | assumption | exact idx_some (by assumption) | rfl) (by first | rfl | (simp [V.size]; done))) (by dsimp only [putD, List.set]) ?_) | (refine da_quiet2 (some 38) rfl rfl rfl rfl (fun s hs => opOK_un (op_idxL rfl fsl_Sint (by first | decide | omega) (by first | assumption | exact idx_some (by assumption) | rfl) (by first | rfl | (simp [V.size]; done)))) (by dsimp only [putD, List.set]) ?_) | (refine da_quiet2 (some 38) rfl rfl rfl rfl (fun s hs => op_idxA rfl fsl_Sint (by first | decide | omega) (by first | decide | omega)) (by dsimp only [putD, List.set]) ?_)
      first | (refine da_quiet2 (some 39) rfl rfl rfl rfl (fun s hs => op_loadR1 rfl fone_int rfl) (by dsimp only [putD, List.set]) ?_) | (refine da_quiet2 (some 39) rfl rfl rfl rfl (by intro s hs; simp only [List.cons_append, List.nil_append, List.mem_cons, List.not_mem_nil, or_false] at hs; rcases hs with rfl | rfl | rfl <;> exact op_loadP1 rfl fone_int rfl rfl) (by dsimp only [putD, List.set]) ?_)
      refine da_quiet2 (some 40) rfl rfl rfl rfl (fun s hs => op_binI rfl rfl) (by dsimp only [putD, List.set]) ?_
      rw [wrap_id (by omega) (by omega), show y - 1 = (k : Int) by omega]
      refine da_quiet2 (some 41) rfl rfl rfl rfl (fun s hs => op_call0 rfl rfl rfl rfl hls) (by dsimp only [putD, List.set]) ?_
      refine da_free (some 11) rfl rfl rfl rfl (by simp) (by intro x hx; simp only [List.zip_cons_cons, List.zip_nil_left, List.mem_cons, List.not_mem_nil, or_false] at hx; rcases hx with rfl <;> exact op_allocR rfl fzero_api_Arc _ _) (by dsimp only [putD, List.set]) ?_
      refine da_effT none rfl rfl rfl rfl rfl rfl (by decide +kernel) (op_storeR rfl fagg_api_Arc _ _ _) (by dsimp only [putD, List.set]) ?_
      refine da_end rfl ⟨by decide +kernel, _, rfl, ?_⟩
      refine run_cv (cv_frz [c] (.keep (.keep (.keep (.keep (.keep (.keep (.keep (.keep (.keep (.keep (.keep (.view (lend_pair1 (a := b)) (.keep (.keep (.keep (.keep (.keep (.keep (.keep (.keep (.keep (.keep (.keep (.keep (.keep (.keep (.keep (.keep (.keep (.keep (.keep (.keep (.keep (.keep (.keep (.keep (.keep (.keep (.keep (.keep (.keep (.keep (.keep (.keep (.keep (.keep (.keep (.keep (.keep .nil)))))))))))))))))))))))))))))))))))))))))))))))))) ?_
      simp only [killH, List.foldl, rep_kill1]
      refine at_seq [1, 1, 1, 1, 1, 0, 1, 0, 0, 1, 0, 1, 0] [1, 1, 1, 1, 1, 0, 1, 0, 0, 1, 0, 1, 1] rfl ?_
      refine at_region rfl ?_
      refine at_mv 9 42 rfl rfl rfl (.inl rfl) rfl (by dsimp only [List.set]) ?_
      first | (refine at_op (some 43) rfl rfl rfl rfl (op_loadRA rfl fagg_api_Arc) (by dsimp only [putD, List.set]) ?_) | (refine at_op (some 43) rfl rfl rfl rfl (op_loadPA rfl fagg_api_Arc rfl (by first | decide | simp) rfl) (by dsimp only [putD, List.set]) ?_)
      refine at_op (some 44) rfl rfl rfl rfl (op_buildSlice rfl (by rfl) (by rfl) fsl_Sapi_Arc rfl rfl (by simp [V.size]) (by decide) (by decide) (by decide)) (by dsimp only [putD, List.set]) ?_
      refine at_opS (some 45) rfl rfl rfl rfl (op_append rfl fsl_Sapi_Arc rfl (by simp) (by simp [V.size]) (by simp; omega) (by simp; omega)) (by dsimp only [putD, List.set]) (by dsimp only [List.set, List.append, List.cons_append, List.nil_append, cellsD, List.map, repl, List.length, Nat.reduceAdd, if_true, ↓reduceIte]; first | done | rfl) ?_
      refine at_mv 45 9 rfl rfl rfl (.inr rfl) rfl (by dsimp only [List.set]) ?_
      refine at_end rfl ?_
      rw [show (acc.map vArc ++ [.agg [.int .i64 b.1, .int .i64 b.2]]) = (acc ++ [b]).map vArc by simp]
      refine at_region rfl ?_
      first | (refine at_op (some 46) rfl rfl rfl rfl (op_fieldP rfl ffld1_api_Arc (by decide)) (by dsimp only [putD, List.set]) ?_) | (refine at_op (some 46) rfl rfl rfl rfl (op_fieldR rfl ffld1_api_Arc (by decide) (by decide) rfl) (by dsimp only [putD, List.set]) ?_)
      first | (refine at_op (some 47) rfl rfl rfl rfl (op_loadR1 rfl fone_int rfl) (by dsimp only [putD, List.set]) ?_) | (refine at_op (some 47) rfl rfl rfl rfl (op_loadP1 rfl fone_int rfl rfl) (by dsimp only [putD, List.set]) ?_)
      refine at_mv 47 10 rfl rfl rfl (.inr rfl) rfl (by dsimp only [List.set]) ?_
      refine at_end rfl ?_
      refine run_blk ?_
      rw [show b.2 = ((b.2.toNat : Nat) : Int) by omega]
      exact run_wk (.drop (.keep (.keep (.keep (.drop (.drop (.drop (.drop (.keep (.keep (.keep (.drop (.drop (.drop (.drop (.drop (.drop (.drop (.drop (.drop (.drop (.drop (.drop (.drop (.drop (.drop (.drop (.drop (.drop (.drop (.drop (.drop (.drop (.drop (.drop (.drop (.drop (.drop (.drop (.drop (.drop (.drop (.drop (.drop (.drop (.drop (.drop (.drop (.drop .nil))))))))))))))))))))))))))))))))))))))))))))))))) (ih k (by omega) k (c + 1) b.2.toNat (acc ++ [b]) rfl (by omega) hb1 (by simp; omega) (by rw [hT]; simp))
    · skip
      have hxt : x = to := by simp at hc1; omega
      have hj0 : j = 0 := by have := hz.2 hxt; omega
      subst hj0
      simp only [wayM, List.append_nil] at hT
      subst hT
      refine at_exit rfl rfl ?_
      refine at_seq [1, 1, 1, 1, 1, 1, 0] [1, 1, 1, 1, 1, 1, 1] rfl ?_
      refine at_region rfl ?_
      refine at_mv 9 48 rfl rfl rfl (.inl rfl) rfl (by dsimp only [List.set]) ?_
      refine at_mv 48 6 rfl rfl rfl (.inr rfl) rfl (by dsimp only [List.set]) ?_
      refine at_mc 7 rfl rfl rfl (.inr rfl) (by dsimp only [constD]) (by dsimp only [List.set]) ?_
      refine at_end rfl ?_
      refine at_ret rfl (ret_two (t := 6) (t2 := 7) rfl rfl rfl ?_ ?_ rfl rfl)
      all_goals (rfl)

set_option maxRecDepth 20000 in
theorem way_spec (n : Nat) (G : List (List Arc)) (hG : GOK n G) (h6 : n ≤ 6) (fr to : Nat) (hfr : fr < n) (hto : to < n) (hd : DOK n G to (distM G n to)) : FSpec PP 19 [.v (vG n G), di ↑fr, di ↑to] σ0 ((if gI (distM G n to) fr < 0 then .tup [.v (.list []), db false] else .tup [.v (vArcs (wayM G (distM G n to) (gI (distM G n to) fr).toNat fr)), db true])) σ0 := by
  have hn := hG.le
  have hdl := hd.len
  have hbig := hd.big fr hfr
  obtain ⟨y, hy⟩ := get_ex (a := (distM G n to)) (i := fr) (by omega)
  have hy2 := idx_some (f := vi) hy
  rw [gI_some hy] at hbig ⊢
  refine spec_at cWay Tryz.func19 rfl (by kernel_rfl) (by first | decide | simp) _ (by dsimp only [Tryz.f19, List.length, Nat.reduceAdd, Nat.reduceSub, List.replicate, List.cons_append, List.nil_append]) ?_
  refine at_seq [0] [1] rfl ?_
  refine at_region rfl ?_
  refine at_op (some 3) rfl rfl rfl rfl (op_boxI rfl rfl) (by dsimp only [putD, List.set]) ?_
  refine at_mc 6 rfl rfl rfl (.inr rfl) (by dsimp only [constD]) (by dsimp only [List.set]) ?_
  refine at_mc 7 rfl rfl rfl (.inr rfl) (by dsimp only [constD]) (by dsimp only [List.set]) ?_
  refine at_end rfl ?_
  refine at_seq [1, 0] [1, 1] rfl ?_
  refine at_seq [1, 0, 0] [1, 0, 1] rfl ?_
  refine at_region rfl ?_
  first | (refine at_op (some 12) rfl rfl rfl rfl (op_loadRA rfl fagg_api_Graph) (by dsimp only [putD, List.set]) ?_) | (refine at_op (some 12) rfl rfl rfl rfl (op_loadPA rfl fagg_api_Graph rfl (by first | decide | simp) rfl) (by dsimp only [putD, List.set]) ?_)
  refine at_mv 1 13 rfl rfl rfl (.inl rfl) rfl (by dsimp only [List.set]) ?_
  refine at_mv 2 14 rfl rfl rfl (.inl rfl) rfl (by dsimp only [List.set]) ?_
  refine at_op (some 15) rfl rfl rfl rfl (op_buildSlice rfl (by rfl) (by rfl) fsl_Sint rfl rfl (by simp [V.size]) (by decide) (by decide) (by decide)) (by dsimp only [putD, List.set]) ?_
  refine at_op (some 16) rfl rfl rfl rfl (op_call0 rfl rfl rfl rfl (validH_spec n G hG h6 [(fr : Int), (to : Int)] (by simp; omega) (by simp))) (by dsimp only [putD, List.set]) ?_
  refine at_op (some 17) rfl rfl rfl rfl (op_un rfl rfl) (by dsimp only [putD, List.set]) ?_
  refine at_end rfl ?_
  refine at_cond [1, 0, 1, 0] [1, 0, 1, 1] rfl rfl (fun hc1 => ?_) (fun hc1 => ?_)
  · skip
    exact absurd hc1 (by simp)
  · skip
    refine at_skip rfl ?_
    refine at_seq [1, 1, 0] [1, 1, 1] rfl ?_
    refine at_region rfl ?_
    first | (refine at_op (some 18) rfl rfl rfl rfl (op_loadRA rfl fagg_api_Graph) (by dsimp only [putD, List.set]) ?_) | (refine at_op (some 18) rfl rfl rfl rfl (op_loadPA rfl fagg_api_Graph rfl (by first | decide | simp) rfl) (by dsimp only [putD, List.set]) ?_)
    refine at_mv 2 19 rfl rfl rfl (.inl rfl) rfl (by dsimp only [List.set]) ?_
    refine at_op (some 20) rfl rfl rfl rfl (op_call0 rfl rfl rfl rfl (dist_spec n G hG h6 to hto)) (by dsimp only [putD, List.set]) ?_
    refine at_mv 20 8 rfl rfl rfl (.inr rfl) rfl (by dsimp only [List.set]) ?_
    refine at_end rfl ?_
    refine at_seq [1, 1, 1, 0] [1, 1, 1, 1] rfl ?_
    refine at_seq [1, 1, 1, 0, 0] [1, 1, 1, 0, 1] rfl ?_
    refine at_region rfl ?_
    refine at_mv 8 21 rfl rfl rfl (.inl rfl) rfl (by dsimp only [List.set]) ?_
    refine at_mv 1 22 rfl rfl rfl (.inl rfl) rfl (by dsimp only [List.set]) ?_
    first | (refine at_op (some 23) rfl rfl rfl rfl (op_idxL rfl fsl_Sint (by first | decide | omega) (by first | assumption | exact idx_some (by assumption) | rfl) (by first | rfl | (simp [V.size]; done))) (by dsimp only [putD, List.set]) ?_) | (refine at_op (some 23) rfl rfl rfl rfl (opOK_un (op_idxL rfl fsl_Sint (by first | decide | omega) (by first | assumption | exact idx_some (by assumption) | rfl) (by first | rfl | (simp [V.size]; done)))) (by dsimp only [putD, List.set]) ?_) | (refine at_op (some 23) rfl rfl rfl rfl (op_idxA rfl fsl_Sint (by first | decide | omega) (by first | decide | omega)) (by dsimp only [putD, List.set]) ?_)
    first | (refine at_op (some 24) rfl rfl rfl rfl (op_loadR1 rfl fone_int rfl) (by dsimp only [putD, List.set]) ?_) | (refine at_op (some 24) rfl rfl rfl rfl (op_loadP1 rfl fone_int rfl rfl) (by dsimp only [putD, List.set]) ?_)
    refine at_op (some 25) rfl rfl rfl rfl (op_binI rfl rfl) (by dsimp only [putD, List.set]) ?_
    refine at_end rfl ?_
    refine at_cond [1, 1, 1, 0, 1, 0] [1, 1, 1, 0, 1, 1] rfl rfl (fun hc2 => ?_) (fun hc2 => ?_)
    · skip
      have hneg : y < 0 := by simpa using hc2
      rw [if_pos hneg]
      refine at_seq [1, 1, 1, 0, 1, 0, 0] [1, 1, 1, 0, 1, 0, 1] rfl ?_
      refine at_region rfl ?_
      refine at_mc 6 rfl rfl rfl (.inr rfl) (by dsimp only [constD]) (by dsimp only [List.set]) ?_
      refine at_mc 7 rfl rfl rfl (.inr rfl) (by dsimp only [constD]) (by dsimp only [List.set]) ?_
      refine at_end rfl ?_
      refine at_ret rfl (ret_two (t := 6) (t2 := 7) rfl rfl rfl ?_ ?_ rfl rfl)
      all_goals (rfl)
    · skip
      have hneg : ¬ y < 0 := by simpa using hc2
      rw [if_neg hneg]
      refine at_skip rfl ?_
      refine at_seq [1, 1, 1, 1, 0] [1, 1, 1, 1, 1] rfl ?_
      refine at_region rfl ?_
      refine at_opS (some 9) rfl rfl rfl rfl (op_nilOwn (.inl rfl) 1 2 (by simp) (by decide)) (by dsimp only [putD, List.set]) (by dsimp only [List.set, List.append, List.cons_append, List.nil_append, cellsD, List.map, repl, List.length, Nat.reduceAdd, if_true, ↓reduceIte]; first | done | rfl) ?_
      refine at_end rfl ?_
      refine at_seq [1, 1, 1, 1, 1, 0] [1, 1, 1, 1, 1, 1] rfl ?_
      refine at_seq [1, 1, 1, 1, 1, 0, 0] [1, 1, 1, 1, 1, 0, 1] rfl ?_
      refine at_region rfl ?_
      refine at_mv 1 26 rfl rfl rfl (.inl rfl) rfl (by dsimp only [List.set]) ?_
      refine at_mv 26 10 rfl rfl rfl (.inr rfl) rfl (by dsimp only [List.set]) ?_
      refine at_end rfl ?_
      refine at_block [1, 1, 1, 1, 1, 0, 1, 0] 0 rfl ?_
      refine at_loop [1, 1, 1, 1, 1, 0, 1, 0, 0] rfl ?_
      skip
      exact run_wk (.drop (.keep (.keep (.keep (.drop (.drop (.drop (.drop (.keep (.keep (.keep (.drop (.drop (.drop (.drop (.drop (.drop (.drop (.drop (.drop (.drop (.drop (.drop (.drop (.drop (.drop (.drop (.drop (.drop (.drop (.drop (.drop (.drop (.drop (.drop (.drop (.drop (.drop (.drop (.drop (.drop (.drop (.drop (.drop (.drop (.drop (.drop (.drop (.drop .nil))))))))))))))))))))))))))))))))))))))))))))))))) (way_loop n G hG fr to hto (distM G n to) hd _ _ y.toNat 0 fr [] rfl hfr (by rw [gI_some hy]; omega) (by simp; omega) (by simp))

end Go.Proofs.YtmdipbhjhkckjaaGreat

namespace Go.Proofs.YtmdipbhjhkckjaaGreat
open Go.Dv

theorem arcsM_ok {s : List Int} (hb : BytesOK s) {n : Nat} (hn : 1 ≤ n) : ∀ (c k : Nat), ∀ a ∈ (arcsM s n c k).1, 0 ≤ a.2 ∧ a.2 < n
  | 0, k => by simp [arcsM]
  | c + 1, k => by
    intro a ha
    simp only [arcsM, List.mem_cons] at ha
    rcases ha with rfl | ha
    · exact pkV_range hb _ (by omega)
    · exact arcsM_ok hb hn c _ a ha
theorem graphM_length (s : List Int) (n : Int) : ∀ (c k : Nat), (graphM s n c k).1.length = c
  | 0, k => rfl
  | c + 1, k => by simp [graphM, graphM_length s n c]
theorem graphM_ok {s : List Int} (hb : BytesOK s) {n : Nat} (hn : 1 ≤ n) : ∀ (c k : Nat), ∀ r ∈ (graphM s n c k).1, r.length ≤ 100 ∧ ∀ a ∈ r, 0 ≤ a.2 ∧ a.2 < n
  | 0, k => by simp [graphM]
  | c + 1, k => by
    intro r hr
    simp only [graphM, List.mem_cons] at hr
    rcases hr with rfl | hr
    · refine ⟨?_, arcsM_ok hb hn _ _⟩
      rw [arcsM_length]
      have := pkV_range hb k (n := 4) (by omega)
      omega
    · exact graphM_ok hb hn c _ r hr
/-- what Graph deals is a graph -/
theorem graph_ok {s : List Int} (hb : BytesOK s) (k : Nat) : GOK (nM s k) (graphM s (nM s k) (nM s k) (pkAt s k)).1 := by
  have hn := nM_range hb k
  exact ⟨hn.1, by omega, graphM_length _ _ _ _, graphM_ok hb hn.1 _ _⟩

/- REACHING -/
/-- an arc from x to y -/
def Arr (G : List (List Arc)) (x y : Nat) : Prop := ∃ a ∈ G.getD x [], a.2.toNat = y
inductive Path (G : List (List Arc)) : Nat → Nat → Prop
  | refl (x : Nat) : Path G x x
  | step {x y z : Nat} (h : Arr G x y) (p : Path G y z) : Path G x z
theorem Path.trans {G : List (List Arc)} {x y z : Nat} (p : Path G x y) (q : Path G y z) : Path G x z := by
  induction p with
  | refl => exact q
  | step h _ ih => exact .step h (ih q)
theorem Path.snoc {G : List (List Arc)} {x y z : Nat} (p : Path G x y) (h : Arr G y z) : Path G x z := p.trans (.step h (.refl z))

/- DISTANCES -/
structure DIn (n : Nat) (G : List (List Arc)) (to : Nat) (b : Int) (d : List Int) : Prop where
  len : d.length = n
  zero : ∀ i, i < n → (gI d i = 0 ↔ i = to)
  big : ∀ i, i < n → gI d i ≤ b
  down : ∀ i, i < n → 0 < gI d i → ∃ a ∈ G.getD i [], gI d a.2.toNat = gI d i - 1
theorem gI_set {d : List Int} {i j : Nat} {x : Int} (h : i < d.length) : gI (d.set i x) j = if i = j then x else gI d j := by
  simp only [gI, List.getD_eq_getElem?_getD, List.getElem?_set]
  by_cases hij : i = j
  · subst hij; simp [h]
  · simp [hij]
theorem DIn.mono {n : Nat} {G : List (List Arc)} {to : Nat} {b b' : Int} {d : List Int} (h : DIn n G to b d) (hb : b ≤ b') : DIn n G to b' d :=
  ⟨h.len, h.zero, fun i hi => Int.le_trans (h.big i hi) hb, h.down⟩
theorem DIn.set {n : Nat} {G : List (List Arc)} {to : Nat} {b x : Int} {d : List Int} (h : DIn n G to b d) {i : Nat} (hi : i < n) (hneg : gI d i < 0) (hx : 0 ≤ x) (hb : x + 1 ≤ b) (hit : hitM x d (G.getD i []) = true) : DIn n G to b (d.set i (x + 1)) := by
  have hl : i < d.length := by rw [h.len]; exact hi
  refine ⟨by simp [h.len], fun j hj => ?_, fun j hj => ?_, fun j hj hp => ?_⟩
  · rw [gI_set hl]
    split
    · rename_i e; subst e
      have := h.zero i hi
      constructor
      · intro h'; omega
      · intro h'; have := this.2 h'; omega
    · exact h.zero j hj
  · rw [gI_set hl]
    split
    · exact hb
    · exact h.big j hj
  · rw [gI_set hl] at hp ⊢
    split
    · rename_i e; subst e
      simp only [hitM, List.any_eq_true, beq_iff_eq] at hit
      obtain ⟨a, ha, hax⟩ := hit
      refine ⟨a, ha, ?_⟩
      rw [gI_set hl, if_neg (by rintro rfl; omega)]; omega
    · rename_i e
      rw [if_neg e] at hp
      obtain ⟨a, ha, hax⟩ := h.down j hj hp
      refine ⟨a, ha, ?_⟩
      rw [gI_set hl, if_neg (by rintro rfl; omega)]; exact hax
theorem dIn_inv {n : Nat} {G : List (List Arc)} {to : Nat} {b x : Int} (hG : G.length = n) (hx : 0 ≤ x) (hb : x + 1 ≤ b) : ∀ (m i : Nat) (d : List Int) (ch : Bool), n - i = m → DIn n G to b d → DIn n G to b (dIn x (G.drop i) i d ch).1
  | 0, i, d, ch, hm, h => by rw [List.drop_of_length_le (by omega)]; exact h
  | m + 1, i, d, ch, hm, h => by
    have hi : i < G.length := by omega
    rw [List.drop_eq_getElem_cons hi]
    unfold dIn
    split
    · rename_i hc
      simp only [Bool.and_eq_true, decide_eq_true_eq] at hc
      have hg : G.getD i [] = G[i] := by simp [List.getD_eq_getElem?_getD, hi]
      exact dIn_inv hG hx hb m (i + 1) _ _ (by omega) (h.set (by omega) hc.1 hx hb (by rw [hg]; exact hc.2))
    · exact dIn_inv hG hx hb m (i + 1) _ _ (by omega) h
theorem dOut_inv {n : Nat} {G : List (List Arc)} {to : Nat} (hG : G.length = n) : ∀ (f : Nat) (x b : Int) (d : List Int), 0 ≤ x → x + f ≤ b → DIn n G to b d → DIn n G to b (dOut G f x d)
  | 0, x, b, d, _, _, h => h
  | f + 1, x, b, d, hx, hb, h => by
    have h1 := dIn_inv (b := b) hG hx (by omega) n 0 d false (by omega) h
    rw [List.drop_zero] at h1
    unfold dOut
    split
    · exact dOut_inv hG f (x + 1) b _ (by omega) (by omega) h1
    · exact h1
theorem dist_ok {n : Nat} {G : List (List Arc)} (hG : GOK n G) {to : Nat} (hto : to < n) : DOK n G to (distM G n to) := by
  have hn := hG.le
  have h0 : ∀ i, i < n → gI ((List.replicate n (-1 : Int)).set to 0) i = if to = i then 0 else -1 := fun i hi => by
    rw [gI_set (by simp; exact hto)]
    split
    · rfl
    · simp [gI, List.getD_eq_getElem?_getD, hi]
  have h : DIn n G to 1000 (distM G n to) := by
    refine dOut_inv hG.len _ _ _ _ (by omega) (by omega) ⟨by simp, fun i hi => ?_, fun i hi => ?_, fun i hi hp => ?_⟩
    · rw [h0 i hi]; split
      · rename_i e; simp [e]
      · rename_i e; constructor
        · intro h; omega
        · intro h; exact absurd h.symm e
    · rw [h0 i hi]; split <;> omega
    · rw [h0 i hi] at hp; split at hp <;> omega
  exact ⟨h.len, h.zero, h.big, h.down⟩
end Go.Proofs.YtmdipbhjhkckjaaGreat

namespace Go.Proofs.YtmdipbhjhkckjaaGreat
open Go.Dv

theorem gb_true {l : List Bool} {i : Nat} : gb l i = true ↔ l[i]? = some true := by
  simp only [gb, List.getD_eq_getElem?_getD]
  cases h : l[i]? with
  | none => simp
  | some b => simp
theorem stepM_mem {n : Nat} : ∀ (r : List Arc) (out : List Bool) (todo : List Nat), out.length = n → (∀ a ∈ r, 0 ≤ a.2 ∧ a.2 < n) →
    (∀ a ∈ r, gb (stepM r out todo).1 a.2.toNat = true) ∧
    (∀ y, gb (stepM r out todo).1 y = true → gb out y = true ∨ ((∃ a ∈ r, a.2.toNat = y) ∧ y ∈ (stepM r out todo).2)) ∧
    (∀ y ∈ todo, y ∈ (stepM r out todo).2) ∧ (∀ y ∈ (stepM r out todo).2, y ∈ todo ∨ gb (stepM r out todo).1 y = true)
  | [], out, todo, _, _ => ⟨by simp, fun y h => .inl h, fun y h => h, fun y h => .inl h⟩
  | a :: r, out, todo, hl, hr => by
    have ha := hr a (by simp)
    have hr' : ∀ b ∈ r, 0 ≤ b.2 ∧ b.2 < n := fun b hb => hr b (by simp [hb])
    unfold stepM
    split
    · rename_i hf
      obtain ⟨h1, h2, h3, h4⟩ := stepM_mem r (out.set a.2.toNat true) (todo ++ [a.2.toNat]) (by simp [hl]) hr'
      have hself : gb (stepM r (out.set a.2.toNat true) (todo ++ [a.2.toNat])).1 a.2.toNat = true := gb_true.2 (stepM_keep _ _ _ (by rw [List.getElem?_set]; simp; omega))
      refine ⟨fun b hb => ?_, fun y hy => ?_, fun y hy => h3 y (by simp [hy]), fun y hy => ?_⟩
      · rcases List.mem_cons.1 hb with rfl | hb
        · exact hself
        · exact h1 b hb
      · rcases h2 y hy with h | ⟨⟨b, hb, e⟩, h⟩
        · by_cases e : a.2.toNat = y
          · exact .inr ⟨⟨a, by simp, e⟩, h3 y (by simp [e])⟩
          · left
            rw [gb_true, List.getElem?_set, if_neg e] at h
            exact gb_true.2 h
        · exact .inr ⟨⟨b, by simp [hb], e⟩, h⟩
      · rcases h4 y hy with h | h
        · rcases List.mem_append.1 h with h | h
          · exact .inl h
          · simp at h; subst h; exact .inr hself
        · exact .inr h
    · rename_i hf
      obtain ⟨h1, h2, h3, h4⟩ := stepM_mem r out todo hl hr'
      refine ⟨fun b hb => ?_, fun y hy => ?_, h3, h4⟩
      · rcases List.mem_cons.1 hb with rfl | hb
        · obtain ⟨c, hc⟩ := get_ex (a := out) (i := b.2.toNat) (by omega)
          cases c with
          | true => exact gb_true.2 (stepM_keep _ _ _ hc)
          | false => exact absurd hc hf
        · exact h1 b hb
      · rcases h2 y hy with h | ⟨⟨b, hb, e⟩, h⟩
        · exact .inl h
        · exact .inr ⟨⟨b, by simp [hb], e⟩, h⟩

theorem bfsM_ok {n : Nat} {G : List (List Arc)} (hG : GOK n G) (x : Nat) : ∀ (f : Nat) (out : List Bool) (todo : List Nat), out.length = n → todo.length + out.count false ≤ f → (∀ y ∈ todo, gb out y = true) → (∀ y, gb out y = true → Path G x y) →
    (∀ y, gb out y = true → y ∈ todo ∨ ∀ a ∈ G.getD y [], gb out a.2.toNat = true) →
    (∀ y, gb (bfsM G f out todo) y = true → Path G x y) ∧ (∀ y, gb (bfsM G f out todo) y = true → ∀ a ∈ G.getD y [], gb (bfsM G f out todo) a.2.toNat = true)
  | 0, out, todo, hl, hf, hB, hA, hC => by
    have ht : todo = [] := List.eq_nil_of_length_eq_zero (by omega)
    subst ht
    exact ⟨hA, fun y hy => (hC y hy).resolve_left (by simp)⟩
  | f + 1, out, [], hl, hf, hB, hA, hC => ⟨hA, fun y hy => (hC y hy).resolve_left (by simp)⟩
  | f + 1, out, z :: todo, hl, hf, hB, hA, hC => by
    have hrow : ∀ a ∈ G.getD z [], 0 ≤ a.2 ∧ a.2 < n := by
      intro a ha
      cases hz : G[z]? with
      | none => simp [List.getD_eq_getElem?_getD, hz] at ha
      | some r => rw [stepM_get hz] at ha; exact (hG.row r (List.mem_of_getElem? hz)).2 a ha
    obtain ⟨h1, h2, h3, h4⟩ := stepM_mem (G.getD z []) out todo hl hrow
    have hcnt := stepM_count (G.getD z []) out todo
    have hkeep : ∀ y, gb out y = true → gb (stepM (G.getD z []) out todo).1 y = true := fun y hy => gb_true.2 (stepM_keep _ _ _ (gb_true.1 hy))
    simp only [bfsM]
    refine bfsM_ok hG x f _ _ (by rw [stepM_length, hl]) (by simp at hf; omega) (fun y hy => ?_) (fun y hy => ?_) (fun y hy => ?_)
    · rcases h4 y hy with h | h
      · exact hkeep y (hB y (by simp [h]))
      · exact h
    · rcases h2 y hy with h | ⟨⟨a, ha, e⟩, _⟩
      · exact hA y h
      · exact (hA z (hB z (by simp))).snoc ⟨a, ha, e⟩
    · rcases h2 y hy with h | ⟨_, h⟩
      · rcases hC y h with h' | h'
        · rcases List.mem_cons.1 h' with rfl | h'
          · exact .inr h1
          · exact .inl (h3 y h')
        · exact .inr fun a ha => hkeep _ (h' a ha)
      · exact .inl h
/-- WHAT IS REACHED -/
theorem reachM_iff {n : Nat} {G : List (List Arc)} (hG : GOK n G) {x : Nat} (hx : x < n) (y : Nat) : gb (reachM G n x) y = true ↔ Path G x y := by
  have h0 : ∀ z, gb ((List.replicate n false).set x true) z = true ↔ z = x := fun z => by
    rw [gb_true, List.getElem?_set]
    by_cases e : x = z
    · subst e; simp [hx]
    · rw [if_neg e]; simp [List.getElem?_replicate]; omega
  obtain ⟨h1, h2⟩ := bfsM_ok hG x (n + 1) ((List.replicate n false).set x true) [x] (by simp) (by have := List.count_le_length (a := false) (l := (List.replicate n false).set x true); simp at this ⊢; omega)
    (by simp [h0]) (fun z hz => by rw [(h0 z).1 hz]; exact .refl x) (fun z hz => .inl (by rw [(h0 z).1 hz]; simp))
  refine ⟨h1 y, fun p => ?_⟩
  have gen : ∀ {u v : Nat}, Path G u v → gb (reachM G n x) u = true → gb (reachM G n x) v = true := by
    intro u v p
    induction p with
    | refl => exact id
    | step h _ ih =>
      intro hu
      obtain ⟨a, ha, rfl⟩ := h
      exact ih (h2 _ hu a ha)
  exact gen p (reachM_self hx)
end Go.Proofs.YtmdipbhjhkckjaaGreat

namespace Go.Proofs.YtmdipbhjhkckjaaGreat
open Go.Dv


noncomputable def cInts : Code := Tryz.f23.body.getD .skip
set_option maxRecDepth 20000 in
theorem ints_loop (a b : List Nat) (hl : a.length = b.length) (ha : a.length ≤ 1000) (T : Bool) (m : Nat) : ∀ (i : Nat), a.length - i = m → T = decide (a.drop i = b.drop i) → Run PP (fun env σ1 => ResOK PP Tryz.f23 env σ1 (db T) σ0) [.lp (sub cInts [1, 1, 0, 1, 0, 0]), .blk 0, .code (sub cInts [1, 1, 1])] ((.v (.list (vns a))) :: (.v (.list (vns b))) :: .undef :: .undef :: .undef :: .undef :: .undef :: .undef :: .undef :: .undef :: .undef :: (.v (.list (vns a))) :: (di ↑a.length) :: (di ↑i) :: .undef :: .undef :: .undef :: .undef :: .undef :: .undef :: .undef :: .undef :: .undef :: .undef :: .undef :: .undef :: []) σ0 := by
  induction m using Nat.strongRecOn with
  | _ m ih =>
    intro i hm hT
    refine run_lp ?_
    refine at_seq [1, 1, 0, 1, 0, 0, 0] [1, 1, 0, 1, 0, 0, 1] rfl ?_
    refine at_region rfl ?_
    refine at_op (some 14) rfl rfl rfl rfl (op_binI rfl rfl) (by dsimp only [putD, List.set]) ?_
    refine at_end rfl ?_
    refine at_seq [1, 1, 0, 1, 0, 0, 1, 0] [1, 1, 0, 1, 0, 0, 1, 1] rfl ?_
    refine at_cond [1, 1, 0, 1, 0, 0, 1, 0, 0] [1, 1, 0, 1, 0, 0, 1, 0, 1] rfl rfl (fun hc1 => ?_) (fun hc1 => ?_)
    · skip
      have hlt : i < a.length := by simpa using hc1
      obtain ⟨x, hx⟩ := get_ex hlt
      obtain ⟨y, hy⟩ := get_ex (a := b) (i := i) (by omega)
      have hx2 := idx_some (f := vn) hx
      have hy2 := idx_some (f := vn) hy
      rw [List.drop_eq_getElem_cons hlt, List.drop_eq_getElem_cons (show i < b.length by omega), (List.getElem?_eq_some_iff.1 hx).2, (List.getElem?_eq_some_iff.1 hy).2] at hT
      refine at_skip rfl ?_
      refine at_seq [1, 1, 0, 1, 0, 0, 1, 1, 0] [1, 1, 0, 1, 0, 0, 1, 1, 1] rfl ?_
      refine at_block [1, 1, 0, 1, 0, 0, 1, 1, 0, 0] 1 rfl ?_
      refine at_seq [1, 1, 0, 1, 0, 0, 1, 1, 0, 0, 0] [1, 1, 0, 1, 0, 0, 1, 1, 0, 0, 1] rfl ?_
      refine at_region rfl ?_
      refine at_mv 13 15 rfl rfl rfl (.inl rfl) rfl (by dsimp only [List.set]) ?_
      refine at_mv 15 5 rfl rfl rfl (.inr rfl) rfl (by dsimp only [List.set]) ?_
      refine at_end rfl ?_
      refine at_seq [1, 1, 0, 1, 0, 0, 1, 1, 0, 0, 1, 0] [1, 1, 0, 1, 0, 0, 1, 1, 0, 0, 1, 1] rfl ?_
      refine at_draw mixed rfl [σ0] rfl ?_
      refine da_mv 0 16 rfl rfl rfl (.inl rfl) rfl (by dsimp only [List.set]) ?_
      refine da_mv 5 17 rfl rfl rfl (.inl rfl) rfl (by dsimp only [List.set]) ?_
      first | (refine da_quiet (some 18) rfl rfl rfl rfl (fun s hs => op_idxL rfl fsl_Sint (by first | decide | omega) (by first | assumption | exact idx_some (by assumption) | rfl) (by first | rfl | (simp [V.size]; done))) (by dsimp only [putD, List.set]) ?_) | (refine da_quiet (some 18) rfl rfl rfl rfl (fun s hs => opOK_un (op_idxL rfl fsl_Sint (by first | decide | omega) (by first | assumption | exact idx_some (by assumption) | rfl) (by first | rfl | (simp [V.size]; done)))) (by dsimp only [putD, List.set]) ?_) | (refine da_quiet (some 18) rfl rfl rfl rfl (fun s hs => op_idxA rfl fsl_Sint (by first | decide | omega) (by first | decide | omega)) (by dsimp only [putD, List.set]) ?_)
      first | (refine da_quiet (some 19) rfl rfl rfl rfl (fun s hs => op_loadR1 rfl fone_int rfl) (by dsimp only [putD, List.set]) ?_) | (refine da_quiet (some 19) rfl rfl rfl rfl (by intro s hs; simp only [List.mem_cons, List.not_mem_nil, or_false] at hs; rcases hs with rfl <;> exact op_loadP1 rfl fone_int rfl rfl) (by dsimp only [putD, List.set]) ?_)
      refine da_mv 1 20 rfl rfl rfl (.inl rfl) rfl (by dsimp only [List.set]) ?_
      refine da_mv 5 21 rfl rfl rfl (.inl rfl) rfl (by dsimp only [List.set]) ?_
      first | (refine da_quiet (some 22) rfl rfl rfl rfl (fun s hs => op_idxL rfl fsl_Sint (by first | decide | omega) (by first | assumption | exact idx_some (by assumption) | rfl) (by first | rfl | (simp [V.size]; done))) (by dsimp only [putD, List.set]) ?_) | (refine da_quiet (some 22) rfl rfl rfl rfl (fun s hs => opOK_un (op_idxL rfl fsl_Sint (by first | decide | omega) (by first | assumption | exact idx_some (by assumption) | rfl) (by first | rfl | (simp [V.size]; done)))) (by dsimp only [putD, List.set]) ?_) | (refine da_quiet (some 22) rfl rfl rfl rfl (fun s hs => op_idxA rfl fsl_Sint (by first | decide | omega) (by first | decide | omega)) (by dsimp only [putD, List.set]) ?_)
      first | (refine da_quiet (some 23) rfl rfl rfl rfl (fun s hs => op_loadR1 rfl fone_int rfl) (by dsimp only [putD, List.set]) ?_) | (refine da_quiet (some 23) rfl rfl rfl rfl (by intro s hs; simp only [List.mem_cons, List.not_mem_nil, or_false] at hs; rcases hs with rfl <;> exact op_loadP1 rfl fone_int rfl rfl) (by dsimp only [putD, List.set]) ?_)
      refine da_quiet (some 24) rfl rfl rfl rfl (fun s hs => op_binI rfl rfl) (by dsimp only [putD, List.set]) ?_
      refine da_end rfl ⟨by decide +kernel, _, rfl, ?_⟩
      refine at_cond [1, 1, 0, 1, 0, 0, 1, 1, 0, 0, 1, 1, 0] [1, 1, 0, 1, 0, 0, 1, 1, 0, 0, 1, 1, 1] rfl rfl (fun hc2 => ?_) (fun hc2 => ?_)
      · skip
        have hne : ¬ x = y := by intro e; subst e; simp at hc2
        have hT2 : T = false := by rw [hT]; simp [hne]
        subst hT2
        refine at_seq [1, 1, 0, 1, 0, 0, 1, 1, 0, 0, 1, 1, 0, 0] [1, 1, 0, 1, 0, 0, 1, 1, 0, 0, 1, 1, 0, 1] rfl ?_
        refine at_region rfl ?_
        refine at_mc 4 rfl rfl rfl (.inr rfl) (by dsimp only [constD]) (by dsimp only [List.set]) ?_
        refine at_end rfl ?_
        refine at_ret rfl (ret_one (t := 4) rfl rfl ?_ rfl)
        first | rfl | (rw [hT]; rfl) | (rw [hT]; simp)
      · skip
        have he : x = y := by simp at hc2; omega
        subst he
        have hT2 : T = decide (a.drop (i + 1) = b.drop (i + 1)) := by rw [hT]; simp
        refine at_skip rfl ?_
        refine run_blk ?_
        refine at_region rfl ?_
        refine at_op (some 25) rfl rfl rfl rfl (op_binI rfl rfl) (by dsimp only [putD, List.set]) ?_
        rw [wrap_succ (by omega)]
        refine at_mv 25 13 rfl rfl rfl (.inl rfl) rfl (by dsimp only [List.set]) ?_
        refine at_end rfl ?_
        exact run_wk (.keep (.keep (.drop (.drop (.drop (.drop (.drop (.drop (.drop (.drop (.drop (.keep (.keep (.keep (.drop (.drop (.drop (.drop (.drop (.drop (.drop (.drop (.drop (.drop (.drop (.drop .nil)))))))))))))))))))))))))) (ih _ (by omega) (i + 1) rfl hT2)
    · skip
      have hge : a.length ≤ i := by simpa using hc1
      rw [List.drop_of_length_le hge, List.drop_of_length_le (by omega)] at hT
      refine at_exit rfl rfl ?_
      refine at_seq [1, 1, 1, 0] [1, 1, 1, 1] rfl ?_
      refine at_region rfl ?_
      refine at_mc 4 rfl rfl rfl (.inr rfl) (by dsimp only [constD]) (by dsimp only [List.set]) ?_
      refine at_end rfl ?_
      refine at_ret rfl (ret_one (t := 4) rfl rfl ?_ rfl)
      first | rfl | (rw [hT]; rfl) | (rw [hT]; simp)

set_option maxRecDepth 20000 in
theorem ints_spec (a b : List Nat) (ha : a.length ≤ 1000) (hb : b.length ≤ 1000) : FSpec PP 23 [.v (.list (vns a)), .v (.list (vns b))] σ0 (db (decide (a = b))) σ0 := by
  refine spec_at cInts Tryz.func23 rfl (by kernel_rfl) (by first | decide | simp) _ (by dsimp only [Tryz.f23, List.length, Nat.reduceAdd, Nat.reduceSub, List.replicate, List.cons_append, List.nil_append]) ?_
  refine at_seq [0] [1] rfl ?_
  refine at_region rfl ?_
  refine at_mc 4 rfl rfl rfl (.inr rfl) (by dsimp only [constD]) (by dsimp only [List.set]) ?_
  refine at_end rfl ?_
  refine at_seq [1, 0] [1, 1] rfl ?_
  refine at_seq [1, 0, 0] [1, 0, 1] rfl ?_
  refine at_region rfl ?_
  refine at_mv 0 6 rfl rfl rfl (.inl rfl) rfl (by dsimp only [List.set]) ?_
  first | (refine at_op (some 7) rfl rfl rfl rfl (op_lenL rfl fu_Sint) (by dsimp only [putD, List.set]) ?_) | (refine at_op (some 7) rfl rfl rfl rfl (opOK_un (op_lenL rfl fu_Sint)) (by dsimp only [putD, List.set]) ?_) | (refine at_op (some 7) rfl rfl rfl rfl (op_lenA rfl fu_Sint) (by dsimp only [putD, List.set]) ?_)
  simp only [List.length_map]
  refine at_mv 1 8 rfl rfl rfl (.inl rfl) rfl (by dsimp only [List.set]) ?_
  first | (refine at_op (some 9) rfl rfl rfl rfl (op_lenL rfl fu_Sint) (by dsimp only [putD, List.set]) ?_) | (refine at_op (some 9) rfl rfl rfl rfl (opOK_un (op_lenL rfl fu_Sint)) (by dsimp only [putD, List.set]) ?_) | (refine at_op (some 9) rfl rfl rfl rfl (op_lenA rfl fu_Sint) (by dsimp only [putD, List.set]) ?_)
  simp only [List.length_map]
  refine at_op (some 10) rfl rfl rfl rfl (op_binI rfl rfl) (by dsimp only [putD, List.set]) ?_
  refine at_end rfl ?_
  refine at_cond [1, 0, 1, 0] [1, 0, 1, 1] rfl rfl (fun hc1 => ?_) (fun hc1 => ?_)
  · skip
    have hne : ¬ a = b := by intro e; subst e; simp at hc1
    rw [show decide (a = b) = false by simp [hne]]
    refine at_seq [1, 0, 1, 0, 0] [1, 0, 1, 0, 1] rfl ?_
    refine at_region rfl ?_
    refine at_mc 4 rfl rfl rfl (.inr rfl) (by dsimp only [constD]) (by dsimp only [List.set]) ?_
    refine at_end rfl ?_
    refine at_ret rfl (ret_one (t := 4) rfl rfl ?_ rfl)
    rfl
  · skip
    have hl : a.length = b.length := by simp at hc1; omega
    refine at_skip rfl ?_
    refine at_seq [1, 1, 0] [1, 1, 1] rfl ?_
    refine at_seq [1, 1, 0, 0] [1, 1, 0, 1] rfl ?_
    refine at_region rfl ?_
    refine at_mv 0 11 rfl rfl rfl (.inl rfl) rfl (by dsimp only [List.set]) ?_
    first | (refine at_op (some 12) rfl rfl rfl rfl (op_lenL rfl fu_Sint) (by dsimp only [putD, List.set]) ?_) | (refine at_op (some 12) rfl rfl rfl rfl (opOK_un (op_lenL rfl fu_Sint)) (by dsimp only [putD, List.set]) ?_) | (refine at_op (some 12) rfl rfl rfl rfl (op_lenA rfl fu_Sint) (by dsimp only [putD, List.set]) ?_)
    simp only [List.length_map]
    refine at_mc 13 rfl rfl rfl (.inl rfl) (by dsimp only [constD]) (by dsimp only [List.set]) ?_
    refine at_end rfl ?_
    refine at_block [1, 1, 0, 1, 0] 0 rfl ?_
    refine at_loop [1, 1, 0, 1, 0, 0] rfl ?_
    try simp only [List.length_map, List.length_nil, Int.toNat_natCast]
    exact run_wk (.keep (.keep (.drop (.drop (.drop (.drop (.drop (.drop (.drop (.drop (.drop (.keep (.keep (.keep (.drop (.drop (.drop (.drop (.drop (.drop (.drop (.drop (.drop (.drop (.drop (.drop .nil)))))))))))))))))))))))))) (ints_loop a b hl ha _ _ 0 rfl (by simp))

end Go.Proofs.YtmdipbhjhkckjaaGreat

namespace Go.Proofs.YtmdipbhjhkckjaaGreat
open Go.Dv

/-- what holds in round `x`: `j` from the round's start, `p` says which places are done -/
structure DRd (n : Nat) (G : List (List Arc)) (x : Int) (i0 : Nat) (d : List Int) : Prop where
  len : d.length = n
  top : ∀ i, i < n → gI d i ≤ x + 1
  j : ∀ i, i < n → gI d i < 0 → ∀ a ∈ G.getD i [], gI d a.2.toNat < 0 ∨ x ≤ gI d a.2.toNat
  k : ∀ i, i < n → 0 ≤ gI d i → ∀ a ∈ G.getD i [], 0 ≤ gI d a.2.toNat → gI d i ≤ gI d a.2.toNat + 1
  done : ∀ i, i < i0 → i < n → gI d i < 0 → ∀ a ∈ G.getD i [], gI d a.2.toNat ≠ x
theorem DRd.set {n : Nat} {G : List (List Arc)} {x : Int} {d : List Int} {i : Nat} (h : DRd n G x i d) (hx : 0 ≤ x) (hi : i < n) (hneg : gI d i < 0) : DRd n G x (i + 1) (d.set i (x + 1)) := by
  have hl : i < d.length := by rw [h.len]; exact hi
  refine ⟨by simp [h.len], fun q hq => ?_, fun q hq hn a ha => ?_, fun q hq hn a ha hp => ?_, fun q hq0 hq hn a ha => ?_⟩
  · rw [gI_set hl]; split
    · exact Int.le_refl _
    · exact h.top q hq
  · rw [gI_set hl] at hn ⊢
    split at hn
    · omega
    · have := h.j q hq hn a ha
      split <;> omega
  · rw [gI_set hl] at hn hp ⊢
    rw [gI_set hl]
    split at hp
    · rename_i e
      have := h.top q hq
      rw [if_pos e]
      split <;> omega
    · rename_i e
      rw [if_neg e]
      split
      · rename_i e2
        subst e2
        have := h.j i hi hneg a ha
        omega
      · rename_i e2
        rw [if_neg e2] at hn
        exact h.k q hq hn a ha hp
  · rw [gI_set hl] at hn ⊢
    split at hn
    · omega
    · rename_i e
      split
      · omega
      · exact h.done q (by omega) hq hn a ha
theorem DRd.skip {n : Nat} {G : List (List Arc)} {x : Int} {d : List Int} {i : Nat} (h : DRd n G x i d) (hs : gI d i < 0 → ∀ a ∈ G.getD i [], gI d a.2.toNat ≠ x) : DRd n G x (i + 1) d :=
  ⟨h.len, h.top, h.j, h.k, fun q hq0 hq hn a ha => by
    by_cases e : q = i
    · subst e; exact hs hn a ha
    · exact h.done q (by omega) hq hn a ha⟩
theorem dIn_round {n : Nat} {G : List (List Arc)} {x : Int} (hG : G.length = n) (hx : 0 ≤ x) : ∀ (m i : Nat) (d : List Int) (ch : Bool), n - i = m → i ≤ n → DRd n G x i d → DRd n G x n (dIn x (G.drop i) i d ch).1
  | 0, i, d, ch, hm, hi, h => by
    obtain rfl : i = n := by omega
    rw [List.drop_of_length_le (by omega)]; exact h
  | m + 1, i, d, ch, hm, hi, h => by
    have hi' : i < G.length := by omega
    have hg : G.getD i [] = G[i] := by simp [List.getD_eq_getElem?_getD, hi']
    rw [List.drop_eq_getElem_cons hi']
    unfold dIn
    split
    · rename_i hc
      simp only [Bool.and_eq_true, decide_eq_true_eq] at hc
      exact dIn_round hG hx m (i + 1) _ _ (by omega) (by omega) (h.set hx (by omega) hc.1)
    · rename_i hc
      refine dIn_round hG hx m (i + 1) _ _ (by omega) (by omega) (h.skip fun hn a ha e => hc ?_)
      simp only [Bool.and_eq_true, decide_eq_true_eq]
      refine ⟨hn, ?_⟩
      simp only [hitM, List.any_eq_true, beq_iff_eq]
      exact ⟨a, hg ▸ ha, e⟩
/-- a round that changes nothing changes nothing -/
theorem dIn_same {x : Int} : ∀ (G : List (List Arc)) (i : Nat) (d : List Int) (ch : Bool), (dIn x G i d ch).2 = false → (dIn x G i d ch).1 = d ∧ ch = false
  | [], i, d, ch, h => ⟨rfl, h⟩
  | r :: G, i, d, ch, h => by
    unfold dIn at h ⊢
    split
    · rename_i hc
      rw [if_pos hc] at h
      have := (dIn_same G (i + 1) _ true h).2
      simp at this
    · rename_i hc
      rw [if_neg hc] at h
      exact dIn_same G (i + 1) d ch h
/-- at the end: negatives are closed under arcs, and distances fall by at most one along an arc -/
structure DEnd (n : Nat) (G : List (List Arc)) (d : List Int) : Prop where
  neg : ∀ i, i < n → gI d i < 0 → ∀ a ∈ G.getD i [], gI d a.2.toNat < 0
  k : ∀ i, i < n → 0 ≤ gI d i → ∀ a ∈ G.getD i [], 0 ≤ gI d a.2.toNat → gI d i ≤ gI d a.2.toNat + 1
theorem dOut_end {n : Nat} {G : List (List Arc)} (hG : GOK n G) : ∀ (f : Nat) (x : Int) (d : List Int), 0 ≤ x → d.countP neg + 1 ≤ f → DRd n G x 0 d → (∀ i, i < n → gI d i ≤ x) → DEnd n G (dOut G f x d)
  | 0, x, d, _, hf, _, _ => by omega
  | f + 1, x, d, hx, hf, h, ht => by
    have h1 := dIn_round hG.len hx n 0 d false (by omega) (by omega) h
    rw [List.drop_zero] at h1
    have hto : ∀ i, ∀ a ∈ G.getD i [], a.2.toNat < n := by
      intro i a ha
      cases hz : G[i]? with
      | none => simp [List.getD_eq_getElem?_getD, hz] at ha
      | some r => rw [stepM_get hz] at ha; have := (hG.row r (List.mem_of_getElem? hz)).2 a ha; omega
    unfold dOut
    split
    · rename_i hc
      have hcn := (dIn_count hx G 0 d false (by rw [hG.len, h.len]; omega)).2 hc
      simp at hcn
      refine dOut_end hG f (x + 1) _ (by omega) (by omega) ⟨h1.len, fun i hi => by have := h1.top i hi; omega, fun i hi hn a ha => ?_, h1.k, fun i hi => by omega⟩ h1.top
      have a1 := h1.j i hi hn a ha
      have a2 := h1.done i hi hi hn a ha
      omega
    · rename_i hc
      have hs := (dIn_same G 0 d false (by simpa using hc)).1
      rw [hs] at h1 ⊢
      refine ⟨fun i hi hn a ha => ?_, h1.k⟩
      have a1 := h1.j i hi hn a ha
      have a2 := h1.done i hi hi hn a ha
      have a3 := ht _ (hto i a ha)
      omega
theorem dist0 {n to : Nat} (hto : to < n) (i : Nat) (hi : i < n) : gI ((List.replicate n (-1 : Int)).set to 0) i = if to = i then 0 else -1 := by
  rw [gI_set (by simp; exact hto)]
  split
  · rfl
  · simp [gI, List.getD_eq_getElem?_getD, hi]
theorem arc_lt {n : Nat} {G : List (List Arc)} (hG : GOK n G) {i : Nat} {a : Arc} (ha : a ∈ G.getD i []) : a.2.toNat < n ∧ 0 ≤ a.2 := by
  cases hz : G[i]? with
  | none => simp [List.getD_eq_getElem?_getD, hz] at ha
  | some r => rw [stepM_get hz] at ha; have := (hG.row r (List.mem_of_getElem? hz)).2 a ha; omega
theorem dist_end {n : Nat} {G : List (List Arc)} (hG : GOK n G) {to : Nat} (hto : to < n) : DEnd n G (distM G n to) := by
  have h0 := dist0 hto
  refine dOut_end hG (n + 1) 0 _ (by omega) (by have := List.countP_le_length (p := neg) (l := (List.replicate n (-1 : Int)).set to 0); simp at this ⊢; omega) ⟨by simp, fun i hi => ?_, fun i hi hn a ha => ?_, fun i hi hn a ha hp => ?_, fun i hi => by omega⟩ (fun i hi => ?_)
  · rw [h0 i hi]; split <;> omega
  · rw [h0 _ (arc_lt hG ha).1]; split <;> omega
  · rw [h0 _ (arc_lt hG ha).1]; rw [h0 i hi]; split <;> split <;> omega
  · rw [h0 i hi]; split <;> omega
theorem Path.lt {n : Nat} {G : List (List Arc)} (hG : GOK n G) {x y : Nat} (p : Path G x y) (hx : x < n) : y < n := by
  induction p with
  | refl => exact hx
  | step h _ ih => obtain ⟨a, ha, rfl⟩ := h; exact ih (arc_lt hG ha).1
/-- THERE IS A WAY exactly if the distance is not negative -/
theorem dist_iff {n : Nat} {G : List (List Arc)} (hG : GOK n G) {to : Nat} (hto : to < n) {i : Nat} (hi : i < n) : 0 ≤ gI (distM G n to) i ↔ Path G i to := by
  have hd := dist_ok hG hto
  have he := dist_end hG hto
  constructor
  · have gen : ∀ (k : Nat) (i : Nat), i < n → gI (distM G n to) i = k → Path G i to := by
      intro k
      induction k with
      | zero => intro i hi hk; rw [(hd.zero i hi).1 (by omega)]; exact .refl to
      | succ k ih =>
        intro i hi hk
        obtain ⟨a, ha, hk2⟩ := hd.down i hi (by omega)
        exact .step ⟨a, ha, rfl⟩ (ih _ (arc_lt hG ha).1 (by omega))
    intro h
    exact gen (gI (distM G n to) i).toNat i hi (by omega)
  · intro p
    induction p with
    | refl => rw [(hd.zero _ hi).2 rfl]; omega
    | step h _ ih =>
      obtain ⟨a, ha, rfl⟩ := h
      have h2 := ih hto (arc_lt hG ha).1 (by assumption) (by assumption)
      rcases Int.lt_or_le (gI (distM G n _) _) 0 with hn | hn
      · have := he.neg _ hi hn a ha; omega
      · exact hn
end Go.Proofs.YtmdipbhjhkckjaaGreat

namespace Go.Proofs.YtmdipbhjhkckjaaGreat
open Go.Dv

theorem wayM_length (G : List (List Arc)) (d : List Int) : ∀ (k x : Nat), (wayM G d k x).length = k
  | 0, _ => rfl
  | k + 1, x => by simp [wayM, wayM_length G d k]
theorem countP_pos_of {d : List Int} {i : Nat} (hl : i < d.length) (h : gI d i < 0) : 1 ≤ d.countP neg := by
  obtain ⟨x, hx⟩ := get_ex hl
  rw [gI_some hx] at h
  have := countP_set (y := 0) hx h (by omega)
  omega
theorem dIn_top {n : Nat} {x b : Int} (hx : 0 ≤ x) : ∀ (G : List (List Arc)) (i : Nat) (d : List Int) (ch : Bool), i + G.length ≤ n → d.length = n → x + d.countP neg ≤ b → (∀ q, q < n → gI d q ≤ b) →
    ∀ q, q < n → gI (dIn x G i d ch).1 q ≤ b
  | [], i, d, ch, _, _, _, h => h
  | r :: G, i, d, ch, hi, hl, hc, h => by
    simp only [List.length_cons] at hi
    unfold dIn
    split
    · rename_i hq
      simp only [Bool.and_eq_true, decide_eq_true_eq] at hq
      have hil : i < d.length := by omega
      have hp := countP_pos_of hil hq.1
      obtain ⟨y, hy⟩ := get_ex hil
      have hcs := countP_set (y := x + 1) hy (by rw [gI_some hy] at hq; exact hq.1) (by omega)
      refine dIn_top hx G (i + 1) _ _ (by omega) (by simp [hl]) (by omega) (fun q hq' => ?_)
      rw [gI_set hil]
      split
      · omega
      · exact h q hq'
    · exact dIn_top hx G (i + 1) d ch (by omega) hl hc h
theorem dOut_top {n : Nat} {G : List (List Arc)} (hG : G.length = n) {b : Int} : ∀ (f : Nat) (x : Int) (d : List Int), 0 ≤ x → d.length = n → x + d.countP neg ≤ b → (∀ q, q < n → gI d q ≤ b) → ∀ q, q < n → gI (dOut G f x d) q ≤ b
  | 0, x, d, _, _, _, h => h
  | f + 1, x, d, hx, hl, hc, h => by
    have h1 := dIn_top hx G 0 d false (by omega) hl hc h
    unfold dOut
    split
    · rename_i hch
      have hcn := (dIn_count hx G 0 d false (by omega)).2 hch
      simp at hcn
      exact dOut_top hG f (x + 1) _ (by omega) (by rw [dIn_length]; exact hl) (by omega) h1
    · exact h1
/-- a way is shorter than the number of configurations -/
theorem dist_lt {n : Nat} {G : List (List Arc)} (hG : GOK n G) {to : Nat} (hto : to < n) {i : Nat} (hi : i < n) : gI (distM G n to) i ≤ n - 1 := by
  have hp := hG.pos
  have hc := countP_set (out := List.replicate n (-1 : Int)) (i := to) (x := -1) (y := 0) (by simp [hto]) (by omega) (by omega)
  have hle := List.countP_le_length (p := neg) (l := List.replicate n (-1 : Int))
  simp only [List.length_replicate] at hle
  refine dOut_top hG.len (n + 1) 0 _ (by omega) (by simp) (by omega) (fun q hq => ?_) i hi
  rw [dist0 hto q hq]; split <;> omega
end Go.Proofs.YtmdipbhjhkckjaaGreat

namespace Go.Proofs.YtmdipbhjhkckjaaGreat
open Go.Dv

abbrev wayF : FuncId := 19
def wayL (G : List (List Arc)) (n x y : Nat) : List Arc := wayM G (distM G n y) (gI (distM G n y) x).toNat x
theorem way_yes {n : Nat} {G : List (List Arc)} (hG : GOK n G) (h6 : n ≤ 6) {x y : Nat} (hx : x < n) (hy : y < n) (p : Path G x y) :
    FSpec PP wayF [.v (vG n G), di ↑x, di ↑y] σ0 (.tup [.v (vArcs (wayL G n x y)), db true]) σ0 := by
  have h := way_spec n G hG h6 x y hx hy (dist_ok hG hy)
  have hd := (dist_iff hG hy hx).2 p
  rw [if_neg (by omega)] at h
  exact h
theorem way_no {n : Nat} {G : List (List Arc)} (hG : GOK n G) (h6 : n ≤ 6) {x y : Nat} (hx : x < n) (hy : y < n) (p : ¬ Path G x y) :
    FSpec PP wayF [.v (vG n G), di ↑x, di ↑y] σ0 (.tup [.v (.list []), db false]) σ0 := by
  have h := way_spec n G hG h6 x y hx hy (dist_ok hG hy)
  have hd : ¬ 0 ≤ gI (distM G n y) x := fun h => p ((dist_iff hG hy hx).1 h)
  rw [if_pos (by omega)] at h
  exact h
theorem way_ex {n : Nat} {G : List (List Arc)} (hG : GOK n G) (h6 : n ≤ 6) {x y : Nat} (hx : x < n) (hy : y < n) :
    ∃ (w : List Arc) (ok : Bool), FSpec PP wayF [.v (vG n G), di ↑x, di ↑y] σ0 (.tup [.v (vArcs w), db ok]) σ0 ∧ (ok = true ↔ Path G x y) ∧ (ok = false → w = []) ∧ (ok = true → w = wayL G n x y) := by
  by_cases p : Path G x y
  · exact ⟨_, true, way_yes hG h6 hx hy p, by simp [p], by simp, fun _ => rfl⟩
  · exact ⟨[], false, way_no hG h6 hx hy p, by simp [p], fun _ => rfl, by simp⟩
/-- a way goes along arcs -/
inductive Walk (G : List (List Arc)) : Nat → List Arc → Nat → Prop
  | nil (x : Nat) : Walk G x [] x
  | cons {x y : Nat} {a : Arc} {w : List Arc} (h : a ∈ G.getD x []) (p : Walk G a.2.toNat w y) : Walk G x (a :: w) y
theorem wayM_walk {n : Nat} {G : List (List Arc)} (hG : GOK n G) {to : Nat} {d : List Int} (hd : DOK n G to d) : ∀ (k x : Nat), x < n → gI d x = k → Walk G x (wayM G d k x) to
  | 0, x, hx, hk => by rw [(hd.zero x hx).1 (by omega)]; exact .nil to
  | k + 1, x, hx, hk => by
    obtain ⟨a, ha, hk2⟩ := hd.down x hx (by omega)
    obtain ⟨h1, h2⟩ := leastM_mem (d := d) (x := (k : Int)) (G.getD x []) false (0, 0) (by simp) (.inr ⟨a, ha, by omega⟩)
    have hm : leastM d k (G.getD x []) false (0, 0) ∈ G.getD x [] := by
      rcases h2 with h | ⟨h, _⟩
      · exact h
      · simp at h
    simp only [wayM]
    exact .cons hm (wayM_walk hG hd k _ (arc_lt hG hm).1 h1)
theorem wayL_walk {n : Nat} {G : List (List Arc)} (hG : GOK n G) {x y : Nat} (hx : x < n) (hy : y < n) (p : Path G x y) : Walk G x (wayL G n x y) y ∧ (wayL G n x y).length + 1 ≤ n := by
  have h0 := (dist_iff hG hy hx).2 p
  have h1 := dist_lt hG hy hx
  have hp := hG.pos
  exact ⟨wayM_walk hG (dist_ok hG hy) _ x hx (by omega), by rw [wayL, wayM_length]; omega⟩
/-- no way is shorter -/
theorem wayL_least {n : Nat} {G : List (List Arc)} (hG : GOK n G) {x y : Nat} (hx : x < n) (hy : y < n) {a : Arc} (ha : a ∈ G.getD x []) (p : Path G a.2.toNat y) : (wayL G n x y).length ≤ (wayL G n a.2.toNat y).length + 1 := by
  have h0 := (dist_iff hG hy hx).2 (.step ⟨a, ha, rfl⟩ p)
  have h1 := (dist_iff hG hy (arc_lt hG ha).1).2 p
  have h2 := (dist_end hG hy).k x hx h0 a ha h1
  simp only [wayL, wayM_length]
  omega
end Go.Proofs.YtmdipbhjhkckjaaGreat

namespace Go.Proofs.YtmdipbhjhkckjaaGreat
open Go.Dv

theorem rr_all {G : List (List Arc)} {n i : Nat} (hi : i < n) (k : Nat) : rr (allM G n) i k = gb (reachM G n i) k := by
  simp only [rr, allM, List.getD_eq_getElem?_getD, List.getElem?_map, List.getElem?_range hi, Option.map_some, Option.getD_some]
theorem rr_iff {n : Nat} {G : List (List Arc)} (hG : GOK n G) {i : Nat} (hi : i < n) (k : Nat) : rr (allM G n) i k = true ↔ Path G i k := by rw [rr_all hi, reachM_iff hG hi]
theorem comp_mem {n : Nat} {G : List (List Arc)} (hG : GOK n G) {i : Nat} (hi : i < n) {k : Nat} : k ∈ compM (allM G n) n i ↔ Path G i k ∧ Path G k i := by
  simp only [compM, List.mem_filter, List.mem_range, Bool.and_eq_true]
  constructor
  · rintro ⟨hk, h1, h2⟩; exact ⟨(rr_iff hG hi k).1 h1, (rr_iff hG hk i).1 h2⟩
  · rintro ⟨h1, h2⟩
    have hk := h1.lt hG hi
    exact ⟨hk, (rr_iff hG hi k).2 h1, (rr_iff hG hk i).2 h2⟩
theorem comp_lt {R : List (List Bool)} {n i k : Nat} (h : k ∈ compM R n i) : k < n := by
  simp only [compM, List.mem_filter, List.mem_range] at h; exact h.1
theorem comp_eq {n : Nat} {G : List (List Arc)} (hG : GOK n G) {i k : Nat} (hi : i < n) (hk : k ∈ compM (allM G n) n i) : compM (allM G n) n k = compM (allM G n) n i := by
  have hkn := comp_lt hk
  obtain ⟨p, q⟩ := (comp_mem hG hi).1 hk
  unfold compM
  apply List.filter_congr
  intro x hx
  have hx := List.mem_range.1 hx
  rw [Bool.eq_iff_iff]
  simp only [Bool.and_eq_true, rr_iff hG hkn, rr_iff hG hi, rr_iff hG hx]
  exact ⟨fun h => ⟨p.trans h.1, h.2.trans q⟩, fun h => ⟨q.trans h.1, h.2.trans p⟩⟩
theorem comp_rep {n : Nat} {G : List (List Arc)} (hG : GOK n G) {i : Nat} (hi : i < n) : ∃ r, r < n ∧ compQ (allM G n) n r = true ∧ compM (allM G n) n r = compM (allM G n) n i := by
  cases e : compM (allM G n) n i with
  | nil => have := compM_self (G := G) hi; rw [e] at this; simp at this
  | cons r l =>
    have hr : r ∈ compM (allM G n) n i := by rw [e]; simp
    have h := comp_eq hG hi hr
    refine ⟨r, comp_lt hr, ?_, by rw [h, e]⟩
    simp [compQ, h, e]
theorem comps_at {R : List (List Bool)} {n j : Nat} {c : List Nat} (h : (compsM R n)[j]? = some c) : ∃ r, ((List.range n).filter (compQ R n))[j]? = some r ∧ r < n ∧ (compM R n r).head? = some r ∧ c = compM R n r := by
  simp only [compsM, List.getElem?_map] at h
  cases e : ((List.range n).filter (compQ R n))[j]? with
  | none => simp [e] at h
  | some r =>
    simp [e] at h
    have hm := List.mem_of_getElem? e
    simp only [List.mem_filter, List.mem_range, compQ, beq_iff_eq] at hm
    exact ⟨r, rfl, hm.1, hm.2, h.symm⟩
theorem comps_of {R : List (List Bool)} {n : Nat} {c : List Nat} (h : c ∈ compsM R n) : ∃ r, r < n ∧ (compM R n r).head? = some r ∧ c = compM R n r := by
  obtain ⟨j, hj⟩ := List.getElem?_of_mem h
  obtain ⟨r, _, h1, h2, h3⟩ := comps_at hj
  exact ⟨r, h1, h2, h3⟩
theorem comps_cover {n : Nat} {G : List (List Arc)} (hG : GOK n G) {x : Nat} (hx : x < n) : compM (allM G n) n x ∈ compsM (allM G n) n := by
  obtain ⟨r, h1, h2, h3⟩ := comp_rep hG hx
  rw [← h3]
  exact List.mem_map.2 ⟨r, List.mem_filter.2 ⟨List.mem_range.2 h1, h2⟩, rfl⟩
theorem comps_is {n : Nat} {G : List (List Arc)} (hG : GOK n G) {c : List Nat} (h : c ∈ compsM (allM G n) n) {x : Nat} (hx : x ∈ c) : x < n ∧ c = compM (allM G n) n x := by
  obtain ⟨r, h1, h2, rfl⟩ := comps_of h
  exact ⟨comp_lt hx, (comp_eq hG h1 hx).symm⟩
theorem reps_nodup (R : List (List Bool)) (n : Nat) : ((List.range n).filter (compQ R n)).Nodup := List.Pairwise.filter _ List.nodup_range
theorem comps_disj {n : Nat} {G : List (List Arc)} (hG : GOK n G) {i j : Nat} {c d : List Nat} (hc : (compsM (allM G n) n)[i]? = some c) (hd : (compsM (allM G n) n)[j]? = some d) {x : Nat} (h1 : x ∈ c) (h2 : x ∈ d) : i = j := by
  have e1 := (comps_is hG (List.mem_of_getElem? hc) h1).2
  have e2 := (comps_is hG (List.mem_of_getElem? hd) h2).2
  obtain ⟨r, hr, _, hr2, hr3⟩ := comps_at hc
  obtain ⟨s, hs, _, hs2, hs3⟩ := comps_at hd
  have e : r = s := by
    rw [← hr3, e1] at hr2
    rw [← hs3, e2] at hs2
    rw [hr2] at hs2
    simpa using hs2
  subst e
  exact (List.getElem?_inj (List.getElem?_eq_some_iff.1 hr).1 (reps_nodup _ n)).1 (hr.trans hs.symm)
theorem comps_sorted {R : List (List Bool)} {n : Nat} {c : List Nat} (h : c ∈ compsM R n) : c.Pairwise (· < ·) := by
  obtain ⟨r, _, _, rfl⟩ := comps_of h
  exact List.Pairwise.filter _ List.pairwise_lt_range
theorem len_le : ∀ (l m : List Nat), l.Nodup → (∀ x ∈ l, x ∈ m) → l.length ≤ m.length
  | [], m, _, _ => by simp
  | x :: l, m, hn, h => by
    rw [List.nodup_cons] at hn
    have hx := h x (by simp)
    have := len_le l (m.erase x) hn.2 fun y hy => (List.mem_erase_of_ne (by rintro rfl; exact hn.1 hy)).2 (h y (by simp [hy]))
    rw [List.length_erase_of_mem hx] at this
    have hp : 0 < m.length := List.length_pos_of_mem hx
    simp only [List.length_cons]; omega
theorem comps_flat {n : Nat} {G : List (List Arc)} (hG : GOK n G) : (compsM (allM G n) n).flatten.length = n := by
  have hm : ∀ x, x ∈ (compsM (allM G n) n).flatten ↔ x < n := fun x => by
    rw [List.mem_flatten]
    constructor
    · rintro ⟨c, hc, hx⟩; exact (comps_is hG hc hx).1
    · intro hx; exact ⟨_, comps_cover hG hx, compM_self hx⟩
  have hn : (compsM (allM G n) n).flatten.Nodup := by
    refine List.pairwise_flatten.2 ⟨fun c hc => (comps_sorted hc).imp (fun h => Nat.ne_of_lt h), ?_⟩
    rw [compsM, List.pairwise_map]
    refine List.Pairwise.imp_of_mem ?_ (reps_nodup _ n)
    intro r s hr hs hne x hx y hy e
    subst e
    simp only [List.mem_filter, List.mem_range, compQ, beq_iff_eq] at hr hs
    have e1 := comp_eq hG hr.1 hx
    have e2 := comp_eq hG hs.1 hy
    rw [← e1, e2, hs.2] at hr
    exact hne (by simpa using hr.2.symm)
  have h1 := len_le _ (List.range n) hn fun x hx => List.mem_range.2 ((hm x).1 hx)
  have h2 := len_le (List.range n) _ List.nodup_range fun x hx => (hm x).2 (List.mem_range.1 hx)
  simp only [List.length_range] at h1 h2
  omega

/- HOMES -/
theorem home_iff {n : Nat} {G : List (List Arc)} (hG : GOK n G) {k : Nat} : homeQ (allM G n) k = true ↔ ∀ i, i < n → Path G i k := by
  simp only [homeQ, allM, Bool.not_eq_true', List.any_eq_false, List.mem_map, List.mem_range]
  constructor
  · intro h i hi; exact (reachM_iff hG hi k).1 (by have := h _ ⟨i, hi, rfl⟩; simpa using this)
  · rintro h _ ⟨i, hi, rfl⟩; have := (reachM_iff hG hi k).2 (h i hi); simpa using this
theorem homes_mem {n : Nat} {G : List (List Arc)} (hG : GOK n G) {k : Nat} : k ∈ homesM G n ↔ k < n ∧ ∀ i, i < n → Path G i k := by
  simp only [homesM, List.mem_filter, List.mem_range, home_iff hG]
theorem homes_comp {n : Nat} {G : List (List Arc)} (hG : GOK n G) {h : Nat} (hh : h ∈ homesM G n) : compM (allM G n) n h = homesM G n := by
  obtain ⟨hn, hp⟩ := (homes_mem hG).1 hh
  unfold compM homesM
  apply List.filter_congr
  intro x hx
  have hx := List.mem_range.1 hx
  rw [Bool.eq_iff_iff, home_iff hG]
  simp only [Bool.and_eq_true, rr_iff hG hn, rr_iff hG hx]
  exact ⟨fun p i hi => (hp i hi).trans p.1, fun p => ⟨p h hn, hp x hx⟩⟩
theorem dead_path {G : List (List Arc)} {d x : Nat} (hd : deadQ G d = true) (p : Path G d x) : x = d := by
  cases p with
  | refl => rfl
  | step h _ =>
    obtain ⟨a, ha, _⟩ := h
    simp only [deadQ, beq_iff_eq] at hd
    rw [List.eq_nil_of_length_eq_zero hd] at ha; simp at ha
theorem homes_nodup (G : List (List Arc)) (n : Nat) : (homesM G n).Nodup := List.Pairwise.filter _ List.nodup_range
/-- a dead configuration leaves no other home -/
theorem dead_home {n : Nat} {G : List (List Arc)} (hG : GOK n G) {d : Nat} (hd : d ∈ deadM G n) : homesM G n = [] ∨ homesM G n = [d] := by
  simp only [deadM, List.mem_filter, List.mem_range] at hd
  have h : ∀ k ∈ homesM G n, k = d := fun k hk => dead_path hd.2 (((homes_mem hG).1 hk).2 d hd.1)
  cases e : homesM G n with
  | nil => exact .inl rfl
  | cons a l =>
    right
    have ha := h a (by rw [e]; simp)
    cases l with
    | nil => rw [ha]
    | cons b l =>
      have hb := h b (by rw [e]; simp)
      have := homes_nodup G n
      rw [e, ha, hb] at this
      simp at this
def findC (homes : List Nat) : List (List Nat) → Bool
  | [] => false
  | c :: r => if c.head? = homes.head? then decide (c = homes) else findC homes r
theorem find_home {n : Nat} {G : List (List Arc)} (hG : GOK n G) {h : Nat} {l : List Nat} (e : homesM G n = h :: l) : findC (homesM G n) (compsM (allM G n) n) = true := by
  have hh : h ∈ homesM G n := by rw [e]; simp
  have hn := ((homes_mem hG).1 hh).1
  have hc := homes_comp hG hh
  have hin : homesM G n ∈ compsM (allM G n) n := by rw [← hc]; exact comps_cover hG hn
  have gen : ∀ cs : List (List Nat), (∀ c ∈ cs, c ∈ compsM (allM G n) n) → homesM G n ∈ cs → findC (homesM G n) cs = true := by
    intro cs
    induction cs with
    | nil => intro _ h; simp at h
    | cons c r ih =>
      intro hs hm
      simp only [findC]
      split
      · rename_i h1
        obtain ⟨s, hs1, hs2, rfl⟩ := comps_of (hs c (by simp))
        rw [hs2, e] at h1
        simp at h1
        subst h1
        simp [hc]
      · rename_i h1
        rcases List.mem_cons.1 hm with h2 | h2
        · exact absurd (by rw [h2]) h1
        · exact ih (fun c hc => hs c (by simp [hc])) h2
  exact gen _ (fun c hc => hc) hin

/- LIVE LABELS -/
theorem live_iff {n : Nat} {G : List (List Arc)} (hG : GOK n G) {label : Int} : liveM G n label = true ↔ ∀ x, x < n → ∃ i, Path G x i ∧ hasM G label i = true := by
  simp only [liveM, allM, List.all_eq_true, List.mem_map, List.mem_range]
  constructor
  · intro h x hx
    have := h _ ⟨x, hx, rfl⟩
    cases e : liveF G n label (reachM G n x) with
    | nil => rw [e] at this; simp at this
    | cons i l =>
      have hi : i ∈ liveF G n label (reachM G n x) := by rw [e]; simp
      simp only [liveF, List.mem_filter, Bool.and_eq_true] at hi
      exact ⟨i, (reachM_iff hG hx i).1 hi.2.1, hi.2.2⟩
  · rintro h _ ⟨x, hx, rfl⟩
    obtain ⟨i, p, hl⟩ := h x hx
    have hi : i ∈ liveF G n label (reachM G n x) := by
      simp only [liveF, List.mem_filter, List.mem_range, Bool.and_eq_true]
      exact ⟨p.lt hG hx, (reachM_iff hG hx i).2 p, hl⟩
    cases e : liveF G n label (reachM G n x) with
    | nil => rw [e] at hi; simp at hi
    | cons i l => rfl
def leavesQ (G : List (List Arc)) (c : List Nat) : Bool := c.any fun i => (G.getD i []).any fun a => !c.contains a.2.toNat
def hasQ (G : List (List Arc)) (label : Int) (c : List Nat) : Bool := c.any fun i => (G.getD i []).any fun a => a.1 == label
theorem stays {G : List (List Arc)} {c : List Nat} (h : leavesQ G c = false) {x y : Nat} (p : Path G x y) (hx : x ∈ c) : y ∈ c := by
  induction p with
  | refl => exact hx
  | step ha _ ih =>
    obtain ⟨a, ha, rfl⟩ := ha
    refine ih ?_
    simp only [leavesQ, List.any_eq_false] at h
    have := h _ hx
    simp only [Bool.not_eq_true, List.any_eq_false] at this
    have := this a ha
    simpa using this
theorem bottom {n : Nat} {G : List (List Arc)} (hG : GOK n G) (m : Nat) : ∀ x, x < n → (reachL G n x).length = m → ∃ y, Path G x y ∧ y < n ∧ leavesQ G (compM (allM G n) n y) = false := by
  induction m using Nat.strongRecOn with
  | _ m ih =>
    intro x hx hm
    cases e : leavesQ G (compM (allM G n) n x) with
    | false => exact ⟨x, .refl x, hx, e⟩
    | true =>
      simp only [leavesQ, List.any_eq_true] at e
      obtain ⟨i, hi, a, ha, hn⟩ := e
      have hpi := (comp_mem hG hx).1 hi
      have hz := (arc_lt hG ha).1
      have pz : Path G x a.2.toNat := hpi.1.snoc ⟨a, ha, rfl⟩
      have hnz : a.2.toNat ∉ compM (allM G n) n x := by simpa using hn
      have hnp : ¬ Path G a.2.toNat x := fun p => hnz ((comp_mem hG hx).2 ⟨pz, p⟩)
      have hlt : (reachL G n a.2.toNat).length < (reachL G n x).length := by
        have h1 := len_le (x :: reachL G n a.2.toNat) (reachL G n x) ?_ ?_
        · simp at h1; omega
        · refine List.nodup_cons.2 ⟨fun h => ?_, List.Pairwise.filter _ List.nodup_range⟩
          simp only [reachL, List.mem_filter] at h
          exact hnp ((reachM_iff hG hz x).1 h.2)
        · intro y hy
          simp only [reachL, List.mem_cons, List.mem_filter, List.mem_range, reachM_iff hG hz, reachM_iff hG hx] at hy ⊢
          rcases hy with rfl | ⟨h1, h2⟩
          · exact ⟨hx, .refl _⟩
          · exact ⟨h1, pz.trans h2⟩
      obtain ⟨y, h1, h2, h3⟩ := ih _ (by omega) a.2.toNat hz rfl
      exact ⟨y, pz.trans h1, h2, h3⟩
/-- a label is live exactly if every component that no arc leaves has an arc with it -/
theorem live_law {n : Nat} {G : List (List Arc)} (hG : GOK n G) (label : Int) : liveM G n label = (compsM (allM G n) n).all fun c => leavesQ G c || hasQ G label c := by
  rw [Bool.eq_iff_iff, live_iff hG, List.all_eq_true]
  constructor
  · intro h c hc
    obtain ⟨r, hr, _, rfl⟩ := comps_of hc
    cases e : leavesQ G (compM (allM G n) n r) with
    | true => rfl
    | false =>
      obtain ⟨i, p, hl⟩ := h r hr
      have hi := stays e p (compM_self hr)
      simp only [Bool.false_or, hasQ, List.any_eq_true]
      exact ⟨i, hi, by simpa [hasM, List.any_eq_true] using hl⟩
  · intro h x hx
    obtain ⟨y, p, hy, e⟩ := bottom hG _ x hx rfl
    have := h _ (comps_cover hG hy)
    rw [e, Bool.false_or] at this
    simp only [hasQ, List.any_eq_true] at this
    obtain ⟨i, hi, hl⟩ := this
    exact ⟨i, p.trans ((comp_mem hG hy).1 hi).1, by simpa [hasM, List.any_eq_true] using hl⟩
end Go.Proofs.YtmdipbhjhkckjaaGreat

namespace Go.Proofs.YtmdipbhjhkckjaaGreat
open Go.Dv

def isI64 (P : Program) (t : TypeId) : Bool := match P.underlying t with
  | some (.int .i64) => true
  | _ => false
theorem isI64_eq {P : Program} {t : TypeId} (h : isI64 P t = true) : P.underlying t = some (.int .i64) := by
  unfold isI64 at h
  split at h
  · assumption
  · simp at h
def twoInts (P : Program) (t : TypeId) : Bool := match (P.fieldsOf t).toList with
  | [f, g] => f.name != "_" && g.name != "_" && f.offset == 0 && g.offset == 1 && P.plainKey f.type && P.plainKey g.type && isI64 P f.type && isI64 P g.type
  | _ => false
theorem run_eq2 {P : Program} {t : TypeId} (h2 : twoInts P t = true) (ht : P.underlying t = some (.struct (P.fieldsOf t))) (hp : P.stoodInHeld t = false) (d : Nat) (a b a' b' : Int) (w : World) :
    (Op.equalIn (d + 2) t (.agg #[.int .i64 a, .int .i64 b]) (.agg #[.int .i64 a', .int .i64 b'])).run P w = .ok (a == a' && b == b') w := by
  rw [run_equalIn_struct w (d + 1) t _ _ ht hp]
  unfold twoInts at h2
  split at h2
  · rename_i f g hfs
    rw [hfs]
    simp only [Bool.and_eq_true, bne_iff_ne, beq_iff_eq] at h2
    obtain ⟨⟨⟨⟨⟨⟨⟨n1, n2⟩, o1⟩, o2⟩, p1⟩, p2⟩, u1⟩, u2⟩ := h2
    have e1 : ∀ w, (part f.type #[.int .i64 a, .int .i64 b] f.offset).run P w = .ok (.int .i64 a) w := fun w => run_part_plain w p1 (by rw [o1]; rfl)
    have e2 : ∀ w, (part f.type #[.int .i64 a', .int .i64 b'] f.offset).run P w = .ok (.int .i64 a') w := fun w => run_part_plain w p1 (by rw [o1]; rfl)
    have e3 : ∀ w, (part g.type #[.int .i64 a, .int .i64 b] g.offset).run P w = .ok (.int .i64 b) w := fun w => run_part_plain w p2 (by rw [o2]; rfl)
    have e4 : ∀ w, (part g.type #[.int .i64 a', .int .i64 b'] g.offset).run P w = .ok (.int .i64 b') w := fun w => run_part_plain w p2 (by rw [o2]; rfl)
    simp only [Op.eqFields, ne_eq, n1, n2, not_false_eq_true, if_true, Sem.run_bind, e1, e2, Result.andThen_ok, run_equalIn_int _ d _ .i64 .i64 _ _ (isI64_eq u1)]
    have u2' := fun w => run_equalIn_int (P := P) w d g.type .i64 .i64 b b' (isI64_eq u2)
    cases h1 : (a == a') with
    | true =>
      cases h3 : (b == b') with
      | true => simp [Sem.run_ite, e3, e4, u2', h3]
      | false => simp [Sem.run_ite, e3, e4, u2', h3]
    | false => simp
  · simp at h2
theorem op_eqArc {P : Program} {o : Oper} {σ : St} {t ty : TypeId} {x y : Operand} (ho : o.op = .binOp .eql t x y ty) (h2 : twoInts P t = true) (ht : P.underlying t = some (.struct (P.fieldsOf t))) (hp : P.stoodInHeld t = false) (hg : P.eqGuardType P.depth t = false) (a b : Arc) :
    OpOK P o [.v (vArc a), .v (vArc b)] σ (.v (.bool (decide (a = b)))) σ := by
  refine opOK_run fun E g ρ w hw hds => ?_
  simp only [ho, Op.operands, repDs_two] at hds
  obtain ⟨u, v, e, h1, h2'⟩ := hds
  simp only [List.map_cons, List.map_nil, List.cons.injEq, and_true] at e
  obtain ⟨e1, e2⟩ := e
  simp only [repD, repV_agg] at h1 h2'
  obtain ⟨ws, h1, rfl⟩ := h1
  obtain ⟨vs, h3, rfl⟩ := h2'
  have hw1 : ws = [.int .i64 a.1, .int .i64 a.2] := by
    simp only [repA, repC, List.cons.injEq, and_true] at h1
    obtain ⟨u, us, rfl, _, rfl, u2, us2, rfl, _, rfl, rfl⟩ := h1; rfl
  have hw2 : vs = [.int .i64 b.1, .int .i64 b.2] := by
    simp only [repA, repC, List.cons.injEq, and_true] at h3
    obtain ⟨u, us, rfl, _, rfl, u2, us2, rfl, _, rfl, rfl⟩ := h3; rfl
  subst hw1 hw2
  refine ⟨.bool (decide (a = b)), ?_, by simp [repD]⟩
  have hb : (a.1 == b.1 && a.2 == b.2) = decide (a = b) := by
    obtain ⟨a1, a2⟩ := a; obtain ⟨b1, b2⟩ := b
    by_cases h1 : a1 = b1 <;> by_cases h3 : a2 = b2 <;> simp [h1, h3]
  have hr := run_eq2 h2 ht hp 9998 a.1 a.2 b.1 b.2 w
  rw [hb] at hr
  simp [execOp, ho, e1, e2, run_eqGuard_agg w .eql t x y _ _ hg, run_eql_struct, hr]
abbrev tArc : TypeId := 48
theorem arc_two : twoInts PP tArc = true := by kernel_rfl
theorem arc_st : PP.underlying tArc = some (.struct (PP.fieldsOf tArc)) := by kernel_rfl
theorem arc_held : PP.stoodInHeld tArc = false := by kernel_rfl
theorem arc_guard : PP.eqGuardType PP.depth tArc = false := by kernel_rfl

/-- whether there is a way -/
theorem way_gb {n : Nat} {G : List (List Arc)} (hG : GOK n G) (h6 : n ≤ 6) {x y : Nat} (hx : x < n) (hy : y < n) :
    ∃ w : List Arc, FSpec PP wayF [.v (vG n G), di ↑x, di ↑y] σ0 (.tup [.v (vArcs w), db (gb (reachM G n x) y)]) σ0 := by
  obtain ⟨w, ok, h1, h2, _, _⟩ := way_ex hG h6 hx hy
  refine ⟨w, ?_⟩
  have e : gb (reachM G n x) y = ok := by rw [Bool.eq_iff_iff, reachM_iff hG hx, h2]
  rw [e]; exact h1
end Go.Proofs.YtmdipbhjhkckjaaGreat

namespace Go.Proofs.YtmdipbhjhkckjaaGreat
open Go.Dv

theorem graph_ex (s : List Int) (hb : BytesOK s) (hs : s.length ≤ 200) : ∃ (n : Nat) (G : List (List Arc)) (k : Nat), GOK n G ∧ n ≤ 6 ∧ FSpec PP 18 [.ptr 0 0] (dice s 0) (.v (vG n G)) (dice s k) :=
  ⟨_, _, _, graph_ok hb 0, (nM_range hb 0).2, graph_spec s hb hs 0 (by omega)⟩
theorem bytes_take {s : List Int} (hb : BytesOK s) (n : Nat) : BytesOK (s.take n) := fun x hx => hb x (List.mem_of_mem_take hx)
abbrev σ1 : St := ⟨[none], []⟩
theorem mod_ex {a : Int} (ha : 0 ≤ a ∧ a < 256) {n : Nat} (hn : 1 ≤ n) : ∃ k : Nat, a.tmod n = (k : Int) ∧ k < n := by
  rw [Int.tmod_eq_emod_of_nonneg ha.1]
  have h1 := Int.emod_nonneg a (b := n) (by omega)
  have h2 := Int.emod_lt_of_pos a (b := n) (by omega)
  exact ⟨(a % n).toNat, by omega, by omega⟩
theorem wrapu {a : Int} (ha : 0 ≤ a ∧ a < 256) : IntKind.i64.wrap a = a := wrap_id (by omega) (by omega)
theorem any_at {α : Type} {p : α → Bool} {l : List α} {i : Nat} {x : α} (h : l[i]? = some x) (b : Bool) : (b || (l.drop i).any p) = ((b || p x) || (l.drop (i + 1)).any p) := by
  rw [List.drop_eq_getElem_cons (List.getElem?_eq_some_iff.1 h).1, List.any_cons, (List.getElem?_eq_some_iff.1 h).2, Bool.or_assoc]
theorem any_end {α : Type} {p : α → Bool} {l : List α} {i : Nat} (h : l.length ≤ i) (b : Bool) : (b || (l.drop i).any p) = b := by
  rw [List.drop_of_length_le h]; simp
theorem eq_cast (j k : Nat) : ((j : Int) == (k : Int)) = (j == k) := by
  rw [Bool.eq_iff_iff]; simp; omega
theorem reachL_le (G : List (List Arc)) (n x : Nat) : (reachL G n x).length ≤ n := by
  have := List.length_filter_le (gb (reachM G n x)) (List.range n)
  simpa [reachL] using this
theorem reached_is {n : Nat} {G : List (List Arc)} (hG : GOK n G) {x y : Nat} (hx : x < n) (hy : y < n) {ok : Bool} (h : ok = true ↔ Path G x y) : (reachL G n x).any (fun j => j == y) = ok := by
  rw [Bool.eq_iff_iff, h, ← reachM_iff hG hx]
  simp [reachL, hy]
theorem wayL_self {n : Nat} {G : List (List Arc)} (hG : GOK n G) {x : Nat} (hx : x < n) : (wayL G n x x).length = 0 := by
  rw [wayL, wayM_length, ((dist_ok hG hx).zero x hx).2 rfl]; rfl

theorem allq_at {α : Type} {p : α → Bool} {l : List α} {i : Nat} {x : α} (h : l[i]? = some x) (b : Bool) : (b && (l.drop i).all p) = ((b && p x) && (l.drop (i + 1)).all p) := by
  rw [List.drop_eq_getElem_cons (List.getElem?_eq_some_iff.1 h).1, List.all_cons, (List.getElem?_eq_some_iff.1 h).2, Bool.and_assoc]
theorem allq_end {α : Type} {p : α → Bool} {l : List α} {i : Nat} (h : l.length ≤ i) (b : Bool) : (b && (l.drop i).all p) = b := by
  rw [List.drop_of_length_le h]; simp
theorem range_get {n i : Nat} (h : i < n) : (List.range n)[i]? = some i := by simp [h]
theorem homes_in {n : Nat} {G : List (List Arc)} (hG : GOK n G) {k : Nat} (hk : k < n) : (homesM G n).any (fun h => h == k) = (List.range n).all fun i => gb (reachM G n i) k := by
  rw [Bool.eq_iff_iff, List.any_eq_true, List.all_eq_true]
  constructor
  · rintro ⟨x, hx, e⟩
    simp only [beq_iff_eq] at e
    subst e
    intro i hi
    have hi := List.mem_range.1 hi
    exact (reachM_iff hG hi _).2 (((homes_mem hG).1 hx).2 i hi)
  · intro h
    exact ⟨k, (homes_mem hG).2 ⟨hk, fun i hi => (reachM_iff hG hi _).1 (h i (List.mem_range.2 hi))⟩, by simp⟩
theorem homes_le (G : List (List Arc)) (n : Nat) : (homesM G n).length ≤ n := by
  have := List.length_filter_le (homeQ (allM G n)) (List.range n)
  simpa [homesM] using this
theorem dead_le (G : List (List Arc)) (n : Nat) : (deadM G n).length ≤ n := by
  have := List.length_filter_le (deadQ G) (List.range n)
  simpa [deadM] using this
theorem comp_le (R : List (List Bool)) (n i : Nat) : (compM R n i).length ≤ n := by
  have := List.length_filter_le (fun k => rr R i k && rr R k i) (List.range n)
  simpa [compM] using this
theorem comps_le (R : List (List Bool)) (n : Nat) : (compsM R n).length ≤ n := by
  have := List.length_filter_le (compQ R n) (List.range n)
  simpa [compsM] using this
theorem comps_cons {R : List (List Bool)} {n : Nat} {c : List Nat} (h : c ∈ compsM R n) : ∃ x l, c = x :: l := by
  obtain ⟨r, _, h2, rfl⟩ := comps_of h
  cases e : compM R n r with
  | nil => rw [e] at h2; simp at h2
  | cons x l => exact ⟨x, l, rfl⟩
theorem findC_yes {h0 : Nat} {hl : List Nat} {c0 : Nat} {cl : List Nat} {r : List (List Nat)} (h : findC (h0 :: hl) ((c0 :: cl) :: r) = true) (e : c0 = h0) : decide (c0 :: cl = h0 :: hl) = true := by
  simpa [findC, e] using h
theorem findC_no {h0 : Nat} {hl : List Nat} {c0 : Nat} {cl : List Nat} {r : List (List Nat)} (h : findC (h0 :: hl) ((c0 :: cl) :: r) = true) (e : ¬ c0 = h0) : findC (h0 :: hl) r = true := by
  simpa [findC, e] using h

abbrev stN (c : Nat) : St := ⟨List.replicate c none, []⟩
abbrev stL (c : Nat) (out : List Bool) : St := ⟨List.replicate c none ++ [some (dbl out)], []⟩
def marks : List Nat → List Bool → List Bool
  | [], out => out
  | x :: l, out => marks l (out.set x true)
theorem marks_length : ∀ (l : List Nat) (out : List Bool), (marks l out).length = out.length
  | [], _ => rfl
  | x :: l, out => by simp only [marks]; rw [marks_length l]; simp
theorem marks_gb : ∀ (l : List Nat) (out : List Bool) (y : Nat), y < out.length → gb (marks l out) y = (gb out y || l.contains y)
  | [], out, y, _ => by simp [marks]
  | x :: l, out, y, h => by
    simp only [marks]
    rw [marks_gb l _ y (by simpa using h)]
    by_cases e : x = y
    · subst e
      have : gb (out.set x true) x = true := gb_true.2 (by simp [h])
      simp [this]
    · have : gb (out.set x true) y = gb out y := by simp [gb, List.getD_eq_getElem?_getD, e]
      rw [this, List.contains_cons]
      have : (y == x) = false := by simp; omega
      rw [this, Bool.false_or]
theorem gb_rep (n y : Nat) : gb (List.replicate n false) y = false := by
  simp only [gb, List.getD_eq_getElem?_getD, List.getElem?_replicate]; split <;> rfl
abbrev outOf (n : Nat) (c : List Nat) : List Bool := marks c (List.replicate n false)
def leavesO (G : List (List Arc)) (out : List Bool) (c : List Nat) : Bool := c.any fun i => (G.getD i []).any fun a => !gb out a.2.toNat
theorem leaves_is {n : Nat} {G : List (List Arc)} (hG : GOK n G) (c : List Nat) : leavesO G (outOf n c) c = leavesQ G c := by
  unfold leavesO leavesQ
  rw [Bool.eq_iff_iff, List.any_eq_true, List.any_eq_true]
  have h : ∀ i, ((G.getD i []).any fun a => !gb (outOf n c) a.2.toNat) = ((G.getD i []).any fun a => !c.contains a.2.toNat) := fun i => by
    rw [Bool.eq_iff_iff, List.any_eq_true, List.any_eq_true]
    have e : ∀ a ∈ G.getD i [], gb (outOf n c) a.2.toNat = c.contains a.2.toNat := fun a ha => by
      rw [marks_gb _ _ _ (by simpa using (arc_lt hG ha).1), gb_rep, Bool.false_or]
    constructor
    · rintro ⟨a, ha, h⟩; exact ⟨a, ha, by rw [← e a ha]; exact h⟩
    · rintro ⟨a, ha, h⟩; exact ⟨a, ha, by rw [e a ha]; exact h⟩
  simp only [h]
theorem op_makeR {P : Program} {o : Oper} {t : TypeId} {x y : Operand} (ho : o.op = .makeSlice t x y) {e : TypeId} {z : Value} (hs : slTy P t = some (e, 1, 1, some z)) (hz : constV z = some (.bool false)) (c n : Nat) (hn : n ≤ 1000) :
    OpOK P o [di ↑n, di ↑n] (stN c) (.arr c 0 n) (stL c (List.replicate n false)) := by
  have := op_make (P := P) (o := o) (σ := stN c) ho hs hz (k := .i64) (k' := .i64) (n := (n : Int)) (by omega) (by omega) (by omega)
  rw [Int.toNat_natCast, bools_zero, show (stN c).H.length = c by simp] at this
  exact this

abbrev stC (at_ : List Int) : St := ⟨[none, some (dli at_)], []⟩
theorem ints_zero (n : Nat) : List.replicate n (di 0) = dli (List.replicate n 0) := by simp
/-- numbers of components: those before the `j`-th are marked, and the first `k` of the `j`-th -/
structure AtOK (n : Nat) (C : List (List Nat)) (j k : Nat) (at_ : List Int) : Prop where
  len : at_.length = n
  old : ∀ (i : Nat) (c : List Nat) (x : Nat), i < j → C[i]? = some c → x ∈ c → gI at_ x = i + 1
  now : ∀ (c : List Nat) (x : Nat), C[j]? = some c → x ∈ c.take k → gI at_ x = j + 1
  zero : ∀ x, (∀ (i : Nat) (c : List Nat), i < j → C[i]? = some c → x ∉ c) → (∀ c, C[j]? = some c → x ∉ c.take k) → gI at_ x = 0
structure COK (n : Nat) (C : List (List Nat)) : Prop where
  le : C.length ≤ 100
  lel : ∀ c ∈ C, c.length ≤ 100
  lt : ∀ c ∈ C, ∀ x ∈ c, x < n
  disj : ∀ (i j : Nat) (c d : List Nat) (x : Nat), C[i]? = some c → C[j]? = some d → x ∈ c → x ∈ d → i = j
  sorted : ∀ c ∈ C, c.Pairwise (· < ·)
theorem sorted_take : ∀ {c : List Nat} {k x y : Nat}, c.Pairwise (· < ·) → c[k]? = some x → y ∈ c.take k → y < x
  | [], k, x, y, _, h, _ => by simp at h
  | a :: c, 0, x, y, _, _, hy => by simp at hy
  | a :: c, k + 1, x, y, hp, h, hy => by
    simp only [List.getElem?_cons_succ] at h
    rw [List.take_succ_cons] at hy
    rw [List.pairwise_cons] at hp
    rcases List.mem_cons.1 hy with rfl | hy
    · exact hp.1 x (List.mem_of_getElem? h)
    · exact sorted_take hp.2 h hy
theorem AtOK.start (n : Nat) (C : List (List Nat)) : AtOK n C 0 0 (List.replicate n 0) := by
  refine ⟨by simp, fun i c x h => by omega, fun c x _ h => by simp at h, fun x _ _ => ?_⟩
  simp only [gI, List.getD_eq_getElem?_getD, List.getElem?_replicate]; split <;> rfl
theorem AtOK.is0 {n : Nat} {C : List (List Nat)} (hC : COK n C) {j k : Nat} {at_ : List Int} (h : AtOK n C j k at_) {c : List Nat} (hc : C[j]? = some c) {x : Nat} (hx : c[k]? = some x) : gI at_ x = 0 := by
  refine h.zero x (fun i d hi hd hm => ?_) (fun d hd hm => ?_)
  · have := hC.disj i j d c x hd hc hm (List.mem_of_getElem? hx); omega
  · rw [hc] at hd
    obtain rfl : c = d := by simpa using hd
    have := sorted_take (hC.sorted c (List.mem_of_getElem? hc)) hx hm; omega
theorem AtOK.step {n : Nat} {C : List (List Nat)} (hC : COK n C) {j k : Nat} {at_ : List Int} (h : AtOK n C j k at_) {c : List Nat} (hc : C[j]? = some c) {x : Nat} (hx : c[k]? = some x) : AtOK n C j (k + 1) (at_.set x ((j + 1 : Nat) : Int)) := by
  have hm := List.mem_of_getElem? hc
  have hxn := hC.lt c hm x (List.mem_of_getElem? hx)
  have hl : x < at_.length := by rw [h.len]; exact hxn
  have htk : c.take (k + 1) = c.take k ++ [x] := by
    obtain ⟨h1, h2⟩ := List.getElem?_eq_some_iff.1 hx
    rw [List.take_succ_eq_append_getElem h1, h2]
  refine ⟨by simp [h.len], fun i d y hi hd hy => ?_, fun d y hd hy => ?_, fun y h1 h2 => ?_⟩
  · rw [gI_set hl, if_neg]
    · exact h.old i d y hi hd hy
    · rintro rfl
      have := hC.disj i j d c _ hd hc hy (List.mem_of_getElem? hx); omega
  · rw [gI_set hl]
    split
    · omega
    · rename_i hne
      rw [hc] at hd
      obtain rfl : c = d := by simpa using hd
      rw [htk] at hy
      rcases List.mem_append.1 hy with hy | hy
      · exact h.now c y hc hy
      · simp at hy; omega
  · have hne : ¬ x = y := by
      rintro rfl
      exact h2 c hc (by rw [htk]; simp)
    rw [gI_set hl, if_neg hne]
    refine h.zero y h1 (fun d hd hy => h2 d hd ?_)
    rw [hc] at hd
    obtain rfl : c = d := by simpa using hd
    rw [htk]; simp [hy]
theorem AtOK.next {n : Nat} {C : List (List Nat)} {j : Nat} {at_ : List Int} {c : List Nat} (hc : C[j]? = some c) (h : AtOK n C j c.length at_) : AtOK n C (j + 1) 0 at_ := by
  refine ⟨h.len, fun i d y hi hd hy => ?_, fun d y _ hy => by simp at hy, fun y h1 _ => ?_⟩
  · by_cases e : i = j
    · subst e
      rw [hc] at hd
      obtain rfl : c = d := by simpa using hd
      exact h.now c y hc (by simpa using hy)
    · exact h.old i d y (by omega) hd hy
  · refine h.zero y (fun i d hi hd => h1 i d (by omega) hd) (fun d hd hy => ?_)
    rw [hc] at hd
    obtain rfl : c = d := by simpa using hd
    exact h1 j c (by omega) hc (by simpa using hy)
theorem comps_COK {n : Nat} {G : List (List Arc)} (hG : GOK n G) (h6 : n ≤ 6) : COK n (compsM (allM G n) n) := by
  have h1 := comps_le (allM G n) n
  refine ⟨by omega, fun c hc => ?_, fun c hc x hx => (comps_is hG hc hx).1, fun i j c d x hc hd h1 h2 => comps_disj hG hc hd h1 h2, fun c hc => comps_sorted hc⟩
  obtain ⟨r, _, _, rfl⟩ := comps_of hc
  have := comp_le (allM G n) n r; omega
theorem at_final {n : Nat} {G : List (List Arc)} (hG : GOK n G) {at_ : List Int} (h : AtOK n (compsM (allM G n) n) (compsM (allM G n) n).length 0 at_) {a b : Nat} (ha : a < n) (hb : b < n) :
    gI at_ a ≠ 0 ∧ (gI at_ a == gI at_ b) = (gb (reachM G n a) b && gb (reachM G n b) a) := by
  obtain ⟨i, hi⟩ := List.getElem?_of_mem (comps_cover hG ha)
  obtain ⟨j, hj⟩ := List.getElem?_of_mem (comps_cover hG hb)
  have hil := (List.getElem?_eq_some_iff.1 hi).1
  have hjl := (List.getElem?_eq_some_iff.1 hj).1
  have e1 := h.old i _ a hil hi (compM_self ha)
  have e2 := h.old j _ b hjl hj (compM_self hb)
  refine ⟨by omega, ?_⟩
  rw [e1, e2, Bool.eq_iff_iff, Bool.and_eq_true, reachM_iff hG ha, reachM_iff hG hb, ← comp_mem hG ha]
  constructor
  · intro e
    have : i = j := by simp at e; omega
    subst this
    rw [hi] at hj
    have : compM (allM G n) n a = compM (allM G n) n b := by simpa using hj
    rw [this]; exact compM_self hb
  · intro hm
    have := comps_disj hG hi hj hm (compM_self hb)
    subst this; simp
end Go.Proofs.YtmdipbhjhkckjaaGreat
