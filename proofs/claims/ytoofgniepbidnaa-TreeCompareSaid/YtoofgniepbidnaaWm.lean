/-
  Package tree, walked: what proves an embedding.
-/
import Derived.Test.YtoofgniepbidnaaWl
namespace Go.Proofs.Ytoofgniepbidnaa
open Go.Dv Tr

def labOK (X Y : List Nd) (at' : List Int) (i : Nat) : Bool :=
  match X[i]?, at'[i]? with
  | some n, some v => decide (0 ≤ v) && decide (v < Y.length) && (match Y[v.toNat]? with | some m => m.lab == n.lab | none => false)
  | _, _ => false
def wayF (Y : List Nd) (at' : List Int) (kid r : Nat) : Int := if (r : Int) ≤ at'.getD kid 0 ∧ at'.getD kid 0 < (ge Y r : Int) then 0 else -1
def wayOK (X Y : List Nd) (at' : List Int) (i : Nat) : Bool :=
  match X[i]?, at'[i]? with
  | some n, some v => (plM (wayF Y at') n.kids (kidsOf Y v.toNat)).isSome
  | _, _ => false
def provX (X Y : List Nd) (at' : List Int) : Bool := !(X.length == 0) && !(Y.length == 0) && (at'.length == X.length) && (List.range X.length).all (labOK X Y at') && (List.range X.length).all (wayOK X Y at')
theorem lend_cell1 {L : Nat → Option (List D)} {o : Nat} {x : V} (hx : x.isAgg = false) (h : L o = some [.v x]) : lends L 1 (.ptr o 0) (.ref x) := by
  refine .inr (.inl ⟨o, 0, [.v x], x, rfl, rfl, h, fun j y hj => ?_⟩)
  have e : x.cellsV = [x] := by cases x <;> simp_all [V.cellsV, V.isAgg]
  rw [e] at hj
  cases j with
  | zero => simp at hj; subst hj; exact ⟨hx, .v x, rfl, _, .same, rfl⟩
  | succ j => simp at hj
theorem all_range_at {n j : Nat} {p : Nat → Bool} (h : j < n) : ((List.range n).drop j).all p = (p j && ((List.range n).drop (j + 1)).all p) := by rw [range_at h]; rfl
theorem all_range_end {n j : Nat} {p : Nat → Bool} (h : n ≤ j) : ((List.range n).drop j).all p = true := by rw [range_end h]; rfl
theorem wayF_p (Y : List Nd) (at' : List Int) (kid : Nat) {r : Nat} {v : Int} {nb : Nd} (hv : at'[kid]? = some v) (hr : Y[r]? = some nb) : fP (wayF Y at') kid (r : Int) = (decide ((r : Int) ≤ v) && decide (v < nb.fin)) := by
  have h1 : at'.getD kid 0 = v := by rw [List.getD_eq_getElem?_getD, hv]; rfl
  have h2 : ge Y r = nb.fin := by simp [ge, hr]
  unfold fP wayF
  rw [Int.toNat_natCast, h1, h2]
  by_cases h : (r : Int) ≤ v ∧ v < nb.fin
  · rw [if_pos h]; simp [h.1, h.2]
  · rw [if_neg h]
    by_cases h3 : (r : Int) ≤ v
    · have h4 : ¬ v < nb.fin := fun h4 => h ⟨h3, h4⟩
      simp [h4]
    · simp [h3]

noncomputable def cProves1 : Code := Try.f84.body.getD .skip
set_option maxRecDepth 20000 in
theorem proves1_spec (Y : List Nd) (at' : List Int) (kid r : Nat) (v : Int) (nb : Nd) (hv : at'[kid]? = some v) (hr : Y[r]? = some nb) : FSpec PP 84 [di ↑r, .v (.ref (vl at')), .v (.ref (vi ↑kid)), .v (.ref (vnl Y))] σ0 (db (fP (wayF Y at') kid ↑r)) σ0 := by
  have hv2 := idx_some (f := vi) hv
  have hr2 := idx_node hr
  rw [wayF_p Y at' kid hv hr]
  refine spec_at cProves1 Try.func84 rfl (by kernel_rfl) (by first | decide | simp) _ (by dsimp only [Try.f84, List.length, Nat.reduceAdd, Nat.reduceSub, List.replicate, List.cons_append, List.nil_append]) ?_
  refine at_seq [0] [1] rfl ?_
  refine at_region rfl ?_
  refine at_mc 5 rfl rfl rfl (.inr rfl) (by dsimp only [constD]) (by dsimp only [List.set]) ?_
  refine at_end rfl ?_
  refine at_seq [1, 0] [1, 1] rfl ?_
  refine at_draw mixed rfl [σ0] rfl ?_
  first | (refine da_quiet (some 6) rfl rfl rfl rfl (fun s hs => op_loadR1 rfl fone_Sint rfl) (by dsimp only [putD, List.set]) ?_) | (refine da_quiet (some 6) rfl rfl rfl rfl (by intro s hs; simp only [List.mem_cons, List.not_mem_nil, or_false] at hs; rcases hs with rfl <;> exact op_loadP1 rfl fone_Sint rfl rfl) (by dsimp only [putD, List.set]) ?_)
  first | (refine da_quiet (some 7) rfl rfl rfl rfl (fun s hs => op_loadR1 rfl fone_int rfl) (by dsimp only [putD, List.set]) ?_) | (refine da_quiet (some 7) rfl rfl rfl rfl (by intro s hs; simp only [List.mem_cons, List.not_mem_nil, or_false] at hs; rcases hs with rfl <;> exact op_loadP1 rfl fone_int rfl rfl) (by dsimp only [putD, List.set]) ?_)
  first | (refine da_quiet (some 8) rfl rfl rfl rfl (fun s hs => op_idxL rfl fsl_Sint (by first | decide | omega) (by first | assumption | exact idx_some (by assumption) | rfl) (by first | rfl | (simp [V.size]; done))) (by dsimp only [putD, List.set]) ?_) | (refine da_quiet (some 8) rfl rfl rfl rfl (fun s hs => opOK_un (op_idxL rfl fsl_Sint (by first | decide | omega) (by first | assumption | exact idx_some (by assumption) | rfl) (by first | rfl | (simp [V.size]; done)))) (by dsimp only [putD, List.set]) ?_) | (refine da_quiet (some 8) rfl rfl rfl rfl (fun s hs => op_idxA rfl fsl_Sint (by first | decide | omega) (by first | decide | omega)) (by dsimp only [putD, List.set]) ?_)
  first | (refine da_quiet (some 9) rfl rfl rfl rfl (fun s hs => op_loadR1 rfl fone_int rfl) (by dsimp only [putD, List.set]) ?_) | (refine da_quiet (some 9) rfl rfl rfl rfl (by intro s hs; simp only [List.mem_cons, List.not_mem_nil, or_false] at hs; rcases hs with rfl <;> exact op_loadP1 rfl fone_int rfl rfl) (by dsimp only [putD, List.set]) ?_)
  refine da_mv 0 10 rfl rfl rfl (.inl rfl) rfl (by dsimp only [List.set]) ?_
  refine da_quiet (some 11) rfl rfl rfl rfl (fun s hs => op_binI rfl rfl) (by dsimp only [putD, List.set]) ?_
  refine da_mv 11 12 rfl rfl rfl (.inl rfl) rfl (by dsimp only [List.set]) ?_
  refine da_split 12 rfl (fun hb1 env' he => ?_) (fun hb1 env' he => ?_)
  · dsimp only [List.set] at he; subst he
    first | (refine da_quiet (some 13) rfl rfl rfl rfl (fun s hs => op_loadR1 rfl fone_Sint rfl) (by dsimp only [putD, List.set]) ?_) | (refine da_quiet (some 13) rfl rfl rfl rfl (by intro s hs; simp only [List.mem_cons, List.not_mem_nil, or_false] at hs; rcases hs with rfl <;> exact op_loadP1 rfl fone_Sint rfl rfl) (by dsimp only [putD, List.set]) ?_)
    first | (refine da_quiet (some 14) rfl rfl rfl rfl (fun s hs => op_loadR1 rfl fone_int rfl) (by dsimp only [putD, List.set]) ?_) | (refine da_quiet (some 14) rfl rfl rfl rfl (by intro s hs; simp only [List.mem_cons, List.not_mem_nil, or_false] at hs; rcases hs with rfl <;> exact op_loadP1 rfl fone_int rfl rfl) (by dsimp only [putD, List.set]) ?_)
    first | (refine da_quiet (some 15) rfl rfl rfl rfl (fun s hs => op_idxL rfl fsl_Sint (by first | decide | omega) (by first | assumption | exact idx_some (by assumption) | rfl) (by first | rfl | (simp [V.size]; done))) (by dsimp only [putD, List.set]) ?_) | (refine da_quiet (some 15) rfl rfl rfl rfl (fun s hs => opOK_un (op_idxL rfl fsl_Sint (by first | decide | omega) (by first | assumption | exact idx_some (by assumption) | rfl) (by first | rfl | (simp [V.size]; done)))) (by dsimp only [putD, List.set]) ?_) | (refine da_quiet (some 15) rfl rfl rfl rfl (fun s hs => op_idxA rfl fsl_Sint (by first | decide | omega) (by first | decide | omega)) (by dsimp only [putD, List.set]) ?_)
    first | (refine da_quiet (some 16) rfl rfl rfl rfl (fun s hs => op_loadR1 rfl fone_int rfl) (by dsimp only [putD, List.set]) ?_) | (refine da_quiet (some 16) rfl rfl rfl rfl (by intro s hs; simp only [List.mem_cons, List.not_mem_nil, or_false] at hs; rcases hs with rfl <;> exact op_loadP1 rfl fone_int rfl rfl) (by dsimp only [putD, List.set]) ?_)
    first | (refine da_quiet (some 17) rfl rfl rfl rfl (fun s hs => op_loadR1 rfl fone_Stree_node rfl) (by dsimp only [putD, List.set]) ?_) | (refine da_quiet (some 17) rfl rfl rfl rfl (by intro s hs; simp only [List.mem_cons, List.not_mem_nil, or_false] at hs; rcases hs with rfl <;> exact op_loadP1 rfl fone_Stree_node rfl rfl) (by dsimp only [putD, List.set]) ?_)
    refine da_mv 0 18 rfl rfl rfl (.inl rfl) rfl (by dsimp only [List.set]) ?_
    first | (refine da_quiet (some 19) rfl rfl rfl rfl (fun s hs => op_idxL rfl fsl_Stree_node (by first | decide | omega) (by first | assumption | exact idx_some (by assumption) | rfl) (by first | rfl | (simp [V.size]; done))) (by dsimp only [putD, List.set]) ?_) | (refine da_quiet (some 19) rfl rfl rfl rfl (fun s hs => opOK_un (op_idxL rfl fsl_Stree_node (by first | decide | omega) (by first | assumption | exact idx_some (by assumption) | rfl) (by first | rfl | (simp [V.size]; done)))) (by dsimp only [putD, List.set]) ?_) | (refine da_quiet (some 19) rfl rfl rfl rfl (fun s hs => op_idxA rfl fsl_Stree_node (by first | decide | omega) (by first | decide | omega)) (by dsimp only [putD, List.set]) ?_)
    first | (refine da_quiet (some 20) rfl rfl rfl rfl (fun s hs => op_fieldP rfl ffld1_tree_node (by decide)) (by dsimp only [putD, List.set]) ?_) | (refine da_quiet (some 20) rfl rfl rfl rfl (fun s hs => op_fieldR rfl ffld1_tree_node (by decide) (by decide) rfl) (by dsimp only [putD, List.set]) ?_)
    first | (refine da_quiet (some 21) rfl rfl rfl rfl (fun s hs => op_loadR1 rfl fone_int rfl) (by dsimp only [putD, List.set]) ?_) | (refine da_quiet (some 21) rfl rfl rfl rfl (by intro s hs; simp only [List.mem_cons, List.not_mem_nil, or_false] at hs; rcases hs with rfl <;> exact op_loadP1 rfl fone_int rfl rfl) (by dsimp only [putD, List.set]) ?_)
    refine da_quiet (some 22) rfl rfl rfl rfl (fun s hs => op_binI rfl rfl) (by dsimp only [putD, List.set]) ?_
    refine da_pk true 12 22 23 rfl rfl rfl rfl rfl rfl rfl (by dsimp only [List.set]) ?_
    refine da_mv 23 5 rfl rfl rfl (.inr rfl) rfl (by dsimp only [List.set]) ?_
    refine da_end rfl ⟨by decide +kernel, _, rfl, ?_⟩
    refine at_ret rfl (ret_one (t := 5) rfl rfl ?_ rfl)
    first | (simp_all; done) | (simp_all; omega)
  · dsimp only [List.set] at he; subst he
    refine da_skip (some 13) rfl rfl rfl (by dsimp only [putD, List.set]) ?_
    refine da_skip (some 14) rfl rfl rfl (by dsimp only [putD, List.set]) ?_
    refine da_skip (some 15) rfl rfl rfl (by dsimp only [putD, List.set]) ?_
    refine da_skip (some 16) rfl rfl rfl (by dsimp only [putD, List.set]) ?_
    refine da_skip (some 17) rfl rfl rfl (by dsimp only [putD, List.set]) ?_
    refine da_skip (some 18) rfl rfl rfl (by dsimp only [putD, List.set]) ?_
    refine da_skip (some 19) rfl rfl rfl (by dsimp only [putD, List.set]) ?_
    refine da_skip (some 20) rfl rfl rfl (by dsimp only [putD, List.set]) ?_
    refine da_skip (some 21) rfl rfl rfl (by dsimp only [putD, List.set]) ?_
    refine da_skip (some 22) rfl rfl rfl (by dsimp only [putD, List.set]) ?_
    refine da_pkc false 12 23 rfl rfl rfl rfl rfl rfl (by dsimp only [constD]) (by dsimp only [List.set]) ?_
    refine da_mv 23 5 rfl rfl rfl (.inr rfl) rfl (by dsimp only [List.set]) ?_
    refine da_end rfl ⟨by decide +kernel, _, rfl, ?_⟩
    refine at_ret rfl (ret_one (t := 5) rfl rfl ?_ rfl)
    first | (simp_all; done) | (simp_all; omega)

noncomputable def cProves : Code := Try.f52.body.getD .skip
set_option maxRecDepth 20000 in
theorem proves_inner (X Y : List Nd) (hX : Wf X) (hY : Wf Y) (at' : List Int) (hat : at'.length = X.length) (T : Bool) (K : List KI) (i : Nat) (ks : List Nat) (hkl : ks.length ≤ 1000) (hks : ∀ k ∈ ks, k < X.length) (ok : Bool) (hk : ok = true → Run PP (fun env σ1 => ResOK PP Try.f52 env σ1 (db T) σ0) K (.undef :: .undef :: .undef :: .undef :: .undef :: (.v (.ref (vl at'))) :: .undef :: .undef :: (.v (.ref (vnl Y))) :: .undef :: .undef :: .undef :: .undef :: .undef :: .undef :: .undef :: .undef :: .undef :: .undef :: .undef :: .undef :: .undef :: .undef :: .undef :: .undef :: .undef :: .undef :: .undef :: .undef :: .undef :: .undef :: .undef :: .undef :: .undef :: .undef :: .undef :: .undef :: .undef :: .undef :: .undef :: .undef :: .undef :: .undef :: .undef :: .undef :: .undef :: .undef :: .undef :: .undef :: .undef :: .undef :: .undef :: .undef :: .undef :: .undef :: .undef :: .undef :: .undef :: .undef :: .undef :: .undef :: .undef :: .undef :: .undef :: .undef :: .undef :: .undef :: .undef :: .undef :: .undef :: .undef :: (dnl X) :: (di ↑X.length) :: (di ↑i) :: .undef :: .undef :: .undef :: .undef :: .undef :: .undef :: .undef :: .undef :: .undef :: .undef :: .undef :: .undef :: .undef :: .undef :: .undef :: .undef :: .undef :: .undef :: .undef :: .undef :: .undef :: .undef :: .undef :: .undef :: .undef :: .undef :: .undef :: .undef :: .undef :: .undef :: []) ⟨[none], []⟩) (hF : ok = false → T = false) (m : Nat) : ∀ (ix : Nat) (rest : List Nat), ks.length - ix = m → (∀ r ∈ rest, r < Y.length) → rest.length ≤ 1000 → ok = (plM (wayF Y at') (ks.drop ix) rest).isSome → Run PP (fun env σ1 => ResOK PP Try.f52 env σ1 (db T) σ0) (.lp (sub cProves [1, 1, 1, 1, 0, 1, 0, 0, 1, 1, 0, 0, 1, 1, 1, 0, 0]) :: .blk 4 :: K) (.undef :: .undef :: .undef :: .undef :: .undef :: (.v (.ref (vl at'))) :: .undef :: .undef :: (.v (.ref (vnl Y))) :: .undef :: .undef :: .undef :: .undef :: (dl (il rest)) :: .undef :: .undef :: .undef :: .undef :: .undef :: .undef :: .undef :: .undef :: .undef :: .undef :: .undef :: .undef :: .undef :: .undef :: .undef :: .undef :: .undef :: .undef :: .undef :: .undef :: .undef :: .undef :: .undef :: .undef :: .undef :: .undef :: .undef :: .undef :: .undef :: .undef :: .undef :: .undef :: .undef :: .undef :: .undef :: .undef :: .undef :: .undef :: .undef :: .undef :: .undef :: .undef :: .undef :: .undef :: .undef :: .undef :: .undef :: .undef :: .undef :: .undef :: .undef :: .undef :: .undef :: .undef :: .undef :: .undef :: .undef :: (dnl X) :: (di ↑X.length) :: (di ↑i) :: .undef :: .undef :: .undef :: .undef :: .undef :: .undef :: .undef :: .undef :: .undef :: .undef :: .undef :: .undef :: .undef :: (dl (il ks)) :: (di ↑ks.length) :: (di ↑ix) :: .undef :: .undef :: .undef :: .undef :: .undef :: .undef :: .undef :: .undef :: .undef :: .undef :: .undef :: .undef :: .undef :: .undef :: []) ⟨[none], []⟩ := by
  induction m using Nat.strongRecOn with
  | _ m ih =>
    intro ix rest hm hr hrl hT
    refine run_lp ?_
    refine at_seq [1, 1, 1, 1, 0, 1, 0, 0, 1, 1, 0, 0, 1, 1, 1, 0, 0, 0] [1, 1, 1, 1, 0, 1, 0, 0, 1, 1, 0, 0, 1, 1, 1, 0, 0, 1] rfl ?_
    refine at_region rfl ?_
    refine at_op (some 90) rfl rfl rfl rfl (op_binI rfl rfl) (by dsimp only [putD, List.set]) ?_
    refine at_end rfl ?_
    refine at_seq [1, 1, 1, 1, 0, 1, 0, 0, 1, 1, 0, 0, 1, 1, 1, 0, 0, 1, 0] [1, 1, 1, 1, 0, 1, 0, 0, 1, 1, 0, 0, 1, 1, 1, 0, 0, 1, 1] rfl ?_
    refine at_cond [1, 1, 1, 1, 0, 1, 0, 0, 1, 1, 0, 0, 1, 1, 1, 0, 0, 1, 0, 0] [1, 1, 1, 1, 0, 1, 0, 0, 1, 1, 0, 0, 1, 1, 1, 0, 0, 1, 0, 1] rfl rfl (fun hc1 => ?_) (fun hc1 => ?_)
    · skip
      have hlt : ix < ks.length := by simpa using hc1
      obtain ⟨kid, hkd⟩ := get_ex hlt
      have hk2 := idx_il hkd
      have hd : ks.drop ix = kid :: ks.drop (ix + 1) := by rw [List.drop_eq_getElem_cons hlt]; congr 1; exact (List.getElem?_eq_some_iff.1 hkd).2
      rw [hd, plM_idx0] at hT
      obtain ⟨v, hv⟩ := get_ex (a := at') (i := kid) (by rw [hat]; exact hks kid (List.mem_of_getElem? hkd))
      refine at_skip rfl ?_
      refine at_seq [1, 1, 1, 1, 0, 1, 0, 0, 1, 1, 0, 0, 1, 1, 1, 0, 0, 1, 1, 0] [1, 1, 1, 1, 0, 1, 0, 0, 1, 1, 0, 0, 1, 1, 1, 0, 0, 1, 1, 1] rfl ?_
      refine at_block [1, 1, 1, 1, 0, 1, 0, 0, 1, 1, 0, 0, 1, 1, 1, 0, 0, 1, 1, 0, 0] 5 rfl ?_
      refine at_seq [1, 1, 1, 1, 0, 1, 0, 0, 1, 1, 0, 0, 1, 1, 1, 0, 0, 1, 1, 0, 0, 0] [1, 1, 1, 1, 0, 1, 0, 0, 1, 1, 0, 0, 1, 1, 1, 0, 0, 1, 1, 0, 0, 1] rfl ?_
      refine at_region rfl ?_
      first | (refine at_op (some 91) rfl rfl rfl rfl (op_idxL rfl fsl_Sint (by first | decide | omega) (by first | assumption | exact idx_some (by assumption) | rfl) (by first | rfl | (simp [V.size]; done))) (by dsimp only [putD, List.set]) ?_) | (refine at_op (some 91) rfl rfl rfl rfl (opOK_un (op_idxL rfl fsl_Sint (by first | decide | omega) (by first | assumption | exact idx_some (by assumption) | rfl) (by first | rfl | (simp [V.size]; done)))) (by dsimp only [putD, List.set]) ?_) | (refine at_op (some 91) rfl rfl rfl rfl (op_idxA rfl fsl_Sint (by first | decide | omega) (by first | decide | omega)) (by dsimp only [putD, List.set]) ?_)
      first | (refine at_op (some 92) rfl rfl rfl rfl (op_loadR1 rfl fone_int rfl) (by dsimp only [putD, List.set]) ?_) | (refine at_op (some 92) rfl rfl rfl rfl (op_loadP1 rfl fone_int rfl rfl) (by dsimp only [putD, List.set]) ?_)
      refine at_new 92 15 rfl rfl rfl rfl fzero_int rfl rfl rfl rfl (by decide) rfl rfl fone_int (by first | rfl | (simp [V.size]; done)) rfl (by simp only [List.length_cons]; omega) (by dsimp only [List.set]) ?_
      refine at_end rfl ?_
      refine at_seq [1, 1, 1, 1, 0, 1, 0, 0, 1, 1, 0, 0, 1, 1, 1, 0, 0, 1, 1, 0, 0, 1, 0] [1, 1, 1, 1, 0, 1, 0, 0, 1, 1, 0, 0, 1, 1, 1, 0, 0, 1, 1, 0, 0, 1, 1] rfl ?_
      refine at_region rfl ?_
      refine at_mv 13 93 rfl rfl rfl (.inl rfl) rfl (by dsimp only [List.set]) ?_
      refine at_op (some 94) rfl rfl rfl rfl (op_makeFunc0 rfl rfl rfl) (by dsimp only [putD, List.set]) ?_
      refine at_op (some 95) rfl rfl rfl rfl (op_call0 rfl rfl rfl rfl (indexFunc_spec 84 [] [.ref (vl at'), .ref (vi ↑kid), .ref (vnl Y)] (il rest) (fP (wayF Y at') kid) (fun x hx => by obtain ⟨r, hrm, rfl⟩ := List.mem_map.1 hx; obtain ⟨nb, hnb⟩ := get_ex (hr r hrm); exact proves1_spec Y at' kid r v nb hv hnb) (by simp; omega))) (by dsimp only [putD, List.set]) ?_
      refine at_mv 95 16 rfl rfl rfl (.inr rfl) rfl (by dsimp only [List.set]) ?_
      refine at_end rfl ?_
      refine at_seq [1, 1, 1, 1, 0, 1, 0, 0, 1, 1, 0, 0, 1, 1, 1, 0, 0, 1, 1, 0, 0, 1, 1, 0] [1, 1, 1, 1, 0, 1, 0, 0, 1, 1, 0, 0, 1, 1, 1, 0, 0, 1, 1, 0, 0, 1, 1, 1] rfl ?_
      refine at_seq [1, 1, 1, 1, 0, 1, 0, 0, 1, 1, 0, 0, 1, 1, 1, 0, 0, 1, 1, 0, 0, 1, 1, 0, 0] [1, 1, 1, 1, 0, 1, 0, 0, 1, 1, 0, 0, 1, 1, 1, 0, 0, 1, 1, 0, 0, 1, 1, 0, 1] rfl ?_
      refine at_region rfl ?_
      refine at_mv 16 96 rfl rfl rfl (.inl rfl) rfl (by dsimp only [List.set]) ?_
      refine at_op (some 97) rfl rfl rfl rfl (op_binI rfl rfl) (by dsimp only [putD, List.set]) ?_
      refine at_end rfl ?_
      refine at_cond [1, 1, 1, 1, 0, 1, 0, 0, 1, 1, 0, 0, 1, 1, 1, 0, 0, 1, 1, 0, 0, 1, 1, 0, 1, 0] [1, 1, 1, 1, 0, 1, 0, 0, 1, 1, 0, 0, 1, 1, 1, 0, 0, 1, 1, 0, 0, 1, 1, 0, 1, 1] rfl rfl (fun hc2 => ?_) (fun hc2 => ?_)
      · skip
        have hneg : idxP (fP (wayF Y at') kid) (il rest) 0 < 0 := by simpa using hc2
        rw [if_pos hneg] at hT
        have hT2 := hF hT
        refine at_seq [1, 1, 1, 1, 0, 1, 0, 0, 1, 1, 0, 0, 1, 1, 1, 0, 0, 1, 1, 0, 0, 1, 1, 0, 1, 0, 0] [1, 1, 1, 1, 0, 1, 0, 0, 1, 1, 0, 0, 1, 1, 1, 0, 0, 1, 1, 0, 0, 1, 1, 0, 1, 0, 1] rfl ?_
        refine at_region rfl ?_
        refine at_mc 6 rfl rfl rfl (.inr rfl) (by dsimp only [constD]) (by dsimp only [List.set]) ?_
        refine at_end rfl ?_
        refine at_ret rfl (ret_one (t := 6) rfl rfl ?_ rfl)
        rw [hT2]
      · skip
        have hge : 0 ≤ idxP (fP (wayF Y at') kid) (il rest) 0 := by simp at hc2; omega
        rw [if_neg (by omega)] at hT
        obtain ⟨kx, hkx⟩ := Int.eq_ofNat_of_zero_le hge
        rw [hkx] at hT ⊢
        have hkl2 : kx < rest.length := by have := idxP_len0 (p := fP (wayF Y at') kid) (il rest); rw [hkx] at this; simpa using this
        rw [Int.toNat_natCast, Option.isSome_map] at hT
        refine at_skip rfl ?_
        refine at_region rfl ?_
        refine at_mv 13 98 rfl rfl rfl (.inl rfl) rfl (by dsimp only [List.set]) ?_
        refine at_mv 16 99 rfl rfl rfl (.inl rfl) rfl (by dsimp only [List.set]) ?_
        refine at_op (some 100) rfl rfl rfl rfl (op_binI rfl rfl) (by dsimp only [putD, List.set]) ?_
        rw [wrap_succ (by omega)]
        refine at_op (some 101) rfl rfl rfl rfl (op_sliceL rfl fsl_Sint (by simp [V.size]) (by decide) (some (_, _)) none rfl rfl (l' := kx + 1) (h' := rest.length) (by simp [sliceI]; omega)) (by dsimp only [putD, List.set]) ?_
        rw [show (((il rest).map vi).take rest.length).drop (kx + 1) = (il (rest.drop (kx + 1))).map vi from by rw [List.take_of_length_le (by simp)]; simp [List.map_drop]]
        refine at_mv 101 13 rfl rfl rfl (.inr rfl) rfl (by dsimp only [List.set]) ?_
        refine at_end rfl ?_
        refine run_blk ?_
        refine at_region rfl ?_
        refine at_op (some 102) rfl rfl rfl rfl (op_binI rfl rfl) (by dsimp only [putD, List.set]) ?_
        refine at_mv 102 89 rfl rfl rfl (.inl rfl) rfl (by dsimp only [List.set]) ?_
        refine at_end rfl ?_
        rw [wrap_succ (by omega)]
        exact run_wk (.drop (.drop (.drop (.drop (.drop (.keep (.drop (.drop (.keep (.drop (.drop (.drop (.drop (.keep (.drop (.drop (.drop (.drop (.drop (.drop (.drop (.drop (.drop (.drop (.drop (.drop (.drop (.drop (.drop (.drop (.drop (.drop (.drop (.drop (.drop (.drop (.drop (.drop (.drop (.drop (.drop (.drop (.drop (.drop (.drop (.drop (.drop (.drop (.drop (.drop (.drop (.drop (.drop (.drop (.drop (.drop (.drop (.drop (.drop (.drop (.drop (.drop (.drop (.drop (.drop (.drop (.drop (.drop (.drop (.drop (.drop (.keep (.keep (.keep (.drop (.drop (.drop (.drop (.drop (.drop (.drop (.drop (.drop (.drop (.drop (.drop (.drop (.keep (.keep (.keep (.drop (.drop (.drop (.drop (.drop (.drop (.drop (.drop (.drop (.drop (.drop (.drop (.drop (.drop .nil)))))))))))))))))))))))))))))))))))))))))))))))))))))))))))))))))))))))))))))))))))))))))))))))))))))))) (ih _ (by omega) (ix + 1) (rest.drop (kx + 1)) rfl (fun r hr3 => hr r (List.mem_of_mem_drop hr3)) (by simp; omega) hT)
    · skip
      have hge : ks.length ≤ ix := by simpa using hc1
      rw [List.drop_of_length_le hge] at hT
      simp only [plM, Option.isSome_some] at hT
      refine at_exit rfl rfl ?_
      exact run_wk (.drop (.drop (.drop (.drop (.drop (.keep (.drop (.drop (.keep (.drop (.drop (.drop (.drop (.drop (.drop (.drop (.drop (.drop (.drop (.drop (.drop (.drop (.drop (.drop (.drop (.drop (.drop (.drop (.drop (.drop (.drop (.drop (.drop (.drop (.drop (.drop (.drop (.drop (.drop (.drop (.drop (.drop (.drop (.drop (.drop (.drop (.drop (.drop (.drop (.drop (.drop (.drop (.drop (.drop (.drop (.drop (.drop (.drop (.drop (.drop (.drop (.drop (.drop (.drop (.drop (.drop (.drop (.drop (.drop (.drop (.drop (.keep (.keep (.keep (.drop (.drop (.drop (.drop (.drop (.drop (.drop (.drop (.drop (.drop (.drop (.drop (.drop (.drop (.drop (.drop (.drop (.drop (.drop (.drop (.drop (.drop (.drop (.drop (.drop (.drop (.drop (.drop (.drop (.drop .nil)))))))))))))))))))))))))))))))))))))))))))))))))))))))))))))))))))))))))))))))))))))))))))))))))))))))) (hk hT)

set_option maxRecDepth 20000 in
theorem proves_two (X Y : List Nd) (hX : Wf X) (hY : Wf Y) (at' : List Int) (hat : at'.length = X.length) (hlab : (List.range X.length).all (labOK X Y at') = true) (T : Bool) (m : Nat) : ∀ i : Nat, X.length - i = m → T = ((List.range X.length).drop i).all (wayOK X Y at') → Run PP (fun env σ1 => ResOK PP Try.f52 env σ1 (db T) σ0) [.lp (sub cProves [1, 1, 1, 1, 0, 1, 0, 0]), .blk 2, .code (sub cProves [1, 1, 1, 1, 1])] (.undef :: .undef :: .undef :: .undef :: .undef :: (.v (.ref (vl at'))) :: .undef :: .undef :: (.v (.ref (vnl Y))) :: .undef :: .undef :: .undef :: .undef :: .undef :: .undef :: .undef :: .undef :: .undef :: .undef :: .undef :: .undef :: .undef :: .undef :: .undef :: .undef :: .undef :: .undef :: .undef :: .undef :: .undef :: .undef :: .undef :: .undef :: .undef :: .undef :: .undef :: .undef :: .undef :: .undef :: .undef :: .undef :: .undef :: .undef :: .undef :: .undef :: .undef :: .undef :: .undef :: .undef :: .undef :: .undef :: .undef :: .undef :: .undef :: .undef :: .undef :: .undef :: .undef :: .undef :: .undef :: .undef :: .undef :: .undef :: .undef :: .undef :: .undef :: .undef :: .undef :: .undef :: .undef :: .undef :: (dnl X) :: (di ↑X.length) :: (di ↑i) :: .undef :: .undef :: .undef :: .undef :: .undef :: .undef :: .undef :: .undef :: .undef :: .undef :: .undef :: .undef :: .undef :: .undef :: .undef :: .undef :: .undef :: .undef :: .undef :: .undef :: .undef :: .undef :: .undef :: .undef :: .undef :: .undef :: .undef :: .undef :: .undef :: .undef :: []) ⟨[none], []⟩ := by
  induction m using Nat.strongRecOn with
  | _ m ih =>
    intro i hm hT
    have hXl := hX.len
    have hYl := hY.len
    refine run_lp ?_
    refine at_seq [1, 1, 1, 1, 0, 1, 0, 0, 0] [1, 1, 1, 1, 0, 1, 0, 0, 1] rfl ?_
    refine at_region rfl ?_
    refine at_op (some 74) rfl rfl rfl rfl (op_binI rfl rfl) (by dsimp only [putD, List.set]) ?_
    refine at_end rfl ?_
    refine at_seq [1, 1, 1, 1, 0, 1, 0, 0, 1, 0] [1, 1, 1, 1, 0, 1, 0, 0, 1, 1] rfl ?_
    refine at_cond [1, 1, 1, 1, 0, 1, 0, 0, 1, 0, 0] [1, 1, 1, 1, 0, 1, 0, 0, 1, 0, 1] rfl rfl (fun hc1 => ?_) (fun hc1 => ?_)
    · skip
      have hlt : i < X.length := by simpa using hc1
      obtain ⟨n, hn⟩ := get_ex hlt
      have hn3 := idx_node hn
      obtain ⟨v, hv⟩ := get_ex (a := at') (i := i) (by omega)
      have hv2 := idx_some (f := vi) hv
      rw [all_range_at hlt] at hT
      obtain ⟨hn1, hn2⟩ := hX.kids i n hn
      have hlo : labOK X Y at' i = true := List.all_eq_true.1 hlab i (by simpa using hlt)
      obtain ⟨h0v, hvY⟩ : 0 ≤ v ∧ v < Y.length := by simp only [labOK, hn, hv, Bool.and_eq_true, decide_eq_true_eq] at hlo; exact hlo.1
      obtain ⟨nb, hnb⟩ := get_ex (a := Y) (i := v.toNat) (by omega)
      have hnb2 : (Y.map vn)[v.toNat]? = some (vn nb) := by simp [hnb]
      obtain ⟨hb3, hb4⟩ := hY.kids _ nb hnb
      have hway : wayOK X Y at' i = (plM (wayF Y at') (n.kids.drop 0) nb.kids).isSome := by simp [wayOK, hn, hv, kidsOf, hnb]
      refine at_skip rfl ?_
      refine at_seq [1, 1, 1, 1, 0, 1, 0, 0, 1, 1, 0] [1, 1, 1, 1, 0, 1, 0, 0, 1, 1, 1] rfl ?_
      refine at_block [1, 1, 1, 1, 0, 1, 0, 0, 1, 1, 0, 0] 3 rfl ?_
      refine at_seq [1, 1, 1, 1, 0, 1, 0, 0, 1, 1, 0, 0, 0] [1, 1, 1, 1, 0, 1, 0, 0, 1, 1, 0, 0, 1] rfl ?_
      refine at_region rfl ?_
      refine at_mv 73 75 rfl rfl rfl (.inl rfl) rfl (by dsimp only [List.set]) ?_
      first | (refine at_op (some 76) rfl rfl rfl rfl (op_idxL rfl fsl_Stree_node (by first | decide | omega) (by first | assumption | exact idx_some (by assumption) | rfl) (by first | rfl | (simp [V.size]; done))) (by dsimp only [putD, List.set]) ?_) | (refine at_op (some 76) rfl rfl rfl rfl (opOK_un (op_idxL rfl fsl_Stree_node (by first | decide | omega) (by first | assumption | exact idx_some (by assumption) | rfl) (by first | rfl | (simp [V.size]; done)))) (by dsimp only [putD, List.set]) ?_) | (refine at_op (some 76) rfl rfl rfl rfl (op_idxA rfl fsl_Stree_node (by first | decide | omega) (by first | decide | omega)) (by dsimp only [putD, List.set]) ?_)
      first | (refine at_op (some 77) rfl rfl rfl rfl (op_loadRA rfl fagg_tree_node) (by dsimp only [putD, List.set]) ?_) | (refine at_op (some 77) rfl rfl rfl rfl (op_loadPA rfl fagg_tree_node rfl (by decide) rfl) (by dsimp only [putD, List.set]) ?_)
      refine at_new1 77 12 75 11 rfl rfl rfl rfl fzero_tree_node rfl rfl rfl (.inr rfl) rfl (by decide) (by decide) (by decide) rfl rfl rfl rfl (by decide) rfl rfl fagg_tree_node (by first | rfl | (simp [V.size]; done)) rfl (by simp only [List.length_cons]; omega) (by dsimp only [List.set]) ?_
      refine at_end rfl ?_
      refine at_seq [1, 1, 1, 1, 0, 1, 0, 0, 1, 1, 0, 0, 1, 0] [1, 1, 1, 1, 0, 1, 0, 0, 1, 1, 0, 0, 1, 1] rfl ?_
      refine at_draw mixed rfl [⟨[none], []⟩] rfl ?_
      first | (refine da_quiet (some 78) rfl rfl rfl rfl (fun s hs => op_loadR1 rfl fone_Stree_node rfl) (by dsimp only [putD, List.set]) ?_) | (refine da_quiet (some 78) rfl rfl rfl rfl (by intro s hs; simp only [List.mem_cons, List.not_mem_nil, or_false] at hs; rcases hs with rfl <;> exact op_loadP1 rfl fone_Stree_node rfl rfl) (by dsimp only [putD, List.set]) ?_)
      first | (refine da_quiet (some 79) rfl rfl rfl rfl (fun s hs => op_loadR1 rfl fone_Sint rfl) (by dsimp only [putD, List.set]) ?_) | (refine da_quiet (some 79) rfl rfl rfl rfl (by intro s hs; simp only [List.mem_cons, List.not_mem_nil, or_false] at hs; rcases hs with rfl <;> exact op_loadP1 rfl fone_Sint rfl rfl) (by dsimp only [putD, List.set]) ?_)
      refine da_mv 11 80 rfl rfl rfl (.inl rfl) rfl (by dsimp only [List.set]) ?_
      first | (refine da_quiet (some 81) rfl rfl rfl rfl (fun s hs => op_idxL rfl fsl_Sint (by first | decide | omega) (by first | assumption | exact idx_some (by assumption) | rfl) (by first | rfl | (simp [V.size]; done))) (by dsimp only [putD, List.set]) ?_) | (refine da_quiet (some 81) rfl rfl rfl rfl (fun s hs => opOK_un (op_idxL rfl fsl_Sint (by first | decide | omega) (by first | assumption | exact idx_some (by assumption) | rfl) (by first | rfl | (simp [V.size]; done)))) (by dsimp only [putD, List.set]) ?_) | (refine da_quiet (some 81) rfl rfl rfl rfl (fun s hs => op_idxA rfl fsl_Sint (by first | decide | omega) (by first | decide | omega)) (by dsimp only [putD, List.set]) ?_)
      first | (refine da_quiet (some 82) rfl rfl rfl rfl (fun s hs => op_loadR1 rfl fone_int rfl) (by dsimp only [putD, List.set]) ?_) | (refine da_quiet (some 82) rfl rfl rfl rfl (by intro s hs; simp only [List.mem_cons, List.not_mem_nil, or_false] at hs; rcases hs with rfl <;> exact op_loadP1 rfl fone_int rfl rfl) (by dsimp only [putD, List.set]) ?_)
      refine da_quiet (some 83) rfl rfl rfl rfl (fun s hs => op_idxL rfl fsl_Stree_node h0v hnb2 rfl) (by dsimp only [putD, List.set]) ?_
      first | (refine da_quiet (some 84) rfl rfl rfl rfl (fun s hs => op_fieldP rfl ffld2_tree_node (by decide)) (by dsimp only [putD, List.set]) ?_) | (refine da_quiet (some 84) rfl rfl rfl rfl (fun s hs => op_fieldR rfl ffld2_tree_node (by decide) (by decide) rfl) (by dsimp only [putD, List.set]) ?_)
      first | (refine da_quiet (some 85) rfl rfl rfl rfl (fun s hs => op_loadR1 rfl fone_Sint rfl) (by dsimp only [putD, List.set]) ?_) | (refine da_quiet (some 85) rfl rfl rfl rfl (by intro s hs; simp only [List.mem_cons, List.not_mem_nil, or_false] at hs; rcases hs with rfl <;> exact op_loadP1 rfl fone_Sint rfl rfl) (by dsimp only [putD, List.set]) ?_)
      refine da_mv 85 13 rfl rfl rfl (.inr rfl) rfl (by dsimp only [List.set]) ?_
      refine da_end rfl ⟨by decide +kernel, _, rfl, ?_⟩
      refine at_seq [1, 1, 1, 1, 0, 1, 0, 0, 1, 1, 0, 0, 1, 1, 0] [1, 1, 1, 1, 0, 1, 0, 0, 1, 1, 0, 0, 1, 1, 1] rfl ?_
      refine at_region rfl ?_
      first | (refine at_op (some 86) rfl rfl rfl rfl (op_fieldP rfl ffld2_tree_node (by decide)) (by dsimp only [putD, List.set]) ?_) | (refine at_op (some 86) rfl rfl rfl rfl (op_fieldR rfl ffld2_tree_node (by decide) (by decide) rfl) (by dsimp only [putD, List.set]) ?_)
      first | (refine at_op (some 87) rfl rfl rfl rfl (op_loadR1 rfl fone_Sint rfl) (by dsimp only [putD, List.set]) ?_) | (refine at_op (some 87) rfl rfl rfl rfl (op_loadP1 rfl fone_Sint rfl rfl) (by dsimp only [putD, List.set]) ?_)
      first | (refine at_op (some 88) rfl rfl rfl rfl (op_lenL rfl fu_Sint) (by dsimp only [putD, List.set]) ?_) | (refine at_op (some 88) rfl rfl rfl rfl (opOK_un (op_lenL rfl fu_Sint)) (by dsimp only [putD, List.set]) ?_) | (refine at_op (some 88) rfl rfl rfl rfl (op_lenA rfl fu_Sint) (by dsimp only [putD, List.set]) ?_)
      refine at_mc 89 rfl rfl rfl (.inl rfl) (by dsimp only [constD]) (by dsimp only [List.set]) ?_
      refine at_end rfl ?_
      refine at_block [1, 1, 1, 1, 0, 1, 0, 0, 1, 1, 0, 0, 1, 1, 1, 0] 4 rfl ?_
      refine at_loop [1, 1, 1, 1, 0, 1, 0, 0, 1, 1, 0, 0, 1, 1, 1, 0, 0] rfl ?_
      try simp only [List.length_map, List.length_nil, Int.toNat_natCast]
      refine run_wk (.drop (.drop (.drop (.drop (.drop (.keep (.drop (.drop (.keep (.drop (.drop (.drop (.drop (.keep (.drop (.drop (.drop (.drop (.drop (.drop (.drop (.drop (.drop (.drop (.drop (.drop (.drop (.drop (.drop (.drop (.drop (.drop (.drop (.drop (.drop (.drop (.drop (.drop (.drop (.drop (.drop (.drop (.drop (.drop (.drop (.drop (.drop (.drop (.drop (.drop (.drop (.drop (.drop (.drop (.drop (.drop (.drop (.drop (.drop (.drop (.drop (.drop (.drop (.drop (.drop (.drop (.drop (.drop (.drop (.drop (.drop (.keep (.keep (.keep (.drop (.drop (.drop (.drop (.drop (.drop (.drop (.drop (.drop (.drop (.drop (.drop (.drop (.keep (.keep (.keep (.drop (.drop (.drop (.drop (.drop (.drop (.drop (.drop (.drop (.drop (.drop (.drop (.drop (.drop .nil)))))))))))))))))))))))))))))))))))))))))))))))))))))))))))))))))))))))))))))))))))))))))))))))))))))))) (proves_inner X Y hX hY at' hat T _ i n.kids (by omega) (fun k hk => (hn2 k hk).2) (wayOK X Y at' i) (fun hok => ?_) (fun hno => ?_) _ 0 nb.kids rfl (fun r hr => (hb4 r hr).2) (by omega) hway)
      · rw [hok, Bool.true_and] at hT
        refine run_blk ?_
        refine at_region rfl ?_
        refine at_op (some 103) rfl rfl rfl rfl (op_binI rfl rfl) (by dsimp only [putD, List.set]) ?_
        refine at_mv 103 73 rfl rfl rfl (.inl rfl) rfl (by dsimp only [List.set]) ?_
        refine at_end rfl ?_
        rw [wrap_succ (by omega)]
        exact run_wk (.drop (.drop (.drop (.drop (.drop (.keep (.drop (.drop (.keep (.drop (.drop (.drop (.drop (.drop (.drop (.drop (.drop (.drop (.drop (.drop (.drop (.drop (.drop (.drop (.drop (.drop (.drop (.drop (.drop (.drop (.drop (.drop (.drop (.drop (.drop (.drop (.drop (.drop (.drop (.drop (.drop (.drop (.drop (.drop (.drop (.drop (.drop (.drop (.drop (.drop (.drop (.drop (.drop (.drop (.drop (.drop (.drop (.drop (.drop (.drop (.drop (.drop (.drop (.drop (.drop (.drop (.drop (.drop (.drop (.drop (.drop (.keep (.keep (.keep (.drop (.drop (.drop (.drop (.drop (.drop (.drop (.drop (.drop (.drop (.drop (.drop (.drop (.drop (.drop (.drop (.drop (.drop (.drop (.drop (.drop (.drop (.drop (.drop (.drop (.drop (.drop (.drop (.drop (.drop .nil)))))))))))))))))))))))))))))))))))))))))))))))))))))))))))))))))))))))))))))))))))))))))))))))))))))))) (ih _ (by omega) (i + 1) rfl hT)
      · rw [hT, hno]; rfl
    · skip
      have hge : X.length ≤ i := by simpa using hc1
      rw [all_range_end hge] at hT
      refine at_exit rfl rfl ?_
      refine at_seq [1, 1, 1, 1, 1, 0] [1, 1, 1, 1, 1, 1] rfl ?_
      refine at_region rfl ?_
      refine at_mc 6 rfl rfl rfl (.inr rfl) (by dsimp only [constD]) (by dsimp only [List.set]) ?_
      refine at_end rfl ?_
      refine at_ret rfl (ret_one (t := 6) rfl rfl ?_ rfl)
      rw [hT]

set_option maxRecDepth 20000 in
theorem proves_one (X Y : List Nd) (hX : Wf X) (hY : Wf Y) (at' : List Int) (hat : at'.length = X.length) (T : Bool) (hT : T = ((List.range X.length).all (labOK X Y at') && (List.range X.length).all (wayOK X Y at'))) (m : Nat) : ∀ i : Nat, X.length - i = m → (List.range X.length).all (labOK X Y at') = ((List.range X.length).drop i).all (labOK X Y at') → Run PP (fun env σ1 => ResOK PP Try.f52 env σ1 (db T) σ0) [.lp (sub cProves [1, 1, 1, 0, 1, 0, 0]), .blk 0, .code (sub cProves [1, 1, 1, 1])] (.undef :: .undef :: .undef :: .undef :: .undef :: (.v (.ref (vl at'))) :: .undef :: (dnl X) :: (.v (.ref (vnl Y))) :: .undef :: .undef :: .undef :: .undef :: .undef :: .undef :: .undef :: .undef :: .undef :: .undef :: .undef :: .undef :: .undef :: .undef :: .undef :: .undef :: .undef :: .undef :: .undef :: .undef :: .undef :: .undef :: .undef :: .undef :: .undef :: .undef :: .undef :: (dnl X) :: (di ↑X.length) :: (di ↑i) :: .undef :: .undef :: .undef :: .undef :: .undef :: .undef :: .undef :: .undef :: .undef :: .undef :: .undef :: .undef :: .undef :: .undef :: .undef :: .undef :: .undef :: .undef :: .undef :: .undef :: .undef :: .undef :: .undef :: .undef :: .undef :: .undef :: .undef :: .undef :: .undef :: .undef :: .undef :: .undef :: .undef :: .undef :: .undef :: .undef :: .undef :: .undef :: .undef :: .undef :: .undef :: .undef :: .undef :: .undef :: .undef :: .undef :: .undef :: .undef :: .undef :: .undef :: .undef :: .undef :: .undef :: .undef :: .undef :: .undef :: .undef :: .undef :: .undef :: .undef :: .undef :: .undef :: .undef :: .undef :: .undef :: []) ⟨[none], []⟩ := by
  induction m using Nat.strongRecOn with
  | _ m ih =>
    intro i hm hb
    have hXl := hX.len
    have hYl := hY.len
    refine run_lp ?_
    refine at_seq [1, 1, 1, 0, 1, 0, 0, 0] [1, 1, 1, 0, 1, 0, 0, 1] rfl ?_
    refine at_region rfl ?_
    refine at_op (some 39) rfl rfl rfl rfl (op_binI rfl rfl) (by dsimp only [putD, List.set]) ?_
    refine at_end rfl ?_
    refine at_seq [1, 1, 1, 0, 1, 0, 0, 1, 0] [1, 1, 1, 0, 1, 0, 0, 1, 1] rfl ?_
    refine at_cond [1, 1, 1, 0, 1, 0, 0, 1, 0, 0] [1, 1, 1, 0, 1, 0, 0, 1, 0, 1] rfl rfl (fun hc1 => ?_) (fun hc1 => ?_)
    · skip
      have hlt : i < X.length := by simpa using hc1
      obtain ⟨n, hn⟩ := get_ex hlt
      have hn3 := idx_node hn
      obtain ⟨v, hv⟩ := get_ex (a := at') (i := i) (by omega)
      have hv2 := idx_some (f := vi) hv
      rw [all_range_at hlt] at hb
      refine at_skip rfl ?_
      refine at_seq [1, 1, 1, 0, 1, 0, 0, 1, 1, 0] [1, 1, 1, 0, 1, 0, 0, 1, 1, 1] rfl ?_
      refine at_block [1, 1, 1, 0, 1, 0, 0, 1, 1, 0, 0] 1 rfl ?_
      refine at_seq [1, 1, 1, 0, 1, 0, 0, 1, 1, 0, 0, 0] [1, 1, 1, 0, 1, 0, 0, 1, 1, 0, 0, 1] rfl ?_
      refine at_region rfl ?_
      refine at_mv 38 40 rfl rfl rfl (.inl rfl) rfl (by dsimp only [List.set]) ?_
      first | (refine at_op (some 41) rfl rfl rfl rfl (op_idxL rfl fsl_Stree_node (by first | decide | omega) (by first | assumption | exact idx_some (by assumption) | rfl) (by first | rfl | (simp [V.size]; done))) (by dsimp only [putD, List.set]) ?_) | (refine at_op (some 41) rfl rfl rfl rfl (opOK_un (op_idxL rfl fsl_Stree_node (by first | decide | omega) (by first | assumption | exact idx_some (by assumption) | rfl) (by first | rfl | (simp [V.size]; done)))) (by dsimp only [putD, List.set]) ?_) | (refine at_op (some 41) rfl rfl rfl rfl (op_idxA rfl fsl_Stree_node (by first | decide | omega) (by first | decide | omega)) (by dsimp only [putD, List.set]) ?_)
      first | (refine at_op (some 42) rfl rfl rfl rfl (op_loadRA rfl fagg_tree_node) (by dsimp only [putD, List.set]) ?_) | (refine at_op (some 42) rfl rfl rfl rfl (op_loadPA rfl fagg_tree_node rfl (by decide) rfl) (by dsimp only [putD, List.set]) ?_)
      refine at_new1 42 10 40 9 rfl rfl rfl rfl fzero_tree_node rfl rfl rfl (.inr rfl) rfl (by decide) (by decide) (by decide) rfl rfl rfl rfl (by decide) rfl rfl fagg_tree_node (by first | rfl | (simp [V.size]; done)) rfl (by simp only [List.length_cons]; omega) (by dsimp only [List.set]) ?_
      refine at_end rfl ?_
      refine at_seq [1, 1, 1, 0, 1, 0, 0, 1, 1, 0, 0, 1, 0] [1, 1, 1, 0, 1, 0, 0, 1, 1, 0, 0, 1, 1] rfl ?_
      refine at_draw mixed rfl [⟨[none], []⟩] rfl ?_
      first | (refine da_quiet (some 43) rfl rfl rfl rfl (fun s hs => op_loadR1 rfl fone_Sint rfl) (by dsimp only [putD, List.set]) ?_) | (refine da_quiet (some 43) rfl rfl rfl rfl (by intro s hs; simp only [List.mem_cons, List.not_mem_nil, or_false] at hs; rcases hs with rfl <;> exact op_loadP1 rfl fone_Sint rfl rfl) (by dsimp only [putD, List.set]) ?_)
      refine da_mv 9 44 rfl rfl rfl (.inl rfl) rfl (by dsimp only [List.set]) ?_
      first | (refine da_quiet (some 45) rfl rfl rfl rfl (fun s hs => op_idxL rfl fsl_Sint (by first | decide | omega) (by first | assumption | exact idx_some (by assumption) | rfl) (by first | rfl | (simp [V.size]; done))) (by dsimp only [putD, List.set]) ?_) | (refine da_quiet (some 45) rfl rfl rfl rfl (fun s hs => opOK_un (op_idxL rfl fsl_Sint (by first | decide | omega) (by first | assumption | exact idx_some (by assumption) | rfl) (by first | rfl | (simp [V.size]; done)))) (by dsimp only [putD, List.set]) ?_) | (refine da_quiet (some 45) rfl rfl rfl rfl (fun s hs => op_idxA rfl fsl_Sint (by first | decide | omega) (by first | decide | omega)) (by dsimp only [putD, List.set]) ?_)
      first | (refine da_quiet (some 46) rfl rfl rfl rfl (fun s hs => op_loadR1 rfl fone_int rfl) (by dsimp only [putD, List.set]) ?_) | (refine da_quiet (some 46) rfl rfl rfl rfl (by intro s hs; simp only [List.mem_cons, List.not_mem_nil, or_false] at hs; rcases hs with rfl <;> exact op_loadP1 rfl fone_int rfl rfl) (by dsimp only [putD, List.set]) ?_)
      refine da_quiet (some 47) rfl rfl rfl rfl (fun s hs => op_binI rfl rfl) (by dsimp only [putD, List.set]) ?_
      refine da_mv 47 48 rfl rfl rfl (.inl rfl) rfl (by dsimp only [List.set]) ?_
      refine da_split 48 rfl (fun hb2 env' he => ?_) (fun hb2 env' he => ?_)
      · dsimp only [List.set] at he; subst he
        have hneg : v < 0 := by simpa using hb2
        have hlo : labOK X Y at' i = false := by simp only [labOK, hn, hv]; rw [decide_eq_false (by omega : ¬ 0 ≤ v)]; rfl
        have hT2 : T = false := by rw [hT, hb, hlo]; rfl
        refine da_skip (some 49) rfl rfl rfl (by dsimp only [putD, List.set]) ?_
        refine da_skip (some 50) rfl rfl rfl (by dsimp only [putD, List.set]) ?_
        refine da_skip (some 51) rfl rfl rfl (by dsimp only [putD, List.set]) ?_
        refine da_skip (some 52) rfl rfl rfl (by dsimp only [putD, List.set]) ?_
        refine da_skip (some 53) rfl rfl rfl (by dsimp only [putD, List.set]) ?_
        refine da_skip (some 54) rfl rfl rfl (by dsimp only [putD, List.set]) ?_
        refine da_skip (some 55) rfl rfl rfl (by dsimp only [putD, List.set]) ?_
        refine da_pkc true 48 56 rfl rfl rfl rfl rfl rfl (by dsimp only [constD]) (by dsimp only [List.set]) ?_
        refine da_mv 56 57 rfl rfl rfl (.inl rfl) rfl (by dsimp only [List.set]) ?_
        refine da_skip (some 58) rfl rfl rfl (by dsimp only [putD, List.set]) ?_
        refine da_skip (some 59) rfl rfl rfl (by dsimp only [putD, List.set]) ?_
        refine da_skip (some 60) rfl rfl rfl (by dsimp only [putD, List.set]) ?_
        refine da_skip (some 61) rfl rfl rfl (by dsimp only [putD, List.set]) ?_
        refine da_skip (some 62) rfl rfl rfl (by dsimp only [putD, List.set]) ?_
        refine da_skip (some 63) rfl rfl rfl (by dsimp only [putD, List.set]) ?_
        refine da_skip (some 64) rfl rfl rfl (by dsimp only [putD, List.set]) ?_
        refine da_skip (some 65) rfl rfl rfl (by dsimp only [putD, List.set]) ?_
        refine da_skip (some 66) rfl rfl rfl (by dsimp only [putD, List.set]) ?_
        refine da_skip (some 67) rfl rfl rfl (by dsimp only [putD, List.set]) ?_
        refine da_skip (some 68) rfl rfl rfl (by dsimp only [putD, List.set]) ?_
        refine da_pkc true 57 69 rfl rfl rfl rfl rfl rfl (by dsimp only [constD]) (by dsimp only [List.set]) ?_
        refine da_end rfl ⟨by decide +kernel, _, rfl, ?_⟩
        refine at_true [1, 1, 1, 0, 1, 0, 0, 1, 1, 0, 0, 1, 1, 0] [1, 1, 1, 0, 1, 0, 0, 1, 1, 0, 0, 1, 1, 1] rfl rfl ?_
        refine at_seq [1, 1, 1, 0, 1, 0, 0, 1, 1, 0, 0, 1, 1, 0, 0] [1, 1, 1, 0, 1, 0, 0, 1, 1, 0, 0, 1, 1, 0, 1] rfl ?_
        refine at_region rfl ?_
        refine at_mc 6 rfl rfl rfl (.inr rfl) (by dsimp only [constD]) (by dsimp only [List.set]) ?_
        refine at_end rfl ?_
        refine at_ret rfl (ret_one (t := 6) rfl rfl ?_ rfl)
        rw [hT2]
      · dsimp only [List.set] at he; subst he
        have h0v : 0 ≤ v := by simp at hb2; omega
        first | (refine da_quiet (some 49) rfl rfl rfl rfl (fun s hs => op_loadR1 rfl fone_Sint rfl) (by dsimp only [putD, List.set]) ?_) | (refine da_quiet (some 49) rfl rfl rfl rfl (by intro s hs; simp only [List.mem_cons, List.not_mem_nil, or_false] at hs; rcases hs with rfl <;> exact op_loadP1 rfl fone_Sint rfl rfl) (by dsimp only [putD, List.set]) ?_)
        refine da_mv 9 50 rfl rfl rfl (.inl rfl) rfl (by dsimp only [List.set]) ?_
        first | (refine da_quiet (some 51) rfl rfl rfl rfl (fun s hs => op_idxL rfl fsl_Sint (by first | decide | omega) (by first | assumption | exact idx_some (by assumption) | rfl) (by first | rfl | (simp [V.size]; done))) (by dsimp only [putD, List.set]) ?_) | (refine da_quiet (some 51) rfl rfl rfl rfl (fun s hs => opOK_un (op_idxL rfl fsl_Sint (by first | decide | omega) (by first | assumption | exact idx_some (by assumption) | rfl) (by first | rfl | (simp [V.size]; done)))) (by dsimp only [putD, List.set]) ?_) | (refine da_quiet (some 51) rfl rfl rfl rfl (fun s hs => op_idxA rfl fsl_Sint (by first | decide | omega) (by first | decide | omega)) (by dsimp only [putD, List.set]) ?_)
        first | (refine da_quiet (some 52) rfl rfl rfl rfl (fun s hs => op_loadR1 rfl fone_int rfl) (by dsimp only [putD, List.set]) ?_) | (refine da_quiet (some 52) rfl rfl rfl rfl (by intro s hs; simp only [List.mem_cons, List.not_mem_nil, or_false] at hs; rcases hs with rfl <;> exact op_loadP1 rfl fone_int rfl rfl) (by dsimp only [putD, List.set]) ?_)
        first | (refine da_quiet (some 53) rfl rfl rfl rfl (fun s hs => op_loadR1 rfl fone_Stree_node rfl) (by dsimp only [putD, List.set]) ?_) | (refine da_quiet (some 53) rfl rfl rfl rfl (by intro s hs; simp only [List.mem_cons, List.not_mem_nil, or_false] at hs; rcases hs with rfl <;> exact op_loadP1 rfl fone_Stree_node rfl rfl) (by dsimp only [putD, List.set]) ?_)
        first | (refine da_quiet (some 54) rfl rfl rfl rfl (fun s hs => op_lenL rfl fu_Stree_node) (by dsimp only [putD, List.set]) ?_) | (refine da_quiet (some 54) rfl rfl rfl rfl (fun s hs => opOK_un (op_lenL rfl fu_Stree_node)) (by dsimp only [putD, List.set]) ?_) | (refine da_quiet (some 54) rfl rfl rfl rfl (fun s hs => op_lenA rfl fu_Stree_node) (by dsimp only [putD, List.set]) ?_)
        refine da_quiet (some 55) rfl rfl rfl rfl (fun s hs => op_binI rfl rfl) (by dsimp only [putD, List.set]) ?_
        refine da_pk false 48 55 56 rfl rfl rfl rfl rfl rfl rfl (by dsimp only [List.set]) ?_
        refine da_mv 56 57 rfl rfl rfl (.inl rfl) rfl (by dsimp only [List.set]) ?_
        refine da_split 57 rfl (fun hb3 env' he => ?_) (fun hb3 env' he => ?_)
        · dsimp only [List.set] at he; subst he
          have hbig : ¬ v < (Y.length : Int) := by simp at hb3; omega
          have hlo : labOK X Y at' i = false := by simp only [labOK, hn, hv]; rw [decide_eq_false hbig]; simp
          have hT2 : T = false := by rw [hT, hb, hlo]; rfl
          refine da_skip (some 58) rfl rfl rfl (by dsimp only [putD, List.set]) ?_
          refine da_skip (some 59) rfl rfl rfl (by dsimp only [putD, List.set]) ?_
          refine da_skip (some 60) rfl rfl rfl (by dsimp only [putD, List.set]) ?_
          refine da_skip (some 61) rfl rfl rfl (by dsimp only [putD, List.set]) ?_
          refine da_skip (some 62) rfl rfl rfl (by dsimp only [putD, List.set]) ?_
          refine da_skip (some 63) rfl rfl rfl (by dsimp only [putD, List.set]) ?_
          refine da_skip (some 64) rfl rfl rfl (by dsimp only [putD, List.set]) ?_
          refine da_skip (some 65) rfl rfl rfl (by dsimp only [putD, List.set]) ?_
          refine da_skip (some 66) rfl rfl rfl (by dsimp only [putD, List.set]) ?_
          refine da_skip (some 67) rfl rfl rfl (by dsimp only [putD, List.set]) ?_
          refine da_skip (some 68) rfl rfl rfl (by dsimp only [putD, List.set]) ?_
          refine da_pkc true 57 69 rfl rfl rfl rfl rfl rfl (by dsimp only [constD]) (by dsimp only [List.set]) ?_
          refine da_end rfl ⟨by decide +kernel, _, rfl, ?_⟩
          refine at_true [1, 1, 1, 0, 1, 0, 0, 1, 1, 0, 0, 1, 1, 0] [1, 1, 1, 0, 1, 0, 0, 1, 1, 0, 0, 1, 1, 1] rfl rfl ?_
          refine at_seq [1, 1, 1, 0, 1, 0, 0, 1, 1, 0, 0, 1, 1, 0, 0] [1, 1, 1, 0, 1, 0, 0, 1, 1, 0, 0, 1, 1, 0, 1] rfl ?_
          refine at_region rfl ?_
          refine at_mc 6 rfl rfl rfl (.inr rfl) (by dsimp only [constD]) (by dsimp only [List.set]) ?_
          refine at_end rfl ?_
          refine at_ret rfl (ret_one (t := 6) rfl rfl ?_ rfl)
          rw [hT2]
        · dsimp only [List.set] at he; subst he
          have hvY : v < (Y.length : Int) := by simp at hb3; omega
          obtain ⟨nb, hnb⟩ := get_ex (a := Y) (i := v.toNat) (by omega)
          have hnb2 : (Y.map vn)[v.toNat]? = some (vn nb) := by simp [hnb]
          first | (refine da_quiet (some 58) rfl rfl rfl rfl (fun s hs => op_loadR1 rfl fone_Stree_node rfl) (by dsimp only [putD, List.set]) ?_) | (refine da_quiet (some 58) rfl rfl rfl rfl (by intro s hs; simp only [List.mem_cons, List.not_mem_nil, or_false] at hs; rcases hs with rfl <;> exact op_loadP1 rfl fone_Stree_node rfl rfl) (by dsimp only [putD, List.set]) ?_)
          first | (refine da_quiet (some 59) rfl rfl rfl rfl (fun s hs => op_loadR1 rfl fone_Sint rfl) (by dsimp only [putD, List.set]) ?_) | (refine da_quiet (some 59) rfl rfl rfl rfl (by intro s hs; simp only [List.mem_cons, List.not_mem_nil, or_false] at hs; rcases hs with rfl <;> exact op_loadP1 rfl fone_Sint rfl rfl) (by dsimp only [putD, List.set]) ?_)
          refine da_mv 9 60 rfl rfl rfl (.inl rfl) rfl (by dsimp only [List.set]) ?_
          first | (refine da_quiet (some 61) rfl rfl rfl rfl (fun s hs => op_idxL rfl fsl_Sint (by first | decide | omega) (by first | assumption | exact idx_some (by assumption) | rfl) (by first | rfl | (simp [V.size]; done))) (by dsimp only [putD, List.set]) ?_) | (refine da_quiet (some 61) rfl rfl rfl rfl (fun s hs => opOK_un (op_idxL rfl fsl_Sint (by first | decide | omega) (by first | assumption | exact idx_some (by assumption) | rfl) (by first | rfl | (simp [V.size]; done)))) (by dsimp only [putD, List.set]) ?_) | (refine da_quiet (some 61) rfl rfl rfl rfl (fun s hs => op_idxA rfl fsl_Sint (by first | decide | omega) (by first | decide | omega)) (by dsimp only [putD, List.set]) ?_)
          first | (refine da_quiet (some 62) rfl rfl rfl rfl (fun s hs => op_loadR1 rfl fone_int rfl) (by dsimp only [putD, List.set]) ?_) | (refine da_quiet (some 62) rfl rfl rfl rfl (by intro s hs; simp only [List.mem_cons, List.not_mem_nil, or_false] at hs; rcases hs with rfl <;> exact op_loadP1 rfl fone_int rfl rfl) (by dsimp only [putD, List.set]) ?_)
          refine da_quiet (some 63) rfl rfl rfl rfl (fun s hs => op_idxL rfl fsl_Stree_node h0v hnb2 rfl) (by dsimp only [putD, List.set]) ?_
          first | (refine da_quiet (some 64) rfl rfl rfl rfl (fun s hs => op_fieldP rfl ffld0_tree_node (by decide)) (by dsimp only [putD, List.set]) ?_) | (refine da_quiet (some 64) rfl rfl rfl rfl (fun s hs => op_fieldR rfl ffld0_tree_node (by decide) (by decide) rfl) (by dsimp only [putD, List.set]) ?_)
          first | (refine da_quiet (some 65) rfl rfl rfl rfl (fun s hs => op_loadR1 rfl fone_int rfl) (by dsimp only [putD, List.set]) ?_) | (refine da_quiet (some 65) rfl rfl rfl rfl (by intro s hs; simp only [List.mem_cons, List.not_mem_nil, or_false] at hs; rcases hs with rfl <;> exact op_loadP1 rfl fone_int rfl rfl) (by dsimp only [putD, List.set]) ?_)
          first | (refine da_quiet (some 66) rfl rfl rfl rfl (fun s hs => op_fieldP rfl ffld0_tree_node (by decide)) (by dsimp only [putD, List.set]) ?_) | (refine da_quiet (some 66) rfl rfl rfl rfl (fun s hs => op_fieldR rfl ffld0_tree_node (by decide) (by decide) rfl) (by dsimp only [putD, List.set]) ?_)
          first | (refine da_quiet (some 67) rfl rfl rfl rfl (fun s hs => op_loadR1 rfl fone_int rfl) (by dsimp only [putD, List.set]) ?_) | (refine da_quiet (some 67) rfl rfl rfl rfl (by intro s hs; simp only [List.mem_cons, List.not_mem_nil, or_false] at hs; rcases hs with rfl <;> exact op_loadP1 rfl fone_int rfl rfl) (by dsimp only [putD, List.set]) ?_)
          refine da_quiet (some 68) rfl rfl rfl rfl (fun s hs => op_binI rfl rfl) (by dsimp only [putD, List.set]) ?_
          refine da_pk false 57 68 69 rfl rfl rfl rfl rfl rfl rfl (by dsimp only [List.set]) ?_
          refine da_end rfl ⟨by decide +kernel, _, rfl, ?_⟩
          refine at_cond [1, 1, 1, 0, 1, 0, 0, 1, 1, 0, 0, 1, 1, 0] [1, 1, 1, 0, 1, 0, 0, 1, 1, 0, 0, 1, 1, 1] rfl rfl (fun hc4 => ?_) (fun hc4 => ?_)
          · skip
            try have hT2 : T = false := by rw [hT, hb, hlo]; rfl
            try have hT2 : T = false := by rw [hT, hb, show labOK X Y at' i = false from by simp only [labOK, hn, hv, hnb]; simp at hc4; simp [hc4]]; rfl
            refine at_seq [1, 1, 1, 0, 1, 0, 0, 1, 1, 0, 0, 1, 1, 0, 0] [1, 1, 1, 0, 1, 0, 0, 1, 1, 0, 0, 1, 1, 0, 1] rfl ?_
            refine at_region rfl ?_
            refine at_mc 6 rfl rfl rfl (.inr rfl) (by dsimp only [constD]) (by dsimp only [List.set]) ?_
            refine at_end rfl ?_
            refine at_ret rfl (ret_one (t := 6) rfl rfl ?_ rfl)
            rw [hT2]
          · skip
            try simp at hc4
            try have hlo : labOK X Y at' i = true := by simp only [labOK, hn, hv, hnb, h0v, hvY]; simp [hc4]
            try rw [hlo, Bool.true_and] at hb
            refine at_skip rfl ?_
            refine run_blk ?_
            refine at_region rfl ?_
            refine at_op (some 70) rfl rfl rfl rfl (op_binI rfl rfl) (by dsimp only [putD, List.set]) ?_
            refine at_mv 70 38 rfl rfl rfl (.inl rfl) rfl (by dsimp only [List.set]) ?_
            refine at_end rfl ?_
            rw [wrap_succ (by omega)]
            exact run_wk (.drop (.drop (.drop (.drop (.drop (.keep (.drop (.keep (.keep (.drop (.drop (.drop (.drop (.drop (.drop (.drop (.drop (.drop (.drop (.drop (.drop (.drop (.drop (.drop (.drop (.drop (.drop (.drop (.drop (.drop (.drop (.drop (.drop (.drop (.drop (.drop (.keep (.keep (.keep (.drop (.drop (.drop (.drop (.drop (.drop (.drop (.drop (.drop (.drop (.drop (.drop (.drop (.drop (.drop (.drop (.drop (.drop (.drop (.drop (.drop (.drop (.drop (.drop (.drop (.drop (.drop (.drop (.drop (.drop (.drop (.drop (.drop (.drop (.drop (.drop (.drop (.drop (.drop (.drop (.drop (.drop (.drop (.drop (.drop (.drop (.drop (.drop (.drop (.drop (.drop (.drop (.drop (.drop (.drop (.drop (.drop (.drop (.drop (.drop (.drop (.drop (.drop (.drop (.drop .nil)))))))))))))))))))))))))))))))))))))))))))))))))))))))))))))))))))))))))))))))))))))))))))))))))))))))) (ih _ (by omega) (i + 1) rfl hb)
    · skip
      have hge : X.length ≤ i := by simpa using hc1
      rw [all_range_end hge] at hb
      have hlab := hb
      rw [hb, Bool.true_and] at hT
      refine at_exit rfl rfl ?_
      refine at_seq [1, 1, 1, 1, 0] [1, 1, 1, 1, 1] rfl ?_
      refine at_seq [1, 1, 1, 1, 0, 0] [1, 1, 1, 1, 0, 1] rfl ?_
      refine at_region rfl ?_
      refine at_mv 7 71 rfl rfl rfl (.inl rfl) rfl (by dsimp only [List.set]) ?_
      first | (refine at_op (some 72) rfl rfl rfl rfl (op_lenL rfl fu_Stree_node) (by dsimp only [putD, List.set]) ?_) | (refine at_op (some 72) rfl rfl rfl rfl (opOK_un (op_lenL rfl fu_Stree_node)) (by dsimp only [putD, List.set]) ?_) | (refine at_op (some 72) rfl rfl rfl rfl (op_lenA rfl fu_Stree_node) (by dsimp only [putD, List.set]) ?_)
      refine at_mc 73 rfl rfl rfl (.inl rfl) (by dsimp only [constD]) (by dsimp only [List.set]) ?_
      refine at_end rfl ?_
      refine at_block [1, 1, 1, 1, 0, 1, 0] 2 rfl ?_
      refine at_loop [1, 1, 1, 1, 0, 1, 0, 0] rfl ?_
      try simp only [List.length_map, List.length_nil, Int.toNat_natCast]
      exact run_wk (.drop (.drop (.drop (.drop (.drop (.keep (.drop (.drop (.keep (.drop (.drop (.drop (.drop (.drop (.drop (.drop (.drop (.drop (.drop (.drop (.drop (.drop (.drop (.drop (.drop (.drop (.drop (.drop (.drop (.drop (.drop (.drop (.drop (.drop (.drop (.drop (.drop (.drop (.drop (.drop (.drop (.drop (.drop (.drop (.drop (.drop (.drop (.drop (.drop (.drop (.drop (.drop (.drop (.drop (.drop (.drop (.drop (.drop (.drop (.drop (.drop (.drop (.drop (.drop (.drop (.drop (.drop (.drop (.drop (.drop (.drop (.keep (.keep (.keep (.drop (.drop (.drop (.drop (.drop (.drop (.drop (.drop (.drop (.drop (.drop (.drop (.drop (.drop (.drop (.drop (.drop (.drop (.drop (.drop (.drop (.drop (.drop (.drop (.drop (.drop (.drop (.drop (.drop (.drop .nil)))))))))))))))))))))))))))))))))))))))))))))))))))))))))))))))))))))))))))))))))))))))))))))))))))))))) (proves_two X Y hX hY at' hat hlab T _ 0 rfl (by rw [List.drop_zero]; exact hT))

set_option maxRecDepth 20000 in
theorem proves_spec (a b : Tr) (at' : List Int) (ha : a.size ≤ 1000000) (hb : b.size ≤ 1000000) : FSpec PP 52 [dt a, dt b, dl at'] σ0 (db (provX (nodesT a) (nodesT b) at')) σ0 := by
  refine spec_at cProves Try.func52 rfl (by kernel_rfl) (by first | decide | simp) _ (by dsimp only [Try.f52, List.length, Nat.reduceAdd, Nat.reduceSub, List.replicate, List.cons_append, List.nil_append]) ?_
  refine at_seq [0] [1] rfl ?_
  refine at_region rfl ?_
  refine at_op (some 3) rfl rfl rfl rfl (op_boxI rfl rfl) (by dsimp only [putD, List.set]) ?_
  refine at_op (some 4) rfl rfl rfl rfl (op_boxI rfl rfl) (by dsimp only [putD, List.set]) ?_
  refine at_op (some 5) rfl rfl rfl rfl (op_boxI rfl rfl) (by dsimp only [putD, List.set]) ?_
  refine at_mc 6 rfl rfl rfl (.inr rfl) (by dsimp only [constD]) (by dsimp only [List.set]) ?_
  refine at_end rfl ?_
  refine at_seq [1, 0] [1, 1] rfl ?_
  refine at_draw mixed rfl [σ0, ⟨[some [.v (.list [])]], []⟩, ⟨[some [dnl (nodesT b)]], []⟩] rfl ?_
  first | (refine da_quiet (some 17) rfl rfl rfl rfl (fun s hs => op_loadRA rfl fagg_api_Tree) (by dsimp only [putD, List.set]) ?_) | (refine da_quiet (some 17) rfl rfl rfl rfl (by intro s hs; simp only [List.mem_cons, List.not_mem_nil, or_false] at hs; rcases hs with rfl | rfl | rfl <;> exact op_loadPA rfl fagg_api_Tree rfl (by decide) rfl) (by dsimp only [putD, List.set]) ?_)
  refine da_quiet (some 18) rfl rfl rfl rfl (fun s hs => op_call0 rfl rfl rfl rfl (nodes_spec a ha)) (by dsimp only [putD, List.set]) ?_
  first | (refine da_quiet (some 19) rfl rfl rfl rfl (fun s hs => op_loadRA rfl fagg_api_Tree) (by dsimp only [putD, List.set]) ?_) | (refine da_quiet (some 19) rfl rfl rfl rfl (by intro s hs; simp only [List.mem_cons, List.not_mem_nil, or_false] at hs; rcases hs with rfl | rfl | rfl <;> exact op_loadPA rfl fagg_api_Tree rfl (by decide) rfl) (by dsimp only [putD, List.set]) ?_)
  refine da_quiet (some 20) rfl rfl rfl rfl (fun s hs => op_call0 rfl rfl rfl rfl (nodes_spec b hb)) (by dsimp only [putD, List.set]) ?_
  refine da_eff (some 8) rfl rfl rfl rfl rfl rfl (op_alloc rfl fzero_Stree_node) (by dsimp only [putD, List.set]) ?_
  refine da_mv 18 7 rfl rfl rfl (.inr rfl) rfl (by dsimp only [List.set]) ?_
  refine da_st1 8 (.tmp 20) rfl rfl rfl rfl rfl rfl rfl (ev_tmp rfl) rfl fone_Stree_node rfl (by first | decide | simp | (simp; omega)) (by first | rfl | (dsimp only [List.set, List.append, List.cons_append, List.nil_append, cellsD, List.map, repl, List.length, Nat.reduceAdd, if_true, ↓reduceIte]; first | done | rfl)) ?_
  refine da_end rfl ⟨by decide +kernel, _, rfl, ?_⟩
  refine run_cv (cv_frz [0] (.keep (.keep (.keep (.keep (.keep (.keep (.keep (.keep (.view (lend_cell1 (x := vnl (nodesT b)) rfl rfl) (.keep (.keep (.keep (.keep (.keep (.keep (.keep (.keep (.keep (.keep (.keep (.keep (.keep (.keep (.keep (.keep (.keep (.keep (.keep (.keep (.keep (.keep (.keep (.keep (.keep (.keep (.keep (.keep (.keep (.keep (.keep (.keep (.keep (.keep (.keep (.keep (.keep (.keep (.keep (.keep (.keep (.keep (.keep (.keep (.keep (.keep (.keep (.keep (.keep (.keep (.keep (.keep (.keep (.keep (.keep (.keep (.keep (.keep (.keep (.keep (.keep (.keep (.keep (.keep (.keep (.keep (.keep (.keep (.keep (.keep (.keep (.keep (.keep (.keep (.keep (.keep (.keep (.keep (.keep (.keep (.keep (.keep (.keep (.keep (.keep (.keep (.keep (.keep (.keep (.keep (.keep (.keep (.keep (.keep (.keep .nil))))))))))))))))))))))))))))))))))))))))))))))))))))))))))))))))))))))))))))))))))))))))))))))))))))))))) ?_
  simp only [killH, List.foldl, List.set]
  refine at_seq [1, 1, 0] [1, 1, 1] rfl ?_
  refine at_seq [1, 1, 0, 0] [1, 1, 0, 1] rfl ?_
  refine at_region rfl ?_
  refine at_mv 7 21 rfl rfl rfl (.inl rfl) rfl (by dsimp only [List.set]) ?_
  first | (refine at_op (some 22) rfl rfl rfl rfl (op_lenL rfl fu_Stree_node) (by dsimp only [putD, List.set]) ?_) | (refine at_op (some 22) rfl rfl rfl rfl (opOK_un (op_lenL rfl fu_Stree_node)) (by dsimp only [putD, List.set]) ?_) | (refine at_op (some 22) rfl rfl rfl rfl (op_lenA rfl fu_Stree_node) (by dsimp only [putD, List.set]) ?_)
  refine at_op (some 23) rfl rfl rfl rfl (op_binI rfl rfl) (by dsimp only [putD, List.set]) ?_
  refine at_mv 23 24 rfl rfl rfl (.inl rfl) rfl (by dsimp only [List.set]) ?_
  refine at_split 24 rfl (fun hb1 env' he => ?_) (fun hb1 env' he => ?_)
  · dsimp only [List.set] at he; subst he
    refine at_opN (some 25) rfl rfl rfl (by dsimp only [putD, List.set]) ?_
    refine at_opN (some 26) rfl rfl rfl (by dsimp only [putD, List.set]) ?_
    refine at_opN (some 27) rfl rfl rfl (by dsimp only [putD, List.set]) ?_
    refine at_pkc true 24 28 rfl rfl rfl rfl rfl rfl (by dsimp only [constD]) (by dsimp only [List.set]) ?_
    refine at_mv 28 29 rfl rfl rfl (.inl rfl) rfl (by dsimp only [List.set]) ?_
    refine at_opN (some 30) rfl rfl rfl (by dsimp only [putD, List.set]) ?_
    refine at_opN (some 31) rfl rfl rfl (by dsimp only [putD, List.set]) ?_
    refine at_opN (some 32) rfl rfl rfl (by dsimp only [putD, List.set]) ?_
    refine at_opN (some 33) rfl rfl rfl (by dsimp only [putD, List.set]) ?_
    refine at_opN (some 34) rfl rfl rfl (by dsimp only [putD, List.set]) ?_
    refine at_pkc true 29 35 rfl rfl rfl rfl rfl rfl (by dsimp only [constD]) (by dsimp only [List.set]) ?_
    refine at_end rfl ?_
    refine at_true [1, 1, 0, 1, 0] [1, 1, 0, 1, 1] rfl rfl ?_
    refine at_seq [1, 1, 0, 1, 0, 0] [1, 1, 0, 1, 0, 1] rfl ?_
    refine at_region rfl ?_
    refine at_mc 6 rfl rfl rfl (.inr rfl) (by dsimp only [constD]) (by dsimp only [List.set]) ?_
    refine at_end rfl ?_
    refine at_ret rfl (ret_one (t := 6) rfl rfl ?_ rfl)
    first | (unfold provX; simp_all; done) | (unfold provX; simp_all; omega)
  · dsimp only [List.set] at he; subst he
    first | (refine at_op (some 25) rfl rfl rfl rfl (op_loadR1 rfl fone_Stree_node rfl) (by dsimp only [putD, List.set]) ?_) | (refine at_op (some 25) rfl rfl rfl rfl (op_loadP1 rfl fone_Stree_node rfl rfl) (by dsimp only [putD, List.set]) ?_)
    first | (refine at_op (some 26) rfl rfl rfl rfl (op_lenL rfl fu_Stree_node) (by dsimp only [putD, List.set]) ?_) | (refine at_op (some 26) rfl rfl rfl rfl (opOK_un (op_lenL rfl fu_Stree_node)) (by dsimp only [putD, List.set]) ?_) | (refine at_op (some 26) rfl rfl rfl rfl (op_lenA rfl fu_Stree_node) (by dsimp only [putD, List.set]) ?_)
    refine at_op (some 27) rfl rfl rfl rfl (op_binI rfl rfl) (by dsimp only [putD, List.set]) ?_
    refine at_pk false 24 27 28 rfl rfl rfl rfl rfl rfl rfl (by dsimp only [List.set]) ?_
    refine at_mv 28 29 rfl rfl rfl (.inl rfl) rfl (by dsimp only [List.set]) ?_
    refine at_split 29 rfl (fun hb2 env' he => ?_) (fun hb2 env' he => ?_)
    · dsimp only [List.set] at he; subst he
      refine at_opN (some 30) rfl rfl rfl (by dsimp only [putD, List.set]) ?_
      refine at_opN (some 31) rfl rfl rfl (by dsimp only [putD, List.set]) ?_
      refine at_opN (some 32) rfl rfl rfl (by dsimp only [putD, List.set]) ?_
      refine at_opN (some 33) rfl rfl rfl (by dsimp only [putD, List.set]) ?_
      refine at_opN (some 34) rfl rfl rfl (by dsimp only [putD, List.set]) ?_
      refine at_pkc true 29 35 rfl rfl rfl rfl rfl rfl (by dsimp only [constD]) (by dsimp only [List.set]) ?_
      refine at_end rfl ?_
      refine at_true [1, 1, 0, 1, 0] [1, 1, 0, 1, 1] rfl rfl ?_
      refine at_seq [1, 1, 0, 1, 0, 0] [1, 1, 0, 1, 0, 1] rfl ?_
      refine at_region rfl ?_
      refine at_mc 6 rfl rfl rfl (.inr rfl) (by dsimp only [constD]) (by dsimp only [List.set]) ?_
      refine at_end rfl ?_
      refine at_ret rfl (ret_one (t := 6) rfl rfl ?_ rfl)
      first | (unfold provX; simp_all; done) | (unfold provX; simp_all; omega)
    · dsimp only [List.set] at he; subst he
      first | (refine at_op (some 30) rfl rfl rfl rfl (op_loadR1 rfl fone_Sint rfl) (by dsimp only [putD, List.set]) ?_) | (refine at_op (some 30) rfl rfl rfl rfl (op_loadP1 rfl fone_Sint rfl rfl) (by dsimp only [putD, List.set]) ?_)
      first | (refine at_op (some 31) rfl rfl rfl rfl (op_lenL rfl fu_Sint) (by dsimp only [putD, List.set]) ?_) | (refine at_op (some 31) rfl rfl rfl rfl (opOK_un (op_lenL rfl fu_Sint)) (by dsimp only [putD, List.set]) ?_) | (refine at_op (some 31) rfl rfl rfl rfl (op_lenA rfl fu_Sint) (by dsimp only [putD, List.set]) ?_)
      refine at_mv 7 32 rfl rfl rfl (.inl rfl) rfl (by dsimp only [List.set]) ?_
      first | (refine at_op (some 33) rfl rfl rfl rfl (op_lenL rfl fu_Stree_node) (by dsimp only [putD, List.set]) ?_) | (refine at_op (some 33) rfl rfl rfl rfl (opOK_un (op_lenL rfl fu_Stree_node)) (by dsimp only [putD, List.set]) ?_) | (refine at_op (some 33) rfl rfl rfl rfl (op_lenA rfl fu_Stree_node) (by dsimp only [putD, List.set]) ?_)
      refine at_op (some 34) rfl rfl rfl rfl (op_binI rfl rfl) (by dsimp only [putD, List.set]) ?_
      refine at_pk false 29 34 35 rfl rfl rfl rfl rfl rfl rfl (by dsimp only [List.set]) ?_
      refine at_end rfl ?_
      refine at_cond [1, 1, 0, 1, 0] [1, 1, 0, 1, 1] rfl rfl (fun hc3 => ?_) (fun hc3 => ?_)
      · skip
        refine at_seq [1, 1, 0, 1, 0, 0] [1, 1, 0, 1, 0, 1] rfl ?_
        refine at_region rfl ?_
        refine at_mc 6 rfl rfl rfl (.inr rfl) (by dsimp only [constD]) (by dsimp only [List.set]) ?_
        refine at_end rfl ?_
        refine at_ret rfl (ret_one (t := 6) rfl rfl ?_ rfl)
        first | (unfold provX; simp_all; done) | (unfold provX; simp_all; omega)
      · skip
        have h1 : ((nodesT a).length == 0) = false := by simp_all
        have h2 : ((nodesT b).length == 0) = false := by simp_all
        have hl : at'.length = (nodesT a).length := by simp_all; omega
        refine at_skip rfl ?_
        refine at_seq [1, 1, 1, 0] [1, 1, 1, 1] rfl ?_
        refine at_seq [1, 1, 1, 0, 0] [1, 1, 1, 0, 1] rfl ?_
        refine at_region rfl ?_
        refine at_mv 7 36 rfl rfl rfl (.inl rfl) rfl (by dsimp only [List.set]) ?_
        first | (refine at_op (some 37) rfl rfl rfl rfl (op_lenL rfl fu_Stree_node) (by dsimp only [putD, List.set]) ?_) | (refine at_op (some 37) rfl rfl rfl rfl (opOK_un (op_lenL rfl fu_Stree_node)) (by dsimp only [putD, List.set]) ?_) | (refine at_op (some 37) rfl rfl rfl rfl (op_lenA rfl fu_Stree_node) (by dsimp only [putD, List.set]) ?_)
        refine at_mc 38 rfl rfl rfl (.inl rfl) (by dsimp only [constD]) (by dsimp only [List.set]) ?_
        refine at_end rfl ?_
        refine at_block [1, 1, 1, 0, 1, 0] 0 rfl ?_
        refine at_loop [1, 1, 1, 0, 1, 0, 0] rfl ?_
        try simp only [List.length_map, List.length_nil, Int.toNat_natCast]
        exact run_wk (.drop (.drop (.drop (.drop (.drop (.keep (.drop (.keep (.keep (.drop (.drop (.drop (.drop (.drop (.drop (.drop (.drop (.drop (.drop (.drop (.drop (.drop (.drop (.drop (.drop (.drop (.drop (.drop (.drop (.drop (.drop (.drop (.drop (.drop (.drop (.drop (.keep (.keep (.keep (.drop (.drop (.drop (.drop (.drop (.drop (.drop (.drop (.drop (.drop (.drop (.drop (.drop (.drop (.drop (.drop (.drop (.drop (.drop (.drop (.drop (.drop (.drop (.drop (.drop (.drop (.drop (.drop (.drop (.drop (.drop (.drop (.drop (.drop (.drop (.drop (.drop (.drop (.drop (.drop (.drop (.drop (.drop (.drop (.drop (.drop (.drop (.drop (.drop (.drop (.drop (.drop (.drop (.drop (.drop (.drop (.drop (.drop (.drop (.drop (.drop (.drop (.drop (.drop (.drop .nil)))))))))))))))))))))))))))))))))))))))))))))))))))))))))))))))))))))))))))))))))))))))))))))))))))))))) (proves_one (nodesT a) (nodesT b) (nodesT_wf a) (nodesT_wf b) at' hl _ (by unfold provX; simp only [hl, h1, h2]; simp) _ 0 rfl (by rw [List.drop_zero]))

end Go.Proofs.Ytoofgniepbidnaa
