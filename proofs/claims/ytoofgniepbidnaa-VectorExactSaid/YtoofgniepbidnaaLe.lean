/-
  The law that the vectors' operations are exact, walked.
-/
import Derived.Test.YtoofgniepbidnaaLc
import Derived.Test.YtoofgniepbidnaaWf
import Derived.Test.YtoofgniepbidnaaTyb
namespace Go.Proofs.Ytoofgniepbidnaa
open Go.Dv

abbrev vp (p : List Int × List Int) : V := .agg [vl p.1, vl p.2]
theorem setLast {α : Type} (H : List α) (x y : α) : (H ++ [x]).set H.length y = H ++ [y] := by simp
theorem zip_len (f : Int → Int → Int) (a b : List Int) : (List.zipWith f a b).length ≤ a.length := by simp; omega
theorem join_len (va rb : Bool) (f : Int → Int → Int) (a b : List Int) : (joinM va rb f a b).1.length ≤ a.length := by
  unfold joinM; split
  · split
    · exact zip_len f a b
    · simp
  · simp
theorem addM_len (a b : List Int) : (addM a b).1.length ≤ a.length := by
  unfold addM; split
  · split
    · exact join_len _ _ _ a b
    · simp
  · simp
theorem subM_len (a b : List Int) : (subM a b).1.length ≤ a.length := by
  unfold subM; split
  · split
    · exact join_len _ _ _ a b
    · simp
  · simp

noncomputable def cExact : Code := Try.f9.body.getD .skip
set_option maxRecDepth 20000 in
theorem exact_loop (ps : List (List Int × List Int)) (hl : ps.length ≤ 1000) (hps : ∀ p ∈ ps, p.1.length ≤ 1000000 ∧ p.2.length ≤ 1000000) (m : Nat) : ∀ (i : Nat) (H : List (Option (List D))), ps.length - i = m → Run PP (fun env σ1 => ResOK PP Try.f9 env σ1 (db true) σ0) [.lp (sub cExact [1, 1, 1, 1, 0, 1, 0, 0]), .blk 0, .code (sub cExact [1, 1, 1, 1, 1])] (.undef :: .undef :: .undef :: .undef :: .undef :: .undef :: (db false) :: .undef :: .undef :: .undef :: .undef :: .undef :: .undef :: .undef :: .undef :: .undef :: .undef :: .undef :: .undef :: .undef :: .undef :: .undef :: .undef :: .undef :: .undef :: .undef :: .undef :: .undef :: .undef :: .undef :: .undef :: .undef :: .undef :: .undef :: .undef :: .undef :: .undef :: .undef :: .undef :: .undef :: .undef :: .undef :: .undef :: .undef :: .undef :: .undef :: .undef :: .undef :: .undef :: .undef :: .undef :: .undef :: .undef :: .undef :: .undef :: .undef :: .undef :: .undef :: .undef :: .undef :: .undef :: .undef :: .undef :: .undef :: .undef :: .undef :: .undef :: .undef :: (.v (.list (ps.map vp))) :: (di ↑ps.length) :: (di ↑i) :: .undef :: .undef :: .undef :: .undef :: .undef :: .undef :: .undef :: .undef :: .undef :: .undef :: .undef :: .undef :: .undef :: .undef :: .undef :: .undef :: .undef :: .undef :: .undef :: .undef :: .undef :: .undef :: .undef :: .undef :: .undef :: .undef :: .undef :: .undef :: .undef :: .undef :: .undef :: .undef :: .undef :: .undef :: .undef :: .undef :: .undef :: .undef :: .undef :: .undef :: .undef :: .undef :: .undef :: .undef :: .undef :: .undef :: .undef :: .undef :: .undef :: .undef :: .undef :: .undef :: .undef :: .undef :: .undef :: .undef :: .undef :: .undef :: .undef :: .undef :: .undef :: .undef :: .undef :: .undef :: .undef :: .undef :: .undef :: .undef :: .undef :: .undef :: .undef :: .undef :: .undef :: .undef :: .undef :: .undef :: .undef :: .undef :: .undef :: .undef :: .undef :: .undef :: .undef :: .undef :: .undef :: .undef :: .undef :: .undef :: .undef :: .undef :: .undef :: .undef :: .undef :: .undef :: .undef :: .undef :: .undef :: .undef :: .undef :: .undef :: .undef :: .undef :: .undef :: .undef :: .undef :: .undef :: .undef :: .undef :: .undef :: .undef :: .undef :: .undef :: .undef :: .undef :: .undef :: .undef :: .undef :: .undef :: .undef :: .undef :: .undef :: .undef :: .undef :: .undef :: .undef :: .undef :: []) ⟨H, []⟩ := by
  induction m using Nat.strongRecOn with
  | _ m ih =>
    intro i H hm
    refine run_lp ?_
    refine at_seq [1, 1, 1, 1, 0, 1, 0, 0, 0] [1, 1, 1, 1, 0, 1, 0, 0, 1] rfl ?_
    refine at_region rfl ?_
    refine at_op (some 71) rfl rfl rfl rfl (op_binI rfl rfl) (by dsimp only [putD, List.set]) ?_
    refine at_end rfl ?_
    refine at_seq [1, 1, 1, 1, 0, 1, 0, 0, 1, 0] [1, 1, 1, 1, 0, 1, 0, 0, 1, 1] rfl ?_
    refine at_cond [1, 1, 1, 1, 0, 1, 0, 0, 1, 0, 0] [1, 1, 1, 1, 0, 1, 0, 0, 1, 0, 1] rfl rfl (fun hc1 => ?_) (fun hc1 => ?_)
    · skip
      have hlt : i < ps.length := by simpa using hc1
      obtain ⟨⟨a, b⟩, hx⟩ := get_ex hlt
      obtain ⟨ha, hb⟩ := hps _ (List.mem_of_getElem? hx)
      simp only at ha hb
      have hx2 : (ps.map vp)[((i : Nat) : Int).toNat]? = some (.agg [vl a, vl b]) := by simp [hx]
      refine at_skip rfl ?_
      refine at_seq [1, 1, 1, 1, 0, 1, 0, 0, 1, 1, 0] [1, 1, 1, 1, 0, 1, 0, 0, 1, 1, 1] rfl ?_
      refine at_block [1, 1, 1, 1, 0, 1, 0, 0, 1, 1, 0, 0] 1 rfl ?_
      refine at_seq [1, 1, 1, 1, 0, 1, 0, 0, 1, 1, 0, 0, 0] [1, 1, 1, 1, 0, 1, 0, 0, 1, 1, 0, 0, 1] rfl ?_
      refine at_region rfl ?_
      refine at_op (some 72) rfl rfl rfl rfl (op_idxL rfl slPair (by omega) hx2 rfl) (by dsimp only [putD, List.set]) ?_
      first | (refine at_op (some 73) rfl rfl rfl rfl (op_loadRA rfl aggPair) (by dsimp only [putD, List.set]) ?_) | (refine at_op (some 73) rfl rfl rfl rfl (op_loadPA rfl aggPair rfl (by decide) rfl) (by dsimp only [putD, List.set]) ?_)
      refine at_opS (some 10) rfl rfl rfl rfl (op_alloc rfl zeroPair) (by dsimp only [putD, List.set]) (by dsimp only [List.set, List.append, List.cons_append, List.nil_append, cellsD, List.map, repl, List.length, Nat.reduceAdd, if_true, ↓reduceIte]; first | done | rfl) ?_
      refine at_opS none rfl rfl rfl rfl (op_store rfl rfl aggPair rfl (q := H.length) (cs := [.v (.list []), .v (.list [])]) (by simp) (by simp)) (by dsimp only [putD, List.set]) (by dsimp only [List.set, List.append, List.cons_append, List.nil_append, cellsD, List.map, repl, List.length, Nat.reduceAdd, if_true, ↓reduceIte]; first | done | rfl) ?_
      rw [setLast]
      change OpsAt _ _ _ _ _ _ _ ⟨H ++ [some [dl a, dl b]], []⟩
      refine at_end rfl ?_
      refine at_seq [1, 1, 1, 1, 0, 1, 0, 0, 1, 1, 0, 0, 1, 0] [1, 1, 1, 1, 0, 1, 0, 0, 1, 1, 0, 0, 1, 1] rfl ?_
      refine at_draw mixed rfl [⟨H ++ [some [dl a, dl b]], []⟩] rfl ?_
      refine da_quiet (some 74) rfl rfl rfl rfl (fun s hs => op_idxAP rfl arPair (by decide) (by decide)) (by dsimp only [putD, List.set]) ?_
      refine da_quiet (some 75) rfl rfl rfl rfl (by intro s hs; simp only [List.mem_cons, List.not_mem_nil, or_false] at hs; rcases hs with rfl <;> exact op_loadP1 rfl oneInts (cs := [dl a, dl b]) (by simp) rfl) (by dsimp only [putD, List.set]) ?_
      refine da_quiet (some 76) rfl rfl rfl rfl (fun s hs => op_idxAP rfl arPair (by decide) (by decide)) (by dsimp only [putD, List.set]) ?_
      refine da_quiet (some 77) rfl rfl rfl rfl (by intro s hs; simp only [List.mem_cons, List.not_mem_nil, or_false] at hs; rcases hs with rfl <;> exact op_loadP1 rfl oneInts (cs := [dl a, dl b]) (by simp) rfl) (by dsimp only [putD, List.set]) ?_
      refine da_mv 75 11 rfl rfl rfl (.inr rfl) rfl (by dsimp only [List.set]) ?_
      refine da_mv 77 12 rfl rfl rfl (.inr rfl) rfl (by dsimp only [List.set]) ?_
      refine da_end rfl ⟨by decide +kernel, _, rfl, ?_⟩
      refine at_seq [1, 1, 1, 1, 0, 1, 0, 0, 1, 1, 0, 0, 1, 1, 0] [1, 1, 1, 1, 0, 1, 0, 0, 1, 1, 0, 0, 1, 1, 1] rfl ?_
      refine at_seq [1, 1, 1, 1, 0, 1, 0, 0, 1, 1, 0, 0, 1, 1, 0, 0] [1, 1, 1, 1, 0, 1, 0, 0, 1, 1, 0, 0, 1, 1, 0, 1] rfl ?_
      refine at_region rfl ?_
      refine at_mv 11 78 rfl rfl rfl (.inl rfl) rfl (by dsimp only [List.set]) ?_
      refine at_op (some 79) rfl rfl rfl rfl (op_call0 rfl rfl rfl rfl (valid_spec _)) (by dsimp only [putD, List.set]) ?_
      refine at_mv 11 80 rfl rfl rfl (.inl rfl) rfl (by dsimp only [List.set]) ?_
      refine at_op (some 81) rfl rfl rfl rfl (op_call0 rfl rfl rfl rfl (rvalid_spec _ ha)) (by dsimp only [putD, List.set]) ?_
      refine at_op (some 82) rfl rfl rfl rfl (op_eqlB rfl uBool (.inr rfl)) (by dsimp only [putD, List.set]) ?_
      simp only [bne_self_eq_false]
      refine at_mv 82 83 rfl rfl rfl (.inl rfl) rfl (by dsimp only [List.set]) ?_
      refine at_mv 11 84 rfl rfl rfl (.inl rfl) rfl (by dsimp only [List.set]) ?_
      refine at_op (some 85) rfl rfl rfl rfl (op_call0 rfl rfl rfl rfl (finite_spec _)) (by dsimp only [putD, List.set]) ?_
      refine at_mv 11 86 rfl rfl rfl (.inl rfl) rfl (by dsimp only [List.set]) ?_
      refine at_op (some 87) rfl rfl rfl rfl (op_call0 rfl rfl rfl rfl (rfinite_spec _ ha)) (by dsimp only [putD, List.set]) ?_
      refine at_op (some 88) rfl rfl rfl rfl (op_eqlB rfl uBool (.inr rfl)) (by dsimp only [putD, List.set]) ?_
      simp only [bne_self_eq_false]
      refine at_pk false 83 88 89 rfl rfl rfl rfl rfl rfl rfl (by dsimp only [List.set]) ?_
      refine at_mv 89 90 rfl rfl rfl (.inl rfl) rfl (by dsimp only [List.set]) ?_
      refine at_mv 11 91 rfl rfl rfl (.inl rfl) rfl (by dsimp only [List.set]) ?_
      refine at_mv 12 92 rfl rfl rfl (.inl rfl) rfl (by dsimp only [List.set]) ?_
      refine at_op (some 93) rfl rfl rfl rfl (op_call0 rfl rfl rfl rfl (leq_spec _ _)) (by dsimp only [putD, List.set]) ?_
      refine at_mv 11 94 rfl rfl rfl (.inl rfl) rfl (by dsimp only [List.set]) ?_
      refine at_mv 12 95 rfl rfl rfl (.inl rfl) rfl (by dsimp only [List.set]) ?_
      refine at_op (some 96) rfl rfl rfl rfl (op_call0 rfl rfl rfl rfl (rleq_spec _ _ ha hb)) (by dsimp only [putD, List.set]) ?_
      refine at_op (some 97) rfl rfl rfl rfl (op_eqlB rfl uBool (.inr rfl)) (by dsimp only [putD, List.set]) ?_
      simp only [bne_self_eq_false]
      refine at_pk false 90 97 98 rfl rfl rfl rfl rfl rfl rfl (by dsimp only [List.set]) ?_
      refine at_mv 98 99 rfl rfl rfl (.inl rfl) rfl (by dsimp only [List.set]) ?_
      refine at_mv 11 100 rfl rfl rfl (.inl rfl) rfl (by dsimp only [List.set]) ?_
      refine at_mv 12 101 rfl rfl rfl (.inl rfl) rfl (by dsimp only [List.set]) ?_
      refine at_op (some 102) rfl rfl rfl rfl (op_call0 rfl rfl rfl rfl (vcompare_spec _ _ ha)) (by dsimp only [putD, List.set]) ?_
      refine at_mv 11 103 rfl rfl rfl (.inl rfl) rfl (by dsimp only [List.set]) ?_
      refine at_mv 12 104 rfl rfl rfl (.inl rfl) rfl (by dsimp only [List.set]) ?_
      refine at_op (some 105) rfl rfl rfl rfl (op_call0 rfl rfl rfl rfl (rcompare_spec _ _ ha)) (by dsimp only [putD, List.set]) ?_
      refine at_op (some 106) rfl rfl rfl rfl (op_binI rfl rfl) (by dsimp only [putD, List.set]) ?_
      simp only [bne_self_eq_false]
      refine at_pk false 99 106 107 rfl rfl rfl rfl rfl rfl rfl (by dsimp only [List.set]) ?_
      refine at_end rfl ?_
      refine at_false [1, 1, 1, 1, 0, 1, 0, 0, 1, 1, 0, 0, 1, 1, 0, 1, 0] [1, 1, 1, 1, 0, 1, 0, 0, 1, 1, 0, 0, 1, 1, 0, 1, 1] rfl rfl ?_
      refine at_skip rfl ?_
      refine at_seq [1, 1, 1, 1, 0, 1, 0, 0, 1, 1, 0, 0, 1, 1, 1, 0] [1, 1, 1, 1, 0, 1, 0, 0, 1, 1, 0, 0, 1, 1, 1, 1] rfl ?_
      refine at_region rfl ?_
      refine at_mv 11 109 rfl rfl rfl (.inl rfl) rfl (by dsimp only [List.set]) ?_
      refine at_mv 12 110 rfl rfl rfl (.inl rfl) rfl (by dsimp only [List.set]) ?_
      refine at_op (some 111) rfl rfl rfl rfl (op_call0 rfl rfl rfl rfl (add_spec _ _)) (by dsimp only [putD, List.set]) ?_
      refine at_mv 111 108 rfl rfl rfl (.inl rfl) rfl (by dsimp only [List.set]) ?_
      refine at_op (some 112) rfl rfl rfl rfl (op_extract rfl rfl) (by dsimp only [putD, List.set]) ?_
      refine at_op (some 113) rfl rfl rfl rfl (op_extract rfl rfl) (by dsimp only [putD, List.set]) ?_
      refine at_mv 112 13 rfl rfl rfl (.inr rfl) rfl (by dsimp only [List.set]) ?_
      refine at_mv 113 14 rfl rfl rfl (.inr rfl) rfl (by dsimp only [List.set]) ?_
      refine at_end rfl ?_
      refine at_seq [1, 1, 1, 1, 0, 1, 0, 0, 1, 1, 0, 0, 1, 1, 1, 1, 0] [1, 1, 1, 1, 0, 1, 0, 0, 1, 1, 0, 0, 1, 1, 1, 1, 1] rfl ?_
      refine at_region rfl ?_
      refine at_mv 11 115 rfl rfl rfl (.inl rfl) rfl (by dsimp only [List.set]) ?_
      refine at_mv 12 116 rfl rfl rfl (.inl rfl) rfl (by dsimp only [List.set]) ?_
      refine at_op (some 117) rfl rfl rfl rfl (op_call0 rfl rfl rfl rfl (radd_spec _ _ ha hb)) (by dsimp only [putD, List.set]) ?_
      refine at_mv 117 114 rfl rfl rfl (.inl rfl) rfl (by dsimp only [List.set]) ?_
      refine at_op (some 118) rfl rfl rfl rfl (op_extract rfl rfl) (by dsimp only [putD, List.set]) ?_
      refine at_op (some 119) rfl rfl rfl rfl (op_extract rfl rfl) (by dsimp only [putD, List.set]) ?_
      refine at_mv 118 15 rfl rfl rfl (.inr rfl) rfl (by dsimp only [List.set]) ?_
      refine at_mv 119 16 rfl rfl rfl (.inr rfl) rfl (by dsimp only [List.set]) ?_
      refine at_end rfl ?_
      refine at_seq [1, 1, 1, 1, 0, 1, 0, 0, 1, 1, 0, 0, 1, 1, 1, 1, 1, 0] [1, 1, 1, 1, 0, 1, 0, 0, 1, 1, 0, 0, 1, 1, 1, 1, 1, 1] rfl ?_
      refine at_region rfl ?_
      refine at_mv 11 121 rfl rfl rfl (.inl rfl) rfl (by dsimp only [List.set]) ?_
      refine at_mv 12 122 rfl rfl rfl (.inl rfl) rfl (by dsimp only [List.set]) ?_
      refine at_op (some 123) rfl rfl rfl rfl (op_call0 rfl rfl rfl rfl (sub_spec _ _)) (by dsimp only [putD, List.set]) ?_
      refine at_mv 123 120 rfl rfl rfl (.inl rfl) rfl (by dsimp only [List.set]) ?_
      refine at_op (some 124) rfl rfl rfl rfl (op_extract rfl rfl) (by dsimp only [putD, List.set]) ?_
      refine at_op (some 125) rfl rfl rfl rfl (op_extract rfl rfl) (by dsimp only [putD, List.set]) ?_
      refine at_mv 124 17 rfl rfl rfl (.inr rfl) rfl (by dsimp only [List.set]) ?_
      refine at_mv 125 18 rfl rfl rfl (.inr rfl) rfl (by dsimp only [List.set]) ?_
      refine at_end rfl ?_
      refine at_seq [1, 1, 1, 1, 0, 1, 0, 0, 1, 1, 0, 0, 1, 1, 1, 1, 1, 1, 0] [1, 1, 1, 1, 0, 1, 0, 0, 1, 1, 0, 0, 1, 1, 1, 1, 1, 1, 1] rfl ?_
      refine at_region rfl ?_
      refine at_mv 11 127 rfl rfl rfl (.inl rfl) rfl (by dsimp only [List.set]) ?_
      refine at_mv 12 128 rfl rfl rfl (.inl rfl) rfl (by dsimp only [List.set]) ?_
      refine at_op (some 129) rfl rfl rfl rfl (op_call0 rfl rfl rfl rfl (rsub_spec _ _ ha hb)) (by dsimp only [putD, List.set]) ?_
      refine at_mv 129 126 rfl rfl rfl (.inl rfl) rfl (by dsimp only [List.set]) ?_
      refine at_op (some 130) rfl rfl rfl rfl (op_extract rfl rfl) (by dsimp only [putD, List.set]) ?_
      refine at_op (some 131) rfl rfl rfl rfl (op_extract rfl rfl) (by dsimp only [putD, List.set]) ?_
      refine at_mv 130 19 rfl rfl rfl (.inr rfl) rfl (by dsimp only [List.set]) ?_
      refine at_mv 131 20 rfl rfl rfl (.inr rfl) rfl (by dsimp only [List.set]) ?_
      refine at_end rfl ?_
      refine at_seq [1, 1, 1, 1, 0, 1, 0, 0, 1, 1, 0, 0, 1, 1, 1, 1, 1, 1, 1, 0] [1, 1, 1, 1, 0, 1, 0, 0, 1, 1, 0, 0, 1, 1, 1, 1, 1, 1, 1, 1] rfl ?_
      refine at_seq [1, 1, 1, 1, 0, 1, 0, 0, 1, 1, 0, 0, 1, 1, 1, 1, 1, 1, 1, 0, 0] [1, 1, 1, 1, 0, 1, 0, 0, 1, 1, 0, 0, 1, 1, 1, 1, 1, 1, 1, 0, 1] rfl ?_
      refine at_region rfl ?_
      refine at_mv 14 132 rfl rfl rfl (.inl rfl) rfl (by dsimp only [List.set]) ?_
      refine at_mv 16 133 rfl rfl rfl (.inl rfl) rfl (by dsimp only [List.set]) ?_
      refine at_op (some 134) rfl rfl rfl rfl (op_binI rfl rfl) (by dsimp only [putD, List.set]) ?_
      simp only [bne_self_eq_false]
      refine at_mv 134 135 rfl rfl rfl (.inl rfl) rfl (by dsimp only [List.set]) ?_
      refine at_mv 18 136 rfl rfl rfl (.inl rfl) rfl (by dsimp only [List.set]) ?_
      refine at_mv 20 137 rfl rfl rfl (.inl rfl) rfl (by dsimp only [List.set]) ?_
      refine at_op (some 138) rfl rfl rfl rfl (op_binI rfl rfl) (by dsimp only [putD, List.set]) ?_
      simp only [bne_self_eq_false]
      refine at_pk false 135 138 139 rfl rfl rfl rfl rfl rfl rfl (by dsimp only [List.set]) ?_
      refine at_mv 139 140 rfl rfl rfl (.inl rfl) rfl (by dsimp only [List.set]) ?_
      refine at_mv 13 141 rfl rfl rfl (.inl rfl) rfl (by dsimp only [List.set]) ?_
      refine at_mv 15 142 rfl rfl rfl (.inl rfl) rfl (by dsimp only [List.set]) ?_
      refine at_op (some 143) rfl rfl rfl rfl (op_call0 rfl rfl rfl rfl (same_is _ _ (Nat.le_trans (addM_len _ _) ha) (v := true) (by rw [cmpV_refl]; rfl))) (by dsimp only [putD, List.set]) ?_
      refine at_op (some 144) rfl rfl rfl rfl (op_un rfl rfl) (by dsimp only [putD, List.set]) ?_
      refine at_pk false 140 144 145 rfl rfl rfl rfl rfl rfl rfl (by dsimp only [List.set]) ?_
      refine at_mv 145 146 rfl rfl rfl (.inl rfl) rfl (by dsimp only [List.set]) ?_
      refine at_mv 17 147 rfl rfl rfl (.inl rfl) rfl (by dsimp only [List.set]) ?_
      refine at_mv 19 148 rfl rfl rfl (.inl rfl) rfl (by dsimp only [List.set]) ?_
      refine at_op (some 149) rfl rfl rfl rfl (op_call0 rfl rfl rfl rfl (same_is _ _ (Nat.le_trans (subM_len _ _) ha) (v := true) (by rw [cmpV_refl]; rfl))) (by dsimp only [putD, List.set]) ?_
      refine at_op (some 150) rfl rfl rfl rfl (op_un rfl rfl) (by dsimp only [putD, List.set]) ?_
      refine at_pk false 146 150 151 rfl rfl rfl rfl rfl rfl rfl (by dsimp only [List.set]) ?_
      refine at_end rfl ?_
      refine at_false [1, 1, 1, 1, 0, 1, 0, 0, 1, 1, 0, 0, 1, 1, 1, 1, 1, 1, 1, 0, 1, 0] [1, 1, 1, 1, 0, 1, 0, 0, 1, 1, 0, 0, 1, 1, 1, 1, 1, 1, 1, 0, 1, 1] rfl rfl ?_
      refine at_skip rfl ?_
      refine at_seq [1, 1, 1, 1, 0, 1, 0, 0, 1, 1, 0, 0, 1, 1, 1, 1, 1, 1, 1, 1, 0] [1, 1, 1, 1, 0, 1, 0, 0, 1, 1, 0, 0, 1, 1, 1, 1, 1, 1, 1, 1, 1] rfl ?_
      refine at_region rfl ?_
      refine at_mv 11 153 rfl rfl rfl (.inl rfl) rfl (by dsimp only [List.set]) ?_
      refine at_mv 12 154 rfl rfl rfl (.inl rfl) rfl (by dsimp only [List.set]) ?_
      refine at_op (some 155) rfl rfl rfl rfl (op_call0 rfl rfl rfl rfl (max_spec _ _)) (by dsimp only [putD, List.set]) ?_
      refine at_mv 155 152 rfl rfl rfl (.inl rfl) rfl (by dsimp only [List.set]) ?_
      refine at_op (some 156) rfl rfl rfl rfl (op_extract rfl rfl) (by dsimp only [putD, List.set]) ?_
      refine at_op (some 157) rfl rfl rfl rfl (op_extract rfl rfl) (by dsimp only [putD, List.set]) ?_
      refine at_mv 156 13 rfl rfl rfl (.inr rfl) rfl (by dsimp only [List.set]) ?_
      refine at_mv 157 14 rfl rfl rfl (.inr rfl) rfl (by dsimp only [List.set]) ?_
      refine at_end rfl ?_
      refine at_seq [1, 1, 1, 1, 0, 1, 0, 0, 1, 1, 0, 0, 1, 1, 1, 1, 1, 1, 1, 1, 1, 0] [1, 1, 1, 1, 0, 1, 0, 0, 1, 1, 0, 0, 1, 1, 1, 1, 1, 1, 1, 1, 1, 1] rfl ?_
      refine at_region rfl ?_
      refine at_mv 11 159 rfl rfl rfl (.inl rfl) rfl (by dsimp only [List.set]) ?_
      refine at_mv 12 160 rfl rfl rfl (.inl rfl) rfl (by dsimp only [List.set]) ?_
      refine at_op (some 161) rfl rfl rfl rfl (op_call0 rfl rfl rfl rfl (rmax_spec _ _ ha hb)) (by dsimp only [putD, List.set]) ?_
      refine at_mv 161 158 rfl rfl rfl (.inl rfl) rfl (by dsimp only [List.set]) ?_
      refine at_op (some 162) rfl rfl rfl rfl (op_extract rfl rfl) (by dsimp only [putD, List.set]) ?_
      refine at_op (some 163) rfl rfl rfl rfl (op_extract rfl rfl) (by dsimp only [putD, List.set]) ?_
      refine at_mv 162 15 rfl rfl rfl (.inr rfl) rfl (by dsimp only [List.set]) ?_
      refine at_mv 163 16 rfl rfl rfl (.inr rfl) rfl (by dsimp only [List.set]) ?_
      refine at_end rfl ?_
      refine at_seq [1, 1, 1, 1, 0, 1, 0, 0, 1, 1, 0, 0, 1, 1, 1, 1, 1, 1, 1, 1, 1, 1, 0] [1, 1, 1, 1, 0, 1, 0, 0, 1, 1, 0, 0, 1, 1, 1, 1, 1, 1, 1, 1, 1, 1, 1] rfl ?_
      refine at_region rfl ?_
      refine at_mv 11 165 rfl rfl rfl (.inl rfl) rfl (by dsimp only [List.set]) ?_
      refine at_mv 12 166 rfl rfl rfl (.inl rfl) rfl (by dsimp only [List.set]) ?_
      refine at_op (some 167) rfl rfl rfl rfl (op_call0 rfl rfl rfl rfl (min_spec _ _)) (by dsimp only [putD, List.set]) ?_
      refine at_mv 167 164 rfl rfl rfl (.inl rfl) rfl (by dsimp only [List.set]) ?_
      refine at_op (some 168) rfl rfl rfl rfl (op_extract rfl rfl) (by dsimp only [putD, List.set]) ?_
      refine at_op (some 169) rfl rfl rfl rfl (op_extract rfl rfl) (by dsimp only [putD, List.set]) ?_
      refine at_mv 168 17 rfl rfl rfl (.inr rfl) rfl (by dsimp only [List.set]) ?_
      refine at_mv 169 18 rfl rfl rfl (.inr rfl) rfl (by dsimp only [List.set]) ?_
      refine at_end rfl ?_
      refine at_seq [1, 1, 1, 1, 0, 1, 0, 0, 1, 1, 0, 0, 1, 1, 1, 1, 1, 1, 1, 1, 1, 1, 1, 0] [1, 1, 1, 1, 0, 1, 0, 0, 1, 1, 0, 0, 1, 1, 1, 1, 1, 1, 1, 1, 1, 1, 1, 1] rfl ?_
      refine at_region rfl ?_
      refine at_mv 11 171 rfl rfl rfl (.inl rfl) rfl (by dsimp only [List.set]) ?_
      refine at_mv 12 172 rfl rfl rfl (.inl rfl) rfl (by dsimp only [List.set]) ?_
      refine at_op (some 173) rfl rfl rfl rfl (op_call0 rfl rfl rfl rfl (rmin_spec _ _ ha hb)) (by dsimp only [putD, List.set]) ?_
      refine at_mv 173 170 rfl rfl rfl (.inl rfl) rfl (by dsimp only [List.set]) ?_
      refine at_op (some 174) rfl rfl rfl rfl (op_extract rfl rfl) (by dsimp only [putD, List.set]) ?_
      refine at_op (some 175) rfl rfl rfl rfl (op_extract rfl rfl) (by dsimp only [putD, List.set]) ?_
      refine at_mv 174 19 rfl rfl rfl (.inr rfl) rfl (by dsimp only [List.set]) ?_
      refine at_mv 175 20 rfl rfl rfl (.inr rfl) rfl (by dsimp only [List.set]) ?_
      refine at_end rfl ?_
      refine at_seq [1, 1, 1, 1, 0, 1, 0, 0, 1, 1, 0, 0, 1, 1, 1, 1, 1, 1, 1, 1, 1, 1, 1, 1, 0] [1, 1, 1, 1, 0, 1, 0, 0, 1, 1, 0, 0, 1, 1, 1, 1, 1, 1, 1, 1, 1, 1, 1, 1, 1] rfl ?_
      refine at_region rfl ?_
      refine at_mv 14 176 rfl rfl rfl (.inl rfl) rfl (by dsimp only [List.set]) ?_
      refine at_mv 16 177 rfl rfl rfl (.inl rfl) rfl (by dsimp only [List.set]) ?_
      refine at_op (some 178) rfl rfl rfl rfl (op_binI rfl rfl) (by dsimp only [putD, List.set]) ?_
      simp only [bne_self_eq_false]
      refine at_mv 178 179 rfl rfl rfl (.inl rfl) rfl (by dsimp only [List.set]) ?_
      refine at_mv 18 180 rfl rfl rfl (.inl rfl) rfl (by dsimp only [List.set]) ?_
      refine at_mv 20 181 rfl rfl rfl (.inl rfl) rfl (by dsimp only [List.set]) ?_
      refine at_op (some 182) rfl rfl rfl rfl (op_binI rfl rfl) (by dsimp only [putD, List.set]) ?_
      simp only [bne_self_eq_false]
      refine at_pk false 179 182 183 rfl rfl rfl rfl rfl rfl rfl (by dsimp only [List.set]) ?_
      refine at_mv 183 184 rfl rfl rfl (.inl rfl) rfl (by dsimp only [List.set]) ?_
      refine at_mv 13 185 rfl rfl rfl (.inl rfl) rfl (by dsimp only [List.set]) ?_
      refine at_mv 15 186 rfl rfl rfl (.inl rfl) rfl (by dsimp only [List.set]) ?_
      refine at_op (some 187) rfl rfl rfl rfl (op_call0 rfl rfl rfl rfl (same_is _ _ (Nat.le_trans (join_len _ _ _ _ _) ha) (v := true) (by rw [cmpV_refl]; rfl))) (by dsimp only [putD, List.set]) ?_
      refine at_op (some 188) rfl rfl rfl rfl (op_un rfl rfl) (by dsimp only [putD, List.set]) ?_
      refine at_pk false 184 188 189 rfl rfl rfl rfl rfl rfl rfl (by dsimp only [List.set]) ?_
      refine at_mv 189 190 rfl rfl rfl (.inl rfl) rfl (by dsimp only [List.set]) ?_
      refine at_mv 17 191 rfl rfl rfl (.inl rfl) rfl (by dsimp only [List.set]) ?_
      refine at_mv 19 192 rfl rfl rfl (.inl rfl) rfl (by dsimp only [List.set]) ?_
      refine at_op (some 193) rfl rfl rfl rfl (op_call0 rfl rfl rfl rfl (same_is _ _ (Nat.le_trans (join_len _ _ _ _ _) ha) (v := true) (by rw [cmpV_refl]; rfl))) (by dsimp only [putD, List.set]) ?_
      refine at_op (some 194) rfl rfl rfl rfl (op_un rfl rfl) (by dsimp only [putD, List.set]) ?_
      refine at_pk false 190 194 195 rfl rfl rfl rfl rfl rfl rfl (by dsimp only [List.set]) ?_
      refine at_end rfl ?_
      refine at_false [1, 1, 1, 1, 0, 1, 0, 0, 1, 1, 0, 0, 1, 1, 1, 1, 1, 1, 1, 1, 1, 1, 1, 1, 1, 0] [1, 1, 1, 1, 0, 1, 0, 0, 1, 1, 0, 0, 1, 1, 1, 1, 1, 1, 1, 1, 1, 1, 1, 1, 1, 1] rfl rfl ?_
      refine at_skip rfl ?_
      refine run_blk ?_
      refine at_region rfl ?_
      refine at_op (some 196) rfl rfl rfl rfl (op_binI rfl rfl) (by dsimp only [putD, List.set]) ?_
      refine at_mv 196 70 rfl rfl rfl (.inl rfl) rfl (by dsimp only [List.set]) ?_
      refine at_end rfl ?_
      rw [wrap_succ (by omega)]
      exact run_wk (.drop (.drop (.drop (.drop (.drop (.drop (.keep (.drop (.drop (.drop (.drop (.drop (.drop (.drop (.drop (.drop (.drop (.drop (.drop (.drop (.drop (.drop (.drop (.drop (.drop (.drop (.drop (.drop (.drop (.drop (.drop (.drop (.drop (.drop (.drop (.drop (.drop (.drop (.drop (.drop (.drop (.drop (.drop (.drop (.drop (.drop (.drop (.drop (.drop (.drop (.drop (.drop (.drop (.drop (.drop (.drop (.drop (.drop (.drop (.drop (.drop (.drop (.drop (.drop (.drop (.drop (.drop (.drop (.keep (.keep (.keep (.drop (.drop (.drop (.drop (.drop (.drop (.drop (.drop (.drop (.drop (.drop (.drop (.drop (.drop (.drop (.drop (.drop (.drop (.drop (.drop (.drop (.drop (.drop (.drop (.drop (.drop (.drop (.drop (.drop (.drop (.drop (.drop (.drop (.drop (.drop (.drop (.drop (.drop (.drop (.drop (.drop (.drop (.drop (.drop (.drop (.drop (.drop (.drop (.drop (.drop (.drop (.drop (.drop (.drop (.drop (.drop (.drop (.drop (.drop (.drop (.drop (.drop (.drop (.drop (.drop (.drop (.drop (.drop (.drop (.drop (.drop (.drop (.drop (.drop (.drop (.drop (.drop (.drop (.drop (.drop (.drop (.drop (.drop (.drop (.drop (.drop (.drop (.drop (.drop (.drop (.drop (.drop (.drop (.drop (.drop (.drop (.drop (.drop (.drop (.drop (.drop (.drop (.drop (.drop (.drop (.drop (.drop (.drop (.drop (.drop (.drop (.drop (.drop (.drop (.drop (.drop (.drop (.drop (.drop (.drop (.drop (.drop (.drop (.drop (.drop (.drop .nil))))))))))))))))))))))))))))))))))))))))))))))))))))))))))))))))))))))))))))))))))))))))))))))))))))))))))))))))))))))))))))))))))))))))))))))))))))))))))))))))))))))))))))))))))))))))))))))))))))) (ih _ (by omega) (i + 1) _ rfl)
    · skip
      refine at_exit rfl rfl ?_
      refine at_seq [1, 1, 1, 1, 1, 0] [1, 1, 1, 1, 1, 1] rfl ?_
      refine at_region rfl ?_
      refine at_mc 6 rfl rfl rfl (.inr rfl) (by dsimp only [constD]) (by dsimp only [List.set]) ?_
      refine at_end rfl ?_
      refine at_ret rfl (ret_one (t := 6) rfl rfl ?_ rfl)
      rfl

set_option maxRecDepth 20000 in
theorem exact_spec (l a b : List Int) : FSpec PP 9 [dl l, dl a, dl b] σ0 (db true) σ0 := by
  refine spec_at cExact Try.func9 rfl (by kernel_rfl) (by first | decide | simp) _ (by dsimp only [Try.f9, List.length, Nat.reduceAdd, Nat.reduceSub, List.replicate, List.cons_append, List.nil_append]) ?_
  refine at_seq [0] [1] rfl ?_
  refine at_region rfl ?_
  refine at_mc 6 rfl rfl rfl (.inr rfl) (by dsimp only [constD]) (by dsimp only [List.set]) ?_
  refine at_end rfl ?_
  refine at_seq [1, 0] [1, 1] rfl ?_
  refine at_seq [1, 0, 0] [1, 0, 1] rfl ?_
  refine at_region rfl ?_
  refine at_op (some 21) rfl rfl rfl rfl (op_call0 rfl rfl rfl rfl (awake_spec)) (by dsimp only [putD, List.set]) ?_
  refine at_op (some 22) rfl rfl rfl rfl (op_un rfl rfl) (by dsimp only [putD, List.set]) ?_
  refine at_mv 22 23 rfl rfl rfl (.inl rfl) rfl (by dsimp only [List.set]) ?_
  refine at_mv 0 24 rfl rfl rfl (.inl rfl) rfl (by dsimp only [List.set]) ?_
  refine at_op (some 25) rfl rfl rfl rfl (op_call0 rfl rfl rfl rfl (few_spec l)) (by dsimp only [putD, List.set]) ?_
  refine at_op (some 26) rfl rfl rfl rfl (op_un rfl rfl) (by dsimp only [putD, List.set]) ?_
  refine at_pk false 23 26 27 rfl rfl rfl rfl rfl rfl rfl (by dsimp only [List.set]) ?_
  refine at_mv 27 28 rfl rfl rfl (.inl rfl) rfl (by dsimp only [List.set]) ?_
  refine at_split 28 rfl (fun hb1 env' he => ?_) (fun hb1 env' he => ?_)
  · dsimp only [List.set] at he; subst he
    refine at_opN (some 29) rfl rfl rfl (by dsimp only [putD, List.set]) ?_
    refine at_opN (some 30) rfl rfl rfl (by dsimp only [putD, List.set]) ?_
    refine at_opN (some 31) rfl rfl rfl (by dsimp only [putD, List.set]) ?_
    refine at_pkc true 28 32 rfl rfl rfl rfl rfl rfl (by dsimp only [constD]) (by dsimp only [List.set]) ?_
    refine at_mv 32 33 rfl rfl rfl (.inl rfl) rfl (by dsimp only [List.set]) ?_
    refine at_opN (some 34) rfl rfl rfl (by dsimp only [putD, List.set]) ?_
    refine at_opN (some 35) rfl rfl rfl (by dsimp only [putD, List.set]) ?_
    refine at_opN (some 36) rfl rfl rfl (by dsimp only [putD, List.set]) ?_
    refine at_pkc true 33 37 rfl rfl rfl rfl rfl rfl (by dsimp only [constD]) (by dsimp only [List.set]) ?_
    refine at_end rfl ?_
    refine at_true [1, 0, 1, 0] [1, 0, 1, 1] rfl rfl ?_
    refine at_seq [1, 0, 1, 0, 0] [1, 0, 1, 0, 1] rfl ?_
    refine at_region rfl ?_
    refine at_op (some 38) rfl rfl rfl rfl (op_call0 rfl rfl rfl rfl (awake_spec)) (by dsimp only [putD, List.set]) ?_
    refine at_mv 38 6 rfl rfl rfl (.inr rfl) rfl (by dsimp only [List.set]) ?_
    refine at_end rfl ?_
    refine at_ret rfl (ret_one (t := 6) rfl rfl ?_ rfl)
    first | rfl | (simp_all; done)
  · dsimp only [List.set] at he; subst he
    refine at_mv 1 29 rfl rfl rfl (.inl rfl) rfl (by dsimp only [List.set]) ?_
    first | (refine at_op (some 30) rfl rfl rfl rfl (op_lenL rfl uInts) (by dsimp only [putD, List.set]) ?_) | (refine at_op (some 30) rfl rfl rfl rfl (opOK_un (op_lenL rfl uInts)) (by dsimp only [putD, List.set]) ?_) | (refine at_op (some 30) rfl rfl rfl rfl (op_lenA rfl uInts) (by dsimp only [putD, List.set]) ?_)
    refine at_op (some 31) rfl rfl rfl rfl (op_binI rfl rfl) (by dsimp only [putD, List.set]) ?_
    refine at_pk false 28 31 32 rfl rfl rfl rfl rfl rfl rfl (by dsimp only [List.set]) ?_
    refine at_mv 32 33 rfl rfl rfl (.inl rfl) rfl (by dsimp only [List.set]) ?_
    refine at_split 33 rfl (fun hb2 env' he => ?_) (fun hb2 env' he => ?_)
    · dsimp only [List.set] at he; subst he
      refine at_opN (some 34) rfl rfl rfl (by dsimp only [putD, List.set]) ?_
      refine at_opN (some 35) rfl rfl rfl (by dsimp only [putD, List.set]) ?_
      refine at_opN (some 36) rfl rfl rfl (by dsimp only [putD, List.set]) ?_
      refine at_pkc true 33 37 rfl rfl rfl rfl rfl rfl (by dsimp only [constD]) (by dsimp only [List.set]) ?_
      refine at_end rfl ?_
      refine at_true [1, 0, 1, 0] [1, 0, 1, 1] rfl rfl ?_
      refine at_seq [1, 0, 1, 0, 0] [1, 0, 1, 0, 1] rfl ?_
      refine at_region rfl ?_
      refine at_op (some 38) rfl rfl rfl rfl (op_call0 rfl rfl rfl rfl (awake_spec)) (by dsimp only [putD, List.set]) ?_
      refine at_mv 38 6 rfl rfl rfl (.inr rfl) rfl (by dsimp only [List.set]) ?_
      refine at_end rfl ?_
      refine at_ret rfl (ret_one (t := 6) rfl rfl ?_ rfl)
      first | rfl | (simp_all; done)
    · dsimp only [List.set] at he; subst he
      refine at_mv 2 34 rfl rfl rfl (.inl rfl) rfl (by dsimp only [List.set]) ?_
      first | (refine at_op (some 35) rfl rfl rfl rfl (op_lenL rfl uInts) (by dsimp only [putD, List.set]) ?_) | (refine at_op (some 35) rfl rfl rfl rfl (opOK_un (op_lenL rfl uInts)) (by dsimp only [putD, List.set]) ?_) | (refine at_op (some 35) rfl rfl rfl rfl (op_lenA rfl uInts) (by dsimp only [putD, List.set]) ?_)
      refine at_op (some 36) rfl rfl rfl rfl (op_binI rfl rfl) (by dsimp only [putD, List.set]) ?_
      refine at_pk false 33 36 37 rfl rfl rfl rfl rfl rfl rfl (by dsimp only [List.set]) ?_
      refine at_end rfl ?_
      refine at_cond [1, 0, 1, 0] [1, 0, 1, 1] rfl rfl (fun hc3 => ?_) (fun hc3 => ?_)
      · skip
        refine at_seq [1, 0, 1, 0, 0] [1, 0, 1, 0, 1] rfl ?_
        refine at_region rfl ?_
        refine at_op (some 38) rfl rfl rfl rfl (op_call0 rfl rfl rfl rfl (awake_spec)) (by dsimp only [putD, List.set]) ?_
        refine at_mv 38 6 rfl rfl rfl (.inr rfl) rfl (by dsimp only [List.set]) ?_
        refine at_end rfl ?_
        refine at_ret rfl (ret_one (t := 6) rfl rfl ?_ rfl)
        first | rfl | (simp_all; done)
      · skip
        have hs : l.length ≤ 1000000 := by simp_all; omega
        have ha : a.length ≤ 40 := by simp_all; omega
        have hb : b.length ≤ 40 := by simp_all; omega
        refine at_skip rfl ?_
        refine at_seq [1, 1, 0] [1, 1, 1] rfl ?_
        refine at_region rfl ?_
        refine at_mv 0 39 rfl rfl rfl (.inl rfl) rfl (by dsimp only [List.set]) ?_
        refine at_opS (some 40) rfl rfl rfl rfl (op_call0_new rfl rfl rfl rfl (new_spec l)) (by dsimp only [putD, List.set]) (by dsimp only [List.set, List.append, List.cons_append, List.nil_append, cellsD, List.map, repl, List.length, Nat.reduceAdd, if_true, ↓reduceIte]; first | done | rfl) ?_
        refine at_mv 40 7 rfl rfl rfl (.inr rfl) rfl (by dsimp only [List.set]) ?_
        refine at_end rfl ?_
        refine at_seq [1, 1, 1, 0] [1, 1, 1, 1] rfl ?_
        refine at_region rfl ?_
        refine at_mv 7 41 rfl rfl rfl (.inl rfl) rfl (by dsimp only [List.set]) ?_
        refine at_opS (some 42) rfl rfl rfl rfl (op_call1 rfl rfl rfl rfl rfl (.ptr (.pl rfl .nil)) rfl (next_spec l _ _ hs _ (by omega))) (by dsimp only [putD, List.set]) (by dsimp only [List.set, List.append, List.cons_append, List.nil_append, cellsD, List.map, repl, List.length, Nat.reduceAdd, if_true, ↓reduceIte]; first | done | rfl) ?_
        obtain ⟨n, hn⟩ := Int.eq_ofNat_of_zero_le (nextV_range (n := 7) (s := dkSt l 0 11400714819323198485) (by omega)).1
        have h6n : n ≤ 6 := by have := (nextV_range (n := 7) (s := dkSt l 0 11400714819323198485) (by omega)).2; omega
        rw [hn]
        refine at_mv 42 8 rfl rfl rfl (.inr rfl) rfl (by dsimp only [List.set]) ?_
        refine at_end rfl ?_
        refine at_seq [1, 1, 1, 1, 0] [1, 1, 1, 1, 1] rfl ?_
        refine at_seq [1, 1, 1, 1, 0, 0] [1, 1, 1, 1, 0, 1] rfl ?_
        refine at_region rfl ?_
        refine at_mv 1 43 rfl rfl rfl (.inl rfl) rfl (by dsimp only [List.set]) ?_
        refine at_mv 2 44 rfl rfl rfl (.inl rfl) rfl (by dsimp only [List.set]) ?_
        refine at_op (some 45) rfl rfl rfl rfl (op_build rfl bldPair rfl rfl) (by dsimp only [putD, List.set]) ?_
        refine at_mv 7 46 rfl rfl rfl (.inl rfl) rfl (by dsimp only [List.set]) ?_
        refine at_mv 8 47 rfl rfl rfl (.inl rfl) rfl (by dsimp only [List.set]) ?_
        refine at_opS (some 48) rfl rfl rfl rfl (op_call1 rfl rfl rfl rfl rfl (.ptr (.pl rfl (.pl rfl .nil))) rfl (vectorU_spec l hs _ _ (by omega) _ _)) (by dsimp only [putD, List.set]) (by dsimp only [List.set, List.append, List.cons_append, List.nil_append, cellsD, List.map, repl, List.length, Nat.reduceAdd, if_true, ↓reduceIte]; first | done | rfl) ?_
        refine at_mv 7 49 rfl rfl rfl (.inl rfl) rfl (by dsimp only [List.set]) ?_
        refine at_mv 8 50 rfl rfl rfl (.inl rfl) rfl (by dsimp only [List.set]) ?_
        refine at_opS (some 51) rfl rfl rfl rfl (op_call1 rfl rfl rfl rfl rfl (.ptr (.pl rfl (.pl rfl .nil))) rfl (vectorU_spec l hs _ _ (by omega) _ _)) (by dsimp only [putD, List.set]) (by dsimp only [List.set, List.append, List.cons_append, List.nil_append, cellsD, List.map, repl, List.length, Nat.reduceAdd, if_true, ↓reduceIte]; first | done | rfl) ?_
        refine at_op (some 52) rfl rfl rfl rfl (op_build rfl bldPair rfl rfl) (by dsimp only [putD, List.set]) ?_
        refine at_mv 7 53 rfl rfl rfl (.inl rfl) rfl (by dsimp only [List.set]) ?_
        refine at_mv 8 54 rfl rfl rfl (.inl rfl) rfl (by dsimp only [List.set]) ?_
        refine at_opS (some 55) rfl rfl rfl rfl (op_call1 rfl rfl rfl rfl rfl (.ptr (.pl rfl (.pl rfl .nil))) rfl (vectorU_spec l hs _ _ (by omega) _ _)) (by dsimp only [putD, List.set]) (by dsimp only [List.set, List.append, List.cons_append, List.nil_append, cellsD, List.map, repl, List.length, Nat.reduceAdd, if_true, ↓reduceIte]; first | done | rfl) ?_
        refine at_mv 7 56 rfl rfl rfl (.inl rfl) rfl (by dsimp only [List.set]) ?_
        refine at_mv 8 57 rfl rfl rfl (.inl rfl) rfl (by dsimp only [List.set]) ?_
        refine at_opS (some 58) rfl rfl rfl rfl (op_call1 rfl rfl rfl rfl rfl (.ptr (.pl rfl (.pl rfl .nil))) rfl (vectorU_spec l hs _ _ (by omega) _ _)) (by dsimp only [putD, List.set]) (by dsimp only [List.set, List.append, List.cons_append, List.nil_append, cellsD, List.map, repl, List.length, Nat.reduceAdd, if_true, ↓reduceIte]; first | done | rfl) ?_
        refine at_op (some 59) rfl rfl rfl rfl (op_build rfl bldPair rfl rfl) (by dsimp only [putD, List.set]) ?_
        refine at_mv 1 60 rfl rfl rfl (.inl rfl) rfl (by dsimp only [List.set]) ?_
        refine at_mv 1 61 rfl rfl rfl (.inl rfl) rfl (by dsimp only [List.set]) ?_
        refine at_op (some 62) rfl rfl rfl rfl (op_build rfl bldPair rfl rfl) (by dsimp only [putD, List.set]) ?_
        refine at_mv 7 63 rfl rfl rfl (.inl rfl) rfl (by dsimp only [List.set]) ?_
        refine at_mv 8 64 rfl rfl rfl (.inl rfl) rfl (by dsimp only [List.set]) ?_
        refine at_opS (some 65) rfl rfl rfl rfl (op_call1 rfl rfl rfl rfl rfl (.ptr (.pl rfl (.pl rfl .nil))) rfl (vectorU_spec l hs _ _ (by omega) _ _)) (by dsimp only [putD, List.set]) (by dsimp only [List.set, List.append, List.cons_append, List.nil_append, cellsD, List.map, repl, List.length, Nat.reduceAdd, if_true, ↓reduceIte]; first | done | rfl) ?_
        refine at_mv 2 66 rfl rfl rfl (.inl rfl) rfl (by dsimp only [List.set]) ?_
        refine at_op (some 67) rfl rfl rfl rfl (op_build rfl bldPair rfl rfl) (by dsimp only [putD, List.set]) ?_
        obtain ⟨A, hA⟩ : ∃ A, vecM l true n (dkAt l 0, dkSt l 0 11400714819323198485) = A := ⟨_, rfl⟩
        rw [hA]
        have lA : A.1.length = n := by rw [← hA]; exact (vecM_ok _ _ _ _).1
        obtain ⟨B, hB⟩ : ∃ B, vecM l false n (A.2.1, A.2.2) = B := ⟨_, rfl⟩
        rw [hB]
        have lB : B.1.length = n := by rw [← hB]; exact (vecM_ok _ _ _ _).1
        obtain ⟨C, hC⟩ : ∃ C, vecM l false n (B.2.1, B.2.2) = C := ⟨_, rfl⟩
        rw [hC]
        have lC : C.1.length = n := by rw [← hC]; exact (vecM_ok _ _ _ _).1
        obtain ⟨E, hE⟩ : ∃ E, vecM l true n (C.2.1, C.2.2) = E := ⟨_, rfl⟩
        rw [hE]
        have lE : E.1.length = n := by rw [← hE]; exact (vecM_ok _ _ _ _).1
        obtain ⟨G, hG⟩ : ∃ G, vecM l true n (E.2.1, E.2.2) = G := ⟨_, rfl⟩
        rw [hG]
        have lG : G.1.length = n := by rw [← hG]; exact (vecM_ok _ _ _ _).1
        refine at_op (some 68) rfl rfl rfl rfl (op_buildSlice rfl (by rfl) (by rfl) slPair rfl rfl (by simp [V.size, V.cellsV]) (by decide) (by decide) (by decide)) (by dsimp only [putD, List.set]) ?_
        first | (refine at_op (some 69) rfl rfl rfl rfl (op_lenL rfl uPairs) (by dsimp only [putD, List.set]) ?_) | (refine at_op (some 69) rfl rfl rfl rfl (opOK_un (op_lenL rfl uPairs)) (by dsimp only [putD, List.set]) ?_) | (refine at_op (some 69) rfl rfl rfl rfl (op_lenA rfl uPairs) (by dsimp only [putD, List.set]) ?_)
        refine at_mc 70 rfl rfl rfl (.inl rfl) (by dsimp only [constD]) (by dsimp only [List.set]) ?_
        refine at_end rfl ?_
        refine at_block [1, 1, 1, 1, 0, 1, 0] 0 rfl ?_
        refine at_loop [1, 1, 1, 1, 0, 1, 0, 0] rfl ?_
        try simp only [List.length_map, List.length_nil, Int.toNat_natCast]
        exact run_wk (.drop (.drop (.drop (.drop (.drop (.drop (.keep (.drop (.drop (.drop (.drop (.drop (.drop (.drop (.drop (.drop (.drop (.drop (.drop (.drop (.drop (.drop (.drop (.drop (.drop (.drop (.drop (.drop (.drop (.drop (.drop (.drop (.drop (.drop (.drop (.drop (.drop (.drop (.drop (.drop (.drop (.drop (.drop (.drop (.drop (.drop (.drop (.drop (.drop (.drop (.drop (.drop (.drop (.drop (.drop (.drop (.drop (.drop (.drop (.drop (.drop (.drop (.drop (.drop (.drop (.drop (.drop (.drop (.keep (.keep (.keep (.drop (.drop (.drop (.drop (.drop (.drop (.drop (.drop (.drop (.drop (.drop (.drop (.drop (.drop (.drop (.drop (.drop (.drop (.drop (.drop (.drop (.drop (.drop (.drop (.drop (.drop (.drop (.drop (.drop (.drop (.drop (.drop (.drop (.drop (.drop (.drop (.drop (.drop (.drop (.drop (.drop (.drop (.drop (.drop (.drop (.drop (.drop (.drop (.drop (.drop (.drop (.drop (.drop (.drop (.drop (.drop (.drop (.drop (.drop (.drop (.drop (.drop (.drop (.drop (.drop (.drop (.drop (.drop (.drop (.drop (.drop (.drop (.drop (.drop (.drop (.drop (.drop (.drop (.drop (.drop (.drop (.drop (.drop (.drop (.drop (.drop (.drop (.drop (.drop (.drop (.drop (.drop (.drop (.drop (.drop (.drop (.drop (.drop (.drop (.drop (.drop (.drop (.drop (.drop (.drop (.drop (.drop (.drop (.drop (.drop (.drop (.drop (.drop (.drop (.drop (.drop (.drop (.drop (.drop (.drop (.drop (.drop (.drop (.drop (.drop (.drop .nil))))))))))))))))))))))))))))))))))))))))))))))))))))))))))))))))))))))))))))))))))))))))))))))))))))))))))))))))))))))))))))))))))))))))))))))))))))))))))))))))))))))))))))))))))))))))))))))))))))) (exact_loop [(a, b), (A.1, B.1), (C.1, E.1), (a, a), (G.1, b)] (by simp) (by intro p hp; simp only [List.mem_cons, List.not_mem_nil, or_false] at hp; rcases hp with rfl | rfl | rfl | rfl | rfl <;> exact ⟨by dsimp only; omega, by dsimp only; omega⟩) _ 0 _ rfl)

end Go.Proofs.Ytoofgniepbidnaa
