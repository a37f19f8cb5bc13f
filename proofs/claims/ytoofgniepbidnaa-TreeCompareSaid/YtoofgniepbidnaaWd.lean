/-
  The deck deals vectors.
-/
import Derived.Test.YtoofgniepbidnaaWc
namespace Go.Proofs.Ytoofgniepbidnaa
open Go.Dv

theorem map_snoc (acc : List Int) (x : Int) : (acc ++ [x]).map vi = acc.map vi ++ [vi x] := by simp
def dn (l : List Int) (s : Nat × Int) : Nat × Int := (dkAt l s.1, dkSt l s.1 s.2)
def vecEl (l : List Int) (om : Bool) (s : Nat × Int) : Int × (Nat × Int) :=
  if om then (if nextV 25 (dn l (dn l (dn l s))).2 == 0 then 1048576 else if nextV 5 (dn l (dn l s)).2 == 0 then 1099511627776 else nextV 5 (dn l s).2, dn l (dn l (dn l s)))
  else (if nextV 25 (dn l (dn l s)).2 == 0 then 1048576 else nextV 5 (dn l s).2, dn l (dn l s))
def vecM (l : List Int) (om : Bool) : Nat → Nat × Int → List Int × (Nat × Int)
  | 0, s => ([], s)
  | n + 1, s => ((vecEl l om s).1 :: (vecM l om n (vecEl l om s).2).1, (vecM l om n (vecEl l om s).2).2)
theorem vecEl_ok (l : List Int) (om : Bool) (s : Nat × Int) : isEl (vecEl l om s).1 = true ∧ (om = false → isNum (vecEl l om s).1 = true) := by
  have h5 := fun s => nextV_range (n := 5) (s := s) (by omega)
  have hn : ∀ s, isNum (nextV 5 s) = true := fun s => by have := h5 s; simp [isNum]; omega
  unfold vecEl
  cases om
  · simp only [Bool.false_eq_true, if_false]
    constructor
    · split
      · decide
      · simp [isEl, hn]
    · intro _
      split
      · decide
      · exact hn _
  · simp only [if_true]
    constructor
    · split
      · decide
      · split
        · decide
        · simp [isEl, hn]
    · simp
theorem vecM_ok (l : List Int) (om : Bool) : ∀ (n : Nat) (s : Nat × Int), (vecM l om n s).1.length = n ∧ (vecM l om n s).1.all isEl = true ∧ (om = false → (vecM l om n s).1.all isNum = true)
  | 0, s => by simp [vecM]
  | n + 1, s => by
    obtain ⟨h1, h2, h3⟩ := vecM_ok l om n (vecEl l om s).2
    obtain ⟨h4, h5⟩ := vecEl_ok l om s
    refine ⟨by simp [vecM, h1], by simp only [vecM, List.all_cons, h4, h2]; rfl, fun h => by simp only [vecM, List.all_cons, h5 h, h3 h]; rfl⟩
theorem vecM_valid {l : List Int} {om : Bool} {n : Nat} {s : Nat × Int} (h : n ≤ 6) : valid (vecM l om n s).1 = true := by
  obtain ⟨h1, h2, _⟩ := vecM_ok l om n s
  simp [valid, h1, h]; simpa using h2

def smM (l : List Int) (mo : Int) : Nat → Nat × Int → List Int × (Nat × Int)
  | 0, s => ([], s)
  | n + 1, s => (nextV (mo + 1) (dn l s).2 :: (smM l mo n (dn l s)).1, (smM l mo n (dn l s)).2)
theorem smM_ok (l : List Int) (mo : Int) (hm : 0 ≤ mo) : ∀ (n : Nat) (s : Nat × Int), (smM l mo n s).1.length = n ∧ ∀ x ∈ (smM l mo n s).1, 0 ≤ x ∧ x ≤ mo
  | 0, s => by simp [smM]
  | n + 1, s => by
    obtain ⟨h1, h2⟩ := smM_ok l mo hm n (dn l s)
    refine ⟨by simp [smM, h1], fun x hx => ?_⟩
    simp only [smM, List.mem_cons] at hx
    rcases hx with rfl | hx
    · have := nextV_range (n := mo + 1) (s := (dn l s).2) (by omega); omega
    · exact h2 x hx

noncomputable def cVector : Code := Try.f17.body.getD .skip
set_option maxRecDepth 20000 in
theorem vector_loop (l : List Int) (hs : l.length ≤ 1000000) (om : Bool) (n : Nat) (hn : n ≤ 1000) (T : List Int × (Nat × Int)) (m : Nat) : ∀ (i : Nat) (acc : List Int) (at' : Nat) (st : Int), n - i = m → i ≤ n → acc.length = i → acc ++ (vecM l om (n - i) (at', st)).1 = T.1 → (vecM l om (n - i) (at', st)).2 = T.2 → Run PP (fun env σ1 => ResOK PP Try.f17 env σ1 (.acc 1 (T.1.map vi)) ⟨[some (dk l T.2.1 T.2.2)], [(1, 1, T.1.map vi)]⟩) [.lp (sub cVector [1, 1, 0, 1, 0, 0]), .blk 0, .code (sub cVector [1, 1, 1])] ((.ptr 0 0) :: (di ↑n) :: (db om) :: .undef :: .undef :: .undef :: (.v (.list [])) :: (.acc 1 (acc.map vi)) :: (di ↑i) :: .undef :: .undef :: .undef :: .undef :: .undef :: .undef :: .undef :: .undef :: .undef :: .undef :: .undef :: .undef :: .undef :: .undef :: .undef :: .undef :: .undef :: .undef :: .undef :: .undef :: []) ⟨[some (dk l at' st)], [(1, 1, acc.map vi)]⟩ := by
  induction m using Nat.strongRecOn with
  | _ m ih =>
    intro i acc at' st hm hi ha h1 h2
    refine run_lp ?_
    refine at_seq [1, 1, 0, 1, 0, 0, 0] [1, 1, 0, 1, 0, 0, 1] rfl ?_
    refine at_seq [1, 1, 0, 1, 0, 0, 0, 0] [1, 1, 0, 1, 0, 0, 0, 1] rfl ?_
    refine at_region rfl ?_
    refine at_mv 8 10 rfl rfl rfl (.inl rfl) rfl (by dsimp only [List.set]) ?_
    refine at_mv 1 11 rfl rfl rfl (.inl rfl) rfl (by dsimp only [List.set]) ?_
    refine at_op (some 12) rfl rfl rfl rfl (op_binI rfl rfl) (by dsimp only [putD, List.set]) ?_
    refine at_end rfl ?_
    refine at_cond [1, 1, 0, 1, 0, 0, 0, 1, 0] [1, 1, 0, 1, 0, 0, 0, 1, 1] rfl rfl (fun hc1 => ?_) (fun hc1 => ?_)
    · skip
      have hlt : i < n := by simpa using hc1
      obtain ⟨k, hk⟩ : ∃ k, n - i = k + 1 := ⟨n - i - 1, by omega⟩
      have hk' : n - (i + 1) = k := by omega
      rw [hk] at h1 h2
      refine at_skip rfl ?_
      refine at_seq [1, 1, 0, 1, 0, 0, 1, 0] [1, 1, 0, 1, 0, 0, 1, 1] rfl ?_
      refine at_block [1, 1, 0, 1, 0, 0, 1, 0, 0] 1 rfl ?_
      refine at_seq [1, 1, 0, 1, 0, 0, 1, 0, 0, 0] [1, 1, 0, 1, 0, 0, 1, 0, 0, 1] rfl ?_
      refine at_region rfl ?_
      refine at_mv 0 15 rfl rfl rfl (.inl rfl) rfl (by dsimp only [List.set]) ?_
      refine at_opS (some 16) rfl rfl rfl rfl (op_call1 rfl rfl rfl rfl rfl (.ptr (.pl rfl .nil)) rfl (next_spec l _ _ hs _ (by omega))) (by dsimp only [putD, List.set]) (by dsimp only [List.set, List.append, List.cons_append, List.nil_append, cellsD, List.map, repl, List.length, Nat.reduceAdd, if_true, ↓reduceIte]; first | done | rfl) ?_
      refine at_mv 16 9 rfl rfl rfl (.inr rfl) rfl (by dsimp only [List.set]) ?_
      refine at_end rfl ?_
      refine at_seq [1, 1, 0, 1, 0, 0, 1, 0, 0, 1, 0] [1, 1, 0, 1, 0, 0, 1, 0, 0, 1, 1] rfl ?_
      refine at_seq [1, 1, 0, 1, 0, 0, 1, 0, 0, 1, 0, 0] [1, 1, 0, 1, 0, 0, 1, 0, 0, 1, 0, 1] rfl ?_
      refine at_region rfl ?_
      refine at_mv 2 17 rfl rfl rfl (.inl rfl) rfl (by dsimp only [List.set]) ?_
      refine at_mv 17 18 rfl rfl rfl (.inl rfl) rfl (by dsimp only [List.set]) ?_
      refine at_split 18 rfl (fun hb2 env' he => ?_) (fun hb2 env' he => ?_)
      · dsimp only [List.set] at he; subst he
        refine at_mv 0 19 rfl rfl rfl (.inl rfl) rfl (by dsimp only [List.set]) ?_
        refine at_opS (some 20) rfl rfl rfl rfl (op_call1 rfl rfl rfl rfl rfl (.ptr (.pl rfl .nil)) rfl (one_spec l _ _ hs _ (by omega))) (by dsimp only [putD, List.set]) (by dsimp only [List.set, List.append, List.cons_append, List.nil_append, cellsD, List.map, repl, List.length, Nat.reduceAdd, if_true, ↓reduceIte]; first | done | rfl) ?_
        refine at_pk true 18 20 21 rfl rfl rfl rfl rfl rfl rfl (by dsimp only [List.set]) ?_
        refine at_end rfl ?_
        refine at_cond [1, 1, 0, 1, 0, 0, 1, 0, 0, 1, 0, 1, 0] [1, 1, 0, 1, 0, 0, 1, 0, 0, 1, 0, 1, 1] rfl rfl (fun hc3 => ?_) (fun hc3 => ?_)
        · skip
          refine at_region rfl ?_
          refine at_mc 9 rfl rfl rfl (.inr rfl) (by dsimp only [constD]) (by dsimp only [List.set]) ?_
          refine at_end rfl ?_
          refine at_seq [1, 1, 0, 1, 0, 0, 1, 0, 0, 1, 1, 0] [1, 1, 0, 1, 0, 0, 1, 0, 0, 1, 1, 1] rfl ?_
          refine at_seq [1, 1, 0, 1, 0, 0, 1, 0, 0, 1, 1, 0, 0] [1, 1, 0, 1, 0, 0, 1, 0, 0, 1, 1, 0, 1] rfl ?_
          refine at_region rfl ?_
          refine at_mv 0 22 rfl rfl rfl (.inl rfl) rfl (by dsimp only [List.set]) ?_
          refine at_opS (some 23) rfl rfl rfl rfl (op_call1 rfl rfl rfl rfl rfl (.ptr (.pl rfl .nil)) rfl (one_spec l _ _ hs _ (by omega))) (by dsimp only [putD, List.set]) (by dsimp only [List.set, List.append, List.cons_append, List.nil_append, cellsD, List.map, repl, List.length, Nat.reduceAdd, if_true, ↓reduceIte]; first | done | rfl) ?_
          refine at_end rfl ?_
          refine at_cond [1, 1, 0, 1, 0, 0, 1, 0, 0, 1, 1, 0, 1, 0] [1, 1, 0, 1, 0, 0, 1, 0, 0, 1, 1, 0, 1, 1] rfl rfl (fun hc4 => ?_) (fun hc4 => ?_)
          · skip
            refine at_region rfl ?_
            refine at_mc 9 rfl rfl rfl (.inr rfl) (by dsimp only [constD]) (by dsimp only [List.set]) ?_
            refine at_end rfl ?_
            refine at_region rfl ?_
            refine at_mv 7 24 rfl rfl rfl (.inl rfl) rfl (by dsimp only [List.set]) ?_
            refine at_mv 9 25 rfl rfl rfl (.inl rfl) rfl (by dsimp only [List.set]) ?_
            refine at_op (some 26) rfl rfl rfl rfl (op_buildSlice rfl (by rfl) (by rfl) slInt rfl rfl (by simp [V.size]) (by decide) (by decide) (by decide)) (by dsimp only [putD, List.set]) ?_
            refine at_opS (some 27) rfl rfl rfl rfl (op_append rfl slInt rfl (by simp) (by simp [V.size]) (by first | omega | (simp; omega) | (simp; done) | assumption) (by first | omega | (simp; omega) | (simp; done) | assumption)) (by dsimp only [putD, List.set]) (by dsimp only [List.set, List.append, List.cons_append, List.nil_append, cellsD, List.map, repl, List.length, Nat.reduceAdd, if_true, ↓reduceIte]; first | done | rfl) ?_
            refine at_mv 27 7 rfl rfl rfl (.inr rfl) rfl (by dsimp only [List.set]) ?_
            refine at_end rfl ?_
            refine run_blk ?_
            refine at_region rfl ?_
            refine at_mv 8 13 rfl rfl rfl (.inl rfl) rfl (by dsimp only [List.set]) ?_
            refine at_op (some 14) rfl rfl rfl rfl (op_binI rfl rfl) (by dsimp only [putD, List.set]) ?_
            refine at_mv 14 8 rfl rfl rfl (.inr rfl) rfl (by dsimp only [List.set]) ?_
            refine at_end rfl ?_
            rw [wrap_succ (by omega)]
            rw [← map_snoc]
            exact run_wk (.keep (.keep (.keep (.drop (.drop (.drop (.keep (.keep (.keep (.drop (.drop (.drop (.drop (.drop (.drop (.drop (.drop (.drop (.drop (.drop (.drop (.drop (.drop (.drop (.drop (.drop (.drop (.drop (.drop .nil))))))))))))))))))))))))))))) (ih _ (by omega) (i + 1) _ _ _ rfl (by omega) (by simp [ha]) (by rw [hk']; first | (simpa [vecM, vecEl, smM, dn, *] using h1)) (by rw [hk']; first | (simpa [vecM, vecEl, smM, dn, *] using h2)))
          · skip
            refine at_skip rfl ?_
            refine at_region rfl ?_
            refine at_mv 7 24 rfl rfl rfl (.inl rfl) rfl (by dsimp only [List.set]) ?_
            refine at_mv 9 25 rfl rfl rfl (.inl rfl) rfl (by dsimp only [List.set]) ?_
            refine at_op (some 26) rfl rfl rfl rfl (op_buildSlice rfl (by rfl) (by rfl) slInt rfl rfl (by simp [V.size]) (by decide) (by decide) (by decide)) (by dsimp only [putD, List.set]) ?_
            refine at_opS (some 27) rfl rfl rfl rfl (op_append rfl slInt rfl (by simp) (by simp [V.size]) (by first | omega | (simp; omega) | (simp; done) | assumption) (by first | omega | (simp; omega) | (simp; done) | assumption)) (by dsimp only [putD, List.set]) (by dsimp only [List.set, List.append, List.cons_append, List.nil_append, cellsD, List.map, repl, List.length, Nat.reduceAdd, if_true, ↓reduceIte]; first | done | rfl) ?_
            refine at_mv 27 7 rfl rfl rfl (.inr rfl) rfl (by dsimp only [List.set]) ?_
            refine at_end rfl ?_
            refine run_blk ?_
            refine at_region rfl ?_
            refine at_mv 8 13 rfl rfl rfl (.inl rfl) rfl (by dsimp only [List.set]) ?_
            refine at_op (some 14) rfl rfl rfl rfl (op_binI rfl rfl) (by dsimp only [putD, List.set]) ?_
            refine at_mv 14 8 rfl rfl rfl (.inr rfl) rfl (by dsimp only [List.set]) ?_
            refine at_end rfl ?_
            rw [wrap_succ (by omega)]
            rw [← map_snoc]
            exact run_wk (.keep (.keep (.keep (.drop (.drop (.drop (.keep (.keep (.keep (.drop (.drop (.drop (.drop (.drop (.drop (.drop (.drop (.drop (.drop (.drop (.drop (.drop (.drop (.drop (.drop (.drop (.drop (.drop (.drop .nil))))))))))))))))))))))))))))) (ih _ (by omega) (i + 1) _ _ _ rfl (by omega) (by simp [ha]) (by rw [hk']; first | (simpa [vecM, vecEl, smM, dn, *] using h1)) (by rw [hk']; first | (simpa [vecM, vecEl, smM, dn, *] using h2)))
        · skip
          refine at_skip rfl ?_
          refine at_seq [1, 1, 0, 1, 0, 0, 1, 0, 0, 1, 1, 0] [1, 1, 0, 1, 0, 0, 1, 0, 0, 1, 1, 1] rfl ?_
          refine at_seq [1, 1, 0, 1, 0, 0, 1, 0, 0, 1, 1, 0, 0] [1, 1, 0, 1, 0, 0, 1, 0, 0, 1, 1, 0, 1] rfl ?_
          refine at_region rfl ?_
          refine at_mv 0 22 rfl rfl rfl (.inl rfl) rfl (by dsimp only [List.set]) ?_
          refine at_opS (some 23) rfl rfl rfl rfl (op_call1 rfl rfl rfl rfl rfl (.ptr (.pl rfl .nil)) rfl (one_spec l _ _ hs _ (by omega))) (by dsimp only [putD, List.set]) (by dsimp only [List.set, List.append, List.cons_append, List.nil_append, cellsD, List.map, repl, List.length, Nat.reduceAdd, if_true, ↓reduceIte]; first | done | rfl) ?_
          refine at_end rfl ?_
          refine at_cond [1, 1, 0, 1, 0, 0, 1, 0, 0, 1, 1, 0, 1, 0] [1, 1, 0, 1, 0, 0, 1, 0, 0, 1, 1, 0, 1, 1] rfl rfl (fun hc5 => ?_) (fun hc5 => ?_)
          · skip
            refine at_region rfl ?_
            refine at_mc 9 rfl rfl rfl (.inr rfl) (by dsimp only [constD]) (by dsimp only [List.set]) ?_
            refine at_end rfl ?_
            refine at_region rfl ?_
            refine at_mv 7 24 rfl rfl rfl (.inl rfl) rfl (by dsimp only [List.set]) ?_
            refine at_mv 9 25 rfl rfl rfl (.inl rfl) rfl (by dsimp only [List.set]) ?_
            refine at_op (some 26) rfl rfl rfl rfl (op_buildSlice rfl (by rfl) (by rfl) slInt rfl rfl (by simp [V.size]) (by decide) (by decide) (by decide)) (by dsimp only [putD, List.set]) ?_
            refine at_opS (some 27) rfl rfl rfl rfl (op_append rfl slInt rfl (by simp) (by simp [V.size]) (by first | omega | (simp; omega) | (simp; done) | assumption) (by first | omega | (simp; omega) | (simp; done) | assumption)) (by dsimp only [putD, List.set]) (by dsimp only [List.set, List.append, List.cons_append, List.nil_append, cellsD, List.map, repl, List.length, Nat.reduceAdd, if_true, ↓reduceIte]; first | done | rfl) ?_
            refine at_mv 27 7 rfl rfl rfl (.inr rfl) rfl (by dsimp only [List.set]) ?_
            refine at_end rfl ?_
            refine run_blk ?_
            refine at_region rfl ?_
            refine at_mv 8 13 rfl rfl rfl (.inl rfl) rfl (by dsimp only [List.set]) ?_
            refine at_op (some 14) rfl rfl rfl rfl (op_binI rfl rfl) (by dsimp only [putD, List.set]) ?_
            refine at_mv 14 8 rfl rfl rfl (.inr rfl) rfl (by dsimp only [List.set]) ?_
            refine at_end rfl ?_
            rw [wrap_succ (by omega)]
            rw [← map_snoc]
            exact run_wk (.keep (.keep (.keep (.drop (.drop (.drop (.keep (.keep (.keep (.drop (.drop (.drop (.drop (.drop (.drop (.drop (.drop (.drop (.drop (.drop (.drop (.drop (.drop (.drop (.drop (.drop (.drop (.drop (.drop .nil))))))))))))))))))))))))))))) (ih _ (by omega) (i + 1) _ _ _ rfl (by omega) (by simp [ha]) (by rw [hk']; first | (simpa [vecM, vecEl, smM, dn, *] using h1)) (by rw [hk']; first | (simpa [vecM, vecEl, smM, dn, *] using h2)))
          · skip
            refine at_skip rfl ?_
            refine at_region rfl ?_
            refine at_mv 7 24 rfl rfl rfl (.inl rfl) rfl (by dsimp only [List.set]) ?_
            refine at_mv 9 25 rfl rfl rfl (.inl rfl) rfl (by dsimp only [List.set]) ?_
            refine at_op (some 26) rfl rfl rfl rfl (op_buildSlice rfl (by rfl) (by rfl) slInt rfl rfl (by simp [V.size]) (by decide) (by decide) (by decide)) (by dsimp only [putD, List.set]) ?_
            refine at_opS (some 27) rfl rfl rfl rfl (op_append rfl slInt rfl (by simp) (by simp [V.size]) (by first | omega | (simp; omega) | (simp; done) | assumption) (by first | omega | (simp; omega) | (simp; done) | assumption)) (by dsimp only [putD, List.set]) (by dsimp only [List.set, List.append, List.cons_append, List.nil_append, cellsD, List.map, repl, List.length, Nat.reduceAdd, if_true, ↓reduceIte]; first | done | rfl) ?_
            refine at_mv 27 7 rfl rfl rfl (.inr rfl) rfl (by dsimp only [List.set]) ?_
            refine at_end rfl ?_
            refine run_blk ?_
            refine at_region rfl ?_
            refine at_mv 8 13 rfl rfl rfl (.inl rfl) rfl (by dsimp only [List.set]) ?_
            refine at_op (some 14) rfl rfl rfl rfl (op_binI rfl rfl) (by dsimp only [putD, List.set]) ?_
            refine at_mv 14 8 rfl rfl rfl (.inr rfl) rfl (by dsimp only [List.set]) ?_
            refine at_end rfl ?_
            rw [wrap_succ (by omega)]
            rw [← map_snoc]
            exact run_wk (.keep (.keep (.keep (.drop (.drop (.drop (.keep (.keep (.keep (.drop (.drop (.drop (.drop (.drop (.drop (.drop (.drop (.drop (.drop (.drop (.drop (.drop (.drop (.drop (.drop (.drop (.drop (.drop (.drop .nil))))))))))))))))))))))))))))) (ih _ (by omega) (i + 1) _ _ _ rfl (by omega) (by simp [ha]) (by rw [hk']; first | (simpa [vecM, vecEl, smM, dn, *] using h1)) (by rw [hk']; first | (simpa [vecM, vecEl, smM, dn, *] using h2)))
      · dsimp only [List.set] at he; subst he
        refine at_opN (some 19) rfl rfl rfl (by dsimp only [putD, List.set]) ?_
        refine at_opN (some 20) rfl rfl rfl (by dsimp only [putD, List.set]) ?_
        refine at_pkc false 18 21 rfl rfl rfl rfl rfl rfl (by dsimp only [constD]) (by dsimp only [List.set]) ?_
        refine at_end rfl ?_
        refine at_false [1, 1, 0, 1, 0, 0, 1, 0, 0, 1, 0, 1, 0] [1, 1, 0, 1, 0, 0, 1, 0, 0, 1, 0, 1, 1] rfl rfl ?_
        refine at_skip rfl ?_
        refine at_seq [1, 1, 0, 1, 0, 0, 1, 0, 0, 1, 1, 0] [1, 1, 0, 1, 0, 0, 1, 0, 0, 1, 1, 1] rfl ?_
        refine at_seq [1, 1, 0, 1, 0, 0, 1, 0, 0, 1, 1, 0, 0] [1, 1, 0, 1, 0, 0, 1, 0, 0, 1, 1, 0, 1] rfl ?_
        refine at_region rfl ?_
        refine at_mv 0 22 rfl rfl rfl (.inl rfl) rfl (by dsimp only [List.set]) ?_
        refine at_opS (some 23) rfl rfl rfl rfl (op_call1 rfl rfl rfl rfl rfl (.ptr (.pl rfl .nil)) rfl (one_spec l _ _ hs _ (by omega))) (by dsimp only [putD, List.set]) (by dsimp only [List.set, List.append, List.cons_append, List.nil_append, cellsD, List.map, repl, List.length, Nat.reduceAdd, if_true, ↓reduceIte]; first | done | rfl) ?_
        refine at_end rfl ?_
        refine at_cond [1, 1, 0, 1, 0, 0, 1, 0, 0, 1, 1, 0, 1, 0] [1, 1, 0, 1, 0, 0, 1, 0, 0, 1, 1, 0, 1, 1] rfl rfl (fun hc6 => ?_) (fun hc6 => ?_)
        · skip
          refine at_region rfl ?_
          refine at_mc 9 rfl rfl rfl (.inr rfl) (by dsimp only [constD]) (by dsimp only [List.set]) ?_
          refine at_end rfl ?_
          refine at_region rfl ?_
          refine at_mv 7 24 rfl rfl rfl (.inl rfl) rfl (by dsimp only [List.set]) ?_
          refine at_mv 9 25 rfl rfl rfl (.inl rfl) rfl (by dsimp only [List.set]) ?_
          refine at_op (some 26) rfl rfl rfl rfl (op_buildSlice rfl (by rfl) (by rfl) slInt rfl rfl (by simp [V.size]) (by decide) (by decide) (by decide)) (by dsimp only [putD, List.set]) ?_
          refine at_opS (some 27) rfl rfl rfl rfl (op_append rfl slInt rfl (by simp) (by simp [V.size]) (by first | omega | (simp; omega) | (simp; done) | assumption) (by first | omega | (simp; omega) | (simp; done) | assumption)) (by dsimp only [putD, List.set]) (by dsimp only [List.set, List.append, List.cons_append, List.nil_append, cellsD, List.map, repl, List.length, Nat.reduceAdd, if_true, ↓reduceIte]; first | done | rfl) ?_
          refine at_mv 27 7 rfl rfl rfl (.inr rfl) rfl (by dsimp only [List.set]) ?_
          refine at_end rfl ?_
          refine run_blk ?_
          refine at_region rfl ?_
          refine at_mv 8 13 rfl rfl rfl (.inl rfl) rfl (by dsimp only [List.set]) ?_
          refine at_op (some 14) rfl rfl rfl rfl (op_binI rfl rfl) (by dsimp only [putD, List.set]) ?_
          refine at_mv 14 8 rfl rfl rfl (.inr rfl) rfl (by dsimp only [List.set]) ?_
          refine at_end rfl ?_
          rw [wrap_succ (by omega)]
          rw [← map_snoc]
          exact run_wk (.keep (.keep (.keep (.drop (.drop (.drop (.keep (.keep (.keep (.drop (.drop (.drop (.drop (.drop (.drop (.drop (.drop (.drop (.drop (.drop (.drop (.drop (.drop (.drop (.drop (.drop (.drop (.drop (.drop .nil))))))))))))))))))))))))))))) (ih _ (by omega) (i + 1) _ _ _ rfl (by omega) (by simp [ha]) (by rw [hk']; first | (simpa [vecM, vecEl, smM, dn, *] using h1)) (by rw [hk']; first | (simpa [vecM, vecEl, smM, dn, *] using h2)))
        · skip
          refine at_skip rfl ?_
          refine at_region rfl ?_
          refine at_mv 7 24 rfl rfl rfl (.inl rfl) rfl (by dsimp only [List.set]) ?_
          refine at_mv 9 25 rfl rfl rfl (.inl rfl) rfl (by dsimp only [List.set]) ?_
          refine at_op (some 26) rfl rfl rfl rfl (op_buildSlice rfl (by rfl) (by rfl) slInt rfl rfl (by simp [V.size]) (by decide) (by decide) (by decide)) (by dsimp only [putD, List.set]) ?_
          refine at_opS (some 27) rfl rfl rfl rfl (op_append rfl slInt rfl (by simp) (by simp [V.size]) (by first | omega | (simp; omega) | (simp; done) | assumption) (by first | omega | (simp; omega) | (simp; done) | assumption)) (by dsimp only [putD, List.set]) (by dsimp only [List.set, List.append, List.cons_append, List.nil_append, cellsD, List.map, repl, List.length, Nat.reduceAdd, if_true, ↓reduceIte]; first | done | rfl) ?_
          refine at_mv 27 7 rfl rfl rfl (.inr rfl) rfl (by dsimp only [List.set]) ?_
          refine at_end rfl ?_
          refine run_blk ?_
          refine at_region rfl ?_
          refine at_mv 8 13 rfl rfl rfl (.inl rfl) rfl (by dsimp only [List.set]) ?_
          refine at_op (some 14) rfl rfl rfl rfl (op_binI rfl rfl) (by dsimp only [putD, List.set]) ?_
          refine at_mv 14 8 rfl rfl rfl (.inr rfl) rfl (by dsimp only [List.set]) ?_
          refine at_end rfl ?_
          rw [wrap_succ (by omega)]
          rw [← map_snoc]
          exact run_wk (.keep (.keep (.keep (.drop (.drop (.drop (.keep (.keep (.keep (.drop (.drop (.drop (.drop (.drop (.drop (.drop (.drop (.drop (.drop (.drop (.drop (.drop (.drop (.drop (.drop (.drop (.drop (.drop (.drop .nil))))))))))))))))))))))))))))) (ih _ (by omega) (i + 1) _ _ _ rfl (by omega) (by simp [ha]) (by rw [hk']; first | (simpa [vecM, vecEl, smM, dn, *] using h1)) (by rw [hk']; first | (simpa [vecM, vecEl, smM, dn, *] using h2)))
    · skip
      have h0 : n - i = 0 := by simp at hc1; omega
      rw [h0] at h1 h2
      simp only [vecM, smM, List.append_nil] at h1 h2
      refine at_exit rfl rfl ?_
      refine at_seq [1, 1, 1, 0] [1, 1, 1, 1] rfl ?_
      refine at_region rfl ?_
      refine at_mv 7 28 rfl rfl rfl (.inl rfl) rfl (by dsimp only [List.set]) ?_
      refine at_mv 28 6 rfl rfl rfl (.inr rfl) rfl (by dsimp only [List.set]) ?_
      refine at_end rfl ?_
      refine at_ret rfl (ret_acc1 (t := 6) (sz := 1) (os := dk l T.2.1 T.2.2) rfl rfl rfl ?_ ?_ rfl)
      · first | (rw [← h1]; done) | (rw [← h1]; simp [h0])
      · first | (rw [← h2]; done) | (rw [← h2]; simp [h0])

set_option maxRecDepth 20000 in
theorem vector_spec (l : List Int) (hs : l.length ≤ 1000000) (om : Bool) (n : Nat) (hn : n ≤ 1000) (at' : Nat) (st : Int) : FSpec PP 17 [.ptr 0 0, di ↑n, db om] (σd l at' st) (.acc 1 ((vecM l om n (at', st)).1.map vi)) ⟨[some (dk l (vecM l om n (at', st)).2.1 (vecM l om n (at', st)).2.2)], [(1, 1, (vecM l om n (at', st)).1.map vi)]⟩ := by
  refine spec_at cVector Try.func17 rfl (by kernel_rfl) (by first | decide | simp) _ (by dsimp only [Try.f17, List.length, Nat.reduceAdd, Nat.reduceSub, List.replicate, List.cons_append, List.nil_append]) ?_
  refine at_seq [0] [1] rfl ?_
  refine at_region rfl ?_
  refine at_mc 6 rfl rfl rfl (.inr rfl) (by dsimp only [constD]) (by dsimp only [List.set]) ?_
  refine at_end rfl ?_
  refine at_seq [1, 0] [1, 1] rfl ?_
  refine at_region rfl ?_
  refine at_opS (some 7) rfl rfl rfl rfl (op_nilOwn (.inl rfl) 1 1 (by simp) (by decide)) (by dsimp only [putD, List.set]) (by dsimp only [List.set, List.append, List.cons_append, List.nil_append, cellsD, List.map, repl, List.length, Nat.reduceAdd, if_true, ↓reduceIte]; first | done | rfl) ?_
  refine at_end rfl ?_
  refine at_seq [1, 1, 0] [1, 1, 1] rfl ?_
  refine at_seq [1, 1, 0, 0] [1, 1, 0, 1] rfl ?_
  refine at_region rfl ?_
  refine at_mc 8 rfl rfl rfl (.inr rfl) (by dsimp only [constD]) (by dsimp only [List.set]) ?_
  refine at_end rfl ?_
  refine at_block [1, 1, 0, 1, 0] 0 rfl ?_
  refine at_loop [1, 1, 0, 1, 0, 0] rfl ?_
  try simp only [List.length_map, List.length_nil, Int.toNat_natCast]
  exact vector_loop l hs om n hn _ _ 0 [] at' st rfl (by omega) rfl rfl rfl

noncomputable def cSmall : Code := Try.f21.body.getD .skip
set_option maxRecDepth 20000 in
theorem small_loop (l : List Int) (hs : l.length ≤ 1000000) (mo : Int) (h0 : 0 ≤ mo ∧ mo ≤ 1000000) (n : Nat) (hn : n ≤ 1000) (T : List Int × (Nat × Int)) (m : Nat) : ∀ (i : Nat) (acc : List Int) (at' : Nat) (st : Int), n - i = m → i ≤ n → acc.length = i → acc ++ (smM l mo (n - i) (at', st)).1 = T.1 → (smM l mo (n - i) (at', st)).2 = T.2 → Run PP (fun env σ1 => ResOK PP Try.f21 env σ1 (.acc 1 (T.1.map vi)) ⟨[some (dk l T.2.1 T.2.2)], [(1, 1, T.1.map vi)]⟩) [.lp (sub cSmall [1, 1, 0, 1, 0, 0]), .blk 0, .code (sub cSmall [1, 1, 1])] ((.ptr 0 0) :: (di ↑n) :: (di mo) :: .undef :: .undef :: .undef :: (.v (.list [])) :: (.acc 1 (acc.map vi)) :: (di ↑i) :: .undef :: .undef :: .undef :: .undef :: .undef :: .undef :: .undef :: .undef :: .undef :: .undef :: .undef :: .undef :: .undef :: []) ⟨[some (dk l at' st)], [(1, 1, acc.map vi)]⟩ := by
  induction m using Nat.strongRecOn with
  | _ m ih =>
    intro i acc at' st hm hi ha h1 h2
    refine run_lp ?_
    refine at_seq [1, 1, 0, 1, 0, 0, 0] [1, 1, 0, 1, 0, 0, 1] rfl ?_
    refine at_seq [1, 1, 0, 1, 0, 0, 0, 0] [1, 1, 0, 1, 0, 0, 0, 1] rfl ?_
    refine at_region rfl ?_
    refine at_mv 8 9 rfl rfl rfl (.inl rfl) rfl (by dsimp only [List.set]) ?_
    refine at_mv 1 10 rfl rfl rfl (.inl rfl) rfl (by dsimp only [List.set]) ?_
    refine at_op (some 11) rfl rfl rfl rfl (op_binI rfl rfl) (by dsimp only [putD, List.set]) ?_
    refine at_end rfl ?_
    refine at_cond [1, 1, 0, 1, 0, 0, 0, 1, 0] [1, 1, 0, 1, 0, 0, 0, 1, 1] rfl rfl (fun hc1 => ?_) (fun hc1 => ?_)
    · skip
      have hlt : i < n := by simpa using hc1
      obtain ⟨k, hk⟩ : ∃ k, n - i = k + 1 := ⟨n - i - 1, by omega⟩
      have hk' : n - (i + 1) = k := by omega
      rw [hk] at h1 h2
      refine at_skip rfl ?_
      refine at_seq [1, 1, 0, 1, 0, 0, 1, 0] [1, 1, 0, 1, 0, 0, 1, 1] rfl ?_
      refine at_block [1, 1, 0, 1, 0, 0, 1, 0, 0] 1 rfl ?_
      refine at_region rfl ?_
      refine at_mv 7 14 rfl rfl rfl (.inl rfl) rfl (by dsimp only [List.set]) ?_
      refine at_mv 0 15 rfl rfl rfl (.inl rfl) rfl (by dsimp only [List.set]) ?_
      refine at_mv 2 16 rfl rfl rfl (.inl rfl) rfl (by dsimp only [List.set]) ?_
      refine at_op (some 17) rfl rfl rfl rfl (op_binI rfl rfl) (by dsimp only [putD, List.set]) ?_
      rw [wrap_id (by omega) (by omega)]
      refine at_opS (some 18) rfl rfl rfl rfl (op_call1 rfl rfl rfl rfl rfl (.ptr (.pl rfl .nil)) rfl (next_spec l _ _ hs _ (by omega))) (by dsimp only [putD, List.set]) (by dsimp only [List.set, List.append, List.cons_append, List.nil_append, cellsD, List.map, repl, List.length, Nat.reduceAdd, if_true, ↓reduceIte]; first | done | rfl) ?_
      refine at_op (some 19) rfl rfl rfl rfl (op_buildSlice rfl (by rfl) (by rfl) slInt rfl rfl (by simp [V.size]) (by decide) (by decide) (by decide)) (by dsimp only [putD, List.set]) ?_
      refine at_opS (some 20) rfl rfl rfl rfl (op_append rfl slInt rfl (by simp) (by simp [V.size]) (by first | omega | (simp; omega) | (simp; done) | assumption) (by first | omega | (simp; omega) | (simp; done) | assumption)) (by dsimp only [putD, List.set]) (by dsimp only [List.set, List.append, List.cons_append, List.nil_append, cellsD, List.map, repl, List.length, Nat.reduceAdd, if_true, ↓reduceIte]; first | done | rfl) ?_
      refine at_mv 20 7 rfl rfl rfl (.inr rfl) rfl (by dsimp only [List.set]) ?_
      refine at_end rfl ?_
      refine run_blk ?_
      refine at_region rfl ?_
      refine at_mv 8 12 rfl rfl rfl (.inl rfl) rfl (by dsimp only [List.set]) ?_
      refine at_op (some 13) rfl rfl rfl rfl (op_binI rfl rfl) (by dsimp only [putD, List.set]) ?_
      refine at_mv 13 8 rfl rfl rfl (.inr rfl) rfl (by dsimp only [List.set]) ?_
      refine at_end rfl ?_
      rw [wrap_succ (by omega)]
      rw [← map_snoc]
      exact run_wk (.keep (.keep (.keep (.drop (.drop (.drop (.keep (.keep (.keep (.drop (.drop (.drop (.drop (.drop (.drop (.drop (.drop (.drop (.drop (.drop (.drop (.drop .nil)))))))))))))))))))))) (ih _ (by omega) (i + 1) _ _ _ rfl (by omega) (by simp [ha]) (by rw [hk']; first | (simpa [vecM, vecEl, smM, dn, *] using h1)) (by rw [hk']; first | (simpa [vecM, vecEl, smM, dn, *] using h2)))
    · skip
      have h0 : n - i = 0 := by simp at hc1; omega
      rw [h0] at h1 h2
      simp only [vecM, smM, List.append_nil] at h1 h2
      refine at_exit rfl rfl ?_
      refine at_seq [1, 1, 1, 0] [1, 1, 1, 1] rfl ?_
      refine at_region rfl ?_
      refine at_mv 7 21 rfl rfl rfl (.inl rfl) rfl (by dsimp only [List.set]) ?_
      refine at_mv 21 6 rfl rfl rfl (.inr rfl) rfl (by dsimp only [List.set]) ?_
      refine at_end rfl ?_
      refine at_ret rfl (ret_acc1 (t := 6) (sz := 1) (os := dk l T.2.1 T.2.2) rfl rfl rfl ?_ ?_ rfl)
      · first | (rw [← h1]; done) | (rw [← h1]; simp [h0])
      · first | (rw [← h2]; done) | (rw [← h2]; simp [h0])

set_option maxRecDepth 20000 in
theorem small_spec (l : List Int) (hs : l.length ≤ 1000000) (mo : Int) (h0 : 0 ≤ mo ∧ mo ≤ 1000000) (n : Nat) (hn : n ≤ 1000) (at' : Nat) (st : Int) : FSpec PP 21 [.ptr 0 0, di ↑n, di mo] (σd l at' st) (.acc 1 ((smM l mo n (at', st)).1.map vi)) ⟨[some (dk l (smM l mo n (at', st)).2.1 (smM l mo n (at', st)).2.2)], [(1, 1, (smM l mo n (at', st)).1.map vi)]⟩ := by
  refine spec_at cSmall Try.func21 rfl (by kernel_rfl) (by first | decide | simp) _ (by dsimp only [Try.f21, List.length, Nat.reduceAdd, Nat.reduceSub, List.replicate, List.cons_append, List.nil_append]) ?_
  refine at_seq [0] [1] rfl ?_
  refine at_region rfl ?_
  refine at_mc 6 rfl rfl rfl (.inr rfl) (by dsimp only [constD]) (by dsimp only [List.set]) ?_
  refine at_end rfl ?_
  refine at_seq [1, 0] [1, 1] rfl ?_
  refine at_region rfl ?_
  refine at_opS (some 7) rfl rfl rfl rfl (op_nilOwn (.inl rfl) 1 1 (by simp) (by decide)) (by dsimp only [putD, List.set]) (by dsimp only [List.set, List.append, List.cons_append, List.nil_append, cellsD, List.map, repl, List.length, Nat.reduceAdd, if_true, ↓reduceIte]; first | done | rfl) ?_
  refine at_end rfl ?_
  refine at_seq [1, 1, 0] [1, 1, 1] rfl ?_
  refine at_seq [1, 1, 0, 0] [1, 1, 0, 1] rfl ?_
  refine at_region rfl ?_
  refine at_mc 8 rfl rfl rfl (.inr rfl) (by dsimp only [constD]) (by dsimp only [List.set]) ?_
  refine at_end rfl ?_
  refine at_block [1, 1, 0, 1, 0] 0 rfl ?_
  refine at_loop [1, 1, 0, 1, 0, 0] rfl ?_
  try simp only [List.length_map, List.length_nil, Int.toNat_natCast]
  exact small_loop l hs mo h0 n hn _ _ 0 [] at' st rfl (by omega) rfl rfl rfl

end Go.Proofs.Ytoofgniepbidnaa
