/-
 Steps of made counter models, walked.
-/
import Derived.Test.YtmdipbhjhkckjaaGreatMb
import Derived.Test.YtmdipbhjhkckjaaGreatHx
import Derived.Test.YtmdipbhjhkckjaaGreatDb
namespace Go.Proofs.YtmdipbhjhkckjaaGreat
open Go.Dv
def geQ (l need : List Int) : Bool := (l.zip need).all fun p => decide (p.2 ≤ p.1)
def enQ (r : Rl) (c : List Int) : Bool := decide (c.head? = some r.frm) && geQ c.tail r.need
def apN : List Int → List Int → List Int → List Int
 | g :: gs, x :: xs, n :: ns => (g + (x - n)) :: apN gs xs ns
 | _, _, _ => []
def apM (r : Rl) (c : List Int) : List Int := r.to :: apN r.give c.tail r.need
theorem apN_length : ∀ {g l n : List Int}, l.length = g.length → n.length = g.length → (apN g l n).length = g.length
 | [], _, _, _, _ => by simp [apN]
 | g :: gs, [], _, h, _ => by simp at h
 | g :: gs, x :: xs, [], _, h => by simp at h
 | g :: gs, x :: xs, n :: ns, h1, h2 => by simp only [apN, List.length_cons]; rw [apN_length (by simpa using h1) (by simpa using h2)]
theorem apN_at {g l n : List Int} {i : Nat} {a x y : Int} (h1 : g[i]? = some a) (h2 : l[i]? = some x) (h3 : n[i]? = some y) : apN (g.drop i) (l.drop i) (n.drop i) = (a + (x - y)) :: apN (g.drop (i + 1)) (l.drop (i + 1)) (n.drop (i + 1)) := by
 rw [List.drop_eq_getElem_cons (List.getElem?_eq_some_iff.1 h1).1, List.drop_eq_getElem_cons (List.getElem?_eq_some_iff.1 h2).1, List.drop_eq_getElem_cons (List.getElem?_eq_some_iff.1 h3).1, (List.getElem?_eq_some_iff.1 h1).2, (List.getElem?_eq_some_iff.1 h2).2, (List.getElem?_eq_some_iff.1 h3).2]
 rfl
theorem pls_dli (l : List Int) : D.pls (dli l) = true := by
 induction l with
 | nil => rfl
 | cons x l ih => simp only [dli, List.map_cons, D.pls] at ih ⊢; simpa [D.pl] using ih
theorem flat_ints (l : List Int) : flatV (l.map vi) = dli l := by
 induction l with
 | nil => rfl
 | cons x l ih => simp only [flatV, List.map_cons, List.flatMap_cons, List.map_append] at ih ⊢; rw [ih]; rfl
theorem kids_drop (s : Int) (l : List Int) : (List.take (List.map vN (s :: l)).length (List.map vN (s :: l))).drop 1 = l.map vN := by rw [List.take_length]; rfl
noncomputable def cStpb : Code := Tryz.f84.body.getD .skip
set_option maxRecDepth 20000 in
theorem steppable_spec (m : Md) (hm : MdOK m) : FSpec PP 84 [.v (vMd m)] σ0 (di 0) σ0 := by
 refine spec_at cStpb Tryz.func84 rfl (by kernel_rfl) (by first | decide | simp) _ (by dsimp only [Tryz.f84, List.length, Nat.reduceAdd, Nat.reduceSub, List.replicate, List.cons_append, List.nil_append]) ?_
 refine at_seq [0] [1] rfl ?_
 refine at_region rfl ?_
 refine at_o 1 rfl rfl rfl rfl (op_boxI rfl rfl) ?_
 refine at_c 2 rfl rfl rfl (.inr rfl) ?_
 refine at_end rfl ?_
 refine at_seq [1, 0] [1, 1] rfl ?_
 refine at_seq [1, 0, 0] [1, 0, 1] rfl ?_
 refine at_region rfl ?_
 first | (refine at_o 4 rfl rfl rfl rfl (op_loadRA rfl fagg_api_Model) ?_) | (refine at_o 4 rfl rfl rfl rfl (op_loadPA rfl fagg_api_Model rfl (by first | decide | simp) rfl) ?_)
 refine at_o 5 rfl rfl rfl rfl (op_call0 rfl rfl rfl rfl (mdCheck hm)) ?_
 refine at_m 5 3 rfl rfl rfl (.inr rfl) rfl ?_
 refine at_end rfl ?_
 refine at_seq [1, 0, 1, 0] [1, 0, 1, 1] rfl ?_
 refine at_region rfl ?_
 refine at_m 3 6 rfl rfl rfl (.inl rfl) rfl ?_
 refine at_o 7 rfl rfl rfl rfl (op_binI rfl rfl) ?_
 refine at_end rfl ?_
 refine at_cond [1, 0, 1, 1, 0] [1, 0, 1, 1, 1] rfl rfl (fun hc1 => ?_) (fun hc1 => ?_)
 ·skip
  exact absurd hc1 (by simp)
 ·skip
  refine at_skip rfl ?_
  refine at_seq [1, 1, 0] [1, 1, 1] rfl ?_
  refine at_seq [1, 1, 0, 0] [1, 1, 0, 1] rfl ?_
  refine at_region rfl ?_
  first | (refine at_o 9 rfl rfl rfl rfl (op_fieldP rfl ffld0_api_Model (by decide)) ?_) | (refine at_o 9 rfl rfl rfl rfl (op_fieldR rfl ffld0_api_Model (by decide) (by decide) rfl) ?_)
  first | (refine at_o 10 rfl rfl rfl rfl (op_loadR1 rfl fone_int rfl) ?_) | (refine at_o 10 rfl rfl rfl rfl (op_loadP1 rfl fone_int rfl rfl) ?_)
  refine at_o 11 rfl rfl rfl rfl (op_binI rfl rfl) ?_
  refine at_end rfl ?_
  refine at_cond [1, 1, 0, 1, 0] [1, 1, 0, 1, 1] rfl rfl (fun hc2 => ?_) (fun hc2 => ?_)
  ·skip
   exact absurd hc2 (by simp)
  ·skip
   refine at_skip rfl ?_
   refine at_seq [1, 1, 1, 0] [1, 1, 1, 1] rfl ?_
   refine at_region rfl ?_
   refine at_c 2 rfl rfl rfl (.inr rfl) ?_
   refine at_end rfl ?_
   refine at_ret rfl (ret_one (t := 2) rfl rfl ?_ rfl)
   rfl
noncomputable def cWalks : Code := Tryz.f26.body.getD .skip
set_option maxRecDepth 20000 in
theorem walks_spec (m : Md) (hm : MdOK m) : FSpec PP 26 [.v (vMd m)] σ0 (di 0) σ0 := by
 refine spec_at cWalks Tryz.func26 rfl (by kernel_rfl) (by first | decide | simp) _ (by dsimp only [Tryz.f26, List.length, Nat.reduceAdd, Nat.reduceSub, List.replicate, List.cons_append, List.nil_append]) ?_
 refine at_seq [0] [1] rfl ?_
 refine at_region rfl ?_
 refine at_o 1 rfl rfl rfl rfl (op_boxI rfl rfl) ?_
 refine at_c 2 rfl rfl rfl (.inr rfl) ?_
 refine at_end rfl ?_
 refine at_seq [1, 0] [1, 1] rfl ?_
 refine at_seq [1, 0, 0] [1, 0, 1] rfl ?_
 refine at_region rfl ?_
 first | (refine at_o 4 rfl rfl rfl rfl (op_loadRA rfl fagg_api_Model) ?_) | (refine at_o 4 rfl rfl rfl rfl (op_loadPA rfl fagg_api_Model rfl (by first | decide | simp) rfl) ?_)
 refine at_o 5 rfl rfl rfl rfl (op_call0 rfl rfl rfl rfl (mdCheck hm)) ?_
 refine at_m 5 3 rfl rfl rfl (.inr rfl) rfl ?_
 refine at_end rfl ?_
 refine at_seq [1, 0, 1, 0] [1, 0, 1, 1] rfl ?_
 refine at_region rfl ?_
 refine at_m 3 6 rfl rfl rfl (.inl rfl) rfl ?_
 refine at_o 7 rfl rfl rfl rfl (op_binI rfl rfl) ?_
 refine at_end rfl ?_
 refine at_cond [1, 0, 1, 1, 0] [1, 0, 1, 1, 1] rfl rfl (fun hc1 => ?_) (fun hc1 => ?_)
 ·skip
  exact absurd hc1 (by simp)
 ·skip
  refine at_skip rfl ?_
  refine at_seq [1, 1, 0] [1, 1, 1] rfl ?_
  refine at_seq [1, 1, 0, 0] [1, 1, 0, 1] rfl ?_
  refine at_region rfl ?_
  first | (refine at_o 9 rfl rfl rfl rfl (op_fieldP rfl ffld0_api_Model (by decide)) ?_) | (refine at_o 9 rfl rfl rfl rfl (op_fieldR rfl ffld0_api_Model (by decide) (by decide) rfl) ?_)
  first | (refine at_o 10 rfl rfl rfl rfl (op_loadR1 rfl fone_int rfl) ?_) | (refine at_o 10 rfl rfl rfl rfl (op_loadP1 rfl fone_int rfl rfl) ?_)
  refine at_o 11 rfl rfl rfl rfl (op_binI rfl rfl) ?_
  refine at_end rfl ?_
  refine at_cond [1, 1, 0, 1, 0] [1, 1, 0, 1, 1] rfl rfl (fun hc2 => ?_) (fun hc2 => ?_)
  ·skip
   exact absurd hc2 (by simp)
  ·skip
   refine at_skip rfl ?_
   refine at_seq [1, 1, 1, 0] [1, 1, 1, 1] rfl ?_
   refine at_region rfl ?_
   refine at_c 2 rfl rfl rfl (.inr rfl) ?_
   refine at_end rfl ?_
   refine at_ret rfl (ret_one (t := 2) rfl rfl ?_ rfl)
   rfl
noncomputable def cStChk : Code := Tryz.f56.body.getD .skip
set_option maxRecDepth 20000 in
theorem stcheck_spec (m : Md) (hm : MdOK m) (c : List Int) (hc : CfOK m.ns m.np c) : FSpec PP 56 [.v (vMd m), .v (vCf c)] σ0 (di 0) σ0 := by
 refine spec_at cStChk Tryz.func56 rfl (by kernel_rfl) (by first | decide | simp) _ (by dsimp only [Tryz.f56, List.length, Nat.reduceAdd, Nat.reduceSub, List.replicate, List.cons_append, List.nil_append]) ?_
 refine at_seq [0] [1] rfl ?_
 refine at_region rfl ?_
 refine at_o 2 rfl rfl rfl rfl (op_boxI rfl rfl) ?_
 refine at_o 3 rfl rfl rfl rfl (op_boxI rfl rfl) ?_
 refine at_c 4 rfl rfl rfl (.inr rfl) ?_
 refine at_end rfl ?_
 refine at_seq [1, 0] [1, 1] rfl ?_
 refine at_seq [1, 0, 0] [1, 0, 1] rfl ?_
 refine at_region rfl ?_
 first | (refine at_o 6 rfl rfl rfl rfl (op_loadRA rfl fagg_api_Model) ?_) | (refine at_o 6 rfl rfl rfl rfl (op_loadPA rfl fagg_api_Model rfl (by first | decide | simp) rfl) ?_)
 refine at_o 7 rfl rfl rfl rfl (op_call0 rfl rfl rfl rfl (steppable_spec m hm)) ?_
 refine at_m 7 5 rfl rfl rfl (.inr rfl) rfl ?_
 refine at_end rfl ?_
 refine at_seq [1, 0, 1, 0] [1, 0, 1, 1] rfl ?_
 refine at_region rfl ?_
 refine at_m 5 8 rfl rfl rfl (.inl rfl) rfl ?_
 refine at_o 9 rfl rfl rfl rfl (op_binI rfl rfl) ?_
 refine at_end rfl ?_
 refine at_cond [1, 0, 1, 1, 0] [1, 0, 1, 1, 1] rfl rfl (fun hc1 => ?_) (fun hc1 => ?_)
 ·skip
  exact absurd hc1 (by simp)
 ·skip
  refine at_skip rfl ?_
  refine at_seq [1, 1, 0] [1, 1, 1] rfl ?_
  refine at_seq [1, 1, 0, 0] [1, 1, 0, 1] rfl ?_
  refine at_region rfl ?_
  first | (refine at_o 11 rfl rfl rfl rfl (op_loadRA rfl fagg_api_Model) ?_) | (refine at_o 11 rfl rfl rfl rfl (op_loadPA rfl fagg_api_Model rfl (by first | decide | simp) rfl) ?_)
  first | (refine at_o 12 rfl rfl rfl rfl (op_loadRA rfl fagg_api_Value) ?_) | (refine at_o 12 rfl rfl rfl rfl (op_loadPA rfl fagg_api_Value rfl (by first | decide | simp) rfl) ?_)
  refine at_o 13 rfl rfl rfl rfl (op_call0 rfl rfl rfl rfl (mdValid hm hc)) ?_
  refine at_o 14 rfl rfl rfl rfl (op_un rfl rfl) ?_
  refine at_end rfl ?_
  refine at_cond [1, 1, 0, 1, 0] [1, 1, 0, 1, 1] rfl rfl (fun hc2 => ?_) (fun hc2 => ?_)
  ·skip
   exact absurd hc2 (by simp)
  ·skip
   refine at_skip rfl ?_
   refine at_seq [1, 1, 1, 0] [1, 1, 1, 1] rfl ?_
   refine at_region rfl ?_
   refine at_c 4 rfl rfl rfl (.inr rfl) ?_
   refine at_end rfl ?_
   refine at_ret rfl (ret_one (t := 4) rfl rfl ?_ rfl)
   rfl
noncomputable def cQuiet : Code := Tryz.f86.body.getD .skip
set_option maxRecDepth 20000 in
theorem quiet_spec (m : Md) (hm : MdOK m) (c : List Int) (hc : CfOK m.ns m.np c) : FSpec PP 86 [.v (vMd m), .v (vCf c)] σ0 (.v (.list [])) σ0 := by
 refine spec_at cQuiet Tryz.func86 rfl (by kernel_rfl) (by first | decide | simp) _ (by dsimp only [Tryz.f86, List.length, Nat.reduceAdd, Nat.reduceSub, List.replicate, List.cons_append, List.nil_append]) ?_
 refine at_seq [0] [1] rfl ?_
 refine at_region rfl ?_
 refine at_o 2 rfl rfl rfl rfl (op_boxI rfl rfl) ?_
 refine at_o 3 rfl rfl rfl rfl (op_boxI rfl rfl) ?_
 refine at_c 4 rfl rfl rfl (.inr rfl) ?_
 refine at_end rfl ?_
 refine at_seq [1, 0] [1, 1] rfl ?_
 refine at_seq [1, 0, 0] [1, 0, 1] rfl ?_
 refine at_region rfl ?_
 first | (refine at_o 9 rfl rfl rfl rfl (op_fieldP rfl ffld0_api_Model (by decide)) ?_) | (refine at_o 9 rfl rfl rfl rfl (op_fieldR rfl ffld0_api_Model (by decide) (by decide) rfl) ?_)
 first | (refine at_o 10 rfl rfl rfl rfl (op_loadR1 rfl fone_int rfl) ?_) | (refine at_o 10 rfl rfl rfl rfl (op_loadP1 rfl fone_int rfl rfl) ?_)
 refine at_end rfl ?_
 refine at_block [1, 0, 1, 0] 0 rfl ?_
 refine at_seq [1, 0, 1, 0, 0] [1, 0, 1, 0, 1] rfl ?_
 refine at_seq [1, 0, 1, 0, 0, 0] [1, 0, 1, 0, 0, 1] rfl ?_
 refine at_region rfl ?_
 refine at_o 12 rfl rfl rfl rfl (op_binI rfl rfl) ?_
 refine at_m 12 11 rfl rfl rfl (.inr rfl) rfl ?_
 refine at_end rfl ?_
 refine at_cond [1, 0, 1, 0, 0, 1, 0] [1, 0, 1, 0, 0, 1, 1] rfl rfl (fun hc1 => ?_) (fun hc1 => ?_)
 ·skip
  exact absurd hc1 (by simp)
 ·skip
  refine at_region rfl ?_
  refine at_o 13 rfl rfl rfl rfl (op_binI rfl rfl) ?_
  refine at_m 13 11 rfl rfl rfl (.inr rfl) rfl ?_
  refine at_end rfl ?_
  refine at_cond [1, 0, 1, 0, 1, 0] [1, 0, 1, 0, 1, 1] rfl rfl (fun hc2 => ?_) (fun hc2 => ?_)
  ·skip
   exact absurd hc2 (by simp)
  ·skip
   refine at_seq [1, 0, 1, 0, 1, 1, 0] [1, 0, 1, 0, 1, 1, 1] rfl ?_
   refine at_region rfl ?_
   refine at_o 22 rfl rfl rfl rfl (op_binI rfl rfl) ?_
   refine at_m 22 21 rfl rfl rfl (.inr rfl) rfl ?_
   refine at_end rfl ?_
   refine at_cond [1, 0, 1, 0, 1, 1, 1, 0] [1, 0, 1, 0, 1, 1, 1, 1] rfl rfl (fun hc3 => ?_) (fun hc3 => ?_)
   ·skip
    exact absurd hc3 (by simp)
   ·skip
    refine at_skip rfl ?_
    refine run_blk ?_
    refine at_seq [1, 1, 0] [1, 1, 1] rfl ?_
    refine at_region rfl ?_
    refine at_c 4 rfl rfl rfl (.inr rfl) ?_
    refine at_end rfl ?_
    refine at_ret rfl (ret_one (t := 4) rfl rfl ?_ rfl)
    rfl
noncomputable def cCtChk : Code := Tryz.f136.body.getD .skip
set_option maxRecDepth 20000 in
theorem ctcheck_spec (m : Md) (hm : MdOK m) (c : List Int) (hc : CfOK m.ns m.np c) (k : Nat) (hk : k < m.rules.length) : FSpec PP 136 [.v (vMd m), di ↑k, .v (vCf c)] σ0 (di 0) σ0 := by
 refine spec_at cCtChk Tryz.func136 rfl (by kernel_rfl) (by first | decide | simp) _ (by dsimp only [Tryz.f136, List.length, Nat.reduceAdd, Nat.reduceSub, List.replicate, List.cons_append, List.nil_append]) ?_
 refine at_seq [0] [1] rfl ?_
 refine at_region rfl ?_
 refine at_o 3 rfl rfl rfl rfl (op_boxI rfl rfl) ?_
 refine at_o 5 rfl rfl rfl rfl (op_boxI rfl rfl) ?_
 refine at_c 6 rfl rfl rfl (.inr rfl) ?_
 refine at_end rfl ?_
 refine at_seq [1, 0] [1, 1] rfl ?_
 refine at_seq [1, 0, 0] [1, 0, 1] rfl ?_
 refine at_region rfl ?_
 first | (refine at_o 8 rfl rfl rfl rfl (op_loadRA rfl fagg_api_Model) ?_) | (refine at_o 8 rfl rfl rfl rfl (op_loadPA rfl fagg_api_Model rfl (by first | decide | simp) rfl) ?_)
 refine at_o 9 rfl rfl rfl rfl (op_call0 rfl rfl rfl rfl (mdCheck hm)) ?_
 refine at_m 9 7 rfl rfl rfl (.inr rfl) rfl ?_
 refine at_end rfl ?_
 refine at_seq [1, 0, 1, 0] [1, 0, 1, 1] rfl ?_
 refine at_region rfl ?_
 refine at_m 7 10 rfl rfl rfl (.inl rfl) rfl ?_
 refine at_o 11 rfl rfl rfl rfl (op_binI rfl rfl) ?_
 refine at_end rfl ?_
 refine at_cond [1, 0, 1, 1, 0] [1, 0, 1, 1, 1] rfl rfl (fun hc1 => ?_) (fun hc1 => ?_)
 ·skip
  exact absurd hc1 (by simp)
 ·skip
  refine at_skip rfl ?_
  refine at_seq [1, 1, 0] [1, 1, 1] rfl ?_
  refine at_block [1, 1, 0, 0] 0 rfl ?_
  refine at_seq [1, 1, 0, 0, 0] [1, 1, 0, 0, 1] rfl ?_
  refine at_region rfl ?_
  first | (refine at_o 14 rfl rfl rfl rfl (op_fieldP rfl ffld0_api_Model (by decide)) ?_) | (refine at_o 14 rfl rfl rfl rfl (op_fieldR rfl ffld0_api_Model (by decide) (by decide) rfl) ?_)
  first | (refine at_o 15 rfl rfl rfl rfl (op_loadR1 rfl fone_int rfl) ?_) | (refine at_o 15 rfl rfl rfl rfl (op_loadP1 rfl fone_int rfl rfl) ?_)
  refine at_o 16 rfl rfl rfl rfl (op_binI rfl rfl) ?_
  refine at_m 16 13 rfl rfl rfl (.inr rfl) rfl ?_
  refine at_end rfl ?_
  refine at_cond [1, 1, 0, 0, 1, 0] [1, 1, 0, 0, 1, 1] rfl rfl (fun hc2 => ?_) (fun hc2 => ?_)
  ·skip
   exact absurd hc2 (by simp)
  ·skip
   refine at_seq [1, 1, 0, 0, 1, 1, 0] [1, 1, 0, 0, 1, 1, 1] rfl ?_
   refine at_region rfl ?_
   refine at_m 1 18 rfl rfl rfl (.inl rfl) rfl ?_
   refine at_o 19 rfl rfl rfl rfl (op_binI rfl rfl) ?_
   rw [show decide ((k : Int) < 0) = false by simp]
   refine at_m 19 20 rfl rfl rfl (.inl rfl) rfl ?_
   refine at_m 1 21 rfl rfl rfl (.inl rfl) rfl ?_
   first | (refine at_o 22 rfl rfl rfl rfl (op_fieldP rfl ffld7_api_Model (by decide)) ?_) | (refine at_o 22 rfl rfl rfl rfl (op_fieldR rfl ffld7_api_Model (by decide) (by decide) rfl) ?_)
   first | (refine at_o 23 rfl rfl rfl rfl (op_loadR1 rfl fone_Sapi_Rule rfl) ?_) | (refine at_o 23 rfl rfl rfl rfl (op_loadP1 rfl fone_Sapi_Rule rfl rfl) ?_)
   first | (refine at_o 24 rfl rfl rfl rfl (op_lenL rfl fu_Sapi_Rule) ?_) | (refine at_o 24 rfl rfl rfl rfl (opOK_un (op_lenL rfl fu_Sapi_Rule)) ?_) | (refine at_o 24 rfl rfl rfl rfl (op_lenA rfl fu_Sapi_Rule) ?_)
   simp only [List.length_map]
   refine at_o 25 rfl rfl rfl rfl (op_binI rfl rfl) ?_
   refine at_pk false 20 25 26 rfl rfl rfl rfl rfl rfl rfl (by dsimp only [List.set]) ?_
   refine at_m 26 17 rfl rfl rfl (.inr rfl) rfl ?_
   refine at_end rfl ?_
   refine at_cond [1, 1, 0, 0, 1, 1, 1, 0] [1, 1, 0, 0, 1, 1, 1, 1] rfl rfl (fun hc3 => ?_) (fun hc3 => ?_)
   ·skip
    exact absurd hc3 (by simp; omega)
   ·skip
    refine at_seq [1, 1, 0, 0, 1, 1, 1, 1, 0] [1, 1, 0, 0, 1, 1, 1, 1, 1] rfl ?_
    refine at_region rfl ?_
    first | (refine at_o 28 rfl rfl rfl rfl (op_loadRA rfl fagg_api_Model) ?_) | (refine at_o 28 rfl rfl rfl rfl (op_loadPA rfl fagg_api_Model rfl (by first | decide | simp) rfl) ?_)
    first | (refine at_o 29 rfl rfl rfl rfl (op_loadRA rfl fagg_api_Value) ?_) | (refine at_o 29 rfl rfl rfl rfl (op_loadPA rfl fagg_api_Value rfl (by first | decide | simp) rfl) ?_)
    refine at_o 30 rfl rfl rfl rfl (op_call0 rfl rfl rfl rfl (mdValid hm hc)) ?_
    refine at_o 31 rfl rfl rfl rfl (op_un rfl rfl) ?_
    refine at_m 31 27 rfl rfl rfl (.inr rfl) rfl ?_
    refine at_end rfl ?_
    refine at_cond [1, 1, 0, 0, 1, 1, 1, 1, 1, 0] [1, 1, 0, 0, 1, 1, 1, 1, 1, 1] rfl rfl (fun hc4 => ?_) (fun hc4 => ?_)
    ·skip
     exact absurd hc4 (by simp)
    ·skip
     refine at_skip rfl ?_
     refine run_blk ?_
     refine at_seq [1, 1, 1, 0] [1, 1, 1, 1] rfl ?_
     refine at_region rfl ?_
     refine at_c 6 rfl rfl rfl (.inr rfl) ?_
     refine at_end rfl ?_
     refine at_ret rfl (ret_one (t := 6) rfl rfl ?_ rfl)
     rfl
noncomputable def cEn : Code := Tryz.f137.body.getD .skip
set_option maxRecDepth 20000 in
theorem en_loop (r : Rl) (l : List Int) (hl : l.length = r.need.length) (hl2 : l.length ≤ 100) (T : Bool) (m : Nat) : ∀ (i : Nat), l.length - i = m → T = geQ (l.drop i) (r.need.drop i) → Run PP (fun env σ1 => ResOK PP Tryz.f137 env σ1 (db T) σ0) [.lp (sub cEn [1, 1, 0, 1, 0, 0]), .blk 0, .code (sub cEn [1, 1, 1])] (.undef :: .undef :: (.v (.ref (vRl r))) :: .undef :: .undef :: .undef :: .undef :: .undef :: .undef :: .undef :: .undef :: .undef :: .undef :: .undef :: .undef :: .undef :: .undef :: (.v (.list (l.map vN))) :: (di ↑l.length) :: (di ↑i) :: .undef :: .undef :: .undef :: .undef :: .undef :: .undef :: .undef :: .undef :: .undef :: .undef :: .undef :: .undef :: .undef :: []) σ0 := by
 induction m using Nat.strongRecOn with
 | _ m ih =>
  intro i hm hT
  refine run_lp ?_
  refine at_seq [1, 1, 0, 1, 0, 0, 0] [1, 1, 0, 1, 0, 0, 1] rfl ?_
  refine at_region rfl ?_
  refine at_o 20 rfl rfl rfl rfl (op_binI rfl rfl) ?_
  refine at_end rfl ?_
  refine at_seq [1, 1, 0, 1, 0, 0, 1, 0] [1, 1, 0, 1, 0, 0, 1, 1] rfl ?_
  refine at_cond [1, 1, 0, 1, 0, 0, 1, 0, 0] [1, 1, 0, 1, 0, 0, 1, 0, 1] rfl rfl (fun hc1 => ?_) (fun hc1 => ?_)
  ·skip
   have hlt : i < l.length := by simpa using hc1
   obtain ⟨x, hx⟩ := get_ex hlt
   obtain ⟨y, hy⟩ := get_ex (a := r.need) (i := i) (by omega)
   have hx2 := idx_some (f := vN) hx
   have hy2 := idx_some (f := vi) hy
   rw [List.drop_eq_getElem_cons hlt, List.drop_eq_getElem_cons (show i < r.need.length by omega), (List.getElem?_eq_some_iff.1 hx).2, (List.getElem?_eq_some_iff.1 hy).2] at hT
   simp only [geQ, List.zip_cons_cons, List.all_cons] at hT
   refine at_skip rfl ?_
   refine at_seq [1, 1, 0, 1, 0, 0, 1, 1, 0] [1, 1, 0, 1, 0, 0, 1, 1, 1] rfl ?_
   refine at_block [1, 1, 0, 1, 0, 0, 1, 1, 0, 0] 1 rfl ?_
   refine at_seq [1, 1, 0, 1, 0, 0, 1, 1, 0, 0, 0] [1, 1, 0, 1, 0, 0, 1, 1, 0, 0, 1] rfl ?_
   refine at_region rfl ?_
   refine at_m 19 21 rfl rfl rfl (.inl rfl) rfl ?_
   first | (refine at_o 22 rfl rfl rfl rfl (op_idxL rfl fsl_Sapi_Value (by first | decide | omega) (by first | assumption | exact idx_some (by assumption) | rfl) (by first | rfl | (simp [V.size]; done))) ?_) | (refine at_o 22 rfl rfl rfl rfl (opOK_un (op_idxL rfl fsl_Sapi_Value (by first | decide | omega) (by first | assumption | exact idx_some (by assumption) | rfl) (by first | rfl | (simp [V.size]; done)))) ?_) | (refine at_o 22 rfl rfl rfl rfl (op_idxA rfl fsl_Sapi_Value (by first | decide | omega) (by first | decide | omega)) ?_)
   first | (refine at_o 23 rfl rfl rfl rfl (op_loadRA rfl fagg_api_Value) ?_) | (refine at_o 23 rfl rfl rfl rfl (op_loadPA rfl fagg_api_Value rfl (by first | decide | simp) rfl) ?_)
   refine at_new1 23 6 21 5 rfl rfl rfl rfl fzero_api_Value rfl rfl rfl (.inr rfl) rfl (by decide) (by decide) (by decide) rfl rfl rfl rfl (by decide) rfl rfl fagg_api_Value (by first | rfl | (simp [V.size]; done)) rfl (by simp only [List.length_cons]; omega) (by dsimp only [List.set]) ?_
   refine at_end rfl ?_
   refine at_seq [1, 1, 0, 1, 0, 0, 1, 1, 0, 0, 1, 0] [1, 1, 0, 1, 0, 0, 1, 1, 0, 0, 1, 1] rfl ?_
   refine at_draw mixed rfl [σ0] rfl ?_
   first | (refine da_q 24 rfl rfl rfl rfl (fun s hs => op_fieldP rfl ffld0_api_Value (by decide)) ?_) | (refine da_q 24 rfl rfl rfl rfl (fun s hs => op_fieldR rfl ffld0_api_Value (by decide) (by decide) rfl) ?_)
   first | (refine da_q 25 rfl rfl rfl rfl (fun s hs => op_loadR1 rfl fone_int rfl) ?_) | (refine da_q 25 rfl rfl rfl rfl (by intro s hs; simp only [List.mem_cons, List.not_mem_nil, or_false] at hs; rcases hs with rfl <;> exact op_loadP1 rfl fone_int rfl rfl) ?_)
   first | (refine da_q 26 rfl rfl rfl rfl (fun s hs => op_fieldP rfl ffld3_api_Rule (by decide)) ?_) | (refine da_q 26 rfl rfl rfl rfl (fun s hs => op_fieldR rfl ffld3_api_Rule (by decide) (by decide) rfl) ?_)
   first | (refine da_q 27 rfl rfl rfl rfl (fun s hs => op_loadR1 rfl fone_Sint rfl) ?_) | (refine da_q 27 rfl rfl rfl rfl (by intro s hs; simp only [List.mem_cons, List.not_mem_nil, or_false] at hs; rcases hs with rfl <;> exact op_loadP1 rfl fone_Sint rfl rfl) ?_)
   refine da_m 5 28 rfl rfl rfl (.inl rfl) rfl ?_
   first | (refine da_q 29 rfl rfl rfl rfl (fun s hs => op_idxL rfl fsl_Sint (by first | decide | omega) (by first | assumption | exact idx_some (by assumption) | rfl) (by first | rfl | (simp [V.size]; done))) ?_) | (refine da_q 29 rfl rfl rfl rfl (fun s hs => opOK_un (op_idxL rfl fsl_Sint (by first | decide | omega) (by first | assumption | exact idx_some (by assumption) | rfl) (by first | rfl | (simp [V.size]; done)))) ?_) | (refine da_q 29 rfl rfl rfl rfl (fun s hs => op_idxA rfl fsl_Sint (by first | decide | omega) (by first | decide | omega)) ?_)
   first | (refine da_q 30 rfl rfl rfl rfl (fun s hs => op_loadR1 rfl fone_int rfl) ?_) | (refine da_q 30 rfl rfl rfl rfl (by intro s hs; simp only [List.mem_cons, List.not_mem_nil, or_false] at hs; rcases hs with rfl <;> exact op_loadP1 rfl fone_int rfl rfl) ?_)
   refine da_q 31 rfl rfl rfl rfl (fun s hs => op_binI rfl rfl) ?_
   refine da_end rfl ⟨by decide +kernel, _, rfl, ?_⟩
   refine at_cond [1, 1, 0, 1, 0, 0, 1, 1, 0, 0, 1, 1, 0] [1, 1, 0, 1, 0, 0, 1, 1, 0, 0, 1, 1, 1] rfl rfl (fun hc2 => ?_) (fun hc2 => ?_)
   ·skip
    have hxy : x < y := by simpa using hc2
    rw [show decide (y ≤ x) = false by simp; omega, Bool.false_and] at hT
    refine at_seq [1, 1, 0, 1, 0, 0, 1, 1, 0, 0, 1, 1, 0, 0] [1, 1, 0, 1, 0, 0, 1, 1, 0, 0, 1, 1, 0, 1] rfl ?_
    refine at_region rfl ?_
    refine at_c 4 rfl rfl rfl (.inr rfl) ?_
    refine at_end rfl ?_
    refine at_ret rfl (ret_one (t := 4) rfl rfl ?_ rfl)
    rw [hT]; try rfl
   ·skip
    have hxy : ¬ x < y := by simpa using hc2
    rw [show decide (y ≤ x) = true by simp; omega, Bool.true_and] at hT
    refine at_skip rfl ?_
    refine run_blk ?_
    refine at_region rfl ?_
    refine at_o 32 rfl rfl rfl rfl (op_binI rfl rfl) ?_
    rw [wrap_succ (by omega)]
    refine at_m 32 19 rfl rfl rfl (.inl rfl) rfl ?_
    refine at_end rfl ?_
    exact run_wk (.drop (.drop (.keep (.d4 (.d4 (.d4 (.drop (.drop (.keep (.keep (.keep (.d4 (.d4 (.d4 (.drop .nil))))))))))))))) (ih _ (by omega) (i + 1) rfl hT)
  ·skip
   have hge : l.length ≤ i := by simpa using hc1
   rw [List.drop_of_length_le hge] at hT
   simp only [geQ, List.zip_nil_left, List.all_nil] at hT
   refine at_exit rfl rfl ?_
   refine at_seq [1, 1, 1, 0] [1, 1, 1, 1] rfl ?_
   refine at_region rfl ?_
   refine at_c 4 rfl rfl rfl (.inr rfl) ?_
   refine at_end rfl ?_
   refine at_ret rfl (ret_one (t := 4) rfl rfl ?_ rfl)
   rw [hT]; try rfl
set_option maxRecDepth 20000 in
theorem en_spec (r : Rl) (s : Int) (l : List Int) (hl : l.length = r.need.length) (hl2 : l.length ≤ 100) : FSpec PP 137 [.v (vRl r), .v (vCf (s :: l))] σ0 (db (enQ r (s :: l))) σ0 := by
 refine spec_at cEn Tryz.func137 rfl (by kernel_rfl) (by first | decide | simp) _ (by dsimp only [Tryz.f137, List.length, Nat.reduceAdd, Nat.reduceSub, List.replicate, List.cons_append, List.nil_append]) ?_
 refine at_seq [0] [1] rfl ?_
 refine at_region rfl ?_
 refine at_o 2 rfl rfl rfl rfl (op_boxI rfl rfl) ?_
 refine at_o 3 rfl rfl rfl rfl (op_boxI rfl rfl) ?_
 refine at_c 4 rfl rfl rfl (.inr rfl) ?_
 refine at_end rfl ?_
 refine at_seq [1, 0] [1, 1] rfl ?_
 refine at_seq [1, 0, 0] [1, 0, 1] rfl ?_
 refine at_draw mixed rfl [σ0] rfl ?_
 first | (refine da_q 7 rfl rfl rfl rfl (fun s hs => op_fieldP rfl ffld1_api_Value (by decide)) ?_) | (refine da_q 7 rfl rfl rfl rfl (fun s hs => op_fieldR rfl ffld1_api_Value (by decide) (by decide) rfl) ?_)
 first | (refine da_q 8 rfl rfl rfl rfl (fun s hs => op_loadR1 rfl fone_Sapi_Value rfl) ?_) | (refine da_q 8 rfl rfl rfl rfl (by intro s hs; simp only [List.mem_cons, List.not_mem_nil, or_false] at hs; rcases hs with rfl <;> exact op_loadP1 rfl fone_Sapi_Value rfl rfl) ?_)
 first | (refine da_q 9 rfl rfl rfl rfl (fun s hs => op_idxL rfl fsl_Sapi_Value (by first | decide | omega) (by first | assumption | exact idx_some (by assumption) | rfl) (by first | rfl | (simp [V.size]; done))) ?_) | (refine da_q 9 rfl rfl rfl rfl (fun s hs => opOK_un (op_idxL rfl fsl_Sapi_Value (by first | decide | omega) (by first | assumption | exact idx_some (by assumption) | rfl) (by first | rfl | (simp [V.size]; done)))) ?_) | (refine da_q 9 rfl rfl rfl rfl (fun s hs => op_idxA rfl fsl_Sapi_Value (by first | decide | omega) (by first | decide | omega)) ?_)
 first | (refine da_q 10 rfl rfl rfl rfl (fun s hs => op_fieldP rfl ffld0_api_Value (by decide)) ?_) | (refine da_q 10 rfl rfl rfl rfl (fun s hs => op_fieldR rfl ffld0_api_Value (by decide) (by decide) rfl) ?_)
 first | (refine da_q 11 rfl rfl rfl rfl (fun s hs => op_loadR1 rfl fone_int rfl) ?_) | (refine da_q 11 rfl rfl rfl rfl (by intro s hs; simp only [List.mem_cons, List.not_mem_nil, or_false] at hs; rcases hs with rfl <;> exact op_loadP1 rfl fone_int rfl rfl) ?_)
 first | (refine da_q 12 rfl rfl rfl rfl (fun s hs => op_fieldP rfl ffld1_api_Rule (by decide)) ?_) | (refine da_q 12 rfl rfl rfl rfl (fun s hs => op_fieldR rfl ffld1_api_Rule (by decide) (by decide) rfl) ?_)
 first | (refine da_q 13 rfl rfl rfl rfl (fun s hs => op_loadR1 rfl fone_int rfl) ?_) | (refine da_q 13 rfl rfl rfl rfl (by intro s hs; simp only [List.mem_cons, List.not_mem_nil, or_false] at hs; rcases hs with rfl <;> exact op_loadP1 rfl fone_int rfl rfl) ?_)
 refine da_q 14 rfl rfl rfl rfl (fun s hs => op_binI rfl rfl) ?_
 refine da_end rfl ⟨by decide +kernel, _, rfl, ?_⟩
 refine at_cond [1, 0, 1, 0] [1, 0, 1, 1] rfl rfl (fun hc1 => ?_) (fun hc1 => ?_)
 ·skip
  have hne : ¬ s = r.frm := by simpa using hc1
  rw [show enQ r (s :: l) = false by simp [enQ, hne]]
  refine at_seq [1, 0, 1, 0, 0] [1, 0, 1, 0, 1] rfl ?_
  refine at_region rfl ?_
  refine at_c 4 rfl rfl rfl (.inr rfl) ?_
  refine at_end rfl ?_
  refine at_ret rfl (ret_one (t := 4) rfl rfl ?_ rfl)
  rfl
 ·skip
  have he : s = r.frm := by simpa using hc1
  rw [show enQ r (s :: l) = geQ l r.need by simp [enQ, he]]
  refine at_skip rfl ?_
  refine at_seq [1, 1, 0] [1, 1, 1] rfl ?_
  refine at_seq [1, 1, 0, 0] [1, 1, 0, 1] rfl ?_
  refine at_region rfl ?_
  first | (refine at_o 15 rfl rfl rfl rfl (op_fieldP rfl ffld1_api_Value (by decide)) ?_) | (refine at_o 15 rfl rfl rfl rfl (op_fieldR rfl ffld1_api_Value (by decide) (by decide) rfl) ?_)
  first | (refine at_o 16 rfl rfl rfl rfl (op_loadR1 rfl fone_Sapi_Value rfl) ?_) | (refine at_o 16 rfl rfl rfl rfl (op_loadP1 rfl fone_Sapi_Value rfl rfl) ?_)
  refine at_o 17 rfl rfl rfl rfl (op_sliceL rfl fsl_Sapi_Value (by simp [V.size]) (by decide) (some (_, _)) none rfl rfl (l' := 1) (h' := (List.map vN (s :: l)).length) (by simp [sliceI]; omega)) ?_
  rw [kids_drop]
  first | (refine at_o 18 rfl rfl rfl rfl (op_lenL rfl fu_Sapi_Value) ?_) | (refine at_o 18 rfl rfl rfl rfl (opOK_un (op_lenL rfl fu_Sapi_Value)) ?_) | (refine at_o 18 rfl rfl rfl rfl (op_lenA rfl fu_Sapi_Value) ?_)
  simp only [List.length_map]
  refine at_c 19 rfl rfl rfl (.inl rfl) ?_
  refine at_end rfl ?_
  refine at_block [1, 1, 0, 1, 0] 0 rfl ?_
  refine at_loop [1, 1, 0, 1, 0, 0] rfl ?_
  try simp only [List.length_map, List.length_nil, Int.toNat_natCast]
  exact run_wk (.drop (.drop (.keep (.d4 (.d4 (.d4 (.drop (.drop (.keep (.keep (.keep (.d4 (.d4 (.d4 (.drop .nil))))))))))))))) (en_loop r l hl hl2 _ _ 0 rfl (by simp))
noncomputable def cMoved : Code := Tryz.f139.body.getD .skip
set_option maxRecDepth 20000 in
theorem moved_spec (r : Rl) (x : Int) : FSpec PP 139 [.v (vRl r), di x] σ0 (di x) σ0 := by
 refine spec_at cMoved Tryz.func139 rfl (by kernel_rfl) (by first | decide | simp) _ (by dsimp only [Tryz.f139, List.length, Nat.reduceAdd, Nat.reduceSub, List.replicate, List.cons_append, List.nil_append]) ?_
 refine at_seq [0] [1] rfl ?_
 refine at_region rfl ?_
 refine at_o 2 rfl rfl rfl rfl (op_boxI rfl rfl) ?_
 refine at_c 4 rfl rfl rfl (.inr rfl) ?_
 refine at_end rfl ?_
 refine at_seq [1, 0] [1, 1] rfl ?_
 refine at_seq [1, 0, 0] [1, 0, 1] rfl ?_
 refine at_region rfl ?_
 first | (refine at_o 5 rfl rfl rfl rfl (op_fieldP rfl ffld5_api_Rule (by decide)) ?_) | (refine at_o 5 rfl rfl rfl rfl (op_fieldR rfl ffld5_api_Rule (by decide) (by decide) rfl) ?_)
 first | (refine at_o 6 rfl rfl rfl rfl (op_loadR1 rfl fone_Sint rfl) ?_) | (refine at_o 6 rfl rfl rfl rfl (op_loadP1 rfl fone_Sint rfl rfl) ?_)
 refine at_o 7 rfl rfl rfl rfl (opOK_see (.cons .nils .nil) (op_lenL rfl fu_Sint)) ?_
 refine at_o 8 rfl rfl rfl rfl (op_binI rfl rfl) ?_
 refine at_end rfl ?_
 refine at_cond [1, 0, 1, 0] [1, 0, 1, 1] rfl rfl (fun hc1 => ?_) (fun hc1 => ?_)
 ·skip
  refine at_seq [1, 0, 1, 0, 0] [1, 0, 1, 0, 1] rfl ?_
  refine at_region rfl ?_
  refine at_m 1 9 rfl rfl rfl (.inl rfl) rfl ?_
  refine at_m 9 4 rfl rfl rfl (.inr rfl) rfl ?_
  refine at_end rfl ?_
  refine at_ret rfl (ret_one (t := 4) rfl rfl ?_ rfl)
  rfl
 ·skip
  exact absurd hc1 (by simp)
noncomputable def cCloneI : Code := Tryz.f138.body.getD .skip
set_option maxRecDepth 20000 in
theorem cloneI_spec (xs : List Int) (hx : xs ≠ []) (hl : xs.length ≤ 1000) : FSpec PP 138 [dl xs] σ0 (.arr 1 0 xs.length) ⟨[none, some (dli xs)], []⟩ := by
 refine spec_at cCloneI Tryz.func138 rfl (by kernel_rfl) (by first | decide | simp) _ (by dsimp only [Tryz.f138, List.length, Nat.reduceAdd, Nat.reduceSub, List.replicate, List.cons_append, List.nil_append]) ?_
 refine at_seq [0] [1] rfl ?_
 refine at_region rfl ?_
 refine at_c 2 rfl rfl rfl (.inr rfl) ?_
 refine at_end rfl ?_
 refine at_seq [1, 0] [1, 1] rfl ?_
 refine at_seq [1, 0, 0] [1, 0, 1] rfl ?_
 refine at_region rfl ?_
 refine at_m 0 3 rfl rfl rfl (.inl rfl) rfl ?_
 refine at_o 4 rfl rfl rfl rfl (op_eqNilF rfl fu_Sint (by simpa using hx)) ?_
 refine at_end rfl ?_
 refine at_false [1, 0, 1, 0] [1, 0, 1, 1] rfl rfl ?_
 refine at_skip rfl ?_
 refine at_seq [1, 1, 0] [1, 1, 1] rfl ?_
 refine at_region rfl ?_
 refine at_opS (some 5) rfl rfl rfl rfl (op_buildSlice0G rfl rfl fsl_Sint) (by dsimp only [putD, List.set]) (by dsimp only [List.set, List.append, List.cons_append, List.nil_append, cellsD, List.map, repl, List.length, Nat.reduceAdd, if_true, ↓reduceIte]; first | done | rfl) ?_
 refine at_m 0 6 rfl rfl rfl (.inl rfl) rfl ?_
 refine at_opS (some 7) rfl rfl rfl rfl (op_appendGV rfl fsl_Sint rfl (by decide) rfl rfl (by simp [V.size]) (by simpa using hx) (by simp; omega) (by simp; omega)) (by dsimp only [putD, List.set]) (by dsimp only [List.set, List.append, List.cons_append, List.nil_append, cellsD, List.map, repl, List.length, Nat.reduceAdd, if_true, ↓reduceIte]; first | done | rfl) ?_
 simp only [List.nil_append, flat_ints, List.length_map, Nat.zero_add, List.length_nil]
 try simp only [List.set_cons_zero, List.cons_append, List.nil_append]
 refine at_m 7 2 rfl rfl rfl (.inr rfl) rfl ?_
 refine at_end rfl ?_
 refine at_ret rfl (resOK_cv (cv_sub (.cons (.same _) (.cons (.same _) (.cons .gro (.cons (.same _) (.cons (.same _) (.cons (.same _) (.cons (.same _) (.cons .gro .nil))))))))) ?_)
 exact res_okA (.tmp rfl .nil) 2 rfl (by simp) (fun i cs h => by match i, h with | 0, h => simp at h | 1, h => (simp at h; subst h; exact pls_dli _) | i + 2, h => simp at h) (List.Sublist.refl _) (by decide)
end Go.Proofs.YtmdipbhjhkckjaaGreat

namespace Go.Proofs.YtmdipbhjhkckjaaGreat
open Go.Dv
theorem built_kids (a : Option Addr) (len cap : Nat) : PP.built 31 [(1, .slice a len cap)] = some #[.int .i64 0, .slice a len cap] := by kernel_rfl
theorem op_buildKids {o : Oper} {σ : St} {x : Operand} (ho : o.op = .build 31 #[(1, x)]) {k : Nat} {xs : List V} : OpOK PP o [.acc k xs] σ (.dagg [di 0, .acc k xs]) σ := by
 intro E g a w K Q hw hds hK
 simp only [ho, Op.operands] at hds
 obtain ⟨u, eq, h1⟩ := repDs_one.1 hds
 have e1 : a.eval x = u := by simpa using eq
 have h1' := h1
 simp only [repD] at h1
 obtain ⟨ad, cap, rfl, _, _⟩ := repV_list.1 h1.1
 have hrun := run_build (P := PP) w 31 #[(1, a.eval x)] _ (by rw [e1]; exact built_kids ad xs.length cap)
 have := hK g w (.agg #[.int .i64 0, .slice ad xs.length cap]) hw g.le_refl (by
  simp only [repD, repDs, repV_int]
  exact ⟨[.int .i64 0, .slice ad xs.length cap], rfl, _, _, rfl, rfl, _, _, rfl, h1, rfl⟩)
 unfold Oper.wp execOp
 simp only [ho]
 simp only [Sem.run_bind]
 rw [show ((#[(1, x)] : Array (Nat × Operand)).map fun (x : Nat × Operand) => match x with | (i, x) => (i, a.eval x)) = #[(1, a.eval x)] from by simp, hrun]
 exact this
abbrev stV (v : List Int) : St := ⟨[some [di 0, .v .nils], some (dli v)], []⟩
abbrev stK (v acc : List Int) : St := ⟨[some [di 0, .v .nils], some (dli v), some [di 0, .acc 1 (acc.map vN)]], [(1, 2, acc.map vN)]⟩
theorem apN_small : ∀ (g l n : List Int), (∀ x ∈ g, 0 ≤ x ∧ x ≤ 1000) → (∀ x ∈ l, 0 ≤ x ∧ x ≤ 1000) → (∀ x ∈ n, 0 ≤ x ∧ x ≤ 1000) → ∀ y ∈ apN g l n, y ≤ 1048576
 | g :: gs, x :: xs, n :: ns, h1, h2, h3 => by
  intro y hy
  simp only [apN, List.mem_cons] at hy
  rcases hy with rfl | hy
  ·have a := h1 g (by simp)
   have b := h2 x (by simp)
   have c := h3 n (by simp)
   omega
  ·exact apN_small gs xs ns (fun z hz => h1 z (by simp [hz])) (fun z hz => h2 z (by simp [hz])) (fun z hz => h3 z (by simp [hz])) y hy
 | [], _, _, _, _, _ => by simp [apN]
 | _ :: _, [], _, _, _, _ => by simp [apN]
 | _ :: _, _ :: _, [], _, _, _ => by simp [apN]
noncomputable def cApply : Code := Tryz.f88.body.getD .skip
set_option maxRecDepth 20000 in
theorem ap_l1 (R : List D → St → Prop) (K : List KI) (r : Rl) (l : List Int) (hgl : r.give.length = l.length) (hnl : r.need.length = l.length) (hl : l.length ≤ 100) (hlb : ∀ x ∈ l, 0 ≤ x ∧ x ≤ 1000) (hgb : ∀ x ∈ r.give, 0 ≤ x ∧ x ≤ 1000) (hnb : ∀ x ∈ r.need, 0 ≤ x ∧ x ≤ 1000) (T : List Int) (hk : Run PP R K (.undef :: .undef :: .undef :: .undef :: .undef :: .undef :: (.ptr 0 0) :: .undef :: .undef :: (.v (.ref (vRl r))) :: (.arr 1 0 r.give.length) :: .undef :: .undef :: .undef :: .undef :: .undef :: .undef :: .undef :: .undef :: .undef :: .undef :: .undef :: .undef :: .undef :: .undef :: .undef :: .undef :: .undef :: .undef :: .undef :: .undef :: .undef :: .undef :: .undef :: .undef :: .undef :: .undef :: .undef :: .undef :: .undef :: .undef :: .undef :: .undef :: .undef :: .undef :: .undef :: .undef :: .undef :: .undef :: .undef :: .undef :: .undef :: .undef :: .undef :: .undef :: .undef :: .undef :: .undef :: .undef :: .undef :: .undef :: .undef :: .undef :: .undef :: .undef :: .undef :: .undef :: .undef :: .undef :: .undef :: .undef :: .undef :: .undef :: .undef :: .undef :: .undef :: .undef :: .undef :: .undef :: .undef :: .undef :: .undef :: .undef :: .undef :: .undef :: .undef :: .undef :: .undef :: .undef :: .undef :: []) (stV T)) (m : Nat) : ∀ (i : Nat) (v : List Int), l.length - i = m → v.length = l.length → v.drop i = r.give.drop i → T = v.take i ++ apN (r.give.drop i) (l.drop i) (r.need.drop i) → Run PP R (.lp (sub cApply [1, 1, 1, 1, 1, 0, 1, 0, 0]) :: .blk 0 :: K) (.undef :: .undef :: .undef :: .undef :: .undef :: .undef :: (.ptr 0 0) :: .undef :: .undef :: (.v (.ref (vRl r))) :: (.arr 1 0 r.give.length) :: .undef :: .undef :: .undef :: .undef :: .undef :: .undef :: .undef :: .undef :: .undef :: .undef :: .undef :: .undef :: .undef :: .undef :: .undef :: .undef :: .undef :: .undef :: .undef :: .undef :: .undef :: .undef :: .undef :: .undef :: .undef :: .undef :: .undef :: .undef :: .undef :: (.v (.list (l.map vN))) :: (di ↑l.length) :: (di ↑i) :: .undef :: .undef :: .undef :: .undef :: .undef :: .undef :: .undef :: .undef :: .undef :: .undef :: .undef :: .undef :: .undef :: .undef :: .undef :: .undef :: .undef :: .undef :: .undef :: .undef :: .undef :: .undef :: .undef :: .undef :: .undef :: .undef :: .undef :: .undef :: .undef :: .undef :: .undef :: .undef :: .undef :: .undef :: .undef :: .undef :: .undef :: .undef :: .undef :: .undef :: .undef :: .undef :: .undef :: .undef :: .undef :: .undef :: .undef :: []) (stV v) := by
 induction m using Nat.strongRecOn with
 | _ m ih =>
  intro i v hm hvl hvd hT
  refine run_lp ?_
  refine at_seq [1, 1, 1, 1, 1, 0, 1, 0, 0, 0] [1, 1, 1, 1, 1, 0, 1, 0, 0, 1] rfl ?_
  refine at_region rfl ?_
  refine at_o 43 rfl rfl rfl rfl (op_binI rfl rfl) ?_
  refine at_end rfl ?_
  refine at_seq [1, 1, 1, 1, 1, 0, 1, 0, 0, 1, 0] [1, 1, 1, 1, 1, 0, 1, 0, 0, 1, 1] rfl ?_
  refine at_cond [1, 1, 1, 1, 1, 0, 1, 0, 0, 1, 0, 0] [1, 1, 1, 1, 1, 0, 1, 0, 0, 1, 0, 1] rfl rfl (fun hc1 => ?_) (fun hc1 => ?_)
  ·skip
   have hlt : i < l.length := by simpa using hc1
   obtain ⟨x, hx⟩ := get_ex hlt
   obtain ⟨y, hy⟩ := get_ex (a := r.need) (i := i) (by omega)
   obtain ⟨g, hg⟩ := get_ex (a := r.give) (i := i) (by omega)
   have hx2 := idx_some (f := vN) hx
   have hy2 := idx_some (f := vi) hy
   have hv : v[i]? = some g := by have h1 := congrArg (fun l => l[0]?) hvd; simpa [hg] using h1
   have hv2 := dli_get hv
   have bx := hlb x (List.mem_of_getElem? hx)
   have by_ := hnb y (List.mem_of_getElem? hy)
   have bg := hgb g (List.mem_of_getElem? hg)
   rw [apN_at hg hx hy] at hT
   have hT2 : T = (v.set i (g + (x - y))).take (i + 1) ++ apN (r.give.drop (i + 1)) (l.drop (i + 1)) (r.need.drop (i + 1)) := by rw [hT, List.take_succ_eq_append_getElem (by simp; omega), List.getElem_set_self, List.take_set_of_le (Nat.le_refl _)]; simp
   have hvd2 : (v.set i (g + (x - y))).drop (i + 1) = r.give.drop (i + 1) := by rw [List.drop_set_of_lt (by omega), ← List.drop_drop, hvd, List.drop_drop]
   refine at_skip rfl ?_
   refine at_seq [1, 1, 1, 1, 1, 0, 1, 0, 0, 1, 1, 0] [1, 1, 1, 1, 1, 0, 1, 0, 0, 1, 1, 1] rfl ?_
   refine at_block [1, 1, 1, 1, 1, 0, 1, 0, 0, 1, 1, 0, 0] 1 rfl ?_
   refine at_seq [1, 1, 1, 1, 1, 0, 1, 0, 0, 1, 1, 0, 0, 0] [1, 1, 1, 1, 1, 0, 1, 0, 0, 1, 1, 0, 0, 1] rfl ?_
   refine at_region rfl ?_
   refine at_m 42 44 rfl rfl rfl (.inl rfl) rfl ?_
   first | (refine at_o 45 rfl rfl rfl rfl (op_idxL rfl fsl_Sapi_Value (by first | decide | omega) (by first | assumption | exact idx_some (by assumption) | rfl) (by first | rfl | (simp [V.size]; done))) ?_) | (refine at_o 45 rfl rfl rfl rfl (opOK_un (op_idxL rfl fsl_Sapi_Value (by first | decide | omega) (by first | assumption | exact idx_some (by assumption) | rfl) (by first | rfl | (simp [V.size]; done)))) ?_) | (refine at_o 45 rfl rfl rfl rfl (op_idxA rfl fsl_Sapi_Value (by first | decide | omega) (by first | decide | omega)) ?_)
   first | (refine at_o 46 rfl rfl rfl rfl (op_loadRA rfl fagg_api_Value) ?_) | (refine at_o 46 rfl rfl rfl rfl (op_loadPA rfl fagg_api_Value rfl (by first | decide | simp) rfl) ?_)
   refine at_new1 46 12 44 11 rfl rfl rfl rfl fzero_api_Value rfl rfl rfl (.inr rfl) rfl (by decide) (by decide) (by decide) rfl rfl rfl rfl (by decide) rfl rfl fagg_api_Value (by first | rfl | (simp [V.size]; done)) rfl (by simp only [List.length_cons]; omega) (by dsimp only [List.set]) ?_
   refine at_end rfl ?_
   refine at_seq [1, 1, 1, 1, 1, 0, 1, 0, 0, 1, 1, 0, 0, 1, 0] [1, 1, 1, 1, 1, 0, 1, 0, 0, 1, 1, 0, 0, 1, 1] rfl ?_
   refine at_region rfl ?_
   first | (refine at_o 47 rfl rfl rfl rfl (op_loadRA rfl fagg_api_Rule) ?_) | (refine at_o 47 rfl rfl rfl rfl (op_loadPA rfl fagg_api_Rule rfl (by first | decide | simp) rfl) ?_)
   refine at_m 11 48 rfl rfl rfl (.inl rfl) rfl ?_
   refine at_o 49 rfl rfl rfl rfl (op_call0 rfl rfl rfl rfl (moved_spec r _)) ?_
   refine at_m 49 13 rfl rfl rfl (.inr rfl) rfl ?_
   refine at_end rfl ?_
   refine at_seq [1, 1, 1, 1, 1, 0, 1, 0, 0, 1, 1, 0, 0, 1, 1, 0] [1, 1, 1, 1, 1, 0, 1, 0, 0, 1, 1, 0, 0, 1, 1, 1] rfl ?_
   refine at_region rfl ?_
   refine at_m 13 50 rfl rfl rfl (.inl rfl) rfl ?_
   refine at_o 51 rfl rfl rfl rfl (op_binI rfl rfl) ?_
   refine at_end rfl ?_
   refine at_cond [1, 1, 1, 1, 1, 0, 1, 0, 0, 1, 1, 0, 0, 1, 1, 1, 0] [1, 1, 1, 1, 1, 0, 1, 0, 0, 1, 1, 0, 0, 1, 1, 1, 1] rfl rfl (fun hc2 => ?_) (fun hc2 => ?_)
   ·skip
    refine at_draw mixed rfl [stV v, ⟨[some [di 0, .v .nils], some ((dli v).set i (di (g + (x - y))))], []⟩] rfl ?_
    refine da_m 10 52 rfl rfl rfl (.inl rfl) rfl ?_
    refine da_m 13 53 rfl rfl rfl (.inl rfl) rfl ?_
    first | (refine da_q 54 rfl rfl rfl rfl (fun s hs => op_idxL rfl fsl_Sint (by first | decide | omega) (by first | assumption | exact idx_some (by assumption) | rfl) (by first | rfl | (simp [V.size]; done))) ?_) | (refine da_q 54 rfl rfl rfl rfl (fun s hs => opOK_un (op_idxL rfl fsl_Sint (by first | decide | omega) (by first | assumption | exact idx_some (by assumption) | rfl) (by first | rfl | (simp [V.size]; done)))) ?_) | (refine da_q 54 rfl rfl rfl rfl (fun s hs => op_idxA rfl fsl_Sint (by first | decide | omega) (by first | decide | omega)) ?_)
    simp only [Nat.zero_add, Nat.mul_one, Int.toNat_natCast]
    refine da_quietW 0 (some 55) rfl rfl rfl rfl (by intro s hs; simp only [List.take_succ_cons, List.take_zero, List.mem_cons, List.not_mem_nil, or_false] at hs; rcases hs with rfl <;> exact op_loadP1 rfl fone_int rfl hv2) (by dsimp only [putD, List.set]) ?_
    first | (refine da_q 56 rfl rfl rfl rfl (fun s hs => op_fieldP rfl ffld0_api_Value (by decide)) ?_) | (refine da_q 56 rfl rfl rfl rfl (fun s hs => op_fieldR rfl ffld0_api_Value (by decide) (by decide) rfl) ?_)
    first | (refine da_q 57 rfl rfl rfl rfl (fun s hs => op_loadR1 rfl fone_int rfl) ?_) | (refine da_q 57 rfl rfl rfl rfl (by intro s hs; simp only [List.mem_cons, List.not_mem_nil, or_false] at hs; rcases hs with rfl | rfl <;> exact op_loadP1 rfl fone_int rfl rfl) ?_)
    first | (refine da_q 58 rfl rfl rfl rfl (fun s hs => op_fieldP rfl ffld3_api_Rule (by decide)) ?_) | (refine da_q 58 rfl rfl rfl rfl (fun s hs => op_fieldR rfl ffld3_api_Rule (by decide) (by decide) rfl) ?_)
    first | (refine da_q 59 rfl rfl rfl rfl (fun s hs => op_loadR1 rfl fone_Sint rfl) ?_) | (refine da_q 59 rfl rfl rfl rfl (by intro s hs; simp only [List.mem_cons, List.not_mem_nil, or_false] at hs; rcases hs with rfl | rfl <;> exact op_loadP1 rfl fone_Sint rfl rfl) ?_)
    refine da_m 11 60 rfl rfl rfl (.inl rfl) rfl ?_
    first | (refine da_q 61 rfl rfl rfl rfl (fun s hs => op_idxL rfl fsl_Sint (by first | decide | omega) (by first | assumption | exact idx_some (by assumption) | rfl) (by first | rfl | (simp [V.size]; done))) ?_) | (refine da_q 61 rfl rfl rfl rfl (fun s hs => opOK_un (op_idxL rfl fsl_Sint (by first | decide | omega) (by first | assumption | exact idx_some (by assumption) | rfl) (by first | rfl | (simp [V.size]; done)))) ?_) | (refine da_q 61 rfl rfl rfl rfl (fun s hs => op_idxA rfl fsl_Sint (by first | decide | omega) (by first | decide | omega)) ?_)
    first | (refine da_q 62 rfl rfl rfl rfl (fun s hs => op_loadR1 rfl fone_int rfl) ?_) | (refine da_q 62 rfl rfl rfl rfl (by intro s hs; simp only [List.mem_cons, List.not_mem_nil, or_false] at hs; rcases hs with rfl | rfl <;> exact op_loadP1 rfl fone_int rfl rfl) ?_)
    refine da_q 63 rfl rfl rfl rfl (fun s hs => op_binI rfl rfl) ?_
    rw [wrap_id (by omega) (by omega)]
    refine da_q 64 rfl rfl rfl rfl (fun s hs => op_binI rfl rfl) ?_
    rw [wrap_id (by omega) (by omega)]
    first | (refine da_q 65 rfl rfl rfl rfl (fun s hs => op_idxL rfl fsl_Sint (by first | decide | omega) (by first | assumption | exact idx_some (by assumption) | rfl) (by first | rfl | (simp [V.size]; done))) ?_) | (refine da_q 65 rfl rfl rfl rfl (fun s hs => opOK_un (op_idxL rfl fsl_Sint (by first | decide | omega) (by first | assumption | exact idx_some (by assumption) | rfl) (by first | rfl | (simp [V.size]; done)))) ?_) | (refine da_q 65 rfl rfl rfl rfl (fun s hs => op_idxA rfl fsl_Sint (by first | decide | omega) (by first | decide | omega)) ?_)
    simp only [Nat.zero_add, Nat.mul_one, Int.toNat_natCast]
    refine da_st1 65 (.tmp 64) rfl rfl rfl rfl rfl rfl rfl (ev_tmp rfl) rfl fone_int rfl (by simp; omega) (by first | rfl | (dsimp only [List.set, List.append, List.cons_append, List.nil_append, cellsD, List.map, repl, List.length, Nat.reduceAdd, if_true, ↓reduceIte]; first | done | rfl)) ?_
    refine da_end rfl ⟨by decide +kernel, _, rfl, ?_⟩
    rw [dli_set]
    refine run_blk ?_
    refine at_region rfl ?_
    refine at_o 66 rfl rfl rfl rfl (op_binI rfl rfl) ?_
    rw [wrap_succ (by omega)]
    refine at_m 66 42 rfl rfl rfl (.inl rfl) rfl ?_
    refine at_end rfl ?_
    exact run_wk (.d4 (.drop (.drop (.keep (.drop (.drop (.keep (.keep (.d16 (.d4 (.d4 (.d4 (.drop (.keep (.keep (.keep (.d16 (.d16 (.d4 (.d4 (.d4 (.drop (.drop (.drop .nil)))))))))))))))))))))))) (ih _ (by omega) (i + 1) _ rfl (by simp [hvl]) hvd2 hT2)
   ·skip
    exact absurd hc2 (by simp)
  ·skip
   have hge : l.length ≤ i := by simpa using hc1
   have hTv : T = v := by rw [hT, List.take_of_length_le (by omega), List.drop_of_length_le (by omega)]; simp [apN]
   subst hTv
   refine at_exit rfl rfl ?_
   exact run_wk (.d4 (.drop (.drop (.keep (.drop (.drop (.keep (.keep (.d16 (.d16 (.d16 (.d16 (.d4 (.d4 (.d4 (.drop (.drop (.drop .nil)))))))))))))))))) hk
set_option maxRecDepth 20000 in
theorem ap_l2 (v : List Int) (hv : v.length ≤ 100) (hvb : ∀ x ∈ v, x ≤ 1048576) (T : List Int) (m : Nat) : ∀ (i : Nat) (acc : List Int), v.length - i = m → acc.length = i + 1 → T = acc ++ v.drop i → Run PP (fun env σ1 => ResOK PP Tryz.f88 env σ1 (.tup [.v (vCf T), di 0]) σ0) [.lp (sub cApply [1, 1, 1, 1, 1, 1, 1, 0, 1, 0, 0]), .blk 2, .code (sub cApply [1, 1, 1, 1, 1, 1, 1, 1])] (.undef :: .undef :: .undef :: .undef :: .undef :: .undef :: (.ptr 0 0) :: .undef :: .undef :: .undef :: .undef :: .undef :: .undef :: .undef :: (.ptr 2 0) :: .undef :: .undef :: .undef :: .undef :: .undef :: .undef :: .undef :: .undef :: .undef :: .undef :: .undef :: .undef :: .undef :: .undef :: .undef :: .undef :: .undef :: .undef :: .undef :: .undef :: .undef :: .undef :: .undef :: .undef :: .undef :: .undef :: .undef :: .undef :: .undef :: .undef :: .undef :: .undef :: .undef :: .undef :: .undef :: .undef :: .undef :: .undef :: .undef :: .undef :: .undef :: .undef :: .undef :: .undef :: .undef :: .undef :: .undef :: .undef :: .undef :: .undef :: .undef :: .undef :: .undef :: .undef :: .undef :: .undef :: .undef :: (.arr 1 0 v.length) :: (di ↑v.length) :: (di ↑i) :: .undef :: .undef :: .undef :: .undef :: .undef :: .undef :: .undef :: .undef :: .undef :: .undef :: .undef :: .undef :: .undef :: .undef :: .undef :: []) (stK v acc) := by
 induction m using Nat.strongRecOn with
 | _ m ih =>
  intro i acc hm hal hT
  refine run_lp ?_
  refine at_seq [1, 1, 1, 1, 1, 1, 1, 0, 1, 0, 0, 0] [1, 1, 1, 1, 1, 1, 1, 0, 1, 0, 0, 1] rfl ?_
  refine at_region rfl ?_
  refine at_o 75 rfl rfl rfl rfl (op_binI rfl rfl) ?_
  refine at_end rfl ?_
  refine at_seq [1, 1, 1, 1, 1, 1, 1, 0, 1, 0, 0, 1, 0] [1, 1, 1, 1, 1, 1, 1, 0, 1, 0, 0, 1, 1] rfl ?_
  refine at_cond [1, 1, 1, 1, 1, 1, 1, 0, 1, 0, 0, 1, 0, 0] [1, 1, 1, 1, 1, 1, 1, 0, 1, 0, 0, 1, 0, 1] rfl rfl (fun hc1 => ?_) (fun hc1 => ?_)
  ·skip
   have hlt : i < v.length := by simpa using hc1
   obtain ⟨x, hx⟩ := get_ex hlt
   have hx2 := dli_get hx
   have hxb := hvb x (List.mem_of_getElem? hx)
   rw [List.drop_eq_getElem_cons hlt, (List.getElem?_eq_some_iff.1 hx).2] at hT
   refine at_skip rfl ?_
   refine at_seq [1, 1, 1, 1, 1, 1, 1, 0, 1, 0, 0, 1, 1, 0] [1, 1, 1, 1, 1, 1, 1, 0, 1, 0, 0, 1, 1, 1] rfl ?_
   refine at_block [1, 1, 1, 1, 1, 1, 1, 0, 1, 0, 0, 1, 1, 0, 0] 3 rfl ?_
   refine at_seq [1, 1, 1, 1, 1, 1, 1, 0, 1, 0, 0, 1, 1, 0, 0, 0] [1, 1, 1, 1, 1, 1, 1, 0, 1, 0, 0, 1, 1, 0, 0, 1] rfl ?_
   refine at_region rfl ?_
   first | (refine at_o 76 rfl rfl rfl rfl (op_idxL rfl fsl_Sint (by first | decide | omega) (by first | assumption | exact idx_some (by assumption) | rfl) (by first | rfl | (simp [V.size]; done))) ?_) | (refine at_o 76 rfl rfl rfl rfl (opOK_un (op_idxL rfl fsl_Sint (by first | decide | omega) (by first | assumption | exact idx_some (by assumption) | rfl) (by first | rfl | (simp [V.size]; done)))) ?_) | (refine at_o 76 rfl rfl rfl rfl (op_idxA rfl fsl_Sint (by first | decide | omega) (by first | decide | omega)) ?_)
   simp only [Nat.zero_add, Nat.mul_one, Int.toNat_natCast]
   refine at_o 77 rfl rfl rfl rfl (op_loadP1 rfl fone_int rfl hx2) ?_
   refine at_m 77 16 rfl rfl rfl (.inr rfl) rfl ?_
   refine at_end rfl ?_
   refine at_seq [1, 1, 1, 1, 1, 1, 1, 0, 1, 0, 0, 1, 1, 0, 0, 1, 0] [1, 1, 1, 1, 1, 1, 1, 0, 1, 0, 0, 1, 1, 0, 0, 1, 1] rfl ?_
   refine at_seq [1, 1, 1, 1, 1, 1, 1, 0, 1, 0, 0, 1, 1, 0, 0, 1, 0, 0] [1, 1, 1, 1, 1, 1, 1, 0, 1, 0, 0, 1, 1, 0, 0, 1, 0, 1] rfl ?_
   refine at_region rfl ?_
   refine at_m 16 78 rfl rfl rfl (.inl rfl) rfl ?_
   refine at_o 79 rfl rfl rfl rfl (op_binI rfl rfl) ?_
   refine at_end rfl ?_
   refine at_cond [1, 1, 1, 1, 1, 1, 1, 0, 1, 0, 0, 1, 1, 0, 0, 1, 0, 1, 0] [1, 1, 1, 1, 1, 1, 1, 0, 1, 0, 0, 1, 1, 0, 0, 1, 0, 1, 1] rfl rfl (fun hc2 => ?_) (fun hc2 => ?_)
   ·skip
    exact absurd hc2 (by simp; omega)
   ·skip
    refine at_skip rfl ?_
    refine at_region rfl ?_
    first | (refine at_o 81 rfl rfl rfl rfl (op_fieldP rfl ffld1_api_Value (by decide)) ?_) | (refine at_o 81 rfl rfl rfl rfl (op_fieldR rfl ffld1_api_Value (by decide) (by decide) rfl) ?_)
    refine at_o 82 rfl rfl rfl rfl (op_loadP1 rfl fone_Sapi_Value rfl rfl) ?_
    refine at_m 16 83 rfl rfl rfl (.inl rfl) rfl ?_
    refine at_o 84 rfl rfl rfl rfl (op_buildN rfl fbldN_api_Value rfl rfl) ?_
    try dsimp only [V.cellsV, List.take, List.drop, List.cons_append, List.nil_append, List.length]
    refine at_o 85 rfl rfl rfl rfl (op_buildSlice rfl (by rfl) (by rfl) fsl_Sapi_Value rfl rfl (by simp [V.size]) (by decide) (by decide) (by decide)) ?_
    refine at_opS (some 86) rfl rfl rfl rfl (op_append rfl fsl_Sapi_Value rfl (by simp) (by simp [V.size]) (by simp; omega) (by simp; omega)) (by dsimp only [putD, List.set]) (by dsimp only [List.set, List.append, List.cons_append, List.nil_append, cellsD, List.map, repl, List.length, Nat.reduceAdd, if_true, ↓reduceIte]; first | done | rfl) ?_
    first | (refine at_o 87 rfl rfl rfl rfl (op_fieldP rfl ffld1_api_Value (by decide)) ?_) | (refine at_o 87 rfl rfl rfl rfl (op_fieldR rfl ffld1_api_Value (by decide) (by decide) rfl) ?_)
    refine at_st1 87 (.tmp 86) rfl rfl rfl rfl rfl (ev_tmp rfl) rfl fone_Sapi_Value rfl (by first | decide | simp | (simp; omega)) (by dsimp only [List.set, List.append, List.cons_append, List.nil_append, cellsD, List.map, repl, List.length, Nat.reduceAdd, if_true, ↓reduceIte]; first | done | rfl) ?_
    rw [show (acc.map vN ++ [.agg [.int .i64 x, .nils]]) = (acc ++ [x]).map vN by simp]
    refine at_end rfl ?_
    refine run_blk ?_
    refine at_region rfl ?_
    refine at_o 88 rfl rfl rfl rfl (op_binI rfl rfl) ?_
    rw [wrap_succ (by omega)]
    refine at_m 88 74 rfl rfl rfl (.inl rfl) rfl ?_
    refine at_end rfl ?_
    exact run_wk (.d4 (.drop (.drop (.keep (.d4 (.drop (.drop (.drop (.keep (.d16 (.d16 (.d16 (.d4 (.d4 (.drop (.keep (.keep (.keep (.d4 (.d4 (.d4 (.drop (.drop (.drop .nil)))))))))))))))))))))))) (ih _ (by omega) (i + 1) (acc ++ [x]) rfl (by simp; omega) (by rw [hT]; simp))
  ·skip
   have hge : v.length ≤ i := by simpa using hc1
   rw [List.drop_of_length_le hge, List.append_nil] at hT
   subst hT
   refine at_exit rfl rfl ?_
   refine at_seq [1, 1, 1, 1, 1, 1, 1, 1, 0] [1, 1, 1, 1, 1, 1, 1, 1, 1] rfl ?_
   refine at_region rfl ?_
   first | (refine at_o 89 rfl rfl rfl rfl (op_loadRA rfl fagg_api_Value) ?_) | (refine at_o 89 rfl rfl rfl rfl (op_loadPA rfl fagg_api_Value rfl (by first | decide | simp) rfl) ?_)
   refine at_stA 6 (.tmp 89) rfl rfl rfl rfl rfl (ev_tmp rfl) rfl fagg_api_Value rfl rfl (by first | decide | simp | (simp; omega)) (by dsimp only [List.set, List.append, List.cons_append, List.nil_append, cellsD, List.map, repl, List.length, Nat.reduceAdd, if_true, ↓reduceIte]; first | done | rfl) ?_
   refine at_c 7 rfl rfl rfl (.inr rfl) ?_
   refine at_end rfl ?_
   exact at_ret rfl (res_ok (ds := [.v (vCf T), di 0]) (.cellA rfl rfl fagg_api_Value (by simp) rfl (.tmp rfl .nil)) rfl 0 rfl (by simp) (fun i cs h => by simp at h) (List.nil_sublist _) rfl)
set_option maxRecDepth 20000 in
theorem apply_no (m : Md) (hm : MdOK m) (s : Int) (l : List Int) (hc : CfOK m.ns m.np (s :: l)) (k : Nat) (r : Rl) (hr : m.rules[k]? = some r) (hen : enQ r (s :: l) = false) : FSpec PP 88 [.v (vMd m), di ↑k, .v (vCf (s :: l))] σ0 (.tup [.v (.agg [.int .i64 0, .nils]), di 18]) σ0 := by
 have hro := hm.rl r (List.mem_of_getElem? hr)
 have hkl := (List.getElem?_eq_some_iff.1 hr).1
 have hr2 := idx_some (f := vRl) hr
 have h1 : l.length = m.np := by have := hc.len; simpa using this
 have h2 := hro.nl
 have h3 := hro.gl
 have h4 := hm.p0
 have h5 := hm.p1
 refine spec_at cApply Tryz.func88 rfl (by kernel_rfl) (by first | decide | simp) _ (by dsimp only [Tryz.f88, List.length, Nat.reduceAdd, Nat.reduceSub, List.replicate, List.cons_append, List.nil_append]) ?_
 refine at_seq [0] [1] rfl ?_
 refine at_region rfl ?_
 refine at_o 3 rfl rfl rfl rfl (op_boxI rfl rfl) ?_
 refine at_o 5 rfl rfl rfl rfl (op_boxI rfl rfl) ?_
 refine at_opS (some 6) rfl rfl rfl rfl (op_allocN rfl fzeroN_api_Value) (by dsimp only [putD, List.set]) (by dsimp only [List.set, List.append, List.cons_append, List.nil_append, cellsD, List.map, repl, List.length, Nat.reduceAdd, if_true, ↓reduceIte]; first | done | rfl) ?_
 refine at_c 7 rfl rfl rfl (.inr rfl) ?_
 refine at_end rfl ?_
 refine at_seq [1, 0] [1, 1] rfl ?_
 refine at_seq [1, 0, 0] [1, 0, 1] rfl ?_
 refine at_region rfl ?_
 first | (refine at_o 17 rfl rfl rfl rfl (op_loadRA rfl fagg_api_Model) ?_) | (refine at_o 17 rfl rfl rfl rfl (op_loadPA rfl fagg_api_Model rfl (by first | decide | simp) rfl) ?_)
 refine at_m 1 18 rfl rfl rfl (.inl rfl) rfl ?_
 first | (refine at_o 19 rfl rfl rfl rfl (op_loadRA rfl fagg_api_Value) ?_) | (refine at_o 19 rfl rfl rfl rfl (op_loadPA rfl fagg_api_Value rfl (by first | decide | simp) rfl) ?_)
 refine at_o 20 rfl rfl rfl rfl (op_call0 rfl rfl rfl rfl (ctcheck_spec m hm (s :: l) hc k hkl)) ?_
 refine at_m 20 8 rfl rfl rfl (.inr rfl) rfl ?_
 refine at_end rfl ?_
 refine at_seq [1, 0, 1, 0] [1, 0, 1, 1] rfl ?_
 refine at_region rfl ?_
 refine at_m 8 21 rfl rfl rfl (.inl rfl) rfl ?_
 refine at_o 22 rfl rfl rfl rfl (op_binI rfl rfl) ?_
 refine at_end rfl ?_
 refine at_cond [1, 0, 1, 1, 0] [1, 0, 1, 1, 1] rfl rfl (fun hc1 => ?_) (fun hc1 => ?_)
 ·skip
  exact absurd hc1 (by simp)
 ·skip
  refine at_skip rfl ?_
  refine at_seq [1, 1, 0] [1, 1, 1] rfl ?_
  refine at_region rfl ?_
  first | (refine at_o 25 rfl rfl rfl rfl (op_fieldP rfl ffld7_api_Model (by decide)) ?_) | (refine at_o 25 rfl rfl rfl rfl (op_fieldR rfl ffld7_api_Model (by decide) (by decide) rfl) ?_)
  first | (refine at_o 26 rfl rfl rfl rfl (op_loadR1 rfl fone_Sapi_Rule rfl) ?_) | (refine at_o 26 rfl rfl rfl rfl (op_loadP1 rfl fone_Sapi_Rule rfl rfl) ?_)
  refine at_m 1 27 rfl rfl rfl (.inl rfl) rfl ?_
  first | (refine at_o 28 rfl rfl rfl rfl (op_idxL rfl fsl_Sapi_Rule (by first | decide | omega) (by first | assumption | exact idx_some (by assumption) | rfl) (by first | rfl | (simp [V.size]; done))) ?_) | (refine at_o 28 rfl rfl rfl rfl (opOK_un (op_idxL rfl fsl_Sapi_Rule (by first | decide | omega) (by first | assumption | exact idx_some (by assumption) | rfl) (by first | rfl | (simp [V.size]; done)))) ?_) | (refine at_o 28 rfl rfl rfl rfl (op_idxA rfl fsl_Sapi_Rule (by first | decide | omega) (by first | decide | omega)) ?_)
  first | (refine at_o 29 rfl rfl rfl rfl (op_loadRA rfl fagg_api_Rule) ?_) | (refine at_o 29 rfl rfl rfl rfl (op_loadPA rfl fagg_api_Rule rfl (by first | decide | simp) rfl) ?_)
  refine at_new 29 9 rfl rfl rfl rfl fzero_api_Rule rfl rfl rfl rfl (by decide) rfl rfl fagg_api_Rule (by first | rfl | (simp [V.size]; done)) rfl (by simp only [List.length_cons]; omega) (by dsimp only [List.set]) ?_
  refine at_end rfl ?_
  refine at_seq [1, 1, 1, 0] [1, 1, 1, 1] rfl ?_
  refine at_seq [1, 1, 1, 0, 0] [1, 1, 1, 0, 1] rfl ?_
  refine at_region rfl ?_
  first | (refine at_o 30 rfl rfl rfl rfl (op_loadRA rfl fagg_api_Rule) ?_) | (refine at_o 30 rfl rfl rfl rfl (op_loadPA rfl fagg_api_Rule rfl (by first | decide | simp) rfl) ?_)
  first | (refine at_o 31 rfl rfl rfl rfl (op_loadRA rfl fagg_api_Value) ?_) | (refine at_o 31 rfl rfl rfl rfl (op_loadPA rfl fagg_api_Value rfl (by first | decide | simp) rfl) ?_)
  refine at_o 32 rfl rfl rfl rfl (op_call0 rfl rfl rfl rfl (en_spec r s l (by omega) (by omega))) ?_
  refine at_o 33 rfl rfl rfl rfl (op_un rfl rfl) ?_
  refine at_end rfl ?_
  refine at_cond [1, 1, 1, 0, 1, 0] [1, 1, 1, 0, 1, 1] rfl rfl (fun hc2 => ?_) (fun hc2 => ?_)
  ·skip
   refine at_seq [1, 1, 1, 0, 1, 0, 0] [1, 1, 1, 0, 1, 0, 1] rfl ?_
   refine at_region rfl ?_
   refine at_o 34 rfl rfl rfl rfl (op_buildN rfl fbldN_api_Value rfl rfl) ?_
   try dsimp only [V.cellsV, List.take, List.drop, List.cons_append, List.nil_append, List.length]
   refine at_stA 6 (.tmp 34) rfl rfl rfl rfl rfl (ev_tmp rfl) rfl fagg_api_Value rfl rfl (by first | decide | simp | (simp; omega)) (by dsimp only [List.set, List.append, List.cons_append, List.nil_append, cellsD, List.map, repl, List.length, Nat.reduceAdd, if_true, ↓reduceIte]; first | done | rfl) ?_
   refine at_c 7 rfl rfl rfl (.inr rfl) ?_
   refine at_end rfl ?_
   exact at_ret rfl (res_ok (ds := [.v (.agg [.int .i64 0, .nils]), di 18]) (.cellA rfl rfl fagg_api_Value (by simp) rfl (.tmp rfl .nil)) rfl 0 rfl (by simp) (fun i cs h => by simp at h) (List.nil_sublist _) rfl)
  ·skip
   exact absurd hc2 (by rw [hen]; simp)
set_option maxRecDepth 20000 in
theorem apply_yes (m : Md) (hm : MdOK m) (s : Int) (l : List Int) (hc : CfOK m.ns m.np (s :: l)) (k : Nat) (r : Rl) (hr : m.rules[k]? = some r) (hen : enQ r (s :: l) = true) : FSpec PP 88 [.v (vMd m), di ↑k, .v (vCf (s :: l))] σ0 (.tup [.v (vCf (apM r (s :: l))), di 0]) σ0 := by
 have hro := hm.rl r (List.mem_of_getElem? hr)
 have hkl := (List.getElem?_eq_some_iff.1 hr).1
 have hr2 := idx_some (f := vRl) hr
 have h1 : l.length = m.np := by have := hc.len; simpa using this
 have h2 := hro.nl
 have h3 := hro.gl
 have h4 := hm.p0
 have h5 := hm.p1
 have hXl : (apN r.give l r.need).length = l.length := by rw [apN_length (by omega) (by omega)]; omega
 have hlb : ∀ x ∈ l, 0 ≤ x ∧ x ≤ 1000 := fun x hx => by have := hc.num x (by simpa using hx); omega
 have hgb : ∀ x ∈ r.give, 0 ≤ x ∧ x ≤ 1000 := fun x hx => by have := hro.g x hx; omega
 have hnb : ∀ x ∈ r.need, 0 ≤ x ∧ x ≤ 1000 := fun x hx => by have := hro.n x hx; omega
 have hXb := apN_small r.give l r.need hgb hlb hnb
 refine spec_at cApply Tryz.func88 rfl (by kernel_rfl) (by first | decide | simp) _ (by dsimp only [Tryz.f88, List.length, Nat.reduceAdd, Nat.reduceSub, List.replicate, List.cons_append, List.nil_append]) ?_
 refine at_seq [0] [1] rfl ?_
 refine at_region rfl ?_
 refine at_o 3 rfl rfl rfl rfl (op_boxI rfl rfl) ?_
 refine at_o 5 rfl rfl rfl rfl (op_boxI rfl rfl) ?_
 refine at_opS (some 6) rfl rfl rfl rfl (op_allocN rfl fzeroN_api_Value) (by dsimp only [putD, List.set]) (by dsimp only [List.set, List.append, List.cons_append, List.nil_append, cellsD, List.map, repl, List.length, Nat.reduceAdd, if_true, ↓reduceIte]; first | done | rfl) ?_
 refine at_c 7 rfl rfl rfl (.inr rfl) ?_
 refine at_end rfl ?_
 refine at_seq [1, 0] [1, 1] rfl ?_
 refine at_seq [1, 0, 0] [1, 0, 1] rfl ?_
 refine at_region rfl ?_
 first | (refine at_o 17 rfl rfl rfl rfl (op_loadRA rfl fagg_api_Model) ?_) | (refine at_o 17 rfl rfl rfl rfl (op_loadPA rfl fagg_api_Model rfl (by first | decide | simp) rfl) ?_)
 refine at_m 1 18 rfl rfl rfl (.inl rfl) rfl ?_
 first | (refine at_o 19 rfl rfl rfl rfl (op_loadRA rfl fagg_api_Value) ?_) | (refine at_o 19 rfl rfl rfl rfl (op_loadPA rfl fagg_api_Value rfl (by first | decide | simp) rfl) ?_)
 refine at_o 20 rfl rfl rfl rfl (op_call0 rfl rfl rfl rfl (ctcheck_spec m hm (s :: l) hc k hkl)) ?_
 refine at_m 20 8 rfl rfl rfl (.inr rfl) rfl ?_
 refine at_end rfl ?_
 refine at_seq [1, 0, 1, 0] [1, 0, 1, 1] rfl ?_
 refine at_region rfl ?_
 refine at_m 8 21 rfl rfl rfl (.inl rfl) rfl ?_
 refine at_o 22 rfl rfl rfl rfl (op_binI rfl rfl) ?_
 refine at_end rfl ?_
 refine at_cond [1, 0, 1, 1, 0] [1, 0, 1, 1, 1] rfl rfl (fun hc1 => ?_) (fun hc1 => ?_)
 ·skip
  exact absurd hc1 (by simp)
 ·skip
  refine at_skip rfl ?_
  refine at_seq [1, 1, 0] [1, 1, 1] rfl ?_
  refine at_region rfl ?_
  first | (refine at_o 25 rfl rfl rfl rfl (op_fieldP rfl ffld7_api_Model (by decide)) ?_) | (refine at_o 25 rfl rfl rfl rfl (op_fieldR rfl ffld7_api_Model (by decide) (by decide) rfl) ?_)
  first | (refine at_o 26 rfl rfl rfl rfl (op_loadR1 rfl fone_Sapi_Rule rfl) ?_) | (refine at_o 26 rfl rfl rfl rfl (op_loadP1 rfl fone_Sapi_Rule rfl rfl) ?_)
  refine at_m 1 27 rfl rfl rfl (.inl rfl) rfl ?_
  first | (refine at_o 28 rfl rfl rfl rfl (op_idxL rfl fsl_Sapi_Rule (by first | decide | omega) (by first | assumption | exact idx_some (by assumption) | rfl) (by first | rfl | (simp [V.size]; done))) ?_) | (refine at_o 28 rfl rfl rfl rfl (opOK_un (op_idxL rfl fsl_Sapi_Rule (by first | decide | omega) (by first | assumption | exact idx_some (by assumption) | rfl) (by first | rfl | (simp [V.size]; done)))) ?_) | (refine at_o 28 rfl rfl rfl rfl (op_idxA rfl fsl_Sapi_Rule (by first | decide | omega) (by first | decide | omega)) ?_)
  first | (refine at_o 29 rfl rfl rfl rfl (op_loadRA rfl fagg_api_Rule) ?_) | (refine at_o 29 rfl rfl rfl rfl (op_loadPA rfl fagg_api_Rule rfl (by first | decide | simp) rfl) ?_)
  refine at_new 29 9 rfl rfl rfl rfl fzero_api_Rule rfl rfl rfl rfl (by decide) rfl rfl fagg_api_Rule (by first | rfl | (simp [V.size]; done)) rfl (by simp only [List.length_cons]; omega) (by dsimp only [List.set]) ?_
  refine at_end rfl ?_
  refine at_seq [1, 1, 1, 0] [1, 1, 1, 1] rfl ?_
  refine at_seq [1, 1, 1, 0, 0] [1, 1, 1, 0, 1] rfl ?_
  refine at_region rfl ?_
  first | (refine at_o 30 rfl rfl rfl rfl (op_loadRA rfl fagg_api_Rule) ?_) | (refine at_o 30 rfl rfl rfl rfl (op_loadPA rfl fagg_api_Rule rfl (by first | decide | simp) rfl) ?_)
  first | (refine at_o 31 rfl rfl rfl rfl (op_loadRA rfl fagg_api_Value) ?_) | (refine at_o 31 rfl rfl rfl rfl (op_loadPA rfl fagg_api_Value rfl (by first | decide | simp) rfl) ?_)
  refine at_o 32 rfl rfl rfl rfl (op_call0 rfl rfl rfl rfl (en_spec r s l (by omega) (by omega))) ?_
  refine at_o 33 rfl rfl rfl rfl (op_un rfl rfl) ?_
  refine at_end rfl ?_
  refine at_cond [1, 1, 1, 0, 1, 0] [1, 1, 1, 0, 1, 1] rfl rfl (fun hc2 => ?_) (fun hc2 => ?_)
  ·skip
   exact absurd hc2 (by rw [hen]; simp)
  ·skip
   refine at_skip rfl ?_
   refine at_seq [1, 1, 1, 1, 0] [1, 1, 1, 1, 1] rfl ?_
   refine at_region rfl ?_
   first | (refine at_o 35 rfl rfl rfl rfl (op_fieldP rfl ffld4_api_Rule (by decide)) ?_) | (refine at_o 35 rfl rfl rfl rfl (op_fieldR rfl ffld4_api_Rule (by decide) (by decide) rfl) ?_)
   first | (refine at_o 36 rfl rfl rfl rfl (op_loadR1 rfl fone_Sint rfl) ?_) | (refine at_o 36 rfl rfl rfl rfl (op_loadP1 rfl fone_Sint rfl rfl) ?_)
   refine at_opS (some 37) rfl rfl rfl rfl (op_call0_arrJ rfl rfl rfl (j := 1) rfl (pls_dli _) (cloneI_spec r.give (by intro e; rw [e] at h3; simp at h3; omega) (by omega))) (by dsimp only [putD, List.set]) (by dsimp only [List.set, List.append, List.cons_append, List.nil_append, cellsD, List.map, repl, List.length, Nat.reduceAdd, if_true, ↓reduceIte]; first | done | rfl) ?_
   refine at_m 37 10 rfl rfl rfl (.inr rfl) rfl ?_
   refine at_end rfl ?_
   refine at_seq [1, 1, 1, 1, 1, 0] [1, 1, 1, 1, 1, 1] rfl ?_
   refine at_seq [1, 1, 1, 1, 1, 0, 0] [1, 1, 1, 1, 1, 0, 1] rfl ?_
   refine at_region rfl ?_
   first | (refine at_o 38 rfl rfl rfl rfl (op_fieldP rfl ffld1_api_Value (by decide)) ?_) | (refine at_o 38 rfl rfl rfl rfl (op_fieldR rfl ffld1_api_Value (by decide) (by decide) rfl) ?_)
   first | (refine at_o 39 rfl rfl rfl rfl (op_loadR1 rfl fone_Sapi_Value rfl) ?_) | (refine at_o 39 rfl rfl rfl rfl (op_loadP1 rfl fone_Sapi_Value rfl rfl) ?_)
   refine at_o 40 rfl rfl rfl rfl (op_sliceL rfl fsl_Sapi_Value (by simp [V.size]) (by decide) (some (_, _)) none rfl rfl (l' := 1) (h' := (List.map vN (s :: l)).length) (by simp [sliceI]; omega)) ?_
   rw [kids_drop]
   first | (refine at_o 41 rfl rfl rfl rfl (op_lenL rfl fu_Sapi_Value) ?_) | (refine at_o 41 rfl rfl rfl rfl (opOK_un (op_lenL rfl fu_Sapi_Value)) ?_) | (refine at_o 41 rfl rfl rfl rfl (op_lenA rfl fu_Sapi_Value) ?_)
   simp only [List.length_map]
   refine at_c 42 rfl rfl rfl (.inl rfl) ?_
   refine at_end rfl ?_
   refine at_block [1, 1, 1, 1, 1, 0, 1, 0] 0 rfl ?_
   refine at_loop [1, 1, 1, 1, 1, 0, 1, 0, 0] rfl ?_
   try simp only [List.length_map, List.length_nil, Int.toNat_natCast]
   refine run_wk (.d4 (.drop (.drop (.keep (.drop (.drop (.keep (.keep (.d16 (.d4 (.d4 (.d4 (.drop (.keep (.keep (.keep (.d16 (.d16 (.d4 (.d4 (.d4 (.drop (.drop (.drop .nil)))))))))))))))))))))))) (ap_l1 _ _ r l (by omega) (by omega) (by omega) hlb hgb hnb (apN r.give l r.need) ?_ _ 0 r.give rfl (by omega) (by rfl) (by simp))
   generalize hX : apN r.give l r.need = X at hXl hXb ⊢
   rw [show r.give.length = X.length by omega]
   refine at_seq [1, 1, 1, 1, 1, 1, 0] [1, 1, 1, 1, 1, 1, 1] rfl ?_
   refine at_region rfl ?_
   first | (refine at_o 67 rfl rfl rfl rfl (op_fieldP rfl ffld2_api_Rule (by decide)) ?_) | (refine at_o 67 rfl rfl rfl rfl (op_fieldR rfl ffld2_api_Rule (by decide) (by decide) rfl) ?_)
   first | (refine at_o 68 rfl rfl rfl rfl (op_loadR1 rfl fone_int rfl) ?_) | (refine at_o 68 rfl rfl rfl rfl (op_loadP1 rfl fone_int rfl rfl) ?_)
   refine at_o 69 rfl rfl rfl rfl (op_buildN rfl fbldN_api_Value rfl rfl) ?_
   try dsimp only [V.cellsV, List.take, List.drop, List.cons_append, List.nil_append, List.length]
   refine at_opS (some 70) rfl rfl rfl rfl (op_buildSliceA rfl (by rfl) (by rfl) fsl_Sapi_Value rfl rfl (by simp [V.size]) (by decide) (by decide) (by decide) 1 (by simp)) (by dsimp only [putD, List.set]) (by dsimp only [List.set, List.append, List.cons_append, List.nil_append, cellsD, List.map, repl, List.length, Nat.reduceAdd, if_true, ↓reduceIte]; first | done | rfl) ?_
   refine at_o 71 rfl rfl rfl rfl (op_buildKids rfl) ?_
   try dsimp only [V.cellsV, List.take, List.drop, List.cons_append, List.nil_append, List.length]
   refine at_opS (some 14) rfl rfl rfl rfl (op_allocN rfl fzeroN_api_Value) (by dsimp only [putD, List.set]) (by dsimp only [List.set, List.append, List.cons_append, List.nil_append, cellsD, List.map, repl, List.length, Nat.reduceAdd, if_true, ↓reduceIte]; first | done | rfl) ?_
   refine at_stA 14 (.tmp 71) rfl rfl rfl rfl rfl (ev_tmp rfl) rfl fagg_api_Value rfl rfl (by first | decide | simp | (simp; omega)) (by dsimp only [List.set, List.append, List.cons_append, List.nil_append, cellsD, List.map, repl, List.length, Nat.reduceAdd, if_true, ↓reduceIte]; first | done | rfl) ?_
   refine at_end rfl ?_
   refine at_seq [1, 1, 1, 1, 1, 1, 1, 0] [1, 1, 1, 1, 1, 1, 1, 1] rfl ?_
   refine at_seq [1, 1, 1, 1, 1, 1, 1, 0, 0] [1, 1, 1, 1, 1, 1, 1, 0, 1] rfl ?_
   refine at_region rfl ?_
   refine at_m 10 72 rfl rfl rfl (.inl rfl) rfl ?_
   first | (refine at_o 73 rfl rfl rfl rfl (op_lenL rfl fu_Sint) ?_) | (refine at_o 73 rfl rfl rfl rfl (opOK_un (op_lenL rfl fu_Sint)) ?_) | (refine at_o 73 rfl rfl rfl rfl (op_lenA rfl fu_Sint) ?_)
   refine at_c 74 rfl rfl rfl (.inl rfl) ?_
   refine at_end rfl ?_
   refine at_block [1, 1, 1, 1, 1, 1, 1, 0, 1, 0] 2 rfl ?_
   refine at_loop [1, 1, 1, 1, 1, 1, 1, 0, 1, 0, 0] rfl ?_
   try simp only [List.length_map, List.length_nil, Int.toNat_natCast]
   exact run_wk (.d4 (.drop (.drop (.keep (.d4 (.drop (.drop (.drop (.keep (.d16 (.d16 (.d16 (.d4 (.d4 (.drop (.keep (.keep (.keep (.d4 (.d4 (.d4 (.drop (.drop (.drop .nil)))))))))))))))))))))))) (ap_l2 X (by omega) hXb _ _ 0 [r.to] rfl rfl (by rw [← hX]; rfl))
end Go.Proofs.YtmdipbhjhkckjaaGreat

namespace Go.Proofs.YtmdipbhjhkckjaaGreat
open Go.Dv
abbrev Stp := Int × List Int
abbrev vStp (s : Stp) : V := .agg [.int .i64 s.1, .int .i64 0, vK s.2]
abbrev vStps (l : List Stp) : V := .list (l.map vStp)
def bhM (r : Rl) (c : List Int) : List (List Int) := if enQ r c then [apM r c] else []
def stM : List Rl → Nat → List Int → List Stp
 | [], _, _ => []
 | r :: rs, k, c => (bhM r c).map (fun d => ((k : Int), d)) ++ stM rs (k + 1) c
theorem bhM_le (r : Rl) (c : List Int) : (bhM r c).length ≤ 1 := by unfold bhM; split <;> simp
theorem stM_le (c : List Int) : ∀ (rs : List Rl) (k : Nat), (stM rs k c).length ≤ rs.length
 | [], k => by simp [stM]
 | r :: rs, k => by have := stM_le c rs (k + 1); have := bhM_le r c; simp [stM]; omega
noncomputable def cSingle : Code := Tryz.f87.body.getD .skip
set_option maxRecDepth 20000 in
theorem single_yes (c : List Int) : FSpec PP 87 [.v (vCf c), di 0] σ0 (.tup [.v (.list [vCf c]), di 0]) σ0 := by
 refine spec_at cSingle Tryz.func87 rfl (by kernel_rfl) (by first | decide | simp) _ (by dsimp only [Tryz.f87, List.length, Nat.reduceAdd, Nat.reduceSub, List.replicate, List.cons_append, List.nil_append]) ?_
 refine at_seq [0] [1] rfl ?_
 refine at_region rfl ?_
 refine at_o 2 rfl rfl rfl rfl (op_boxI rfl rfl) ?_
 refine at_c 4 rfl rfl rfl (.inr rfl) ?_
 refine at_c 5 rfl rfl rfl (.inr rfl) ?_
 refine at_end rfl ?_
 refine at_seq [1, 0] [1, 1] rfl ?_
 refine at_seq [1, 0, 0] [1, 0, 1] rfl ?_
 refine at_region rfl ?_
 refine at_m 1 6 rfl rfl rfl (.inl rfl) rfl ?_
 refine at_end rfl ?_
 refine at_block [1, 0, 1, 0] 0 rfl ?_
 refine at_seq [1, 0, 1, 0, 0] [1, 0, 1, 0, 1] rfl ?_
 refine at_region rfl ?_
 refine at_o 8 rfl rfl rfl rfl (op_binI rfl rfl) ?_
 refine at_m 8 7 rfl rfl rfl (.inr rfl) rfl ?_
 refine at_end rfl ?_
 refine at_cond [1, 0, 1, 0, 1, 0] [1, 0, 1, 0, 1, 1] rfl rfl (fun hc1 => ?_) (fun hc1 => ?_)
 ·skip
  refine at_seq [1, 0, 1, 0, 1, 0, 0] [1, 0, 1, 0, 1, 0, 1] rfl ?_
  refine at_region rfl ?_
  first | (refine at_o 9 rfl rfl rfl rfl (op_loadRA rfl fagg_api_Value) ?_) | (refine at_o 9 rfl rfl rfl rfl (op_loadPA rfl fagg_api_Value rfl (by first | decide | simp) rfl) ?_)
  refine at_o 10 rfl rfl rfl rfl (op_buildSlice rfl (by rfl) (by rfl) fsl_Sapi_Value rfl rfl (by simp [V.size]) (by decide) (by decide) (by decide)) ?_
  refine at_m 10 4 rfl rfl rfl (.inr rfl) rfl ?_
  refine at_c 5 rfl rfl rfl (.inr rfl) ?_
  refine at_end rfl ?_
  refine at_ret rfl (ret_two (t := 4) (t2 := 5) rfl rfl rfl ?_ ?_ rfl rfl)
  all_goals (rfl)
 ·skip
  exact absurd hc1 (by simp)
set_option maxRecDepth 20000 in
theorem single_no : FSpec PP 87 [.v (.agg [.int .i64 0, .nils]), di 18] σ0 (.tup [.v (.list []), di 0]) σ0 := by
 refine spec_at cSingle Tryz.func87 rfl (by kernel_rfl) (by first | decide | simp) _ (by dsimp only [Tryz.f87, List.length, Nat.reduceAdd, Nat.reduceSub, List.replicate, List.cons_append, List.nil_append]) ?_
 refine at_seq [0] [1] rfl ?_
 refine at_region rfl ?_
 refine at_o 2 rfl rfl rfl rfl (op_boxI rfl rfl) ?_
 refine at_c 4 rfl rfl rfl (.inr rfl) ?_
 refine at_c 5 rfl rfl rfl (.inr rfl) ?_
 refine at_end rfl ?_
 refine at_seq [1, 0] [1, 1] rfl ?_
 refine at_seq [1, 0, 0] [1, 0, 1] rfl ?_
 refine at_region rfl ?_
 refine at_m 1 6 rfl rfl rfl (.inl rfl) rfl ?_
 refine at_end rfl ?_
 refine at_block [1, 0, 1, 0] 0 rfl ?_
 refine at_seq [1, 0, 1, 0, 0] [1, 0, 1, 0, 1] rfl ?_
 refine at_region rfl ?_
 refine at_o 8 rfl rfl rfl rfl (op_binI rfl rfl) ?_
 refine at_m 8 7 rfl rfl rfl (.inr rfl) rfl ?_
 refine at_end rfl ?_
 refine at_cond [1, 0, 1, 0, 1, 0] [1, 0, 1, 0, 1, 1] rfl rfl (fun hc1 => ?_) (fun hc1 => ?_)
 ·skip
  exact absurd hc1 (by simp)
 ·skip
  refine at_seq [1, 0, 1, 0, 1, 1, 0] [1, 0, 1, 0, 1, 1, 1] rfl ?_
  refine at_region rfl ?_
  refine at_o 12 rfl rfl rfl rfl (op_binI rfl rfl) ?_
  refine at_m 12 11 rfl rfl rfl (.inr rfl) rfl ?_
  refine at_end rfl ?_
  refine at_cond [1, 0, 1, 0, 1, 1, 1, 0] [1, 0, 1, 0, 1, 1, 1, 1] rfl rfl (fun hc2 => ?_) (fun hc2 => ?_)
  ·skip
   refine at_seq [1, 0, 1, 0, 1, 1, 1, 0, 0] [1, 0, 1, 0, 1, 1, 1, 0, 1] rfl ?_
   refine at_region rfl ?_
   refine at_c 4 rfl rfl rfl (.inr rfl) ?_
   refine at_c 5 rfl rfl rfl (.inr rfl) ?_
   refine at_end rfl ?_
   refine at_ret rfl (ret_two (t := 4) (t2 := 5) rfl rfl rfl ?_ ?_ rfl rfl)
   all_goals (rfl)
  ·skip
   exact absurd hc2 (by simp)
noncomputable def cBehind : Code := Tryz.f57.body.getD .skip
set_option maxRecDepth 20000 in
theorem behind_q (m : Md) (hm : MdOK m) (s : Int) (l : List Int) (hc : CfOK m.ns m.np (s :: l)) : FSpec PP 57 [.v (vMd m), di (-1), .v (vCf (s :: l))] σ0 (.tup [.v (.list []), di 0]) σ0 := by
 refine spec_at cBehind Tryz.func57 rfl (by kernel_rfl) (by first | decide | simp) _ (by dsimp only [Tryz.f57, List.length, Nat.reduceAdd, Nat.reduceSub, List.replicate, List.cons_append, List.nil_append]) ?_
 refine at_seq [0] [1] rfl ?_
 refine at_region rfl ?_
 refine at_o 3 rfl rfl rfl rfl (op_boxI rfl rfl) ?_
 refine at_o 5 rfl rfl rfl rfl (op_boxI rfl rfl) ?_
 refine at_c 6 rfl rfl rfl (.inr rfl) ?_
 refine at_c 7 rfl rfl rfl (.inr rfl) ?_
 refine at_end rfl ?_
 refine at_seq [1, 0] [1, 1] rfl ?_
 refine at_block [1, 0, 0] 0 rfl ?_
 refine at_seq [1, 0, 0, 0] [1, 0, 0, 1] rfl ?_
 refine at_region rfl ?_
 refine at_m 1 9 rfl rfl rfl (.inl rfl) rfl ?_
 refine at_o 10 rfl rfl rfl rfl (op_binI rfl rfl) ?_
 refine at_m 10 8 rfl rfl rfl (.inr rfl) rfl ?_
 refine at_end rfl ?_
 refine at_cond [1, 0, 0, 1, 0] [1, 0, 0, 1, 1] rfl rfl (fun hc1 => ?_) (fun hc1 => ?_)
 ·skip
  refine at_seq [1, 0, 0, 1, 0, 0] [1, 0, 0, 1, 0, 1] rfl ?_
  refine at_region rfl ?_
  first | (refine at_o 11 rfl rfl rfl rfl (op_loadRA rfl fagg_api_Model) ?_) | (refine at_o 11 rfl rfl rfl rfl (op_loadPA rfl fagg_api_Model rfl (by first | decide | simp) rfl) ?_)
  first | (refine at_o 12 rfl rfl rfl rfl (op_loadRA rfl fagg_api_Value) ?_) | (refine at_o 12 rfl rfl rfl rfl (op_loadPA rfl fagg_api_Value rfl (by first | decide | simp) rfl) ?_)
  refine at_o 13 rfl rfl rfl rfl (op_call0 rfl rfl rfl rfl (quiet_spec m hm (s :: l) hc)) ?_
  refine at_m 13 6 rfl rfl rfl (.inr rfl) rfl ?_
  refine at_c 7 rfl rfl rfl (.inr rfl) ?_
  refine at_end rfl ?_
  refine at_ret rfl (ret_two (t := 6) (t2 := 7) rfl rfl rfl ?_ ?_ rfl rfl)
  all_goals (rfl)
 ·skip
  exact absurd hc1 (by simp)
set_option maxRecDepth 20000 in
theorem behind_yes (m : Md) (hm : MdOK m) (s : Int) (l : List Int) (hc : CfOK m.ns m.np (s :: l)) (k : Nat) (r : Rl) (hr : m.rules[k]? = some r) (hen : enQ r (s :: l) = true) : FSpec PP 57 [.v (vMd m), di ↑k, .v (vCf (s :: l))] σ0 (.tup [.v (.list [vCf (apM r (s :: l))]), di 0]) σ0 := by
 refine spec_at cBehind Tryz.func57 rfl (by kernel_rfl) (by first | decide | simp) _ (by dsimp only [Tryz.f57, List.length, Nat.reduceAdd, Nat.reduceSub, List.replicate, List.cons_append, List.nil_append]) ?_
 refine at_seq [0] [1] rfl ?_
 refine at_region rfl ?_
 refine at_o 3 rfl rfl rfl rfl (op_boxI rfl rfl) ?_
 refine at_o 5 rfl rfl rfl rfl (op_boxI rfl rfl) ?_
 refine at_c 6 rfl rfl rfl (.inr rfl) ?_
 refine at_c 7 rfl rfl rfl (.inr rfl) ?_
 refine at_end rfl ?_
 refine at_seq [1, 0] [1, 1] rfl ?_
 refine at_block [1, 0, 0] 0 rfl ?_
 refine at_seq [1, 0, 0, 0] [1, 0, 0, 1] rfl ?_
 refine at_region rfl ?_
 refine at_m 1 9 rfl rfl rfl (.inl rfl) rfl ?_
 refine at_o 10 rfl rfl rfl rfl (op_binI rfl rfl) ?_
 refine at_m 10 8 rfl rfl rfl (.inr rfl) rfl ?_
 refine at_end rfl ?_
 refine at_cond [1, 0, 0, 1, 0] [1, 0, 0, 1, 1] rfl rfl (fun hc1 => ?_) (fun hc1 => ?_)
 ·skip
  exact absurd hc1 (by first | (simp; done) | (simp; omega))
 ·skip
  refine at_seq [1, 0, 0, 1, 1, 0] [1, 0, 0, 1, 1, 1] rfl ?_
  refine at_region rfl ?_
  first | (refine at_o 15 rfl rfl rfl rfl (op_fieldP rfl ffld0_api_Model (by decide)) ?_) | (refine at_o 15 rfl rfl rfl rfl (op_fieldR rfl ffld0_api_Model (by decide) (by decide) rfl) ?_)
  first | (refine at_o 16 rfl rfl rfl rfl (op_loadR1 rfl fone_int rfl) ?_) | (refine at_o 16 rfl rfl rfl rfl (op_loadP1 rfl fone_int rfl rfl) ?_)
  refine at_o 17 rfl rfl rfl rfl (op_binI rfl rfl) ?_
  refine at_m 17 14 rfl rfl rfl (.inr rfl) rfl ?_
  refine at_end rfl ?_
  refine at_cond [1, 0, 0, 1, 1, 1, 0] [1, 0, 0, 1, 1, 1, 1] rfl rfl (fun hc2 => ?_) (fun hc2 => ?_)
  ·skip
   refine at_seq [1, 0, 0, 1, 1, 1, 0, 0] [1, 0, 0, 1, 1, 1, 0, 1] rfl ?_
   refine at_region rfl ?_
   first | (refine at_o 18 rfl rfl rfl rfl (op_loadRA rfl fagg_api_Model) ?_) | (refine at_o 18 rfl rfl rfl rfl (op_loadPA rfl fagg_api_Model rfl (by first | decide | simp) rfl) ?_)
   refine at_m 1 19 rfl rfl rfl (.inl rfl) rfl ?_
   first | (refine at_o 20 rfl rfl rfl rfl (op_loadRA rfl fagg_api_Value) ?_) | (refine at_o 20 rfl rfl rfl rfl (op_loadPA rfl fagg_api_Value rfl (by first | decide | simp) rfl) ?_)
   refine at_o 21 rfl rfl rfl rfl (op_call0 rfl rfl rfl rfl (apply_yes m hm s l hc k r hr hen)) ?_
   refine at_o 22 rfl rfl rfl rfl (op_extract rfl rfl) ?_
   refine at_o 23 rfl rfl rfl rfl (op_extract rfl rfl) ?_
   refine at_o 24 rfl rfl rfl rfl (op_call0 rfl rfl rfl rfl (single_yes _)) ?_
   refine at_o 25 rfl rfl rfl rfl (op_extract rfl rfl) ?_
   refine at_o 26 rfl rfl rfl rfl (op_extract rfl rfl) ?_
   refine at_m 25 6 rfl rfl rfl (.inr rfl) rfl ?_
   refine at_m 26 7 rfl rfl rfl (.inr rfl) rfl ?_
   refine at_end rfl ?_
   refine at_ret rfl (ret_two (t := 6) (t2 := 7) rfl rfl rfl ?_ ?_ rfl rfl)
   all_goals (rfl)
  ·skip
   exact absurd hc2 (by simp)
set_option maxRecDepth 20000 in
theorem behind_no (m : Md) (hm : MdOK m) (s : Int) (l : List Int) (hc : CfOK m.ns m.np (s :: l)) (k : Nat) (r : Rl) (hr : m.rules[k]? = some r) (hen : enQ r (s :: l) = false) : FSpec PP 57 [.v (vMd m), di ↑k, .v (vCf (s :: l))] σ0 (.tup [.v (.list []), di 0]) σ0 := by
 refine spec_at cBehind Tryz.func57 rfl (by kernel_rfl) (by first | decide | simp) _ (by dsimp only [Tryz.f57, List.length, Nat.reduceAdd, Nat.reduceSub, List.replicate, List.cons_append, List.nil_append]) ?_
 refine at_seq [0] [1] rfl ?_
 refine at_region rfl ?_
 refine at_o 3 rfl rfl rfl rfl (op_boxI rfl rfl) ?_
 refine at_o 5 rfl rfl rfl rfl (op_boxI rfl rfl) ?_
 refine at_c 6 rfl rfl rfl (.inr rfl) ?_
 refine at_c 7 rfl rfl rfl (.inr rfl) ?_
 refine at_end rfl ?_
 refine at_seq [1, 0] [1, 1] rfl ?_
 refine at_block [1, 0, 0] 0 rfl ?_
 refine at_seq [1, 0, 0, 0] [1, 0, 0, 1] rfl ?_
 refine at_region rfl ?_
 refine at_m 1 9 rfl rfl rfl (.inl rfl) rfl ?_
 refine at_o 10 rfl rfl rfl rfl (op_binI rfl rfl) ?_
 refine at_m 10 8 rfl rfl rfl (.inr rfl) rfl ?_
 refine at_end rfl ?_
 refine at_cond [1, 0, 0, 1, 0] [1, 0, 0, 1, 1] rfl rfl (fun hc1 => ?_) (fun hc1 => ?_)
 ·skip
  exact absurd hc1 (by first | (simp; done) | (simp; omega))
 ·skip
  refine at_seq [1, 0, 0, 1, 1, 0] [1, 0, 0, 1, 1, 1] rfl ?_
  refine at_region rfl ?_
  first | (refine at_o 15 rfl rfl rfl rfl (op_fieldP rfl ffld0_api_Model (by decide)) ?_) | (refine at_o 15 rfl rfl rfl rfl (op_fieldR rfl ffld0_api_Model (by decide) (by decide) rfl) ?_)
  first | (refine at_o 16 rfl rfl rfl rfl (op_loadR1 rfl fone_int rfl) ?_) | (refine at_o 16 rfl rfl rfl rfl (op_loadP1 rfl fone_int rfl rfl) ?_)
  refine at_o 17 rfl rfl rfl rfl (op_binI rfl rfl) ?_
  refine at_m 17 14 rfl rfl rfl (.inr rfl) rfl ?_
  refine at_end rfl ?_
  refine at_cond [1, 0, 0, 1, 1, 1, 0] [1, 0, 0, 1, 1, 1, 1] rfl rfl (fun hc2 => ?_) (fun hc2 => ?_)
  ·skip
   refine at_seq [1, 0, 0, 1, 1, 1, 0, 0] [1, 0, 0, 1, 1, 1, 0, 1] rfl ?_
   refine at_region rfl ?_
   first | (refine at_o 18 rfl rfl rfl rfl (op_loadRA rfl fagg_api_Model) ?_) | (refine at_o 18 rfl rfl rfl rfl (op_loadPA rfl fagg_api_Model rfl (by first | decide | simp) rfl) ?_)
   refine at_m 1 19 rfl rfl rfl (.inl rfl) rfl ?_
   first | (refine at_o 20 rfl rfl rfl rfl (op_loadRA rfl fagg_api_Value) ?_) | (refine at_o 20 rfl rfl rfl rfl (op_loadPA rfl fagg_api_Value rfl (by first | decide | simp) rfl) ?_)
   refine at_o 21 rfl rfl rfl rfl (op_call0 rfl rfl rfl rfl (apply_no m hm s l hc k r hr hen)) ?_
   refine at_o 22 rfl rfl rfl rfl (op_extract rfl rfl) ?_
   refine at_o 23 rfl rfl rfl rfl (op_extract rfl rfl) ?_
   refine at_o 24 rfl rfl rfl rfl (op_call0 rfl rfl rfl rfl (single_no)) ?_
   refine at_o 25 rfl rfl rfl rfl (op_extract rfl rfl) ?_
   refine at_o 26 rfl rfl rfl rfl (op_extract rfl rfl) ?_
   refine at_m 25 6 rfl rfl rfl (.inr rfl) rfl ?_
   refine at_m 26 7 rfl rfl rfl (.inr rfl) rfl ?_
   refine at_end rfl ?_
   refine at_ret rfl (ret_two (t := 6) (t2 := 7) rfl rfl rfl ?_ ?_ rfl rfl)
   all_goals (rfl)
  ·skip
   exact absurd hc2 (by simp)
theorem behind_spec (m : Md) (hm : MdOK m) (s : Int) (l : List Int) (hc : CfOK m.ns m.np (s :: l)) (k : Nat) (r : Rl) (hr : m.rules[k]? = some r) : FSpec PP 57 [.v (vMd m), di ↑k, .v (vCf (s :: l))] σ0 (.tup [.v (.list ((bhM r (s :: l)).map vCf)), di 0]) σ0 := by
 cases hen : enQ r (s :: l) with
 | true => rw [show bhM r (s :: l) = [apM r (s :: l)] by simp [bhM, hen]]; exact behind_yes m hm s l hc k r hr hen
 | false => rw [show bhM r (s :: l) = [] by simp [bhM, hen]]; exact behind_no m hm s l hc k r hr hen
noncomputable def cStAll : Code := Tryz.f28.body.getD .skip
set_option maxRecDepth 20000 in
theorem all_in (R : List D → St → Prop) (K : List KI) (m : Md) (c : List Int) (k : Int) (ls : List (List Int)) (hl : ls.length ≤ 100) (T : List Stp) (hk : Run PP R K (.undef :: .undef :: (.v (.ref (vMd m))) :: (.v (.ref (vCf c))) :: .undef :: .undef :: .undef :: (.acc 1 (T.map vStp)) :: (di k) :: .undef :: .undef :: .undef :: .undef :: .undef :: .undef :: .undef :: .undef :: .undef :: .undef :: .undef :: .undef :: .undef :: .undef :: .undef :: .undef :: .undef :: .undef :: .undef :: .undef :: .undef :: .undef :: .undef :: .undef :: .undef :: .undef :: .undef :: .undef :: .undef :: .undef :: .undef :: .undef :: .undef :: .undef :: .undef :: .undef :: .undef :: .undef :: .undef :: .undef :: .undef :: .undef :: .undef :: .undef :: []) ⟨[], [(1, 3, T.map vStp)]⟩) (n : Nat) : ∀ (i : Nat) (acc : List Stp), ls.length - i = n → acc.length ≤ 1000 + i → T = acc ++ (ls.drop i).map (fun d => (k, d)) → Run PP R (.lp (sub cStAll [1, 1, 1, 0, 1, 0, 0, 1, 0, 0, 1, 1, 1, 0, 0]) :: .blk 2 :: K) (.undef :: .undef :: (.v (.ref (vMd m))) :: (.v (.ref (vCf c))) :: .undef :: .undef :: .undef :: (.acc 1 (acc.map vStp)) :: (di k) :: .undef :: .undef :: .undef :: .undef :: .undef :: .undef :: .undef :: .undef :: .undef :: .undef :: .undef :: .undef :: .undef :: .undef :: .undef :: .undef :: .undef :: .undef :: .undef :: .undef :: .undef :: .undef :: .undef :: .undef :: .undef :: .undef :: .undef :: (.v (.list (ls.map vCf))) :: (di ↑ls.length) :: (di ↑i) :: .undef :: .undef :: .undef :: .undef :: .undef :: .undef :: .undef :: .undef :: .undef :: .undef :: .undef :: .undef :: .undef :: .undef :: []) ⟨[], [(1, 3, acc.map vStp)]⟩ := by
 induction n using Nat.strongRecOn with
 | _ n ih =>
  intro i acc hm hal hT
  refine run_lp ?_
  refine at_seq [1, 1, 1, 0, 1, 0, 0, 1, 0, 0, 1, 1, 1, 0, 0, 0] [1, 1, 1, 0, 1, 0, 0, 1, 0, 0, 1, 1, 1, 0, 0, 1] rfl ?_
  refine at_region rfl ?_
  refine at_o 39 rfl rfl rfl rfl (op_binI rfl rfl) ?_
  refine at_end rfl ?_
  refine at_seq [1, 1, 1, 0, 1, 0, 0, 1, 0, 0, 1, 1, 1, 0, 0, 1, 0] [1, 1, 1, 0, 1, 0, 0, 1, 0, 0, 1, 1, 1, 0, 0, 1, 1] rfl ?_
  refine at_cond [1, 1, 1, 0, 1, 0, 0, 1, 0, 0, 1, 1, 1, 0, 0, 1, 0, 0] [1, 1, 1, 0, 1, 0, 0, 1, 0, 0, 1, 1, 1, 0, 0, 1, 0, 1] rfl rfl (fun hc1 => ?_) (fun hc1 => ?_)
  ·skip
   have hlt : i < ls.length := by simpa using hc1
   obtain ⟨x, hx⟩ := get_ex hlt
   have hx2 := idx_some (f := vCf) hx
   rw [List.drop_eq_getElem_cons hlt, (List.getElem?_eq_some_iff.1 hx).2] at hT
   refine at_skip rfl ?_
   refine at_seq [1, 1, 1, 0, 1, 0, 0, 1, 0, 0, 1, 1, 1, 0, 0, 1, 1, 0] [1, 1, 1, 0, 1, 0, 0, 1, 0, 0, 1, 1, 1, 0, 0, 1, 1, 1] rfl ?_
   refine at_block [1, 1, 1, 0, 1, 0, 0, 1, 0, 0, 1, 1, 1, 0, 0, 1, 1, 0, 0] 3 rfl ?_
   refine at_seq [1, 1, 1, 0, 1, 0, 0, 1, 0, 0, 1, 1, 1, 0, 0, 1, 1, 0, 0, 0] [1, 1, 1, 0, 1, 0, 0, 1, 0, 0, 1, 1, 1, 0, 0, 1, 1, 0, 0, 1] rfl ?_
   refine at_region rfl ?_
   first | (refine at_o 40 rfl rfl rfl rfl (op_idxL rfl fsl_Sapi_Value (by first | decide | omega) (by first | assumption | exact idx_some (by assumption) | rfl) (by first | rfl | (simp [V.size]; done))) ?_) | (refine at_o 40 rfl rfl rfl rfl (opOK_un (op_idxL rfl fsl_Sapi_Value (by first | decide | omega) (by first | assumption | exact idx_some (by assumption) | rfl) (by first | rfl | (simp [V.size]; done)))) ?_) | (refine at_o 40 rfl rfl rfl rfl (op_idxA rfl fsl_Sapi_Value (by first | decide | omega) (by first | decide | omega)) ?_)
   first | (refine at_o 41 rfl rfl rfl rfl (op_loadRA rfl fagg_api_Value) ?_) | (refine at_o 41 rfl rfl rfl rfl (op_loadPA rfl fagg_api_Value rfl (by first | decide | simp) rfl) ?_)
   refine at_new 41 12 rfl rfl rfl rfl fzero_api_Value rfl rfl rfl rfl (by decide) rfl rfl fagg_api_Value (by first | rfl | (simp [V.size]; done)) rfl (by simp only [List.length_cons]; omega) (by dsimp only [List.set]) ?_
   refine at_end rfl ?_
   refine at_region rfl ?_
   refine at_m 7 42 rfl rfl rfl (.inl rfl) rfl ?_
   refine at_m 8 43 rfl rfl rfl (.inl rfl) rfl ?_
   first | (refine at_o 44 rfl rfl rfl rfl (op_loadRA rfl fagg_api_Value) ?_) | (refine at_o 44 rfl rfl rfl rfl (op_loadPA rfl fagg_api_Value rfl (by first | decide | simp) rfl) ?_)
   refine at_o 45 rfl rfl rfl rfl (op_buildN rfl fbldN_api_Step rfl rfl) ?_
   try dsimp only [V.cellsV, List.take, List.drop, List.cons_append, List.nil_append, List.length]
   refine at_o 46 rfl rfl rfl rfl (op_buildSlice rfl (by rfl) (by rfl) fsl_Sapi_Step rfl rfl (by simp [V.size]) (by decide) (by decide) (by decide)) ?_
   refine at_opS (some 47) rfl rfl rfl rfl (op_append rfl fsl_Sapi_Step rfl (by simp) (by simp [V.size]) (by simp; omega) (by simp; omega)) (by dsimp only [putD, List.set]) (by dsimp only [List.set, List.append, List.cons_append, List.nil_append, cellsD, List.map, repl, List.length, Nat.reduceAdd, if_true, ↓reduceIte]; first | done | rfl) ?_
   refine at_m 47 7 rfl rfl rfl (.inr rfl) rfl ?_
   refine at_end rfl ?_
   rw [show (acc.map vStp ++ [.agg [.int .i64 k, .int .i64 0, vK x]]) = (acc ++ [(k, x)]).map vStp by simp]
   refine run_blk ?_
   refine at_region rfl ?_
   refine at_o 48 rfl rfl rfl rfl (op_binI rfl rfl) ?_
   rw [wrap_succ (by omega)]
   refine at_m 48 38 rfl rfl rfl (.inl rfl) rfl ?_
   refine at_end rfl ?_
   exact run_wk (.drop (.drop (.keep (.keep (.drop (.drop (.drop (.keep (.keep (.d16 (.d4 (.d4 (.drop (.drop (.drop (.keep (.keep (.keep (.d4 (.d4 (.d4 (.drop (.drop .nil))))))))))))))))))))))) (ih _ (by omega) (i + 1) (acc ++ [(k, x)]) rfl (by simp; omega) (by rw [hT]; simp))
  ·skip
   have hge : ls.length ≤ i := by simpa using hc1
   rw [List.drop_of_length_le hge, List.map_nil, List.append_nil] at hT
   subst hT
   refine at_exit rfl rfl ?_
   exact run_wk (.drop (.drop (.keep (.keep (.drop (.drop (.drop (.keep (.keep (.d16 (.d16 (.d4 (.d4 (.d4 .nil)))))))))))))) hk
set_option maxRecDepth 20000 in
theorem all_out (m : Md) (hm : MdOK m) (s : Int) (l : List Int) (hc : CfOK m.ns m.np (s :: l)) (T : List Stp) (n : Nat) : ∀ (k : Nat) (acc : List Stp), m.rules.length - k = n → acc.length ≤ k → k ≤ m.rules.length → T = acc ++ stM (m.rules.drop k) k (s :: l) → Run PP (fun env σ1 => ResOK PP Tryz.f28 env σ1 (.tup [.v (vStps T), di 0]) σ0) [.lp (sub cStAll [1, 1, 1, 0, 1, 0, 0]), .blk 0, .code (sub cStAll [1, 1, 1, 1])] (.undef :: .undef :: (.v (.ref (vMd m))) :: (.v (.ref (vCf (s :: l)))) :: .undef :: .undef :: .undef :: (.acc 1 (acc.map vStp)) :: (di ↑k) :: .undef :: .undef :: .undef :: .undef :: .undef :: .undef :: .undef :: .undef :: .undef :: .undef :: .undef :: .undef :: .undef :: .undef :: .undef :: .undef :: .undef :: .undef :: .undef :: .undef :: .undef :: .undef :: .undef :: .undef :: .undef :: .undef :: .undef :: .undef :: .undef :: .undef :: .undef :: .undef :: .undef :: .undef :: .undef :: .undef :: .undef :: .undef :: .undef :: .undef :: .undef :: .undef :: .undef :: .undef :: []) ⟨[], [(1, 3, acc.map vStp)]⟩ := by
 induction n using Nat.strongRecOn with
 | _ n ih =>
  intro k acc hn hal hkl hT
  have h3 := hm.k1
  refine run_lp ?_
  refine at_seq [1, 1, 1, 0, 1, 0, 0, 0] [1, 1, 1, 0, 1, 0, 0, 1] rfl ?_
  refine at_seq [1, 1, 1, 0, 1, 0, 0, 0, 0] [1, 1, 1, 0, 1, 0, 0, 0, 1] rfl ?_
  refine at_region rfl ?_
  refine at_m 8 19 rfl rfl rfl (.inl rfl) rfl ?_
  first | (refine at_o 20 rfl rfl rfl rfl (op_fieldP rfl ffld7_api_Model (by decide)) ?_) | (refine at_o 20 rfl rfl rfl rfl (op_fieldR rfl ffld7_api_Model (by decide) (by decide) rfl) ?_)
  first | (refine at_o 21 rfl rfl rfl rfl (op_loadR1 rfl fone_Sapi_Rule rfl) ?_) | (refine at_o 21 rfl rfl rfl rfl (op_loadP1 rfl fone_Sapi_Rule rfl rfl) ?_)
  first | (refine at_o 22 rfl rfl rfl rfl (op_lenL rfl fu_Sapi_Rule) ?_) | (refine at_o 22 rfl rfl rfl rfl (opOK_un (op_lenL rfl fu_Sapi_Rule)) ?_) | (refine at_o 22 rfl rfl rfl rfl (op_lenA rfl fu_Sapi_Rule) ?_)
  simp only [List.length_map]
  refine at_o 23 rfl rfl rfl rfl (op_binI rfl rfl) ?_
  refine at_end rfl ?_
  refine at_cond [1, 1, 1, 0, 1, 0, 0, 0, 1, 0] [1, 1, 1, 0, 1, 0, 0, 0, 1, 1] rfl rfl (fun hc1 => ?_) (fun hc1 => ?_)
  ·skip
   have hlt : k < m.rules.length := by simpa using hc1
   obtain ⟨r, hr⟩ := get_ex hlt
   have hb1 := bhM_le r (s :: l)
   rw [List.drop_eq_getElem_cons hlt, (List.getElem?_eq_some_iff.1 hr).2] at hT
   simp only [stM] at hT
   refine at_skip rfl ?_
   refine at_seq [1, 1, 1, 0, 1, 0, 0, 1, 0] [1, 1, 1, 0, 1, 0, 0, 1, 1] rfl ?_
   refine at_block [1, 1, 1, 0, 1, 0, 0, 1, 0, 0] 1 rfl ?_
   refine at_seq [1, 1, 1, 0, 1, 0, 0, 1, 0, 0, 0] [1, 1, 1, 0, 1, 0, 0, 1, 0, 0, 1] rfl ?_
   refine at_region rfl ?_
   first | (refine at_o 27 rfl rfl rfl rfl (op_loadRA rfl fagg_api_Model) ?_) | (refine at_o 27 rfl rfl rfl rfl (op_loadPA rfl fagg_api_Model rfl (by first | decide | simp) rfl) ?_)
   refine at_m 8 28 rfl rfl rfl (.inl rfl) rfl ?_
   first | (refine at_o 29 rfl rfl rfl rfl (op_loadRA rfl fagg_api_Value) ?_) | (refine at_o 29 rfl rfl rfl rfl (op_loadPA rfl fagg_api_Value rfl (by first | decide | simp) rfl) ?_)
   refine at_o 30 rfl rfl rfl rfl (op_call0 rfl rfl rfl rfl (behind_spec m hm s l hc k r hr)) ?_
   refine at_m 30 26 rfl rfl rfl (.inl rfl) rfl ?_
   refine at_o 31 rfl rfl rfl rfl (op_extract rfl rfl) ?_
   refine at_o 32 rfl rfl rfl rfl (op_extract rfl rfl) ?_
   refine at_m 31 9 rfl rfl rfl (.inr rfl) rfl ?_
   refine at_m 32 10 rfl rfl rfl (.inr rfl) rfl ?_
   refine at_end rfl ?_
   refine at_seq [1, 1, 1, 0, 1, 0, 0, 1, 0, 0, 1, 0] [1, 1, 1, 0, 1, 0, 0, 1, 0, 0, 1, 1] rfl ?_
   refine at_seq [1, 1, 1, 0, 1, 0, 0, 1, 0, 0, 1, 0, 0] [1, 1, 1, 0, 1, 0, 0, 1, 0, 0, 1, 0, 1] rfl ?_
   refine at_region rfl ?_
   refine at_m 10 33 rfl rfl rfl (.inl rfl) rfl ?_
   refine at_o 34 rfl rfl rfl rfl (op_binI rfl rfl) ?_
   refine at_end rfl ?_
   refine at_cond [1, 1, 1, 0, 1, 0, 0, 1, 0, 0, 1, 0, 1, 0] [1, 1, 1, 0, 1, 0, 0, 1, 0, 0, 1, 0, 1, 1] rfl rfl (fun hc2 => ?_) (fun hc2 => ?_)
   ·skip
    exact absurd hc2 (by simp)
   ·skip
    refine at_skip rfl ?_
    refine at_seq [1, 1, 1, 0, 1, 0, 0, 1, 0, 0, 1, 1, 0] [1, 1, 1, 0, 1, 0, 0, 1, 0, 0, 1, 1, 1] rfl ?_
    refine at_region rfl ?_
    refine at_m 9 36 rfl rfl rfl (.inl rfl) rfl ?_
    first | (refine at_o 37 rfl rfl rfl rfl (op_lenL rfl fu_Sapi_Value) ?_) | (refine at_o 37 rfl rfl rfl rfl (opOK_un (op_lenL rfl fu_Sapi_Value)) ?_) | (refine at_o 37 rfl rfl rfl rfl (op_lenA rfl fu_Sapi_Value) ?_)
    simp only [List.length_map]
    refine at_c 38 rfl rfl rfl (.inl rfl) ?_
    refine at_end rfl ?_
    refine at_block [1, 1, 1, 0, 1, 0, 0, 1, 0, 0, 1, 1, 1, 0] 2 rfl ?_
    refine at_loop [1, 1, 1, 0, 1, 0, 0, 1, 0, 0, 1, 1, 1, 0, 0] rfl ?_
    try simp only [List.length_map, List.length_nil, Int.toNat_natCast]
    refine run_wk (.drop (.drop (.keep (.keep (.drop (.drop (.drop (.keep (.keep (.d16 (.d4 (.d4 (.drop (.drop (.drop (.keep (.keep (.keep (.d4 (.d4 (.d4 (.drop (.drop .nil))))))))))))))))))))))) (all_in _ _ m (s :: l) ↑k (bhM r (s :: l)) (by omega) (acc ++ (bhM r (s :: l)).map (fun d => ((k : Int), d))) ?_ _ 0 acc rfl (by omega) (by rw [List.drop_zero]))
    refine run_blk ?_
    refine at_region rfl ?_
    refine at_m 8 24 rfl rfl rfl (.inl rfl) rfl ?_
    refine at_o 25 rfl rfl rfl rfl (op_binI rfl rfl) ?_
    rw [wrap_succ (by omega)]
    refine at_m 25 8 rfl rfl rfl (.inr rfl) rfl ?_
    refine at_end rfl ?_
    exact run_wk (.drop (.drop (.keep (.keep (.drop (.drop (.drop (.keep (.keep (.d16 (.d16 (.d4 (.d4 (.d4 .nil)))))))))))))) (ih _ (by omega) (k + 1) _ rfl (by simp; omega) (by omega) (by rw [hT]; simp))
  ·skip
   have hge : m.rules.length ≤ k := by simpa using hc1
   rw [List.drop_of_length_le hge] at hT
   simp only [stM, List.append_nil] at hT
   subst hT
   refine at_exit rfl rfl ?_
   refine at_seq [1, 1, 1, 1, 0] [1, 1, 1, 1, 1] rfl ?_
   refine at_seq [1, 1, 1, 1, 0, 0] [1, 1, 1, 1, 0, 1] rfl ?_
   refine at_region rfl ?_
   refine at_m 7 49 rfl rfl rfl (.inl rfl) rfl ?_
   first | (refine at_o 50 rfl rfl rfl rfl (op_lenL rfl fu_Sapi_Step) ?_) | (refine at_o 50 rfl rfl rfl rfl (opOK_un (op_lenL rfl fu_Sapi_Step)) ?_) | (refine at_o 50 rfl rfl rfl rfl (op_lenA rfl fu_Sapi_Step) ?_)
   simp only [List.length_map]
   refine at_o 51 rfl rfl rfl rfl (op_binI rfl rfl) ?_
   refine at_end rfl ?_
   refine at_cond [1, 1, 1, 1, 0, 1, 0] [1, 1, 1, 1, 0, 1, 1] rfl rfl (fun hc3 => ?_) (fun hc3 => ?_)
   ·skip
    exact absurd hc3 (by simp; omega)
   ·skip
    refine at_skip rfl ?_
    refine at_seq [1, 1, 1, 1, 1, 0] [1, 1, 1, 1, 1, 1] rfl ?_
    refine at_region rfl ?_
    refine at_m 7 52 rfl rfl rfl (.inl rfl) rfl ?_
    refine at_m 52 4 rfl rfl rfl (.inr rfl) rfl ?_
    refine at_c 5 rfl rfl rfl (.inr rfl) ?_
    refine at_end rfl ?_
    refine at_ret rfl (ret_two (t := 4) (t2 := 5) rfl rfl rfl ?_ ?_ rfl rfl)
    all_goals (rfl)
set_option maxRecDepth 20000 in
theorem stall_spec (m : Md) (hm : MdOK m) (s : Int) (l : List Int) (hc : CfOK m.ns m.np (s :: l)) : FSpec PP 28 [.v (vMd m), .v (vCf (s :: l))] σ0 (.tup [.v (vStps (stM m.rules 0 (s :: l))), di 0]) σ0 := by
 have h3 := hm.k1
 have h4 := hm.k0
 refine spec_at cStAll Tryz.func28 rfl (by kernel_rfl) (by first | decide | simp) _ (by dsimp only [Tryz.f28, List.length, Nat.reduceAdd, Nat.reduceSub, List.replicate, List.cons_append, List.nil_append]) ?_
 refine at_seq [0] [1] rfl ?_
 refine at_region rfl ?_
 refine at_o 2 rfl rfl rfl rfl (op_boxI rfl rfl) ?_
 refine at_o 3 rfl rfl rfl rfl (op_boxI rfl rfl) ?_
 refine at_c 4 rfl rfl rfl (.inr rfl) ?_
 refine at_c 5 rfl rfl rfl (.inr rfl) ?_
 refine at_end rfl ?_
 refine at_seq [1, 0] [1, 1] rfl ?_
 refine at_seq [1, 0, 0] [1, 0, 1] rfl ?_
 refine at_region rfl ?_
 first | (refine at_o 13 rfl rfl rfl rfl (op_loadRA rfl fagg_api_Model) ?_) | (refine at_o 13 rfl rfl rfl rfl (op_loadPA rfl fagg_api_Model rfl (by first | decide | simp) rfl) ?_)
 first | (refine at_o 14 rfl rfl rfl rfl (op_loadRA rfl fagg_api_Value) ?_) | (refine at_o 14 rfl rfl rfl rfl (op_loadPA rfl fagg_api_Value rfl (by first | decide | simp) rfl) ?_)
 refine at_o 15 rfl rfl rfl rfl (op_call0 rfl rfl rfl rfl (stcheck_spec m hm (s :: l) hc)) ?_
 refine at_m 15 6 rfl rfl rfl (.inr rfl) rfl ?_
 refine at_end rfl ?_
 refine at_seq [1, 0, 1, 0] [1, 0, 1, 1] rfl ?_
 refine at_region rfl ?_
 refine at_m 6 16 rfl rfl rfl (.inl rfl) rfl ?_
 refine at_o 17 rfl rfl rfl rfl (op_binI rfl rfl) ?_
 refine at_end rfl ?_
 refine at_cond [1, 0, 1, 1, 0] [1, 0, 1, 1, 1] rfl rfl (fun hc1 => ?_) (fun hc1 => ?_)
 ·skip
  exact absurd hc1 (by simp)
 ·skip
  refine at_skip rfl ?_
  refine at_seq [1, 1, 0] [1, 1, 1] rfl ?_
  refine at_region rfl ?_
  refine at_opS (some 7) rfl rfl rfl rfl (op_nilOwn (.inl rfl) 1 3 (by simp) (by decide)) (by dsimp only [putD, List.set]) (by dsimp only [List.set, List.append, List.cons_append, List.nil_append, cellsD, List.map, repl, List.length, Nat.reduceAdd, if_true, ↓reduceIte]; first | done | rfl) ?_
  refine at_end rfl ?_
  refine at_seq [1, 1, 1, 0] [1, 1, 1, 1] rfl ?_
  refine at_seq [1, 1, 1, 0, 0] [1, 1, 1, 0, 1] rfl ?_
  refine at_region rfl ?_
  refine at_c 8 rfl rfl rfl (.inr rfl) ?_
  refine at_end rfl ?_
  refine at_block [1, 1, 1, 0, 1, 0] 0 rfl ?_
  refine at_loop [1, 1, 1, 0, 1, 0, 0] rfl ?_
  try simp only [List.length_map, List.length_nil, Int.toNat_natCast]
  refine run_lp ?_
  refine at_seq [1, 1, 1, 0, 1, 0, 0, 0] [1, 1, 1, 0, 1, 0, 0, 1] rfl ?_
  refine at_seq [1, 1, 1, 0, 1, 0, 0, 0, 0] [1, 1, 1, 0, 1, 0, 0, 0, 1] rfl ?_
  refine at_region rfl ?_
  refine at_m 8 19 rfl rfl rfl (.inl rfl) rfl ?_
  first | (refine at_o 20 rfl rfl rfl rfl (op_fieldP rfl ffld7_api_Model (by decide)) ?_) | (refine at_o 20 rfl rfl rfl rfl (op_fieldR rfl ffld7_api_Model (by decide) (by decide) rfl) ?_)
  first | (refine at_o 21 rfl rfl rfl rfl (op_loadR1 rfl fone_Sapi_Rule rfl) ?_) | (refine at_o 21 rfl rfl rfl rfl (op_loadP1 rfl fone_Sapi_Rule rfl rfl) ?_)
  first | (refine at_o 22 rfl rfl rfl rfl (op_lenL rfl fu_Sapi_Rule) ?_) | (refine at_o 22 rfl rfl rfl rfl (opOK_un (op_lenL rfl fu_Sapi_Rule)) ?_) | (refine at_o 22 rfl rfl rfl rfl (op_lenA rfl fu_Sapi_Rule) ?_)
  simp only [List.length_map]
  refine at_o 23 rfl rfl rfl rfl (op_binI rfl rfl) ?_
  refine at_end rfl ?_
  refine at_cond [1, 1, 1, 0, 1, 0, 0, 0, 1, 0] [1, 1, 1, 0, 1, 0, 0, 0, 1, 1] rfl rfl (fun hc2 => ?_) (fun hc2 => ?_)
  ·skip
   refine at_skip rfl ?_
   refine at_seq [1, 1, 1, 0, 1, 0, 0, 1, 0] [1, 1, 1, 0, 1, 0, 0, 1, 1] rfl ?_
   refine at_block [1, 1, 1, 0, 1, 0, 0, 1, 0, 0] 1 rfl ?_
   refine at_seq [1, 1, 1, 0, 1, 0, 0, 1, 0, 0, 0] [1, 1, 1, 0, 1, 0, 0, 1, 0, 0, 1] rfl ?_
   refine at_region rfl ?_
   first | (refine at_o 27 rfl rfl rfl rfl (op_loadRA rfl fagg_api_Model) ?_) | (refine at_o 27 rfl rfl rfl rfl (op_loadPA rfl fagg_api_Model rfl (by first | decide | simp) rfl) ?_)
   refine at_m 8 28 rfl rfl rfl (.inl rfl) rfl ?_
   first | (refine at_o 29 rfl rfl rfl rfl (op_loadRA rfl fagg_api_Value) ?_) | (refine at_o 29 rfl rfl rfl rfl (op_loadPA rfl fagg_api_Value rfl (by first | decide | simp) rfl) ?_)
   refine at_o 30 rfl rfl rfl rfl (op_call0 rfl rfl rfl rfl (behind_q m hm s l hc)) ?_
   refine at_m 30 26 rfl rfl rfl (.inl rfl) rfl ?_
   refine at_o 31 rfl rfl rfl rfl (op_extract rfl rfl) ?_
   refine at_o 32 rfl rfl rfl rfl (op_extract rfl rfl) ?_
   refine at_m 31 9 rfl rfl rfl (.inr rfl) rfl ?_
   refine at_m 32 10 rfl rfl rfl (.inr rfl) rfl ?_
   refine at_end rfl ?_
   refine at_seq [1, 1, 1, 0, 1, 0, 0, 1, 0, 0, 1, 0] [1, 1, 1, 0, 1, 0, 0, 1, 0, 0, 1, 1] rfl ?_
   refine at_seq [1, 1, 1, 0, 1, 0, 0, 1, 0, 0, 1, 0, 0] [1, 1, 1, 0, 1, 0, 0, 1, 0, 0, 1, 0, 1] rfl ?_
   refine at_region rfl ?_
   refine at_m 10 33 rfl rfl rfl (.inl rfl) rfl ?_
   refine at_o 34 rfl rfl rfl rfl (op_binI rfl rfl) ?_
   refine at_end rfl ?_
   refine at_cond [1, 1, 1, 0, 1, 0, 0, 1, 0, 0, 1, 0, 1, 0] [1, 1, 1, 0, 1, 0, 0, 1, 0, 0, 1, 0, 1, 1] rfl rfl (fun hc3 => ?_) (fun hc3 => ?_)
   ·skip
    exact absurd hc3 (by simp)
   ·skip
    refine at_skip rfl ?_
    refine at_seq [1, 1, 1, 0, 1, 0, 0, 1, 0, 0, 1, 1, 0] [1, 1, 1, 0, 1, 0, 0, 1, 0, 0, 1, 1, 1] rfl ?_
    refine at_region rfl ?_
    refine at_m 9 36 rfl rfl rfl (.inl rfl) rfl ?_
    first | (refine at_o 37 rfl rfl rfl rfl (op_lenL rfl fu_Sapi_Value) ?_) | (refine at_o 37 rfl rfl rfl rfl (opOK_un (op_lenL rfl fu_Sapi_Value)) ?_) | (refine at_o 37 rfl rfl rfl rfl (op_lenA rfl fu_Sapi_Value) ?_)
    refine at_c 38 rfl rfl rfl (.inl rfl) ?_
    refine at_end rfl ?_
    refine at_block [1, 1, 1, 0, 1, 0, 0, 1, 0, 0, 1, 1, 1, 0] 2 rfl ?_
    refine at_loop [1, 1, 1, 0, 1, 0, 0, 1, 0, 0, 1, 1, 1, 0, 0] rfl ?_
    try simp only [List.length_map, List.length_nil, Int.toNat_natCast]
    refine run_lp ?_
    refine at_seq [1, 1, 1, 0, 1, 0, 0, 1, 0, 0, 1, 1, 1, 0, 0, 0] [1, 1, 1, 0, 1, 0, 0, 1, 0, 0, 1, 1, 1, 0, 0, 1] rfl ?_
    refine at_region rfl ?_
    refine at_o 39 rfl rfl rfl rfl (op_binI rfl rfl) ?_
    refine at_end rfl ?_
    refine at_seq [1, 1, 1, 0, 1, 0, 0, 1, 0, 0, 1, 1, 1, 0, 0, 1, 0] [1, 1, 1, 0, 1, 0, 0, 1, 0, 0, 1, 1, 1, 0, 0, 1, 1] rfl ?_
    refine at_cond [1, 1, 1, 0, 1, 0, 0, 1, 0, 0, 1, 1, 1, 0, 0, 1, 0, 0] [1, 1, 1, 0, 1, 0, 0, 1, 0, 0, 1, 1, 1, 0, 0, 1, 0, 1] rfl rfl (fun hc4 => ?_) (fun hc4 => ?_)
    ·skip
     exact absurd hc4 (by simp)
    ·skip
     refine at_exit rfl rfl ?_
     refine run_blk ?_
     refine at_region rfl ?_
     refine at_m 8 24 rfl rfl rfl (.inl rfl) rfl ?_
     refine at_o 25 rfl rfl rfl rfl (op_binI rfl rfl) ?_
     rw [show IntKind.i64.wrap (-1 + 1) = ((0 : Nat) : Int) from by rw [wrap_id (by omega) (by omega)]; rfl]
     refine at_m 25 8 rfl rfl rfl (.inr rfl) rfl ?_
     refine at_end rfl ?_
     exact run_wk (.drop (.drop (.keep (.keep (.drop (.drop (.drop (.keep (.keep (.d16 (.d16 (.d4 (.d4 (.d4 .nil)))))))))))))) (all_out m hm s l hc _ _ 0 [] rfl (by simp) (by omega) (by simp))
  ·skip
   exact absurd hc2 (by simp; omega)
end Go.Proofs.YtmdipbhjhkckjaaGreat

namespace Go.Proofs.YtmdipbhjhkckjaaGreat
open Go.Dv
def cmpI (a b : Int) : Int := if a < b then -1 else if b < a then 1 else 0
theorem cmpI_zero {a b : Int} : cmpI a b = 0 ↔ a = b := by unfold cmpI; split; (constructor <;> intro h <;> omega); split <;> (constructor <;> intro h <;> omega)
theorem cmpI_self (a : Int) : cmpI a a = 0 := cmpI_zero.2 rfl
def cmpKs : List Int → List Int → Int
 | [], [] => 0
 | [], _ :: _ => -1
 | _ :: _, [] => 1
 | a :: c, b :: d => if cmpI a b ≠ 0 then cmpI a b else cmpKs c d
theorem cmpKs_zero : ∀ {c d : List Int}, cmpKs c d = 0 ↔ c = d
 | [], [] => by simp [cmpKs]
 | [], _ :: _ => by simp [cmpKs]
 | _ :: _, [] => by simp [cmpKs]
 | a :: c, b :: d => by
  simp only [cmpKs]
  split
  ·rename_i h; constructor
   ·intro h2; exact absurd h2 h
   ·intro e; exact absurd (cmpI_zero.2 (by simpa using (List.cons.inj e).1)) h
  ·rename_i h
   have h : a = b := cmpI_zero.1 (by simpa using h)
   subst h
   rw [cmpKs_zero]; simp
def orM : List Int → Int
 | [] => 0
 | x :: l => if x ≠ 0 then x else orM l
def cmpC (c d : List Int) : Int := if cmpI c.length d.length ≠ 0 then cmpI c.length d.length else cmpKs c d
theorem cmpC_zero {c d : List Int} : cmpC c d = 0 ↔ c = d := by
 unfold cmpC
 split
 ·rename_i h; constructor
  ·intro h2; exact absurd h2 h
  ·intro e; subst e; exact absurd (cmpI_self _) h
 ·exact cmpKs_zero
theorem cmpC_eq (c d : List Int) : (cmpC c d == 0) = decide (c = d) := by
 rw [Bool.eq_iff_iff]; simp [cmpC_zero]
theorem or_leaf (x : Int) : orM [x, cmpI 0 0, cmpKs [] []] = x := by by_cases h : x = 0 <;> simp [orM, cmpKs, cmpI_self, h]
theorem or_cfg (x y : Int) : orM [cmpI 0 0, x, y] = if x ≠ 0 then x else y := by by_cases h : x = 0 <;> by_cases h2 : y = 0 <;> simp [orM, cmpI_self, h, h2]
noncomputable def cNaN : Code := Tryz.f221.body.getD .skip
set_option maxRecDepth 20000 in
theorem isNaN_spec (x : Int) : FSpec PP 221 [di x] σ0 (db false) σ0 := by
 refine spec_at cNaN Tryz.func221 rfl (by kernel_rfl) (by first | decide | simp) _ (by dsimp only [Tryz.f221, List.length, Nat.reduceAdd, Nat.reduceSub, List.replicate, List.cons_append, List.nil_append]) ?_
 refine at_seq [0] [1] rfl ?_
 refine at_region rfl ?_
 refine at_c 2 rfl rfl rfl (.inr rfl) ?_
 refine at_end rfl ?_
 refine at_seq [1, 0] [1, 1] rfl ?_
 refine at_region rfl ?_
 refine at_m 0 3 rfl rfl rfl (.inl rfl) rfl ?_
 refine at_m 0 4 rfl rfl rfl (.inl rfl) rfl ?_
 refine at_o 5 rfl rfl rfl rfl (op_binI rfl rfl) ?_
 refine at_m 5 2 rfl rfl rfl (.inr rfl) rfl ?_
 refine at_end rfl ?_
 refine at_ret rfl (ret_one (t := 2) rfl rfl ?_ rfl)
 simp
noncomputable def cCmp : Code := Tryz.f159.body.getD .skip
set_option maxRecDepth 20000 in
theorem cmpI_spec (a b : Int) : FSpec PP 159 [di a, di b] σ0 (di (cmpI a b)) σ0 := by
 unfold cmpI
 refine spec_at cCmp Tryz.func159 rfl (by kernel_rfl) (by first | decide | simp) _ (by dsimp only [Tryz.f159, List.length, Nat.reduceAdd, Nat.reduceSub, List.replicate, List.cons_append, List.nil_append]) ?_
 refine at_seq [0] [1] rfl ?_
 refine at_region rfl ?_
 refine at_c 4 rfl rfl rfl (.inr rfl) ?_
 refine at_end rfl ?_
 refine at_seq [1, 0] [1, 1] rfl ?_
 refine at_region rfl ?_
 refine at_m 0 7 rfl rfl rfl (.inl rfl) rfl ?_
 refine at_o 8 rfl rfl rfl rfl (op_call0 rfl rfl rfl rfl (isNaN_spec _)) ?_
 refine at_m 8 5 rfl rfl rfl (.inr rfl) rfl ?_
 refine at_end rfl ?_
 refine at_seq [1, 1, 0] [1, 1, 1] rfl ?_
 refine at_region rfl ?_
 refine at_m 1 9 rfl rfl rfl (.inl rfl) rfl ?_
 refine at_o 10 rfl rfl rfl rfl (op_call0 rfl rfl rfl rfl (isNaN_spec _)) ?_
 refine at_m 10 6 rfl rfl rfl (.inr rfl) rfl ?_
 refine at_end rfl ?_
 refine at_seq [1, 1, 1, 0] [1, 1, 1, 1] rfl ?_
 refine at_seq [1, 1, 1, 0, 0] [1, 1, 1, 0, 1] rfl ?_
 refine at_region rfl ?_
 refine at_m 5 11 rfl rfl rfl (.inl rfl) rfl ?_
 refine at_end rfl ?_
 refine at_false [1, 1, 1, 0, 1, 0] [1, 1, 1, 0, 1, 1] rfl rfl ?_
 refine at_skip rfl ?_
 refine at_seq [1, 1, 1, 1, 0] [1, 1, 1, 1, 1] rfl ?_
 refine at_seq [1, 1, 1, 1, 0, 0] [1, 1, 1, 1, 0, 1] rfl ?_
 refine at_region rfl ?_
 refine at_m 6 13 rfl rfl rfl (.inl rfl) rfl ?_
 refine at_end rfl ?_
 refine at_false [1, 1, 1, 1, 0, 1, 0] [1, 1, 1, 1, 0, 1, 1] rfl rfl ?_
 refine at_skip rfl ?_
 refine at_seq [1, 1, 1, 1, 1, 0] [1, 1, 1, 1, 1, 1] rfl ?_
 refine at_seq [1, 1, 1, 1, 1, 0, 0] [1, 1, 1, 1, 1, 0, 1] rfl ?_
 refine at_region rfl ?_
 refine at_m 0 14 rfl rfl rfl (.inl rfl) rfl ?_
 refine at_m 1 15 rfl rfl rfl (.inl rfl) rfl ?_
 refine at_o 16 rfl rfl rfl rfl (op_binI rfl rfl) ?_
 refine at_end rfl ?_
 refine at_cond [1, 1, 1, 1, 1, 0, 1, 0] [1, 1, 1, 1, 1, 0, 1, 1] rfl rfl (fun hc1 => ?_) (fun hc1 => ?_)
 ·skip
  have h1 : a < b := by simpa using hc1
  rw [if_pos h1]
  refine at_seq [1, 1, 1, 1, 1, 0, 1, 0, 0] [1, 1, 1, 1, 1, 0, 1, 0, 1] rfl ?_
  refine at_region rfl ?_
  refine at_c 4 rfl rfl rfl (.inr rfl) ?_
  refine at_end rfl ?_
  refine at_ret rfl (ret_one (t := 4) rfl rfl ?_ rfl)
  rfl
 ·skip
  have h1 : ¬ a < b := by simpa using hc1
  rw [if_neg h1]
  refine at_skip rfl ?_
  refine at_seq [1, 1, 1, 1, 1, 1, 0] [1, 1, 1, 1, 1, 1, 1] rfl ?_
  refine at_seq [1, 1, 1, 1, 1, 1, 0, 0] [1, 1, 1, 1, 1, 1, 0, 1] rfl ?_
  refine at_region rfl ?_
  refine at_m 0 17 rfl rfl rfl (.inl rfl) rfl ?_
  refine at_m 1 18 rfl rfl rfl (.inl rfl) rfl ?_
  refine at_o 19 rfl rfl rfl rfl (op_binI rfl rfl) ?_
  refine at_end rfl ?_
  refine at_cond [1, 1, 1, 1, 1, 1, 0, 1, 0] [1, 1, 1, 1, 1, 1, 0, 1, 1] rfl rfl (fun hc2 => ?_) (fun hc2 => ?_)
  ·skip
   have h2 : b < a := by simpa using hc2
   rw [if_pos h2]
   refine at_seq [1, 1, 1, 1, 1, 1, 0, 1, 0, 0] [1, 1, 1, 1, 1, 1, 0, 1, 0, 1] rfl ?_
   refine at_region rfl ?_
   refine at_c 4 rfl rfl rfl (.inr rfl) ?_
   refine at_end rfl ?_
   refine at_ret rfl (ret_one (t := 4) rfl rfl ?_ rfl)
   rfl
  ·skip
   have h2 : ¬ b < a := by simpa using hc2
   rw [if_neg h2]
   refine at_skip rfl ?_
   refine at_seq [1, 1, 1, 1, 1, 1, 1, 0] [1, 1, 1, 1, 1, 1, 1, 1] rfl ?_
   refine at_region rfl ?_
   refine at_c 4 rfl rfl rfl (.inr rfl) ?_
   refine at_end rfl ?_
   refine at_ret rfl (ret_one (t := 4) rfl rfl ?_ rfl)
   rfl
noncomputable def cOrder : Code := Tryz.f62.body.getD .skip
set_option maxRecDepth 20000 in
theorem order_spec (a b : Int) : FSpec PP 62 [di a, di b] σ0 (di (cmpI a b)) σ0 := by
 unfold cmpI
 refine spec_at cOrder Tryz.func62 rfl (by kernel_rfl) (by first | decide | simp) _ (by dsimp only [Tryz.f62, List.length, Nat.reduceAdd, Nat.reduceSub, List.replicate, List.cons_append, List.nil_append]) ?_
 refine at_seq [0] [1] rfl ?_
 refine at_region rfl ?_
 refine at_c 4 rfl rfl rfl (.inr rfl) ?_
 refine at_end rfl ?_
 refine at_seq [1, 0] [1, 1] rfl ?_
 refine at_seq [1, 0, 0] [1, 0, 1] rfl ?_
 refine at_region rfl ?_
 refine at_m 0 5 rfl rfl rfl (.inl rfl) rfl ?_
 refine at_m 1 6 rfl rfl rfl (.inl rfl) rfl ?_
 refine at_o 7 rfl rfl rfl rfl (op_binI rfl rfl) ?_
 refine at_end rfl ?_
 refine at_cond [1, 0, 1, 0] [1, 0, 1, 1] rfl rfl (fun hc1 => ?_) (fun hc1 => ?_)
 ·skip
  have h1 : a < b := by simpa using hc1
  rw [if_pos h1]
  refine at_seq [1, 0, 1, 0, 0] [1, 0, 1, 0, 1] rfl ?_
  refine at_region rfl ?_
  refine at_c 4 rfl rfl rfl (.inr rfl) ?_
  refine at_end rfl ?_
  refine at_ret rfl (ret_one (t := 4) rfl rfl ?_ rfl)
  rfl
 ·skip
  have h1 : ¬ a < b := by simpa using hc1
  rw [if_neg h1]
  refine at_skip rfl ?_
  refine at_seq [1, 1, 0] [1, 1, 1] rfl ?_
  refine at_seq [1, 1, 0, 0] [1, 1, 0, 1] rfl ?_
  refine at_region rfl ?_
  refine at_m 0 8 rfl rfl rfl (.inl rfl) rfl ?_
  refine at_m 1 9 rfl rfl rfl (.inl rfl) rfl ?_
  refine at_o 10 rfl rfl rfl rfl (op_binI rfl rfl) ?_
  refine at_end rfl ?_
  refine at_cond [1, 1, 0, 1, 0] [1, 1, 0, 1, 1] rfl rfl (fun hc2 => ?_) (fun hc2 => ?_)
  ·skip
   have h2 : b < a := by simpa using hc2
   rw [if_pos h2]
   refine at_seq [1, 1, 0, 1, 0, 0] [1, 1, 0, 1, 0, 1] rfl ?_
   refine at_region rfl ?_
   refine at_c 4 rfl rfl rfl (.inr rfl) ?_
   refine at_end rfl ?_
   refine at_ret rfl (ret_one (t := 4) rfl rfl ?_ rfl)
   rfl
  ·skip
   have h2 : ¬ b < a := by simpa using hc2
   rw [if_neg h2]
   refine at_skip rfl ?_
   refine at_seq [1, 1, 1, 0] [1, 1, 1, 1] rfl ?_
   refine at_region rfl ?_
   refine at_c 4 rfl rfl rfl (.inr rfl) ?_
   refine at_end rfl ?_
   refine at_ret rfl (ret_one (t := 4) rfl rfl ?_ rfl)
   rfl
noncomputable def cOr : Code := Tryz.f158.body.getD .skip
set_option maxRecDepth 20000 in
theorem or_loop (xs : List Int) (hl : xs.length ≤ 100) (T : Int) (m : Nat) : ∀ (i : Nat), xs.length - i = m → T = orM (xs.drop i) → Run PP (fun env σ1 => ResOK PP Tryz.f158 env σ1 (di T) σ0) [.lp (sub cOr [1, 1, 0, 1, 0, 0]), .blk 0, .code (sub cOr [1, 1, 1])] (.undef :: .undef :: .undef :: (di 0) :: .undef :: .undef :: (dl xs) :: (di ↑xs.length) :: (di ↑i) :: .undef :: .undef :: .undef :: .undef :: .undef :: .undef :: .undef :: .undef :: .undef :: []) σ0 := by
 induction m using Nat.strongRecOn with
 | _ m ih =>
  intro i hm hT
  refine run_lp ?_
  refine at_seq [1, 1, 0, 1, 0, 0, 0] [1, 1, 0, 1, 0, 0, 1] rfl ?_
  refine at_region rfl ?_
  refine at_o 9 rfl rfl rfl rfl (op_binI rfl rfl) ?_
  refine at_end rfl ?_
  refine at_seq [1, 1, 0, 1, 0, 0, 1, 0] [1, 1, 0, 1, 0, 0, 1, 1] rfl ?_
  refine at_cond [1, 1, 0, 1, 0, 0, 1, 0, 0] [1, 1, 0, 1, 0, 0, 1, 0, 1] rfl rfl (fun hc1 => ?_) (fun hc1 => ?_)
  ·skip
   have hlt : i < xs.length := by simpa using hc1
   obtain ⟨x, hx⟩ := get_ex hlt
   have hx2 := idx_some (f := vi) hx
   rw [List.drop_eq_getElem_cons hlt, (List.getElem?_eq_some_iff.1 hx).2] at hT
   simp only [orM] at hT
   refine at_skip rfl ?_
   refine at_seq [1, 1, 0, 1, 0, 0, 1, 1, 0] [1, 1, 0, 1, 0, 0, 1, 1, 1] rfl ?_
   refine at_block [1, 1, 0, 1, 0, 0, 1, 1, 0, 0] 1 rfl ?_
   refine at_seq [1, 1, 0, 1, 0, 0, 1, 1, 0, 0, 0] [1, 1, 0, 1, 0, 0, 1, 1, 0, 0, 1] rfl ?_
   refine at_region rfl ?_
   first | (refine at_o 10 rfl rfl rfl rfl (op_idxL rfl fsl_Sint (by first | decide | omega) (by first | assumption | exact idx_some (by assumption) | rfl) (by first | rfl | (simp [V.size]; done))) ?_) | (refine at_o 10 rfl rfl rfl rfl (opOK_un (op_idxL rfl fsl_Sint (by first | decide | omega) (by first | assumption | exact idx_some (by assumption) | rfl) (by first | rfl | (simp [V.size]; done)))) ?_) | (refine at_o 10 rfl rfl rfl rfl (op_idxA rfl fsl_Sint (by first | decide | omega) (by first | decide | omega)) ?_)
   first | (refine at_o 11 rfl rfl rfl rfl (op_loadR1 rfl fone_int rfl) ?_) | (refine at_o 11 rfl rfl rfl rfl (op_loadP1 rfl fone_int rfl rfl) ?_)
   refine at_m 11 5 rfl rfl rfl (.inr rfl) rfl ?_
   refine at_end rfl ?_
   refine at_seq [1, 1, 0, 1, 0, 0, 1, 1, 0, 0, 1, 0] [1, 1, 0, 1, 0, 0, 1, 1, 0, 0, 1, 1] rfl ?_
   refine at_region rfl ?_
   refine at_m 5 12 rfl rfl rfl (.inl rfl) rfl ?_
   refine at_m 3 13 rfl rfl rfl (.inl rfl) rfl ?_
   refine at_o 14 rfl rfl rfl rfl (op_binI rfl rfl) ?_
   refine at_end rfl ?_
   refine at_cond [1, 1, 0, 1, 0, 0, 1, 1, 0, 0, 1, 1, 0] [1, 1, 0, 1, 0, 0, 1, 1, 0, 0, 1, 1, 1] rfl rfl (fun hc2 => ?_) (fun hc2 => ?_)
   ·skip
    have h1 : x ≠ 0 := by simpa using hc2
    rw [if_pos h1] at hT
    refine at_seq [1, 1, 0, 1, 0, 0, 1, 1, 0, 0, 1, 1, 0, 0] [1, 1, 0, 1, 0, 0, 1, 1, 0, 0, 1, 1, 0, 1] rfl ?_
    refine at_region rfl ?_
    refine at_m 5 15 rfl rfl rfl (.inl rfl) rfl ?_
    refine at_m 15 2 rfl rfl rfl (.inr rfl) rfl ?_
    refine at_end rfl ?_
    refine at_ret rfl (ret_one (t := 2) rfl rfl ?_ rfl)
    rw [hT]
   ·skip
    have h1 : ¬ x ≠ 0 := by simpa using hc2
    rw [if_neg h1] at hT
    refine at_skip rfl ?_
    refine run_blk ?_
    refine at_region rfl ?_
    refine at_o 16 rfl rfl rfl rfl (op_binI rfl rfl) ?_
    rw [wrap_succ (by omega)]
    refine at_m 16 8 rfl rfl rfl (.inl rfl) rfl ?_
    refine at_end rfl ?_
    exact run_wk (.drop (.drop (.drop (.keep (.drop (.drop (.keep (.keep (.keep (.d4 (.d4 (.drop .nil)))))))))))) (ih _ (by omega) (i + 1) rfl hT)
  ·skip
   have hge : xs.length ≤ i := by simpa using hc1
   rw [List.drop_of_length_le hge] at hT
   simp only [orM] at hT
   refine at_exit rfl rfl ?_
   refine at_seq [1, 1, 1, 0] [1, 1, 1, 1] rfl ?_
   refine at_region rfl ?_
   refine at_m 3 17 rfl rfl rfl (.inl rfl) rfl ?_
   refine at_m 17 2 rfl rfl rfl (.inr rfl) rfl ?_
   refine at_end rfl ?_
   refine at_ret rfl (ret_one (t := 2) rfl rfl ?_ rfl)
   rw [hT]
set_option maxRecDepth 20000 in
theorem or_spec (xs : List Int) (hl : xs.length ≤ 100) : FSpec PP 158 [dl xs] σ0 (di (orM xs)) σ0 := by
 refine spec_at cOr Tryz.func158 rfl (by kernel_rfl) (by first | decide | simp) _ (by dsimp only [Tryz.f158, List.length, Nat.reduceAdd, Nat.reduceSub, List.replicate, List.cons_append, List.nil_append]) ?_
 refine at_seq [0] [1] rfl ?_
 refine at_region rfl ?_
 refine at_c 2 rfl rfl rfl (.inr rfl) ?_
 refine at_end rfl ?_
 refine at_seq [1, 0] [1, 1] rfl ?_
 refine at_region rfl ?_
 refine at_c 3 rfl rfl rfl (.inr rfl) ?_
 refine at_end rfl ?_
 refine at_seq [1, 1, 0] [1, 1, 1] rfl ?_
 refine at_seq [1, 1, 0, 0] [1, 1, 0, 1] rfl ?_
 refine at_region rfl ?_
 refine at_m 0 6 rfl rfl rfl (.inl rfl) rfl ?_
 first | (refine at_o 7 rfl rfl rfl rfl (op_lenL rfl fu_Sint) ?_) | (refine at_o 7 rfl rfl rfl rfl (opOK_un (op_lenL rfl fu_Sint)) ?_) | (refine at_o 7 rfl rfl rfl rfl (op_lenA rfl fu_Sint) ?_)
 simp only [List.length_map]
 refine at_c 8 rfl rfl rfl (.inl rfl) ?_
 refine at_end rfl ?_
 refine at_block [1, 1, 0, 1, 0] 0 rfl ?_
 refine at_loop [1, 1, 0, 1, 0, 0] rfl ?_
 try simp only [List.length_map, List.length_nil, Int.toNat_natCast]
 exact run_wk (.drop (.drop (.drop (.keep (.drop (.drop (.keep (.keep (.keep (.d4 (.d4 (.drop .nil)))))))))))) (or_loop xs hl _ _ 0 rfl (by simp))
noncomputable def cCmpF : Code := Tryz.f160.body.getD .skip
set_option maxRecDepth 20000 in
theorem cmpF_loop (fo : FuncId) (c d : List Int) (hf : ∀ a ∈ c, ∀ b ∈ d, FSpec PP fo [.v (vN a), .v (vN b)] σ0 (di (cmpI a b)) σ0) (hl : c.length ≤ 100) (hd : d.length ≤ 100) (T : Int) (m : Nat) : ∀ (i : Nat), c.length - i = m → T = cmpKs (c.drop i) (d.drop i) → i ≤ d.length → i ≤ c.length → Run PP (fun env σ1 => ResOK PP Tryz.f160 env σ1 (di T) σ0) [.lp (sub cCmpF [1, 0, 1, 0, 0]), .blk 0, .code (sub cCmpF [1, 1])] ((.v (vK c)) :: (.v (vK d)) :: (.v (.fn fo [] [])) :: .undef :: .undef :: .undef :: .undef :: .undef :: .undef :: .undef :: .undef :: (.v (vK c)) :: (di ↑c.length) :: (di ↑i) :: .undef :: .undef :: .undef :: .undef :: .undef :: .undef :: .undef :: .undef :: .undef :: .undef :: .undef :: .undef :: .undef :: .undef :: .undef :: .undef :: .undef :: .undef :: .undef :: .undef :: .undef :: .undef :: .undef :: .undef :: .undef :: []) σ0 := by
 induction m using Nat.strongRecOn with
 | _ m ih =>
  intro i hm hT hid hic
  refine run_lp ?_
  refine at_seq [1, 0, 1, 0, 0, 0] [1, 0, 1, 0, 0, 1] rfl ?_
  refine at_region rfl ?_
  refine at_o 14 rfl rfl rfl rfl (op_binI rfl rfl) ?_
  refine at_end rfl ?_
  refine at_seq [1, 0, 1, 0, 0, 1, 0] [1, 0, 1, 0, 0, 1, 1] rfl ?_
  refine at_cond [1, 0, 1, 0, 0, 1, 0, 0] [1, 0, 1, 0, 0, 1, 0, 1] rfl rfl (fun hc1 => ?_) (fun hc1 => ?_)
  ·skip
   have hlt : i < c.length := by simpa using hc1
   obtain ⟨a, ha⟩ := get_ex hlt
   have ha2 := idx_some (f := vN) ha
   rw [List.drop_eq_getElem_cons hlt, (List.getElem?_eq_some_iff.1 ha).2] at hT
   refine at_skip rfl ?_
   refine at_seq [1, 0, 1, 0, 0, 1, 1, 0] [1, 0, 1, 0, 0, 1, 1, 1] rfl ?_
   refine at_block [1, 0, 1, 0, 0, 1, 1, 0, 0] 1 rfl ?_
   refine at_seq [1, 0, 1, 0, 0, 1, 1, 0, 0, 0] [1, 0, 1, 0, 0, 1, 1, 0, 0, 1] rfl ?_
   refine at_region rfl ?_
   refine at_m 13 15 rfl rfl rfl (.inl rfl) rfl ?_
   first | (refine at_o 16 rfl rfl rfl rfl (op_idxL rfl fsl_Sapi_Value (by first | decide | omega) (by first | assumption | exact idx_some (by assumption) | rfl) (by first | rfl | (simp [V.size]; done))) ?_) | (refine at_o 16 rfl rfl rfl rfl (opOK_un (op_idxL rfl fsl_Sapi_Value (by first | decide | omega) (by first | assumption | exact idx_some (by assumption) | rfl) (by first | rfl | (simp [V.size]; done)))) ?_) | (refine at_o 16 rfl rfl rfl rfl (op_idxA rfl fsl_Sapi_Value (by first | decide | omega) (by first | decide | omega)) ?_)
   first | (refine at_o 17 rfl rfl rfl rfl (op_loadRA rfl fagg_api_Value) ?_) | (refine at_o 17 rfl rfl rfl rfl (op_loadPA rfl fagg_api_Value rfl (by first | decide | simp) rfl) ?_)
   refine at_new1 17 8 15 7 rfl rfl rfl rfl fzero_api_Value rfl rfl rfl (.inr rfl) rfl (by decide) (by decide) (by decide) rfl rfl rfl rfl (by decide) rfl rfl fagg_api_Value (by first | rfl | (simp [V.size]; done)) rfl (by simp only [List.length_cons]; omega) (by dsimp only [List.set]) ?_
   refine at_end rfl ?_
   refine at_seq [1, 0, 1, 0, 0, 1, 1, 0, 0, 1, 0] [1, 0, 1, 0, 0, 1, 1, 0, 0, 1, 1] rfl ?_
   refine at_seq [1, 0, 1, 0, 0, 1, 1, 0, 0, 1, 0, 0] [1, 0, 1, 0, 0, 1, 1, 0, 0, 1, 0, 1] rfl ?_
   refine at_region rfl ?_
   refine at_m 7 18 rfl rfl rfl (.inl rfl) rfl ?_
   refine at_m 1 19 rfl rfl rfl (.inl rfl) rfl ?_
   first | (refine at_o 20 rfl rfl rfl rfl (op_lenL rfl fu_Sapi_Value) ?_) | (refine at_o 20 rfl rfl rfl rfl (opOK_un (op_lenL rfl fu_Sapi_Value)) ?_) | (refine at_o 20 rfl rfl rfl rfl (op_lenA rfl fu_Sapi_Value) ?_)
   simp only [List.length_map]
   refine at_o 21 rfl rfl rfl rfl (op_binI rfl rfl) ?_
   refine at_end rfl ?_
   refine at_cond [1, 0, 1, 0, 0, 1, 1, 0, 0, 1, 0, 1, 0] [1, 0, 1, 0, 0, 1, 1, 0, 0, 1, 0, 1, 1] rfl rfl (fun hc2 => ?_) (fun hc2 => ?_)
   ·skip
    have h1 : d.length ≤ i := by simpa using hc2
    rw [List.drop_of_length_le (l := d) h1] at hT
    simp only [cmpKs] at hT
    refine at_seq [1, 0, 1, 0, 0, 1, 1, 0, 0, 1, 0, 1, 0, 0] [1, 0, 1, 0, 0, 1, 1, 0, 0, 1, 0, 1, 0, 1] rfl ?_
    refine at_region rfl ?_
    refine at_c 6 rfl rfl rfl (.inr rfl) ?_
    refine at_end rfl ?_
    refine at_ret rfl (ret_one (t := 6) rfl rfl ?_ rfl)
    rw [hT]
   ·skip
    have h1 : i < d.length := by simpa using hc2
    obtain ⟨b, hb⟩ := get_ex h1
    have hb3 := idx_some (f := vN) hb
    rw [List.drop_eq_getElem_cons h1, (List.getElem?_eq_some_iff.1 hb).2] at hT
    simp only [cmpKs] at hT
    refine at_skip rfl ?_
    refine at_seq [1, 0, 1, 0, 0, 1, 1, 0, 0, 1, 1, 0] [1, 0, 1, 0, 0, 1, 1, 0, 0, 1, 1, 1] rfl ?_
    refine at_region rfl ?_
    refine at_m 1 22 rfl rfl rfl (.inl rfl) rfl ?_
    refine at_m 7 23 rfl rfl rfl (.inl rfl) rfl ?_
    first | (refine at_o 24 rfl rfl rfl rfl (op_idxL rfl fsl_Sapi_Value (by first | decide | omega) (by first | assumption | exact idx_some (by assumption) | rfl) (by first | rfl | (simp [V.size]; done))) ?_) | (refine at_o 24 rfl rfl rfl rfl (opOK_un (op_idxL rfl fsl_Sapi_Value (by first | decide | omega) (by first | assumption | exact idx_some (by assumption) | rfl) (by first | rfl | (simp [V.size]; done)))) ?_) | (refine at_o 24 rfl rfl rfl rfl (op_idxA rfl fsl_Sapi_Value (by first | decide | omega) (by first | decide | omega)) ?_)
    first | (refine at_o 25 rfl rfl rfl rfl (op_loadRA rfl fagg_api_Value) ?_) | (refine at_o 25 rfl rfl rfl rfl (op_loadPA rfl fagg_api_Value rfl (by first | decide | simp) rfl) ?_)
    refine at_new 25 9 rfl rfl rfl rfl fzero_api_Value rfl rfl rfl rfl (by decide) rfl rfl fagg_api_Value (by first | rfl | (simp [V.size]; done)) rfl (by simp only [List.length_cons]; omega) (by dsimp only [List.set]) ?_
    refine at_end rfl ?_
    refine at_seq [1, 0, 1, 0, 0, 1, 1, 0, 0, 1, 1, 1, 0] [1, 0, 1, 0, 0, 1, 1, 0, 0, 1, 1, 1, 1] rfl ?_
    refine at_region rfl ?_
    refine at_m 2 26 rfl rfl rfl (.inl rfl) rfl ?_
    first | (refine at_o 27 rfl rfl rfl rfl (op_loadRA rfl fagg_api_Value) ?_) | (refine at_o 27 rfl rfl rfl rfl (op_loadPA rfl fagg_api_Value rfl (by first | decide | simp) rfl) ?_)
    first | (refine at_o 28 rfl rfl rfl rfl (op_loadRA rfl fagg_api_Value) ?_) | (refine at_o 28 rfl rfl rfl rfl (op_loadPA rfl fagg_api_Value rfl (by first | decide | simp) rfl) ?_)
    refine at_o 29 rfl rfl rfl rfl (op_call0 rfl rfl rfl rfl (hf a (List.mem_of_getElem? ha) b (List.mem_of_getElem? hb))) ?_
    refine at_m 29 10 rfl rfl rfl (.inr rfl) rfl ?_
    refine at_end rfl ?_
    refine at_seq [1, 0, 1, 0, 0, 1, 1, 0, 0, 1, 1, 1, 1, 0] [1, 0, 1, 0, 0, 1, 1, 0, 0, 1, 1, 1, 1, 1] rfl ?_
    refine at_region rfl ?_
    refine at_m 10 30 rfl rfl rfl (.inl rfl) rfl ?_
    refine at_o 31 rfl rfl rfl rfl (op_binI rfl rfl) ?_
    refine at_end rfl ?_
    refine at_cond [1, 0, 1, 0, 0, 1, 1, 0, 0, 1, 1, 1, 1, 1, 0] [1, 0, 1, 0, 0, 1, 1, 0, 0, 1, 1, 1, 1, 1, 1] rfl rfl (fun hc3 => ?_) (fun hc3 => ?_)
    ·skip
     have h2 : cmpI a b ≠ 0 := by simpa using hc3
     rw [if_pos h2] at hT
     refine at_seq [1, 0, 1, 0, 0, 1, 1, 0, 0, 1, 1, 1, 1, 1, 0, 0] [1, 0, 1, 0, 0, 1, 1, 0, 0, 1, 1, 1, 1, 1, 0, 1] rfl ?_
     refine at_region rfl ?_
     refine at_m 10 32 rfl rfl rfl (.inl rfl) rfl ?_
     refine at_m 32 6 rfl rfl rfl (.inr rfl) rfl ?_
     refine at_end rfl ?_
     refine at_ret rfl (ret_one (t := 6) rfl rfl ?_ rfl)
     rw [hT]
    ·skip
     have h2 : ¬ cmpI a b ≠ 0 := by simpa using hc3
     rw [if_neg h2] at hT
     refine at_skip rfl ?_
     refine run_blk ?_
     refine at_region rfl ?_
     refine at_o 33 rfl rfl rfl rfl (op_binI rfl rfl) ?_
     rw [wrap_succ (by omega)]
     refine at_m 33 13 rfl rfl rfl (.inl rfl) rfl ?_
     refine at_end rfl ?_
     exact run_wk (.keep (.keep (.keep (.d4 (.d4 (.keep (.keep (.keep (.d16 (.d4 (.d4 (.drop .nil)))))))))))) (ih _ (by omega) (i + 1) rfl hT (by omega) (by omega))
  ·skip
   have hge : c.length ≤ i := by simpa using hc1
   rw [List.drop_of_length_le hge] at hT
   refine at_exit rfl rfl ?_
   refine at_seq [1, 1, 0] [1, 1, 1] rfl ?_
   refine at_seq [1, 1, 0, 0] [1, 1, 0, 1] rfl ?_
   refine at_region rfl ?_
   refine at_m 0 34 rfl rfl rfl (.inl rfl) rfl ?_
   first | (refine at_o 35 rfl rfl rfl rfl (op_lenL rfl fu_Sapi_Value) ?_) | (refine at_o 35 rfl rfl rfl rfl (opOK_un (op_lenL rfl fu_Sapi_Value)) ?_) | (refine at_o 35 rfl rfl rfl rfl (op_lenA rfl fu_Sapi_Value) ?_)
   simp only [List.length_map]
   refine at_m 1 36 rfl rfl rfl (.inl rfl) rfl ?_
   first | (refine at_o 37 rfl rfl rfl rfl (op_lenL rfl fu_Sapi_Value) ?_) | (refine at_o 37 rfl rfl rfl rfl (opOK_un (op_lenL rfl fu_Sapi_Value)) ?_) | (refine at_o 37 rfl rfl rfl rfl (op_lenA rfl fu_Sapi_Value) ?_)
   simp only [List.length_map]
   refine at_o 38 rfl rfl rfl rfl (op_binI rfl rfl) ?_
   refine at_end rfl ?_
   refine at_cond [1, 1, 0, 1, 0] [1, 1, 0, 1, 1] rfl rfl (fun hc4 => ?_) (fun hc4 => ?_)
   ·skip
    have h3 : c.length < d.length := by simpa using hc4
    have h4 : i < d.length := by omega
    rw [List.drop_eq_getElem_cons h4] at hT
    simp only [cmpKs] at hT
    refine at_seq [1, 1, 0, 1, 0, 0] [1, 1, 0, 1, 0, 1] rfl ?_
    refine at_region rfl ?_
    refine at_c 6 rfl rfl rfl (.inr rfl) ?_
    refine at_end rfl ?_
    refine at_ret rfl (ret_one (t := 6) rfl rfl ?_ rfl)
    rw [hT]
   ·skip
    have h3 : ¬ c.length < d.length := by simpa using hc4
    rw [List.drop_of_length_le (l := d) (by omega)] at hT
    simp only [cmpKs] at hT
    refine at_skip rfl ?_
    refine at_seq [1, 1, 1, 0] [1, 1, 1, 1] rfl ?_
    refine at_region rfl ?_
    refine at_c 6 rfl rfl rfl (.inr rfl) ?_
    refine at_end rfl ?_
    refine at_ret rfl (ret_one (t := 6) rfl rfl ?_ rfl)
    rw [hT]
set_option maxRecDepth 20000 in
theorem cmpF_spec (fo : FuncId) (c d : List Int) (hf : ∀ a ∈ c, ∀ b ∈ d, FSpec PP fo [.v (vN a), .v (vN b)] σ0 (di (cmpI a b)) σ0) (hl : c.length ≤ 100) (hd : d.length ≤ 100) : FSpec PP 160 [.v (vK c), .v (vK d), .v (.fn fo [] [])] σ0 (di (cmpKs c d)) σ0 := by
 refine spec_at cCmpF Tryz.func160 rfl (by kernel_rfl) (by first | decide | simp) _ (by dsimp only [Tryz.f160, List.length, Nat.reduceAdd, Nat.reduceSub, List.replicate, List.cons_append, List.nil_append]) ?_
 refine at_seq [0] [1] rfl ?_
 refine at_region rfl ?_
 refine at_c 6 rfl rfl rfl (.inr rfl) ?_
 refine at_end rfl ?_
 refine at_seq [1, 0] [1, 1] rfl ?_
 refine at_seq [1, 0, 0] [1, 0, 1] rfl ?_
 refine at_region rfl ?_
 refine at_m 0 11 rfl rfl rfl (.inl rfl) rfl ?_
 first | (refine at_o 12 rfl rfl rfl rfl (op_lenL rfl fu_Sapi_Value) ?_) | (refine at_o 12 rfl rfl rfl rfl (opOK_un (op_lenL rfl fu_Sapi_Value)) ?_) | (refine at_o 12 rfl rfl rfl rfl (op_lenA rfl fu_Sapi_Value) ?_)
 simp only [List.length_map]
 refine at_c 13 rfl rfl rfl (.inl rfl) ?_
 refine at_end rfl ?_
 refine at_block [1, 0, 1, 0] 0 rfl ?_
 refine at_loop [1, 0, 1, 0, 0] rfl ?_
 try simp only [List.length_map, List.length_nil, Int.toNat_natCast]
 exact run_wk (.keep (.keep (.keep (.d4 (.d4 (.keep (.keep (.keep (.d16 (.d4 (.d4 (.drop .nil)))))))))))) (cmpF_loop fo c d hf hl hd _ _ 0 rfl (by simp) (by omega) (by omega))
noncomputable def cOCmp : Code := Tryz.f92.body.getD .skip
set_option maxRecDepth 20000 in
theorem ocmpN_spec (a b : Int) : FSpec PP 92 [.v (vN a), .v (vN b)] σ0 (di (cmpI a b)) σ0 := by
 refine spec_at cOCmp Tryz.func92 rfl (by kernel_rfl) (by first | decide | simp) _ (by dsimp only [Tryz.f92, List.length, Nat.reduceAdd, Nat.reduceSub, List.replicate, List.cons_append, List.nil_append]) ?_
 refine at_seq [0] [1] rfl ?_
 refine at_region rfl ?_
 refine at_o 2 rfl rfl rfl rfl (op_boxI rfl rfl) ?_
 refine at_o 3 rfl rfl rfl rfl (op_boxI rfl rfl) ?_
 refine at_c 4 rfl rfl rfl (.inr rfl) ?_
 refine at_end rfl ?_
 refine at_seq [1, 0] [1, 1] rfl ?_
 refine at_draw mixed rfl [σ0] rfl ?_
 first | (refine da_q 5 rfl rfl rfl rfl (fun s hs => op_fieldP rfl ffld0_api_Value (by decide)) ?_) | (refine da_q 5 rfl rfl rfl rfl (fun s hs => op_fieldR rfl ffld0_api_Value (by decide) (by decide) rfl) ?_)
 first | (refine da_q 6 rfl rfl rfl rfl (fun s hs => op_loadR1 rfl fone_int rfl) ?_) | (refine da_q 6 rfl rfl rfl rfl (by intro s hs; simp only [List.mem_cons, List.not_mem_nil, or_false] at hs; rcases hs with rfl <;> exact op_loadP1 rfl fone_int rfl rfl) ?_)
 first | (refine da_q 7 rfl rfl rfl rfl (fun s hs => op_fieldP rfl ffld0_api_Value (by decide)) ?_) | (refine da_q 7 rfl rfl rfl rfl (fun s hs => op_fieldR rfl ffld0_api_Value (by decide) (by decide) rfl) ?_)
 first | (refine da_q 8 rfl rfl rfl rfl (fun s hs => op_loadR1 rfl fone_int rfl) ?_) | (refine da_q 8 rfl rfl rfl rfl (by intro s hs; simp only [List.mem_cons, List.not_mem_nil, or_false] at hs; rcases hs with rfl <;> exact op_loadP1 rfl fone_int rfl rfl) ?_)
 refine da_q 9 rfl rfl rfl rfl (fun s hs => op_call0 rfl rfl rfl rfl (cmpI_spec _ _)) ?_
 first | (refine da_q 10 rfl rfl rfl rfl (fun s hs => op_fieldP rfl ffld1_api_Value (by decide)) ?_) | (refine da_q 10 rfl rfl rfl rfl (fun s hs => op_fieldR rfl ffld1_api_Value (by decide) (by decide) rfl) ?_)
 first | (refine da_q 11 rfl rfl rfl rfl (fun s hs => op_loadR1 rfl fone_Sapi_Value rfl) ?_) | (refine da_q 11 rfl rfl rfl rfl (by intro s hs; simp only [List.mem_cons, List.not_mem_nil, or_false] at hs; rcases hs with rfl <;> exact op_loadP1 rfl fone_Sapi_Value rfl rfl) ?_)
 refine da_q 12 rfl rfl rfl rfl (fun s hs => opOK_see (.cons .nils .nil) (op_lenL rfl fu_Sapi_Value)) ?_
 first | (refine da_q 13 rfl rfl rfl rfl (fun s hs => op_fieldP rfl ffld1_api_Value (by decide)) ?_) | (refine da_q 13 rfl rfl rfl rfl (fun s hs => op_fieldR rfl ffld1_api_Value (by decide) (by decide) rfl) ?_)
 first | (refine da_q 14 rfl rfl rfl rfl (fun s hs => op_loadR1 rfl fone_Sapi_Value rfl) ?_) | (refine da_q 14 rfl rfl rfl rfl (by intro s hs; simp only [List.mem_cons, List.not_mem_nil, or_false] at hs; rcases hs with rfl <;> exact op_loadP1 rfl fone_Sapi_Value rfl rfl) ?_)
 refine da_q 15 rfl rfl rfl rfl (fun s hs => opOK_see (.cons .nils .nil) (op_lenL rfl fu_Sapi_Value)) ?_
 refine da_q 16 rfl rfl rfl rfl (fun s hs => op_call0 rfl rfl rfl rfl (cmpI_spec _ _)) ?_
 first | (refine da_q 17 rfl rfl rfl rfl (fun s hs => op_fieldP rfl ffld1_api_Value (by decide)) ?_) | (refine da_q 17 rfl rfl rfl rfl (fun s hs => op_fieldR rfl ffld1_api_Value (by decide) (by decide) rfl) ?_)
 first | (refine da_q 18 rfl rfl rfl rfl (fun s hs => op_loadR1 rfl fone_Sapi_Value rfl) ?_) | (refine da_q 18 rfl rfl rfl rfl (by intro s hs; simp only [List.mem_cons, List.not_mem_nil, or_false] at hs; rcases hs with rfl <;> exact op_loadP1 rfl fone_Sapi_Value rfl rfl) ?_)
 first | (refine da_q 19 rfl rfl rfl rfl (fun s hs => op_fieldP rfl ffld1_api_Value (by decide)) ?_) | (refine da_q 19 rfl rfl rfl rfl (fun s hs => op_fieldR rfl ffld1_api_Value (by decide) (by decide) rfl) ?_)
 first | (refine da_q 20 rfl rfl rfl rfl (fun s hs => op_loadR1 rfl fone_Sapi_Value rfl) ?_) | (refine da_q 20 rfl rfl rfl rfl (by intro s hs; simp only [List.mem_cons, List.not_mem_nil, or_false] at hs; rcases hs with rfl <;> exact op_loadP1 rfl fone_Sapi_Value rfl rfl) ?_)
 refine da_q 21 rfl rfl rfl rfl (fun s hs => op_call0 rfl rfl rfl rfl ((cmpF_spec 92 [] [] (fun a ha => by simp at ha) (by simp) (by simp)).sub (.cons (.v .nils) (.cons (.v .nils) (.cons (.same _) .nil))) (.same _))) ?_
 refine da_q 22 rfl rfl rfl rfl (fun s hs => op_buildSlice rfl (by rfl) (by rfl) fsl_Sint rfl rfl (by simp [V.size]) (by decide) (by decide) (by decide)) ?_
 refine da_q 23 rfl rfl rfl rfl (fun s hs => op_call0 rfl rfl rfl rfl (or_spec [cmpI a b, cmpI 0 0, cmpKs [] []] (by simp))) ?_
 refine da_m 23 4 rfl rfl rfl (.inr rfl) rfl ?_
 refine da_end rfl ⟨by decide +kernel, _, rfl, ?_⟩
 refine at_ret rfl (ret_one (t := 4) rfl rfl ?_ rfl)
 rw [or_leaf]
set_option maxRecDepth 20000 in
theorem ocmp_spec (c d : List Int) (hc : c.length ≤ 100) (hd : d.length ≤ 100) : FSpec PP 92 [.v (vCf c), .v (vCf d)] σ0 (di (cmpC c d)) σ0 := by
 refine spec_at cOCmp Tryz.func92 rfl (by kernel_rfl) (by first | decide | simp) _ (by dsimp only [Tryz.f92, List.length, Nat.reduceAdd, Nat.reduceSub, List.replicate, List.cons_append, List.nil_append]) ?_
 refine at_seq [0] [1] rfl ?_
 refine at_region rfl ?_
 refine at_o 2 rfl rfl rfl rfl (op_boxI rfl rfl) ?_
 refine at_o 3 rfl rfl rfl rfl (op_boxI rfl rfl) ?_
 refine at_c 4 rfl rfl rfl (.inr rfl) ?_
 refine at_end rfl ?_
 refine at_seq [1, 0] [1, 1] rfl ?_
 refine at_draw mixed rfl [σ0] rfl ?_
 first | (refine da_q 5 rfl rfl rfl rfl (fun s hs => op_fieldP rfl ffld0_api_Value (by decide)) ?_) | (refine da_q 5 rfl rfl rfl rfl (fun s hs => op_fieldR rfl ffld0_api_Value (by decide) (by decide) rfl) ?_)
 first | (refine da_q 6 rfl rfl rfl rfl (fun s hs => op_loadR1 rfl fone_int rfl) ?_) | (refine da_q 6 rfl rfl rfl rfl (by intro s hs; simp only [List.mem_cons, List.not_mem_nil, or_false] at hs; rcases hs with rfl <;> exact op_loadP1 rfl fone_int rfl rfl) ?_)
 first | (refine da_q 7 rfl rfl rfl rfl (fun s hs => op_fieldP rfl ffld0_api_Value (by decide)) ?_) | (refine da_q 7 rfl rfl rfl rfl (fun s hs => op_fieldR rfl ffld0_api_Value (by decide) (by decide) rfl) ?_)
 first | (refine da_q 8 rfl rfl rfl rfl (fun s hs => op_loadR1 rfl fone_int rfl) ?_) | (refine da_q 8 rfl rfl rfl rfl (by intro s hs; simp only [List.mem_cons, List.not_mem_nil, or_false] at hs; rcases hs with rfl <;> exact op_loadP1 rfl fone_int rfl rfl) ?_)
 refine da_q 9 rfl rfl rfl rfl (fun s hs => op_call0 rfl rfl rfl rfl (cmpI_spec _ _)) ?_
 first | (refine da_q 10 rfl rfl rfl rfl (fun s hs => op_fieldP rfl ffld1_api_Value (by decide)) ?_) | (refine da_q 10 rfl rfl rfl rfl (fun s hs => op_fieldR rfl ffld1_api_Value (by decide) (by decide) rfl) ?_)
 first | (refine da_q 11 rfl rfl rfl rfl (fun s hs => op_loadR1 rfl fone_Sapi_Value rfl) ?_) | (refine da_q 11 rfl rfl rfl rfl (by intro s hs; simp only [List.mem_cons, List.not_mem_nil, or_false] at hs; rcases hs with rfl <;> exact op_loadP1 rfl fone_Sapi_Value rfl rfl) ?_)
 first | (refine da_q 12 rfl rfl rfl rfl (fun s hs => op_lenL rfl fu_Sapi_Value) ?_) | (refine da_q 12 rfl rfl rfl rfl (fun s hs => opOK_un (op_lenL rfl fu_Sapi_Value)) ?_) | (refine da_q 12 rfl rfl rfl rfl (fun s hs => op_lenA rfl fu_Sapi_Value) ?_)
 simp only [List.length_map]
 first | (refine da_q 13 rfl rfl rfl rfl (fun s hs => op_fieldP rfl ffld1_api_Value (by decide)) ?_) | (refine da_q 13 rfl rfl rfl rfl (fun s hs => op_fieldR rfl ffld1_api_Value (by decide) (by decide) rfl) ?_)
 first | (refine da_q 14 rfl rfl rfl rfl (fun s hs => op_loadR1 rfl fone_Sapi_Value rfl) ?_) | (refine da_q 14 rfl rfl rfl rfl (by intro s hs; simp only [List.mem_cons, List.not_mem_nil, or_false] at hs; rcases hs with rfl <;> exact op_loadP1 rfl fone_Sapi_Value rfl rfl) ?_)
 first | (refine da_q 15 rfl rfl rfl rfl (fun s hs => op_lenL rfl fu_Sapi_Value) ?_) | (refine da_q 15 rfl rfl rfl rfl (fun s hs => opOK_un (op_lenL rfl fu_Sapi_Value)) ?_) | (refine da_q 15 rfl rfl rfl rfl (fun s hs => op_lenA rfl fu_Sapi_Value) ?_)
 simp only [List.length_map]
 refine da_q 16 rfl rfl rfl rfl (fun s hs => op_call0 rfl rfl rfl rfl (cmpI_spec _ _)) ?_
 first | (refine da_q 17 rfl rfl rfl rfl (fun s hs => op_fieldP rfl ffld1_api_Value (by decide)) ?_) | (refine da_q 17 rfl rfl rfl rfl (fun s hs => op_fieldR rfl ffld1_api_Value (by decide) (by decide) rfl) ?_)
 first | (refine da_q 18 rfl rfl rfl rfl (fun s hs => op_loadR1 rfl fone_Sapi_Value rfl) ?_) | (refine da_q 18 rfl rfl rfl rfl (by intro s hs; simp only [List.mem_cons, List.not_mem_nil, or_false] at hs; rcases hs with rfl <;> exact op_loadP1 rfl fone_Sapi_Value rfl rfl) ?_)
 first | (refine da_q 19 rfl rfl rfl rfl (fun s hs => op_fieldP rfl ffld1_api_Value (by decide)) ?_) | (refine da_q 19 rfl rfl rfl rfl (fun s hs => op_fieldR rfl ffld1_api_Value (by decide) (by decide) rfl) ?_)
 first | (refine da_q 20 rfl rfl rfl rfl (fun s hs => op_loadR1 rfl fone_Sapi_Value rfl) ?_) | (refine da_q 20 rfl rfl rfl rfl (by intro s hs; simp only [List.mem_cons, List.not_mem_nil, or_false] at hs; rcases hs with rfl <;> exact op_loadP1 rfl fone_Sapi_Value rfl rfl) ?_)
 refine da_q 21 rfl rfl rfl rfl (fun s hs => op_call0 rfl rfl rfl rfl (cmpF_spec 92 c d (fun a _ b _ => ocmpN_spec a b) hc hd)) ?_
 refine da_q 22 rfl rfl rfl rfl (fun s hs => op_buildSlice rfl (by rfl) (by rfl) fsl_Sint rfl rfl (by simp [V.size]) (by decide) (by decide) (by decide)) ?_
 refine da_q 23 rfl rfl rfl rfl (fun s hs => op_call0 rfl rfl rfl rfl (or_spec [cmpI 0 0, cmpI ↑c.length ↑d.length, cmpKs c d] (by simp))) ?_
 refine da_m 23 4 rfl rfl rfl (.inr rfl) rfl ?_
 refine da_end rfl ⟨by decide +kernel, _, rfl, ?_⟩
 refine at_ret rfl (ret_one (t := 4) rfl rfl ?_ rfl)
 rw [or_cfg]; rfl
noncomputable def cShSame : Code := Tryz.f60.body.getD .skip
set_option maxRecDepth 20000 in
theorem shsame_spec (c d : List Int) (hc : c.length ≤ 100) (hd : d.length ≤ 100) : FSpec PP 60 [.v (vCf c), .v (vCf d)] σ0 (db (decide (c = d))) σ0 := by
 refine spec_at cShSame Tryz.func60 rfl (by kernel_rfl) (by first | decide | simp) _ (by dsimp only [Tryz.f60, List.length, Nat.reduceAdd, Nat.reduceSub, List.replicate, List.cons_append, List.nil_append]) ?_
 refine at_seq [0] [1] rfl ?_
 refine at_region rfl ?_
 refine at_o 2 rfl rfl rfl rfl (op_boxI rfl rfl) ?_
 refine at_o 3 rfl rfl rfl rfl (op_boxI rfl rfl) ?_
 refine at_c 4 rfl rfl rfl (.inr rfl) ?_
 refine at_end rfl ?_
 refine at_seq [1, 0] [1, 1] rfl ?_
 refine at_region rfl ?_
 first | (refine at_o 5 rfl rfl rfl rfl (op_loadRA rfl fagg_api_Value) ?_) | (refine at_o 5 rfl rfl rfl rfl (op_loadPA rfl fagg_api_Value rfl (by first | decide | simp) rfl) ?_)
 first | (refine at_o 6 rfl rfl rfl rfl (op_loadRA rfl fagg_api_Value) ?_) | (refine at_o 6 rfl rfl rfl rfl (op_loadPA rfl fagg_api_Value rfl (by first | decide | simp) rfl) ?_)
 refine at_o 7 rfl rfl rfl rfl (op_call0 rfl rfl rfl rfl (ocmp_spec c d hc hd)) ?_
 refine at_o 8 rfl rfl rfl rfl (op_binI rfl rfl) ?_
 refine at_m 8 4 rfl rfl rfl (.inr rfl) rfl ?_
 refine at_end rfl ?_
 refine at_ret rfl (ret_one (t := 4) rfl rfl ?_ rfl)
 rw [cmpC_eq]
noncomputable def cShIx1 : Code := Tryz.f59.body.getD .skip
set_option maxRecDepth 20000 in
theorem shix1_spec (c d : List Int) (hc : c.length ≤ 100) (hd : d.length ≤ 100) : FSpec PP 59 [.v (vCf c), .v (.ref (vCf d))] σ0 (db (decide (c = d))) σ0 := by
 refine spec_at cShIx1 Tryz.func59 rfl (by kernel_rfl) (by first | decide | simp) _ (by dsimp only [Tryz.f59, List.length, Nat.reduceAdd, Nat.reduceSub, List.replicate, List.cons_append, List.nil_append]) ?_
 refine at_seq [0] [1] rfl ?_
 refine at_region rfl ?_
 refine at_o 2 rfl rfl rfl rfl (op_boxI rfl rfl) ?_
 refine at_c 3 rfl rfl rfl (.inr rfl) ?_
 refine at_end rfl ?_
 refine at_seq [1, 0] [1, 1] rfl ?_
 refine at_region rfl ?_
 first | (refine at_o 4 rfl rfl rfl rfl (op_loadRA rfl fagg_api_Value) ?_) | (refine at_o 4 rfl rfl rfl rfl (op_loadPA rfl fagg_api_Value rfl (by first | decide | simp) rfl) ?_)
 first | (refine at_o 5 rfl rfl rfl rfl (op_loadRA rfl fagg_api_Value) ?_) | (refine at_o 5 rfl rfl rfl rfl (op_loadPA rfl fagg_api_Value rfl (by first | decide | simp) rfl) ?_)
 refine at_o 6 rfl rfl rfl rfl (op_call0 rfl rfl rfl rfl (shsame_spec c d hc hd)) ?_
 refine at_m 6 3 rfl rfl rfl (.inr rfl) rfl ?_
 refine at_end rfl ?_
 refine at_ret rfl (ret_one (t := 3) rfl rfl ?_ rfl)
 rfl
noncomputable def cIdxFC : Code := Tryz.f58.body.getD .skip
set_option maxRecDepth 20000 in
theorem indexFC_loop (fo : FuncId) (fs cs : List V) (xs : List (List Int)) (p : (List Int) → Bool) (hf : ∀ x ∈ xs, FSpec PP fo (fs.map .v ++ [.v (vCf x)] ++ cs.map .v) σ0 (db (p x)) σ0) (hs : xs.length ≤ 1000000) (m : Nat) : ∀ i : Nat, xs.length - i = m → idxQ p xs 0 = idxQ p (xs.drop i) i → Run PP (fun env σ1 => ResOK PP Tryz.f58 env σ1 (di (idxQ p xs 0)) σ0) [.lp (sub cIdxFC [1, 0, 1, 0, 0]), .blk 0, .code (sub cIdxFC [1, 1])] ((.v (.list (List.map vCf xs))) :: (.v (.fn fo fs cs)) :: .undef :: .undef :: .undef :: .undef :: (.v (.list (List.map vCf xs))) :: (di ↑xs.length) :: (di ↑i) :: .undef :: .undef :: .undef :: .undef :: .undef :: .undef :: .undef :: .undef :: .undef :: .undef :: []) σ0 := by
 induction m using Nat.strongRecOn with
 | _ m ih =>
  intro i hm hb
  refine run_lp ?_
  refine at_seq [1, 0, 1, 0, 0, 0] [1, 0, 1, 0, 0, 1] rfl ?_
  refine at_region rfl ?_
  refine at_o 9 rfl rfl rfl rfl (op_binI rfl rfl) ?_
  refine at_end rfl ?_
  refine at_seq [1, 0, 1, 0, 0, 1, 0] [1, 0, 1, 0, 0, 1, 1] rfl ?_
  refine at_cond [1, 0, 1, 0, 0, 1, 0, 0] [1, 0, 1, 0, 0, 1, 0, 1] rfl rfl (fun hc1 => ?_) (fun hc1 => ?_)
  ·skip
   have hlt : i < xs.length := by simpa using hc1
   obtain ⟨x, hx⟩ := get_ex hlt
   rw [idxQ_at hx] at hb
   have hx2 := idx_some (f := vCf) hx
   refine at_skip rfl ?_
   refine at_seq [1, 0, 1, 0, 0, 1, 1, 0] [1, 0, 1, 0, 0, 1, 1, 1] rfl ?_
   refine at_block [1, 0, 1, 0, 0, 1, 1, 0, 0] 1 rfl ?_
   refine at_seq [1, 0, 1, 0, 0, 1, 1, 0, 0, 0] [1, 0, 1, 0, 0, 1, 1, 0, 0, 1] rfl ?_
   refine at_region rfl ?_
   refine at_m 8 10 rfl rfl rfl (.inl rfl) rfl ?_
   refine at_m 10 5 rfl rfl rfl (.inr rfl) rfl ?_
   refine at_end rfl ?_
   refine at_seq [1, 0, 1, 0, 0, 1, 1, 0, 0, 1, 0] [1, 0, 1, 0, 0, 1, 1, 0, 0, 1, 1] rfl ?_
   refine at_region rfl ?_
   refine at_m 1 11 rfl rfl rfl (.inl rfl) rfl ?_
   refine at_m 0 12 rfl rfl rfl (.inl rfl) rfl ?_
   refine at_m 5 13 rfl rfl rfl (.inl rfl) rfl ?_
   first | (refine at_o 14 rfl rfl rfl rfl (op_idxL rfl fsl_Sapi_Value (by first | decide | omega) (by first | assumption | exact idx_some (by assumption) | rfl) (by first | rfl | (simp [V.size]; done))) ?_) | (refine at_o 14 rfl rfl rfl rfl (opOK_un (op_idxL rfl fsl_Sapi_Value (by first | decide | omega) (by first | assumption | exact idx_some (by assumption) | rfl) (by first | rfl | (simp [V.size]; done)))) ?_) | (refine at_o 14 rfl rfl rfl rfl (op_idxA rfl fsl_Sapi_Value (by first | decide | omega) (by first | decide | omega)) ?_)
   first | (refine at_o 15 rfl rfl rfl rfl (op_loadRA rfl fagg_api_Value) ?_) | (refine at_o 15 rfl rfl rfl rfl (op_loadPA rfl fagg_api_Value rfl (by first | decide | simp) rfl) ?_)
   refine at_o 16 rfl rfl rfl rfl (op_call0 rfl rfl rfl rfl (hf x (List.mem_of_getElem? hx))) ?_
   refine at_end rfl ?_
   refine at_cond [1, 0, 1, 0, 0, 1, 1, 0, 0, 1, 1, 0] [1, 0, 1, 0, 0, 1, 1, 0, 0, 1, 1, 1] rfl rfl (fun hc2 => ?_) (fun hc2 => ?_)
   ·skip
    refine at_seq [1, 0, 1, 0, 0, 1, 1, 0, 0, 1, 1, 0, 0] [1, 0, 1, 0, 0, 1, 1, 0, 0, 1, 1, 0, 1] rfl ?_
    refine at_region rfl ?_
    refine at_m 5 17 rfl rfl rfl (.inl rfl) rfl ?_
    refine at_m 17 4 rfl rfl rfl (.inr rfl) rfl ?_
    refine at_end rfl ?_
    refine at_ret rfl (ret_one (t := 4) rfl rfl ?_ rfl)
    first | (rw [hb]; done) | (simp_all; done)
   ·skip
    refine at_skip rfl ?_
    refine run_blk ?_
    refine at_region rfl ?_
    refine at_o 18 rfl rfl rfl rfl (op_binI rfl rfl) ?_
    refine at_m 18 8 rfl rfl rfl (.inl rfl) rfl ?_
    refine at_end rfl ?_
    rw [wrap_succ (by omega)]
    exact run_wk (.keep (.keep (.d4 (.keep (.keep (.keep (.d4 (.d4 (.drop (.drop .nil)))))))))) (ih _ (by omega) (i + 1) rfl (by simp_all))
  ·skip
   have hge : xs.length ≤ i := by simpa using hc1
   rw [idxQ_end hge] at hb
   refine at_exit rfl rfl ?_
   refine at_seq [1, 1, 0] [1, 1, 1] rfl ?_
   refine at_region rfl ?_
   refine at_c 4 rfl rfl rfl (.inr rfl) ?_
   refine at_end rfl ?_
   refine at_ret rfl (ret_one (t := 4) rfl rfl ?_ rfl)
   first | (rw [hb]; done) | (simp_all; done)
set_option maxRecDepth 20000 in
theorem indexFC_spec (fo : FuncId) (fs cs : List V) (xs : List (List Int)) (p : (List Int) → Bool) (hf : ∀ x ∈ xs, FSpec PP fo (fs.map .v ++ [.v (vCf x)] ++ cs.map .v) σ0 (db (p x)) σ0) (hs : xs.length ≤ 1000000) : FSpec PP 58 [.v (.list (List.map vCf xs)), .v (.fn fo fs cs)] σ0 (di (idxQ p xs 0)) σ0 := by
 refine spec_at cIdxFC Tryz.func58 rfl (by kernel_rfl) (by first | decide | simp) _ (by dsimp only [Tryz.f58, List.length, Nat.reduceAdd, Nat.reduceSub, List.replicate, List.cons_append, List.nil_append]) ?_
 refine at_seq [0] [1] rfl ?_
 refine at_region rfl ?_
 refine at_c 4 rfl rfl rfl (.inr rfl) ?_
 refine at_end rfl ?_
 refine at_seq [1, 0] [1, 1] rfl ?_
 refine at_seq [1, 0, 0] [1, 0, 1] rfl ?_
 refine at_region rfl ?_
 refine at_m 0 6 rfl rfl rfl (.inl rfl) rfl ?_
 first | (refine at_o 7 rfl rfl rfl rfl (op_lenL rfl fu_Sapi_Value) ?_) | (refine at_o 7 rfl rfl rfl rfl (opOK_un (op_lenL rfl fu_Sapi_Value)) ?_) | (refine at_o 7 rfl rfl rfl rfl (op_lenA rfl fu_Sapi_Value) ?_)
 refine at_c 8 rfl rfl rfl (.inl rfl) ?_
 refine at_end rfl ?_
 refine at_block [1, 0, 1, 0] 0 rfl ?_
 refine at_loop [1, 0, 1, 0, 0] rfl ?_
 try simp only [List.length_map, List.length_nil, Int.toNat_natCast]
 exact run_wk (.keep (.keep (.d4 (.keep (.keep (.keep (.d4 (.d4 (.drop (.drop .nil)))))))))) (indexFC_loop fo fs cs xs p hf hs _ 0 rfl (by simp))
noncomputable def cShIx : Code := Tryz.f29.body.getD .skip
set_option maxRecDepth 20000 in
theorem shix_spec (l : List (List Int)) (d : List Int) (hl : l.length ≤ 1000) (hc : ∀ c ∈ l, c.length ≤ 100) (hd : d.length ≤ 100) : FSpec PP 29 [.v (.list (l.map vCf)), .v (vCf d)] σ0 (di (idxQ (fun c => decide (c = d)) l 0)) σ0 := by
 refine spec_at cShIx Tryz.func29 rfl (by kernel_rfl) (by first | decide | simp) _ (by dsimp only [Tryz.f29, List.length, Nat.reduceAdd, Nat.reduceSub, List.replicate, List.cons_append, List.nil_append]) ?_
 refine at_seq [0] [1] rfl ?_
 refine at_region rfl ?_
 refine at_o 3 rfl rfl rfl rfl (op_boxI rfl rfl) ?_
 refine at_c 4 rfl rfl rfl (.inr rfl) ?_
 refine at_end rfl ?_
 refine at_seq [1, 0] [1, 1] rfl ?_
 refine at_region rfl ?_
 refine at_m 0 5 rfl rfl rfl (.inl rfl) rfl ?_
 refine at_o 6 rfl rfl rfl rfl (op_makeFunc0 rfl rfl rfl) ?_
 refine at_o 7 rfl rfl rfl rfl (op_call0 rfl rfl rfl rfl (indexFC_spec 59 [] [.ref (vCf d)] l (fun c => decide (c = d)) (fun c hc2 => shix1_spec c d (hc c hc2) hd) (by omega))) ?_
 refine at_m 7 4 rfl rfl rfl (.inr rfl) rfl ?_
 refine at_end rfl ?_
 refine at_ret rfl (ret_one (t := 4) rfl rfl ?_ rfl)
 rfl
noncomputable def cRCmp : Code := Tryz.f32.body.getD .skip
set_option maxRecDepth 20000 in
theorem rcmpN_spec (a b : Int) : FSpec PP 32 [.v (vN a), .v (vN b)] σ0 (di (cmpI a b)) σ0 := by
 refine spec_at cRCmp Tryz.func32 rfl (by kernel_rfl) (by first | decide | simp) _ (by dsimp only [Tryz.f32, List.length, Nat.reduceAdd, Nat.reduceSub, List.replicate, List.cons_append, List.nil_append]) ?_
 refine at_seq [0] [1] rfl ?_
 refine at_region rfl ?_
 refine at_o 2 rfl rfl rfl rfl (op_boxI rfl rfl) ?_
 refine at_o 3 rfl rfl rfl rfl (op_boxI rfl rfl) ?_
 refine at_c 4 rfl rfl rfl (.inr rfl) ?_
 refine at_end rfl ?_
 refine at_seq [1, 0] [1, 1] rfl ?_
 refine at_seq [1, 0, 0] [1, 0, 1] rfl ?_
 refine at_region rfl ?_
 first | (refine at_o 7 rfl rfl rfl rfl (op_fieldP rfl ffld0_api_Value (by decide)) ?_) | (refine at_o 7 rfl rfl rfl rfl (op_fieldR rfl ffld0_api_Value (by decide) (by decide) rfl) ?_)
 first | (refine at_o 8 rfl rfl rfl rfl (op_loadR1 rfl fone_int rfl) ?_) | (refine at_o 8 rfl rfl rfl rfl (op_loadP1 rfl fone_int rfl rfl) ?_)
 first | (refine at_o 9 rfl rfl rfl rfl (op_fieldP rfl ffld0_api_Value (by decide)) ?_) | (refine at_o 9 rfl rfl rfl rfl (op_fieldR rfl ffld0_api_Value (by decide) (by decide) rfl) ?_)
 first | (refine at_o 10 rfl rfl rfl rfl (op_loadR1 rfl fone_int rfl) ?_) | (refine at_o 10 rfl rfl rfl rfl (op_loadP1 rfl fone_int rfl rfl) ?_)
 refine at_o 11 rfl rfl rfl rfl (op_binI rfl rfl) ?_
 refine at_end rfl ?_
 refine at_cond [1, 0, 1, 0] [1, 0, 1, 1] rfl rfl (fun hc1 => ?_) (fun hc1 => ?_)
 ·skip
  refine at_seq [1, 0, 1, 0, 0] [1, 0, 1, 0, 1] rfl ?_
  refine at_region rfl ?_
  first | (refine at_o 12 rfl rfl rfl rfl (op_fieldP rfl ffld0_api_Value (by decide)) ?_) | (refine at_o 12 rfl rfl rfl rfl (op_fieldR rfl ffld0_api_Value (by decide) (by decide) rfl) ?_)
  first | (refine at_o 13 rfl rfl rfl rfl (op_loadR1 rfl fone_int rfl) ?_) | (refine at_o 13 rfl rfl rfl rfl (op_loadP1 rfl fone_int rfl rfl) ?_)
  first | (refine at_o 14 rfl rfl rfl rfl (op_fieldP rfl ffld0_api_Value (by decide)) ?_) | (refine at_o 14 rfl rfl rfl rfl (op_fieldR rfl ffld0_api_Value (by decide) (by decide) rfl) ?_)
  first | (refine at_o 15 rfl rfl rfl rfl (op_loadR1 rfl fone_int rfl) ?_) | (refine at_o 15 rfl rfl rfl rfl (op_loadP1 rfl fone_int rfl rfl) ?_)
  refine at_o 16 rfl rfl rfl rfl (op_call0 rfl rfl rfl rfl (order_spec _ _)) ?_
  refine at_m 16 4 rfl rfl rfl (.inr rfl) rfl ?_
  refine at_end rfl ?_
  refine at_ret rfl (ret_one (t := 4) rfl rfl ?_ rfl)
  rfl
 ·skip
  have h1 : a = b := by simpa using hc1
  subst h1
  rw [cmpI_self]
  refine at_skip rfl ?_
  refine at_seq [1, 1, 0] [1, 1, 1] rfl ?_
  refine at_seq [1, 1, 0, 0] [1, 1, 0, 1] rfl ?_
  refine at_region rfl ?_
  first | (refine at_o 17 rfl rfl rfl rfl (op_fieldP rfl ffld1_api_Value (by decide)) ?_) | (refine at_o 17 rfl rfl rfl rfl (op_fieldR rfl ffld1_api_Value (by decide) (by decide) rfl) ?_)
  first | (refine at_o 18 rfl rfl rfl rfl (op_loadR1 rfl fone_Sapi_Value rfl) ?_) | (refine at_o 18 rfl rfl rfl rfl (op_loadP1 rfl fone_Sapi_Value rfl rfl) ?_)
  refine at_o 19 rfl rfl rfl rfl (opOK_see (.cons .nils .nil) (op_lenL rfl fu_Sapi_Value)) ?_
  first | (refine at_o 20 rfl rfl rfl rfl (op_fieldP rfl ffld1_api_Value (by decide)) ?_) | (refine at_o 20 rfl rfl rfl rfl (op_fieldR rfl ffld1_api_Value (by decide) (by decide) rfl) ?_)
  first | (refine at_o 21 rfl rfl rfl rfl (op_loadR1 rfl fone_Sapi_Value rfl) ?_) | (refine at_o 21 rfl rfl rfl rfl (op_loadP1 rfl fone_Sapi_Value rfl rfl) ?_)
  refine at_o 22 rfl rfl rfl rfl (opOK_see (.cons .nils .nil) (op_lenL rfl fu_Sapi_Value)) ?_
  refine at_o 23 rfl rfl rfl rfl (op_binI rfl rfl) ?_
  refine at_end rfl ?_
  refine at_cond [1, 1, 0, 1, 0] [1, 1, 0, 1, 1] rfl rfl (fun hc2 => ?_) (fun hc2 => ?_)
  ·skip
   exact absurd hc2 (by simp)
  ·skip
   refine at_skip rfl ?_
   refine at_seq [1, 1, 1, 0] [1, 1, 1, 1] rfl ?_
   refine at_seq [1, 1, 1, 0, 0] [1, 1, 1, 0, 1] rfl ?_
   refine at_region rfl ?_
   refine at_c 5 rfl rfl rfl (.inr rfl) ?_
   refine at_end rfl ?_
   refine at_block [1, 1, 1, 0, 1, 0] 0 rfl ?_
   refine at_loop [1, 1, 1, 0, 1, 0, 0] rfl ?_
   try simp only [List.length_map, List.length_nil, Int.toNat_natCast]
   refine run_lp ?_
   refine at_seq [1, 1, 1, 0, 1, 0, 0, 0] [1, 1, 1, 0, 1, 0, 0, 1] rfl ?_
   refine at_seq [1, 1, 1, 0, 1, 0, 0, 0, 0] [1, 1, 1, 0, 1, 0, 0, 0, 1] rfl ?_
   refine at_region rfl ?_
   refine at_m 5 31 rfl rfl rfl (.inl rfl) rfl ?_
   first | (refine at_o 32 rfl rfl rfl rfl (op_fieldP rfl ffld1_api_Value (by decide)) ?_) | (refine at_o 32 rfl rfl rfl rfl (op_fieldR rfl ffld1_api_Value (by decide) (by decide) rfl) ?_)
   first | (refine at_o 33 rfl rfl rfl rfl (op_loadR1 rfl fone_Sapi_Value rfl) ?_) | (refine at_o 33 rfl rfl rfl rfl (op_loadP1 rfl fone_Sapi_Value rfl rfl) ?_)
   refine at_o 34 rfl rfl rfl rfl (opOK_see (.cons .nils .nil) (op_lenL rfl fu_Sapi_Value)) ?_
   refine at_o 35 rfl rfl rfl rfl (op_binI rfl rfl) ?_
   refine at_end rfl ?_
   refine at_cond [1, 1, 1, 0, 1, 0, 0, 0, 1, 0] [1, 1, 1, 0, 1, 0, 0, 0, 1, 1] rfl rfl (fun hc3 => ?_) (fun hc3 => ?_)
   ·skip
    exact absurd hc3 (by simp)
   ·skip
    refine at_exit rfl rfl ?_
    refine at_seq [1, 1, 1, 1, 0] [1, 1, 1, 1, 1] rfl ?_
    refine at_region rfl ?_
    refine at_c 4 rfl rfl rfl (.inr rfl) ?_
    refine at_end rfl ?_
    refine at_ret rfl (ret_one (t := 4) rfl rfl ?_ rfl)
    rfl
set_option maxRecDepth 20000 in
theorem rcmp_loop (c d : List Int) (hl : c.length = d.length) (hc : c.length ≤ 100) (T : Int) (m : Nat) : ∀ (i : Nat), c.length - i = m → T = cmpKs (c.drop i) (d.drop i) → Run PP (fun env σ1 => ResOK PP Tryz.f32 env σ1 (di T) σ0) [.lp (sub cRCmp [1, 1, 1, 0, 1, 0, 0]), .blk 0, .code (sub cRCmp [1, 1, 1, 1])] (.undef :: .undef :: (.v (.ref (vCf c))) :: (.v (.ref (vCf d))) :: .undef :: (di ↑i) :: .undef :: .undef :: .undef :: .undef :: .undef :: .undef :: .undef :: .undef :: .undef :: .undef :: .undef :: .undef :: .undef :: .undef :: .undef :: .undef :: .undef :: .undef :: .undef :: .undef :: .undef :: .undef :: .undef :: .undef :: .undef :: .undef :: .undef :: .undef :: .undef :: .undef :: .undef :: .undef :: .undef :: .undef :: .undef :: .undef :: .undef :: .undef :: .undef :: .undef :: .undef :: .undef :: .undef :: .undef :: .undef :: .undef :: []) σ0 := by
 induction m using Nat.strongRecOn with
 | _ m ih =>
  intro i hm hT
  refine run_lp ?_
  refine at_seq [1, 1, 1, 0, 1, 0, 0, 0] [1, 1, 1, 0, 1, 0, 0, 1] rfl ?_
  refine at_seq [1, 1, 1, 0, 1, 0, 0, 0, 0] [1, 1, 1, 0, 1, 0, 0, 0, 1] rfl ?_
  refine at_region rfl ?_
  refine at_m 5 31 rfl rfl rfl (.inl rfl) rfl ?_
  first | (refine at_o 32 rfl rfl rfl rfl (op_fieldP rfl ffld1_api_Value (by decide)) ?_) | (refine at_o 32 rfl rfl rfl rfl (op_fieldR rfl ffld1_api_Value (by decide) (by decide) rfl) ?_)
  first | (refine at_o 33 rfl rfl rfl rfl (op_loadR1 rfl fone_Sapi_Value rfl) ?_) | (refine at_o 33 rfl rfl rfl rfl (op_loadP1 rfl fone_Sapi_Value rfl rfl) ?_)
  first | (refine at_o 34 rfl rfl rfl rfl (op_lenL rfl fu_Sapi_Value) ?_) | (refine at_o 34 rfl rfl rfl rfl (opOK_un (op_lenL rfl fu_Sapi_Value)) ?_) | (refine at_o 34 rfl rfl rfl rfl (op_lenA rfl fu_Sapi_Value) ?_)
  simp only [List.length_map]
  refine at_o 35 rfl rfl rfl rfl (op_binI rfl rfl) ?_
  refine at_end rfl ?_
  refine at_cond [1, 1, 1, 0, 1, 0, 0, 0, 1, 0] [1, 1, 1, 0, 1, 0, 0, 0, 1, 1] rfl rfl (fun hc1 => ?_) (fun hc1 => ?_)
  ·skip
   have hlt : i < c.length := by simpa using hc1
   obtain ⟨a, ha⟩ := get_ex hlt
   obtain ⟨b, hb⟩ := get_ex (a := d) (i := i) (by omega)
   have ha2 := idx_some (f := vN) ha
   have hb3 := idx_some (f := vN) hb
   rw [List.drop_eq_getElem_cons hlt, List.drop_eq_getElem_cons (show i < d.length by omega), (List.getElem?_eq_some_iff.1 ha).2, (List.getElem?_eq_some_iff.1 hb).2] at hT
   simp only [cmpKs] at hT
   refine at_skip rfl ?_
   refine at_seq [1, 1, 1, 0, 1, 0, 0, 1, 0] [1, 1, 1, 0, 1, 0, 0, 1, 1] rfl ?_
   refine at_block [1, 1, 1, 0, 1, 0, 0, 1, 0, 0] 1 rfl ?_
   refine at_seq [1, 1, 1, 0, 1, 0, 0, 1, 0, 0, 0] [1, 1, 1, 0, 1, 0, 0, 1, 0, 0, 1] rfl ?_
   refine at_draw mixed rfl [σ0] rfl ?_
   first | (refine da_q 38 rfl rfl rfl rfl (fun s hs => op_fieldP rfl ffld1_api_Value (by decide)) ?_) | (refine da_q 38 rfl rfl rfl rfl (fun s hs => op_fieldR rfl ffld1_api_Value (by decide) (by decide) rfl) ?_)
   first | (refine da_q 39 rfl rfl rfl rfl (fun s hs => op_loadR1 rfl fone_Sapi_Value rfl) ?_) | (refine da_q 39 rfl rfl rfl rfl (by intro s hs; simp only [List.mem_cons, List.not_mem_nil, or_false] at hs; rcases hs with rfl <;> exact op_loadP1 rfl fone_Sapi_Value rfl rfl) ?_)
   refine da_m 5 40 rfl rfl rfl (.inl rfl) rfl ?_
   first | (refine da_q 41 rfl rfl rfl rfl (fun s hs => op_idxL rfl fsl_Sapi_Value (by first | decide | omega) (by first | assumption | exact idx_some (by assumption) | rfl) (by first | rfl | (simp [V.size]; done))) ?_) | (refine da_q 41 rfl rfl rfl rfl (fun s hs => opOK_un (op_idxL rfl fsl_Sapi_Value (by first | decide | omega) (by first | assumption | exact idx_some (by assumption) | rfl) (by first | rfl | (simp [V.size]; done)))) ?_) | (refine da_q 41 rfl rfl rfl rfl (fun s hs => op_idxA rfl fsl_Sapi_Value (by first | decide | omega) (by first | decide | omega)) ?_)
   first | (refine da_q 42 rfl rfl rfl rfl (fun s hs => op_loadRA rfl fagg_api_Value) ?_) | (refine da_q 42 rfl rfl rfl rfl (by intro s hs; simp only [List.mem_cons, List.not_mem_nil, or_false] at hs; rcases hs with rfl <;> exact op_loadPA rfl fagg_api_Value rfl (by first | decide | simp) rfl) ?_)
   first | (refine da_q 43 rfl rfl rfl rfl (fun s hs => op_fieldP rfl ffld1_api_Value (by decide)) ?_) | (refine da_q 43 rfl rfl rfl rfl (fun s hs => op_fieldR rfl ffld1_api_Value (by decide) (by decide) rfl) ?_)
   first | (refine da_q 44 rfl rfl rfl rfl (fun s hs => op_loadR1 rfl fone_Sapi_Value rfl) ?_) | (refine da_q 44 rfl rfl rfl rfl (by intro s hs; simp only [List.mem_cons, List.not_mem_nil, or_false] at hs; rcases hs with rfl <;> exact op_loadP1 rfl fone_Sapi_Value rfl rfl) ?_)
   refine da_m 5 45 rfl rfl rfl (.inl rfl) rfl ?_
   first | (refine da_q 46 rfl rfl rfl rfl (fun s hs => op_idxL rfl fsl_Sapi_Value (by first | decide | omega) (by first | assumption | exact idx_some (by assumption) | rfl) (by first | rfl | (simp [V.size]; done))) ?_) | (refine da_q 46 rfl rfl rfl rfl (fun s hs => opOK_un (op_idxL rfl fsl_Sapi_Value (by first | decide | omega) (by first | assumption | exact idx_some (by assumption) | rfl) (by first | rfl | (simp [V.size]; done)))) ?_) | (refine da_q 46 rfl rfl rfl rfl (fun s hs => op_idxA rfl fsl_Sapi_Value (by first | decide | omega) (by first | decide | omega)) ?_)
   first | (refine da_q 47 rfl rfl rfl rfl (fun s hs => op_loadRA rfl fagg_api_Value) ?_) | (refine da_q 47 rfl rfl rfl rfl (by intro s hs; simp only [List.mem_cons, List.not_mem_nil, or_false] at hs; rcases hs with rfl <;> exact op_loadPA rfl fagg_api_Value rfl (by first | decide | simp) rfl) ?_)
   refine da_q 48 rfl rfl rfl rfl (fun s hs => op_call0 rfl rfl rfl rfl (rcmpN_spec a b)) ?_
   refine da_m 48 6 rfl rfl rfl (.inr rfl) rfl ?_
   refine da_end rfl ⟨by decide +kernel, _, rfl, ?_⟩
   refine at_seq [1, 1, 1, 0, 1, 0, 0, 1, 0, 0, 1, 0] [1, 1, 1, 0, 1, 0, 0, 1, 0, 0, 1, 1] rfl ?_
   refine at_region rfl ?_
   refine at_m 6 49 rfl rfl rfl (.inl rfl) rfl ?_
   refine at_o 50 rfl rfl rfl rfl (op_binI rfl rfl) ?_
   refine at_end rfl ?_
   refine at_cond [1, 1, 1, 0, 1, 0, 0, 1, 0, 0, 1, 1, 0] [1, 1, 1, 0, 1, 0, 0, 1, 0, 0, 1, 1, 1] rfl rfl (fun hc2 => ?_) (fun hc2 => ?_)
   ·skip
    have h2 : cmpI a b ≠ 0 := by simpa using hc2
    rw [if_pos h2] at hT
    refine at_seq [1, 1, 1, 0, 1, 0, 0, 1, 0, 0, 1, 1, 0, 0] [1, 1, 1, 0, 1, 0, 0, 1, 0, 0, 1, 1, 0, 1] rfl ?_
    refine at_region rfl ?_
    refine at_m 6 51 rfl rfl rfl (.inl rfl) rfl ?_
    refine at_m 51 4 rfl rfl rfl (.inr rfl) rfl ?_
    refine at_end rfl ?_
    refine at_ret rfl (ret_one (t := 4) rfl rfl ?_ rfl)
    rw [hT]
   ·skip
    have h2 : ¬ cmpI a b ≠ 0 := by simpa using hc2
    rw [if_neg h2] at hT
    refine at_skip rfl ?_
    refine run_blk ?_
    refine at_region rfl ?_
    refine at_m 5 36 rfl rfl rfl (.inl rfl) rfl ?_
    refine at_o 37 rfl rfl rfl rfl (op_binI rfl rfl) ?_
    rw [wrap_succ (by omega)]
    refine at_m 37 5 rfl rfl rfl (.inr rfl) rfl ?_
    refine at_end rfl ?_
    exact run_wk (.drop (.drop (.keep (.keep (.drop (.keep (.d16 (.d16 (.d4 (.d4 (.d4 (.drop (.drop .nil))))))))))))) (ih _ (by omega) (i + 1) rfl hT)
  ·skip
   have hge : c.length ≤ i := by simpa using hc1
   rw [List.drop_of_length_le hge, List.drop_of_length_le (by omega)] at hT
   simp only [cmpKs] at hT
   refine at_exit rfl rfl ?_
   refine at_seq [1, 1, 1, 1, 0] [1, 1, 1, 1, 1] rfl ?_
   refine at_region rfl ?_
   refine at_c 4 rfl rfl rfl (.inr rfl) ?_
   refine at_end rfl ?_
   refine at_ret rfl (ret_one (t := 4) rfl rfl ?_ rfl)
   rw [hT]
set_option maxRecDepth 20000 in
theorem rcmp_spec (c d : List Int) (hc : c.length ≤ 100) (hd : d.length ≤ 100) : FSpec PP 32 [.v (vCf c), .v (vCf d)] σ0 (di (cmpC c d)) σ0 := by
 refine spec_at cRCmp Tryz.func32 rfl (by kernel_rfl) (by first | decide | simp) _ (by dsimp only [Tryz.f32, List.length, Nat.reduceAdd, Nat.reduceSub, List.replicate, List.cons_append, List.nil_append]) ?_
 refine at_seq [0] [1] rfl ?_
 refine at_region rfl ?_
 refine at_o 2 rfl rfl rfl rfl (op_boxI rfl rfl) ?_
 refine at_o 3 rfl rfl rfl rfl (op_boxI rfl rfl) ?_
 refine at_c 4 rfl rfl rfl (.inr rfl) ?_
 refine at_end rfl ?_
 refine at_seq [1, 0] [1, 1] rfl ?_
 refine at_seq [1, 0, 0] [1, 0, 1] rfl ?_
 refine at_region rfl ?_
 first | (refine at_o 7 rfl rfl rfl rfl (op_fieldP rfl ffld0_api_Value (by decide)) ?_) | (refine at_o 7 rfl rfl rfl rfl (op_fieldR rfl ffld0_api_Value (by decide) (by decide) rfl) ?_)
 first | (refine at_o 8 rfl rfl rfl rfl (op_loadR1 rfl fone_int rfl) ?_) | (refine at_o 8 rfl rfl rfl rfl (op_loadP1 rfl fone_int rfl rfl) ?_)
 first | (refine at_o 9 rfl rfl rfl rfl (op_fieldP rfl ffld0_api_Value (by decide)) ?_) | (refine at_o 9 rfl rfl rfl rfl (op_fieldR rfl ffld0_api_Value (by decide) (by decide) rfl) ?_)
 first | (refine at_o 10 rfl rfl rfl rfl (op_loadR1 rfl fone_int rfl) ?_) | (refine at_o 10 rfl rfl rfl rfl (op_loadP1 rfl fone_int rfl rfl) ?_)
 refine at_o 11 rfl rfl rfl rfl (op_binI rfl rfl) ?_
 refine at_end rfl ?_
 refine at_cond [1, 0, 1, 0] [1, 0, 1, 1] rfl rfl (fun hc1 => ?_) (fun hc1 => ?_)
 ·skip
  exact absurd hc1 (by simp)
 ·skip
  refine at_skip rfl ?_
  refine at_seq [1, 1, 0] [1, 1, 1] rfl ?_
  refine at_seq [1, 1, 0, 0] [1, 1, 0, 1] rfl ?_
  refine at_region rfl ?_
  first | (refine at_o 17 rfl rfl rfl rfl (op_fieldP rfl ffld1_api_Value (by decide)) ?_) | (refine at_o 17 rfl rfl rfl rfl (op_fieldR rfl ffld1_api_Value (by decide) (by decide) rfl) ?_)
  first | (refine at_o 18 rfl rfl rfl rfl (op_loadR1 rfl fone_Sapi_Value rfl) ?_) | (refine at_o 18 rfl rfl rfl rfl (op_loadP1 rfl fone_Sapi_Value rfl rfl) ?_)
  first | (refine at_o 19 rfl rfl rfl rfl (op_lenL rfl fu_Sapi_Value) ?_) | (refine at_o 19 rfl rfl rfl rfl (opOK_un (op_lenL rfl fu_Sapi_Value)) ?_) | (refine at_o 19 rfl rfl rfl rfl (op_lenA rfl fu_Sapi_Value) ?_)
  simp only [List.length_map]
  first | (refine at_o 20 rfl rfl rfl rfl (op_fieldP rfl ffld1_api_Value (by decide)) ?_) | (refine at_o 20 rfl rfl rfl rfl (op_fieldR rfl ffld1_api_Value (by decide) (by decide) rfl) ?_)
  first | (refine at_o 21 rfl rfl rfl rfl (op_loadR1 rfl fone_Sapi_Value rfl) ?_) | (refine at_o 21 rfl rfl rfl rfl (op_loadP1 rfl fone_Sapi_Value rfl rfl) ?_)
  first | (refine at_o 22 rfl rfl rfl rfl (op_lenL rfl fu_Sapi_Value) ?_) | (refine at_o 22 rfl rfl rfl rfl (opOK_un (op_lenL rfl fu_Sapi_Value)) ?_) | (refine at_o 22 rfl rfl rfl rfl (op_lenA rfl fu_Sapi_Value) ?_)
  simp only [List.length_map]
  refine at_o 23 rfl rfl rfl rfl (op_binI rfl rfl) ?_
  refine at_end rfl ?_
  refine at_cond [1, 1, 0, 1, 0] [1, 1, 0, 1, 1] rfl rfl (fun hc2 => ?_) (fun hc2 => ?_)
  ·skip
   have h1 : cmpI ↑c.length ↑d.length ≠ 0 := by intro e; have e2 := cmpI_zero.1 e; rw [e2] at hc2; simp at hc2
   rw [show cmpC c d = cmpI ↑c.length ↑d.length by unfold cmpC; rw [if_pos h1]]
   refine at_seq [1, 1, 0, 1, 0, 0] [1, 1, 0, 1, 0, 1] rfl ?_
   refine at_region rfl ?_
   first | (refine at_o 24 rfl rfl rfl rfl (op_fieldP rfl ffld1_api_Value (by decide)) ?_) | (refine at_o 24 rfl rfl rfl rfl (op_fieldR rfl ffld1_api_Value (by decide) (by decide) rfl) ?_)
   first | (refine at_o 25 rfl rfl rfl rfl (op_loadR1 rfl fone_Sapi_Value rfl) ?_) | (refine at_o 25 rfl rfl rfl rfl (op_loadP1 rfl fone_Sapi_Value rfl rfl) ?_)
   first | (refine at_o 26 rfl rfl rfl rfl (op_lenL rfl fu_Sapi_Value) ?_) | (refine at_o 26 rfl rfl rfl rfl (opOK_un (op_lenL rfl fu_Sapi_Value)) ?_) | (refine at_o 26 rfl rfl rfl rfl (op_lenA rfl fu_Sapi_Value) ?_)
   simp only [List.length_map]
   first | (refine at_o 27 rfl rfl rfl rfl (op_fieldP rfl ffld1_api_Value (by decide)) ?_) | (refine at_o 27 rfl rfl rfl rfl (op_fieldR rfl ffld1_api_Value (by decide) (by decide) rfl) ?_)
   first | (refine at_o 28 rfl rfl rfl rfl (op_loadR1 rfl fone_Sapi_Value rfl) ?_) | (refine at_o 28 rfl rfl rfl rfl (op_loadP1 rfl fone_Sapi_Value rfl rfl) ?_)
   first | (refine at_o 29 rfl rfl rfl rfl (op_lenL rfl fu_Sapi_Value) ?_) | (refine at_o 29 rfl rfl rfl rfl (opOK_un (op_lenL rfl fu_Sapi_Value)) ?_) | (refine at_o 29 rfl rfl rfl rfl (op_lenA rfl fu_Sapi_Value) ?_)
   simp only [List.length_map]
   refine at_o 30 rfl rfl rfl rfl (op_call0 rfl rfl rfl rfl (order_spec _ _)) ?_
   refine at_m 30 4 rfl rfl rfl (.inr rfl) rfl ?_
   refine at_end rfl ?_
   refine at_ret rfl (ret_one (t := 4) rfl rfl ?_ rfl)
   rfl
  ·skip
   have h1 : c.length = d.length := by simp at hc2; omega
   rw [show cmpC c d = cmpKs c d by unfold cmpC; rw [h1, cmpI_self]; simp]
   refine at_skip rfl ?_
   refine at_seq [1, 1, 1, 0] [1, 1, 1, 1] rfl ?_
   refine at_seq [1, 1, 1, 0, 0] [1, 1, 1, 0, 1] rfl ?_
   refine at_region rfl ?_
   refine at_c 5 rfl rfl rfl (.inr rfl) ?_
   refine at_end rfl ?_
   refine at_block [1, 1, 1, 0, 1, 0] 0 rfl ?_
   refine at_loop [1, 1, 1, 0, 1, 0, 0] rfl ?_
   try simp only [List.length_map, List.length_nil, Int.toNat_natCast]
   exact run_wk (.drop (.drop (.keep (.keep (.drop (.keep (.d16 (.d16 (.d4 (.d4 (.d4 (.drop (.drop .nil))))))))))))) (rcmp_loop c d h1 hc _ _ 0 rfl (by simp))
noncomputable def cRSame : Code := Tryz.f13.body.getD .skip
set_option maxRecDepth 20000 in
theorem rsame_spec (c d : List Int) (hc : c.length ≤ 100) (hd : d.length ≤ 100) : FSpec PP 13 [.v (vCf c), .v (vCf d)] σ0 (db (decide (c = d))) σ0 := by
 refine spec_at cRSame Tryz.func13 rfl (by kernel_rfl) (by first | decide | simp) _ (by dsimp only [Tryz.f13, List.length, Nat.reduceAdd, Nat.reduceSub, List.replicate, List.cons_append, List.nil_append]) ?_
 refine at_seq [0] [1] rfl ?_
 refine at_region rfl ?_
 refine at_o 2 rfl rfl rfl rfl (op_boxI rfl rfl) ?_
 refine at_o 3 rfl rfl rfl rfl (op_boxI rfl rfl) ?_
 refine at_c 4 rfl rfl rfl (.inr rfl) ?_
 refine at_end rfl ?_
 refine at_seq [1, 0] [1, 1] rfl ?_
 refine at_region rfl ?_
 first | (refine at_o 5 rfl rfl rfl rfl (op_loadRA rfl fagg_api_Value) ?_) | (refine at_o 5 rfl rfl rfl rfl (op_loadPA rfl fagg_api_Value rfl (by first | decide | simp) rfl) ?_)
 first | (refine at_o 6 rfl rfl rfl rfl (op_loadRA rfl fagg_api_Value) ?_) | (refine at_o 6 rfl rfl rfl rfl (op_loadPA rfl fagg_api_Value rfl (by first | decide | simp) rfl) ?_)
 refine at_o 7 rfl rfl rfl rfl (op_call0 rfl rfl rfl rfl (rcmp_spec c d hc hd)) ?_
 refine at_o 8 rfl rfl rfl rfl (op_binI rfl rfl) ?_
 refine at_m 8 4 rfl rfl rfl (.inr rfl) rfl ?_
 refine at_end rfl ?_
 refine at_ret rfl (ret_one (t := 4) rfl rfl ?_ rfl)
 rw [cmpC_eq]
noncomputable def cIn : Code := Tryz.f17.body.getD .skip
set_option maxRecDepth 20000 in
theorem in_loop (l : List (List Int)) (d : List Int) (hl : l.length ≤ 1000) (hc : ∀ c ∈ l, c.length ≤ 100) (hd : d.length ≤ 100) (T : Bool) (m : Nat) : ∀ (i : Nat), l.length - i = m → T = (l.drop i).any (fun c => decide (c = d)) → Run PP (fun env σ1 => ResOK PP Tryz.f17 env σ1 (db T) σ0) [.lp (sub cIn [1, 0, 1, 0, 0]), .blk 0, .code (sub cIn [1, 1])] ((.v (.list (l.map vCf))) :: .undef :: .undef :: (.v (.ref (vCf d))) :: .undef :: (di ↑i) :: .undef :: .undef :: .undef :: .undef :: .undef :: .undef :: .undef :: .undef :: .undef :: .undef :: .undef :: .undef :: []) σ0 := by
 induction m using Nat.strongRecOn with
 | _ m ih =>
  intro i hm hT
  refine run_lp ?_
  refine at_seq [1, 0, 1, 0, 0, 0] [1, 0, 1, 0, 0, 1] rfl ?_
  refine at_seq [1, 0, 1, 0, 0, 0, 0] [1, 0, 1, 0, 0, 0, 1] rfl ?_
  refine at_region rfl ?_
  refine at_m 5 6 rfl rfl rfl (.inl rfl) rfl ?_
  refine at_m 0 7 rfl rfl rfl (.inl rfl) rfl ?_
  first | (refine at_o 8 rfl rfl rfl rfl (op_lenL rfl fu_Sapi_Value) ?_) | (refine at_o 8 rfl rfl rfl rfl (opOK_un (op_lenL rfl fu_Sapi_Value)) ?_) | (refine at_o 8 rfl rfl rfl rfl (op_lenA rfl fu_Sapi_Value) ?_)
  simp only [List.length_map]
  refine at_o 9 rfl rfl rfl rfl (op_binI rfl rfl) ?_
  refine at_end rfl ?_
  refine at_cond [1, 0, 1, 0, 0, 0, 1, 0] [1, 0, 1, 0, 0, 0, 1, 1] rfl rfl (fun hc1 => ?_) (fun hc1 => ?_)
  ·skip
   have hlt : i < l.length := by simpa using hc1
   obtain ⟨c, hcc⟩ := get_ex hlt
   have hc2 := idx_some (f := vCf) hcc
   rw [List.drop_eq_getElem_cons hlt, (List.getElem?_eq_some_iff.1 hcc).2, List.any_cons] at hT
   refine at_skip rfl ?_
   refine at_seq [1, 0, 1, 0, 0, 1, 0] [1, 0, 1, 0, 0, 1, 1] rfl ?_
   refine at_block [1, 0, 1, 0, 0, 1, 0, 0] 1 rfl ?_
   refine at_seq [1, 0, 1, 0, 0, 1, 0, 0, 0] [1, 0, 1, 0, 0, 1, 0, 0, 1] rfl ?_
   refine at_draw mixed rfl [σ0] rfl ?_
   refine da_m 0 12 rfl rfl rfl (.inl rfl) rfl ?_
   refine da_m 5 13 rfl rfl rfl (.inl rfl) rfl ?_
   first | (refine da_q 14 rfl rfl rfl rfl (fun s hs => op_idxL rfl fsl_Sapi_Value (by first | decide | omega) (by first | assumption | exact idx_some (by assumption) | rfl) (by first | rfl | (simp [V.size]; done))) ?_) | (refine da_q 14 rfl rfl rfl rfl (fun s hs => opOK_un (op_idxL rfl fsl_Sapi_Value (by first | decide | omega) (by first | assumption | exact idx_some (by assumption) | rfl) (by first | rfl | (simp [V.size]; done)))) ?_) | (refine da_q 14 rfl rfl rfl rfl (fun s hs => op_idxA rfl fsl_Sapi_Value (by first | decide | omega) (by first | decide | omega)) ?_)
   first | (refine da_q 15 rfl rfl rfl rfl (fun s hs => op_loadRA rfl fagg_api_Value) ?_) | (refine da_q 15 rfl rfl rfl rfl (by intro s hs; simp only [List.mem_cons, List.not_mem_nil, or_false] at hs; rcases hs with rfl <;> exact op_loadPA rfl fagg_api_Value rfl (by first | decide | simp) rfl) ?_)
   first | (refine da_q 16 rfl rfl rfl rfl (fun s hs => op_loadRA rfl fagg_api_Value) ?_) | (refine da_q 16 rfl rfl rfl rfl (by intro s hs; simp only [List.mem_cons, List.not_mem_nil, or_false] at hs; rcases hs with rfl <;> exact op_loadPA rfl fagg_api_Value rfl (by first | decide | simp) rfl) ?_)
   refine da_q 17 rfl rfl rfl rfl (fun s hs => op_call0 rfl rfl rfl rfl (rsame_spec c d (hc c (List.mem_of_getElem? hcc)) hd)) ?_
   refine da_end rfl ⟨by decide +kernel, _, rfl, ?_⟩
   refine at_cond [1, 0, 1, 0, 0, 1, 0, 0, 1, 0] [1, 0, 1, 0, 0, 1, 0, 0, 1, 1] rfl rfl (fun hc2 => ?_) (fun hc2 => ?_)
   ·skip
    have h2 : decide (c = d) = true := hc2
    rw [h2, Bool.true_or] at hT
    refine at_seq [1, 0, 1, 0, 0, 1, 0, 0, 1, 0, 0] [1, 0, 1, 0, 0, 1, 0, 0, 1, 0, 1] rfl ?_
    refine at_region rfl ?_
    refine at_c 4 rfl rfl rfl (.inr rfl) ?_
    refine at_end rfl ?_
    refine at_ret rfl (ret_one (t := 4) rfl rfl ?_ rfl)
    rw [hT]
   ·skip
    have h2 : decide (c = d) = false := hc2
    rw [h2, Bool.false_or] at hT
    refine at_skip rfl ?_
    refine run_blk ?_
    refine at_region rfl ?_
    refine at_m 5 10 rfl rfl rfl (.inl rfl) rfl ?_
    refine at_o 11 rfl rfl rfl rfl (op_binI rfl rfl) ?_
    rw [wrap_succ (by omega)]
    refine at_m 11 5 rfl rfl rfl (.inr rfl) rfl ?_
    refine at_end rfl ?_
    exact run_wk (.keep (.drop (.drop (.keep (.drop (.keep (.d4 (.d4 (.d4 .nil))))))))) (ih _ (by omega) (i + 1) rfl hT)
  ·skip
   have hge : l.length ≤ i := by simpa using hc1
   rw [List.drop_of_length_le hge, List.any_nil] at hT
   refine at_exit rfl rfl ?_
   refine at_seq [1, 1, 0] [1, 1, 1] rfl ?_
   refine at_region rfl ?_
   refine at_c 4 rfl rfl rfl (.inr rfl) ?_
   refine at_end rfl ?_
   refine at_ret rfl (ret_one (t := 4) rfl rfl ?_ rfl)
   rw [hT]
set_option maxRecDepth 20000 in
theorem in_spec (l : List (List Int)) (d : List Int) (hl : l.length ≤ 1000) (hc : ∀ c ∈ l, c.length ≤ 100) (hd : d.length ≤ 100) : FSpec PP 17 [.v (.list (l.map vCf)), .v (vCf d)] σ0 (db (l.any (fun c => decide (c = d)))) σ0 := by
 refine spec_at cIn Tryz.func17 rfl (by kernel_rfl) (by first | decide | simp) _ (by dsimp only [Tryz.f17, List.length, Nat.reduceAdd, Nat.reduceSub, List.replicate, List.cons_append, List.nil_append]) ?_
 refine at_seq [0] [1] rfl ?_
 refine at_region rfl ?_
 refine at_o 3 rfl rfl rfl rfl (op_boxI rfl rfl) ?_
 refine at_c 4 rfl rfl rfl (.inr rfl) ?_
 refine at_end rfl ?_
 refine at_seq [1, 0] [1, 1] rfl ?_
 refine at_seq [1, 0, 0] [1, 0, 1] rfl ?_
 refine at_region rfl ?_
 refine at_c 5 rfl rfl rfl (.inr rfl) ?_
 refine at_end rfl ?_
 refine at_block [1, 0, 1, 0] 0 rfl ?_
 refine at_loop [1, 0, 1, 0, 0] rfl ?_
 try simp only [List.length_map, List.length_nil, Int.toNat_natCast]
 exact run_wk (.keep (.drop (.drop (.keep (.drop (.keep (.d4 (.d4 (.d4 .nil))))))))) (in_loop l d hl hc hd _ _ 0 rfl (by simp))
end Go.Proofs.YtmdipbhjhkckjaaGreat

namespace Go.Proofs.YtmdipbhjhkckjaaGreat
open Go.Dv
theorem op_nilV {P : Program} {o : Oper} {σ : St} (ho : o.op = .assign (.const (.slice none 0 0)) ∨ o.op = .move (.const (.slice none 0 0))) : OpOK P o [.v (.list [])] σ (.v .nils) σ := by
 intro E g a w K Q hw hds hK
 have := hK g w (.slice none 0 0) hw g.le_refl (by simp [repD])
 rcases ho with ho | ho <;> (unfold Oper.wp execOp; simpa [ho, Act.eval, Oper.upon] using this)
def flV (c : List Int) : List V := c.flatMap fun x => [vi x, .nils]
def fl (c : List Int) : List D := (flV c).map .v
theorem flV_eq (c : List Int) : (c.map vN).flatMap V.cellsV = flV c := by
 induction c with
 | nil => rfl
 | cons x c ih => simp only [List.map_cons, List.flatMap_cons, flV] at ih ⊢; rw [ih]; rfl
theorem flat_kids (c : List Int) : flatV (c.map vN) = fl c := by simp only [flatV, fl, flV_eq]
theorem fl_length (c : List Int) : (fl c).length = c.length * 2 := by
 unfold fl
 rw [List.length_map]
 induction c with
 | nil => rfl
 | cons x c ih => simp only [flV, List.flatMap_cons, List.length_append, List.length_cons, List.length_nil] at ih ⊢; omega
theorem fl_at : ∀ {c : List Int} {i : Nat} {x : Int}, c[i]? = some x → ((fl c).drop (i * 2)).take 2 = [di x, .v .nils]
 | [], i, x, h => by simp at h
 | a :: c, 0, x, h => by simp at h; subst h; rfl
 | a :: c, i + 1, x, h => by
  have h : c[i]? = some x := by simpa using h
  rw [show (i + 1) * 2 = 2 + i * 2 by omega, ← List.drop_drop]
  exact fl_at h
theorem fl_put {c : List Int} {i : Nat} {x : Int} (h : c[i]? = some x) : (fl c).take (i * 2) ++ [di x, .v .nils] ++ (fl c).drop (i * 2 + 2) = fl c := by
 rw [← fl_at h, List.append_assoc]
 conv => rhs; rw [← List.take_append_drop (i * 2) (fl c)]
 rw [List.append_cancel_left_eq, ← List.drop_drop]
 exact List.take_append_drop 2 _
theorem pls_fl (c : List Int) : D.pls (fl c) = true := pls_map _
theorem lend_kids {L : Nat → Option (List D)} {q n : Nat} {c : List Int} (hL : L q = some (fl c)) (hn : n = c.length) : lends L 1 (.arr q 0 n) (vK c) := by
 subst hn
 refine .inr (.inr ⟨q, 0, 2, fl c, c.map vN, .inl (by simp), rfl, by decide, fun y hy => (by obtain ⟨b, _, rfl⟩ := List.mem_map.1 hy; rfl), hL, fun j y hj => ?_⟩)
 rw [flV_eq] at hj
 refine ⟨?_, .v y, by simp [fl, hj], _, .same, rfl⟩
 have hm := List.mem_of_getElem? hj
 simp only [flV, List.mem_flatMap, List.mem_cons, List.not_mem_nil, or_false] at hm
 obtain ⟨a, _, rfl | rfl⟩ := hm <;> rfl
noncomputable def cCloneV : Code := Tryz.f55.body.getD .skip
set_option maxRecDepth 20000 in
theorem cloneV_spec (xs : List Int) (hx : xs ≠ []) (hl : xs.length ≤ 1000) : FSpec PP 55 [.v (vK xs)] σ0 (.arr 1 0 xs.length) ⟨[none, some (fl xs)], []⟩ := by
 refine spec_at cCloneV Tryz.func55 rfl (by kernel_rfl) (by first | decide | simp) _ (by dsimp only [Tryz.f55, List.length, Nat.reduceAdd, Nat.reduceSub, List.replicate, List.cons_append, List.nil_append]) ?_
 refine at_seq [0] [1] rfl ?_
 refine at_region rfl ?_
 refine at_c 2 rfl rfl rfl (.inr rfl) ?_
 refine at_end rfl ?_
 refine at_seq [1, 0] [1, 1] rfl ?_
 refine at_seq [1, 0, 0] [1, 0, 1] rfl ?_
 refine at_region rfl ?_
 refine at_m 0 3 rfl rfl rfl (.inl rfl) rfl ?_
 refine at_o 4 rfl rfl rfl rfl (op_eqNilF rfl fu_Sapi_Value (by simpa using hx)) ?_
 refine at_end rfl ?_
 refine at_false [1, 0, 1, 0] [1, 0, 1, 1] rfl rfl ?_
 refine at_skip rfl ?_
 refine at_seq [1, 1, 0] [1, 1, 1] rfl ?_
 refine at_region rfl ?_
 refine at_opS (some 5) rfl rfl rfl rfl (op_buildSlice0G rfl rfl fsl_Sapi_Value) (by dsimp only [putD, List.set]) (by dsimp only [List.set, List.append, List.cons_append, List.nil_append, cellsD, List.map, repl, List.length, Nat.reduceAdd, if_true, ↓reduceIte]; first | done | rfl) ?_
 refine at_m 0 6 rfl rfl rfl (.inl rfl) rfl ?_
 refine at_opS (some 7) rfl rfl rfl rfl (op_appendGV rfl fsl_Sapi_Value rfl (by decide) rfl rfl (by simp [V.size]) (by simpa using hx) (by simp; omega) (by simp; omega)) (by dsimp only [putD, List.set]) (by dsimp only [List.set, List.append, List.cons_append, List.nil_append, cellsD, List.map, repl, List.length, Nat.reduceAdd, if_true, ↓reduceIte]; first | done | rfl) ?_
 simp only [List.nil_append, flat_kids, List.length_map, Nat.zero_add, List.length_nil]
 try simp only [List.set_cons_zero, List.cons_append, List.nil_append]
 refine at_m 7 2 rfl rfl rfl (.inr rfl) rfl ?_
 refine at_end rfl ?_
 refine at_ret rfl (resOK_cv (cv_sub (.cons (.same _) (.cons (.same _) (.cons .gro (.cons (.same _) (.cons (.same _) (.cons (.same _) (.cons (.same _) (.cons .gro .nil))))))))) ?_)
 exact res_okA (.tmp rfl .nil) 2 rfl (by simp) (fun i cs h => by match i, h with | 0, h => simp at h | 1, h => (simp at h; subst h; exact pls_fl _) | i + 2, h => simp at h) (List.Sublist.refl _) (by decide)
set_option maxRecDepth 20000 in
theorem cloneV0_spec : FSpec PP 55 [.v .nils] σ0 (.v .nils) σ0 := by
 refine spec_at cCloneV Tryz.func55 rfl (by kernel_rfl) (by first | decide | simp) _ (by dsimp only [Tryz.f55, List.length, Nat.reduceAdd, Nat.reduceSub, List.replicate, List.cons_append, List.nil_append]) ?_
 refine at_seq [0] [1] rfl ?_
 refine at_region rfl ?_
 refine at_c 2 rfl rfl rfl (.inr rfl) ?_
 refine at_end rfl ?_
 refine at_seq [1, 0] [1, 1] rfl ?_
 refine at_seq [1, 0, 0] [1, 0, 1] rfl ?_
 refine at_region rfl ?_
 refine at_m 0 3 rfl rfl rfl (.inl rfl) rfl ?_
 refine at_o 4 rfl rfl rfl rfl (op_eqNilT rfl fu_Sapi_Value) ?_
 refine at_end rfl ?_
 refine at_true [1, 0, 1, 0] [1, 0, 1, 1] rfl rfl ?_
 refine at_seq [1, 0, 1, 0, 0] [1, 0, 1, 0, 1] rfl ?_
 refine at_region rfl ?_
 refine at_o 2 rfl rfl rfl rfl (op_nilV (.inl rfl)) ?_
 refine at_end rfl ?_
 refine at_ret rfl (ret_one (t := 2) rfl rfl ?_ rfl)
 rfl
noncomputable def cOwn : Code := Tryz.f27.body.getD .skip
set_option maxRecDepth 20000 in
theorem ownN_spec (x : Int) : FSpec PP 27 [.v (vN x)] σ0 (.v (vN x)) σ0 := by
 refine spec_at cOwn Tryz.func27 rfl (by kernel_rfl) (by first | decide | simp) _ (by dsimp only [Tryz.f27, List.length, Nat.reduceAdd, Nat.reduceSub, List.replicate, List.cons_append, List.nil_append]) ?_
 refine at_seq [0] [1] rfl ?_
 refine at_region rfl ?_
 refine at_o 1 rfl rfl rfl rfl (op_boxI rfl rfl) ?_
 refine at_opS (some 2) rfl rfl rfl rfl (op_allocN rfl fzeroN_api_Value) (by dsimp only [putD, List.set]) (by dsimp only [List.set, List.append, List.cons_append, List.nil_append, cellsD, List.map, repl, List.length, Nat.reduceAdd, if_true, ↓reduceIte]; first | done | rfl) ?_
 refine at_end rfl ?_
 refine at_seq [1, 0] [1, 1] rfl ?_
 refine at_region rfl ?_
 first | (refine at_o 6 rfl rfl rfl rfl (op_fieldP rfl ffld1_api_Value (by decide)) ?_) | (refine at_o 6 rfl rfl rfl rfl (op_fieldR rfl ffld1_api_Value (by decide) (by decide) rfl) ?_)
 first | (refine at_o 7 rfl rfl rfl rfl (op_loadR1 rfl fone_Sapi_Value rfl) ?_) | (refine at_o 7 rfl rfl rfl rfl (op_loadP1 rfl fone_Sapi_Value rfl rfl) ?_)
 refine at_o 8 rfl rfl rfl rfl (op_call0 rfl rfl rfl rfl (cloneV0_spec)) ?_
 refine at_m 8 3 rfl rfl rfl (.inr rfl) rfl ?_
 refine at_end rfl ?_
 refine at_seq [1, 1, 0] [1, 1, 1] rfl ?_
 refine at_seq [1, 1, 0, 0] [1, 1, 0, 1] rfl ?_
 refine at_region rfl ?_
 refine at_m 3 9 rfl rfl rfl (.inl rfl) rfl ?_
 refine at_o 10 rfl rfl rfl rfl (opOK_see (.cons .nils .nil) (op_lenL rfl fu_Sapi_Value)) ?_
 refine at_c 11 rfl rfl rfl (.inl rfl) ?_
 refine at_end rfl ?_
 refine at_block [1, 1, 0, 1, 0] 0 rfl ?_
 refine at_loop [1, 1, 0, 1, 0, 0] rfl ?_
 try simp only [List.length_map, List.length_nil, Int.toNat_natCast]
 refine run_lp ?_
 refine at_seq [1, 1, 0, 1, 0, 0, 0] [1, 1, 0, 1, 0, 0, 1] rfl ?_
 refine at_region rfl ?_
 refine at_o 12 rfl rfl rfl rfl (op_binI rfl rfl) ?_
 refine at_end rfl ?_
 refine at_seq [1, 1, 0, 1, 0, 0, 1, 0] [1, 1, 0, 1, 0, 0, 1, 1] rfl ?_
 refine at_cond [1, 1, 0, 1, 0, 0, 1, 0, 0] [1, 1, 0, 1, 0, 0, 1, 0, 1] rfl rfl (fun hc1 => ?_) (fun hc1 => ?_)
 ·skip
  exact absurd hc1 (by simp)
 ·skip
  refine at_exit rfl rfl ?_
  refine at_seq [1, 1, 1, 0] [1, 1, 1, 1] rfl ?_
  refine at_region rfl ?_
  first | (refine at_o 22 rfl rfl rfl rfl (op_fieldP rfl ffld0_api_Value (by decide)) ?_) | (refine at_o 22 rfl rfl rfl rfl (op_fieldR rfl ffld0_api_Value (by decide) (by decide) rfl) ?_)
  first | (refine at_o 23 rfl rfl rfl rfl (op_loadR1 rfl fone_int rfl) ?_) | (refine at_o 23 rfl rfl rfl rfl (op_loadP1 rfl fone_int rfl rfl) ?_)
  refine at_m 3 24 rfl rfl rfl (.inl rfl) rfl ?_
  refine at_o 25 rfl rfl rfl rfl (op_build rfl fbld_api_Value rfl rfl) ?_
  try dsimp only [V.cellsV, List.take, List.drop, List.cons_append, List.nil_append, List.length]
  refine at_stA 2 (.tmp 25) rfl rfl rfl rfl rfl (ev_tmp rfl) rfl fagg_api_Value rfl rfl (by first | decide | simp | (simp; omega)) (by dsimp only [List.set, List.append, List.cons_append, List.nil_append, cellsD, List.map, repl, List.length, Nat.reduceAdd, if_true, ↓reduceIte]; first | done | rfl) ?_
  refine at_end rfl ?_
  exact at_ret rfl (res_ok (ds := [.v (vN x)]) (.cellA rfl rfl fagg_api_Value (by simp) rfl .nil) rfl 0 rfl (by simp) (fun i cs h => by simp at h) (List.nil_sublist _) rfl)
set_option maxRecDepth 20000 in
theorem own_loop (c : List Int) (hl : c.length ≤ 100) (m : Nat) : ∀ (i : Nat), c.length - i = m → Run PP (fun env σ1 => ResOK PP Tryz.f27 env σ1 (.v (vCf c)) σ0) [.lp (sub cOwn [1, 1, 0, 1, 0, 0]), .blk 0, .code (sub cOwn [1, 1, 1])] (.undef :: (.v (.ref (vCf c))) :: (.ptr 0 0) :: (.arr 1 0 c.length) :: .undef :: .undef :: .undef :: .undef :: .undef :: (.arr 1 0 c.length) :: (di ↑c.length) :: (di ↑i) :: .undef :: .undef :: .undef :: .undef :: .undef :: .undef :: .undef :: .undef :: .undef :: .undef :: .undef :: .undef :: .undef :: .undef :: []) ⟨[some [di 0, .v .nils], some (fl c)], []⟩ := by
 induction m using Nat.strongRecOn with
 | _ m ih =>
  intro i hm
  have hfl := fl_length c
  refine run_lp ?_
  refine at_seq [1, 1, 0, 1, 0, 0, 0] [1, 1, 0, 1, 0, 0, 1] rfl ?_
  refine at_region rfl ?_
  refine at_o 12 rfl rfl rfl rfl (op_binI rfl rfl) ?_
  refine at_end rfl ?_
  refine at_seq [1, 1, 0, 1, 0, 0, 1, 0] [1, 1, 0, 1, 0, 0, 1, 1] rfl ?_
  refine at_cond [1, 1, 0, 1, 0, 0, 1, 0, 0] [1, 1, 0, 1, 0, 0, 1, 0, 1] rfl rfl (fun hc1 => ?_) (fun hc1 => ?_)
  ·skip
   have hlt : i < c.length := by simpa using hc1
   obtain ⟨x, hx⟩ := get_ex hlt
   refine at_skip rfl ?_
   refine at_seq [1, 1, 0, 1, 0, 0, 1, 1, 0] [1, 1, 0, 1, 0, 0, 1, 1, 1] rfl ?_
   refine at_block [1, 1, 0, 1, 0, 0, 1, 1, 0, 0] 1 rfl ?_
   refine at_seq [1, 1, 0, 1, 0, 0, 1, 1, 0, 0, 0] [1, 1, 0, 1, 0, 0, 1, 1, 0, 0, 1] rfl ?_
   refine at_region rfl ?_
   refine at_m 11 13 rfl rfl rfl (.inl rfl) rfl ?_
   first | (refine at_o 14 rfl rfl rfl rfl (op_idxL rfl fsl_Sapi_Value (by first | decide | omega) (by first | assumption | exact idx_some (by assumption) | rfl) (by first | rfl | (simp [V.size]; done))) ?_) | (refine at_o 14 rfl rfl rfl rfl (opOK_un (op_idxL rfl fsl_Sapi_Value (by first | decide | omega) (by first | assumption | exact idx_some (by assumption) | rfl) (by first | rfl | (simp [V.size]; done)))) ?_) | (refine at_o 14 rfl rfl rfl rfl (op_idxA rfl fsl_Sapi_Value (by first | decide | omega) (by first | decide | omega)) ?_)
   simp only [Nat.zero_add, Int.toNat_natCast]
   refine at_o 15 rfl rfl rfl rfl (op_loadPA rfl fagg_api_Value rfl (by omega) (xs := [vi x, .nils]) (by rw [fl_at hx]; rfl)) ?_
   refine at_new1 15 5 13 4 rfl rfl rfl rfl fzero_api_Value rfl rfl rfl (.inr rfl) rfl (by decide) (by decide) (by decide) rfl rfl rfl rfl (by decide) rfl rfl fagg_api_Value (by first | rfl | (simp [V.size]; done)) rfl (by simp only [List.length_cons]; omega) (by dsimp only [List.set]) ?_
   refine at_end rfl ?_
   refine at_region rfl ?_
   refine at_m 3 16 rfl rfl rfl (.inl rfl) rfl ?_
   refine at_m 4 17 rfl rfl rfl (.inl rfl) rfl ?_
   first | (refine at_o 18 rfl rfl rfl rfl (op_loadRA rfl fagg_api_Value) ?_) | (refine at_o 18 rfl rfl rfl rfl (op_loadPA rfl fagg_api_Value rfl (by first | decide | simp) rfl) ?_)
   refine at_o 19 rfl rfl rfl rfl (op_call0 rfl rfl rfl rfl (ownN_spec x)) ?_
   first | (refine at_o 20 rfl rfl rfl rfl (op_idxL rfl fsl_Sapi_Value (by first | decide | omega) (by first | assumption | exact idx_some (by assumption) | rfl) (by first | rfl | (simp [V.size]; done))) ?_) | (refine at_o 20 rfl rfl rfl rfl (opOK_un (op_idxL rfl fsl_Sapi_Value (by first | decide | omega) (by first | assumption | exact idx_some (by assumption) | rfl) (by first | rfl | (simp [V.size]; done)))) ?_) | (refine at_o 20 rfl rfl rfl rfl (op_idxA rfl fsl_Sapi_Value (by first | decide | omega) (by first | decide | omega)) ?_)
   simp only [Nat.zero_add, Int.toNat_natCast]
   refine at_stA 20 (.tmp 19) rfl rfl rfl rfl rfl (ev_tmp rfl) rfl fagg_api_Value rfl (rfl) (by omega) rfl ?_
   simp only [cellsD, List.map_cons, List.map_nil, List.set_cons_succ, List.set_cons_zero]
   rw [fl_put hx]
   refine at_end rfl ?_
   refine run_blk ?_
   refine at_region rfl ?_
   refine at_o 21 rfl rfl rfl rfl (op_binI rfl rfl) ?_
   rw [wrap_succ (by omega)]
   refine at_m 21 11 rfl rfl rfl (.inl rfl) rfl ?_
   refine at_end rfl ?_
   exact run_wk (.drop (.keep (.keep (.keep (.d4 (.drop (.keep (.keep (.keep (.d4 (.d4 (.d4 (.drop (.drop .nil)))))))))))))) (ih _ (by omega) (i + 1) rfl)
  ·skip
   refine run_wk (.drop (.keep (.keep (.keep (.d16 (.d4 (.drop (.drop .nil)))))))) ?_
   refine run_cv (cv_frz [1] (.keep (.keep (.keep (.view (lend_kids (c := c) rfl rfl) (.keep (.keep (.keep (.keep (.keep (.keep (.keep (.keep (.keep (.keep (.keep (.keep (.keep (.keep (.keep (.keep (.keep (.keep (.keep (.keep (.keep (.keep .nil))))))))))))))))))))))))))) ?_
   simp only [killH, List.foldl, List.set]
   refine at_exit rfl rfl ?_
   refine at_seq [1, 1, 1, 0] [1, 1, 1, 1] rfl ?_
   refine at_region rfl ?_
   first | (refine at_o 22 rfl rfl rfl rfl (op_fieldP rfl ffld0_api_Value (by decide)) ?_) | (refine at_o 22 rfl rfl rfl rfl (op_fieldR rfl ffld0_api_Value (by decide) (by decide) rfl) ?_)
   first | (refine at_o 23 rfl rfl rfl rfl (op_loadR1 rfl fone_int rfl) ?_) | (refine at_o 23 rfl rfl rfl rfl (op_loadP1 rfl fone_int rfl rfl) ?_)
   refine at_m 3 24 rfl rfl rfl (.inl rfl) rfl ?_
   refine at_o 25 rfl rfl rfl rfl (op_build rfl fbld_api_Value rfl rfl) ?_
   try dsimp only [V.cellsV, List.take, List.drop, List.cons_append, List.nil_append, List.length]
   refine at_stA 2 (.tmp 25) rfl rfl rfl rfl rfl (ev_tmp rfl) rfl fagg_api_Value rfl rfl (by first | decide | simp | (simp; omega)) (by dsimp only [List.set, List.append, List.cons_append, List.nil_append, cellsD, List.map, repl, List.length, Nat.reduceAdd, if_true, ↓reduceIte]; first | done | rfl) ?_
   refine at_end rfl ?_
   exact at_ret rfl (res_ok (ds := [.v (vCf c)]) (.cellA rfl rfl fagg_api_Value (by simp) rfl .nil) rfl 0 rfl (by simp) (fun i cs h => by simp at h) (List.nil_sublist _) rfl)
set_option maxRecDepth 20000 in
theorem own_spec (c : List Int) (hc : c ≠ []) (hl : c.length ≤ 100) : FSpec PP 27 [.v (vCf c)] σ0 (.v (vCf c)) σ0 := by
 refine spec_at cOwn Tryz.func27 rfl (by kernel_rfl) (by first | decide | simp) _ (by dsimp only [Tryz.f27, List.length, Nat.reduceAdd, Nat.reduceSub, List.replicate, List.cons_append, List.nil_append]) ?_
 refine at_seq [0] [1] rfl ?_
 refine at_region rfl ?_
 refine at_o 1 rfl rfl rfl rfl (op_boxI rfl rfl) ?_
 refine at_opS (some 2) rfl rfl rfl rfl (op_allocN rfl fzeroN_api_Value) (by dsimp only [putD, List.set]) (by dsimp only [List.set, List.append, List.cons_append, List.nil_append, cellsD, List.map, repl, List.length, Nat.reduceAdd, if_true, ↓reduceIte]; first | done | rfl) ?_
 refine at_end rfl ?_
 refine at_seq [1, 0] [1, 1] rfl ?_
 refine at_region rfl ?_
 first | (refine at_o 6 rfl rfl rfl rfl (op_fieldP rfl ffld1_api_Value (by decide)) ?_) | (refine at_o 6 rfl rfl rfl rfl (op_fieldR rfl ffld1_api_Value (by decide) (by decide) rfl) ?_)
 first | (refine at_o 7 rfl rfl rfl rfl (op_loadR1 rfl fone_Sapi_Value rfl) ?_) | (refine at_o 7 rfl rfl rfl rfl (op_loadP1 rfl fone_Sapi_Value rfl rfl) ?_)
 refine at_opS (some 8) rfl rfl rfl rfl (op_call0_arrJ rfl rfl rfl (j := 1) rfl (pls_fl _) (cloneV_spec c hc (by omega))) (by dsimp only [putD, List.set]) (by dsimp only [List.set, List.append, List.cons_append, List.nil_append, cellsD, List.map, repl, List.length, Nat.reduceAdd, if_true, ↓reduceIte]; first | done | rfl) ?_
 refine at_m 8 3 rfl rfl rfl (.inr rfl) rfl ?_
 refine at_end rfl ?_
 refine at_seq [1, 1, 0] [1, 1, 1] rfl ?_
 refine at_seq [1, 1, 0, 0] [1, 1, 0, 1] rfl ?_
 refine at_region rfl ?_
 refine at_m 3 9 rfl rfl rfl (.inl rfl) rfl ?_
 first | (refine at_o 10 rfl rfl rfl rfl (op_lenL rfl fu_Sapi_Value) ?_) | (refine at_o 10 rfl rfl rfl rfl (opOK_un (op_lenL rfl fu_Sapi_Value)) ?_) | (refine at_o 10 rfl rfl rfl rfl (op_lenA rfl fu_Sapi_Value) ?_)
 refine at_c 11 rfl rfl rfl (.inl rfl) ?_
 refine at_end rfl ?_
 refine at_block [1, 1, 0, 1, 0] 0 rfl ?_
 refine at_loop [1, 1, 0, 1, 0, 0] rfl ?_
 try simp only [List.length_map, List.length_nil, Int.toNat_natCast]
 exact run_wk (.drop (.keep (.keep (.keep (.d4 (.drop (.keep (.keep (.keep (.d4 (.d4 (.d4 (.drop (.drop .nil)))))))))))))) (own_loop c hl _ 0 rfl)
end Go.Proofs.YtmdipbhjhkckjaaGreat
