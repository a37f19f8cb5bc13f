/-
  question.Text of any question whose target came out of a text; question.read of any text: walked.
-/
import Derived.Test.YtopbcpgmffppjaaGreatDoorEl
import Derived.Test.YtopbcpgmffppjaaGreatDoorEh
namespace Go.Proofs.YtopbcpgmffppjaaGreatDoor
open Go.Dv Go.Nv
set_option maxRecDepth 20000
theorem qtx_coverI (m : Mod) (p : Int) (v : Val) (hv : RdV v) (h : FSpec PP 10 [dMod m, dQ ⟨1, p, v⟩] σ0 (di 0) σ0) : FSpec PP 13 [dMod m, dQ ⟨1, p, v⟩] σ0 (.tup [ds (wCover ++ [32] ++ textI v), di 0]) σ0 := by
  refine spec_vc mixed fQTx cQTx (by kernel_rfl) (by kernel_rfl) (by kernel_rfl) (by kernel_rfl) 52 (by kernel_rfl) [2, 3] (.c (di 0) <| .k <| .c (.tup [ds (textI v), di 0]) <| .k .r) ?_
  refine via (by kernel_rfl : (FSpec PP 10 [D.v (vMod m), D.v (vQ (Qst.mk 1 p v))] (St.mk [] []) (di 0) (St.mk [] []) ∧ 0 ≤ (Qst.mk 1 p v).kind ∧ (Qst.mk 1 p v).kind < (↑7 : Int) ∧ FSpec PP 25 [D.v (V.agg [vi (Val.n (Qst.mk 1 p v).target), vVs (Val.kids (Qst.mk 1 p v).target)])] (St.mk [] []) (D.tup [D.v (V.str (textI v)), di 0]) (St.mk [] []) ∧ 6 ≤ 9223372036854775807 ∧ List.length ([99, 111, 118, 101, 114] ++ (ByteArray.mk #[32]).data.toList) + List.length (textI v) ≤ 9223372036854775807 ∧ D.tup [D.v (V.str ([99, 111, 118, 101, 114] ++ (ByteArray.mk #[32]).data.toList ++ textI v)), di 0] = D.tup [D.v (V.str (wCover ++ [32] ++ textI v)), di 0]) = _) ?_
  have hl := textI_len v hv.rg
  have hz := hv.size
  exact ⟨h, by show (0 : Int) ≤ 1; decide, by show (1 : Int) < 7; decide, otextI_spec v hv.rg hv.size, by decide, by show 6 + (textI v).length ≤ _; omega, rfl⟩
theorem qtx_reachI (m : Mod) (p : Int) (v : Val) (hv : RdV v) (h : FSpec PP 10 [dMod m, dQ ⟨2, p, v⟩] σ0 (di 0) σ0) : FSpec PP 13 [dMod m, dQ ⟨2, p, v⟩] σ0 (.tup [ds (wReach ++ [32] ++ textI v), di 0]) σ0 := by
  refine spec_vc mixed fQTx cQTx (by kernel_rfl) (by kernel_rfl) (by kernel_rfl) (by kernel_rfl) 52 (by kernel_rfl) [2, 3] (.c (di 0) <| .k <| .c (.tup [ds (textI v), di 0]) <| .k .r) ?_
  refine via (by kernel_rfl : (FSpec PP 10 [D.v (vMod m), D.v (vQ (Qst.mk 2 p v))] (St.mk [] []) (di 0) (St.mk [] []) ∧ 0 ≤ (Qst.mk 2 p v).kind ∧ (Qst.mk 2 p v).kind < (↑7 : Int) ∧ FSpec PP 25 [D.v (V.agg [vi (Val.n (Qst.mk 2 p v).target), vVs (Val.kids (Qst.mk 2 p v).target)])] (St.mk [] []) (D.tup [D.v (V.str (textI v)), di 0]) (St.mk [] []) ∧ 6 ≤ 9223372036854775807 ∧ List.length ([114, 101, 97, 99, 104] ++ (ByteArray.mk #[32]).data.toList) + List.length (textI v) ≤ 9223372036854775807 ∧ D.tup [D.v (V.str ([114, 101, 97, 99, 104] ++ (ByteArray.mk #[32]).data.toList ++ textI v)), di 0] = D.tup [D.v (V.str (wReach ++ [32] ++ textI v)), di 0]) = _) ?_
  have hl := textI_len v hv.rg
  have hz := hv.size
  exact ⟨h, by show (0 : Int) ≤ 2; decide, by show (2 : Int) < 7; decide, otextI_spec v hv.rg hv.size, by decide, by show 6 + (textI v).length ≤ _; omega, rfl⟩
/-- the text of a question -/
def txI (m : Mod) (q : Qst) : List UInt8 := if q.kind = 1 then wCover ++ [32] ++ textI q.target else if q.kind = 2 then wReach ++ [32] ++ textI q.target else if q.kind = 3 then wBounded else if q.kind = 4 then wPlace ++ [32] ++ m.places.getD q.place.toNat [] else if q.kind = 5 then wDead else wHome
theorem validI_kind {m : Mod} {t : Typ} {q : Qst} (h : validQ m t q = true) : q.kind = 1 ∨ q.kind = 2 ∨ q.kind = 3 ∨ q.kind = 4 ∨ q.kind = 5 ∨ q.kind = 6 := by
  unfold validQ at h
  split at h
  · simp at h
  · omega
theorem qval_anyI (m : Mod) (t : Typ) (hm : ModI m t) (q : Qst) (hz : q.target.size ≤ 1000000) : FSpec PP 22 [dMod m, dQ q] σ0 (db (validQ m t q)) σ0 := by
  obtain ⟨k, p, v⟩ := q
  rcases (show k = 1 ∨ k = 2 ∨ k = 3 ∨ k = 4 ∨ k = 5 ∨ k = 6 ∨ (k < 1 ∨ k ≥ 7) by omega) with rfl | rfl | rfl | rfl | rfl | rfl | hk
  · exact qval_cover m t hm p v hz
  · exact qval_reach m t hm p v hz
  · exact qval_bounded m t hm p v hz
  · exact qval_place m t hm p v hz
  · exact qval_dead m t p v hz
  · exact qval_home m t p v hz
  · have h := qval_out m p v k hk
    rwa [show false = validQ m t ⟨k, p, v⟩ by simp only [validQ]; rw [if_pos hk]] at h
theorem chk_anyI (m : Mod) (t : Typ) (hm : ModI m t) (q : Qst) (hv : RdV q.target) : FSpec PP 10 [dMod m, dQ q] σ0 (di (if validQ m t q then 0 else 48)) σ0 :=
  qchk_spec m t hm q _ (qval_anyI m t hm q (by have := hv.size; omega))
theorem txI_bad (m : Mod) (t : Typ) (hm : ModI m t) (q : Qst) (hv : RdV q.target) (h : validQ m t q = false) : FSpec PP 13 [dMod m, dQ q] σ0 (.tup [ds [], di 48]) σ0 := by
  have hc := chk_anyI m t hm q hv
  rw [h] at hc
  exact qtx_bad m q hc
theorem txI_ok (m : Mod) (t : Typ) (hm : ModI m t) (hP : m.places = [[120]] ∨ m.places = [[120], [121]]) (q : Qst) (hv : RdV q.target) (h : validQ m t q = true) : FSpec PP 13 [dMod m, dQ q] σ0 (.tup [ds (txI m q), di 0]) σ0 := by
  have hc := chk_anyI m t hm q hv
  rw [h] at hc
  have hk := validI_kind h
  obtain ⟨k, p, v⟩ := q
  simp only at hk
  rcases hk with rfl | rfl | rfl | rfl | rfl | rfl
  · exact qtx_coverI m p v hv hc
  · exact qtx_reachI m p v hv hc
  · exact qtx_bounded m p v hc
  · simp only [validQ] at h
    rw [if_neg (by decide), if_neg (by decide), if_neg (by decide), if_pos trivial] at h
    simp only [Bool.and_eq_true, decide_eq_true_eq] at h
    obtain ⟨n, rfl⟩ : ∃ n : Nat, p = n := ⟨p.toNat, by omega⟩
    have hn : n < m.places.length := by omega
    have hx : m.places[n]? = some m.places[n] := List.getElem?_eq_getElem hn
    have hlen : m.places[n].length ≤ 1000 := by
      have h1 : ∀ x ∈ m.places, x.length ≤ 1000 := by
        rcases hP with e | e <;> rw [e] <;> decide
      exact h1 _ (List.getElem_mem hn)
    have h4 := qtx_place m n v _ hx hlen hc
    have e4 : txI m ⟨4, n, v⟩ = wPlace ++ [32] ++ m.places[n] := by
      simp only [txI]
      rw [if_neg (by decide), if_neg (by decide), if_neg (by decide), if_pos trivial, List.getD_eq_getElem?_getD, show ((n : Nat) : Int).toNat = n from rfl, hx]; rfl
    rw [e4]; exact h4
  · exact qtx_dead m p v hc
  · exact qtx_home m p v hc
/-- what Text answers -/
def txA (m : Mod) (t : Typ) (q : Qst) : List UInt8 × Int := if validQ m t q then (txI m q, 0) else ([], 48)
theorem txA_spec (m : Mod) (t : Typ) (hm : ModI m t) (hP : m.places = [[120]] ∨ m.places = [[120], [121]]) (q : Qst) (hv : RdV q.target) : FSpec PP 13 [dMod m, dQ q] σ0 (.tup [ds (txA m t q).1, di (txA m t q).2]) σ0 := by
  unfold txA
  cases h : validQ m t q with
  | true => exact txI_ok m t hm hP q hv h
  | false => exact txI_bad m t hm q hv h
theorem w45 : IntKind.wrap IntKind.i64 (4 + 1) = 5 := by decide
theorem w56 : IntKind.wrap IntKind.i64 (5 + 1) = 6 := by decide
theorem w67 : IntKind.wrap IntKind.i64 (6 + 1) = 7 := by decide
/-- what read answers -/
def rdA (m : Mod) (t : Typ) (q : Qst) (s : List UInt8) : Bool := validQ m t q && (txI m q == s)
theorem rdq1_1 (m : Mod) (t : Typ) (hm : ModI m t) (hP : m.places = [[120]]) (s rest : List UInt8) (f : Bool) (v : Val) (e : Int) (hv : RdV v) (hc : FSpec PP 37 [ds s, ds [32]] σ0 (.tup [ds wCover, ds rest, db f]) σ0) (hp : FSpec PP 38 [ds rest] σ0 (.tup [dV v, di e]) σ0) :
    FSpec PP 27 [dMod m, ds s] σ0 (.tup [dQ ⟨1, 0, v⟩, db (rdA m t ⟨1, 0, v⟩ s)]) σ0 := by
  have ht := txA_spec m t hm (.inl hP) ⟨1, 0, v⟩ hv
  unfold txA at ht
  unfold rdA
  generalize txI m ⟨1, 0, v⟩ = u at ht ⊢
  generalize validQ m t ⟨1, 0, v⟩ = b at ht ⊢
  clear hm
  obtain ⟨mk, ms, mp, ml, mr, mv, ma, mru, mst⟩ := m
  simp only at hP
  subst hP
  cases b with
  | true =>
    refine spec_vc mixed fRdq cRdq (by kernel_rfl) (by kernel_rfl) (by kernel_rfl) (by kernel_rfl) 79 (by kernel_rfl) [2] (.c (.tup [ds wCover, ds rest, db f]) <| .n <| .n <| .c (.tup [dV v, di e]) <| .n <| .x (.str [120]) <| .n <| .c (.tup [ds u, di 0]) <| .r) ?_
    refine via (by kernel_rfl : (FSpec PP 37 [D.v (V.str s), D.v (V.str (ByteArray.mk #[32]).data.toList)] (St.mk [] []) (D.tup [D.v (V.str wCover), D.v (V.str rest), db f]) (St.mk [] []) ∧ iz 0 ≤ 0 ∧ 0 < (↑7 : Int) ∧ 0 ≤ IntKind.wrap IntKind.i64 (0 + 1) ∧ IntKind.wrap IntKind.i64 (0 + 1) < (↑7 : Int) ∧ FSpec PP 38 [D.v (V.str rest)] (St.mk [] []) (D.tup [dV v, di e]) (St.mk [] []) ∧ iz 0 ≤ 0 ∧ some (V.str [120]) = some (V.str [120]) ∧ FSpec PP 13 [D.v (vMod (Mod.mk mk ms [[120]] ml mr mv ma mru mst)), D.v (V.agg [vi (IntKind.wrap IntKind.i64 (0 + 1)), vi 0, vi (Val.n v), vVs (Val.kids v)])] (St.mk [] []) (D.tup [D.v (V.str u), di 0]) (St.mk [] []) ∧ D.tup [D.v (V.agg [vi (IntKind.wrap IntKind.i64 (0 + 1)), vi 0, vi (Val.n v), V.list (List.map eV (Val.kids v))]), db (u == s)] = D.tup [dQ (Qst.mk 1 0 v), db (true && u == s)]) = _) ?_
    simp only [w01]
    repeat' first | with_reducible refine And.intro ?_ ?_
    all_goals first | exact hc | exact ht | exact hp | rfl | decide
  | false =>
    refine spec_vc mixed fRdq cRdq (by kernel_rfl) (by kernel_rfl) (by kernel_rfl) (by kernel_rfl) 79 (by kernel_rfl) [2] (.c (.tup [ds wCover, ds rest, db f]) <| .n <| .n <| .c (.tup [dV v, di e]) <| .n <| .x (.str [120]) <| .n <| .c (.tup [ds [], di 48]) <| .r) ?_
    refine via (by kernel_rfl : (FSpec PP 37 [D.v (V.str s), D.v (V.str (ByteArray.mk #[32]).data.toList)] (St.mk [] []) (D.tup [D.v (V.str wCover), D.v (V.str rest), db f]) (St.mk [] []) ∧ iz 0 ≤ 0 ∧ 0 < (↑7 : Int) ∧ 0 ≤ IntKind.wrap IntKind.i64 (0 + 1) ∧ IntKind.wrap IntKind.i64 (0 + 1) < (↑7 : Int) ∧ FSpec PP 38 [D.v (V.str rest)] (St.mk [] []) (D.tup [dV v, di e]) (St.mk [] []) ∧ iz 0 ≤ 0 ∧ some (V.str [120]) = some (V.str [120]) ∧ FSpec PP 13 [D.v (vMod (Mod.mk mk ms [[120]] ml mr mv ma mru mst)), D.v (V.agg [vi (IntKind.wrap IntKind.i64 (0 + 1)), vi 0, vi (Val.n v), vVs (Val.kids v)])] (St.mk [] []) (D.tup [D.v (V.str []), di 48]) (St.mk [] []) ∧ D.tup [D.v (V.agg [vi (IntKind.wrap IntKind.i64 (0 + 1)), vi 0, vi (Val.n v), V.list (List.map eV (Val.kids v))]), db false] = D.tup [dQ (Qst.mk 1 0 v), db (false && u == s)]) = _) ?_
    simp only [w01]
    repeat' first | with_reducible refine And.intro ?_ ?_
    all_goals first | exact hc | exact ht | exact hp | rfl | decide
theorem rdq1_2 (m : Mod) (t : Typ) (hm : ModI m t) (hP : m.places = [[120], [121]]) (s rest : List UInt8) (f : Bool) (v : Val) (e : Int) (hv : RdV v) (hc : FSpec PP 37 [ds s, ds [32]] σ0 (.tup [ds wCover, ds rest, db f]) σ0) (hp : FSpec PP 38 [ds rest] σ0 (.tup [dV v, di e]) σ0) :
    FSpec PP 27 [dMod m, ds s] σ0 (.tup [dQ ⟨1, 0, v⟩, db (rdA m t ⟨1, 0, v⟩ s)]) σ0 := by
  have ht := txA_spec m t hm (.inr hP) ⟨1, 0, v⟩ hv
  unfold txA at ht
  unfold rdA
  generalize txI m ⟨1, 0, v⟩ = u at ht ⊢
  generalize validQ m t ⟨1, 0, v⟩ = b at ht ⊢
  clear hm
  obtain ⟨mk, ms, mp, ml, mr, mv, ma, mru, mst⟩ := m
  simp only at hP
  subst hP
  cases b with
  | true =>
    refine spec_vc mixed fRdq cRdq (by kernel_rfl) (by kernel_rfl) (by kernel_rfl) (by kernel_rfl) 79 (by kernel_rfl) [2] (.c (.tup [ds wCover, ds rest, db f]) <| .n <| .n <| .c (.tup [dV v, di e]) <| .n <| .x (.str [120]) <| .n <| .x (.str [121]) <| .n <| .c (.tup [ds u, di 0]) <| .r) ?_
    refine via (by kernel_rfl : (FSpec PP 37 [D.v (V.str s), D.v (V.str (ByteArray.mk #[32]).data.toList)] (St.mk [] []) (D.tup [D.v (V.str wCover), D.v (V.str rest), db f]) (St.mk [] []) ∧ iz 0 ≤ 0 ∧ 0 < (↑7 : Int) ∧ 0 ≤ IntKind.wrap IntKind.i64 (0 + 1) ∧ IntKind.wrap IntKind.i64 (0 + 1) < (↑7 : Int) ∧ FSpec PP 38 [D.v (V.str rest)] (St.mk [] []) (D.tup [dV v, di e]) (St.mk [] []) ∧ iz 0 ≤ 0 ∧ some (V.str [120]) = some (V.str [120]) ∧ 0 ≤ IntKind.wrap IntKind.i64 (0 + 1) ∧ some (V.str [121]) = some (V.str [121]) ∧ FSpec PP 13 [D.v (vMod (Mod.mk mk ms [[120], [121]] ml mr mv ma mru mst)), D.v (V.agg [vi (IntKind.wrap IntKind.i64 (0 + 1)), vi 0, vi (Val.n v), vVs (Val.kids v)])] (St.mk [] []) (D.tup [D.v (V.str u), di 0]) (St.mk [] []) ∧ D.tup [D.v (V.agg [vi (IntKind.wrap IntKind.i64 (0 + 1)), vi 0, vi (Val.n v), V.list (List.map eV (Val.kids v))]), db (u == s)] = D.tup [dQ (Qst.mk 1 0 v), db (true && u == s)]) = _) ?_
    simp only [w01]
    repeat' first | with_reducible refine And.intro ?_ ?_
    all_goals first | exact hc | exact ht | exact hp | rfl | decide
  | false =>
    refine spec_vc mixed fRdq cRdq (by kernel_rfl) (by kernel_rfl) (by kernel_rfl) (by kernel_rfl) 79 (by kernel_rfl) [2] (.c (.tup [ds wCover, ds rest, db f]) <| .n <| .n <| .c (.tup [dV v, di e]) <| .n <| .x (.str [120]) <| .n <| .x (.str [121]) <| .n <| .c (.tup [ds [], di 48]) <| .r) ?_
    refine via (by kernel_rfl : (FSpec PP 37 [D.v (V.str s), D.v (V.str (ByteArray.mk #[32]).data.toList)] (St.mk [] []) (D.tup [D.v (V.str wCover), D.v (V.str rest), db f]) (St.mk [] []) ∧ iz 0 ≤ 0 ∧ 0 < (↑7 : Int) ∧ 0 ≤ IntKind.wrap IntKind.i64 (0 + 1) ∧ IntKind.wrap IntKind.i64 (0 + 1) < (↑7 : Int) ∧ FSpec PP 38 [D.v (V.str rest)] (St.mk [] []) (D.tup [dV v, di e]) (St.mk [] []) ∧ iz 0 ≤ 0 ∧ some (V.str [120]) = some (V.str [120]) ∧ 0 ≤ IntKind.wrap IntKind.i64 (0 + 1) ∧ some (V.str [121]) = some (V.str [121]) ∧ FSpec PP 13 [D.v (vMod (Mod.mk mk ms [[120], [121]] ml mr mv ma mru mst)), D.v (V.agg [vi (IntKind.wrap IntKind.i64 (0 + 1)), vi 0, vi (Val.n v), vVs (Val.kids v)])] (St.mk [] []) (D.tup [D.v (V.str []), di 48]) (St.mk [] []) ∧ D.tup [D.v (V.agg [vi (IntKind.wrap IntKind.i64 (0 + 1)), vi 0, vi (Val.n v), V.list (List.map eV (Val.kids v))]), db false] = D.tup [dQ (Qst.mk 1 0 v), db (false && u == s)]) = _) ?_
    simp only [w01]
    repeat' first | with_reducible refine And.intro ?_ ?_
    all_goals first | exact hc | exact ht | exact hp | rfl | decide
theorem rdq2_1 (m : Mod) (t : Typ) (hm : ModI m t) (hP : m.places = [[120]]) (s rest : List UInt8) (f : Bool) (v : Val) (e : Int) (hv : RdV v) (hc : FSpec PP 37 [ds s, ds [32]] σ0 (.tup [ds wReach, ds rest, db f]) σ0) (hp : FSpec PP 38 [ds rest] σ0 (.tup [dV v, di e]) σ0) :
    FSpec PP 27 [dMod m, ds s] σ0 (.tup [dQ ⟨2, 0, v⟩, db (rdA m t ⟨2, 0, v⟩ s)]) σ0 := by
  have ht := txA_spec m t hm (.inl hP) ⟨2, 0, v⟩ hv
  unfold txA at ht
  unfold rdA
  generalize txI m ⟨2, 0, v⟩ = u at ht ⊢
  generalize validQ m t ⟨2, 0, v⟩ = b at ht ⊢
  clear hm
  obtain ⟨mk, ms, mp, ml, mr, mv, ma, mru, mst⟩ := m
  simp only at hP
  subst hP
  cases b with
  | true =>
    refine spec_vc mixed fRdq cRdq (by kernel_rfl) (by kernel_rfl) (by kernel_rfl) (by kernel_rfl) 79 (by kernel_rfl) [2] (.c (.tup [ds wReach, ds rest, db f]) <| .n <| .n <| .n <| .c (.tup [dV v, di e]) <| .n <| .x (.str [120]) <| .n <| .c (.tup [ds u, di 0]) <| .r) ?_
    refine via (by kernel_rfl : (FSpec PP 37 [D.v (V.str s), D.v (V.str (ByteArray.mk #[32]).data.toList)] (St.mk [] []) (D.tup [D.v (V.str wReach), D.v (V.str rest), db f]) (St.mk [] []) ∧ iz 0 ≤ 0 ∧ 0 < (↑7 : Int) ∧ 0 ≤ IntKind.wrap IntKind.i64 (0 + 1) ∧ IntKind.wrap IntKind.i64 (0 + 1) < (↑7 : Int) ∧ 0 ≤ IntKind.wrap IntKind.i64 (IntKind.wrap IntKind.i64 (0 + 1) + 1) ∧ IntKind.wrap IntKind.i64 (IntKind.wrap IntKind.i64 (0 + 1) + 1) < (↑7 : Int) ∧ FSpec PP 38 [D.v (V.str rest)] (St.mk [] []) (D.tup [dV v, di e]) (St.mk [] []) ∧ iz 0 ≤ 0 ∧ some (V.str [120]) = some (V.str [120]) ∧ FSpec PP 13 [D.v (vMod (Mod.mk mk ms [[120]] ml mr mv ma mru mst)), D.v (V.agg [vi (IntKind.wrap IntKind.i64 (IntKind.wrap IntKind.i64 (0 + 1) + 1)), vi 0, vi (Val.n v), vVs (Val.kids v)])] (St.mk [] []) (D.tup [D.v (V.str u), di 0]) (St.mk [] []) ∧ D.tup [D.v (V.agg [vi (IntKind.wrap IntKind.i64 (IntKind.wrap IntKind.i64 (0 + 1) + 1)), vi 0, vi (Val.n v), V.list (List.map eV (Val.kids v))]), db (u == s)] = D.tup [dQ (Qst.mk 2 0 v), db (true && u == s)]) = _) ?_
    simp only [w01, w12]
    repeat' first | with_reducible refine And.intro ?_ ?_
    all_goals first | exact hc | exact ht | exact hp | rfl | decide
  | false =>
    refine spec_vc mixed fRdq cRdq (by kernel_rfl) (by kernel_rfl) (by kernel_rfl) (by kernel_rfl) 79 (by kernel_rfl) [2] (.c (.tup [ds wReach, ds rest, db f]) <| .n <| .n <| .n <| .c (.tup [dV v, di e]) <| .n <| .x (.str [120]) <| .n <| .c (.tup [ds [], di 48]) <| .r) ?_
    refine via (by kernel_rfl : (FSpec PP 37 [D.v (V.str s), D.v (V.str (ByteArray.mk #[32]).data.toList)] (St.mk [] []) (D.tup [D.v (V.str wReach), D.v (V.str rest), db f]) (St.mk [] []) ∧ iz 0 ≤ 0 ∧ 0 < (↑7 : Int) ∧ 0 ≤ IntKind.wrap IntKind.i64 (0 + 1) ∧ IntKind.wrap IntKind.i64 (0 + 1) < (↑7 : Int) ∧ 0 ≤ IntKind.wrap IntKind.i64 (IntKind.wrap IntKind.i64 (0 + 1) + 1) ∧ IntKind.wrap IntKind.i64 (IntKind.wrap IntKind.i64 (0 + 1) + 1) < (↑7 : Int) ∧ FSpec PP 38 [D.v (V.str rest)] (St.mk [] []) (D.tup [dV v, di e]) (St.mk [] []) ∧ iz 0 ≤ 0 ∧ some (V.str [120]) = some (V.str [120]) ∧ FSpec PP 13 [D.v (vMod (Mod.mk mk ms [[120]] ml mr mv ma mru mst)), D.v (V.agg [vi (IntKind.wrap IntKind.i64 (IntKind.wrap IntKind.i64 (0 + 1) + 1)), vi 0, vi (Val.n v), vVs (Val.kids v)])] (St.mk [] []) (D.tup [D.v (V.str []), di 48]) (St.mk [] []) ∧ D.tup [D.v (V.agg [vi (IntKind.wrap IntKind.i64 (IntKind.wrap IntKind.i64 (0 + 1) + 1)), vi 0, vi (Val.n v), V.list (List.map eV (Val.kids v))]), db false] = D.tup [dQ (Qst.mk 2 0 v), db (false && u == s)]) = _) ?_
    simp only [w01, w12]
    repeat' first | with_reducible refine And.intro ?_ ?_
    all_goals first | exact hc | exact ht | exact hp | rfl | decide
theorem rdq2_2 (m : Mod) (t : Typ) (hm : ModI m t) (hP : m.places = [[120], [121]]) (s rest : List UInt8) (f : Bool) (v : Val) (e : Int) (hv : RdV v) (hc : FSpec PP 37 [ds s, ds [32]] σ0 (.tup [ds wReach, ds rest, db f]) σ0) (hp : FSpec PP 38 [ds rest] σ0 (.tup [dV v, di e]) σ0) :
    FSpec PP 27 [dMod m, ds s] σ0 (.tup [dQ ⟨2, 0, v⟩, db (rdA m t ⟨2, 0, v⟩ s)]) σ0 := by
  have ht := txA_spec m t hm (.inr hP) ⟨2, 0, v⟩ hv
  unfold txA at ht
  unfold rdA
  generalize txI m ⟨2, 0, v⟩ = u at ht ⊢
  generalize validQ m t ⟨2, 0, v⟩ = b at ht ⊢
  clear hm
  obtain ⟨mk, ms, mp, ml, mr, mv, ma, mru, mst⟩ := m
  simp only at hP
  subst hP
  cases b with
  | true =>
    refine spec_vc mixed fRdq cRdq (by kernel_rfl) (by kernel_rfl) (by kernel_rfl) (by kernel_rfl) 79 (by kernel_rfl) [2] (.c (.tup [ds wReach, ds rest, db f]) <| .n <| .n <| .n <| .c (.tup [dV v, di e]) <| .n <| .x (.str [120]) <| .n <| .x (.str [121]) <| .n <| .c (.tup [ds u, di 0]) <| .r) ?_
    refine via (by kernel_rfl : (FSpec PP 37 [D.v (V.str s), D.v (V.str (ByteArray.mk #[32]).data.toList)] (St.mk [] []) (D.tup [D.v (V.str wReach), D.v (V.str rest), db f]) (St.mk [] []) ∧ iz 0 ≤ 0 ∧ 0 < (↑7 : Int) ∧ 0 ≤ IntKind.wrap IntKind.i64 (0 + 1) ∧ IntKind.wrap IntKind.i64 (0 + 1) < (↑7 : Int) ∧ 0 ≤ IntKind.wrap IntKind.i64 (IntKind.wrap IntKind.i64 (0 + 1) + 1) ∧ IntKind.wrap IntKind.i64 (IntKind.wrap IntKind.i64 (0 + 1) + 1) < (↑7 : Int) ∧ FSpec PP 38 [D.v (V.str rest)] (St.mk [] []) (D.tup [dV v, di e]) (St.mk [] []) ∧ iz 0 ≤ 0 ∧ some (V.str [120]) = some (V.str [120]) ∧ 0 ≤ IntKind.wrap IntKind.i64 (0 + 1) ∧ some (V.str [121]) = some (V.str [121]) ∧ FSpec PP 13 [D.v (vMod (Mod.mk mk ms [[120], [121]] ml mr mv ma mru mst)), D.v (V.agg [vi (IntKind.wrap IntKind.i64 (IntKind.wrap IntKind.i64 (0 + 1) + 1)), vi 0, vi (Val.n v), vVs (Val.kids v)])] (St.mk [] []) (D.tup [D.v (V.str u), di 0]) (St.mk [] []) ∧ D.tup [D.v (V.agg [vi (IntKind.wrap IntKind.i64 (IntKind.wrap IntKind.i64 (0 + 1) + 1)), vi 0, vi (Val.n v), V.list (List.map eV (Val.kids v))]), db (u == s)] = D.tup [dQ (Qst.mk 2 0 v), db (true && u == s)]) = _) ?_
    simp only [w01, w12]
    repeat' first | with_reducible refine And.intro ?_ ?_
    all_goals first | exact hc | exact ht | exact hp | rfl | decide
  | false =>
    refine spec_vc mixed fRdq cRdq (by kernel_rfl) (by kernel_rfl) (by kernel_rfl) (by kernel_rfl) 79 (by kernel_rfl) [2] (.c (.tup [ds wReach, ds rest, db f]) <| .n <| .n <| .n <| .c (.tup [dV v, di e]) <| .n <| .x (.str [120]) <| .n <| .x (.str [121]) <| .n <| .c (.tup [ds [], di 48]) <| .r) ?_
    refine via (by kernel_rfl : (FSpec PP 37 [D.v (V.str s), D.v (V.str (ByteArray.mk #[32]).data.toList)] (St.mk [] []) (D.tup [D.v (V.str wReach), D.v (V.str rest), db f]) (St.mk [] []) ∧ iz 0 ≤ 0 ∧ 0 < (↑7 : Int) ∧ 0 ≤ IntKind.wrap IntKind.i64 (0 + 1) ∧ IntKind.wrap IntKind.i64 (0 + 1) < (↑7 : Int) ∧ 0 ≤ IntKind.wrap IntKind.i64 (IntKind.wrap IntKind.i64 (0 + 1) + 1) ∧ IntKind.wrap IntKind.i64 (IntKind.wrap IntKind.i64 (0 + 1) + 1) < (↑7 : Int) ∧ FSpec PP 38 [D.v (V.str rest)] (St.mk [] []) (D.tup [dV v, di e]) (St.mk [] []) ∧ iz 0 ≤ 0 ∧ some (V.str [120]) = some (V.str [120]) ∧ 0 ≤ IntKind.wrap IntKind.i64 (0 + 1) ∧ some (V.str [121]) = some (V.str [121]) ∧ FSpec PP 13 [D.v (vMod (Mod.mk mk ms [[120], [121]] ml mr mv ma mru mst)), D.v (V.agg [vi (IntKind.wrap IntKind.i64 (IntKind.wrap IntKind.i64 (0 + 1) + 1)), vi 0, vi (Val.n v), vVs (Val.kids v)])] (St.mk [] []) (D.tup [D.v (V.str []), di 48]) (St.mk [] []) ∧ D.tup [D.v (V.agg [vi (IntKind.wrap IntKind.i64 (IntKind.wrap IntKind.i64 (0 + 1) + 1)), vi 0, vi (Val.n v), V.list (List.map eV (Val.kids v))]), db false] = D.tup [dQ (Qst.mk 2 0 v), db (false && u == s)]) = _) ?_
    simp only [w01, w12]
    repeat' first | with_reducible refine And.intro ?_ ?_
    all_goals first | exact hc | exact ht | exact hp | rfl | decide
theorem rdq3_1 (m : Mod) (t : Typ) (hm : ModI m t) (hP : m.places = [[120]]) (s rest : List UInt8) (f : Bool) (hc : FSpec PP 37 [ds s, ds [32]] σ0 (.tup [ds wBounded, ds rest, db f]) σ0) :
    FSpec PP 27 [dMod m, ds s] σ0 (.tup [dQ ⟨3, 0, zeroV⟩, db (rdA m t ⟨3, 0, zeroV⟩ s)]) σ0 := by
  have ht := txA_spec m t hm (.inl hP) ⟨3, 0, zeroV⟩ rdV0
  unfold txA at ht
  unfold rdA
  generalize txI m ⟨3, 0, zeroV⟩ = u at ht ⊢
  generalize validQ m t ⟨3, 0, zeroV⟩ = b at ht ⊢
  clear hm
  obtain ⟨mk, ms, mp, ml, mr, mv, ma, mru, mst⟩ := m
  simp only at hP
  subst hP
  cases b with
  | true =>
    refine spec_vc mixed fRdq cRdq (by kernel_rfl) (by kernel_rfl) (by kernel_rfl) (by kernel_rfl) 79 (by kernel_rfl) [2] (.c (.tup [ds wBounded, ds rest, db f]) <| .n <| .n <| .n <| .n <| .n <| .x (.str [120]) <| .n <| .c (.tup [ds u, di 0]) <| .r) ?_
    refine via (by kernel_rfl : (FSpec PP 37 [D.v (V.str s), D.v (V.str (ByteArray.mk #[32]).data.toList)] (St.mk [] []) (D.tup [D.v (V.str wBounded), D.v (V.str rest), db f]) (St.mk [] []) ∧ iz 0 ≤ 0 ∧ 0 < (↑7 : Int) ∧ 0 ≤ IntKind.wrap IntKind.i64 (0 + 1) ∧ IntKind.wrap IntKind.i64 (0 + 1) < (↑7 : Int) ∧ 0 ≤ IntKind.wrap IntKind.i64 (IntKind.wrap IntKind.i64 (0 + 1) + 1) ∧ IntKind.wrap IntKind.i64 (IntKind.wrap IntKind.i64 (0 + 1) + 1) < (↑7 : Int) ∧ 0 ≤ IntKind.wrap IntKind.i64 (IntKind.wrap IntKind.i64 (IntKind.wrap IntKind.i64 (0 + 1) + 1) + 1) ∧ IntKind.wrap IntKind.i64 (IntKind.wrap IntKind.i64 (IntKind.wrap IntKind.i64 (0 + 1) + 1) + 1) < (↑7 : Int) ∧ iz 0 ≤ 0 ∧ some (V.str [120]) = some (V.str [120]) ∧ FSpec PP 13 [D.v (vMod (Mod.mk mk ms [[120]] ml mr mv ma mru mst)), D.v (V.agg [vi (IntKind.wrap IntKind.i64 (IntKind.wrap IntKind.i64 (IntKind.wrap IntKind.i64 (0 + 1) + 1) + 1)), vi 0, vi 0, V.list []])] (St.mk [] []) (D.tup [D.v (V.str u), di 0]) (St.mk [] []) ∧ D.tup [D.v (V.agg [vi (IntKind.wrap IntKind.i64 (IntKind.wrap IntKind.i64 (IntKind.wrap IntKind.i64 (0 + 1) + 1) + 1)), vi 0, vi 0, V.list []]), db (u == s)] = D.tup [dQ (Qst.mk 3 0 zeroV), db (true && u == s)]) = _) ?_
    simp only [w01, w12, w23]
    repeat' first | with_reducible refine And.intro ?_ ?_
    all_goals first | exact hc | exact ht | rfl | decide
  | false =>
    refine spec_vc mixed fRdq cRdq (by kernel_rfl) (by kernel_rfl) (by kernel_rfl) (by kernel_rfl) 79 (by kernel_rfl) [2] (.c (.tup [ds wBounded, ds rest, db f]) <| .n <| .n <| .n <| .n <| .n <| .x (.str [120]) <| .n <| .c (.tup [ds [], di 48]) <| .r) ?_
    refine via (by kernel_rfl : (FSpec PP 37 [D.v (V.str s), D.v (V.str (ByteArray.mk #[32]).data.toList)] (St.mk [] []) (D.tup [D.v (V.str wBounded), D.v (V.str rest), db f]) (St.mk [] []) ∧ iz 0 ≤ 0 ∧ 0 < (↑7 : Int) ∧ 0 ≤ IntKind.wrap IntKind.i64 (0 + 1) ∧ IntKind.wrap IntKind.i64 (0 + 1) < (↑7 : Int) ∧ 0 ≤ IntKind.wrap IntKind.i64 (IntKind.wrap IntKind.i64 (0 + 1) + 1) ∧ IntKind.wrap IntKind.i64 (IntKind.wrap IntKind.i64 (0 + 1) + 1) < (↑7 : Int) ∧ 0 ≤ IntKind.wrap IntKind.i64 (IntKind.wrap IntKind.i64 (IntKind.wrap IntKind.i64 (0 + 1) + 1) + 1) ∧ IntKind.wrap IntKind.i64 (IntKind.wrap IntKind.i64 (IntKind.wrap IntKind.i64 (0 + 1) + 1) + 1) < (↑7 : Int) ∧ iz 0 ≤ 0 ∧ some (V.str [120]) = some (V.str [120]) ∧ FSpec PP 13 [D.v (vMod (Mod.mk mk ms [[120]] ml mr mv ma mru mst)), D.v (V.agg [vi (IntKind.wrap IntKind.i64 (IntKind.wrap IntKind.i64 (IntKind.wrap IntKind.i64 (0 + 1) + 1) + 1)), vi 0, vi 0, V.list []])] (St.mk [] []) (D.tup [D.v (V.str []), di 48]) (St.mk [] []) ∧ D.tup [D.v (V.agg [vi (IntKind.wrap IntKind.i64 (IntKind.wrap IntKind.i64 (IntKind.wrap IntKind.i64 (0 + 1) + 1) + 1)), vi 0, vi 0, V.list []]), db false] = D.tup [dQ (Qst.mk 3 0 zeroV), db (false && u == s)]) = _) ?_
    simp only [w01, w12, w23]
    repeat' first | with_reducible refine And.intro ?_ ?_
    all_goals first | exact hc | exact ht | rfl | decide
theorem rdq3_2 (m : Mod) (t : Typ) (hm : ModI m t) (hP : m.places = [[120], [121]]) (s rest : List UInt8) (f : Bool) (hc : FSpec PP 37 [ds s, ds [32]] σ0 (.tup [ds wBounded, ds rest, db f]) σ0) :
    FSpec PP 27 [dMod m, ds s] σ0 (.tup [dQ ⟨3, 0, zeroV⟩, db (rdA m t ⟨3, 0, zeroV⟩ s)]) σ0 := by
  have ht := txA_spec m t hm (.inr hP) ⟨3, 0, zeroV⟩ rdV0
  unfold txA at ht
  unfold rdA
  generalize txI m ⟨3, 0, zeroV⟩ = u at ht ⊢
  generalize validQ m t ⟨3, 0, zeroV⟩ = b at ht ⊢
  clear hm
  obtain ⟨mk, ms, mp, ml, mr, mv, ma, mru, mst⟩ := m
  simp only at hP
  subst hP
  cases b with
  | true =>
    refine spec_vc mixed fRdq cRdq (by kernel_rfl) (by kernel_rfl) (by kernel_rfl) (by kernel_rfl) 79 (by kernel_rfl) [2] (.c (.tup [ds wBounded, ds rest, db f]) <| .n <| .n <| .n <| .n <| .n <| .x (.str [120]) <| .n <| .x (.str [121]) <| .n <| .c (.tup [ds u, di 0]) <| .r) ?_
    refine via (by kernel_rfl : (FSpec PP 37 [D.v (V.str s), D.v (V.str (ByteArray.mk #[32]).data.toList)] (St.mk [] []) (D.tup [D.v (V.str wBounded), D.v (V.str rest), db f]) (St.mk [] []) ∧ iz 0 ≤ 0 ∧ 0 < (↑7 : Int) ∧ 0 ≤ IntKind.wrap IntKind.i64 (0 + 1) ∧ IntKind.wrap IntKind.i64 (0 + 1) < (↑7 : Int) ∧ 0 ≤ IntKind.wrap IntKind.i64 (IntKind.wrap IntKind.i64 (0 + 1) + 1) ∧ IntKind.wrap IntKind.i64 (IntKind.wrap IntKind.i64 (0 + 1) + 1) < (↑7 : Int) ∧ 0 ≤ IntKind.wrap IntKind.i64 (IntKind.wrap IntKind.i64 (IntKind.wrap IntKind.i64 (0 + 1) + 1) + 1) ∧ IntKind.wrap IntKind.i64 (IntKind.wrap IntKind.i64 (IntKind.wrap IntKind.i64 (0 + 1) + 1) + 1) < (↑7 : Int) ∧ iz 0 ≤ 0 ∧ some (V.str [120]) = some (V.str [120]) ∧ 0 ≤ IntKind.wrap IntKind.i64 (0 + 1) ∧ some (V.str [121]) = some (V.str [121]) ∧ FSpec PP 13 [D.v (vMod (Mod.mk mk ms [[120], [121]] ml mr mv ma mru mst)), D.v (V.agg [vi (IntKind.wrap IntKind.i64 (IntKind.wrap IntKind.i64 (IntKind.wrap IntKind.i64 (0 + 1) + 1) + 1)), vi 0, vi 0, V.list []])] (St.mk [] []) (D.tup [D.v (V.str u), di 0]) (St.mk [] []) ∧ D.tup [D.v (V.agg [vi (IntKind.wrap IntKind.i64 (IntKind.wrap IntKind.i64 (IntKind.wrap IntKind.i64 (0 + 1) + 1) + 1)), vi 0, vi 0, V.list []]), db (u == s)] = D.tup [dQ (Qst.mk 3 0 zeroV), db (true && u == s)]) = _) ?_
    simp only [w01, w12, w23]
    repeat' first | with_reducible refine And.intro ?_ ?_
    all_goals first | exact hc | exact ht | rfl | decide
  | false =>
    refine spec_vc mixed fRdq cRdq (by kernel_rfl) (by kernel_rfl) (by kernel_rfl) (by kernel_rfl) 79 (by kernel_rfl) [2] (.c (.tup [ds wBounded, ds rest, db f]) <| .n <| .n <| .n <| .n <| .n <| .x (.str [120]) <| .n <| .x (.str [121]) <| .n <| .c (.tup [ds [], di 48]) <| .r) ?_
    refine via (by kernel_rfl : (FSpec PP 37 [D.v (V.str s), D.v (V.str (ByteArray.mk #[32]).data.toList)] (St.mk [] []) (D.tup [D.v (V.str wBounded), D.v (V.str rest), db f]) (St.mk [] []) ∧ iz 0 ≤ 0 ∧ 0 < (↑7 : Int) ∧ 0 ≤ IntKind.wrap IntKind.i64 (0 + 1) ∧ IntKind.wrap IntKind.i64 (0 + 1) < (↑7 : Int) ∧ 0 ≤ IntKind.wrap IntKind.i64 (IntKind.wrap IntKind.i64 (0 + 1) + 1) ∧ IntKind.wrap IntKind.i64 (IntKind.wrap IntKind.i64 (0 + 1) + 1) < (↑7 : Int) ∧ 0 ≤ IntKind.wrap IntKind.i64 (IntKind.wrap IntKind.i64 (IntKind.wrap IntKind.i64 (0 + 1) + 1) + 1) ∧ IntKind.wrap IntKind.i64 (IntKind.wrap IntKind.i64 (IntKind.wrap IntKind.i64 (0 + 1) + 1) + 1) < (↑7 : Int) ∧ iz 0 ≤ 0 ∧ some (V.str [120]) = some (V.str [120]) ∧ 0 ≤ IntKind.wrap IntKind.i64 (0 + 1) ∧ some (V.str [121]) = some (V.str [121]) ∧ FSpec PP 13 [D.v (vMod (Mod.mk mk ms [[120], [121]] ml mr mv ma mru mst)), D.v (V.agg [vi (IntKind.wrap IntKind.i64 (IntKind.wrap IntKind.i64 (IntKind.wrap IntKind.i64 (0 + 1) + 1) + 1)), vi 0, vi 0, V.list []])] (St.mk [] []) (D.tup [D.v (V.str []), di 48]) (St.mk [] []) ∧ D.tup [D.v (V.agg [vi (IntKind.wrap IntKind.i64 (IntKind.wrap IntKind.i64 (IntKind.wrap IntKind.i64 (0 + 1) + 1) + 1)), vi 0, vi 0, V.list []]), db false] = D.tup [dQ (Qst.mk 3 0 zeroV), db (false && u == s)]) = _) ?_
    simp only [w01, w12, w23]
    repeat' first | with_reducible refine And.intro ?_ ?_
    all_goals first | exact hc | exact ht | rfl | decide
theorem rdq5_1 (m : Mod) (t : Typ) (hm : ModI m t) (hP : m.places = [[120]]) (s rest : List UInt8) (f : Bool) (hc : FSpec PP 37 [ds s, ds [32]] σ0 (.tup [ds wDead, ds rest, db f]) σ0) :
    FSpec PP 27 [dMod m, ds s] σ0 (.tup [dQ ⟨5, 0, zeroV⟩, db (rdA m t ⟨5, 0, zeroV⟩ s)]) σ0 := by
  have ht := txA_spec m t hm (.inl hP) ⟨5, 0, zeroV⟩ rdV0
  unfold txA at ht
  unfold rdA
  generalize txI m ⟨5, 0, zeroV⟩ = u at ht ⊢
  generalize validQ m t ⟨5, 0, zeroV⟩ = b at ht ⊢
  clear hm
  obtain ⟨mk, ms, mp, ml, mr, mv, ma, mru, mst⟩ := m
  simp only at hP
  subst hP
  cases b with
  | true =>
    refine spec_vc mixed fRdq cRdq (by kernel_rfl) (by kernel_rfl) (by kernel_rfl) (by kernel_rfl) 79 (by kernel_rfl) [2] (.c (.tup [ds wDead, ds rest, db f]) <| .n <| .n <| .n <| .n <| .n <| .n <| .n <| .x (.str [120]) <| .n <| .c (.tup [ds u, di 0]) <| .r) ?_
    refine via (by kernel_rfl : (FSpec PP 37 [D.v (V.str s), D.v (V.str (ByteArray.mk #[32]).data.toList)] (St.mk [] []) (D.tup [D.v (V.str wDead), D.v (V.str rest), db f]) (St.mk [] []) ∧ iz 0 ≤ 0 ∧ 0 < (↑7 : Int) ∧ 0 ≤ IntKind.wrap IntKind.i64 (0 + 1) ∧ IntKind.wrap IntKind.i64 (0 + 1) < (↑7 : Int) ∧ 0 ≤ IntKind.wrap IntKind.i64 (IntKind.wrap IntKind.i64 (0 + 1) + 1) ∧ IntKind.wrap IntKind.i64 (IntKind.wrap IntKind.i64 (0 + 1) + 1) < (↑7 : Int) ∧ 0 ≤ IntKind.wrap IntKind.i64 (IntKind.wrap IntKind.i64 (IntKind.wrap IntKind.i64 (0 + 1) + 1) + 1) ∧ IntKind.wrap IntKind.i64 (IntKind.wrap IntKind.i64 (IntKind.wrap IntKind.i64 (0 + 1) + 1) + 1) < (↑7 : Int) ∧ 0 ≤ IntKind.wrap IntKind.i64 (IntKind.wrap IntKind.i64 (IntKind.wrap IntKind.i64 (IntKind.wrap IntKind.i64 (0 + 1) + 1) + 1) + 1) ∧ IntKind.wrap IntKind.i64 (IntKind.wrap IntKind.i64 (IntKind.wrap IntKind.i64 (IntKind.wrap IntKind.i64 (0 + 1) + 1) + 1) + 1) < (↑7 : Int) ∧ 0 ≤ IntKind.wrap IntKind.i64 (IntKind.wrap IntKind.i64 (IntKind.wrap IntKind.i64 (IntKind.wrap IntKind.i64 (IntKind.wrap IntKind.i64 (0 + 1) + 1) + 1) + 1) + 1) ∧ IntKind.wrap IntKind.i64 (IntKind.wrap IntKind.i64 (IntKind.wrap IntKind.i64 (IntKind.wrap IntKind.i64 (IntKind.wrap IntKind.i64 (0 + 1) + 1) + 1) + 1) + 1) < (↑7 : Int) ∧ iz 0 ≤ 0 ∧ some (V.str [120]) = some (V.str [120]) ∧ FSpec PP 13 [D.v (vMod (Mod.mk mk ms [[120]] ml mr mv ma mru mst)), D.v (V.agg [vi (IntKind.wrap IntKind.i64 (IntKind.wrap IntKind.i64 (IntKind.wrap IntKind.i64 (IntKind.wrap IntKind.i64 (IntKind.wrap IntKind.i64 (0 + 1) + 1) + 1) + 1) + 1)), vi 0, vi 0, V.list []])] (St.mk [] []) (D.tup [D.v (V.str u), di 0]) (St.mk [] []) ∧ D.tup [D.v (V.agg [vi (IntKind.wrap IntKind.i64 (IntKind.wrap IntKind.i64 (IntKind.wrap IntKind.i64 (IntKind.wrap IntKind.i64 (IntKind.wrap IntKind.i64 (0 + 1) + 1) + 1) + 1) + 1)), vi 0, vi 0, V.list []]), db (u == s)] = D.tup [dQ (Qst.mk 5 0 zeroV), db (true && u == s)]) = _) ?_
    simp only [w01, w12, w23, w34, w45]
    repeat' first | with_reducible refine And.intro ?_ ?_
    all_goals first | exact hc | exact ht | rfl | decide
  | false =>
    refine spec_vc mixed fRdq cRdq (by kernel_rfl) (by kernel_rfl) (by kernel_rfl) (by kernel_rfl) 79 (by kernel_rfl) [2] (.c (.tup [ds wDead, ds rest, db f]) <| .n <| .n <| .n <| .n <| .n <| .n <| .n <| .x (.str [120]) <| .n <| .c (.tup [ds [], di 48]) <| .r) ?_
    refine via (by kernel_rfl : (FSpec PP 37 [D.v (V.str s), D.v (V.str (ByteArray.mk #[32]).data.toList)] (St.mk [] []) (D.tup [D.v (V.str wDead), D.v (V.str rest), db f]) (St.mk [] []) ∧ iz 0 ≤ 0 ∧ 0 < (↑7 : Int) ∧ 0 ≤ IntKind.wrap IntKind.i64 (0 + 1) ∧ IntKind.wrap IntKind.i64 (0 + 1) < (↑7 : Int) ∧ 0 ≤ IntKind.wrap IntKind.i64 (IntKind.wrap IntKind.i64 (0 + 1) + 1) ∧ IntKind.wrap IntKind.i64 (IntKind.wrap IntKind.i64 (0 + 1) + 1) < (↑7 : Int) ∧ 0 ≤ IntKind.wrap IntKind.i64 (IntKind.wrap IntKind.i64 (IntKind.wrap IntKind.i64 (0 + 1) + 1) + 1) ∧ IntKind.wrap IntKind.i64 (IntKind.wrap IntKind.i64 (IntKind.wrap IntKind.i64 (0 + 1) + 1) + 1) < (↑7 : Int) ∧ 0 ≤ IntKind.wrap IntKind.i64 (IntKind.wrap IntKind.i64 (IntKind.wrap IntKind.i64 (IntKind.wrap IntKind.i64 (0 + 1) + 1) + 1) + 1) ∧ IntKind.wrap IntKind.i64 (IntKind.wrap IntKind.i64 (IntKind.wrap IntKind.i64 (IntKind.wrap IntKind.i64 (0 + 1) + 1) + 1) + 1) < (↑7 : Int) ∧ 0 ≤ IntKind.wrap IntKind.i64 (IntKind.wrap IntKind.i64 (IntKind.wrap IntKind.i64 (IntKind.wrap IntKind.i64 (IntKind.wrap IntKind.i64 (0 + 1) + 1) + 1) + 1) + 1) ∧ IntKind.wrap IntKind.i64 (IntKind.wrap IntKind.i64 (IntKind.wrap IntKind.i64 (IntKind.wrap IntKind.i64 (IntKind.wrap IntKind.i64 (0 + 1) + 1) + 1) + 1) + 1) < (↑7 : Int) ∧ iz 0 ≤ 0 ∧ some (V.str [120]) = some (V.str [120]) ∧ FSpec PP 13 [D.v (vMod (Mod.mk mk ms [[120]] ml mr mv ma mru mst)), D.v (V.agg [vi (IntKind.wrap IntKind.i64 (IntKind.wrap IntKind.i64 (IntKind.wrap IntKind.i64 (IntKind.wrap IntKind.i64 (IntKind.wrap IntKind.i64 (0 + 1) + 1) + 1) + 1) + 1)), vi 0, vi 0, V.list []])] (St.mk [] []) (D.tup [D.v (V.str []), di 48]) (St.mk [] []) ∧ D.tup [D.v (V.agg [vi (IntKind.wrap IntKind.i64 (IntKind.wrap IntKind.i64 (IntKind.wrap IntKind.i64 (IntKind.wrap IntKind.i64 (IntKind.wrap IntKind.i64 (0 + 1) + 1) + 1) + 1) + 1)), vi 0, vi 0, V.list []]), db false] = D.tup [dQ (Qst.mk 5 0 zeroV), db (false && u == s)]) = _) ?_
    simp only [w01, w12, w23, w34, w45]
    repeat' first | with_reducible refine And.intro ?_ ?_
    all_goals first | exact hc | exact ht | rfl | decide
theorem rdq5_2 (m : Mod) (t : Typ) (hm : ModI m t) (hP : m.places = [[120], [121]]) (s rest : List UInt8) (f : Bool) (hc : FSpec PP 37 [ds s, ds [32]] σ0 (.tup [ds wDead, ds rest, db f]) σ0) :
    FSpec PP 27 [dMod m, ds s] σ0 (.tup [dQ ⟨5, 0, zeroV⟩, db (rdA m t ⟨5, 0, zeroV⟩ s)]) σ0 := by
  have ht := txA_spec m t hm (.inr hP) ⟨5, 0, zeroV⟩ rdV0
  unfold txA at ht
  unfold rdA
  generalize txI m ⟨5, 0, zeroV⟩ = u at ht ⊢
  generalize validQ m t ⟨5, 0, zeroV⟩ = b at ht ⊢
  clear hm
  obtain ⟨mk, ms, mp, ml, mr, mv, ma, mru, mst⟩ := m
  simp only at hP
  subst hP
  cases b with
  | true =>
    refine spec_vc mixed fRdq cRdq (by kernel_rfl) (by kernel_rfl) (by kernel_rfl) (by kernel_rfl) 79 (by kernel_rfl) [2] (.c (.tup [ds wDead, ds rest, db f]) <| .n <| .n <| .n <| .n <| .n <| .n <| .n <| .x (.str [120]) <| .n <| .x (.str [121]) <| .n <| .c (.tup [ds u, di 0]) <| .r) ?_
    refine via (by kernel_rfl : (FSpec PP 37 [D.v (V.str s), D.v (V.str (ByteArray.mk #[32]).data.toList)] (St.mk [] []) (D.tup [D.v (V.str wDead), D.v (V.str rest), db f]) (St.mk [] []) ∧ iz 0 ≤ 0 ∧ 0 < (↑7 : Int) ∧ 0 ≤ IntKind.wrap IntKind.i64 (0 + 1) ∧ IntKind.wrap IntKind.i64 (0 + 1) < (↑7 : Int) ∧ 0 ≤ IntKind.wrap IntKind.i64 (IntKind.wrap IntKind.i64 (0 + 1) + 1) ∧ IntKind.wrap IntKind.i64 (IntKind.wrap IntKind.i64 (0 + 1) + 1) < (↑7 : Int) ∧ 0 ≤ IntKind.wrap IntKind.i64 (IntKind.wrap IntKind.i64 (IntKind.wrap IntKind.i64 (0 + 1) + 1) + 1) ∧ IntKind.wrap IntKind.i64 (IntKind.wrap IntKind.i64 (IntKind.wrap IntKind.i64 (0 + 1) + 1) + 1) < (↑7 : Int) ∧ 0 ≤ IntKind.wrap IntKind.i64 (IntKind.wrap IntKind.i64 (IntKind.wrap IntKind.i64 (IntKind.wrap IntKind.i64 (0 + 1) + 1) + 1) + 1) ∧ IntKind.wrap IntKind.i64 (IntKind.wrap IntKind.i64 (IntKind.wrap IntKind.i64 (IntKind.wrap IntKind.i64 (0 + 1) + 1) + 1) + 1) < (↑7 : Int) ∧ 0 ≤ IntKind.wrap IntKind.i64 (IntKind.wrap IntKind.i64 (IntKind.wrap IntKind.i64 (IntKind.wrap IntKind.i64 (IntKind.wrap IntKind.i64 (0 + 1) + 1) + 1) + 1) + 1) ∧ IntKind.wrap IntKind.i64 (IntKind.wrap IntKind.i64 (IntKind.wrap IntKind.i64 (IntKind.wrap IntKind.i64 (IntKind.wrap IntKind.i64 (0 + 1) + 1) + 1) + 1) + 1) < (↑7 : Int) ∧ iz 0 ≤ 0 ∧ some (V.str [120]) = some (V.str [120]) ∧ 0 ≤ IntKind.wrap IntKind.i64 (0 + 1) ∧ some (V.str [121]) = some (V.str [121]) ∧ FSpec PP 13 [D.v (vMod (Mod.mk mk ms [[120], [121]] ml mr mv ma mru mst)), D.v (V.agg [vi (IntKind.wrap IntKind.i64 (IntKind.wrap IntKind.i64 (IntKind.wrap IntKind.i64 (IntKind.wrap IntKind.i64 (IntKind.wrap IntKind.i64 (0 + 1) + 1) + 1) + 1) + 1)), vi 0, vi 0, V.list []])] (St.mk [] []) (D.tup [D.v (V.str u), di 0]) (St.mk [] []) ∧ D.tup [D.v (V.agg [vi (IntKind.wrap IntKind.i64 (IntKind.wrap IntKind.i64 (IntKind.wrap IntKind.i64 (IntKind.wrap IntKind.i64 (IntKind.wrap IntKind.i64 (0 + 1) + 1) + 1) + 1) + 1)), vi 0, vi 0, V.list []]), db (u == s)] = D.tup [dQ (Qst.mk 5 0 zeroV), db (true && u == s)]) = _) ?_
    simp only [w01, w12, w23, w34, w45]
    repeat' first | with_reducible refine And.intro ?_ ?_
    all_goals first | exact hc | exact ht | rfl | decide
  | false =>
    refine spec_vc mixed fRdq cRdq (by kernel_rfl) (by kernel_rfl) (by kernel_rfl) (by kernel_rfl) 79 (by kernel_rfl) [2] (.c (.tup [ds wDead, ds rest, db f]) <| .n <| .n <| .n <| .n <| .n <| .n <| .n <| .x (.str [120]) <| .n <| .x (.str [121]) <| .n <| .c (.tup [ds [], di 48]) <| .r) ?_
    refine via (by kernel_rfl : (FSpec PP 37 [D.v (V.str s), D.v (V.str (ByteArray.mk #[32]).data.toList)] (St.mk [] []) (D.tup [D.v (V.str wDead), D.v (V.str rest), db f]) (St.mk [] []) ∧ iz 0 ≤ 0 ∧ 0 < (↑7 : Int) ∧ 0 ≤ IntKind.wrap IntKind.i64 (0 + 1) ∧ IntKind.wrap IntKind.i64 (0 + 1) < (↑7 : Int) ∧ 0 ≤ IntKind.wrap IntKind.i64 (IntKind.wrap IntKind.i64 (0 + 1) + 1) ∧ IntKind.wrap IntKind.i64 (IntKind.wrap IntKind.i64 (0 + 1) + 1) < (↑7 : Int) ∧ 0 ≤ IntKind.wrap IntKind.i64 (IntKind.wrap IntKind.i64 (IntKind.wrap IntKind.i64 (0 + 1) + 1) + 1) ∧ IntKind.wrap IntKind.i64 (IntKind.wrap IntKind.i64 (IntKind.wrap IntKind.i64 (0 + 1) + 1) + 1) < (↑7 : Int) ∧ 0 ≤ IntKind.wrap IntKind.i64 (IntKind.wrap IntKind.i64 (IntKind.wrap IntKind.i64 (IntKind.wrap IntKind.i64 (0 + 1) + 1) + 1) + 1) ∧ IntKind.wrap IntKind.i64 (IntKind.wrap IntKind.i64 (IntKind.wrap IntKind.i64 (IntKind.wrap IntKind.i64 (0 + 1) + 1) + 1) + 1) < (↑7 : Int) ∧ 0 ≤ IntKind.wrap IntKind.i64 (IntKind.wrap IntKind.i64 (IntKind.wrap IntKind.i64 (IntKind.wrap IntKind.i64 (IntKind.wrap IntKind.i64 (0 + 1) + 1) + 1) + 1) + 1) ∧ IntKind.wrap IntKind.i64 (IntKind.wrap IntKind.i64 (IntKind.wrap IntKind.i64 (IntKind.wrap IntKind.i64 (IntKind.wrap IntKind.i64 (0 + 1) + 1) + 1) + 1) + 1) < (↑7 : Int) ∧ iz 0 ≤ 0 ∧ some (V.str [120]) = some (V.str [120]) ∧ 0 ≤ IntKind.wrap IntKind.i64 (0 + 1) ∧ some (V.str [121]) = some (V.str [121]) ∧ FSpec PP 13 [D.v (vMod (Mod.mk mk ms [[120], [121]] ml mr mv ma mru mst)), D.v (V.agg [vi (IntKind.wrap IntKind.i64 (IntKind.wrap IntKind.i64 (IntKind.wrap IntKind.i64 (IntKind.wrap IntKind.i64 (IntKind.wrap IntKind.i64 (0 + 1) + 1) + 1) + 1) + 1)), vi 0, vi 0, V.list []])] (St.mk [] []) (D.tup [D.v (V.str []), di 48]) (St.mk [] []) ∧ D.tup [D.v (V.agg [vi (IntKind.wrap IntKind.i64 (IntKind.wrap IntKind.i64 (IntKind.wrap IntKind.i64 (IntKind.wrap IntKind.i64 (IntKind.wrap IntKind.i64 (0 + 1) + 1) + 1) + 1) + 1)), vi 0, vi 0, V.list []]), db false] = D.tup [dQ (Qst.mk 5 0 zeroV), db (false && u == s)]) = _) ?_
    simp only [w01, w12, w23, w34, w45]
    repeat' first | with_reducible refine And.intro ?_ ?_
    all_goals first | exact hc | exact ht | rfl | decide
theorem rdq6_1 (m : Mod) (t : Typ) (hm : ModI m t) (hP : m.places = [[120]]) (s rest : List UInt8) (f : Bool) (hc : FSpec PP 37 [ds s, ds [32]] σ0 (.tup [ds wHome, ds rest, db f]) σ0) :
    FSpec PP 27 [dMod m, ds s] σ0 (.tup [dQ ⟨6, 0, zeroV⟩, db (rdA m t ⟨6, 0, zeroV⟩ s)]) σ0 := by
  have ht := txA_spec m t hm (.inl hP) ⟨6, 0, zeroV⟩ rdV0
  unfold txA at ht
  unfold rdA
  generalize txI m ⟨6, 0, zeroV⟩ = u at ht ⊢
  generalize validQ m t ⟨6, 0, zeroV⟩ = b at ht ⊢
  clear hm
  obtain ⟨mk, ms, mp, ml, mr, mv, ma, mru, mst⟩ := m
  simp only at hP
  subst hP
  cases b with
  | true =>
    refine spec_vc mixed fRdq cRdq (by kernel_rfl) (by kernel_rfl) (by kernel_rfl) (by kernel_rfl) 79 (by kernel_rfl) [2] (.c (.tup [ds wHome, ds rest, db f]) <| .n <| .n <| .n <| .n <| .n <| .n <| .n <| .n <| .x (.str [120]) <| .n <| .c (.tup [ds u, di 0]) <| .r) ?_
    refine via (by kernel_rfl : (FSpec PP 37 [D.v (V.str s), D.v (V.str (ByteArray.mk #[32]).data.toList)] (St.mk [] []) (D.tup [D.v (V.str wHome), D.v (V.str rest), db f]) (St.mk [] []) ∧ iz 0 ≤ 0 ∧ 0 < (↑7 : Int) ∧ 0 ≤ IntKind.wrap IntKind.i64 (0 + 1) ∧ IntKind.wrap IntKind.i64 (0 + 1) < (↑7 : Int) ∧ 0 ≤ IntKind.wrap IntKind.i64 (IntKind.wrap IntKind.i64 (0 + 1) + 1) ∧ IntKind.wrap IntKind.i64 (IntKind.wrap IntKind.i64 (0 + 1) + 1) < (↑7 : Int) ∧ 0 ≤ IntKind.wrap IntKind.i64 (IntKind.wrap IntKind.i64 (IntKind.wrap IntKind.i64 (0 + 1) + 1) + 1) ∧ IntKind.wrap IntKind.i64 (IntKind.wrap IntKind.i64 (IntKind.wrap IntKind.i64 (0 + 1) + 1) + 1) < (↑7 : Int) ∧ 0 ≤ IntKind.wrap IntKind.i64 (IntKind.wrap IntKind.i64 (IntKind.wrap IntKind.i64 (IntKind.wrap IntKind.i64 (0 + 1) + 1) + 1) + 1) ∧ IntKind.wrap IntKind.i64 (IntKind.wrap IntKind.i64 (IntKind.wrap IntKind.i64 (IntKind.wrap IntKind.i64 (0 + 1) + 1) + 1) + 1) < (↑7 : Int) ∧ 0 ≤ IntKind.wrap IntKind.i64 (IntKind.wrap IntKind.i64 (IntKind.wrap IntKind.i64 (IntKind.wrap IntKind.i64 (IntKind.wrap IntKind.i64 (0 + 1) + 1) + 1) + 1) + 1) ∧ IntKind.wrap IntKind.i64 (IntKind.wrap IntKind.i64 (IntKind.wrap IntKind.i64 (IntKind.wrap IntKind.i64 (IntKind.wrap IntKind.i64 (0 + 1) + 1) + 1) + 1) + 1) < (↑7 : Int) ∧ 0 ≤ IntKind.wrap IntKind.i64 (IntKind.wrap IntKind.i64 (IntKind.wrap IntKind.i64 (IntKind.wrap IntKind.i64 (IntKind.wrap IntKind.i64 (IntKind.wrap IntKind.i64 (0 + 1) + 1) + 1) + 1) + 1) + 1) ∧ IntKind.wrap IntKind.i64 (IntKind.wrap IntKind.i64 (IntKind.wrap IntKind.i64 (IntKind.wrap IntKind.i64 (IntKind.wrap IntKind.i64 (IntKind.wrap IntKind.i64 (0 + 1) + 1) + 1) + 1) + 1) + 1) < (↑7 : Int) ∧ iz 0 ≤ 0 ∧ some (V.str [120]) = some (V.str [120]) ∧ FSpec PP 13 [D.v (vMod (Mod.mk mk ms [[120]] ml mr mv ma mru mst)), D.v (V.agg [vi (IntKind.wrap IntKind.i64 (IntKind.wrap IntKind.i64 (IntKind.wrap IntKind.i64 (IntKind.wrap IntKind.i64 (IntKind.wrap IntKind.i64 (IntKind.wrap IntKind.i64 (0 + 1) + 1) + 1) + 1) + 1) + 1)), vi 0, vi 0, V.list []])] (St.mk [] []) (D.tup [D.v (V.str u), di 0]) (St.mk [] []) ∧ D.tup [D.v (V.agg [vi (IntKind.wrap IntKind.i64 (IntKind.wrap IntKind.i64 (IntKind.wrap IntKind.i64 (IntKind.wrap IntKind.i64 (IntKind.wrap IntKind.i64 (IntKind.wrap IntKind.i64 (0 + 1) + 1) + 1) + 1) + 1) + 1)), vi 0, vi 0, V.list []]), db (u == s)] = D.tup [dQ (Qst.mk 6 0 zeroV), db (true && u == s)]) = _) ?_
    simp only [w01, w12, w23, w34, w45, w56]
    repeat' first | with_reducible refine And.intro ?_ ?_
    all_goals first | exact hc | exact ht | rfl | decide
  | false =>
    refine spec_vc mixed fRdq cRdq (by kernel_rfl) (by kernel_rfl) (by kernel_rfl) (by kernel_rfl) 79 (by kernel_rfl) [2] (.c (.tup [ds wHome, ds rest, db f]) <| .n <| .n <| .n <| .n <| .n <| .n <| .n <| .n <| .x (.str [120]) <| .n <| .c (.tup [ds [], di 48]) <| .r) ?_
    refine via (by kernel_rfl : (FSpec PP 37 [D.v (V.str s), D.v (V.str (ByteArray.mk #[32]).data.toList)] (St.mk [] []) (D.tup [D.v (V.str wHome), D.v (V.str rest), db f]) (St.mk [] []) ∧ iz 0 ≤ 0 ∧ 0 < (↑7 : Int) ∧ 0 ≤ IntKind.wrap IntKind.i64 (0 + 1) ∧ IntKind.wrap IntKind.i64 (0 + 1) < (↑7 : Int) ∧ 0 ≤ IntKind.wrap IntKind.i64 (IntKind.wrap IntKind.i64 (0 + 1) + 1) ∧ IntKind.wrap IntKind.i64 (IntKind.wrap IntKind.i64 (0 + 1) + 1) < (↑7 : Int) ∧ 0 ≤ IntKind.wrap IntKind.i64 (IntKind.wrap IntKind.i64 (IntKind.wrap IntKind.i64 (0 + 1) + 1) + 1) ∧ IntKind.wrap IntKind.i64 (IntKind.wrap IntKind.i64 (IntKind.wrap IntKind.i64 (0 + 1) + 1) + 1) < (↑7 : Int) ∧ 0 ≤ IntKind.wrap IntKind.i64 (IntKind.wrap IntKind.i64 (IntKind.wrap IntKind.i64 (IntKind.wrap IntKind.i64 (0 + 1) + 1) + 1) + 1) ∧ IntKind.wrap IntKind.i64 (IntKind.wrap IntKind.i64 (IntKind.wrap IntKind.i64 (IntKind.wrap IntKind.i64 (0 + 1) + 1) + 1) + 1) < (↑7 : Int) ∧ 0 ≤ IntKind.wrap IntKind.i64 (IntKind.wrap IntKind.i64 (IntKind.wrap IntKind.i64 (IntKind.wrap IntKind.i64 (IntKind.wrap IntKind.i64 (0 + 1) + 1) + 1) + 1) + 1) ∧ IntKind.wrap IntKind.i64 (IntKind.wrap IntKind.i64 (IntKind.wrap IntKind.i64 (IntKind.wrap IntKind.i64 (IntKind.wrap IntKind.i64 (0 + 1) + 1) + 1) + 1) + 1) < (↑7 : Int) ∧ 0 ≤ IntKind.wrap IntKind.i64 (IntKind.wrap IntKind.i64 (IntKind.wrap IntKind.i64 (IntKind.wrap IntKind.i64 (IntKind.wrap IntKind.i64 (IntKind.wrap IntKind.i64 (0 + 1) + 1) + 1) + 1) + 1) + 1) ∧ IntKind.wrap IntKind.i64 (IntKind.wrap IntKind.i64 (IntKind.wrap IntKind.i64 (IntKind.wrap IntKind.i64 (IntKind.wrap IntKind.i64 (IntKind.wrap IntKind.i64 (0 + 1) + 1) + 1) + 1) + 1) + 1) < (↑7 : Int) ∧ iz 0 ≤ 0 ∧ some (V.str [120]) = some (V.str [120]) ∧ FSpec PP 13 [D.v (vMod (Mod.mk mk ms [[120]] ml mr mv ma mru mst)), D.v (V.agg [vi (IntKind.wrap IntKind.i64 (IntKind.wrap IntKind.i64 (IntKind.wrap IntKind.i64 (IntKind.wrap IntKind.i64 (IntKind.wrap IntKind.i64 (IntKind.wrap IntKind.i64 (0 + 1) + 1) + 1) + 1) + 1) + 1)), vi 0, vi 0, V.list []])] (St.mk [] []) (D.tup [D.v (V.str []), di 48]) (St.mk [] []) ∧ D.tup [D.v (V.agg [vi (IntKind.wrap IntKind.i64 (IntKind.wrap IntKind.i64 (IntKind.wrap IntKind.i64 (IntKind.wrap IntKind.i64 (IntKind.wrap IntKind.i64 (IntKind.wrap IntKind.i64 (0 + 1) + 1) + 1) + 1) + 1) + 1)), vi 0, vi 0, V.list []]), db false] = D.tup [dQ (Qst.mk 6 0 zeroV), db (false && u == s)]) = _) ?_
    simp only [w01, w12, w23, w34, w45, w56]
    repeat' first | with_reducible refine And.intro ?_ ?_
    all_goals first | exact hc | exact ht | rfl | decide
theorem rdq6_2 (m : Mod) (t : Typ) (hm : ModI m t) (hP : m.places = [[120], [121]]) (s rest : List UInt8) (f : Bool) (hc : FSpec PP 37 [ds s, ds [32]] σ0 (.tup [ds wHome, ds rest, db f]) σ0) :
    FSpec PP 27 [dMod m, ds s] σ0 (.tup [dQ ⟨6, 0, zeroV⟩, db (rdA m t ⟨6, 0, zeroV⟩ s)]) σ0 := by
  have ht := txA_spec m t hm (.inr hP) ⟨6, 0, zeroV⟩ rdV0
  unfold txA at ht
  unfold rdA
  generalize txI m ⟨6, 0, zeroV⟩ = u at ht ⊢
  generalize validQ m t ⟨6, 0, zeroV⟩ = b at ht ⊢
  clear hm
  obtain ⟨mk, ms, mp, ml, mr, mv, ma, mru, mst⟩ := m
  simp only at hP
  subst hP
  cases b with
  | true =>
    refine spec_vc mixed fRdq cRdq (by kernel_rfl) (by kernel_rfl) (by kernel_rfl) (by kernel_rfl) 79 (by kernel_rfl) [2] (.c (.tup [ds wHome, ds rest, db f]) <| .n <| .n <| .n <| .n <| .n <| .n <| .n <| .n <| .x (.str [120]) <| .n <| .x (.str [121]) <| .n <| .c (.tup [ds u, di 0]) <| .r) ?_
    refine via (by kernel_rfl : (FSpec PP 37 [D.v (V.str s), D.v (V.str (ByteArray.mk #[32]).data.toList)] (St.mk [] []) (D.tup [D.v (V.str wHome), D.v (V.str rest), db f]) (St.mk [] []) ∧ iz 0 ≤ 0 ∧ 0 < (↑7 : Int) ∧ 0 ≤ IntKind.wrap IntKind.i64 (0 + 1) ∧ IntKind.wrap IntKind.i64 (0 + 1) < (↑7 : Int) ∧ 0 ≤ IntKind.wrap IntKind.i64 (IntKind.wrap IntKind.i64 (0 + 1) + 1) ∧ IntKind.wrap IntKind.i64 (IntKind.wrap IntKind.i64 (0 + 1) + 1) < (↑7 : Int) ∧ 0 ≤ IntKind.wrap IntKind.i64 (IntKind.wrap IntKind.i64 (IntKind.wrap IntKind.i64 (0 + 1) + 1) + 1) ∧ IntKind.wrap IntKind.i64 (IntKind.wrap IntKind.i64 (IntKind.wrap IntKind.i64 (0 + 1) + 1) + 1) < (↑7 : Int) ∧ 0 ≤ IntKind.wrap IntKind.i64 (IntKind.wrap IntKind.i64 (IntKind.wrap IntKind.i64 (IntKind.wrap IntKind.i64 (0 + 1) + 1) + 1) + 1) ∧ IntKind.wrap IntKind.i64 (IntKind.wrap IntKind.i64 (IntKind.wrap IntKind.i64 (IntKind.wrap IntKind.i64 (0 + 1) + 1) + 1) + 1) < (↑7 : Int) ∧ 0 ≤ IntKind.wrap IntKind.i64 (IntKind.wrap IntKind.i64 (IntKind.wrap IntKind.i64 (IntKind.wrap IntKind.i64 (IntKind.wrap IntKind.i64 (0 + 1) + 1) + 1) + 1) + 1) ∧ IntKind.wrap IntKind.i64 (IntKind.wrap IntKind.i64 (IntKind.wrap IntKind.i64 (IntKind.wrap IntKind.i64 (IntKind.wrap IntKind.i64 (0 + 1) + 1) + 1) + 1) + 1) < (↑7 : Int) ∧ 0 ≤ IntKind.wrap IntKind.i64 (IntKind.wrap IntKind.i64 (IntKind.wrap IntKind.i64 (IntKind.wrap IntKind.i64 (IntKind.wrap IntKind.i64 (IntKind.wrap IntKind.i64 (0 + 1) + 1) + 1) + 1) + 1) + 1) ∧ IntKind.wrap IntKind.i64 (IntKind.wrap IntKind.i64 (IntKind.wrap IntKind.i64 (IntKind.wrap IntKind.i64 (IntKind.wrap IntKind.i64 (IntKind.wrap IntKind.i64 (0 + 1) + 1) + 1) + 1) + 1) + 1) < (↑7 : Int) ∧ iz 0 ≤ 0 ∧ some (V.str [120]) = some (V.str [120]) ∧ 0 ≤ IntKind.wrap IntKind.i64 (0 + 1) ∧ some (V.str [121]) = some (V.str [121]) ∧ FSpec PP 13 [D.v (vMod (Mod.mk mk ms [[120], [121]] ml mr mv ma mru mst)), D.v (V.agg [vi (IntKind.wrap IntKind.i64 (IntKind.wrap IntKind.i64 (IntKind.wrap IntKind.i64 (IntKind.wrap IntKind.i64 (IntKind.wrap IntKind.i64 (IntKind.wrap IntKind.i64 (0 + 1) + 1) + 1) + 1) + 1) + 1)), vi 0, vi 0, V.list []])] (St.mk [] []) (D.tup [D.v (V.str u), di 0]) (St.mk [] []) ∧ D.tup [D.v (V.agg [vi (IntKind.wrap IntKind.i64 (IntKind.wrap IntKind.i64 (IntKind.wrap IntKind.i64 (IntKind.wrap IntKind.i64 (IntKind.wrap IntKind.i64 (IntKind.wrap IntKind.i64 (0 + 1) + 1) + 1) + 1) + 1) + 1)), vi 0, vi 0, V.list []]), db (u == s)] = D.tup [dQ (Qst.mk 6 0 zeroV), db (true && u == s)]) = _) ?_
    simp only [w01, w12, w23, w34, w45, w56]
    repeat' first | with_reducible refine And.intro ?_ ?_
    all_goals first | exact hc | exact ht | rfl | decide
  | false =>
    refine spec_vc mixed fRdq cRdq (by kernel_rfl) (by kernel_rfl) (by kernel_rfl) (by kernel_rfl) 79 (by kernel_rfl) [2] (.c (.tup [ds wHome, ds rest, db f]) <| .n <| .n <| .n <| .n <| .n <| .n <| .n <| .n <| .x (.str [120]) <| .n <| .x (.str [121]) <| .n <| .c (.tup [ds [], di 48]) <| .r) ?_
    refine via (by kernel_rfl : (FSpec PP 37 [D.v (V.str s), D.v (V.str (ByteArray.mk #[32]).data.toList)] (St.mk [] []) (D.tup [D.v (V.str wHome), D.v (V.str rest), db f]) (St.mk [] []) ∧ iz 0 ≤ 0 ∧ 0 < (↑7 : Int) ∧ 0 ≤ IntKind.wrap IntKind.i64 (0 + 1) ∧ IntKind.wrap IntKind.i64 (0 + 1) < (↑7 : Int) ∧ 0 ≤ IntKind.wrap IntKind.i64 (IntKind.wrap IntKind.i64 (0 + 1) + 1) ∧ IntKind.wrap IntKind.i64 (IntKind.wrap IntKind.i64 (0 + 1) + 1) < (↑7 : Int) ∧ 0 ≤ IntKind.wrap IntKind.i64 (IntKind.wrap IntKind.i64 (IntKind.wrap IntKind.i64 (0 + 1) + 1) + 1) ∧ IntKind.wrap IntKind.i64 (IntKind.wrap IntKind.i64 (IntKind.wrap IntKind.i64 (0 + 1) + 1) + 1) < (↑7 : Int) ∧ 0 ≤ IntKind.wrap IntKind.i64 (IntKind.wrap IntKind.i64 (IntKind.wrap IntKind.i64 (IntKind.wrap IntKind.i64 (0 + 1) + 1) + 1) + 1) ∧ IntKind.wrap IntKind.i64 (IntKind.wrap IntKind.i64 (IntKind.wrap IntKind.i64 (IntKind.wrap IntKind.i64 (0 + 1) + 1) + 1) + 1) < (↑7 : Int) ∧ 0 ≤ IntKind.wrap IntKind.i64 (IntKind.wrap IntKind.i64 (IntKind.wrap IntKind.i64 (IntKind.wrap IntKind.i64 (IntKind.wrap IntKind.i64 (0 + 1) + 1) + 1) + 1) + 1) ∧ IntKind.wrap IntKind.i64 (IntKind.wrap IntKind.i64 (IntKind.wrap IntKind.i64 (IntKind.wrap IntKind.i64 (IntKind.wrap IntKind.i64 (0 + 1) + 1) + 1) + 1) + 1) < (↑7 : Int) ∧ 0 ≤ IntKind.wrap IntKind.i64 (IntKind.wrap IntKind.i64 (IntKind.wrap IntKind.i64 (IntKind.wrap IntKind.i64 (IntKind.wrap IntKind.i64 (IntKind.wrap IntKind.i64 (0 + 1) + 1) + 1) + 1) + 1) + 1) ∧ IntKind.wrap IntKind.i64 (IntKind.wrap IntKind.i64 (IntKind.wrap IntKind.i64 (IntKind.wrap IntKind.i64 (IntKind.wrap IntKind.i64 (IntKind.wrap IntKind.i64 (0 + 1) + 1) + 1) + 1) + 1) + 1) < (↑7 : Int) ∧ iz 0 ≤ 0 ∧ some (V.str [120]) = some (V.str [120]) ∧ 0 ≤ IntKind.wrap IntKind.i64 (0 + 1) ∧ some (V.str [121]) = some (V.str [121]) ∧ FSpec PP 13 [D.v (vMod (Mod.mk mk ms [[120], [121]] ml mr mv ma mru mst)), D.v (V.agg [vi (IntKind.wrap IntKind.i64 (IntKind.wrap IntKind.i64 (IntKind.wrap IntKind.i64 (IntKind.wrap IntKind.i64 (IntKind.wrap IntKind.i64 (IntKind.wrap IntKind.i64 (0 + 1) + 1) + 1) + 1) + 1) + 1)), vi 0, vi 0, V.list []])] (St.mk [] []) (D.tup [D.v (V.str []), di 48]) (St.mk [] []) ∧ D.tup [D.v (V.agg [vi (IntKind.wrap IntKind.i64 (IntKind.wrap IntKind.i64 (IntKind.wrap IntKind.i64 (IntKind.wrap IntKind.i64 (IntKind.wrap IntKind.i64 (IntKind.wrap IntKind.i64 (0 + 1) + 1) + 1) + 1) + 1) + 1)), vi 0, vi 0, V.list []]), db false] = D.tup [dQ (Qst.mk 6 0 zeroV), db (false && u == s)]) = _) ?_
    simp only [w01, w12, w23, w34, w45, w56]
    repeat' first | with_reducible refine And.intro ?_ ?_
    all_goals first | exact hc | exact ht | rfl | decide
theorem rdq4_1_0 (m : Mod) (t : Typ) (hm : ModI m t) (hP : m.places = [[120]]) (s : List UInt8) (f : Bool) (hc : FSpec PP 37 [ds s, ds [32]] σ0 (.tup [ds wPlace, ds [120], db f]) σ0) :
    FSpec PP 27 [dMod m, ds s] σ0 (.tup [dQ ⟨4, 0, zeroV⟩, db (rdA m t ⟨4, 0, zeroV⟩ s)]) σ0 := by
  have ht := txA_spec m t hm (.inl hP) ⟨4, 0, zeroV⟩ rdV0
  unfold txA at ht
  unfold rdA
  generalize txI m ⟨4, 0, zeroV⟩ = u at ht ⊢
  generalize validQ m t ⟨4, 0, zeroV⟩ = b at ht ⊢
  clear hm
  obtain ⟨mk, ms, mp, ml, mr, mv, ma, mru, mst⟩ := m
  simp only at hP
  subst hP
  cases b with
  | true =>
    refine spec_vc mixed fRdq cRdq (by kernel_rfl) (by kernel_rfl) (by kernel_rfl) (by kernel_rfl) 79 (by kernel_rfl) [2] (.c (.tup [ds wPlace, ds [120], db f]) <| .n <| .n <| .n <| .n <| .n <| .n <| .x (.str [120]) <| .n <| .c (.tup [ds u, di 0]) <| .r) ?_
    refine via (by kernel_rfl : (FSpec PP 37 [D.v (V.str s), D.v (V.str (ByteArray.mk #[32]).data.toList)] (St.mk [] []) (D.tup [D.v (V.str wPlace), D.v (V.str [120]), db f]) (St.mk [] []) ∧ iz 0 ≤ 0 ∧ 0 < (↑7 : Int) ∧ 0 ≤ IntKind.wrap IntKind.i64 (0 + 1) ∧ IntKind.wrap IntKind.i64 (0 + 1) < (↑7 : Int) ∧ 0 ≤ IntKind.wrap IntKind.i64 (IntKind.wrap IntKind.i64 (0 + 1) + 1) ∧ IntKind.wrap IntKind.i64 (IntKind.wrap IntKind.i64 (0 + 1) + 1) < (↑7 : Int) ∧ 0 ≤ IntKind.wrap IntKind.i64 (IntKind.wrap IntKind.i64 (IntKind.wrap IntKind.i64 (0 + 1) + 1) + 1) ∧ IntKind.wrap IntKind.i64 (IntKind.wrap IntKind.i64 (IntKind.wrap IntKind.i64 (0 + 1) + 1) + 1) < (↑7 : Int) ∧ 0 ≤ IntKind.wrap IntKind.i64 (IntKind.wrap IntKind.i64 (IntKind.wrap IntKind.i64 (IntKind.wrap IntKind.i64 (0 + 1) + 1) + 1) + 1) ∧ IntKind.wrap IntKind.i64 (IntKind.wrap IntKind.i64 (IntKind.wrap IntKind.i64 (IntKind.wrap IntKind.i64 (0 + 1) + 1) + 1) + 1) < (↑7 : Int) ∧ iz 0 ≤ 0 ∧ some (V.str [120]) = some (V.str [120]) ∧ FSpec PP 13 [D.v (vMod (Mod.mk mk ms [[120]] ml mr mv ma mru mst)), D.v (V.agg [vi (IntKind.wrap IntKind.i64 (IntKind.wrap IntKind.i64 (IntKind.wrap IntKind.i64 (IntKind.wrap IntKind.i64 (0 + 1) + 1) + 1) + 1)), vi 0, vi 0, V.list []])] (St.mk [] []) (D.tup [D.v (V.str u), di 0]) (St.mk [] []) ∧ D.tup [D.v (V.agg [vi (IntKind.wrap IntKind.i64 (IntKind.wrap IntKind.i64 (IntKind.wrap IntKind.i64 (IntKind.wrap IntKind.i64 (0 + 1) + 1) + 1) + 1)), vi 0, vi 0, V.list []]), db (u == s)] = D.tup [dQ (Qst.mk 4 0 zeroV), db (true && u == s)]) = _) ?_
    simp only [w01, w12, w23, w34]
    repeat' first | with_reducible refine And.intro ?_ ?_
    all_goals first | exact hc | exact ht | rfl | decide
  | false =>
    refine spec_vc mixed fRdq cRdq (by kernel_rfl) (by kernel_rfl) (by kernel_rfl) (by kernel_rfl) 79 (by kernel_rfl) [2] (.c (.tup [ds wPlace, ds [120], db f]) <| .n <| .n <| .n <| .n <| .n <| .n <| .x (.str [120]) <| .n <| .c (.tup [ds [], di 48]) <| .r) ?_
    refine via (by kernel_rfl : (FSpec PP 37 [D.v (V.str s), D.v (V.str (ByteArray.mk #[32]).data.toList)] (St.mk [] []) (D.tup [D.v (V.str wPlace), D.v (V.str [120]), db f]) (St.mk [] []) ∧ iz 0 ≤ 0 ∧ 0 < (↑7 : Int) ∧ 0 ≤ IntKind.wrap IntKind.i64 (0 + 1) ∧ IntKind.wrap IntKind.i64 (0 + 1) < (↑7 : Int) ∧ 0 ≤ IntKind.wrap IntKind.i64 (IntKind.wrap IntKind.i64 (0 + 1) + 1) ∧ IntKind.wrap IntKind.i64 (IntKind.wrap IntKind.i64 (0 + 1) + 1) < (↑7 : Int) ∧ 0 ≤ IntKind.wrap IntKind.i64 (IntKind.wrap IntKind.i64 (IntKind.wrap IntKind.i64 (0 + 1) + 1) + 1) ∧ IntKind.wrap IntKind.i64 (IntKind.wrap IntKind.i64 (IntKind.wrap IntKind.i64 (0 + 1) + 1) + 1) < (↑7 : Int) ∧ 0 ≤ IntKind.wrap IntKind.i64 (IntKind.wrap IntKind.i64 (IntKind.wrap IntKind.i64 (IntKind.wrap IntKind.i64 (0 + 1) + 1) + 1) + 1) ∧ IntKind.wrap IntKind.i64 (IntKind.wrap IntKind.i64 (IntKind.wrap IntKind.i64 (IntKind.wrap IntKind.i64 (0 + 1) + 1) + 1) + 1) < (↑7 : Int) ∧ iz 0 ≤ 0 ∧ some (V.str [120]) = some (V.str [120]) ∧ FSpec PP 13 [D.v (vMod (Mod.mk mk ms [[120]] ml mr mv ma mru mst)), D.v (V.agg [vi (IntKind.wrap IntKind.i64 (IntKind.wrap IntKind.i64 (IntKind.wrap IntKind.i64 (IntKind.wrap IntKind.i64 (0 + 1) + 1) + 1) + 1)), vi 0, vi 0, V.list []])] (St.mk [] []) (D.tup [D.v (V.str []), di 48]) (St.mk [] []) ∧ D.tup [D.v (V.agg [vi (IntKind.wrap IntKind.i64 (IntKind.wrap IntKind.i64 (IntKind.wrap IntKind.i64 (IntKind.wrap IntKind.i64 (0 + 1) + 1) + 1) + 1)), vi 0, vi 0, V.list []]), db false] = D.tup [dQ (Qst.mk 4 0 zeroV), db (false && u == s)]) = _) ?_
    simp only [w01, w12, w23, w34]
    repeat' first | with_reducible refine And.intro ?_ ?_
    all_goals first | exact hc | exact ht | rfl | decide
theorem rdq4_1_2 (m : Mod) (t : Typ) (hm : ModI m t) (hP : m.places = [[120]]) (s rest : List UInt8) (f : Bool) (hc : FSpec PP 37 [ds s, ds [32]] σ0 (.tup [ds wPlace, ds rest, db f]) σ0) (h0 : ([120] == rest) = false) :
    FSpec PP 27 [dMod m, ds s] σ0 (.tup [dQ ⟨4, 0, zeroV⟩, db (rdA m t ⟨4, 0, zeroV⟩ s)]) σ0 := by
  have ht := txA_spec m t hm (.inl hP) ⟨4, 0, zeroV⟩ rdV0
  unfold txA at ht
  unfold rdA
  generalize txI m ⟨4, 0, zeroV⟩ = u at ht ⊢
  generalize validQ m t ⟨4, 0, zeroV⟩ = b at ht ⊢
  clear hm
  obtain ⟨mk, ms, mp, ml, mr, mv, ma, mru, mst⟩ := m
  simp only at hP
  subst hP
  cases b with
  | true =>
    refine spec_vc mixed fRdq cRdq (by kernel_rfl) (by kernel_rfl) (by kernel_rfl) (by kernel_rfl) 79 (by kernel_rfl) [2] (.c (.tup [ds wPlace, ds rest, db f]) <| .n <| .n <| .n <| .n <| .n <| .n <| .x (.str [120]) <| .k <| .f <| .n <| .c (.tup [ds u, di 0]) <| .r) ?_
    refine via (by kernel_rfl : (FSpec PP 37 [D.v (V.str s), D.v (V.str (ByteArray.mk #[32]).data.toList)] (St.mk [] []) (D.tup [D.v (V.str wPlace), D.v (V.str rest), db f]) (St.mk [] []) ∧ iz 0 ≤ 0 ∧ 0 < (↑7 : Int) ∧ 0 ≤ IntKind.wrap IntKind.i64 (0 + 1) ∧ IntKind.wrap IntKind.i64 (0 + 1) < (↑7 : Int) ∧ 0 ≤ IntKind.wrap IntKind.i64 (IntKind.wrap IntKind.i64 (0 + 1) + 1) ∧ IntKind.wrap IntKind.i64 (IntKind.wrap IntKind.i64 (0 + 1) + 1) < (↑7 : Int) ∧ 0 ≤ IntKind.wrap IntKind.i64 (IntKind.wrap IntKind.i64 (IntKind.wrap IntKind.i64 (0 + 1) + 1) + 1) ∧ IntKind.wrap IntKind.i64 (IntKind.wrap IntKind.i64 (IntKind.wrap IntKind.i64 (0 + 1) + 1) + 1) < (↑7 : Int) ∧ 0 ≤ IntKind.wrap IntKind.i64 (IntKind.wrap IntKind.i64 (IntKind.wrap IntKind.i64 (IntKind.wrap IntKind.i64 (0 + 1) + 1) + 1) + 1) ∧ IntKind.wrap IntKind.i64 (IntKind.wrap IntKind.i64 (IntKind.wrap IntKind.i64 (IntKind.wrap IntKind.i64 (0 + 1) + 1) + 1) + 1) < (↑7 : Int) ∧ iz 0 ≤ 0 ∧ some (V.str [120]) = some (V.str [120]) ∧ ([120] == rest) = false ∧ FSpec PP 13 [D.v (vMod (Mod.mk mk ms [[120]] ml mr mv ma mru mst)), D.v (V.agg [vi (IntKind.wrap IntKind.i64 (IntKind.wrap IntKind.i64 (IntKind.wrap IntKind.i64 (IntKind.wrap IntKind.i64 (0 + 1) + 1) + 1) + 1)), vi 0, vi 0, V.list []])] (St.mk [] []) (D.tup [D.v (V.str u), di 0]) (St.mk [] []) ∧ D.tup [D.v (V.agg [vi (IntKind.wrap IntKind.i64 (IntKind.wrap IntKind.i64 (IntKind.wrap IntKind.i64 (IntKind.wrap IntKind.i64 (0 + 1) + 1) + 1) + 1)), vi 0, vi 0, V.list []]), db (u == s)] = D.tup [dQ (Qst.mk 4 0 zeroV), db (true && u == s)]) = _) ?_
    simp only [w01, w12, w23, w34]
    repeat' first | with_reducible refine And.intro ?_ ?_
    all_goals first | exact hc | exact ht | exact h0 | rfl | decide
  | false =>
    refine spec_vc mixed fRdq cRdq (by kernel_rfl) (by kernel_rfl) (by kernel_rfl) (by kernel_rfl) 79 (by kernel_rfl) [2] (.c (.tup [ds wPlace, ds rest, db f]) <| .n <| .n <| .n <| .n <| .n <| .n <| .x (.str [120]) <| .k <| .f <| .n <| .c (.tup [ds [], di 48]) <| .r) ?_
    refine via (by kernel_rfl : (FSpec PP 37 [D.v (V.str s), D.v (V.str (ByteArray.mk #[32]).data.toList)] (St.mk [] []) (D.tup [D.v (V.str wPlace), D.v (V.str rest), db f]) (St.mk [] []) ∧ iz 0 ≤ 0 ∧ 0 < (↑7 : Int) ∧ 0 ≤ IntKind.wrap IntKind.i64 (0 + 1) ∧ IntKind.wrap IntKind.i64 (0 + 1) < (↑7 : Int) ∧ 0 ≤ IntKind.wrap IntKind.i64 (IntKind.wrap IntKind.i64 (0 + 1) + 1) ∧ IntKind.wrap IntKind.i64 (IntKind.wrap IntKind.i64 (0 + 1) + 1) < (↑7 : Int) ∧ 0 ≤ IntKind.wrap IntKind.i64 (IntKind.wrap IntKind.i64 (IntKind.wrap IntKind.i64 (0 + 1) + 1) + 1) ∧ IntKind.wrap IntKind.i64 (IntKind.wrap IntKind.i64 (IntKind.wrap IntKind.i64 (0 + 1) + 1) + 1) < (↑7 : Int) ∧ 0 ≤ IntKind.wrap IntKind.i64 (IntKind.wrap IntKind.i64 (IntKind.wrap IntKind.i64 (IntKind.wrap IntKind.i64 (0 + 1) + 1) + 1) + 1) ∧ IntKind.wrap IntKind.i64 (IntKind.wrap IntKind.i64 (IntKind.wrap IntKind.i64 (IntKind.wrap IntKind.i64 (0 + 1) + 1) + 1) + 1) < (↑7 : Int) ∧ iz 0 ≤ 0 ∧ some (V.str [120]) = some (V.str [120]) ∧ ([120] == rest) = false ∧ FSpec PP 13 [D.v (vMod (Mod.mk mk ms [[120]] ml mr mv ma mru mst)), D.v (V.agg [vi (IntKind.wrap IntKind.i64 (IntKind.wrap IntKind.i64 (IntKind.wrap IntKind.i64 (IntKind.wrap IntKind.i64 (0 + 1) + 1) + 1) + 1)), vi 0, vi 0, V.list []])] (St.mk [] []) (D.tup [D.v (V.str []), di 48]) (St.mk [] []) ∧ D.tup [D.v (V.agg [vi (IntKind.wrap IntKind.i64 (IntKind.wrap IntKind.i64 (IntKind.wrap IntKind.i64 (IntKind.wrap IntKind.i64 (0 + 1) + 1) + 1) + 1)), vi 0, vi 0, V.list []]), db false] = D.tup [dQ (Qst.mk 4 0 zeroV), db (false && u == s)]) = _) ?_
    simp only [w01, w12, w23, w34]
    repeat' first | with_reducible refine And.intro ?_ ?_
    all_goals first | exact hc | exact ht | exact h0 | rfl | decide
theorem rdq4_2_0 (m : Mod) (t : Typ) (hm : ModI m t) (hP : m.places = [[120], [121]]) (s : List UInt8) (f : Bool) (hc : FSpec PP 37 [ds s, ds [32]] σ0 (.tup [ds wPlace, ds [120], db f]) σ0) :
    FSpec PP 27 [dMod m, ds s] σ0 (.tup [dQ ⟨4, 0, zeroV⟩, db (rdA m t ⟨4, 0, zeroV⟩ s)]) σ0 := by
  have ht := txA_spec m t hm (.inr hP) ⟨4, 0, zeroV⟩ rdV0
  unfold txA at ht
  unfold rdA
  generalize txI m ⟨4, 0, zeroV⟩ = u at ht ⊢
  generalize validQ m t ⟨4, 0, zeroV⟩ = b at ht ⊢
  clear hm
  obtain ⟨mk, ms, mp, ml, mr, mv, ma, mru, mst⟩ := m
  simp only at hP
  subst hP
  cases b with
  | true =>
    refine spec_vc mixed fRdq cRdq (by kernel_rfl) (by kernel_rfl) (by kernel_rfl) (by kernel_rfl) 79 (by kernel_rfl) [2] (.c (.tup [ds wPlace, ds [120], db f]) <| .n <| .n <| .n <| .n <| .n <| .n <| .x (.str [120]) <| .n <| .x (.str [121]) <| .n <| .c (.tup [ds u, di 0]) <| .r) ?_
    refine via (by kernel_rfl : (FSpec PP 37 [D.v (V.str s), D.v (V.str (ByteArray.mk #[32]).data.toList)] (St.mk [] []) (D.tup [D.v (V.str wPlace), D.v (V.str [120]), db f]) (St.mk [] []) ∧ iz 0 ≤ 0 ∧ 0 < (↑7 : Int) ∧ 0 ≤ IntKind.wrap IntKind.i64 (0 + 1) ∧ IntKind.wrap IntKind.i64 (0 + 1) < (↑7 : Int) ∧ 0 ≤ IntKind.wrap IntKind.i64 (IntKind.wrap IntKind.i64 (0 + 1) + 1) ∧ IntKind.wrap IntKind.i64 (IntKind.wrap IntKind.i64 (0 + 1) + 1) < (↑7 : Int) ∧ 0 ≤ IntKind.wrap IntKind.i64 (IntKind.wrap IntKind.i64 (IntKind.wrap IntKind.i64 (0 + 1) + 1) + 1) ∧ IntKind.wrap IntKind.i64 (IntKind.wrap IntKind.i64 (IntKind.wrap IntKind.i64 (0 + 1) + 1) + 1) < (↑7 : Int) ∧ 0 ≤ IntKind.wrap IntKind.i64 (IntKind.wrap IntKind.i64 (IntKind.wrap IntKind.i64 (IntKind.wrap IntKind.i64 (0 + 1) + 1) + 1) + 1) ∧ IntKind.wrap IntKind.i64 (IntKind.wrap IntKind.i64 (IntKind.wrap IntKind.i64 (IntKind.wrap IntKind.i64 (0 + 1) + 1) + 1) + 1) < (↑7 : Int) ∧ iz 0 ≤ 0 ∧ some (V.str [120]) = some (V.str [120]) ∧ 0 ≤ IntKind.wrap IntKind.i64 (0 + 1) ∧ some (V.str [121]) = some (V.str [121]) ∧ FSpec PP 13 [D.v (vMod (Mod.mk mk ms [[120], [121]] ml mr mv ma mru mst)), D.v (V.agg [vi (IntKind.wrap IntKind.i64 (IntKind.wrap IntKind.i64 (IntKind.wrap IntKind.i64 (IntKind.wrap IntKind.i64 (0 + 1) + 1) + 1) + 1)), vi 0, vi 0, V.list []])] (St.mk [] []) (D.tup [D.v (V.str u), di 0]) (St.mk [] []) ∧ D.tup [D.v (V.agg [vi (IntKind.wrap IntKind.i64 (IntKind.wrap IntKind.i64 (IntKind.wrap IntKind.i64 (IntKind.wrap IntKind.i64 (0 + 1) + 1) + 1) + 1)), vi 0, vi 0, V.list []]), db (u == s)] = D.tup [dQ (Qst.mk 4 0 zeroV), db (true && u == s)]) = _) ?_
    simp only [w01, w12, w23, w34]
    repeat' first | with_reducible refine And.intro ?_ ?_
    all_goals first | exact hc | exact ht | rfl | decide
  | false =>
    refine spec_vc mixed fRdq cRdq (by kernel_rfl) (by kernel_rfl) (by kernel_rfl) (by kernel_rfl) 79 (by kernel_rfl) [2] (.c (.tup [ds wPlace, ds [120], db f]) <| .n <| .n <| .n <| .n <| .n <| .n <| .x (.str [120]) <| .n <| .x (.str [121]) <| .n <| .c (.tup [ds [], di 48]) <| .r) ?_
    refine via (by kernel_rfl : (FSpec PP 37 [D.v (V.str s), D.v (V.str (ByteArray.mk #[32]).data.toList)] (St.mk [] []) (D.tup [D.v (V.str wPlace), D.v (V.str [120]), db f]) (St.mk [] []) ∧ iz 0 ≤ 0 ∧ 0 < (↑7 : Int) ∧ 0 ≤ IntKind.wrap IntKind.i64 (0 + 1) ∧ IntKind.wrap IntKind.i64 (0 + 1) < (↑7 : Int) ∧ 0 ≤ IntKind.wrap IntKind.i64 (IntKind.wrap IntKind.i64 (0 + 1) + 1) ∧ IntKind.wrap IntKind.i64 (IntKind.wrap IntKind.i64 (0 + 1) + 1) < (↑7 : Int) ∧ 0 ≤ IntKind.wrap IntKind.i64 (IntKind.wrap IntKind.i64 (IntKind.wrap IntKind.i64 (0 + 1) + 1) + 1) ∧ IntKind.wrap IntKind.i64 (IntKind.wrap IntKind.i64 (IntKind.wrap IntKind.i64 (0 + 1) + 1) + 1) < (↑7 : Int) ∧ 0 ≤ IntKind.wrap IntKind.i64 (IntKind.wrap IntKind.i64 (IntKind.wrap IntKind.i64 (IntKind.wrap IntKind.i64 (0 + 1) + 1) + 1) + 1) ∧ IntKind.wrap IntKind.i64 (IntKind.wrap IntKind.i64 (IntKind.wrap IntKind.i64 (IntKind.wrap IntKind.i64 (0 + 1) + 1) + 1) + 1) < (↑7 : Int) ∧ iz 0 ≤ 0 ∧ some (V.str [120]) = some (V.str [120]) ∧ 0 ≤ IntKind.wrap IntKind.i64 (0 + 1) ∧ some (V.str [121]) = some (V.str [121]) ∧ FSpec PP 13 [D.v (vMod (Mod.mk mk ms [[120], [121]] ml mr mv ma mru mst)), D.v (V.agg [vi (IntKind.wrap IntKind.i64 (IntKind.wrap IntKind.i64 (IntKind.wrap IntKind.i64 (IntKind.wrap IntKind.i64 (0 + 1) + 1) + 1) + 1)), vi 0, vi 0, V.list []])] (St.mk [] []) (D.tup [D.v (V.str []), di 48]) (St.mk [] []) ∧ D.tup [D.v (V.agg [vi (IntKind.wrap IntKind.i64 (IntKind.wrap IntKind.i64 (IntKind.wrap IntKind.i64 (IntKind.wrap IntKind.i64 (0 + 1) + 1) + 1) + 1)), vi 0, vi 0, V.list []]), db false] = D.tup [dQ (Qst.mk 4 0 zeroV), db (false && u == s)]) = _) ?_
    simp only [w01, w12, w23, w34]
    repeat' first | with_reducible refine And.intro ?_ ?_
    all_goals first | exact hc | exact ht | rfl | decide
theorem rdq4_2_1 (m : Mod) (t : Typ) (hm : ModI m t) (hP : m.places = [[120], [121]]) (s : List UInt8) (f : Bool) (hc : FSpec PP 37 [ds s, ds [32]] σ0 (.tup [ds wPlace, ds [121], db f]) σ0) :
    FSpec PP 27 [dMod m, ds s] σ0 (.tup [dQ ⟨4, 1, zeroV⟩, db (rdA m t ⟨4, 1, zeroV⟩ s)]) σ0 := by
  have ht := txA_spec m t hm (.inr hP) ⟨4, 1, zeroV⟩ rdV0
  unfold txA at ht
  unfold rdA
  generalize txI m ⟨4, 1, zeroV⟩ = u at ht ⊢
  generalize validQ m t ⟨4, 1, zeroV⟩ = b at ht ⊢
  clear hm
  obtain ⟨mk, ms, mp, ml, mr, mv, ma, mru, mst⟩ := m
  simp only at hP
  subst hP
  cases b with
  | true =>
    refine spec_vc mixed fRdq cRdq (by kernel_rfl) (by kernel_rfl) (by kernel_rfl) (by kernel_rfl) 79 (by kernel_rfl) [2] (.c (.tup [ds wPlace, ds [121], db f]) <| .n <| .n <| .n <| .n <| .n <| .n <| .x (.str [120]) <| .n <| .x (.str [121]) <| .n <| .c (.tup [ds u, di 0]) <| .r) ?_
    refine via (by kernel_rfl : (FSpec PP 37 [D.v (V.str s), D.v (V.str (ByteArray.mk #[32]).data.toList)] (St.mk [] []) (D.tup [D.v (V.str wPlace), D.v (V.str [121]), db f]) (St.mk [] []) ∧ iz 0 ≤ 0 ∧ 0 < (↑7 : Int) ∧ 0 ≤ IntKind.wrap IntKind.i64 (0 + 1) ∧ IntKind.wrap IntKind.i64 (0 + 1) < (↑7 : Int) ∧ 0 ≤ IntKind.wrap IntKind.i64 (IntKind.wrap IntKind.i64 (0 + 1) + 1) ∧ IntKind.wrap IntKind.i64 (IntKind.wrap IntKind.i64 (0 + 1) + 1) < (↑7 : Int) ∧ 0 ≤ IntKind.wrap IntKind.i64 (IntKind.wrap IntKind.i64 (IntKind.wrap IntKind.i64 (0 + 1) + 1) + 1) ∧ IntKind.wrap IntKind.i64 (IntKind.wrap IntKind.i64 (IntKind.wrap IntKind.i64 (0 + 1) + 1) + 1) < (↑7 : Int) ∧ 0 ≤ IntKind.wrap IntKind.i64 (IntKind.wrap IntKind.i64 (IntKind.wrap IntKind.i64 (IntKind.wrap IntKind.i64 (0 + 1) + 1) + 1) + 1) ∧ IntKind.wrap IntKind.i64 (IntKind.wrap IntKind.i64 (IntKind.wrap IntKind.i64 (IntKind.wrap IntKind.i64 (0 + 1) + 1) + 1) + 1) < (↑7 : Int) ∧ iz 0 ≤ 0 ∧ some (V.str [120]) = some (V.str [120]) ∧ 0 ≤ IntKind.wrap IntKind.i64 (0 + 1) ∧ some (V.str [121]) = some (V.str [121]) ∧ FSpec PP 13 [D.v (vMod (Mod.mk mk ms [[120], [121]] ml mr mv ma mru mst)), D.v (V.agg [vi (IntKind.wrap IntKind.i64 (IntKind.wrap IntKind.i64 (IntKind.wrap IntKind.i64 (IntKind.wrap IntKind.i64 (0 + 1) + 1) + 1) + 1)), vi (IntKind.wrap IntKind.i64 (0 + 1)), vi 0, V.list []])] (St.mk [] []) (D.tup [D.v (V.str u), di 0]) (St.mk [] []) ∧ D.tup [D.v (V.agg [vi (IntKind.wrap IntKind.i64 (IntKind.wrap IntKind.i64 (IntKind.wrap IntKind.i64 (IntKind.wrap IntKind.i64 (0 + 1) + 1) + 1) + 1)), vi (IntKind.wrap IntKind.i64 (0 + 1)), vi 0, V.list []]), db (u == s)] = D.tup [dQ (Qst.mk 4 1 zeroV), db (true && u == s)]) = _) ?_
    simp only [w01, w12, w23, w34]
    repeat' first | with_reducible refine And.intro ?_ ?_
    all_goals first | exact hc | exact ht | rfl | decide
  | false =>
    refine spec_vc mixed fRdq cRdq (by kernel_rfl) (by kernel_rfl) (by kernel_rfl) (by kernel_rfl) 79 (by kernel_rfl) [2] (.c (.tup [ds wPlace, ds [121], db f]) <| .n <| .n <| .n <| .n <| .n <| .n <| .x (.str [120]) <| .n <| .x (.str [121]) <| .n <| .c (.tup [ds [], di 48]) <| .r) ?_
    refine via (by kernel_rfl : (FSpec PP 37 [D.v (V.str s), D.v (V.str (ByteArray.mk #[32]).data.toList)] (St.mk [] []) (D.tup [D.v (V.str wPlace), D.v (V.str [121]), db f]) (St.mk [] []) ∧ iz 0 ≤ 0 ∧ 0 < (↑7 : Int) ∧ 0 ≤ IntKind.wrap IntKind.i64 (0 + 1) ∧ IntKind.wrap IntKind.i64 (0 + 1) < (↑7 : Int) ∧ 0 ≤ IntKind.wrap IntKind.i64 (IntKind.wrap IntKind.i64 (0 + 1) + 1) ∧ IntKind.wrap IntKind.i64 (IntKind.wrap IntKind.i64 (0 + 1) + 1) < (↑7 : Int) ∧ 0 ≤ IntKind.wrap IntKind.i64 (IntKind.wrap IntKind.i64 (IntKind.wrap IntKind.i64 (0 + 1) + 1) + 1) ∧ IntKind.wrap IntKind.i64 (IntKind.wrap IntKind.i64 (IntKind.wrap IntKind.i64 (0 + 1) + 1) + 1) < (↑7 : Int) ∧ 0 ≤ IntKind.wrap IntKind.i64 (IntKind.wrap IntKind.i64 (IntKind.wrap IntKind.i64 (IntKind.wrap IntKind.i64 (0 + 1) + 1) + 1) + 1) ∧ IntKind.wrap IntKind.i64 (IntKind.wrap IntKind.i64 (IntKind.wrap IntKind.i64 (IntKind.wrap IntKind.i64 (0 + 1) + 1) + 1) + 1) < (↑7 : Int) ∧ iz 0 ≤ 0 ∧ some (V.str [120]) = some (V.str [120]) ∧ 0 ≤ IntKind.wrap IntKind.i64 (0 + 1) ∧ some (V.str [121]) = some (V.str [121]) ∧ FSpec PP 13 [D.v (vMod (Mod.mk mk ms [[120], [121]] ml mr mv ma mru mst)), D.v (V.agg [vi (IntKind.wrap IntKind.i64 (IntKind.wrap IntKind.i64 (IntKind.wrap IntKind.i64 (IntKind.wrap IntKind.i64 (0 + 1) + 1) + 1) + 1)), vi (IntKind.wrap IntKind.i64 (0 + 1)), vi 0, V.list []])] (St.mk [] []) (D.tup [D.v (V.str []), di 48]) (St.mk [] []) ∧ D.tup [D.v (V.agg [vi (IntKind.wrap IntKind.i64 (IntKind.wrap IntKind.i64 (IntKind.wrap IntKind.i64 (IntKind.wrap IntKind.i64 (0 + 1) + 1) + 1) + 1)), vi (IntKind.wrap IntKind.i64 (0 + 1)), vi 0, V.list []]), db false] = D.tup [dQ (Qst.mk 4 1 zeroV), db (false && u == s)]) = _) ?_
    simp only [w01, w12, w23, w34]
    repeat' first | with_reducible refine And.intro ?_ ?_
    all_goals first | exact hc | exact ht | rfl | decide
theorem rdq4_2_2 (m : Mod) (t : Typ) (hm : ModI m t) (hP : m.places = [[120], [121]]) (s rest : List UInt8) (f : Bool) (hc : FSpec PP 37 [ds s, ds [32]] σ0 (.tup [ds wPlace, ds rest, db f]) σ0) (h0 : ([120] == rest) = false) (h1 : ([121] == rest) = false) :
    FSpec PP 27 [dMod m, ds s] σ0 (.tup [dQ ⟨4, 0, zeroV⟩, db (rdA m t ⟨4, 0, zeroV⟩ s)]) σ0 := by
  have ht := txA_spec m t hm (.inr hP) ⟨4, 0, zeroV⟩ rdV0
  unfold txA at ht
  unfold rdA
  generalize txI m ⟨4, 0, zeroV⟩ = u at ht ⊢
  generalize validQ m t ⟨4, 0, zeroV⟩ = b at ht ⊢
  clear hm
  obtain ⟨mk, ms, mp, ml, mr, mv, ma, mru, mst⟩ := m
  simp only at hP
  subst hP
  cases b with
  | true =>
    refine spec_vc mixed fRdq cRdq (by kernel_rfl) (by kernel_rfl) (by kernel_rfl) (by kernel_rfl) 79 (by kernel_rfl) [2] (.c (.tup [ds wPlace, ds rest, db f]) <| .n <| .n <| .n <| .n <| .n <| .n <| .x (.str [120]) <| .k <| .f <| .n <| .x (.str [121]) <| .k <| .f <| .n <| .c (.tup [ds u, di 0]) <| .r) ?_
    refine via (by kernel_rfl : (FSpec PP 37 [D.v (V.str s), D.v (V.str (ByteArray.mk #[32]).data.toList)] (St.mk [] []) (D.tup [D.v (V.str wPlace), D.v (V.str rest), db f]) (St.mk [] []) ∧ iz 0 ≤ 0 ∧ 0 < (↑7 : Int) ∧ 0 ≤ IntKind.wrap IntKind.i64 (0 + 1) ∧ IntKind.wrap IntKind.i64 (0 + 1) < (↑7 : Int) ∧ 0 ≤ IntKind.wrap IntKind.i64 (IntKind.wrap IntKind.i64 (0 + 1) + 1) ∧ IntKind.wrap IntKind.i64 (IntKind.wrap IntKind.i64 (0 + 1) + 1) < (↑7 : Int) ∧ 0 ≤ IntKind.wrap IntKind.i64 (IntKind.wrap IntKind.i64 (IntKind.wrap IntKind.i64 (0 + 1) + 1) + 1) ∧ IntKind.wrap IntKind.i64 (IntKind.wrap IntKind.i64 (IntKind.wrap IntKind.i64 (0 + 1) + 1) + 1) < (↑7 : Int) ∧ 0 ≤ IntKind.wrap IntKind.i64 (IntKind.wrap IntKind.i64 (IntKind.wrap IntKind.i64 (IntKind.wrap IntKind.i64 (0 + 1) + 1) + 1) + 1) ∧ IntKind.wrap IntKind.i64 (IntKind.wrap IntKind.i64 (IntKind.wrap IntKind.i64 (IntKind.wrap IntKind.i64 (0 + 1) + 1) + 1) + 1) < (↑7 : Int) ∧ iz 0 ≤ 0 ∧ some (V.str [120]) = some (V.str [120]) ∧ ([120] == rest) = false ∧ 0 ≤ IntKind.wrap IntKind.i64 (0 + 1) ∧ some (V.str [121]) = some (V.str [121]) ∧ ([121] == rest) = false ∧ FSpec PP 13 [D.v (vMod (Mod.mk mk ms [[120], [121]] ml mr mv ma mru mst)), D.v (V.agg [vi (IntKind.wrap IntKind.i64 (IntKind.wrap IntKind.i64 (IntKind.wrap IntKind.i64 (IntKind.wrap IntKind.i64 (0 + 1) + 1) + 1) + 1)), vi 0, vi 0, V.list []])] (St.mk [] []) (D.tup [D.v (V.str u), di 0]) (St.mk [] []) ∧ D.tup [D.v (V.agg [vi (IntKind.wrap IntKind.i64 (IntKind.wrap IntKind.i64 (IntKind.wrap IntKind.i64 (IntKind.wrap IntKind.i64 (0 + 1) + 1) + 1) + 1)), vi 0, vi 0, V.list []]), db (u == s)] = D.tup [dQ (Qst.mk 4 0 zeroV), db (true && u == s)]) = _) ?_
    simp only [w01, w12, w23, w34]
    repeat' first | with_reducible refine And.intro ?_ ?_
    all_goals first | exact hc | exact ht | exact h0 | exact h1 | rfl | decide
  | false =>
    refine spec_vc mixed fRdq cRdq (by kernel_rfl) (by kernel_rfl) (by kernel_rfl) (by kernel_rfl) 79 (by kernel_rfl) [2] (.c (.tup [ds wPlace, ds rest, db f]) <| .n <| .n <| .n <| .n <| .n <| .n <| .x (.str [120]) <| .k <| .f <| .n <| .x (.str [121]) <| .k <| .f <| .n <| .c (.tup [ds [], di 48]) <| .r) ?_
    refine via (by kernel_rfl : (FSpec PP 37 [D.v (V.str s), D.v (V.str (ByteArray.mk #[32]).data.toList)] (St.mk [] []) (D.tup [D.v (V.str wPlace), D.v (V.str rest), db f]) (St.mk [] []) ∧ iz 0 ≤ 0 ∧ 0 < (↑7 : Int) ∧ 0 ≤ IntKind.wrap IntKind.i64 (0 + 1) ∧ IntKind.wrap IntKind.i64 (0 + 1) < (↑7 : Int) ∧ 0 ≤ IntKind.wrap IntKind.i64 (IntKind.wrap IntKind.i64 (0 + 1) + 1) ∧ IntKind.wrap IntKind.i64 (IntKind.wrap IntKind.i64 (0 + 1) + 1) < (↑7 : Int) ∧ 0 ≤ IntKind.wrap IntKind.i64 (IntKind.wrap IntKind.i64 (IntKind.wrap IntKind.i64 (0 + 1) + 1) + 1) ∧ IntKind.wrap IntKind.i64 (IntKind.wrap IntKind.i64 (IntKind.wrap IntKind.i64 (0 + 1) + 1) + 1) < (↑7 : Int) ∧ 0 ≤ IntKind.wrap IntKind.i64 (IntKind.wrap IntKind.i64 (IntKind.wrap IntKind.i64 (IntKind.wrap IntKind.i64 (0 + 1) + 1) + 1) + 1) ∧ IntKind.wrap IntKind.i64 (IntKind.wrap IntKind.i64 (IntKind.wrap IntKind.i64 (IntKind.wrap IntKind.i64 (0 + 1) + 1) + 1) + 1) < (↑7 : Int) ∧ iz 0 ≤ 0 ∧ some (V.str [120]) = some (V.str [120]) ∧ ([120] == rest) = false ∧ 0 ≤ IntKind.wrap IntKind.i64 (0 + 1) ∧ some (V.str [121]) = some (V.str [121]) ∧ ([121] == rest) = false ∧ FSpec PP 13 [D.v (vMod (Mod.mk mk ms [[120], [121]] ml mr mv ma mru mst)), D.v (V.agg [vi (IntKind.wrap IntKind.i64 (IntKind.wrap IntKind.i64 (IntKind.wrap IntKind.i64 (IntKind.wrap IntKind.i64 (0 + 1) + 1) + 1) + 1)), vi 0, vi 0, V.list []])] (St.mk [] []) (D.tup [D.v (V.str []), di 48]) (St.mk [] []) ∧ D.tup [D.v (V.agg [vi (IntKind.wrap IntKind.i64 (IntKind.wrap IntKind.i64 (IntKind.wrap IntKind.i64 (IntKind.wrap IntKind.i64 (0 + 1) + 1) + 1) + 1)), vi 0, vi 0, V.list []]), db false] = D.tup [dQ (Qst.mk 4 0 zeroV), db (false && u == s)]) = _) ?_
    simp only [w01, w12, w23, w34]
    repeat' first | with_reducible refine And.intro ?_ ?_
    all_goals first | exact hc | exact ht | exact h0 | exact h1 | rfl | decide
theorem rdq_none (m : Mod) (s w rest : List UInt8) (f : Bool) (hc : FSpec PP 37 [ds s, ds [32]] σ0 (.tup [ds w, ds rest, db f]) σ0) (h0 : (!([] == w)) = true) (h1 : (!(wCover == w)) = true) (h2 : (!(wReach == w)) = true) (h3 : (!(wBounded == w)) = true) (h4 : (!(wPlace == w)) = true) (h5 : (!(wDead == w)) = true) (h6 : (!(wHome == w)) = true) :
    FSpec PP 27 [dMod m, ds s] σ0 (.tup [dQ ⟨0, 0, zeroV⟩, db false]) σ0 := by
  refine spec_vc mixed fRdq cRdq (by kernel_rfl) (by kernel_rfl) (by kernel_rfl) (by kernel_rfl) 79 (by kernel_rfl) [2] (.c (.tup [ds w, ds rest, db f]) <| .n <| .k <| .t <| .n <| .k <| .t <| .n <| .k <| .t <| .n <| .k <| .t <| .n <| .k <| .t <| .n <| .k <| .t <| .n <| .k <| .t <| .n <| .r) ?_
  refine via (by kernel_rfl : (FSpec PP 37 [D.v (V.str s), D.v (V.str (ByteArray.mk #[32]).data.toList)] (St.mk [] []) (D.tup [D.v (V.str w), D.v (V.str rest), db f]) (St.mk [] []) ∧ iz 0 ≤ 0 ∧ 0 < (↑7 : Int) ∧ (![] == w) = true ∧ 0 ≤ IntKind.wrap IntKind.i64 (0 + 1) ∧ IntKind.wrap IntKind.i64 (0 + 1) < (↑7 : Int) ∧ (![99, 111, 118, 101, 114] == w) = true ∧ 0 ≤ IntKind.wrap IntKind.i64 (IntKind.wrap IntKind.i64 (0 + 1) + 1) ∧ IntKind.wrap IntKind.i64 (IntKind.wrap IntKind.i64 (0 + 1) + 1) < (↑7 : Int) ∧ (![114, 101, 97, 99, 104] == w) = true ∧ 0 ≤ IntKind.wrap IntKind.i64 (IntKind.wrap IntKind.i64 (IntKind.wrap IntKind.i64 (0 + 1) + 1) + 1) ∧ IntKind.wrap IntKind.i64 (IntKind.wrap IntKind.i64 (IntKind.wrap IntKind.i64 (0 + 1) + 1) + 1) < (↑7 : Int) ∧ (![98, 111, 117, 110, 100, 101, 100] == w) = true ∧ 0 ≤ IntKind.wrap IntKind.i64 (IntKind.wrap IntKind.i64 (IntKind.wrap IntKind.i64 (IntKind.wrap IntKind.i64 (0 + 1) + 1) + 1) + 1) ∧ IntKind.wrap IntKind.i64 (IntKind.wrap IntKind.i64 (IntKind.wrap IntKind.i64 (IntKind.wrap IntKind.i64 (0 + 1) + 1) + 1) + 1) < (↑7 : Int) ∧ (![112, 108, 97, 99, 101] == w) = true ∧ 0 ≤ IntKind.wrap IntKind.i64 (IntKind.wrap IntKind.i64 (IntKind.wrap IntKind.i64 (IntKind.wrap IntKind.i64 (IntKind.wrap IntKind.i64 (0 + 1) + 1) + 1) + 1) + 1) ∧ IntKind.wrap IntKind.i64 (IntKind.wrap IntKind.i64 (IntKind.wrap IntKind.i64 (IntKind.wrap IntKind.i64 (IntKind.wrap IntKind.i64 (0 + 1) + 1) + 1) + 1) + 1) < (↑7 : Int) ∧ (![100, 101, 97, 100] == w) = true ∧ 0 ≤ IntKind.wrap IntKind.i64 (IntKind.wrap IntKind.i64 (IntKind.wrap IntKind.i64 (IntKind.wrap IntKind.i64 (IntKind.wrap IntKind.i64 (IntKind.wrap IntKind.i64 (0 + 1) + 1) + 1) + 1) + 1) + 1) ∧ IntKind.wrap IntKind.i64 (IntKind.wrap IntKind.i64 (IntKind.wrap IntKind.i64 (IntKind.wrap IntKind.i64 (IntKind.wrap IntKind.i64 (IntKind.wrap IntKind.i64 (0 + 1) + 1) + 1) + 1) + 1) + 1) < (↑7 : Int) ∧ (![104, 111, 109, 101] == w) = true ∧ D.tup [D.v (V.agg [vi 0, vi 0, vi 0, V.list []]), db false] = D.tup [dQ (Qst.mk 0 0 zeroV), db false]) = _) ?_
  simp only [w01, w12, w23, w34, w45, w56, w67]
  repeat' first | with_reducible refine And.intro ?_ ?_
  all_goals first | exact hc | exact h0 | exact h1 | exact h2 | exact h3 | exact h4 | exact h5 | exact h6 | rfl | decide
theorem rdq_nil (m : Mod) (s rest : List UInt8) (f : Bool) (hc : FSpec PP 37 [ds s, ds [32]] σ0 (.tup [ds [], ds rest, db f]) σ0) :
    FSpec PP 27 [dMod m, ds s] σ0 (.tup [dQ ⟨0, 0, zeroV⟩, db false]) σ0 := by
  refine spec_vc mixed fRdq cRdq (by kernel_rfl) (by kernel_rfl) (by kernel_rfl) (by kernel_rfl) 79 (by kernel_rfl) [2] (.c (.tup [ds [], ds rest, db f]) <| .n <| .n <| .n <| .n <| .n <| .n <| .n <| .n <| .r) ?_
  refine via (by kernel_rfl : (FSpec PP 37 [D.v (V.str s), D.v (V.str (ByteArray.mk #[32]).data.toList)] (St.mk [] []) (D.tup [D.v (V.str []), D.v (V.str rest), db f]) (St.mk [] []) ∧ iz 0 ≤ 0 ∧ 0 < (↑7 : Int) ∧ 0 ≤ IntKind.wrap IntKind.i64 (0 + 1) ∧ IntKind.wrap IntKind.i64 (0 + 1) < (↑7 : Int) ∧ 0 ≤ IntKind.wrap IntKind.i64 (IntKind.wrap IntKind.i64 (0 + 1) + 1) ∧ IntKind.wrap IntKind.i64 (IntKind.wrap IntKind.i64 (0 + 1) + 1) < (↑7 : Int) ∧ 0 ≤ IntKind.wrap IntKind.i64 (IntKind.wrap IntKind.i64 (IntKind.wrap IntKind.i64 (0 + 1) + 1) + 1) ∧ IntKind.wrap IntKind.i64 (IntKind.wrap IntKind.i64 (IntKind.wrap IntKind.i64 (0 + 1) + 1) + 1) < (↑7 : Int) ∧ 0 ≤ IntKind.wrap IntKind.i64 (IntKind.wrap IntKind.i64 (IntKind.wrap IntKind.i64 (IntKind.wrap IntKind.i64 (0 + 1) + 1) + 1) + 1) ∧ IntKind.wrap IntKind.i64 (IntKind.wrap IntKind.i64 (IntKind.wrap IntKind.i64 (IntKind.wrap IntKind.i64 (0 + 1) + 1) + 1) + 1) < (↑7 : Int) ∧ 0 ≤ IntKind.wrap IntKind.i64 (IntKind.wrap IntKind.i64 (IntKind.wrap IntKind.i64 (IntKind.wrap IntKind.i64 (IntKind.wrap IntKind.i64 (0 + 1) + 1) + 1) + 1) + 1) ∧ IntKind.wrap IntKind.i64 (IntKind.wrap IntKind.i64 (IntKind.wrap IntKind.i64 (IntKind.wrap IntKind.i64 (IntKind.wrap IntKind.i64 (0 + 1) + 1) + 1) + 1) + 1) < (↑7 : Int) ∧ 0 ≤ IntKind.wrap IntKind.i64 (IntKind.wrap IntKind.i64 (IntKind.wrap IntKind.i64 (IntKind.wrap IntKind.i64 (IntKind.wrap IntKind.i64 (IntKind.wrap IntKind.i64 (0 + 1) + 1) + 1) + 1) + 1) + 1) ∧ IntKind.wrap IntKind.i64 (IntKind.wrap IntKind.i64 (IntKind.wrap IntKind.i64 (IntKind.wrap IntKind.i64 (IntKind.wrap IntKind.i64 (IntKind.wrap IntKind.i64 (0 + 1) + 1) + 1) + 1) + 1) + 1) < (↑7 : Int) ∧ D.tup [D.v (V.agg [vi 0, vi 0, vi 0, V.list []]), db false] = D.tup [dQ (Qst.mk 0 0 zeroV), db false]) = _) ?_
  simp only [w01, w12, w23, w34, w45, w56, w67]
  repeat' first | with_reducible refine And.intro ?_ ?_
  all_goals first | exact hc | rfl | decide
end Go.Proofs.YtopbcpgmffppjaaGreatDoor

namespace Go.Proofs.YtopbcpgmffppjaaGreatDoor
open Go.Dv Go.Nv
set_option maxRecDepth 20000
theorem rdA_ok {m : Mod} {t : Typ} {q : Qst} {s : List UInt8} (h : rdA m t q s = true) : validQ m t q = true ∧ txI m q = s := by
  simpa only [rdA, Bool.and_eq_true, beq_iff_eq] using h
theorem cut_len (s : List UInt8) : (cutM s).2.1.length ≤ s.length := by
  unfold cutM; split
  · simp only [List.length_drop]; omega
  · simp
theorem ne_of_eq {a b : List UInt8} (h : ¬ b = a) : (!(a == b)) = true := by
  simp only [Bool.not_eq_true', beq_eq_false_iff_ne]; exact fun e => h e.symm
theorem read_any (m : Mod) (t : Typ) (hm : ModI m t) (hP : m.places = [[120]] ∨ m.places = [[120], [121]]) (s : List UInt8) (hs : s.length ≤ 1000000) : ∃ (q : Qst) (b : Bool), RdV q.target ∧ (b = true → validQ m t q = true ∧ txI m q = s) ∧ FSpec PP 27 [dMod m, ds s] σ0 (.tup [dQ q, db b]) σ0 := by
  have hc := cut_spec s hs
  have hl := cut_len s
  generalize cutM s = c at hc hl
  obtain ⟨w, rest, f⟩ := c
  simp only at hc hl
  obtain ⟨v, e, hv, hp⟩ := oparse_any rest (by omega)
  by_cases h0 : w = []
  · subst h0; exact ⟨⟨0, 0, zeroV⟩, false, rdV0, fun h => by simp at h, rdq_nil m s rest f hc⟩
  by_cases h1 : w = wCover
  · subst h1
    refine ⟨⟨1, 0, v⟩, _, hv, rdA_ok (t := t), ?_⟩
    rcases hP with h | h
    · exact rdq1_1 m t hm h s rest f v e hv hc hp
    · exact rdq1_2 m t hm h s rest f v e hv hc hp
  by_cases h2 : w = wReach
  · subst h2
    refine ⟨⟨2, 0, v⟩, _, hv, rdA_ok (t := t), ?_⟩
    rcases hP with h | h
    · exact rdq2_1 m t hm h s rest f v e hv hc hp
    · exact rdq2_2 m t hm h s rest f v e hv hc hp
  by_cases h3 : w = wBounded
  · subst h3
    refine ⟨⟨3, 0, zeroV⟩, _, rdV0, rdA_ok (t := t), ?_⟩
    rcases hP with h | h
    · exact rdq3_1 m t hm h s rest f hc
    · exact rdq3_2 m t hm h s rest f hc
  by_cases h4 : w = wPlace
  · subst h4
    by_cases r0 : rest = [120]
    · subst r0
      refine ⟨⟨4, 0, zeroV⟩, _, rdV0, rdA_ok (t := t), ?_⟩
      rcases hP with h | h
      · exact rdq4_1_0 m t hm h s f hc
      · exact rdq4_2_0 m t hm h s f hc
    · have k0 : ([120] == rest) = false := beq_eq_false_iff_ne.2 fun e => r0 e.symm
      rcases hP with h | h
      · exact ⟨⟨4, 0, zeroV⟩, _, rdV0, rdA_ok (t := t), rdq4_1_2 m t hm h s rest f hc k0⟩
      · by_cases r1 : rest = [121]
        · subst r1
          exact ⟨⟨4, 1, zeroV⟩, _, rdV0, rdA_ok (t := t), rdq4_2_1 m t hm h s f hc⟩
        · exact ⟨⟨4, 0, zeroV⟩, _, rdV0, rdA_ok (t := t), rdq4_2_2 m t hm h s rest f hc k0 (beq_eq_false_iff_ne.2 fun e => r1 e.symm)⟩
  by_cases h5 : w = wDead
  · subst h5
    refine ⟨⟨5, 0, zeroV⟩, _, rdV0, rdA_ok (t := t), ?_⟩
    rcases hP with h | h
    · exact rdq5_1 m t hm h s rest f hc
    · exact rdq5_2 m t hm h s rest f hc
  by_cases h6 : w = wHome
  · subst h6
    refine ⟨⟨6, 0, zeroV⟩, _, rdV0, rdA_ok (t := t), ?_⟩
    rcases hP with h | h
    · exact rdq6_1 m t hm h s rest f hc
    · exact rdq6_2 m t hm h s rest f hc
  exact ⟨⟨0, 0, zeroV⟩, false, rdV0, fun h => by simp at h, rdq_none m s w rest f hc (ne_of_eq h0) (ne_of_eq h1) (ne_of_eq h2) (ne_of_eq h3) (ne_of_eq h4) (ne_of_eq h5) (ne_of_eq h6)⟩
mutual
theorem textI_sm : ∀ v : Val, smB v = true → textI v = textV v
  | .mk n l, h => by
    simp only [smB, Bool.and_eq_true, decide_eq_true_eq] at h
    have h1 := textIK_sm l h.2.2 true
    have h2 : Lib.itoa n = Lib.decDigits n.toNat := by unfold Lib.itoa; rw [if_neg (by omega)]
    simp only [textI, textV, h1, h2]
theorem textIK_sm : ∀ l : List Val, smsB l = true → ∀ f, textIK f l = textK f l
  | [], _, f => rfl
  | v :: l, h, f => by
    simp only [smsB, Bool.and_eq_true] at h
    simp only [textIK, textK, textI_sm v h.1, textIK_sm l h.2 false]
end
mutual
theorem sm_rg : ∀ v : Val, smB v = true → rgB v = true
  | .mk n l, h => by
    simp only [smB, Bool.and_eq_true, decide_eq_true_eq] at h
    simp only [rgB, Bool.and_eq_true, decide_eq_true_eq]
    exact ⟨by omega, by omega, sms_rg l h.2.2⟩
theorem sms_rg : ∀ l : List Val, smsB l = true → rgsB l = true
  | [], _ => rfl
  | v :: l, h => by
    simp only [smsB, Bool.and_eq_true] at h
    simp only [rgsB, Bool.and_eq_true]
    exact ⟨sm_rg v h.1, sms_rg l h.2⟩
end
theorem SmV.rd {v : Val} (h : SmV v) : RdV v := ⟨sm_rg v h.small, h.size⟩
theorem rdA_self {m : Mod} {t : Typ} {q : Qst} (h : validQ m t q = true) : rdA m t q (txI m q) = true := by
  simp only [rdA, h, beq_self_eq_true, Bool.and_self]
/-- a question comes back from its text -/
theorem read_back (m : Mod) (t : Typ) (hm : ModI m t) (hP : m.places = [[120]] ∨ m.places = [[120], [121]]) (q : Qst) (hv : SmV q.target) (h : validQ m t q = true) (hl : (txI m q).length ≤ 4096) : FSpec PP 27 [dMod m, ds (txI m q)] σ0 (.tup [dQ q, db true]) σ0 := by
  have hc := cut_spec (txI m q) (by omega)
  have hs := rdA_self h
  have ht : ∀ v, txI m ⟨1, 0, v⟩ = wCover ++ [32] ++ textI v := fun v => rfl
  have ht2 : ∀ v, txI m ⟨2, 0, v⟩ = wReach ++ [32] ++ textI v := fun v => rfl
  have ht4 : ∀ n : Nat, txI m ⟨4, n, zeroV⟩ = wPlace ++ [32] ++ m.places.getD n [] := fun n => rfl
  have hk := valid_is h
  cases hk with
  | cover v =>
    have hp := oparse_spec v hv.small hv.size
    rw [show cutM (txI m ⟨1, 0, v⟩) = (wCover, textV v, true) by rw [ht, textI_sm v hv.small]; rfl] at hc
    rw [← hs]
    rcases hP with e | e
    · exact rdq1_1 m t hm e _ _ true v 0 hv.rd hc hp
    · exact rdq1_2 m t hm e _ _ true v 0 hv.rd hc hp
  | reach v =>
    have hp := oparse_spec v hv.small hv.size
    rw [show cutM (txI m ⟨2, 0, v⟩) = (wReach, textV v, true) by rw [ht2, textI_sm v hv.small]; rfl] at hc
    rw [← hs]
    rcases hP with e | e
    · exact rdq2_1 m t hm e _ _ true v 0 hv.rd hc hp
    · exact rdq2_2 m t hm e _ _ true v 0 hv.rd hc hp
  | bounded =>
    rw [show cutM (txI m ⟨3, 0, zeroV⟩) = (wBounded, [], false) by rfl] at hc
    rw [← hs]
    rcases hP with e | e
    · exact rdq3_1 m t hm e _ _ false hc
    · exact rdq3_2 m t hm e _ _ false hc
  | dead =>
    rw [show cutM (txI m ⟨5, 0, zeroV⟩) = (wDead, [], false) by rfl] at hc
    rw [← hs]
    rcases hP with e | e
    · exact rdq5_1 m t hm e _ _ false hc
    · exact rdq5_2 m t hm e _ _ false hc
  | home =>
    rw [show cutM (txI m ⟨6, 0, zeroV⟩) = (wHome, [], false) by rfl] at hc
    rw [← hs]
    rcases hP with e | e
    · exact rdq6_1 m t hm e _ _ false hc
    · exact rdq6_2 m t hm e _ _ false hc
  | place n hn =>
    rw [← hs]
    rcases hP with e | e
    · obtain rfl : n = 0 := by rw [e] at hn; simp at hn; omega
      rw [show cutM (txI m ⟨4, (0 : Nat), zeroV⟩) = (wPlace, [120], true) by rw [ht4, e]; rfl] at hc
      exact rdq4_1_0 m t hm e _ true hc
    · rcases (show n = 0 ∨ n = 1 by rw [e] at hn; simp at hn; omega) with rfl | rfl
      · rw [show cutM (txI m ⟨4, (0 : Nat), zeroV⟩) = (wPlace, [120], true) by rw [ht4, e]; rfl] at hc
        exact rdq4_2_0 m t hm e _ true hc
      · rw [show cutM (txI m ⟨4, (1 : Nat), zeroV⟩) = (wPlace, [121], true) by rw [ht4, e]; rfl] at hc
        exact rdq4_2_1 m t hm e _ true hc
theorem parse_any (m : Mod) (t : Typ) (hm : ModI m t) (hP : m.places = [[120]] ∨ m.places = [[120], [121]]) (s : List UInt8) : ∃ (q : Qst) (e : Int), RdV q.target ∧ (e = 0 ∨ e = 1 ∨ e = 12) ∧ (e = 0 → validQ m t q = true ∧ txI m q = s) ∧ FSpec PP 15 [dMod m, ds s] σ0 (.tup [dQ q, di e]) σ0 := by
  by_cases hl : s.length ≤ 4096
  · obtain ⟨q, b, h1, h2, h3⟩ := read_any m t hm hP s (by omega)
    cases b with
    | true => exact ⟨q, 0, h1, .inl rfl, fun _ => h2 rfl, qpar_ok m t hm q s hl h3⟩
    | false =>
      refine ⟨⟨0, 0, zeroV⟩, 12, rdV0, .inr (.inr rfl), fun h => absurd h (by decide), ?_⟩
      refine spec_vc mixed fQPar cQPar (by kernel_rfl) (by kernel_rfl) (by kernel_rfl) (by kernel_rfl) 29 (by kernel_rfl) [2] (.c (di 0) <| .k <| .f <| .c (.tup [dQ q, db false]) <| .k .r) ?_
      refine via (by kernel_rfl : (FSpec PP 21 [D.v (vMod m)] (St.mk [] []) (di 0) (St.mk [] []) ∧ decide ((↑(List.length s) : Int) > 4096) = false ∧ FSpec PP 27 [D.v (vMod m), D.v (V.str s)] (St.mk [] []) (D.tup [dQ q, db false]) (St.mk [] []) ∧ D.tup [D.v (V.agg [vi 0, vi 0, vi 0, V.list []]), di 12] = D.tup [dQ (Qst.mk 0 0 zeroV), di 12]) = _) ?_
      exact ⟨hm.walks, decide_eq_false (by omega), h3, rfl⟩
  · refine ⟨⟨0, 0, zeroV⟩, 1, rdV0, .inr (.inl rfl), fun h => absurd h (by decide), ?_⟩
    refine spec_vc mixed fQPar cQPar (by kernel_rfl) (by kernel_rfl) (by kernel_rfl) (by kernel_rfl) 29 (by kernel_rfl) [2] (.c (di 0) <| .k <| .t <| .r) ?_
    refine via (by kernel_rfl : (FSpec PP 21 [D.v (vMod m)] (St.mk [] []) (di 0) (St.mk [] []) ∧ decide ((↑(List.length s) : Int) > 4096) = true ∧ D.tup [D.v (V.agg [vi 0, vi 0, vi 0, V.list []]), di 1] = D.tup [dQ (Qst.mk 0 0 zeroV), di 1]) = _) ?_
    exact ⟨hm.walks, decide_eq_true (by omega), rfl⟩
theorem parse_back (m : Mod) (t : Typ) (hm : ModI m t) (hP : m.places = [[120]] ∨ m.places = [[120], [121]]) (q : Qst) (hv : SmV q.target) (h : validQ m t q = true) (hl : (txI m q).length ≤ 4096) : FSpec PP 15 [dMod m, ds (txI m q)] σ0 (.tup [dQ q, di 0]) σ0 :=
  qpar_ok m t hm q _ hl (read_back m t hm hP q hv h hl)
end Go.Proofs.YtopbcpgmffppjaaGreatDoor
