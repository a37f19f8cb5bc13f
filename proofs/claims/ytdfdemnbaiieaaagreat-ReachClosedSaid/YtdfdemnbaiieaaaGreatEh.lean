/-
  Hunts: data; copies, beginnings, ways: walked.
-/
import Derived.Test.YtdfdemnbaiieaaaGreatEf
namespace Go.Proofs.YtdfdemnbaiieaaaGreat
open Go.Dv Go.Nv
set_option maxRecDepth 20000
structure Hnt where
  found : List Val
  before : List Int
  rules : List Int
  next : Int
  cand : Int
  used : Int
  deriving Inhabited
abbrev vHnt (h : Hnt) : V := .agg [vVs h.found, vIs h.before, vIs h.rules, vi h.next, vi h.cand, vi h.used]
abbrev dHnt (h : Hnt) : D := .v (vHnt h)
structure Vrd where
  decided : Bool
  yes : Bool
  run : List Stp
  coefs : List Int
  mod : Int
  vals : List Int
  closed : List Val
  used : Int
  deriving Inhabited
abbrev vVrd (v : Vrd) : V := .agg [.bool v.decided, .bool v.yes, vSts v.run, vIs v.coefs, vi v.mod, vIs v.vals, vVs v.closed, vi v.used]
abbrev dVrd (v : Vrd) : D := .v (vVrd v)
def openV (u : Int) : Vrd := ⟨false, false, [], [], 0, [], [], u⟩
def yesV (l : List Stp) (u : Int) : Vrd := ⟨true, true, l, [], 0, [], [], u⟩
/- A COPY THAT MAY GROW -/
theorem cloIO_spec (l : List Int) (hl : l.length ≤ 1000000) (h : l ≠ []) : FSpec PP 63 [dIs l] σ0 (.acc 1 (l.map vi)) ⟨[], [(1, 1, l.map vi)]⟩ := by
  refine spec_vc mixed fCloI cCloI (by kernel_rfl) (by kernel_rfl) (by kernel_rfl) (by kernel_rfl) 8 (by kernel_rfl) [] (.a 1 <| .w .r) ?_
  refine via (by kernel_rfl : (List.map vi l ≠ [] ∧ nV = nV ∧ LenOK (List.length nV + List.length (List.map vi l)) 8 ∧ (∀ (y : V), y ∈ List.map vi l → V.size y = 1) ∧ [(1, 1, nV ++ List.map vi l)] = [(1, 1, List.map vi l)] ∧ D.acc 1 ([] ++ List.map vi l) = D.acc 1 (List.map vi l)) = _) ?_
  exact ⟨by simpa using h, rfl, ⟨by simp; omega, by simp; omega⟩, sizes_vi l, rfl, rfl⟩
noncomputable abbrev fROwn : Func := Tryz.f37
noncomputable def cROwn : Code := fROwn.body.getD .skip
abbrev cAc (h : Hnt) : List D := [.acc 1 (h.found.map eV), .acc 2 (h.before.map vi), .acc 3 (h.rules.map vi), di h.next, di h.cand, di h.used]
abbrev owA (h : Hnt) : List (Nat × Nat × List V) := [(3, 1, h.rules.map vi), (2, 1, h.before.map vi), (1, 2, h.found.map eV)]
theorem rown_spec (h : Hnt) (h1 : h.found.length ≤ 100000) (hs : ∀ v ∈ h.found, v.size ≤ 1000000) (h2 : h.before.length ≤ 100000) (h3 : h.rules.length ≤ 100000) (hb : h.before ≠ []) (hr : h.rules ≠ []) :
    FSpec PP 37 [dHnt h] σ0 (.dagg (cAc h)) ⟨[], owA h⟩ := by
  refine spec_vc mixed fROwn cROwn (by kernel_rfl) (by kernel_rfl) (by kernel_rfl) (by kernel_rfl) 16 (by kernel_rfl) [] (.h (.ck 1 1 2 (h.found.map eV)) <| .h (.ck 2 1 1 (h.before.map vi)) <| .h (.ck 3 1 1 (h.rules.map vi)) <| .h (.m (.dagg (cAc h))) .rd) ?_
  refine via (by kernel_rfl : (FSpec PP 41 [D.v (vVs h.found)] (St.mk [] []) (D.acc 1 (List.map eV h.found)) (St.mk [] [(1, 2, List.map eV h.found)]) ∧ FSpec PP 63 [D.v (vIs h.before)] (St.mk [] []) (D.acc 1 (List.map vi h.before)) (St.mk [] [(1, 1, List.map vi h.before)]) ∧ FSpec PP 63 [D.v (vIs h.rules)] (St.mk [] []) (D.acc 1 (List.map vi h.rules)) (St.mk [] [(1, 1, List.map vi h.rules)]) ∧ (True ∧ (some [D.v (vIs h.before)] = some [D.v (vIs h.before)] ∧ True) ∧ (some [D.v (vIs h.rules)] = some [D.v (vIs h.rules)] ∧ some [D.v (vIs h.rules)] = some [D.v (vIs h.rules)] ∧ True) ∧ True) ∧ 6 ≤ 6 ∧ [D.acc 1 (List.map eV h.found), D.acc 2 (List.map vi h.before), D.acc 3 (List.map vi h.rules), di h.next, di h.cand, di h.used] = cAc h ∧ [(3, 1, List.map vi h.rules), (2, 1, List.map vi h.before), (1, 2, List.map eV h.found)] = [(3, 1, List.map vi h.rules), (2, 1, List.map vi h.before), (1, 2, List.map eV h.found)] ∧ D.dagg [D.acc 1 (List.map eV h.found), D.acc 2 (List.map vi h.before), D.acc 3 (List.map vi h.rules), di h.next, di h.cand, di h.used] = D.dagg (cAc h)) = _) ?_
  exact ⟨all_spec _ h1 hs, cloIO_spec _ (by omega) hb, cloIO_spec _ (by omega) hr, ⟨trivial, ⟨rfl, trivial⟩, ⟨rfl, rfl, trivial⟩, trivial⟩, by decide, rfl, rfl, rfl⟩
noncomputable abbrev fAskd : Func := Tryz.f35
noncomputable def cAskd : Code := fAskd.body.getD .skip
theorem askd_spec (m : Mod) (hm : PlC m) (c : Val) (hc : CfgOK m c) : FSpec PP 35 [dMod m, dV c] σ0 (di 0) σ0 := by
  refine spec_vc mixed fAskd cAskd (by kernel_rfl) (by kernel_rfl) (by kernel_rfl) (by kernel_rfl) 15 (by kernel_rfl) [2, 3] (.c (di 0) <| .c (db true) .r) ?_
  refine via (by kernel_rfl : (FSpec PP 60 [D.v (vMod m)] (St.mk [] []) (di 0) (St.mk [] []) ∧ FSpec PP 61 [D.v (vMod m), D.v (vVal c)] (St.mk [] []) (db true) (St.mk [] []) ∧ di 0 = di 0) = _) ?_
  have hsz := hc.size hm
  have h1 := mval_spec m hm.ok c (by omega)
  rw [hc.valid hm] at h1
  exact ⟨wlk_spec m hm.ok, h1, rfl⟩
def hnt0 (m : Mod) : Hnt := ⟨[m.start], [-1], [-1], 0, 0, 0⟩
noncomputable abbrev fRStart : Func := Tryz.f18
noncomputable def cRStart : Code := fRStart.body.getD .skip
theorem rstart_spec (m : Mod) (hm : PlC m) (c : Val) (hc : CfgOK m c) : FSpec PP 18 [dMod m, dV c] σ0 (.tup [dHnt (hnt0 m), di 0]) σ0 := by
  refine spec_vc mixed fRStart cRStart (by kernel_rfl) (by kernel_rfl) (by kernel_rfl) (by kernel_rfl) 21 (by kernel_rfl) [2, 3] (.c (di 0) <| .c (dV m.start) .r) ?_
  refine via (by kernel_rfl : (FSpec PP 35 [D.v (vMod m), D.v (vVal c)] (St.mk [] []) (di 0) (St.mk [] []) ∧ FSpec PP 36 [D.v (V.agg [vi (Val.n m.start), vVs (Val.kids m.start)])] (St.mk [] []) (dV m.start) (St.mk [] []) ∧ D.tup [D.v (V.agg [V.list [vVal m.start], V.list [vi (-1)], V.list [vi (-1)], vi 0, vi 0, vi 0]), di 0] = D.tup [dHnt (hnt0 m), di 0]) = _) ?_
  have hsz := hm.start.size hm
  refine ⟨askd_spec m hm c hc, own_spec _ m.start (Nat.le_refl _) (by omega), ?_⟩
  rw [show dHnt (hnt0 m) = D.v (.agg [.list [eV m.start], .list [vi (-1)], .list [vi (-1)], vi 0, vi 0, vi 0]) from rfl, enc_eq]
/- REVERSED -/
noncomputable abbrev fRev : Func := Tryz.f104
noncomputable def cRev : Code := fRev.body.getD .skip
def swapL {α : Type} (l : List α) (i j : Nat) : List α := match l[i]?, l[j]? with
  | some a, some b => (l.set i b).set j a
  | _, _ => l
def revS {α : Type} : Nat → Nat → List α → List α
  | 0, _, l => l
  | n + 1, i, l => if 2 * i + 1 < l.length then revS n (i + 1) (swapL l i (l.length - 1 - i)) else l
theorem swapL_len {α : Type} (l : List α) (i j : Nat) : (swapL l i j).length = l.length := by
  unfold swapL; split <;> simp
theorem revS_len {α : Type} : ∀ (n i : Nat) (l : List α), (revS n i l).length = l.length
  | 0, _, _ => rfl
  | n + 1, i, l => by
    rw [revS]; split
    · rw [revS_len n, swapL_len]
    · rfl
theorem flatS_cons (s : Stp) (l : List Stp) : flatV ((s :: l).map vSt) = [di s.1, di s.2.n, dVs s.2.kids] ++ flatV (l.map vSt) := by
  simp only [flatV, List.map_cons, List.flatMap_cons, List.map_append]; rfl
theorem flatS_app (l k : List Stp) : flatV ((l ++ k).map vSt) = flatV (l.map vSt) ++ flatV (k.map vSt) := by
  simp only [flatV, List.map_append, List.flatMap_append]
theorem flatS_len : ∀ l : List Stp, (flatV (l.map vSt)).length = l.length * 3
  | [] => rfl
  | v :: l => by rw [flatS_cons, List.length_append, flatS_len l, List.length_cons]; simp; omega
theorem flatS_at {l : List Stp} {i : Nat} {x : Stp} (h : l[i]? = some x) : ((flatV (l.map vSt)).drop (i * 3)).take 3 = [di x.1, di x.2.n, dVs x.2.kids] := by
  obtain ⟨hi, rfl⟩ := List.getElem?_eq_some_iff.1 h
  have e : l = l.take i ++ l[i] :: l.drop (i + 1) := by rw [← List.drop_eq_getElem_cons hi, List.take_append_drop]
  conv => lhs; rw [e]
  rw [flatS_app, flatS_cons, List.drop_left' (by rw [flatS_len, List.length_take]; omega)]
  rfl
theorem flatS_put {l : List Stp} {i : Nat} (hi : i < l.length) (x : Stp) : (flatV (l.map vSt)).take (i * 3) ++ [di x.1, di x.2.n, dVs x.2.kids] ++ (flatV (l.map vSt)).drop (i * 3 + 3) = flatV ((l.set i x).map vSt) := by
  have e : l = l.take i ++ l[i] :: l.drop (i + 1) := by rw [← List.drop_eq_getElem_cons hi, List.take_append_drop]
  have e2 : l.set i x = l.take i ++ x :: l.drop (i + 1) := by rw [List.set_eq_take_append_cons_drop, if_pos hi]
  have hl : (flatV ((l.take i).map vSt)).length = i * 3 := by rw [flatS_len, List.length_take]; omega
  rw [e2, flatS_app, flatS_cons]
  conv => lhs; rw [e]
  rw [flatS_app, flatS_cons, List.take_left' hl, ← List.drop_drop, List.drop_left' hl, List.append_assoc]
  rfl
abbrev stR (l : List Stp) : St := ⟨[some (flatV (l.map vSt))], []⟩
theorem rev_loop (N : Nat) (hN : N ≤ 1000) (n : Nat) : ∀ (i : Nat) (l : List Stp), l.length = N → N - 2 * i ≤ 2 * n →
    Rn PP fRev 1 (.tup []) (stR (revS n i l)) ([.lp (sub cRev [1, 0, 0]), .blk 0] ++ []) (mkE 28 [(0, .arr 0 0 N), (2, di i), (3, di ((N : Int) - 1 - i))]) (stR l) := by
  induction n with
  | zero =>
    intro i l hl hn
    refine loop_vc mixed 28 [] (.f .ro) ?_
    refine via (by kernel_rfl : (decide ((↑i : Int) < (↑N : Int) - 1 - (↑i : Int)) = false ∧ ([] : List KI) = [] ∧ okH 1 [] [some (flatV (List.map vSt l))] = true ∧ [some (flatV (List.map vSt l))] = [some (flatV (List.map vSt (revS 0 i l)))] ∧ D.tup [] = D.tup []) = _) ?_
    exact ⟨decide_eq_false (by omega), rfl, Bool.and_eq_true_iff.2 ⟨okNs_flatV 1 [] _, rfl⟩, rfl, rfl⟩
  | succ n ih =>
    intro i l hl hn
    by_cases h : 2 * i + 1 < N
    · obtain ⟨a, ha⟩ : ∃ a, l[i]? = some a := ⟨_, List.getElem?_eq_getElem (show i < l.length by omega)⟩
      obtain ⟨b, hb⟩ : ∃ b, l[N - 1 - i]? = some b := ⟨_, List.getElem?_eq_getElem (show N - 1 - i < l.length by omega)⟩
      refine loop_vc mixed 28 [] (.t <| .m (.v (vSt b)) <| .m (.v (vSt a)) <| .h .ww <| .h .ww <| .lo [ke 0, ch 2 (di (i + 1 : Nat)), ch 3 (di ((N : Int) - 1 - (i + 1 : Nat)))] (stR ((l.set i b).set (N - 1 - i) a))) ?_
      refine via (by kernel_rfl : (decide ((↑i : Int) < (↑N : Int) - 1 - (↑i : Int)) = true ∧ 0 ≤ (↑N : Int) - 1 - (↑i : Int) ∧ (↑N : Int) - 1 - (↑i : Int) < (↑N : Int) ∧ 0 + Int.toNat ((↑N : Int) - 1 - (↑i : Int)) * 3 + 3 ≤ List.length (flatV (List.map vSt l)) ∧ List.take 3 (List.drop (0 + Int.toNat ((↑N : Int) - 1 - (↑i : Int)) * 3) (flatV (List.map vSt l))) = [di b.fst, di (Val.n b.snd), D.v (vVs (Val.kids b.snd))] ∧ 0 ≤ (↑i : Int) ∧ (↑i : Int) < (↑N : Int) ∧ 0 + Int.toNat (↑i : Int) * 3 + 3 ≤ List.length (flatV (List.map vSt l)) ∧ List.take 3 (List.drop (0 + Int.toNat (↑i : Int) * 3) (flatV (List.map vSt l))) = [di a.fst, di (Val.n a.snd), D.v (vVs (Val.kids a.snd))] ∧ 0 ≤ (↑i : Int) ∧ (↑i : Int) < (↑N : Int) ∧ 0 + Int.toNat (↑i : Int) * 3 + 3 ≤ List.length (flatV (List.map vSt l)) ∧ 0 ≤ (↑N : Int) - 1 - (↑i : Int) ∧ (↑N : Int) - 1 - (↑i : Int) < (↑N : Int) ∧ 0 + Int.toNat ((↑N : Int) - 1 - (↑i : Int)) * 3 + 3 ≤ List.length (List.take (0 + Int.toNat (↑i : Int) * 3) (flatV (List.map vSt l)) ++ cellsD (D.v (V.agg (vi b.fst :: vi (Val.n b.snd) :: vVs (Val.kids b.snd) :: nV))) ++ List.drop (0 + Int.toNat (↑i : Int) * 3 + 3) (flatV (List.map vSt l))) ∧ (True ∧ True ∧ True) ∧ di (IntKind.wrap IntKind.i64 ((↑i : Int) + 1)) = di (↑(i + 1) : Int) ∧ di (IntKind.wrap IntKind.i64 ((↑N : Int) - 1 - (↑i : Int) - 1)) = di ((↑N : Int) - 1 - (↑(i + 1) : Int)) ∧ okH 1 [] [some (List.take (0 + Int.toNat ((↑N : Int) - 1 - (↑i : Int)) * 3) (List.take (0 + Int.toNat (↑i : Int) * 3) (flatV (List.map vSt l)) ++ [di b.fst, di (Val.n b.snd), D.v (vVs (Val.kids b.snd))] ++ List.drop (0 + Int.toNat (↑i : Int) * 3 + 3) (flatV (List.map vSt l))) ++ [di a.fst, di (Val.n a.snd), D.v (vVs (Val.kids a.snd))] ++ List.drop (0 + Int.toNat ((↑N : Int) - 1 - (↑i : Int)) * 3 + 3) (List.take (0 + Int.toNat (↑i : Int) * 3) (flatV (List.map vSt l)) ++ [di b.fst, di (Val.n b.snd), D.v (vVs (Val.kids b.snd))] ++ List.drop (0 + Int.toNat (↑i : Int) * 3 + 3) (flatV (List.map vSt l))))] = true ∧ [some (List.take (0 + Int.toNat ((↑N : Int) - 1 - (↑i : Int)) * 3) (List.take (0 + Int.toNat (↑i : Int) * 3) (flatV (List.map vSt l)) ++ [di b.fst, di (Val.n b.snd), D.v (vVs (Val.kids b.snd))] ++ List.drop (0 + Int.toNat (↑i : Int) * 3 + 3) (flatV (List.map vSt l))) ++ [di a.fst, di (Val.n a.snd), D.v (vVs (Val.kids a.snd))] ++ List.drop (0 + Int.toNat ((↑N : Int) - 1 - (↑i : Int)) * 3 + 3) (List.take (0 + Int.toNat (↑i : Int) * 3) (flatV (List.map vSt l)) ++ [di b.fst, di (Val.n b.snd), D.v (vVs (Val.kids b.snd))] ++ List.drop (0 + Int.toNat (↑i : Int) * 3 + 3) (flatV (List.map vSt l))))] = [some (flatV (List.map vSt (List.set (List.set l i b) (N - 1 - i) a)))] ∧ Nv.It (RunC (CN 1) PP (fun env σ1 => ResOK PP fRev env σ1 (D.tup []) (stR (revS (n + 1) i l))) [KI.lp (sub cRev [1, 0, 0]), KI.blk 0] (mkE 28 [(0, D.arr 0 0 N), (2, di (↑(i + 1) : Int)), (3, di ((↑N : Int) - 1 - (↑(i + 1) : Int)))]) (stR (List.set (List.set l i b) (N - 1 - i) a)))) = _) ?_
      have e0 : 0 + Int.toNat (i : Int) * 3 = i * 3 := by omega
      have e1 : 0 + Int.toNat ((N : Int) - 1 - i) * 3 = (N - 1 - i) * 3 := by omega
      have f1 : (flatV (l.map vSt)).take (i * 3) ++ [di b.1, di b.2.n, D.v (vVs b.2.kids)] ++ (flatV (l.map vSt)).drop (i * 3 + 3) = flatV ((l.set i b).map vSt) := flatS_put (by omega) b
      have f2 : (flatV ((l.set i b).map vSt)).take ((N - 1 - i) * 3) ++ [di a.1, di a.2.n, D.v (vVs a.2.kids)] ++ (flatV ((l.set i b).map vSt)).drop ((N - 1 - i) * 3 + 3) = flatV (((l.set i b).set (N - 1 - i) a).map vSt) := flatS_put (by rw [List.length_set]; omega) a
      have f3 : cellsD (D.v (V.agg (vi b.1 :: vi b.2.n :: vVs b.2.kids :: nV))) = [di b.1, di b.2.n, D.v (vVs b.2.kids)] := rfl
      have g1 : swapL l i (N - 1 - i) = (l.set i b).set (N - 1 - i) a := by rw [swapL, ha, hb]
      have g2 : revS (n + 1) i l = revS n (i + 1) ((l.set i b).set (N - 1 - i) a) := by rw [revS, if_pos (by omega), hl, g1]
      have hll : (flatV (l.map vSt)).length = N * 3 := by rw [flatS_len, hl]
      have hls : (flatV ((l.set i b).map vSt)).length = N * 3 := by rw [flatS_len, List.length_set, hl]
      rw [e0, e1, f3, f1, f2, g2]
      refine ⟨decide_eq_true (by omega), by omega, by omega, by omega, flatS_at hb, by omega, by omega, by omega, flatS_at ha, by omega, by omega, by omega, by omega, by omega, by omega, ⟨trivial, trivial, trivial⟩, wrap_succ (by omega), ?_, ?_, rfl, ⟨ih (i + 1) _ (by simp [hl]) (by omega)⟩⟩
      · rw [wrap_id (by omega) (by omega), show (N : Int) - 1 - i - 1 = (N : Int) - 1 - ((i + 1 : Nat) : Int) by omega]
      · exact Bool.and_eq_true_iff.2 ⟨okNs_flatV 1 [] _, rfl⟩
    · refine loop_vc mixed 28 [] (.f .ro) ?_
      refine via (by kernel_rfl : (decide ((↑i : Int) < (↑N : Int) - 1 - (↑i : Int)) = false ∧ ([] : List KI) = [] ∧ okH 1 [] [some (flatV (List.map vSt l))] = true ∧ [some (flatV (List.map vSt l))] = [some (flatV (List.map vSt (revS (n + 1) i l)))] ∧ D.tup [] = D.tup []) = _) ?_
      rw [revS, if_neg (by omega)]
      exact ⟨decide_eq_false (by omega), rfl, Bool.and_eq_true_iff.2 ⟨okNs_flatV 1 [] _, rfl⟩, rfl, rfl⟩
theorem rev_spec (l : List Stp) (hl : l.length ≤ 1000) : FSpec PP 104 [.arr 0 0 l.length] (stR l) (.tup []) (stR (revS l.length 0 l)) := by
  refine spec_vc mixed fRev cRev (by kernel_rfl) (by kernel_rfl) (by kernel_rfl) (by kernel_rfl) 28 (by kernel_rfl) [] (.lo [ke 0, ch 2 (di (0 : Nat)), ch 3 (di ((l.length : Int) - 1 - (0 : Nat)))] (stR l)) ?_
  refine via (by kernel_rfl : (di 0 = di (↑0 : Int) ∧ di (IntKind.wrap IntKind.i64 ((↑(List.length l) : Int) - 1)) = di ((↑(List.length l) : Int) - 1 - (↑0 : Int)) ∧ okH 1 [] [some (flatV (List.map vSt l))] = true ∧ [some (flatV (List.map vSt l))] = [some (flatV (List.map vSt l))] ∧ Nv.It (RunC (CN (List.length (stR l).H)) PP (fun env σ1 => ResOK PP fRev env σ1 (D.tup []) (stR (revS (List.length l) 0 l))) [KI.lp (sub cRev [1, 0, 0]), KI.blk 0] (mkE 28 [(0, D.arr 0 0 (List.length l)), (2, di (↑0 : Int)), (3, di ((↑(List.length l) : Int) - 1 - (↑0 : Int)))]) (stR l))) = _) ?_
  refine ⟨rfl, by rw [wrap_id (by omega) (by omega)]; exact congrArg di (by omega), Bool.and_eq_true_iff.2 ⟨okNs_flatV 1 [] _, rfl⟩, rfl, ⟨rev_loop l.length (by omega) l.length 0 l rfl (by omega)⟩⟩
theorem rev_nil : FSpec PP 104 [dl []] σ0 (.tup []) σ0 := by
  refine spec_vc mixed fRev cRev (by kernel_rfl) (by kernel_rfl) (by kernel_rfl) (by kernel_rfl) 28 (by kernel_rfl) [] (.n <| .f .r) ?_
  refine via (by kernel_rfl : (decide (0 < IntKind.wrap IntKind.i64 ((↑(List.length nV) : Int) - 1)) = false ∧ ([] : List KI) = [] ∧ D.tup [] = D.tup []) = _) ?_
  exact ⟨by decide, rfl, rfl⟩
/- THE WAY TO A CONFIGURATION -/
noncomputable abbrev fWay : Func := Tryz.f67
noncomputable def cWay : Code := fWay.body.getD .skip
abbrev cPl (h : Hnt) (m : Mod) (c : Val) : List D := [dVs h.found, dIs h.before, dIs h.rules, di h.next, di h.cand, di h.used, di m.kind, .v (vSs m.states), .v (vSs m.places), .v (vSs m.letters), .v (vIs m.ranks), di m.levels, di m.age, .v (vRuls m.rules), di m.start.n, dVs m.start.kids, di c.n, dVs c.kids]
abbrev stH (h : Hnt) (m : Mod) (c : Val) : St := ⟨[some (cPl h m c)], []⟩
/-- what is right with a hunt -/
structure HntOK (h : Hnt) : Prop where
  ne : h.found ≠ []
  len : h.found.length ≤ 128
  size : ∀ v ∈ h.found, v.size ≤ 1000
  bl : h.before.length = h.found.length
  rl : h.rules.length = h.found.length
  back : ∀ (i : Nat) (b : Int), h.before[i]? = some b → -1 ≤ b ∧ b < i
def wayL (h : Hnt) : Nat → Int → List Stp
  | 0, _ => []
  | f + 1, n => if h.before.getD n.toNat 0 ≥ 0 then (h.rules.getD n.toNat 0, h.found.getD n.toNat default) :: wayL h f (h.before.getD n.toNat 0) else []
def wayM (h : Hnt) (n : Int) : List Stp := revS (wayL h 200 n).length 0 (wayL h 200 n)
abbrev Hole (j : Nat) (xs : List Stp) : List (Option (List D)) := List.replicate j none ++ [some (flatV (xs.map vSt))]
theorem hole_get (x : List D) (j : Nat) (xs : List Stp) : (some x :: Hole j xs)[j + 1]? = some (some (flatV (xs.map vSt))) := by
  rw [List.getElem?_cons_succ, Hole, List.getElem?_append_right (by simp)]; simp
theorem hole_len (x : List D) (j : Nat) (xs : List Stp) : (some x :: Hole j xs).length = j + 2 := by simp [Hole]
theorem hole_set (x : List D) (j : Nat) (xs : List Stp) (o : Option (List D)) : (some x :: Hole j xs).set (j + 1) o = some x :: (List.replicate j none ++ [o]) := by
  rw [List.set_cons_succ, Hole, List.set_append_right _ _ (by simp)]; simp
theorem way_loop (h : Hnt) (hh : HntOK h) (m : Mod) (c : Val) (f : Nat) : ∀ (n j : Nat) (xs : List Stp), n < f → n < h.found.length → xs ≠ [] → xs.length + f ≤ 200 →
    Rn PP fWay 1 (.v (vSts (revS (xs ++ wayL h f n).length 0 (xs ++ wayL h f n)))) (stH h m c) ([.lp (sub cWay [1, 1, 0, 0, 0]), .blk 0, .code (sub cWay [1, 1, 1])] ++ []) (mkE 47 [(0, .ptr 0 0), (1, di n), (5, .gro (j + 1) xs.length 3)]) ⟨some (cPl h m c) :: Hole j xs, []⟩ := by
  induction f with
  | zero => intro n j xs h1; omega
  | succ f ih =>
    intro n j xs h1 h3 h4 h5
    obtain ⟨b, hb⟩ : ∃ b, h.before[n]? = some b := ⟨_, List.getElem?_eq_getElem (by rw [hh.bl]; exact h3)⟩
    obtain ⟨rl, hr⟩ : ∃ b, h.rules[n]? = some b := ⟨_, List.getElem?_eq_getElem (by rw [hh.rl]; exact h3)⟩
    obtain ⟨v, hv⟩ : ∃ b, h.found[n]? = some b := ⟨_, List.getElem?_eq_getElem h3⟩
    have hbk := hh.back n b hb
    by_cases hb0 : b ≥ 0
    · refine loop_vc mixed 47 [] (.x (vi b) <| .t <| .x (vi rl) <| .h (.xs (vVal v)) <| .c (dV v) <| .h (.gx (flatV (xs.map vSt)) (some (cPl h m c) :: Hole (j + 1) (xs ++ [(rl, v)]))) <| .x (vi b) <| .l [ke 0, ch 1 (di b.toNat), ch 5 (.gro (j + 2) (xs ++ [(rl, v)]).length 3)]) ?_
      refine via (by kernel_rfl : (0 ≤ (↑n : Int) ∧ (List.map vi h.before)[Int.toNat (↑n : Int)]? = some (vi b) ∧ decide (b ≥ 0) = true ∧ 0 ≤ (↑n : Int) ∧ (List.map vi h.rules)[Int.toNat (↑n : Int)]? = some (vi rl) ∧ 2 = 2 ∧ 0 ≤ (↑n : Int) ∧ (List.map eV h.found)[Int.toNat (↑n : Int)]? = some (vVal v) ∧ FSpec PP 36 [D.v (vVal v)] (St.mk [] []) (dV v) (St.mk [] []) ∧ (some (cPl h m c) :: Hole j xs)[j + 1]? = some (some (flatV (List.map vSt xs))) ∧ List.length (flatV (List.map vSt xs)) = List.length xs * 3 ∧ [V.agg [vi rl, vi (Val.n v), vVs (Val.kids v)]] ≠ [] ∧ (∀ (y : V), y ∈ [V.agg [vi rl, vi (Val.n v), vVs (Val.kids v)]] → V.size y = 3) ∧ LenOK (List.length xs + List.length (V.agg (vi rl :: vi (Val.n v) :: vVs (Val.kids v) :: nV) :: nV)) 40 ∧ GxOK (St.mk (some (cPl h m c) :: Hole j xs) []).H (some (cPl h m c) :: Hole (j + 1) (xs ++ [(rl, v)])) (j + 1) (flatV (List.map vSt xs) ++ flatV [V.agg [vi rl, vi (Val.n v), vVs (Val.kids v)]]) ∧ (True ∧ True ∧ True) ∧ 0 ≤ (↑n : Int) ∧ (List.map vi h.before)[Int.toNat (↑n : Int)]? = some (vi b) ∧ di b = di (↑(Int.toNat b) : Int) ∧ D.gro (List.length (St.mk (some (cPl h m c) :: Hole j xs) []).H) (List.length xs + List.length (V.agg (vi rl :: vi (Val.n v) :: vVs (Val.kids v) :: nV) :: nV)) 3 = D.gro (j + 2) (List.length (xs ++ [(rl, v)])) 3 ∧ Nv.It (RunC (CN 1) PP (fun env σ1 => ResOK PP fWay env σ1 (D.v (vSts (revS (List.length (xs ++ wayL h (f + 1) (↑n : Int))) 0 (xs ++ wayL h (f + 1) (↑n : Int))))) (stH h m c)) [KI.lp (sub cWay [1, 1, 0, 0, 0]), KI.blk 0, KI.code (sub cWay [1, 1, 1])] (mkE 47 [(0, D.ptr 0 0), (1, di (↑(Int.toNat b) : Int)), (5, D.gro (j + 2) (List.length (xs ++ [(rl, v)])) 3)]) (St.mk (some (cPl h m c) :: Hole (j + 1) (xs ++ [(rl, v)])) []))) = _) ?_
      have hw : wayL h (f + 1) n = (rl, v) :: wayL h f b := by
        rw [wayL, Int.toNat_natCast, List.getD_eq_getElem?_getD, List.getD_eq_getElem?_getD, List.getD_eq_getElem?_getD, hb, hr, hv]
        simp only [Option.getD_some]; rw [if_pos hb0]
      obtain ⟨b', rfl⟩ : ∃ b' : Nat, b = b' := ⟨b.toNat, by omega⟩
      have e : flatV (xs.map vSt) ++ flatV [V.agg [vi rl, vi v.n, vVs v.kids]] = flatV ((xs ++ [(rl, v)]).map vSt) := by rw [flatS_app]; rfl
      have hi := ih b' (j + 1) (xs ++ [(rl, v)]) (by omega) (by omega) (by simp)
      rw [hw, show xs ++ (rl, v) :: wayL h f (b' : Int) = (xs ++ [(rl, v)]) ++ wayL h f (b' : Int) by simp, e]
      refine ⟨by omega, idx_some hb, decide_eq_true hb0, by omega, idx_some hr, rfl, by omega, idx_val hv, own_spec _ v (Nat.le_refl _) (by have := hh.size v (List.mem_of_getElem? hv); omega), hole_get _ _ _, flatS_len _, by simp, fun y hy => by rw [List.mem_singleton.1 hy]; rfl, ⟨?_, ?_⟩, ⟨?_⟩, ⟨trivial, trivial, trivial⟩, by omega, idx_some hb, rfl, ?_, ⟨?_⟩⟩
      · simp only [List.length_cons, List.length_nil]; omega
      · simp only [List.length_cons, List.length_nil]; omega
      · show _ = (some (cPl h m c) :: Hole j xs).set (j + 1) none ++ _
        rw [hole_set]
        simp [Hole, List.replicate_succ']
      · rw [hole_len]; simp
      · exact hi (by simp; omega)
    · refine loop_vc mixed 47 [] (.x (vi b) <| .f <| .h (.q 5 0) <| .h (.ga 5) <| .h (.q 5 1) <| .h (.oc (.tup []) ⟨some (cPl h m c) :: Hole j (revS xs.length 0 xs), []⟩) <| .h (.q 6 0) <| .h (.ct 5 (.v (vSts (revS xs.length 0 xs))) ⟨some (cPl h m c) :: (List.replicate (j + 1) none), []⟩) .r) ?_
      refine via (by kernel_rfl : (0 ≤ (↑n : Int) ∧ (List.map vi h.before)[Int.toNat (↑n : Int)]? = some (vi b) ∧ decide (b ≥ 0) = false ∧ (∀ (o : Oper) (c_1 : Call) (fo : Operand), o.op = Op.call c_1 → c_1.callee = Callee.value fo → OpOK PP o [D.v (V.fn 104 [] []), D.arr (j + 1) 0 (List.length xs)] (St.mk (some (cPl h m c) :: Hole j xs) []) (D.tup []) (St.mk (some (cPl h m c) :: Hole j (revS (List.length xs) 0 xs)) [])) ∧ (∀ (e : List D), e[5]? = some (D.arr (j + 1) 0 (List.length xs)) → ∀ (E : Ent) (g : Gh) (a : Act) (w : World), FI E g (St.mk (some (cPl h m c) :: Hole j (revS (List.length xs) 0 xs)) []) e a w → ∃ g', FI E g' (St.mk (some (cPl h m c) :: List.replicate (j + 1) none) []) (List.set e 5 (D.v (vSts (revS (List.length xs) 0 xs)))) a w) ∧ [some (cPl h m c)] = [some (cPl h m c)] ∧ D.v (vSts (revS (List.length xs) 0 xs)) = D.v (vSts (revS (List.length (xs ++ wayL h (f + 1) (↑n : Int))) 0 (xs ++ wayL h (f + 1) (↑n : Int))))) = _) ?_
      have hw : wayL h (f + 1) n = [] := by
        rw [wayL, Int.toNat_natCast, List.getD_eq_getElem?_getD, hb]
        simp only [Option.getD_some]; rw [if_neg hb0]
      rw [hw, List.append_nil]
      refine ⟨by omega, idx_some hb, decide_eq_false hb0, fun o c' fo ho hc => ?_, fun e he => ?_, rfl, rfl⟩
      · have := op_call1 (σ := ⟨some (cPl h m c) :: Hole j xs, []⟩) (fs := []) (cs := []) (ds := [.arr (j + 1) 0 xs.length]) (d := .tup []) ho hc (q := j + 1) (hole_get _ _ _) (pls_flatV _) (pls_flatV _) (.arr .nil) (by rfl) (by simpa using rev_spec xs (by omega))
        rwa [hole_set] at this
      · have := cv_flz (σ := ⟨some (cPl h m c) :: Hole j (revS xs.length 0 xs), []⟩) (q := j + 1) (t := 5) (sz := 3) (xs := (revS xs.length 0 xs).map vSt) (by decide) (fun x hx => by obtain ⟨s, _, rfl⟩ := List.mem_map.1 hx; rfl) (by rw [List.length_map, revS_len]) (hole_get _ _ _) he
        rw [hole_set] at this
        rwa [show List.replicate j none ++ [none] = List.replicate (j + 1) (none : Option (List D)) by rw [List.replicate_succ']] at this
theorem way_spec (h : Hnt) (hh : HntOK h) (m : Mod) (c : Val) (n : Nat) (hn : n < h.found.length) : FSpec PP 67 [.ptr 0 0, di n] (stH h m c) (.v (vSts (wayM h n))) (stH h m c) := by
  obtain ⟨b, hb⟩ : ∃ b, h.before[n]? = some b := ⟨_, List.getElem?_eq_getElem (by rw [hh.bl]; exact hn)⟩
  obtain ⟨rl, hr⟩ : ∃ b, h.rules[n]? = some b := ⟨_, List.getElem?_eq_getElem (by rw [hh.rl]; exact hn)⟩
  obtain ⟨v, hv⟩ : ∃ b, h.found[n]? = some b := ⟨_, List.getElem?_eq_getElem hn⟩
  have hbk := hh.back n b hb
  have hlen := hh.len
  by_cases hb0 : b ≥ 0
  · refine spec_vc mixed fWay cWay (by kernel_rfl) (by kernel_rfl) (by kernel_rfl) (by kernel_rfl) 47 (by kernel_rfl) [] (.n <| .x (vi b) <| .t <| .x (vi rl) <| .h (.xs (vVal v)) <| .c (dV v) <| .h (.gx [] (some (cPl h m c) :: Hole 0 [(rl, v)])) <| .x (vi b) <| .l [ke 0, ch 1 (di b.toNat), ch 5 (.gro 1 [(rl, v)].length 3)]) ?_
    refine via (by kernel_rfl : (0 ≤ (↑n : Int) ∧ (List.map vi h.before)[Int.toNat (↑n : Int)]? = some (vi b) ∧ decide (b ≥ 0) = true ∧ 0 ≤ (↑n : Int) ∧ (List.map vi h.rules)[Int.toNat (↑n : Int)]? = some (vi rl) ∧ 2 = 2 ∧ 0 ≤ (↑n : Int) ∧ (List.map eV h.found)[Int.toNat (↑n : Int)]? = some (vVal v) ∧ FSpec PP 36 [D.v (vVal v)] (St.mk [] []) (dV v) (St.mk [] []) ∧ [V.agg [vi rl, vi (Val.n v), vVs (Val.kids v)]] ≠ [] ∧ (∀ (y : V), y ∈ [V.agg [vi rl, vi (Val.n v), vVs (Val.kids v)]] → V.size y = 3) ∧ LenOK 1 40 ∧ some (cPl h m c) :: Hole 0 [(rl, v)] = [some (cPl h m c), some [di rl, di (Val.n v), D.v (vVs (Val.kids v))]] ∧ (True ∧ True ∧ True) ∧ 0 ≤ (↑n : Int) ∧ (List.map vi h.before)[Int.toNat (↑n : Int)]? = some (vi b) ∧ di b = di (↑(Int.toNat b) : Int) ∧ D.gro 1 1 3 = D.gro 1 1 3 ∧ Nv.It (RunC (CN (List.length (stH h m c).H)) PP (fun env σ1 => ResOK PP fWay env σ1 (D.v (vSts (wayM h (↑n : Int)))) (stH h m c)) [KI.lp (sub cWay [1, 1, 0, 0, 0]), KI.blk 0, KI.code (sub cWay [1, 1, 1])] (mkE 47 [(0, D.ptr 0 0), (1, di (↑(Int.toNat b) : Int)), (5, D.gro 1 1 3)]) (St.mk (some (cPl h m c) :: Hole 0 [(rl, v)]) []))) = _) ?_
    have hw : wayL h 200 n = (rl, v) :: wayL h 199 b := by
      rw [wayL, Int.toNat_natCast, List.getD_eq_getElem?_getD, List.getD_eq_getElem?_getD, List.getD_eq_getElem?_getD, hb, hr, hv]
      simp only [Option.getD_some]; rw [if_pos hb0]
    obtain ⟨b', rfl⟩ : ∃ b' : Nat, b = b' := ⟨b.toNat, by omega⟩
    have hi := way_loop h hh m c 199 b' 0 [(rl, v)] (by omega) (by omega) (by simp) (by simp)
    refine ⟨by omega, idx_some hb, decide_eq_true hb0, by omega, idx_some hr, rfl, by omega, idx_val hv, own_spec _ v (Nat.le_refl _) (by have := hh.size v (List.mem_of_getElem? hv); omega), by simp, fun y hy => by rw [List.mem_singleton.1 hy]; rfl, ⟨by decide, by decide⟩, rfl, ⟨trivial, trivial, trivial⟩, by omega, idx_some hb, rfl, rfl, ⟨?_⟩⟩
    rw [wayM, hw]
    exact hi
  · refine spec_vc mixed fWay cWay (by kernel_rfl) (by kernel_rfl) (by kernel_rfl) (by kernel_rfl) 47 (by kernel_rfl) [] (.n <| .x (vi b) <| .f <| .c (.tup []) .r) ?_
    refine via (by kernel_rfl : (0 ≤ (↑n : Int) ∧ (List.map vi h.before)[Int.toNat (↑n : Int)]? = some (vi b) ∧ decide (b ≥ 0) = false ∧ FSpec PP 104 [D.v (V.list [])] (St.mk [] []) (D.tup []) (St.mk [] []) ∧ [some (cPl h m c)] = [some (cPl h m c)] ∧ D.v (V.list []) = D.v (vSts (wayM h (↑n : Int)))) = _) ?_
    have hw : wayL h 200 n = [] := by
      rw [wayL, Int.toNat_natCast, List.getD_eq_getElem?_getD, hb]
      simp only [Option.getD_some]; rw [if_neg hb0]
    exact ⟨by omega, idx_some hb, decide_eq_false hb0, rev_nil, rfl, by rw [wayM, hw]; rfl⟩
end Go.Proofs.YtdfdemnbaiieaaaGreat

namespace Go.Proofs.YtdfdemnbaiieaaaGreat
open Go.Dv Go.Nv
set_option maxRecDepth 20000
abbrev cAcc (h : Hnt) (m : Mod) (c : Val) : List D := [.acc 1 (h.found.map eV), .acc 2 (h.before.map vi), .acc 3 (h.rules.map vi), di h.next, di h.cand, di h.used, di m.kind, .v (vSs m.states), .v (vSs m.places), .v (vSs m.letters), .v (vIs m.ranks), di m.levels, di m.age, .v (vRuls m.rules), di m.start.n, dVs m.start.kids, di c.n, dVs c.kids]
abbrev zVr : List D := [db false, db false, .v .nils, .v .nils, di 0, .v .nils, .v .nils, di 0]
theorem cv_plain (h : Hnt) (m : Mod) (c : Val) (H : List (Option (List D))) (own : List (Nat × Nat × List V)) (e : List D) : Cv e ⟨some (cAcc h m c) :: H, own⟩ e ⟨some (cPl h m c) :: H, own⟩ :=
  cv_cells (σ := ⟨some (cAcc h m c) :: H, own⟩) (q := 0) (cs := cAcc h m c) (cs' := cPl h m c) rfl (fun g us hr => by
    have := repDs_un hr
    simpa [D.un] using this) (fun _ x hx => by
    simp only [cPl, List.mem_cons, List.not_mem_nil, or_false] at hx
    rcases hx with rfl | rfl | rfl | rfl | rfl | rfl | rfl | rfl | rfl | rfl | rfl | rfl | rfl | rfl | rfl | rfl | rfl | rfl <;> rfl) e
noncomputable abbrev fOpn : Func := Tryz.f64
noncomputable def cOpn : Code := fOpn.body.getD .skip
theorem opn_spec (h : Hnt) (m : Mod) (c : Val) : FSpec PP 64 [.ptr 0 0] (stH h m c) (dVrd (openV h.used)) (stH h m c) := by
  refine spec_vc mixed fOpn cOpn (by kernel_rfl) (by kernel_rfl) (by kernel_rfl) (by kernel_rfl) 9 (by kernel_rfl) [] .r ?_
  refine via (by kernel_rfl : ([some (cPl h m c)] = [some (cPl h m c)] ∧ D.v (V.agg [V.bool false, V.bool false, V.list [], V.list [], vi 0, V.list [], V.list [], vi h.used]) = dVrd (openV h.used)) = _) ?_
  exact ⟨rfl, rfl⟩
noncomputable abbrev fYes : Func := Tryz.f39
noncomputable def cYes : Code := fYes.body.getD .skip
theorem yes_spec (h : Hnt) (m : Mod) (c : Val) (l : List Stp) : FSpec PP 39 [.ptr 0 0, .v (vSts l)] (stH h m c) (dVrd (yesV l h.used)) (stH h m c) := by
  refine spec_vc mixed fYes cYes (by kernel_rfl) (by kernel_rfl) (by kernel_rfl) (by kernel_rfl) 12 (by kernel_rfl) [] .r ?_
  refine via (by kernel_rfl : ([some (cPl h m c)] = [some (cPl h m c)] ∧ D.v (V.agg [V.bool true, V.bool true, V.list (List.map vSt l), V.list [], vi 0, V.list [], V.list [], vi h.used]) = dVrd (yesV l h.used)) = _) ?_
  exact ⟨rfl, rfl⟩
noncomputable abbrev fFind : Func := Tryz.f40
noncomputable def cFind : Code := fFind.body.getD .skip
def addH (h : Hnt) (at' : Int) (s : Stp) : Hnt := ⟨h.found ++ [s.2], h.before ++ [at'], h.rules ++ [s.1], h.next, h.cand, h.used⟩
def findL (c : Val) (at' : Int) : Hnt → List Stp → Hnt × Vrd × Int
  | h, [] => (h, openV h.used, 0)
  | h, s :: l => if decide (idxV h.found s.2 ≥ 0) = true then findL c at' h l
    else if decide ((h.found.length : Int) ≥ 128) = true then (h, openV 0, 1)
    else if (!(cmpV s.2 c == 0)) = true then findL c at' (addH h at' s) l
    else if decide (((wayM (addH h at' s) h.found.length).length : Int) > 64) = true then (addH h at' s, openV 0, 1)
    else (addH h at' s, yesV (wayM (addH h at' s) h.found.length) h.used, 0)
abbrev dFnd (r : Hnt × Vrd × Int) : D := .tup [dVrd r.2.1, di r.2.2]
theorem addH_ok {h : Hnt} (hh : HntOK h) (hl : h.found.length < 128) {at' : Int} (ha : 0 ≤ at' ∧ at' < h.found.length) {s : Stp} (hs : s.2.size ≤ 1000) : HntOK (addH h at' s) where
  ne := by simp [addH]
  len := by simp only [addH, List.length_append, List.length_cons, List.length_nil]; omega
  size := fun v hv => by
    rcases List.mem_append.1 hv with hv | hv
    · exact hh.size v hv
    · rw [List.mem_singleton.1 hv]; exact hs
  bl := by have := hh.bl; simp [addH]; omega
  rl := by have := hh.rl; simp [addH]; omega
  back := fun i b hb => by
    have hbl := hh.bl
    by_cases hi : i < h.before.length
    · rw [addH, List.getElem?_append_left hi] at hb; exact hh.back i b hb
    · rw [addH, List.getElem?_append_right (by omega)] at hb
      have : i - h.before.length = 0 := by
        have := (List.getElem?_eq_some_iff.1 hb).1
        simp at this; omega
      rw [this] at hb
      simp at hb; subst hb; omega
abbrev stF (h : Hnt) (m : Mod) (c : Val) : St := ⟨[some (cAcc h m c), some zVr], owA h⟩
theorem find_loop (m : Mod) (hm : PlC m) (c : Val) (at' : Int) (l : List Stp) (hll : l.length ≤ 100) (hls : ∀ s ∈ l, s.2.size ≤ 1000) (N : Nat) : ∀ (k : Nat) (h : Hnt), l.length - k = N → HntOK h → 0 ≤ at' ∧ at' < h.found.length →
    Rn PP fFind 1 (dFnd (findL c at' h (l.drop k))) (stH (findL c at' h (l.drop k)).1 m c) ([.lp (sub cFind [1, 1, 1, 1, 1, 1, 0, 1, 0, 0]), .blk 0, .code (sub cFind [1, 1, 1, 1, 1, 1, 1])] ++ []) (mkE 143 [(0, .ptr 0 0), (2, .ptr 1 0), (4, di at'), (54, .v (vSts l)), (55, di l.length), (56, di k)]) (stF h m c) := by
  induction N with
  | zero =>
    intro k h hn hh ha
    rw [List.drop_of_length_le (by omega)]
    simp only [findL]
    refine loop_vc mixed 143 [] (.f <| .h (.q 21 0) <| .h (.cs ⟨[some (cPl h m c), some zVr], owA h⟩) <| .c1 (cPl h m c) (dVrd (openV h.used)) .r) ?_
    refine via (by kernel_rfl : (decide ((↑k : Int) < (↑(List.length l) : Int)) = false ∧ (∀ (e : List D) (E : Ent) (g : Gh) (a : Act) (w : World), FI E g (St.mk [some (cAcc h m c), some zVr] [(3, 1, List.map vi h.rules), (2, 1, List.map vi h.before), (1, 2, List.map eV h.found)]) e a w → ∃ g', FI E g' (St.mk [some (cPl h m c), some zVr] (owA h)) e a w) ∧ FSpec PP 64 [D.ptr 0 0] (St.mk [some (cPl h m c)] []) (dVrd (openV h.used)) (St.mk [some (cPl h m c)] []) ∧ [some (cPl h m c)] = [some (cPl h m c)] ∧ D.tup [D.v (V.agg [V.bool (openV h.used).decided, V.bool (openV h.used).yes, V.list [], V.list [], vi (openV h.used).mod, V.list [], V.list [], vi (openV h.used).used]), di 0] = dFnd (h, openV h.used, 0)) = _) ?_
    exact ⟨decide_eq_false (by omega), fun e => cv_plain h m c _ _ e, opn_spec h m c, rfl, rfl⟩
  | succ N ih =>
    intro k h hn hh ha
    have hk : k < l.length := by omega
    obtain ⟨s, hs⟩ : ∃ s, l[k]? = some s := ⟨_, List.getElem?_eq_getElem hk⟩
    have e3 : l.drop k = s :: l.drop (k + 1) := by rw [List.drop_eq_getElem_cons hk]; congr 1; rw [List.getElem?_eq_getElem hk] at hs; simpa using hs
    have hss := hls s (List.mem_of_getElem? hs)
    rw [e3]
    have hlen := hh.len
    have hbl := hh.bl
    have hrl := hh.rl
    have hidx := sidx_spec h.found (by omega) (fun v hv => by have := hh.size v hv; omega) s.2
    have hown := own_spec _ s.2 (Nat.le_refl _) (by omega)
    have hsame := ssame_spec s.2 c (by omega)
    have hA : cAcc (addH h at' s) m c = [D.acc 1 (h.found.map eV ++ [vVal s.2]), D.acc 2 (h.before.map vi ++ [vi at']), D.acc 3 (h.rules.map vi ++ [vi s.1]), di h.next, di h.cand, di h.used, di m.kind, .v (vSs m.states), .v (vSs m.places), .v (vSs m.letters), .v (vIs m.ranks), di m.levels, di m.age, .v (vRuls m.rules), di m.start.n, dVs m.start.kids, di c.n, dVs c.kids] := by
      rw [append_val]
      show [D.acc 1 ((h.found ++ [s.2]).map eV), D.acc 2 ((h.before ++ [at']).map vi), D.acc 3 ((h.rules ++ [s.1]).map vi), _, _, _, _, _, _, _, _, _, _, _, _, _, _, _] = _
      simp only [List.map_append, List.map_cons, List.map_nil]; rfl
    have hO : owA (addH h at' s) = [(3, 1, h.rules.map vi ++ [vi s.1]), (2, 1, h.before.map vi ++ [vi at']), (1, 2, h.found.map eV ++ [vVal s.2])] := by
      rw [append_val]
      show [(3, 1, (h.rules ++ [s.1]).map vi), (2, 1, (h.before ++ [at']).map vi), (1, 2, (h.found ++ [s.2]).map eV)] = _
      simp only [List.map_append, List.map_cons, List.map_nil]
    have lk : ∀ {n : Nat} {b : Nat}, n ≤ 128 → b ≤ 100 → LenOK (n + 1) b := fun {n b} h1 h2 => ⟨by
      have := Nat.mul_le_mul (show n + 1 ≤ 129 by omega) h2
      omega, by omega⟩
    by_cases h1 : decide (idxV h.found s.2 ≥ 0) = true
    · rw [findL, if_pos h1]
      refine loop_vc mixed 143 [] (.t <| .x (vSt s) <| .c (di (idxV h.found s.2)) <| .t <| .ls [ke 0, ke 2, ke 4, ke 54, ke 55, ch 56 (di (k + 1 : Nat))] (stF h m c)) ?_
      refine via (by kernel_rfl : (decide ((↑k : Int) < (↑(List.length l) : Int)) = true ∧ 0 ≤ (↑k : Int) ∧ (List.map vSt l)[Int.toNat (↑k : Int)]? = some (vSt s) ∧ FSpec PP 66 [D.v (V.list (List.map eV h.found)), D.v (V.agg [vi (Val.n s.snd), vVs (Val.kids s.snd)])] (St.mk [] []) (di (idxV h.found s.snd)) (St.mk [] []) ∧ (True ∧ True ∧ True) ∧ decide (idxV h.found s.snd ≥ 0) = true ∧ di (IntKind.wrap IntKind.i64 ((↑k : Int) + 1)) = di (↑(k + 1) : Int) ∧ [some (cAcc h m c), some zVr] = [some (cAcc h m c), some zVr] ∧ [(3, 1, List.map vi h.rules), (2, 1, List.map vi h.before), (1, 2, List.map eV h.found)] = [(3, 1, List.map vi h.rules), (2, 1, List.map vi h.before), (1, 2, List.map eV h.found)] ∧ Nv.It (RunC (CN 1) PP (fun env σ1 => ResOK PP fFind env σ1 (dFnd (findL c at' h (List.drop (k + 1) l))) (stH (findL c at' h (List.drop (k + 1) l)).fst m c)) [KI.lp (sub cFind [1, 1, 1, 1, 1, 1, 0, 1, 0, 0]), KI.blk 0, KI.code (sub cFind [1, 1, 1, 1, 1, 1, 1])] (mkE 143 [(0, D.ptr 0 0), (2, D.ptr 1 0), (4, di at'), (54, D.v (vSts l)), (55, di (↑(List.length l) : Int)), (56, di (↑(k + 1) : Int))]) (stF h m c))) = _) ?_
      exact ⟨decide_eq_true (by omega), by omega, idx_some hs, hidx, ⟨trivial, trivial, trivial⟩, h1, wrap_succ (by omega), rfl, rfl, ⟨ih (k + 1) h (by omega) hh ha⟩⟩
    · have f1 := eq_false_of_ne_true h1
      by_cases h2 : decide ((h.found.length : Int) ≥ 128) = true
      · rw [findL, if_neg h1, if_pos h2]
        refine loop_vc mixed 143 [] (.t <| .x (vSt s) <| .c (di (idxV h.found s.2)) <| .f <| .t <| .h (.q 13 0) <| .h (.cs ⟨[some (cPl h m c), some zVr, some [di s.1, di s.2.n, dVs s.2.kids]], owA h⟩) .r) ?_
        refine via (by kernel_rfl : (decide ((↑k : Int) < (↑(List.length l) : Int)) = true ∧ 0 ≤ (↑k : Int) ∧ (List.map vSt l)[Int.toNat (↑k : Int)]? = some (vSt s) ∧ FSpec PP 66 [D.v (V.list (List.map eV h.found)), D.v (V.agg [vi (Val.n s.snd), vVs (Val.kids s.snd)])] (St.mk [] []) (di (idxV h.found s.snd)) (St.mk [] []) ∧ (True ∧ True ∧ True) ∧ decide (idxV h.found s.snd ≥ 0) = false ∧ decide ((↑(List.length (List.map eV h.found)) : Int) ≥ 128) = true ∧ (∀ (e : List D) (E : Ent) (g : Gh) (a : Act) (w : World), FI E g (St.mk [some (cAcc h m c), some zVr, some [D.v (vi s.fst), D.v (vi (Val.n s.snd)), D.v (vVs (Val.kids s.snd))]] [(3, 1, List.map vi h.rules), (2, 1, List.map vi h.before), (1, 2, List.map eV h.found)]) e a w → ∃ g', FI E g' (St.mk [some (cPl h m c), some zVr, some [di s.fst, di (Val.n s.snd), dVs (Val.kids s.snd)]] (owA h)) e a w) ∧ [some (cPl h m c)] = [some (cPl (h, openV 0, 1).fst m c)] ∧ D.tup [D.v (V.agg [V.bool false, V.bool false, V.list [], V.list [], vi 0, V.list [], V.list [], vi 0]), di 1] = dFnd (h, openV 0, 1)) = _) ?_
        exact ⟨decide_eq_true (by omega), by omega, idx_some hs, hidx, ⟨trivial, trivial, trivial⟩, f1, by rw [List.length_map]; exact h2, fun e => cv_plain h m c _ _ e, rfl, rfl⟩
      · have f2 := eq_false_of_ne_true h2
        have hlt : h.found.length < 128 := by have := of_decide_eq_false f2; omega
        have hok := addH_ok hh hlt ha hss
        by_cases h3 : (!(cmpV s.2 c == 0)) = true
        · rw [findL, if_neg h1, if_neg h2, if_pos h3]
          refine loop_vc mixed 143 [] (.t <| .x (vSt s) <| .c (di (idxV h.found s.2)) <| .f <| .f <| .c (dV s.2) <| .c (db (cmpV s.2 c == 0)) <| .t <| .ls [ke 0, ke 2, ke 4, ke 54, ke 55, ch 56 (di (k + 1 : Nat))] (stF (addH h at' s) m c)) ?_
          refine via (by kernel_rfl : (decide ((↑k : Int) < (↑(List.length l) : Int)) = true ∧ 0 ≤ (↑k : Int) ∧ (List.map vSt l)[Int.toNat (↑k : Int)]? = some (vSt s) ∧ FSpec PP 66 [D.v (V.list (List.map eV h.found)), D.v (V.agg [vi (Val.n s.snd), vVs (Val.kids s.snd)])] (St.mk [] []) (di (idxV h.found s.snd)) (St.mk [] []) ∧ (True ∧ True ∧ True) ∧ decide (idxV h.found s.snd ≥ 0) = false ∧ decide ((↑(List.length (List.map eV h.found)) : Int) ≥ 128) = false ∧ FSpec PP 36 [D.v (V.agg [vi (Val.n s.snd), vVs (Val.kids s.snd)])] (St.mk [] []) (dV s.snd) (St.mk [] []) ∧ List.map eV h.found = List.map eV h.found ∧ LenOK (List.length (List.map eV h.found) + List.length (vVal s.snd :: nV)) 32 ∧ List.map vi h.before = List.map vi h.before ∧ LenOK (List.length (List.map vi h.before) + List.length (V.int IntKind.i64 at' :: nV)) 8 ∧ List.map vi h.rules = List.map vi h.rules ∧ LenOK (List.length (List.map vi h.rules) + List.length (vi s.fst :: nV)) 8 ∧ (True ∧ True ∧ (some [D.acc 2 (List.map vi h.before)] = some [D.acc 2 (List.map vi h.before)] ∧ True) ∧ (some [D.acc 3 (List.map vi h.rules)] = some [D.acc 3 (List.map vi h.rules)] ∧ some [D.acc 3 (List.map vi h.rules)] = some [D.acc 3 (List.map vi h.rules)] ∧ True) ∧ (some [di s.fst] = some [di s.fst] ∧ some [di s.fst] = some [di s.fst] ∧ True) ∧ True) ∧ FSpec PP 38 [D.v (V.agg [vi (Val.n s.snd), vVs (Val.kids s.snd)]), D.v (V.agg [vi (Val.n c), vVs (Val.kids c)])] (St.mk [] []) (db (cmpV s.snd c == 0)) (St.mk [] []) ∧ (True ∧ True ∧ True) ∧ (!cmpV s.snd c == 0) = true ∧ di (IntKind.wrap IntKind.i64 ((↑k : Int) + 1)) = di (↑(k + 1) : Int) ∧ [some [D.acc 1 (List.map eV h.found ++ vVal s.snd :: nV), D.acc 2 (List.map vi h.before ++ vi at' :: nV), D.acc 3 (List.map vi h.rules ++ vi s.fst :: nV), di h.next, di h.cand, di h.used, di m.kind, D.v (vSs m.states), D.v (vSs m.places), D.v (vSs m.letters), D.v (vIs m.ranks), di m.levels, di m.age, D.v (vRuls m.rules), di (Val.n m.start), dVs (Val.kids m.start), di (Val.n c), dVs (Val.kids c)], some zVr] = [some (cAcc (addH h at' s) m c), some zVr] ∧ [(3, 1, List.map vi h.rules ++ vi s.fst :: nV), (2, 1, List.map vi h.before ++ vi at' :: nV), (1, 2, List.map eV h.found ++ vVal s.snd :: nV)] = [(3, 1, List.map vi (addH h at' s).rules), (2, 1, List.map vi (addH h at' s).before), (1, 2, List.map eV (addH h at' s).found)] ∧ Nv.It (RunC (CN 1) PP (fun env σ1 => ResOK PP fFind env σ1 (dFnd (findL c at' (addH h at' s) (List.drop (k + 1) l))) (stH (findL c at' (addH h at' s) (List.drop (k + 1) l)).fst m c)) [KI.lp (sub cFind [1, 1, 1, 1, 1, 1, 0, 1, 0, 0]), KI.blk 0, KI.code (sub cFind [1, 1, 1, 1, 1, 1, 1])] (mkE 143 [(0, D.ptr 0 0), (2, D.ptr 1 0), (4, di at'), (54, D.v (vSts l)), (55, di (↑(List.length l) : Int)), (56, di (↑(k + 1) : Int))]) (stF (addH h at' s) m c))) = _) ?_
          refine ⟨decide_eq_true (by omega), by omega, idx_some hs, hidx, ⟨trivial, trivial, trivial⟩, f1, by rw [List.length_map]; exact f2, hown, rfl, by rw [List.length_map]; exact lk (by omega) (by decide), rfl, by rw [List.length_map]; exact lk (by omega) (by decide), rfl, by rw [List.length_map]; exact lk (by omega) (by decide), ⟨trivial, trivial, ⟨rfl, trivial⟩, ⟨rfl, rfl, trivial⟩, ⟨rfl, rfl, trivial⟩, trivial⟩, hsame, ⟨trivial, trivial, trivial⟩, h3, wrap_succ (by omega), ?_, hO.symm, ⟨ih (k + 1) (addH h at' s) (by omega) hok ⟨ha.1, ?_⟩⟩⟩
          · rw [hA]
          · simp only [addH, List.length_append, List.length_cons, List.length_nil]; omega
        · have f3 := eq_false_of_ne_true h3
          obtain ⟨w, hw⟩ : ∃ w, w = wayM (addH h at' s) h.found.length := ⟨_, rfl⟩
          obtain ⟨h', hh'⟩ : ∃ h', h' = addH h at' s := ⟨_, rfl⟩
          have hway : FSpec PP 67 [.ptr 0 0, di (IntKind.i64.wrap (((h'.found.map eV).length : Nat) - 1 : Int))] (stH h' m c) (.v (vSts w)) (stH h' m c) := by
            subst hh'
            have hl : ((addH h at' s).found.map eV).length = h.found.length + 1 := by rw [List.length_map]; simp [addH]
            rw [hl, wrap_id (by omega) (by omega), show ((h.found.length + 1 : Nat) : Int) - 1 = (h.found.length : Int) by omega, hw]
            exact way_spec _ hok m c h.found.length (by simp [addH])
          have hcv : ∀ e : List D, Cv e ⟨[some [D.acc 1 (h.found.map eV ++ [vVal s.2]), D.acc 2 (h.before.map vi ++ [vi at']), D.acc 3 (h.rules.map vi ++ [vi s.1]), di h.next, di h.cand, di h.used, di m.kind, .v (vSs m.states), .v (vSs m.places), .v (vSs m.letters), .v (vIs m.ranks), di m.levels, di m.age, .v (vRuls m.rules), di m.start.n, dVs m.start.kids, di c.n, dVs c.kids], some zVr, some [di s.1, di s.2.n, dVs s.2.kids]], [(3, 1, h.rules.map vi ++ [vi s.1]), (2, 1, h.before.map vi ++ [vi at']), (1, 2, h.found.map eV ++ [vVal s.2])]⟩ e ⟨[some (cPl h' m c), some zVr, some [di s.1, di s.2.n, dVs s.2.kids]], owA h'⟩ := fun e => by
            have := cv_plain (addH h at' s) m c [some zVr, some [di s.1, di s.2.n, dVs s.2.kids]] (owA (addH h at' s)) e
            rw [hA] at this
            rw [hh', ← hO]; exact this
          have hyes := yes_spec h' m c w
          by_cases h4 : decide ((w.length : Int) > 64) = true
          · rw [findL, if_neg h1, if_neg h2, if_neg h3, if_pos (by rw [← hw]; exact h4), ← hh']
            refine loop_vc mixed 143 [] (.t <| .x (vSt s) <| .c (di (idxV h.found s.2)) <| .f <| .f <| .c (dV s.2) <| .c (db (cmpV s.2 c == 0)) <| .f <| .h (.q 16 0) <| .h (.cs ⟨[some (cPl h' m c), some zVr, some [di s.1, di s.2.n, dVs s.2.kids]], owA h'⟩) <| .c1 (cPl h' m c) (.v (vSts w)) <| .t .r) ?_
            refine via (by kernel_rfl : (decide ((↑k : Int) < (↑(List.length l) : Int)) = true ∧ 0 ≤ (↑k : Int) ∧ (List.map vSt l)[Int.toNat (↑k : Int)]? = some (vSt s) ∧ FSpec PP 66 [D.v (V.list (List.map eV h.found)), D.v (V.agg [vi (Val.n s.snd), vVs (Val.kids s.snd)])] (St.mk [] []) (di (idxV h.found s.snd)) (St.mk [] []) ∧ (True ∧ True ∧ True) ∧ decide (idxV h.found s.snd ≥ 0) = false ∧ decide ((↑(List.length (List.map eV h.found)) : Int) ≥ 128) = false ∧ FSpec PP 36 [D.v (V.agg [vi (Val.n s.snd), vVs (Val.kids s.snd)])] (St.mk [] []) (dV s.snd) (St.mk [] []) ∧ List.map eV h.found = List.map eV h.found ∧ LenOK (List.length (List.map eV h.found) + List.length (vVal s.snd :: nV)) 32 ∧ List.map vi h.before = List.map vi h.before ∧ LenOK (List.length (List.map vi h.before) + List.length (V.int IntKind.i64 at' :: nV)) 8 ∧ List.map vi h.rules = List.map vi h.rules ∧ LenOK (List.length (List.map vi h.rules) + List.length (vi s.fst :: nV)) 8 ∧ (True ∧ True ∧ (some [D.acc 2 (List.map vi h.before)] = some [D.acc 2 (List.map vi h.before)] ∧ True) ∧ (some [D.acc 3 (List.map vi h.rules)] = some [D.acc 3 (List.map vi h.rules)] ∧ some [D.acc 3 (List.map vi h.rules)] = some [D.acc 3 (List.map vi h.rules)] ∧ True) ∧ (some [di s.fst] = some [di s.fst] ∧ some [di s.fst] = some [di s.fst] ∧ True) ∧ True) ∧ FSpec PP 38 [D.v (V.agg [vi (Val.n s.snd), vVs (Val.kids s.snd)]), D.v (V.agg [vi (Val.n c), vVs (Val.kids c)])] (St.mk [] []) (db (cmpV s.snd c == 0)) (St.mk [] []) ∧ (True ∧ True ∧ True) ∧ (!cmpV s.snd c == 0) = false ∧ (∀ (e : List D) (E : Ent) (g : Gh) (a : Act) (w : World), FI E g (St.mk [some [D.acc 1 (List.map eV h.found ++ [vVal s.snd]), D.acc 2 (List.map vi h.before ++ [V.int IntKind.i64 at']), D.acc 3 (List.map vi h.rules ++ [vi s.fst]), di h.next, di h.cand, di h.used, di m.kind, D.v (vSs m.states), D.v (vSs m.places), D.v (vSs m.letters), D.v (vIs m.ranks), di m.levels, di m.age, D.v (vRuls m.rules), di (Val.n m.start), dVs (Val.kids m.start), di (Val.n c), dVs (Val.kids c)], some zVr, some [D.v (vi s.fst), D.v (vi (Val.n s.snd)), D.v (vVs (Val.kids s.snd))]] [(3, 1, List.map vi h.rules ++ [vi s.fst]), (2, 1, List.map vi h.before ++ [V.int IntKind.i64 at']), (1, 2, List.map eV h.found ++ [vVal s.snd])]) e a w → ∃ g', FI E g' (St.mk [some (cPl h' m c), some zVr, some [di s.fst, di (Val.n s.snd), dVs (Val.kids s.snd)]] (owA h')) e a w) ∧ FSpec PP 67 [D.ptr 0 0, di (IntKind.wrap IntKind.i64 ((↑(List.length (List.map eV h'.found)) : Int) - 1))] (St.mk [some (cPl h' m c)] []) (D.v (vSts w)) (St.mk [some (cPl h' m c)] []) ∧ decide ((↑(List.length (List.map vSt w)) : Int) > 64) = true ∧ [some (cPl h' m c)] = [some (cPl (h', openV 0, 1).fst m c)] ∧ D.tup [D.v (V.agg [V.bool false, V.bool false, V.list [], V.list [], vi 0, V.list [], V.list [], vi 0]), di 1] = dFnd (h', openV 0, 1)) = _) ?_
            exact ⟨decide_eq_true (by omega), by omega, idx_some hs, hidx, ⟨trivial, trivial, trivial⟩, f1, by rw [List.length_map]; exact f2, hown, rfl, by rw [List.length_map]; exact lk (by omega) (by decide), rfl, by rw [List.length_map]; exact lk (by omega) (by decide), rfl, by rw [List.length_map]; exact lk (by omega) (by decide), ⟨trivial, trivial, ⟨rfl, trivial⟩, ⟨rfl, rfl, trivial⟩, ⟨rfl, rfl, trivial⟩, trivial⟩, hsame, ⟨trivial, trivial, trivial⟩, f3, hcv, hway, by rw [List.length_map]; exact h4, rfl, rfl⟩
          · rw [findL, if_neg h1, if_neg h2, if_neg h3, if_neg (by rw [← hw]; exact h4), ← hw, ← hh']
            refine loop_vc mixed 143 [] (.t <| .x (vSt s) <| .c (di (idxV h.found s.2)) <| .f <| .f <| .c (dV s.2) <| .c (db (cmpV s.2 c == 0)) <| .f <| .h (.q 16 0) <| .h (.cs ⟨[some (cPl h' m c), some zVr, some [di s.1, di s.2.n, dVs s.2.kids]], owA h'⟩) <| .c1 (cPl h' m c) (.v (vSts w)) <| .f <| .c1 (cPl h' m c) (dVrd (yesV w h.used)) .r) ?_
            refine via (by kernel_rfl : (decide ((↑k : Int) < (↑(List.length l) : Int)) = true ∧ 0 ≤ (↑k : Int) ∧ (List.map vSt l)[Int.toNat (↑k : Int)]? = some (vSt s) ∧ FSpec PP 66 [D.v (V.list (List.map eV h.found)), D.v (V.agg [vi (Val.n s.snd), vVs (Val.kids s.snd)])] (St.mk [] []) (di (idxV h.found s.snd)) (St.mk [] []) ∧ (True ∧ True ∧ True) ∧ decide (idxV h.found s.snd ≥ 0) = false ∧ decide ((↑(List.length (List.map eV h.found)) : Int) ≥ 128) = false ∧ FSpec PP 36 [D.v (V.agg [vi (Val.n s.snd), vVs (Val.kids s.snd)])] (St.mk [] []) (dV s.snd) (St.mk [] []) ∧ List.map eV h.found = List.map eV h.found ∧ LenOK (List.length (List.map eV h.found) + List.length (vVal s.snd :: nV)) 32 ∧ List.map vi h.before = List.map vi h.before ∧ LenOK (List.length (List.map vi h.before) + List.length (V.int IntKind.i64 at' :: nV)) 8 ∧ List.map vi h.rules = List.map vi h.rules ∧ LenOK (List.length (List.map vi h.rules) + List.length (vi s.fst :: nV)) 8 ∧ (True ∧ True ∧ (some [D.acc 2 (List.map vi h.before)] = some [D.acc 2 (List.map vi h.before)] ∧ True) ∧ (some [D.acc 3 (List.map vi h.rules)] = some [D.acc 3 (List.map vi h.rules)] ∧ some [D.acc 3 (List.map vi h.rules)] = some [D.acc 3 (List.map vi h.rules)] ∧ True) ∧ (some [di s.fst] = some [di s.fst] ∧ some [di s.fst] = some [di s.fst] ∧ True) ∧ True) ∧ FSpec PP 38 [D.v (V.agg [vi (Val.n s.snd), vVs (Val.kids s.snd)]), D.v (V.agg [vi (Val.n c), vVs (Val.kids c)])] (St.mk [] []) (db (cmpV s.snd c == 0)) (St.mk [] []) ∧ (True ∧ True ∧ True) ∧ (!cmpV s.snd c == 0) = false ∧ (∀ (e : List D) (E : Ent) (g : Gh) (a : Act) (w : World), FI E g (St.mk [some [D.acc 1 (List.map eV h.found ++ [vVal s.snd]), D.acc 2 (List.map vi h.before ++ [V.int IntKind.i64 at']), D.acc 3 (List.map vi h.rules ++ [vi s.fst]), di h.next, di h.cand, di h.used, di m.kind, D.v (vSs m.states), D.v (vSs m.places), D.v (vSs m.letters), D.v (vIs m.ranks), di m.levels, di m.age, D.v (vRuls m.rules), di (Val.n m.start), dVs (Val.kids m.start), di (Val.n c), dVs (Val.kids c)], some zVr, some [D.v (vi s.fst), D.v (vi (Val.n s.snd)), D.v (vVs (Val.kids s.snd))]] [(3, 1, List.map vi h.rules ++ [vi s.fst]), (2, 1, List.map vi h.before ++ [V.int IntKind.i64 at']), (1, 2, List.map eV h.found ++ [vVal s.snd])]) e a w → ∃ g', FI E g' (St.mk [some (cPl h' m c), some zVr, some [di s.fst, di (Val.n s.snd), dVs (Val.kids s.snd)]] (owA h')) e a w) ∧ FSpec PP 67 [D.ptr 0 0, di (IntKind.wrap IntKind.i64 ((↑(List.length (List.map eV h'.found)) : Int) - 1))] (St.mk [some (cPl h' m c)] []) (D.v (vSts w)) (St.mk [some (cPl h' m c)] []) ∧ decide ((↑(List.length (List.map vSt w)) : Int) > 64) = false ∧ FSpec PP 39 [D.ptr 0 0, D.v (vSts w)] (St.mk [some (cPl h' m c)] []) (dVrd (yesV w h.used)) (St.mk [some (cPl h' m c)] []) ∧ [some (cPl h' m c)] = [some (cPl (h', yesV w h.used, 0).fst m c)] ∧ D.tup [D.v (V.agg [V.bool (yesV w h.used).decided, V.bool (yesV w h.used).yes, V.list (List.map vSt (yesV w h.used).run), V.list [], vi (yesV w h.used).mod, V.list [], V.list [], vi (yesV w h.used).used]), di 0] = dFnd (h', yesV w h.used, 0)) = _) ?_
            rw [show h'.used = h.used by rw [hh']; rfl] at hyes
            exact ⟨decide_eq_true (by omega), by omega, idx_some hs, hidx, ⟨trivial, trivial, trivial⟩, f1, by rw [List.length_map]; exact f2, hown, rfl, by rw [List.length_map]; exact lk (by omega) (by decide), rfl, by rw [List.length_map]; exact lk (by omega) (by decide), rfl, by rw [List.length_map]; exact lk (by omega) (by decide), ⟨trivial, trivial, ⟨rfl, trivial⟩, ⟨rfl, rfl, trivial⟩, ⟨rfl, rfl, trivial⟩, trivial⟩, hsame, ⟨trivial, trivial, trivial⟩, f3, hcv, hway, by rw [List.length_map]; exact eq_false_of_ne_true h4, hyes, rfl, rfl⟩
theorem idx_val' {a : List Val} {n : Int} {x : Val} (h : a[n.toNat]? = some x) : (a.map eV)[n.toNat]? = some (vVal x) := by rw [List.getElem?_map, h, ← enc_eq]; rfl
def findM (m : Mod) (c : Val) (h : Hnt) : Hnt × Vrd × Int := if decide (h.next ≥ (h.found.length : Int)) = true then (h, openV h.used, 0)
  else if ((stepsM m (h.found.getD h.next.toNat default)).2 != 0) = true then (h, openV 0, (stepsM m (h.found.getD h.next.toNat default)).2)
  else findL c h.next ⟨h.found, h.before, h.rules, h.next + 1, h.cand, h.used⟩ (stepsM m (h.found.getD h.next.toNat default)).1
theorem find_spec (m : Mod) (hm : PlC m) (c : Val) (h : Hnt) (hh : HntOK h) (hn : 0 ≤ h.next) (hn2 : h.next ≤ 1000) (hf : ∀ v ∈ h.found, CfgOK m v) : FSpec PP 40 [.ptr 0 0] ⟨[some (cAcc h m c)], owA h⟩ (dFnd (findM m c h)) (stH (findM m c h).1 m c) := by
  by_cases h1 : decide (h.next ≥ (h.found.length : Int)) = true
  · rw [findM, if_pos h1]
    refine spec_vc mixed fFind cFind (by kernel_rfl) (by kernel_rfl) (by kernel_rfl) (by kernel_rfl) 143 (by kernel_rfl) [] (.t <| .h (.q 3 0) <| .h (.cs ⟨[some (cPl h m c), some zVr], owA h⟩) <| .c1 (cPl h m c) (dVrd (openV h.used)) .r) ?_
    refine via (by kernel_rfl : (decide (h.next ≥ (↑(List.length (List.map eV h.found)) : Int)) = true ∧ (∀ (e : List D) (E : Ent) (g : Gh) (a : Act) (w : World), FI E g (St.mk [some (cAcc h m c), some [D.v (V.bool false), D.v (V.bool false), D.v V.nils, D.v V.nils, D.v (V.int IntKind.i64 0), D.v V.nils, D.v V.nils, D.v (V.int IntKind.i64 0)]] [(3, 1, List.map vi h.rules), (2, 1, List.map vi h.before), (1, 2, List.map eV h.found)]) e a w → ∃ g', FI E g' (St.mk [some (cPl h m c), some zVr] (owA h)) e a w) ∧ FSpec PP 64 [D.ptr 0 0] (St.mk [some (cPl h m c)] []) (dVrd (openV h.used)) (St.mk [some (cPl h m c)] []) ∧ [some (cPl h m c)] = [some (cPl (h, openV h.used, 0).fst m c)] ∧ D.tup [D.v (V.agg [V.bool (openV h.used).decided, V.bool (openV h.used).yes, V.list [], V.list [], vi (openV h.used).mod, V.list [], V.list [], vi (openV h.used).used]), di 0] = dFnd (h, openV h.used, 0)) = _) ?_
    exact ⟨by rw [List.length_map]; exact h1, fun e => cv_plain h m c _ _ e, opn_spec h m c, rfl, rfl⟩
  · have f1 := eq_false_of_ne_true h1
    have hlt := of_decide_eq_false f1
    obtain ⟨v, hv⟩ : ∃ v, h.found[h.next.toNat]? = some v := ⟨_, List.getElem?_eq_getElem (show h.next.toNat < h.found.length by omega)⟩
    have hvc := hf v (List.mem_of_getElem? hv)
    have hall := sall_spec m hm v hvc
    have hst := stepsM_or hm hvc
    have e1 : h.found.getD h.next.toNat default = v := by rw [List.getD_eq_getElem?_getD, hv]; rfl
    rw [findM, if_neg h1, e1]
    generalize stepsM m v = p at *
    by_cases h2 : (p.2 != 0) = true
    · rw [if_pos h2]
      refine spec_vc mixed fFind cFind (by kernel_rfl) (by kernel_rfl) (by kernel_rfl) (by kernel_rfl) 143 (by kernel_rfl) [] (.f <| .h (.xs (vVal v)) <| .c (dSP p) <| .t <| .h (.q 6 0) <| .h (.cs ⟨[some (cPl h m c), some zVr], owA h⟩) .r) ?_
      refine via (by kernel_rfl : (decide (h.next ≥ (↑(List.length (List.map eV h.found)) : Int)) = false ∧ 2 = 2 ∧ 0 ≤ h.next ∧ (List.map eV h.found)[Int.toNat h.next]? = some (vVal v) ∧ FSpec PP 65 [D.v (V.agg [vi m.kind, vSs m.states, vSs m.places, vSs m.letters, vIs m.ranks, vi m.levels, vi m.age, vRuls m.rules, vi (Val.n m.start), vVs (Val.kids m.start)]), D.v (vVal v)] (St.mk [] []) (dSP p) (St.mk [] []) ∧ (True ∧ True ∧ True) ∧ (p.snd != 0) = true ∧ (∀ (e : List D) (E : Ent) (g : Gh) (a : Act) (w : World), FI E g (St.mk [some (cAcc h m c), some [D.v (V.bool false), D.v (V.bool false), D.v V.nils, D.v V.nils, D.v (V.int IntKind.i64 0), D.v V.nils, D.v V.nils, D.v (V.int IntKind.i64 0)]] [(3, 1, List.map vi h.rules), (2, 1, List.map vi h.before), (1, 2, List.map eV h.found)]) e a w → ∃ g', FI E g' (St.mk [some (cPl h m c), some zVr] (owA h)) e a w) ∧ [some (cPl h m c)] = [some (cPl (h, openV 0, p.snd).fst m c)] ∧ D.tup [D.v (V.agg [V.bool false, V.bool false, V.list [], V.list [], vi 0, V.list [], V.list [], vi 0]), di p.snd] = dFnd (h, openV 0, p.snd)) = _) ?_
      exact ⟨by rw [List.length_map]; exact f1, rfl, hn, idx_val' hv, hall, ⟨trivial, trivial, trivial⟩, h2, fun e => cv_plain h m c _ _ e, rfl, rfl⟩
    · rw [if_neg h2]
      obtain ⟨h', hh'⟩ : ∃ h' : Hnt, h' = ⟨h.found, h.before, h.rules, h.next + 1, h.cand, h.used⟩ := ⟨_, rfl⟩
      rw [← hh']
      refine spec_vc mixed fFind cFind (by kernel_rfl) (by kernel_rfl) (by kernel_rfl) (by kernel_rfl) 143 (by kernel_rfl) [] (.f <| .h (.xs (vVal v)) <| .c (dSP p) <| .f <| .ls [ke 0, ke 2, ke 4, ch 54 (.v (vSts p.1)), ch 55 (di p.1.length), ch 56 (di (0 : Nat))] (stF h' m c)) ?_
      refine via (by kernel_rfl : (decide (h.next ≥ (↑(List.length (List.map eV h.found)) : Int)) = false ∧ 2 = 2 ∧ 0 ≤ h.next ∧ (List.map eV h.found)[Int.toNat h.next]? = some (vVal v) ∧ FSpec PP 65 [D.v (V.agg [vi m.kind, vSs m.states, vSs m.places, vSs m.letters, vIs m.ranks, vi m.levels, vi m.age, vRuls m.rules, vi (Val.n m.start), vVs (Val.kids m.start)]), D.v (vVal v)] (St.mk [] []) (dSP p) (St.mk [] []) ∧ (True ∧ True ∧ True) ∧ (p.snd != 0) = false ∧ D.v (vSts p.fst) = D.v (vSts p.fst) ∧ di (↑(List.length (List.map vSt p.fst)) : Int) = di (↑(List.length p.fst) : Int) ∧ di 0 = di (↑0 : Int) ∧ [some [D.acc 1 (List.map eV h.found), D.acc 2 (List.map vi h.before), D.acc 3 (List.map vi h.rules), di (IntKind.wrap IntKind.i64 (h.next + 1)), di h.cand, di h.used, di m.kind, D.v (vSs m.states), D.v (vSs m.places), D.v (vSs m.letters), D.v (vIs m.ranks), di m.levels, di m.age, D.v (vRuls m.rules), di (Val.n m.start), dVs (Val.kids m.start), di (Val.n c), dVs (Val.kids c)], some [db false, db false, D.v V.nils, D.v V.nils, di 0, D.v V.nils, D.v V.nils, di 0]] = [some (cAcc h' m c), some zVr] ∧ [(3, 1, List.map vi h.rules), (2, 1, List.map vi h.before), (1, 2, List.map eV h.found)] = [(3, 1, List.map vi h'.rules), (2, 1, List.map vi h'.before), (1, 2, List.map eV h'.found)] ∧ Nv.It (RunC (CN (List.length (St.mk [some (cAcc h m c)] (owA h)).H)) PP (fun env σ1 => ResOK PP fFind env σ1 (dFnd (findL c h.next h' p.fst)) (stH (findL c h.next h' p.fst).fst m c)) [KI.lp (sub cFind [1, 1, 1, 1, 1, 1, 0, 1, 0, 0]), KI.blk 0, KI.code (sub cFind [1, 1, 1, 1, 1, 1, 1])] (mkE 143 [(0, D.ptr 0 0), (2, D.ptr 1 0), (4, di h.next), (54, D.v (vSts p.fst)), (55, di (↑(List.length p.fst) : Int)), (56, di (↑0 : Int))]) (stF h' m c))) = _) ?_
      have hlen := hh.len
      have hk' : HntOK h' := by rw [hh']; exact ⟨hh.ne, hh.len, hh.size, hh.bl, hh.rl, hh.back⟩
      have hl := find_loop m hm c h.next p.1 (by omega) (fun s hs => by have := (hst.2.2 s hs).ok.size hm; omega) _ 0 h' rfl hk' (by rw [hh']; exact ⟨hn, by show h.next < (h.found.length : Int); omega⟩)
      refine ⟨by rw [List.length_map]; exact f1, rfl, hn, idx_val' hv, hall, ⟨trivial, trivial, trivial⟩, eq_false_of_ne_true h2, rfl, by rw [List.length_map], rfl, ?_, by rw [hh'], ⟨by simpa using hl⟩⟩
      rw [hh', wrap_id (by omega) (by omega)]
end Go.Proofs.YtdfdemnbaiieaaaGreat

namespace Go.Proofs.YtdfdemnbaiieaaaGreat
open Go.Dv Go.Nv
set_option maxRecDepth 20000
abbrev OMG : Int := 1099511627776
def sumM : List Int → List Int → Int
  | c :: cs, v :: vs => c * v + sumM cs vs
  | _, _ => 0
noncomputable abbrev fISum : Func := Tryz.f124
noncomputable def cISum : Code := fISum.body.getD .skip
theorem mul_bd {c v : Int} (hc : -4 ≤ c ∧ c ≤ 4) (hv : 0 ≤ v ∧ v ≤ 1048576) : -4194304 ≤ c * v ∧ c * v ≤ 4194304 := by
  have h : c = -4 ∨ c = -3 ∨ c = -2 ∨ c = -1 ∨ c = 0 ∨ c = 1 ∨ c = 2 ∨ c = 3 ∨ c = 4 := by omega
  rcases h with rfl | rfl | rfl | rfl | rfl | rfl | rfl | rfl | rfl <;> omega
theorem sumM_bd : ∀ (cs vs : List Int), (∀ c ∈ cs, -4 ≤ c ∧ c ≤ 4) → (∀ v ∈ vs, 0 ≤ v ∧ v ≤ 1048576) → -(4194304 * cs.length) ≤ sumM cs vs ∧ sumM cs vs ≤ 4194304 * cs.length
  | [], _, _, _ => by simp [sumM]
  | c :: cs, [], _, _ => by simp only [sumM, List.length_cons]; omega
  | c :: cs, v :: vs, hc, hv => by
    have h1 := sumM_bd cs vs (fun c h => hc c (by simp [h])) (fun v h => hv v (by simp [h]))
    have h2 := mul_bd (hc c (by simp)) (hv v (by simp))
    simp only [sumM, List.length_cons]; omega
theorem isum_loop (cs vs : List Int) (hl : cs.length ≤ vs.length) (hl2 : cs.length ≤ 100) (hc : ∀ c ∈ cs, -4 ≤ c ∧ c ≤ 4) (hv : ∀ v ∈ vs, 0 ≤ v ∧ v ≤ 1048576) (N : Nat) : ∀ (k : Nat) (a : Int), cs.length - k = N → k ≤ cs.length → -(4194304 * (k : Int)) ≤ a ∧ a ≤ 4194304 * (k : Int) →
    Rn PP fISum 0 (di (a + sumM (cs.drop k) (vs.drop k))) σ0 ([.lp (sub cISum [1, 1, 0, 1, 0, 0]), .blk 0, .code (sub cISum [1, 1, 1])] ++ []) (mkE 25 [(1, dIs vs), (5, di a), (8, dIs cs), (9, di cs.length), (10, di k)]) σ0 := by
  induction N with
  | zero =>
    intro k a hn hk ha
    refine loop_vc mixed 25 [] (.f .r) ?_
    refine via (by kernel_rfl : (decide ((↑k : Int) < (↑(List.length cs) : Int)) = false ∧ di a = di (a + sumM (List.drop k cs) (List.drop k vs))) = _) ?_
    refine ⟨decide_eq_false (by omega), ?_⟩
    rw [List.drop_of_length_le (show cs.length ≤ k by omega)]; simp only [sumM, Int.add_zero]
  | succ N ih =>
    intro k a hn hk ha
    obtain ⟨c, hc1⟩ : ∃ c, cs[k]? = some c := ⟨_, List.getElem?_eq_getElem (show k < cs.length by omega)⟩
    obtain ⟨v, hv1⟩ : ∃ v, vs[k]? = some v := ⟨_, List.getElem?_eq_getElem (show k < vs.length by omega)⟩
    refine loop_vc mixed 25 [] (.t <| .x (vi c) <| .x (vi v) <| .l [ke 1, ch 5 (di (a + c * v)), ke 8, ke 9, ch 10 (di (k + 1 : Nat))]) ?_
    refine via (by kernel_rfl : (decide ((↑k : Int) < (↑(List.length cs) : Int)) = true ∧ 0 ≤ (↑k : Int) ∧ (List.map vi cs)[Int.toNat (↑k : Int)]? = some (vi c) ∧ 0 ≤ (↑k : Int) ∧ (List.map vi vs)[Int.toNat (↑k : Int)]? = some (vi v) ∧ di (IntKind.wrap IntKind.i64 (a + IntKind.wrap IntKind.i64 (c * v))) = di (a + c * v) ∧ di (IntKind.wrap IntKind.i64 ((↑k : Int) + 1)) = di (↑(k + 1) : Int) ∧ Nv.It (RunC (CN 0) PP (fun env σ1 => ResOK PP fISum env σ1 (di (a + sumM (List.drop k cs) (List.drop k vs))) σ0) [KI.lp (sub cISum [1, 1, 0, 1, 0, 0]), KI.blk 0, KI.code (sub cISum [1, 1, 1])] (mkE 25 [(1, D.v (vIs vs)), (5, di (a + c * v)), (8, D.v (vIs cs)), (9, di (↑(List.length cs) : Int)), (10, di (↑(k + 1) : Int))]) σ0)) = _) ?_
    have h2 := mul_bd (hc c (List.mem_of_getElem? hc1)) (hv v (List.mem_of_getElem? hv1))
    have e3 : cs.drop k = c :: cs.drop (k + 1) := by rw [List.drop_eq_getElem_cons (by omega)]; congr 1; rw [List.getElem?_eq_getElem (by omega)] at hc1; simpa using hc1
    have e4 : vs.drop k = v :: vs.drop (k + 1) := by rw [List.drop_eq_getElem_cons (by omega)]; congr 1; rw [List.getElem?_eq_getElem (by omega)] at hv1; simpa using hv1
    have hi := ih (k + 1) (a + c * v) (by omega) (by omega) (by omega)
    rw [e3, e4]
    simp only [sumM]
    rw [← Int.add_assoc]
    refine ⟨decide_eq_true (by omega), by omega, idx_some hc1, by omega, idx_some hv1, ?_, wrap_succ (by omega), ⟨hi⟩⟩
    rw [wrap_id (n := c * v) (by omega) (by omega), wrap_id (by omega) (by omega)]
theorem isum_spec (cs vs : List Int) (hl : cs.length ≤ vs.length) (hl2 : cs.length ≤ 100) (hc : ∀ c ∈ cs, -4 ≤ c ∧ c ≤ 4) (hv : ∀ v ∈ vs, 0 ≤ v ∧ v ≤ 1048576) : FSpec PP 124 [dIs cs, dIs vs] σ0 (di (sumM cs vs)) σ0 := by
  refine spec_vc mixed fISum cISum (by kernel_rfl) (by kernel_rfl) (by kernel_rfl) (by kernel_rfl) 25 (by kernel_rfl) [] (.l [ke 1, ke 5, ke 8, ch 9 (di cs.length), ch 10 (di (0 : Nat))]) ?_
  refine via (by kernel_rfl : (di (↑(List.length (List.map vi cs)) : Int) = di (↑(List.length cs) : Int) ∧ di 0 = di (↑0 : Int) ∧ Nv.It (RunC (CN (List.length σ0.H)) PP (fun env σ1 => ResOK PP fISum env σ1 (di (sumM cs vs)) σ0) [KI.lp (sub cISum [1, 1, 0, 1, 0, 0]), KI.blk 0, KI.code (sub cISum [1, 1, 1])] (mkE 25 [(1, dIs vs), (5, di 0), (8, dIs cs), (9, di (↑(List.length cs) : Int)), (10, di (↑0 : Int))]) σ0)) = _) ?_
  have := isum_loop cs vs hl hl2 hc hv _ 0 0 rfl (by omega) (by omega)
  simp only [Int.zero_add, List.drop_zero] at this
  exact ⟨by rw [List.length_map], rfl, ⟨this⟩⟩
noncomputable abbrev fIRest : Func := Tryz.f126
noncomputable def cIRest : Code := fIRest.body.getD .skip
theorem irest_spec (n k : Int) (hk : 1 ≤ k ∧ k ≤ 100) (hn : -1125899906842624 ≤ n ∧ n ≤ 1125899906842624) : FSpec PP 126 [di n, di k] σ0 (di (n % k)) σ0 := by
  refine spec_vc mixed fIRest cIRest (by kernel_rfl) (by kernel_rfl) (by kernel_rfl) (by kernel_rfl) 12 (by kernel_rfl) [] .r ?_
  refine via (by kernel_rfl : (k ≠ 0 ∧ k ≠ 0 ∧ di (Int.tmod (IntKind.wrap IntKind.i64 (Int.tmod n k + k)) k) = di (n % k)) = _) ?_
  have h1 := Int.lt_tmod_of_pos n (show 0 < k by omega)
  have h2 := Int.tmod_lt_of_pos n (show 0 < k by omega)
  have e1 : IntKind.i64.wrap (n.tmod k + k) = n.tmod k + k := wrap_id (by omega) (by omega)
  rw [e1]
  refine ⟨by omega, by omega, ?_⟩
  congr 3
  rw [Int.tmod_eq_emod_of_nonneg (by omega), Int.add_emod_right]
  have e := Int.mul_tdiv_add_tmod n k
  conv => rhs; rw [← e, Int.add_comm, Int.add_mul_emod_self_left]
noncomputable abbrev fIEff : Func := Tryz.f185
noncomputable def cIEff : Code := fIEff.body.getD .skip
def effM (cs : List Int) (r : Rul) : Int := sumM cs r.give - sumM cs r.need
theorem ieff_spec (m : Mod) (r : Rul) (hr : RulOK m r) (cs : List Int) (hl : cs.length = m.places.length) (hl2 : cs.length ≤ 2) (hc : ∀ c ∈ cs, -4 ≤ c ∧ c ≤ 4) : FSpec PP 185 [dIs cs, dRul r] σ0 (di (effM cs r)) σ0 := by
  have b1 : ∀ v ∈ r.give, 0 ≤ v ∧ v ≤ 1048576 := fun v hv => by have := hr.give v hv; omega
  have b2 : ∀ v ∈ r.need, 0 ≤ v ∧ v ≤ 1048576 := fun v hv => by have := hr.need v hv; omega
  refine spec_vc mixed fIEff cIEff (by kernel_rfl) (by kernel_rfl) (by kernel_rfl) (by kernel_rfl) 14 (by kernel_rfl) [3] (.c (di (sumM cs r.give)) <| .c (di (sumM cs r.need)) .r) ?_
  refine via (by kernel_rfl : (FSpec PP 124 [D.v (vIs cs), D.v (vIs r.give)] (St.mk [] []) (di (sumM cs r.give)) (St.mk [] []) ∧ FSpec PP 124 [D.v (vIs cs), D.v (vIs r.need)] (St.mk [] []) (di (sumM cs r.need)) (St.mk [] []) ∧ di (IntKind.wrap IntKind.i64 (sumM cs r.give - sumM cs r.need)) = di (effM cs r)) = _) ?_
  have h1 := sumM_bd cs r.give hc b1
  have h2 := sumM_bd cs r.need hc b2
  refine ⟨isum_spec cs r.give (by rw [hl, hr.giveL]; exact Nat.le_refl _) (by omega) hc b1, isum_spec cs r.need (by rw [hl, hr.needL]; exact Nat.le_refl _) (by omega) hc b2, ?_⟩
  rw [wrap_id (by omega) (by omega)]; rfl
noncomputable abbrev fIFit : Func := Tryz.f121
noncomputable def cIFit : Code := fIFit.body.getD .skip
noncomputable abbrev fIFit1 : Func := Tryz.f179
noncomputable def cIFit1 : Code := fIFit1.body.getD .skip
def fitB (c : Int) : Bool := decide (c < -4) || decide (c > 4)
theorem ifit1_spec (c : Int) : FSpec PP 179 [di c] σ0 (db (fitB c)) σ0 := by
  refine spec_vc mixed fIFit1 cIFit1 (by kernel_rfl) (by kernel_rfl) (by kernel_rfl) (by kernel_rfl) 9 (by kernel_rfl) [] (.b .r .r) ?_
  refine via (by kernel_rfl : ((decide (c < -4) = true → db true = db (fitB c)) ∧ (decide (c < -4) = false → db (decide (c > 4)) = db (fitB c))) = _) ?_
  refine ⟨fun h => ?_, fun h => ?_⟩
  · rw [fitB, h, Bool.true_or]
  · rw [fitB, h, Bool.false_or]
theorem ifit_spec (cs : List Int) (hl : cs.length ≤ 1000) : FSpec PP 121 [dIs cs] σ0 (db (!cs.any fitB)) σ0 := by
  refine spec_vc mixed fIFit cIFit (by kernel_rfl) (by kernel_rfl) (by kernel_rfl) (by kernel_rfl) 6 (by kernel_rfl) [] (.c (db (cs.any fitB)) .r) ?_
  refine via (by kernel_rfl : (FSpec PP 178 [D.v (vIs cs), D.v (V.fn 179 [] [])] (St.mk [] []) (db (List.any cs fitB)) (St.mk [] []) ∧ (db !List.any cs fitB) = db !List.any cs fitB) = _) ?_
  exact ⟨hasI_spec _ [] [] fitB cs (by omega) fun c _ => ifit1_spec c, rfl⟩
noncomputable abbrev fIMod : Func := Tryz.f122
noncomputable def cIMod : Code := fIMod.body.getD .skip
def modB (k : Int) : Bool := (k == 0) || (decide (k ≥ 2) && decide (k ≤ 8))
theorem imod_spec (k : Int) : FSpec PP 122 [di k] σ0 (db (modB k)) σ0 := by
  refine spec_vc mixed fIMod cIMod (by kernel_rfl) (by kernel_rfl) (by kernel_rfl) (by kernel_rfl) 13 (by kernel_rfl) [] (.b .r (.b .r .r)) ?_
  refine via (by kernel_rfl : (((k == 0) = true → db true = db (modB k)) ∧ ((k == 0) = false → (decide (k ≥ 2) = true → db (decide (k ≤ 8)) = db (modB k)) ∧ (decide (k ≥ 2) = false → db false = db (modB k)))) = _) ?_
  refine ⟨fun h => ?_, fun h => ⟨fun h2 => ?_, fun h2 => ?_⟩⟩
  · rw [modB, h, Bool.true_or]
  · rw [modB, h, h2, Bool.false_or, Bool.true_and]
  · rw [modB, h, h2, Bool.false_or, Bool.false_and]
noncomputable abbrev fSCnt : Func := Tryz.f120
noncomputable def cSCnt : Code := fSCnt.body.getD .skip
theorem plainB_plc {m : Mod} (hm : PlC m) : plainB m = true := by
  simp only [plainB, hm.kind, Bool.and_eq_true, List.all_eq_true]
  refine ⟨rfl, fun r hr => ?_⟩
  rw [hm.move r hr]; rfl
theorem scnt_spec (m : Mod) (hm : PlC m) : FSpec PP 120 [dMod m] σ0 (di 0) σ0 := by
  refine spec_vc mixed fSCnt cSCnt (by kernel_rfl) (by kernel_rfl) (by kernel_rfl) (by kernel_rfl) 12 (by kernel_rfl) [1] (.c (di 0) <| .c (db true) .r) ?_
  refine via (by kernel_rfl : (FSpec PP 97 [D.v (vMod m)] (St.mk [] []) (di 0) (St.mk [] []) ∧ FSpec PP 74 [D.v (vMod m)] (St.mk [] []) (db true) (St.mk [] []) ∧ di 0 = di 0) = _) ?_
  have h := spl_spec m (by have := hm.places; omega)
  rw [plainB_plc hm] at h
  exact ⟨chk_spec m hm.ok, h, rfl⟩
noncomputable abbrev fSNum : Func := Tryz.f125
noncomputable def cSNum : Code := fSNum.body.getD .skip
abbrev accI (xs : List Int) : D := .acc 1 (xs.map vi)
theorem snum_loop (ys : List Int) (hl : ys.length ≤ 1000) (n : Nat) : ∀ k : Nat, ys.length - k = n →
    Rn PP fSNum 0 (dIs ys) σ0 ([.lp (sub cSNum [1, 1, 0, 1, 0, 0]), .blk 0, .code (sub cSNum [1, 1, 1])] ++ []) (mkE 21 [(3, accI (ys.take k)), (8, dVs (ys.map lf)), (9, di ys.length), (10, di k)]) ⟨[], [(1, 1, (ys.take k).map vi)]⟩ := by
  induction n with
  | zero =>
    intro k hn
    refine loop_vc mixed 21 [1] (.f .r) ?_
    refine via (by kernel_rfl : (decide ((↑k : Int) < (↑(List.length ys) : Int)) = false ∧ D.v (V.list (List.map vi (List.take k ys))) = dIs ys) = _) ?_
    rw [List.take_of_length_le (show ys.length ≤ k by omega)]
    exact ⟨decide_eq_false (by omega), rfl⟩
  | succ n ih =>
    intro k hn
    obtain ⟨y, hy⟩ : ∃ y, ys[k]? = some y := ⟨_, List.getElem?_eq_getElem (show k < ys.length by omega)⟩
    refine loop_vc mixed 21 [1] (.t <| .h (.xs (vVal (lf y))) <| .ls [ch 3 (accI (ys.take (k + 1))), ke 8, ke 9, ch 10 (di (k + 1 : Nat))] ⟨[], [(1, 1, (ys.take (k + 1)).map vi)]⟩) ?_
    refine via (by kernel_rfl : (decide ((↑k : Int) < (↑(List.length ys) : Int)) = true ∧ 2 = 2 ∧ 0 ≤ (↑k : Int) ∧ (List.map eV (List.map lf ys))[Int.toNat (↑k : Int)]? = some (vVal (lf y)) ∧ List.map vi (List.take k ys) = List.map vi (List.take k ys) ∧ LenOK (List.length (List.map vi (List.take k ys)) + List.length (vi (Val.n (lf y)) :: nV)) 8 ∧ D.acc 1 (List.map vi (List.take k ys) ++ [vi (Val.n (lf y))]) = accI (List.take (k + 1) ys) ∧ di (IntKind.wrap IntKind.i64 ((↑k : Int) + 1)) = di (↑(k + 1) : Int) ∧ [(1, 1, List.map vi (List.take k ys) ++ vi (Val.n (lf y)) :: nV)] = [(1, 1, List.map vi (List.take (k + 1) ys))] ∧ Nv.It (RunC (CN 0) PP (fun env σ1 => ResOK PP fSNum env σ1 (dIs ys) σ0) [KI.lp (sub cSNum [1, 1, 0, 1, 0, 0]), KI.blk 0, KI.code (sub cSNum [1, 1, 1])] (mkE 21 [(3, accI (List.take (k + 1) ys)), (8, D.v (vVs (List.map lf ys))), (9, di (↑(List.length ys) : Int)), (10, di (↑(k + 1) : Int))]) (St.mk [] [(1, 1, List.map vi (List.take (k + 1) ys))]))) = _) ?_
    have ht : ys.take (k + 1) = ys.take k ++ [y] := by rw [List.take_add_one, hy]; rfl
    refine ⟨decide_eq_true (by omega), rfl, by omega, idx_val (by rw [List.getElem?_map, hy]; rfl), rfl, ⟨?_, ?_⟩, ?_, wrap_succ (by omega), ?_, ⟨ih (k + 1) (by omega)⟩⟩
    · simp only [List.length_map, List.length_take, List.length_cons, List.length_nil]; omega
    · simp only [List.length_map, List.length_take, List.length_cons, List.length_nil]; omega
    · rw [ht, accI, List.map_append]; rfl
    · rw [ht, List.map_append]; rfl
theorem snum_spec (c : Val) (s : Int) (ys : List Int) (hc : IsC c s ys) (hl : ys.length ≤ 1000) : FSpec PP 125 [dV c] σ0 (dIs ys) σ0 := by
  refine spec_vc mixed fSNum cSNum (by kernel_rfl) (by kernel_rfl) (by kernel_rfl) (by kernel_rfl) 21 (by kernel_rfl) [1] (.h (.q 2 0) <| .h (.nw 3 1 1) <| .ls [ke 3, ch 8 (dVs (ys.map lf)), ch 9 (di ys.length), ch 10 (di (0 : Nat))] ⟨[], [(1, 1, [])]⟩) ?_
  refine via (by kernel_rfl : ((∀ (x : V), x ∈ List.map eV (Val.kids c) → V.size x = 2) ∧ 0 ≤ (1 : Int) ∧ (1 : Int) ≤ (↑(List.length (List.map eV (Val.kids c))) : Int) ∧ D.v (V.list (List.drop (Int.toNat ((1 : Int))) (List.take (List.length (List.map eV (Val.kids c))) (List.map eV (Val.kids c))))) = dVs (List.map lf ys) ∧ di (↑(List.length (List.drop (Int.toNat ((1 : Int))) (List.take (List.length (List.map eV (Val.kids c))) (List.map eV (Val.kids c))))) : Int) = di (↑(List.length ys) : Int) ∧ di 0 = di (↑0 : Int) ∧ [(1, 1, nV)] = [(1, 1, nV)] ∧ Nv.It (RunC (CN (List.length σ0.H)) PP (fun env σ1 => ResOK PP fSNum env σ1 (dIs ys) σ0) [KI.lp (sub cSNum [1, 1, 0, 1, 0, 0]), KI.blk 0, KI.code (sub cSNum [1, 1, 1])] (mkE 21 [(3, D.acc 1 []), (8, dVs (List.map lf ys)), (9, di (↑(List.length ys) : Int)), (10, di (↑0 : Int))]) (St.mk [] [(1, 1, [])]))) = _) ?_
  have hd := kids_drop hc
  have hlen : c.kids.length = ys.length + 1 := hc.len
  refine ⟨?_, by omega, ?_, ?_, ?_, rfl, rfl, ⟨snum_loop ys hl _ 0 rfl⟩⟩
  · intro x hx; obtain ⟨v, _, rfl⟩ := List.mem_map.1 hx; rw [enc_eq]; rfl
  · rw [List.length_map]; omega
  · exact congrArg (fun l => D.v (.list l)) hd
  · have := congrArg (fun l : List V => di (l.length : Int)) hd
    simpa using this
/- ATOMS -/
structure Atm where
  coefs : List Int
  mod : Int
  vals : List Int
  deriving Inhabited
abbrev vAtm (a : Atm) : V := .agg [vIs a.coefs, vi a.mod, vIs a.vals]
abbrev dAtm (a : Atm) : D := .v (vAtm a)
/-- a right atom -/
structure AtmOK (m : Mod) (a : Atm) : Prop where
  len : a.coefs.length = m.places.length
  coef : ∀ c ∈ a.coefs, -4 ≤ c ∧ c ≤ 4
  mod : a.mod = 0 ∨ 2 ≤ a.mod ∧ a.mod ≤ 8
  vlen : a.vals.length = m.states.length
  val : ∀ v ∈ a.vals, v = OMG ∨ (a.mod = 0 ∧ -1099511627776 ≤ v ∧ v ≤ 1099511627775) ∨ (0 < a.mod ∧ 0 ≤ v ∧ v ≤ a.mod - 1)
noncomputable abbrev fIFol : Func := Tryz.f184
noncomputable def cIFol : Code := fIFol.body.getD .skip
def folB (a : Atm) (amt : Int) (v : Int) : Bool := if (v == OMG) = true then false else if (a.mod == 0) = true then decide (amt ≥ v) else amt % a.mod == v
theorem ifol_spec (m : Mod) (a : Atm) (ha : AtmOK m a) (amt : Int) (hb : -1125899906842624 ≤ amt ∧ amt ≤ 1125899906842624) (s : Int) (v : Int) (hs : 0 ≤ s) (hv : a.vals[s.toNat]? = some v) : FSpec PP 184 [dAtm a, di amt, di s] σ0 (db (folB a amt v)) σ0 := by
  refine spec_vc mixed fIFol cIFol (by kernel_rfl) (by kernel_rfl) (by kernel_rfl) (by kernel_rfl) 29 (by kernel_rfl) [3] (.x (vi v) <| .b .r (.b .r (.c (di (amt % a.mod)) .r))) ?_
  refine via (by kernel_rfl : (0 ≤ s ∧ (List.map vi a.vals)[Int.toNat s]? = some (vi v) ∧ ((v == 1099511627776) = true → db false = db (folB a amt v)) ∧ ((v == 1099511627776) = false → ((a.mod == 0) = true → db (decide (amt ≥ v)) = db (folB a amt v)) ∧ ((a.mod == 0) = false → FSpec PP 126 [di amt, di a.mod] (St.mk [] []) (di (amt % a.mod)) (St.mk [] []) ∧ db (amt % a.mod == v) = db (folB a amt v)))) = _) ?_
  have hm := ha.mod
  refine ⟨hs, by rw [List.getElem?_map, hv]; rfl, fun h => ?_, fun h => ⟨fun h2 => ?_, fun h2 => ⟨irest_spec amt a.mod ?_ hb, ?_⟩⟩⟩
  · have h : (v == OMG) = true := h
    rw [folB, if_pos h]
  · have h : (v == OMG) = false := h
    rw [folB, if_neg (by rw [h]; decide), if_pos h2]
  · have h2 : a.mod ≠ 0 := by simpa using h2
    omega
  · have h : (v == OMG) = false := h
    rw [folB, if_neg (by rw [h]; decide), if_neg (by rw [h2]; decide)]
noncomputable abbrev fIHld : Func := Tryz.f183
noncomputable def cIHld : Code := fIHld.body.getD .skip
def hldB (a : Atm) (c : Val) : Bool := folB a (sumM a.coefs (nmV c)) (a.vals.getD (stV c).toNat 0)
theorem ihld_spec (m : Mod) (hm : PlC m) (a : Atm) (ha : AtmOK m a) (c : Val) (hc : CfgOK m c) : FSpec PP 183 [dAtm a, dV c] σ0 (db (hldB a c)) σ0 := by
  refine spec_vc mixed fIHld cIHld (by kernel_rfl) (by kernel_rfl) (by kernel_rfl) (by kernel_rfl) 17 (by kernel_rfl) [2, 3] (.c (dIs (nmV c)) <| .c (di (sumM a.coefs (nmV c))) <| .h (.xs (vVal (lf (stV c)))) <| .c (db (hldB a c)) .r) ?_
  refine via (by kernel_rfl : (FSpec PP 125 [D.v (vVal c)] (St.mk [] []) (dIs (nmV c)) (St.mk [] []) ∧ FSpec PP 124 [D.v (vIs a.coefs), D.v (vIs (nmV c))] (St.mk [] []) (di (sumM a.coefs (nmV c))) (St.mk [] []) ∧ 2 = 2 ∧ iz 0 ≤ 0 ∧ (List.map eV (Val.kids c))[Int.toNat 0]? = some (vVal (lf (stV c))) ∧ FSpec PP 184 [D.v (vAtm a), di (sumM a.coefs (nmV c)), di (Val.n (lf (stV c)))] (St.mk [] []) (db (hldB a c)) (St.mk [] []) ∧ db (hldB a c) = db (hldB a c)) = _) ?_
  have hp := hm.places
  have hf := hm.few
  have hs := hc.st
  obtain ⟨v, hv⟩ : ∃ v, a.vals[(stV c).toNat]? = some v := ⟨_, List.getElem?_eq_getElem (by rw [ha.vlen]; omega)⟩
  have hb := sumM_bd a.coefs (nmV c) ha.coef hc.nm
  have hl := ha.len
  have hcl := hc.len
  refine ⟨snum_spec c _ _ hc.isC (by omega), isum_spec _ _ (by omega) (by omega) ha.coef hc.nm, rfl, by decide, idx_val (i := 0) hc.isC.head, ?_, rfl⟩
  have h := ifol_spec m a ha (sumM a.coefs (nmV c)) (by omega) (stV c) v hs.1 hv
  rw [hldB, List.getD_eq_getElem?_getD, hv]
  exact h
noncomputable abbrev fIChk : Func := Tryz.f182
noncomputable def cIChk : Code := fIChk.body.getD .skip
noncomputable abbrev fIChk1 : Func := Tryz.f241
noncomputable def cIChk1 : Code := fIChk1.body.getD .skip
theorem ichk1_spec (v lo hi : Int) (h : v = OMG ∨ lo ≤ v ∧ v ≤ hi) : FSpec PP 241 [di v, .v (.ref (vi lo)), .v (.ref (vi hi))] σ0 (db false) σ0 := by
  refine spec_vc mixed fIChk1 cIChk1 (by kernel_rfl) (by kernel_rfl) (by kernel_rfl) (by kernel_rfl) 17 (by kernel_rfl) [] (.b (.f .r) .r) ?_
  refine via (by kernel_rfl : (((v != 1099511627776) = true → decide (v < lo) = false ∧ db (decide (v > hi)) = db false) ∧ ((v != 1099511627776) = false → db false = db false)) = _) ?_
  refine ⟨fun h1 => ?_, fun _ => rfl⟩
  have h1 : v ≠ OMG := by simpa [OMG] using h1
  have h2 := h.resolve_left h1
  exact ⟨decide_eq_false (by omega), by rw [decide_eq_false (by omega)]⟩
theorem atm_fit {m : Mod} {a : Atm} (ha : AtmOK m a) : a.coefs.any fitB = false := by
  rw [List.any_eq_false]
  intro c hc
  have := ha.coef c hc
  simp only [fitB, Bool.or_eq_true, decide_eq_true_eq]; omega
theorem atm_mod {m : Mod} {a : Atm} (ha : AtmOK m a) : modB a.mod = true := by
  rcases ha.mod with h | h
  · rw [h]; rfl
  · simp only [modB, Bool.or_eq_true, Bool.and_eq_true, decide_eq_true_eq]; omega
theorem ichk_0 (m : Mod) (hm : PlC m) (a : Atm) (ha : AtmOK m a) : FSpec PP 182 [dMod m, dAtm a] σ0 (di 0) σ0 := by
  by_cases h : a.mod = 0
  · refine spec_vc mixed fIChk cIChk (by kernel_rfl) (by kernel_rfl) (by kernel_rfl) (by kernel_rfl) 51 (by kernel_rfl) [2, 3] (.c (di 0) <| .k <| .f <| .c (db true) <| .c (db true) <| .k <| .f <| .f <| .h (.q 9 0) <| .h (.f1 0 [6]) <| .h (.f1 1 [7]) <| .c (db false) .r) ?_
    refine via (by kernel_rfl : (FSpec PP 120 [D.v (vMod m)] (St.mk [] []) (di 0) (St.mk [] []) ∧ ((↑(List.length (List.map vi a.coefs)) : Int) != (↑(List.length (List.map V.str m.places)) : Int)) = false ∧ FSpec PP 121 [D.v (vIs a.coefs)] (St.mk [] []) (db true) (St.mk [] []) ∧ FSpec PP 122 [di a.mod] (St.mk [] []) (db true) (St.mk [] []) ∧ ((↑(List.length (List.map vi a.vals)) : Int) != (↑(List.length (List.map V.str m.states)) : Int)) = false ∧ decide (a.mod > 0) = false ∧ FSpec PP 178 [D.v (vIs a.vals), D.v (V.fn 241 [] [V.ref (vi (-1099511627776)), V.ref (vi 1099511627775)])] (St.mk [] []) (db false) (St.mk [] []) ∧ di 0 = di 0) = _) ?_
    have hp := hm.places
    have hl := ha.len
    have hv := ha.vlen
    have hf := ifit_spec a.coefs (by omega)
    have hmd := imod_spec a.mod
    rw [atm_fit ha] at hf
    rw [atm_mod ha] at hmd
    have hmm := ha.mod
    have e1 : ((a.coefs.map vi).length : Int) = ((m.places.map V.str).length : Int) := by rw [List.length_map, List.length_map, hl]
    have e2 : ((a.vals.map vi).length : Int) = ((m.states.map V.str).length : Int) := by rw [List.length_map, List.length_map, hv]
    have hh := hasI_spec 241 [] [.ref (vi (-1099511627776)), .ref (vi 1099511627775)] (fun _ => false) a.vals (by omega) (fun v hv => ichk1_spec v (-1099511627776) 1099511627775 (by rcases ha.val v hv with h1 | h1 | h1 <;> omega))
    rw [show (a.vals.any fun _ => false) = false by simp] at hh
    exact ⟨scnt_spec m hm, by rw [e1]; simp, hf, hmd, by rw [e2]; simp, decide_eq_false (by omega), hh, rfl⟩
  · refine spec_vc mixed fIChk cIChk (by kernel_rfl) (by kernel_rfl) (by kernel_rfl) (by kernel_rfl) 51 (by kernel_rfl) [2, 3] (.c (di 0) <| .k <| .f <| .c (db true) <| .c (db true) <| .k <| .f <| .t <| .h (.q 9 0) <| .h (.f1 0 [6]) <| .h (.f1 1 [7]) <| .c (db false) .r) ?_
    refine via (by kernel_rfl : (FSpec PP 120 [D.v (vMod m)] (St.mk [] []) (di 0) (St.mk [] []) ∧ ((↑(List.length (List.map vi a.coefs)) : Int) != (↑(List.length (List.map V.str m.places)) : Int)) = false ∧ FSpec PP 121 [D.v (vIs a.coefs)] (St.mk [] []) (db true) (St.mk [] []) ∧ FSpec PP 122 [di a.mod] (St.mk [] []) (db true) (St.mk [] []) ∧ ((↑(List.length (List.map vi a.vals)) : Int) != (↑(List.length (List.map V.str m.states)) : Int)) = false ∧ decide (a.mod > 0) = true ∧ FSpec PP 178 [D.v (vIs a.vals), D.v (V.fn 241 [] [V.ref (vi 0), V.ref (vi (IntKind.wrap IntKind.i64 (a.mod - 1)))])] (St.mk [] []) (db false) (St.mk [] []) ∧ di 0 = di 0) = _) ?_
    have hp := hm.places
    have hl := ha.len
    have hv := ha.vlen
    have hf := ifit_spec a.coefs (by omega)
    have hmd := imod_spec a.mod
    rw [atm_fit ha] at hf
    rw [atm_mod ha] at hmd
    have hmm := ha.mod
    have e1 : ((a.coefs.map vi).length : Int) = ((m.places.map V.str).length : Int) := by rw [List.length_map, List.length_map, hl]
    have e2 : ((a.vals.map vi).length : Int) = ((m.states.map V.str).length : Int) := by rw [List.length_map, List.length_map, hv]
    have hh := hasI_spec 241 [] [.ref (vi 0), .ref (vi (a.mod - 1))] (fun _ => false) a.vals (by omega) (fun v hv => ichk1_spec v 0 (a.mod - 1) (by rcases ha.val v hv with h1 | h1 | h1 <;> omega))
    rw [show (a.vals.any fun _ => false) = false by simp] at hh
    refine ⟨scnt_spec m hm, by rw [e1]; simp, hf, hmd, by rw [e2]; simp, decide_eq_true (by omega), ?_, rfl⟩
    rw [wrap_id (by omega) (by omega)]; exact hh
noncomputable abbrev fIHlds : Func := Tryz.f128
noncomputable def cIHlds : Code := fIHlds.body.getD .skip
theorem ihlds_spec (m : Mod) (hm : PlC m) (a : Atm) (ha : AtmOK m a) (c : Val) (hc : CfgOK m c) : FSpec PP 128 [dMod m, dAtm a, dV c] σ0 (.tup [db (hldB a c), di 0]) σ0 := by
  refine spec_vc mixed fIHlds cIHlds (by kernel_rfl) (by kernel_rfl) (by kernel_rfl) (by kernel_rfl) 22 (by kernel_rfl) [3, 4, 5] (.c (di 0) <| .c (db true) <| .c (db (hldB a c)) .r) ?_
  refine via (by kernel_rfl : (FSpec PP 182 [D.v (vMod m), D.v (vAtm a)] (St.mk [] []) (di 0) (St.mk [] []) ∧ FSpec PP 61 [D.v (vMod m), D.v (vVal c)] (St.mk [] []) (db true) (St.mk [] []) ∧ FSpec PP 183 [D.v (vAtm a), D.v (vVal c)] (St.mk [] []) (db (hldB a c)) (St.mk [] []) ∧ D.tup [db (hldB a c), di 0] = D.tup [db (hldB a c), di 0]) = _) ?_
  have hsz := hc.size hm
  have h1 := mval_spec m hm.ok c (by omega)
  rw [hc.valid hm] at h1
  exact ⟨ichk_0 m hm a ha, h1, ihld_spec m hm a ha c hc, rfl⟩
noncomputable abbrev fICls : Func := Tryz.f129
noncomputable def cICls : Code := fICls.body.getD .skip
def clsB (a : Atm) (r : Rul) : Bool := !(a.vals.getD r.frm.toNat 0 == OMG) && !folB a (a.vals.getD r.frm.toNat 0 + effM a.coefs r) (a.vals.getD r.to.toNat 0)
def clsM (m : Mod) (a : Atm) : Int := if hldB a m.start = true then (if m.rules.any (clsB a) = true then 41 else 0) else 42
theorem eff_bd {m : Mod} {r : Rul} (hr : RulOK m r) {cs : List Int} (hl : cs.length ≤ 2) (hc : ∀ c ∈ cs, -4 ≤ c ∧ c ≤ 4) : -16777216 ≤ effM cs r ∧ effM cs r ≤ 16777216 := by
  have b1 : ∀ v ∈ r.give, 0 ≤ v ∧ v ≤ 1048576 := fun v hv => by have := hr.give v hv; omega
  have b2 : ∀ v ∈ r.need, 0 ≤ v ∧ v ≤ 1048576 := fun v hv => by have := hr.need v hv; omega
  have h1 := sumM_bd cs r.give hc b1
  have h2 := sumM_bd cs r.need hc b2
  unfold effM; omega
theorem AtmOK.vbd {m : Mod} {a : Atm} (ha : AtmOK m a) {v : Int} (hv : v ∈ a.vals) : -1099511627776 ≤ v ∧ v ≤ 1099511627776 := by
  have := ha.mod
  rcases ha.val v hv with h | h | h
  · rw [h]; decide
  · omega
  · omega
theorem icls_loop (m : Mod) (hm : PlC m) (a : Atm) (ha : AtmOK m a) (N : Nat) : ∀ k : Nat, m.rules.length - k = N →
    Rn PP fICls 0 (di (if (m.rules.drop k).any (clsB a) = true then 41 else 0)) σ0 ([.lp (sub cICls [1, 1, 0, 1, 0, 0]), .blk 0, .code (sub cICls [1, 1, 1])] ++ []) (mkE 42 [(3, .v (.ref (vAtm a))), (14, .v (vRuls m.rules)), (15, di m.rules.length), (16, di k)]) σ0 := by
  induction N with
  | zero =>
    intro k hn
    refine loop_vc mixed 42 [2, 3] (.f .r) ?_
    refine via (by kernel_rfl : (decide ((↑k : Int) < (↑(List.length m.rules) : Int)) = false ∧ di 0 = di (if List.any (List.drop k m.rules) (clsB a) = true then 41 else 0)) = _) ?_
    rw [List.drop_of_length_le (by omega)]
    exact ⟨decide_eq_false (by omega), rfl⟩
  | succ N ih =>
    intro k hn
    have hk : k < m.rules.length := by omega
    obtain ⟨r, hr⟩ : ∃ r, m.rules[k]? = some r := ⟨_, List.getElem?_eq_getElem hk⟩
    have e3 : m.rules.drop k = r :: m.rules.drop (k + 1) := by rw [List.drop_eq_getElem_cons hk]; congr 1; rw [List.getElem?_eq_getElem hk] at hr; simpa using hr
    have hro := hm.rule (List.mem_of_getElem? hr)
    have hp := hm.places
    have hf := hm.few
    obtain ⟨v, hv⟩ : ∃ v, a.vals[r.frm.toNat]? = some v := ⟨_, List.getElem?_eq_getElem (by rw [ha.vlen]; have := hro.frm; omega)⟩
    obtain ⟨u, hu⟩ : ∃ v, a.vals[r.to.toNat]? = some v := ⟨_, List.getElem?_eq_getElem (by rw [ha.vlen]; have := hro.to; omega)⟩
    have hvb := ha.vbd (List.mem_of_getElem? hv)
    have heb := eff_bd hro (by rw [ha.len]; omega) ha.coef
    have hcb : clsB a r = (!(v == OMG) && !folB a (v + effM a.coefs r) u) := by
      rw [clsB, List.getD_eq_getElem?_getD, List.getD_eq_getElem?_getD, hv, hu]; rfl
    have hi := ih (k + 1) (by omega)
    have heff := ieff_spec m r hro a.coefs ha.len (by rw [ha.len]; omega) ha.coef
    have hfol := ifol_spec m a ha (v + effM a.coefs r) (by omega) r.to u hro.to.1 hu
    rw [e3, List.any_cons, hcb]
    by_cases h1 : (v != 1099511627776) = true
    · have h1' : (v == OMG) = false := by simpa [OMG] using h1
      rw [h1', Bool.not_false, Bool.true_and]
      cases hb : folB a (v + effM a.coefs r) u with
      | true =>
        rw [hb] at hfol
        rw [Bool.not_true, Bool.false_or]
        refine loop_vc mixed 42 [2, 3] (.t <| .x (vRul r) <| .x (vi v) <| .t <| .c (di (effM a.coefs r)) <| .c (db true) <| .ls [ke 3, ke 14, ke 15, ch 16 (di (k + 1 : Nat))] σ0) ?_
        refine via (by kernel_rfl : (decide ((↑k : Int) < (↑(List.length m.rules) : Int)) = true ∧ 0 ≤ (↑k : Int) ∧ (List.map vRul m.rules)[Int.toNat (↑k : Int)]? = some (vRul r) ∧ 0 ≤ r.frm ∧ (List.map vi a.vals)[Int.toNat r.frm]? = some (vi v) ∧ (v != 1099511627776) = true ∧ FSpec PP 185 [D.v (vIs a.coefs), D.v (V.agg [V.str r.name, vi r.frm, vi r.to, vIs r.need, vIs r.give, vIs r.move, vi r.chan, vi r.act, vi r.letter, vIs r.path, vIs r.next, vTks r.takes, vIs r.makes, vi r.second])] (St.mk [] []) (di (effM a.coefs r)) (St.mk [] []) ∧ FSpec PP 184 [D.v (vAtm a), di (IntKind.wrap IntKind.i64 (v + effM a.coefs r)), di r.to] (St.mk [] []) (db true) (St.mk [] []) ∧ (True ∧ True ∧ True) ∧ di (IntKind.wrap IntKind.i64 ((↑k : Int) + 1)) = di (↑(k + 1) : Int) ∧ Nv.It (RunC (CN 0) PP (fun env σ1 => ResOK PP fICls env σ1 (di (if List.any (List.drop (k + 1) m.rules) (clsB a) = true then 41 else 0)) σ0) [KI.lp (sub cICls [1, 1, 0, 1, 0, 0]), KI.blk 0, KI.code (sub cICls [1, 1, 1])] (mkE 42 [(3, D.v (V.ref (vAtm a))), (14, D.v (vRuls m.rules)), (15, di (↑(List.length m.rules) : Int)), (16, di (↑(k + 1) : Int))]) σ0)) = _) ?_
        refine ⟨decide_eq_true (by omega), by omega, idx_some hr, hro.frm.1, by rw [List.getElem?_map, hv]; rfl, h1, heff, ?_, ⟨trivial, trivial, trivial⟩, wrap_succ (by omega), ⟨hi⟩⟩
        rw [wrap_id (by omega) (by omega)]; exact hfol
      | false =>
        rw [hb] at hfol
        rw [Bool.not_false, Bool.true_or]
        refine loop_vc mixed 42 [2, 3] (.t <| .x (vRul r) <| .x (vi v) <| .t <| .c (di (effM a.coefs r)) <| .c (db false) .r) ?_
        refine via (by kernel_rfl : (decide ((↑k : Int) < (↑(List.length m.rules) : Int)) = true ∧ 0 ≤ (↑k : Int) ∧ (List.map vRul m.rules)[Int.toNat (↑k : Int)]? = some (vRul r) ∧ 0 ≤ r.frm ∧ (List.map vi a.vals)[Int.toNat r.frm]? = some (vi v) ∧ (v != 1099511627776) = true ∧ FSpec PP 185 [D.v (vIs a.coefs), D.v (V.agg [V.str r.name, vi r.frm, vi r.to, vIs r.need, vIs r.give, vIs r.move, vi r.chan, vi r.act, vi r.letter, vIs r.path, vIs r.next, vTks r.takes, vIs r.makes, vi r.second])] (St.mk [] []) (di (effM a.coefs r)) (St.mk [] []) ∧ FSpec PP 184 [D.v (vAtm a), di (IntKind.wrap IntKind.i64 (v + effM a.coefs r)), di r.to] (St.mk [] []) (db false) (St.mk [] []) ∧ (True ∧ True ∧ True) ∧ di 41 = di (if true = true then 41 else 0)) = _) ?_
        refine ⟨decide_eq_true (by omega), by omega, idx_some hr, hro.frm.1, by rw [List.getElem?_map, hv]; rfl, h1, heff, ?_, ⟨trivial, trivial, trivial⟩, rfl⟩
        rw [wrap_id (by omega) (by omega)]; exact hfol
    · have h1' : (v == OMG) = true := by simpa [OMG] using h1
      rw [h1', Bool.not_true, Bool.false_and, Bool.false_or]
      refine loop_vc mixed 42 [2, 3] (.t <| .x (vRul r) <| .x (vi v) <| .f <| .ls [ke 3, ke 14, ke 15, ch 16 (di (k + 1 : Nat))] σ0) ?_
      refine via (by kernel_rfl : (decide ((↑k : Int) < (↑(List.length m.rules) : Int)) = true ∧ 0 ≤ (↑k : Int) ∧ (List.map vRul m.rules)[Int.toNat (↑k : Int)]? = some (vRul r) ∧ 0 ≤ r.frm ∧ (List.map vi a.vals)[Int.toNat r.frm]? = some (vi v) ∧ (v != 1099511627776) = false ∧ di (IntKind.wrap IntKind.i64 ((↑k : Int) + 1)) = di (↑(k + 1) : Int) ∧ Nv.It (RunC (CN 0) PP (fun env σ1 => ResOK PP fICls env σ1 (di (if List.any (List.drop (k + 1) m.rules) (clsB a) = true then 41 else 0)) σ0) [KI.lp (sub cICls [1, 1, 0, 1, 0, 0]), KI.blk 0, KI.code (sub cICls [1, 1, 1])] (mkE 42 [(3, D.v (V.ref (vAtm a))), (14, D.v (vRuls m.rules)), (15, di (↑(List.length m.rules) : Int)), (16, di (↑(k + 1) : Int))]) σ0)) = _) ?_
      exact ⟨decide_eq_true (by omega), by omega, idx_some hr, hro.frm.1, by rw [List.getElem?_map, hv]; rfl, eq_false_of_ne_true h1, wrap_succ (by omega), ⟨hi⟩⟩
theorem icls_spec (m : Mod) (hm : PlC m) (a : Atm) (ha : AtmOK m a) : FSpec PP 129 [dMod m, dAtm a] σ0 (di (clsM m a)) σ0 := by
  have hh := ihld_spec m hm a ha m.start hm.start
  cases hb : hldB a m.start with
  | false =>
    rw [hb] at hh
    refine spec_vc mixed fICls cICls (by kernel_rfl) (by kernel_rfl) (by kernel_rfl) (by kernel_rfl) 42 (by kernel_rfl) [2, 3] (.c (db false) .r) ?_
    refine via (by kernel_rfl : (FSpec PP 183 [D.v (vAtm a), D.v (V.agg [vi (Val.n m.start), vVs (Val.kids m.start)])] (St.mk [] []) (db false) (St.mk [] []) ∧ di 42 = di (clsM m a)) = _) ?_
    exact ⟨hh, by rw [clsM, hb]; rfl⟩
  | true =>
    rw [hb] at hh
    refine spec_vc mixed fICls cICls (by kernel_rfl) (by kernel_rfl) (by kernel_rfl) (by kernel_rfl) 42 (by kernel_rfl) [2, 3] (.c (db true) <| .l [ke 3, ke 14, ch 15 (di m.rules.length), ch 16 (di (0 : Nat))]) ?_
    refine via (by kernel_rfl : (FSpec PP 183 [D.v (vAtm a), D.v (V.agg [vi (Val.n m.start), vVs (Val.kids m.start)])] (St.mk [] []) (db true) (St.mk [] []) ∧ di (↑(List.length (List.map vRul m.rules)) : Int) = di (↑(List.length m.rules) : Int) ∧ di 0 = di (↑0 : Int) ∧ Nv.It (RunC (CN (List.length σ0.H)) PP (fun env σ1 => ResOK PP fICls env σ1 (di (clsM m a)) σ0) [KI.lp (sub cICls [1, 1, 0, 1, 0, 0]), KI.blk 0, KI.code (sub cICls [1, 1, 1])] (mkE 42 [(3, D.v (V.ref (vAtm a))), (14, D.v (vRuls m.rules)), (15, di (↑(List.length m.rules) : Int)), (16, di (↑0 : Int))]) σ0)) = _) ?_
    have hl := icls_loop m hm a ha _ 0 rfl
    rw [clsM, hb]
    exact ⟨hh, by rw [List.length_map], rfl, ⟨hl⟩⟩
noncomputable abbrev fIExc : Func := Tryz.f76
noncomputable def cIExc : Code := fIExc.body.getD .skip
def excB (m : Mod) (a : Atm) (c : Val) : Bool := !hldB a c && (clsM m a == 0)
theorem iexc_spec (m : Mod) (hm : PlC m) (a : Atm) (ha : AtmOK m a) (c : Val) (hc : CfgOK m c) : FSpec PP 76 [dMod m, dAtm a, dV c] σ0 (.tup [db (excB m a c), di 0]) σ0 := by
  have h := ihlds_spec m hm a ha c hc
  cases hb : hldB a c with
  | true =>
    rw [hb] at h
    refine spec_vc mixed fIExc cIExc (by kernel_rfl) (by kernel_rfl) (by kernel_rfl) (by kernel_rfl) 28 (by kernel_rfl) [3, 4, 5] (.c (.tup [db true, di 0]) .r) ?_
    refine via (by kernel_rfl : (FSpec PP 128 [D.v (vMod m), D.v (vAtm a), D.v (vVal c)] (St.mk [] []) (D.tup [db true, di 0]) (St.mk [] []) ∧ D.tup [db false, di 0] = D.tup [db (excB m a c), di 0]) = _) ?_
    exact ⟨h, by rw [excB, hb]; rfl⟩
  | false =>
    rw [hb] at h
    refine spec_vc mixed fIExc cIExc (by kernel_rfl) (by kernel_rfl) (by kernel_rfl) (by kernel_rfl) 28 (by kernel_rfl) [3, 4, 5] (.c (.tup [db false, di 0]) <| .c (di (clsM m a)) .r) ?_
    refine via (by kernel_rfl : (FSpec PP 128 [D.v (vMod m), D.v (vAtm a), D.v (vVal c)] (St.mk [] []) (D.tup [db false, di 0]) (St.mk [] []) ∧ FSpec PP 129 [D.v (vMod m), D.v (vAtm a)] (St.mk [] []) (di (clsM m a)) (St.mk [] []) ∧ D.tup [db (clsM m a == 0), di 0] = D.tup [db (excB m a c), di 0]) = _) ?_
    exact ⟨h, icls_spec m hm a ha, by rw [excB, hb]; rfl⟩
end Go.Proofs.YtdfdemnbaiieaaaGreat

namespace Go.Proofs.YtdfdemnbaiieaaaGreat
open Go.Dv Go.Nv
set_option maxRecDepth 20000
theorem fu_int : PP.underlying 3 = some (.int .i64) := by kernel_rfl
theorem fu_uint : PP.underlying 113 = some (.int .u64) := by kernel_rfl
theorem fu_Sint : PP.underlying 27 = some (.slice 3) := by kernel_rfl
theorem fsl_Sint : slTy PP 27 = some (3, 1, 8, some (.int .i64 0)) := by kernel_rfl
noncomputable abbrev fM64 : Func := Tryz.f240
noncomputable def cM64 : Code := fM64.body.getD .skip
theorem m64_1 : FSpec PP 240 [.v (.int .u64 1), .v (.int .u64 1)] σ0 (.tup [.v (.int .u64 0), .v (.int .u64 1)]) σ0 := by
  refine spec_vc mixed fM64 cM64 (by kernel_rfl) (by kernel_rfl) (by kernel_rfl) (by kernel_rfl) 51 (by kernel_rfl) [] .r ?_
  refine via (by kernel_rfl : (iz 0 ≤ 32 ∧ iz 0 ≤ 32 ∧ iz 0 ≤ 32 ∧ iz 0 ≤ 32 ∧ iz 0 ≤ 32 ∧ D.tup [D.v (V.int IntKind.u64 (IntKind.wrap IntKind.u64 (IntKind.wrap IntKind.u64 (IntKind.wrap IntKind.u64 (Int.fdiv 1 (2 ^ min (Int.toNat 32) (IntKind.bits IntKind.u64)) * Int.fdiv 1 (2 ^ min (Int.toNat 32) (IntKind.bits IntKind.u64))) + Int.fdiv (IntKind.wrap IntKind.u64 (IntKind.wrap IntKind.u64 (Int.fdiv 1 (2 ^ min (Int.toNat 32) (IntKind.bits IntKind.u64)) * IntKind.wrap IntKind.u64 (↑(BitVec.toNat (BitVec.ofInt (IntKind.bits IntKind.u64) 1 &&& BitVec.ofInt (IntKind.bits IntKind.u64) 4294967295)) : Int)) + Int.fdiv (IntKind.wrap IntKind.u64 (IntKind.wrap IntKind.u64 (↑(BitVec.toNat (BitVec.ofInt (IntKind.bits IntKind.u64) 1 &&& BitVec.ofInt (IntKind.bits IntKind.u64) 4294967295)) : Int) * IntKind.wrap IntKind.u64 (↑(BitVec.toNat (BitVec.ofInt (IntKind.bits IntKind.u64) 1 &&& BitVec.ofInt (IntKind.bits IntKind.u64) 4294967295)) : Int))) (2 ^ min (Int.toNat 32) (IntKind.bits IntKind.u64)))) (2 ^ min (Int.toNat 32) (IntKind.bits IntKind.u64))) + Int.fdiv (IntKind.wrap IntKind.u64 (IntKind.wrap IntKind.u64 (↑(BitVec.toNat (BitVec.ofInt (IntKind.bits IntKind.u64) (IntKind.wrap IntKind.u64 (IntKind.wrap IntKind.u64 (Int.fdiv 1 (2 ^ min (Int.toNat 32) (IntKind.bits IntKind.u64)) * IntKind.wrap IntKind.u64 (↑(BitVec.toNat (BitVec.ofInt (IntKind.bits IntKind.u64) 1 &&& BitVec.ofInt (IntKind.bits IntKind.u64) 4294967295)) : Int)) + Int.fdiv (IntKind.wrap IntKind.u64 (IntKind.wrap IntKind.u64 (↑(BitVec.toNat (BitVec.ofInt (IntKind.bits IntKind.u64) 1 &&& BitVec.ofInt (IntKind.bits IntKind.u64) 4294967295)) : Int) * IntKind.wrap IntKind.u64 (↑(BitVec.toNat (BitVec.ofInt (IntKind.bits IntKind.u64) 1 &&& BitVec.ofInt (IntKind.bits IntKind.u64) 4294967295)) : Int))) (2 ^ min (Int.toNat 32) (IntKind.bits IntKind.u64)))) &&& BitVec.ofInt (IntKind.bits IntKind.u64) 4294967295)) : Int) + IntKind.wrap IntKind.u64 (IntKind.wrap IntKind.u64 (↑(BitVec.toNat (BitVec.ofInt (IntKind.bits IntKind.u64) 1 &&& BitVec.ofInt (IntKind.bits IntKind.u64) 4294967295)) : Int) * Int.fdiv 1 (2 ^ min (Int.toNat 32) (IntKind.bits IntKind.u64))))) (2 ^ min (Int.toNat 32) (IntKind.bits IntKind.u64))))), D.v (V.int IntKind.u64 (IntKind.wrap IntKind.u64 (1 * 1)))] = D.tup [D.v (V.int IntKind.u64 0), D.v (V.int IntKind.u64 1)]) = _) ?_
  exact ⟨by decide, by decide, by decide, by decide, by decide, by kernel_rfl⟩
theorem m64_2 : FSpec PP 240 [.v (.int .u64 1), .v (.int .u64 2)] σ0 (.tup [.v (.int .u64 0), .v (.int .u64 2)]) σ0 := by
  refine spec_vc mixed fM64 cM64 (by kernel_rfl) (by kernel_rfl) (by kernel_rfl) (by kernel_rfl) 51 (by kernel_rfl) [] .r ?_
  refine via (by kernel_rfl : (iz 0 ≤ 32 ∧ iz 0 ≤ 32 ∧ iz 0 ≤ 32 ∧ iz 0 ≤ 32 ∧ iz 0 ≤ 32 ∧ D.tup [D.v (V.int IntKind.u64 (IntKind.wrap IntKind.u64 (IntKind.wrap IntKind.u64 (IntKind.wrap IntKind.u64 (Int.fdiv 1 (2 ^ min (Int.toNat 32) (IntKind.bits IntKind.u64)) * Int.fdiv 2 (2 ^ min (Int.toNat 32) (IntKind.bits IntKind.u64))) + Int.fdiv (IntKind.wrap IntKind.u64 (IntKind.wrap IntKind.u64 (Int.fdiv 1 (2 ^ min (Int.toNat 32) (IntKind.bits IntKind.u64)) * IntKind.wrap IntKind.u64 (↑(BitVec.toNat (BitVec.ofInt (IntKind.bits IntKind.u64) 2 &&& BitVec.ofInt (IntKind.bits IntKind.u64) 4294967295)) : Int)) + Int.fdiv (IntKind.wrap IntKind.u64 (IntKind.wrap IntKind.u64 (↑(BitVec.toNat (BitVec.ofInt (IntKind.bits IntKind.u64) 1 &&& BitVec.ofInt (IntKind.bits IntKind.u64) 4294967295)) : Int) * IntKind.wrap IntKind.u64 (↑(BitVec.toNat (BitVec.ofInt (IntKind.bits IntKind.u64) 2 &&& BitVec.ofInt (IntKind.bits IntKind.u64) 4294967295)) : Int))) (2 ^ min (Int.toNat 32) (IntKind.bits IntKind.u64)))) (2 ^ min (Int.toNat 32) (IntKind.bits IntKind.u64))) + Int.fdiv (IntKind.wrap IntKind.u64 (IntKind.wrap IntKind.u64 (↑(BitVec.toNat (BitVec.ofInt (IntKind.bits IntKind.u64) (IntKind.wrap IntKind.u64 (IntKind.wrap IntKind.u64 (Int.fdiv 1 (2 ^ min (Int.toNat 32) (IntKind.bits IntKind.u64)) * IntKind.wrap IntKind.u64 (↑(BitVec.toNat (BitVec.ofInt (IntKind.bits IntKind.u64) 2 &&& BitVec.ofInt (IntKind.bits IntKind.u64) 4294967295)) : Int)) + Int.fdiv (IntKind.wrap IntKind.u64 (IntKind.wrap IntKind.u64 (↑(BitVec.toNat (BitVec.ofInt (IntKind.bits IntKind.u64) 1 &&& BitVec.ofInt (IntKind.bits IntKind.u64) 4294967295)) : Int) * IntKind.wrap IntKind.u64 (↑(BitVec.toNat (BitVec.ofInt (IntKind.bits IntKind.u64) 2 &&& BitVec.ofInt (IntKind.bits IntKind.u64) 4294967295)) : Int))) (2 ^ min (Int.toNat 32) (IntKind.bits IntKind.u64)))) &&& BitVec.ofInt (IntKind.bits IntKind.u64) 4294967295)) : Int) + IntKind.wrap IntKind.u64 (IntKind.wrap IntKind.u64 (↑(BitVec.toNat (BitVec.ofInt (IntKind.bits IntKind.u64) 1 &&& BitVec.ofInt (IntKind.bits IntKind.u64) 4294967295)) : Int) * Int.fdiv 2 (2 ^ min (Int.toNat 32) (IntKind.bits IntKind.u64))))) (2 ^ min (Int.toNat 32) (IntKind.bits IntKind.u64))))), D.v (V.int IntKind.u64 (IntKind.wrap IntKind.u64 (1 * 2)))] = D.tup [D.v (V.int IntKind.u64 0), D.v (V.int IntKind.u64 2)]) = _) ?_
  exact ⟨by decide, by decide, by decide, by decide, by decide, by kernel_rfl⟩
noncomputable abbrev fMul : Func := Tryz.f180
noncomputable def cMul : Code := fMul.body.getD .skip
theorem mul_spec (n : Nat) (h0 : 1 ≤ n) (h6 : n ≤ 2) : FSpec PP 180 [.v (.int .u64 1), .v (.int .u64 (n : Int))] σ0 (.tup [.v (.int .u64 0), .v (.int .u64 (n : Int))]) σ0 := by
  refine spec_vc mixed fMul cMul (by kernel_rfl) (by kernel_rfl) (by kernel_rfl) (by kernel_rfl) 30 (by kernel_rfl) [] (.c (.tup [.v (.int .u64 0), .v (.int .u64 (n : Int))]) .r) ?_
  refine via (by kernel_rfl : (FSpec PP 240 [D.v (V.int IntKind.u64 1), D.v (V.int IntKind.u64 (↑n : Int))] (St.mk [] []) (D.tup [D.v (V.int IntKind.u64 0), D.v (V.int IntKind.u64 (↑n : Int))]) (St.mk [] []) ∧ D.tup [D.v (V.int IntKind.u64 0), D.v (V.int IntKind.u64 (↑n : Int))] = D.tup [D.v (V.int IntKind.u64 0), D.v (V.int IntKind.u64 (↑n : Int))]) = _) ?_
  refine ⟨?_, rfl⟩
  rcases (show n = 1 ∨ n = 2 by omega) with rfl | rfl
  · exact m64_1
  · exact m64_2
def repCs (n k : Nat) : List D := List.replicate k (di 1099511627776) ++ List.replicate (n - k) (di 0)
section
variable {P : Program} {o : Oper} {σ : St}
theorem op_sliceFrom {t : TypeId} {x lo : Operand} (ho : o.op = .slice t x (some lo) none none) {e : TypeId} {by' : Nat} {z : Option Value} (hs : slTy P t = some (e, 1, by', z)) {q len k : Nat} (hk : k < len) :
    OpOK P o [.arr q 0 len, di ↑k] σ (.arr q k (len - k)) σ := by
  have := op_sliceArr (P := P) (o := o) (σ := σ) ho hs (q := q) (off := 0) (len := len) (some (.i64, (k : Int))) none rfl rfl (l' := k) (h' := len) (by simp [sliceI]; omega) hk
  rw [Nat.zero_add] at this; exact this
theorem op_sliceTo {t : TypeId} {x hi : Operand} (ho : o.op = .slice t x none (some hi) none) {e : TypeId} {by' : Nat} {z : Option Value} (hs : slTy P t = some (e, 1, by', z)) {q len k : Nat} (hk : k < len) :
    OpOK P o [.arr q 0 len, di ↑k] σ (.arr q 0 k) σ := by
  have := op_sliceArr (P := P) (o := o) (σ := σ) ho hs (q := q) (off := 0) (len := len) none (some (.i64, (k : Int))) rfl rfl (l' := 0) (h' := k) (by simp [sliceI]; omega) (by omega)
  rw [Nat.zero_add, Nat.sub_zero] at this; exact this
theorem op_copyRep {x y : Operand} {t : TypeId} (ho : o.op = .call { callee := .builtin .copy, args := #[x, y], argTypes := #[t, t] }) {e : TypeId} {by' : Nat} {z : Option Value} (hs : slTy P t = some (e, 1, by', z)) {n k : Nat} (hk : k < n) :
    OpOK P o [.arr 0 k (n - k), .arr 0 0 k] ⟨[some (repCs n k)], []⟩ (di ↑(min k (n - k))) ⟨[some (repCs n (k + min k (n - k)))], []⟩ := by
  have hl : (repCs n k).length = n := by simp [repCs]; omega
  have h1 : min k (n - k) ≤ n - k := Nat.min_le_right _ _
  have h2 : min k (n - k) ≤ k := Nat.min_le_left _ _
  have := op_copyA (P := P) (o := o) (σ := ⟨[some (repCs n k)], []⟩) ho hs (q := 0) (off := k) (len := n - k) (off2 := 0) (len2 := k) (k := min k (n - k)) (cs := repCs n k) rfl rfl (by omega) (by omega)
  have e : (repCs n k).take k ++ ((repCs n k).drop 0).take (min k (n - k)) ++ (repCs n k).drop (k + min k (n - k)) = repCs n (k + min k (n - k)) := by
    generalize min k (n - k) = j at h1 h2 ⊢
    simp only [repCs, List.drop_zero]
    rw [List.take_append_of_le_length (by simp), List.take_replicate, Nat.min_self, List.take_append_of_le_length (by simpa using h2), List.take_replicate, Nat.min_eq_left h2, List.drop_append, List.drop_replicate, List.drop_replicate, List.length_replicate]
    rw [show k - (k + j) = 0 by omega, List.replicate_zero, List.nil_append, List.replicate_append_replicate, show k + j - k = j by omega, show n - k - j = n - (k + j) by omega]
  rw [e] at this
  exact this
end
theorem pls_rep (n : Nat) : D.pls (List.replicate n (di 1099511627776)) = true := by
  induction n with
  | zero => rfl
  | succ n ih => rw [List.replicate_succ]; simp only [D.pls, ih, Bool.and_true]; rfl
theorem wrap_u {n : Nat} (h : n ≤ 1000) : IntKind.u64.wrap (n : Int) = n := by
  have : ∀ m : Nat, m ≤ 1000 → IntKind.u64.wrap (m : Int) = m := by decide +kernel
  exact this n h
theorem rep_start {n : Nat} (_ : 1 ≤ n) : List.take 0 (List.replicate n (di 0)) ++ List.map D.v (List.take 1 [vi 1099511627776]) ++ List.drop 1 (List.replicate n (di 0)) = repCs n 1 := by
  simp [repCs]

noncomputable def cRep : Code := Tryz.f123.body.getD .skip
set_option maxRecDepth 20000 in
theorem rep_loop (n : Nat) (hn : n ≤ 100) (m : Nat) : ∀ (k : Nat), n - k = m → 1 ≤ k → k ≤ n → Run PP (fun env σ1 => ResOK PP Tryz.f123 env σ1 (.arr 0 0 n) ⟨[some (List.replicate n (di 1099511627776))], []⟩) [.lp (sub cRep [1, 1, 1, 1, 1, 1, 0, 0, 0]), .blk 0, .code (sub cRep [1, 1, 1, 1, 1, 1, 1])] (.undef :: .undef :: .undef :: .undef :: .undef :: .undef :: .undef :: (.arr 0 0 n) :: (di ↑k) :: .undef :: .undef :: .undef :: .undef :: .undef :: .undef :: .undef :: .undef :: .undef :: .undef :: .undef :: .undef :: .undef :: .undef :: .undef :: .undef :: .undef :: .undef :: .undef :: .undef :: .undef :: .undef :: .undef :: .undef :: .undef :: .undef :: .undef :: .undef :: .undef :: .undef :: .undef :: .undef :: .undef :: .undef :: .undef :: .undef :: .undef :: .undef :: .undef :: []) ⟨[some (repCs n k)], []⟩ := by
  induction m using Nat.strongRecOn with
  | _ m ih =>
    intro k hm hk1 hkn
    refine run_lp ?_
    refine at_seq [1, 1, 1, 1, 1, 1, 0, 0, 0, 0] [1, 1, 1, 1, 1, 1, 0, 0, 0, 1] rfl ?_
    refine at_seq [1, 1, 1, 1, 1, 1, 0, 0, 0, 0, 0] [1, 1, 1, 1, 1, 1, 0, 0, 0, 0, 1] rfl ?_
    refine at_region rfl ?_
    refine at_mv 8 34 rfl rfl rfl (.inl rfl) rfl (by dsimp only [List.set]) ?_
    refine at_mv 7 35 rfl rfl rfl (.inl rfl) rfl (by dsimp only [List.set]) ?_
    first | (refine at_op (some 36) rfl rfl rfl rfl (op_lenL rfl fu_Sint) (by dsimp only [putD, List.set]) ?_) | (refine at_op (some 36) rfl rfl rfl rfl (opOK_un (op_lenL rfl fu_Sint)) (by dsimp only [putD, List.set]) ?_) | (refine at_op (some 36) rfl rfl rfl rfl (op_lenA rfl fu_Sint) (by dsimp only [putD, List.set]) ?_)
    refine at_op (some 37) rfl rfl rfl rfl (op_binI rfl rfl) (by dsimp only [putD, List.set]) ?_
    refine at_end rfl ?_
    refine at_cond [1, 1, 1, 1, 1, 1, 0, 0, 0, 0, 1, 0] [1, 1, 1, 1, 1, 1, 0, 0, 0, 0, 1, 1] rfl rfl (fun hc1 => ?_) (fun hc1 => ?_)
    · skip
      have hlt : k < n := by simp at hc1; omega
      refine at_skip rfl ?_
      refine at_block [1, 1, 1, 1, 1, 1, 0, 0, 0, 1, 0] 1 rfl ?_
      refine at_draw mixed rfl [⟨[some (repCs n k)], []⟩, ⟨[some (repCs n (k + min k (n - k)))], []⟩] rfl ?_
      refine da_mv 8 38 rfl rfl rfl (.inl rfl) rfl (by dsimp only [List.set]) ?_
      refine da_mv 7 39 rfl rfl rfl (.inl rfl) rfl (by dsimp only [List.set]) ?_
      refine da_mv 8 40 rfl rfl rfl (.inl rfl) rfl (by dsimp only [List.set]) ?_
      refine da_quiet (some 41) rfl rfl rfl rfl (fun s hs => op_sliceFrom rfl fsl_Sint hlt) (by dsimp only [putD, List.set]) ?_
      refine da_mv 7 42 rfl rfl rfl (.inl rfl) rfl (by dsimp only [List.set]) ?_
      refine da_mv 8 43 rfl rfl rfl (.inl rfl) rfl (by dsimp only [List.set]) ?_
      refine da_quiet (some 44) rfl rfl rfl rfl (fun s hs => op_sliceTo rfl fsl_Sint hlt) (by dsimp only [putD, List.set]) ?_
      refine da_eff (some 45) rfl rfl rfl rfl rfl rfl (op_copyRep rfl fsl_Sint hlt) (by dsimp only [putD, List.set]) ?_
      refine da_quiet (some 46) rfl rfl rfl rfl (fun s hs => op_binI rfl rfl) (by dsimp only [putD, List.set]) ?_
      refine da_mv 46 8 rfl rfl rfl (.inr rfl) rfl (by dsimp only [List.set]) ?_
      refine da_end rfl ⟨by decide +kernel, _, rfl, ?_⟩
      refine run_blk ?_
      rw [wrap_id (by omega) (by omega), show (k : Int) + ((min k (n - k) : Nat) : Int) = ((k + min k (n - k) : Nat) : Int) by omega]
      exact run_wk (.drop (.drop (.drop (.drop (.drop (.drop (.drop (.keep (.keep (.drop (.drop (.drop (.drop (.drop (.drop (.drop (.drop (.drop (.drop (.drop (.drop (.drop (.drop (.drop (.drop (.drop (.drop (.drop (.drop (.drop (.drop (.drop (.drop (.drop (.drop (.drop (.drop (.drop (.drop (.drop (.drop (.drop (.drop (.drop (.drop (.drop (.drop (.drop .nil)))))))))))))))))))))))))))))))))))))))))))))))) (ih _ (by omega) (k + min k (n - k)) rfl (by omega) (by omega))
    · skip
      have hge : k = n := by simp at hc1; omega
      subst hge
      rw [show repCs k k = List.replicate k (di 1099511627776) by simp [repCs]]
      refine at_exit rfl rfl ?_
      refine at_seq [1, 1, 1, 1, 1, 1, 1, 0] [1, 1, 1, 1, 1, 1, 1, 1] rfl ?_
      refine at_region rfl ?_
      refine at_mv 7 47 rfl rfl rfl (.inl rfl) rfl (by dsimp only [List.set]) ?_
      refine at_mv 47 4 rfl rfl rfl (.inr rfl) rfl (by dsimp only [List.set]) ?_
      refine at_end rfl ?_
      refine at_ret rfl ?_
      exact res_okA (.tmp rfl .nil) 1 rfl (by simp) (fun i cs h => by cases i with | zero => (simp only [List.getElem?_cons_zero, Option.some.injEq] at h; subst h; exact pls_rep _) | succ i => simp at h) (List.Sublist.refl _) (by decide)

set_option maxRecDepth 20000 in
theorem rep_spec (n : Nat) (h0 : 1 ≤ n) (h6 : n ≤ 2) : FSpec PP 123 [dl [vi 1099511627776], di ↑n] σ0 (.arr 0 0 n) ⟨[some (List.replicate n (di 1099511627776))], []⟩ := by
  refine spec_at cRep Tryz.func123 rfl (by kernel_rfl) (by first | decide | simp) _ (by dsimp only [Tryz.f123, List.length, Nat.reduceAdd, Nat.reduceSub, List.replicate, List.cons_append, List.nil_append]) ?_
  refine at_seq [0] [1] rfl ?_
  refine at_region rfl ?_
  refine at_mc 4 rfl rfl rfl (.inr rfl) (by dsimp only [constD]) (by dsimp only [List.set]) ?_
  refine at_end rfl ?_
  refine at_seq [1, 0] [1, 1] rfl ?_
  refine at_seq [1, 0, 0] [1, 0, 1] rfl ?_
  refine at_region rfl ?_
  refine at_mv 1 9 rfl rfl rfl (.inl rfl) rfl (by dsimp only [List.set]) ?_
  refine at_op (some 10) rfl rfl rfl rfl (op_binI rfl rfl) (by dsimp only [putD, List.set]) ?_
  refine at_end rfl ?_
  refine at_cond [1, 0, 1, 0] [1, 0, 1, 1] rfl rfl (fun hc1 => ?_) (fun hc1 => ?_)
  · skip
    exact absurd hc1 (by first | (simp; done) | (simp; omega))
  · skip
    refine at_skip rfl ?_
    refine at_seq [1, 1, 0] [1, 1, 1] rfl ?_
    refine at_region rfl ?_
    refine at_mv 0 13 rfl rfl rfl (.inl rfl) rfl (by dsimp only [List.set]) ?_
    first | (refine at_op (some 14) rfl rfl rfl rfl (op_lenL rfl fu_Sint) (by dsimp only [putD, List.set]) ?_) | (refine at_op (some 14) rfl rfl rfl rfl (opOK_un (op_lenL rfl fu_Sint)) (by dsimp only [putD, List.set]) ?_) | (refine at_op (some 14) rfl rfl rfl rfl (op_lenA rfl fu_Sint) (by dsimp only [putD, List.set]) ?_)
    refine at_op (some 15) rfl rfl rfl rfl (op_convI rfl fu_int fu_uint) (by dsimp only [putD, List.set]) ?_
    rw [show IntKind.u64.wrap ((([vi 1099511627776]).length : Nat) : Int) = 1 from wrap_u (n := 1) (by decide)]
    refine at_mv 1 16 rfl rfl rfl (.inl rfl) rfl (by dsimp only [List.set]) ?_
    refine at_op (some 17) rfl rfl rfl rfl (op_convI rfl fu_int fu_uint) (by dsimp only [putD, List.set]) ?_
    rw [wrap_u (by omega)]
    refine at_op (some 18) rfl rfl rfl rfl (op_call0 rfl rfl rfl rfl (mul_spec n h0 h6)) (by dsimp only [putD, List.set]) ?_
    refine at_mv 18 12 rfl rfl rfl (.inl rfl) rfl (by dsimp only [List.set]) ?_
    refine at_op (some 19) rfl rfl rfl rfl (op_extract rfl rfl) (by dsimp only [putD, List.set]) ?_
    refine at_op (some 20) rfl rfl rfl rfl (op_extract rfl rfl) (by dsimp only [putD, List.set]) ?_
    refine at_mv 19 5 rfl rfl rfl (.inr rfl) rfl (by dsimp only [List.set]) ?_
    refine at_mv 20 6 rfl rfl rfl (.inr rfl) rfl (by dsimp only [List.set]) ?_
    refine at_end rfl ?_
    refine at_seq [1, 1, 1, 0] [1, 1, 1, 1] rfl ?_
    refine at_seq [1, 1, 1, 0, 0] [1, 1, 1, 0, 1] rfl ?_
    refine at_region rfl ?_
    refine at_mv 5 21 rfl rfl rfl (.inl rfl) rfl (by dsimp only [List.set]) ?_
    refine at_op (some 22) rfl rfl rfl rfl (op_binI rfl rfl) (by dsimp only [putD, List.set]) ?_
    refine at_mv 22 23 rfl rfl rfl (.inl rfl) rfl (by dsimp only [List.set]) ?_
    refine at_split 23 rfl (fun hb2 env' he => ?_) (fun hb2 env' he => ?_)
    · dsimp only [List.set] at he; subst he
      exact absurd hb2 (by simp)
    · dsimp only [List.set] at he; subst he
      refine at_mv 6 24 rfl rfl rfl (.inl rfl) rfl (by dsimp only [List.set]) ?_
      refine at_op (some 25) rfl rfl rfl rfl (op_binI rfl rfl) (by dsimp only [putD, List.set]) ?_
      refine at_pk false 23 25 26 rfl rfl rfl rfl rfl rfl rfl (by dsimp only [List.set]) ?_
      refine at_end rfl ?_
      refine at_cond [1, 1, 1, 0, 1, 0] [1, 1, 1, 0, 1, 1] rfl rfl (fun hc3 => ?_) (fun hc3 => ?_)
      · skip
        exact absurd hc3 (by first | (simp; done) | (simp; omega))
      · skip
        refine at_skip rfl ?_
        refine at_seq [1, 1, 1, 1, 0] [1, 1, 1, 1, 1] rfl ?_
        refine at_region rfl ?_
        refine at_mv 6 28 rfl rfl rfl (.inl rfl) rfl (by dsimp only [List.set]) ?_
        refine at_op (some 29) rfl rfl rfl rfl (op_convI rfl fu_uint fu_int) (by dsimp only [putD, List.set]) ?_
        rw [wrap_id (by omega) (by omega)]
        refine at_opS (some 30) rfl rfl rfl rfl (op_make rfl fsl_Sint rfl (by omega) (by omega) (by omega)) (by dsimp only [putD, List.set]) (by dsimp only [List.set, List.append, List.cons_append, List.nil_append, cellsD, List.map, repl, List.length, Nat.reduceAdd, if_true, ↓reduceIte]; first | done | rfl) ?_
        rw [Int.toNat_natCast]
        refine at_mv 30 7 rfl rfl rfl (.inr rfl) rfl (by dsimp only [List.set]) ?_
        refine at_end rfl ?_
        refine at_seq [1, 1, 1, 1, 1, 0] [1, 1, 1, 1, 1, 1] rfl ?_
        refine at_region rfl ?_
        refine at_mv 7 31 rfl rfl rfl (.inl rfl) rfl (by dsimp only [List.set]) ?_
        refine at_mv 0 32 rfl rfl rfl (.inl rfl) rfl (by dsimp only [List.set]) ?_
        refine at_opS (some 33) rfl rfl rfl rfl (op_copyL (k := 1) rfl fsl_Sint rfl (by simp [V.size, V.isAgg]) (by show (1 : Nat) = min 1 n; omega) (by decide) (by simp; omega)) (by dsimp only [putD, List.set]) (by dsimp only [List.set, List.append, List.cons_append, List.nil_append, cellsD, List.map, repl, List.length, Nat.reduceAdd, if_true, ↓reduceIte]; first | done | rfl) ?_
        refine at_mv 33 8 rfl rfl rfl (.inr rfl) rfl (by dsimp only [List.set]) ?_
        refine at_end rfl ?_
        rw [rep_start h0]
        refine at_seq [1, 1, 1, 1, 1, 1, 0] [1, 1, 1, 1, 1, 1, 1] rfl ?_
        refine at_block [1, 1, 1, 1, 1, 1, 0, 0] 0 rfl ?_
        refine at_loop [1, 1, 1, 1, 1, 1, 0, 0, 0] rfl ?_
        try simp only [List.length_map, List.length_nil]
        exact run_wk (.drop (.drop (.drop (.drop (.drop (.drop (.drop (.keep (.keep (.drop (.drop (.drop (.drop (.drop (.drop (.drop (.drop (.drop (.drop (.drop (.drop (.drop (.drop (.drop (.drop (.drop (.drop (.drop (.drop (.drop (.drop (.drop (.drop (.drop (.drop (.drop (.drop (.drop (.drop (.drop (.drop (.drop (.drop (.drop (.drop (.drop (.drop (.drop .nil)))))))))))))))))))))))))))))))))))))))))))))))) (rep_loop n (by omega) _ 1 rfl (by omega) h0)

end Go.Proofs.YtdfdemnbaiieaaaGreat

namespace Go.Proofs.YtdfdemnbaiieaaaGreat
open Go.Dv Go.Nv
set_option maxRecDepth 20000
noncomputable abbrev fILst : Func := Tryz.f117
noncomputable def cILst : Code := fILst.body.getD .skip
theorem ilst_1 : FSpec PP 117 [di 1] σ0 (di 3) σ0 := by
  refine spec_vc mixed fILst cILst (by kernel_rfl) (by kernel_rfl) (by kernel_rfl) (by kernel_rfl) 17 (by kernel_rfl) [] (.n <| .n .r) ?_
  refine via (by kernel_rfl : (di (IntKind.wrap IntKind.i64 (1 * 3)) = di 3) = _) ?_
  kernel_rfl
theorem ilst_2 : FSpec PP 117 [di 2] σ0 (di 9) σ0 := by
  refine spec_vc mixed fILst cILst (by kernel_rfl) (by kernel_rfl) (by kernel_rfl) (by kernel_rfl) 17 (by kernel_rfl) [] (.n <| .n <| .n .r) ?_
  refine via (by kernel_rfl : (di (IntKind.wrap IntKind.i64 (IntKind.wrap IntKind.i64 (1 * 3) * 3)) = di 9) = _) ?_
  kernel_rfl
noncomputable abbrev fICds : Func := Tryz.f116
noncomputable def cICds : Code := fICds.body.getD .skip
theorem icds_1 : FSpec PP 116 [di 1] σ0 (di 24) σ0 := by
  refine spec_vc mixed fICds cICds (by kernel_rfl) (by kernel_rfl) (by kernel_rfl) (by kernel_rfl) 6 (by kernel_rfl) [] (.c (di 3) .r) ?_
  refine via (by kernel_rfl : (FSpec PP 117 [di 1] (St.mk [] []) (di 3) (St.mk [] []) ∧ di (IntKind.wrap IntKind.i64 (8 * 3)) = di 24) = _) ?_
  exact ⟨ilst_1, by kernel_rfl⟩
theorem icds_2 : FSpec PP 116 [di 2] σ0 (di 72) σ0 := by
  refine spec_vc mixed fICds cICds (by kernel_rfl) (by kernel_rfl) (by kernel_rfl) (by kernel_rfl) 6 (by kernel_rfl) [] (.c (di 9) .r) ?_
  refine via (by kernel_rfl : (FSpec PP 117 [di 2] (St.mk [] []) (di 9) (St.mk [] []) ∧ di (IntKind.wrap IntKind.i64 (8 * 9)) = di 72) = _) ?_
  exact ⟨ilst_2, by kernel_rfl⟩
noncomputable abbrev fICnd : Func := Tryz.f73
noncomputable def cICnd : Code := fICnd.body.getD .skip
/-- the candidates of one place or two -/
def cndM (p : Nat) (n : Int) : List Int × Int × Bool := if p = 1 then (if n < 24 then ([n % 3 - 1], (if n / 3 > 0 then n / 3 + 1 else 0), true) else ([], 0, false))
  else (if n < 72 then ([n % 9 % 3 - 1, n % 9 / 3 % 3 - 1], (if n / 9 > 0 then n / 9 + 1 else 0), true) else ([], 0, false))
abbrev dCnd (c : List Int × Int × Bool) : D := .tup [dIs c.1, di c.2.1, db c.2.2]
theorem tq {n k : Int} (h : 0 ≤ n) : n.tdiv k = n / k := Int.tdiv_eq_ediv_of_nonneg h
theorem tr {n k : Int} (h : 0 ≤ n) : n.tmod k = n % k := Int.tmod_eq_emod_of_nonneg h
theorem icnd_1 (n : Int) (hn : 0 ≤ n ∧ n ≤ 1000) : FSpec PP 73 [di 1, di n] σ0 (dCnd (cndM 1 n)) σ0 := by
  by_cases h : n < 24
  · by_cases h2 : n / 3 > 0
    · refine spec_vc mixed fICnd cICnd (by kernel_rfl) (by kernel_rfl) (by kernel_rfl) (by kernel_rfl) 49 (by kernel_rfl) [] (.f <| .c (di 24) <| .f <| .c (di 3) <| .c (di 3) <| .t <| .n <| .n <| .h (.q 13 0) <| .h (.fl 0 9 [vi (n % 3 - 1)]) .r) ?_
      refine via (by kernel_rfl : (decide (n < 0) = false ∧ FSpec PP 116 [di 1] (St.mk [] []) (di 24) (St.mk [] []) ∧ decide (n ≥ 24) = false ∧ FSpec PP 117 [di 1] (St.mk [] []) (di 3) (St.mk [] []) ∧ iz 3 ≠ 0 ∧ FSpec PP 117 [di 1] (St.mk [] []) (di 3) (St.mk [] []) ∧ iz 3 ≠ 0 ∧ decide (IntKind.wrap IntKind.i64 (Int.tdiv n 3) > 0) = true ∧ iz 1 = 1 ∧ iz 0 ≤ 1 ∧ (8 : Int) * 1 ≤ 281474976710656 ∧ iz 1 ≤ 9223372036854775807 ∧ iz 3 ≠ 0 ∧ iz 0 ≤ 0 ∧ 0 < (↑(Int.toNat 1) : Int) ∧ iz 3 ≠ 0 ∧ [di (IntKind.wrap IntKind.i64 (Int.tmod (Int.tmod n 3) 3 - 1))] = [di (n % 3 - 1)] ∧ 1 = 1 ∧ D.tup [D.v (V.list [vi (n % 3 - 1)]), di (IntKind.wrap IntKind.i64 (IntKind.wrap IntKind.i64 (Int.tdiv n 3) + 1)), db true] = dCnd (cndM 1 n)) = _) ?_
      have e1 := tq (k := 3) hn.1
      have e2 : (n.tmod 3).tmod 3 = n % 3 := by rw [tr hn.1, tr (by omega)]; omega
      rw [e1, e2, wrap_id (n := n / 3) (by omega) (by omega), wrap_id (n := n % 3 - 1) (by omega) (by omega)]
      refine ⟨decide_eq_false (by omega), icds_1, decide_eq_false (by omega), ilst_1, by decide, ilst_1, by decide, decide_eq_true h2, rfl, by decide, by decide, by decide, by decide, by decide, by decide, by decide, rfl, rfl, ?_⟩
      rw [wrap_id (n := n / 3 + 1) (by omega) (by omega), cndM, if_pos rfl, if_pos h, if_pos h2]; rfl
    · refine spec_vc mixed fICnd cICnd (by kernel_rfl) (by kernel_rfl) (by kernel_rfl) (by kernel_rfl) 49 (by kernel_rfl) [] (.f <| .c (di 24) <| .f <| .c (di 3) <| .c (di 3) <| .f <| .n <| .n <| .h (.q 13 0) <| .h (.fl 0 9 [vi (n % 3 - 1)]) .r) ?_
      refine via (by kernel_rfl : (decide (n < 0) = false ∧ FSpec PP 116 [di 1] (St.mk [] []) (di 24) (St.mk [] []) ∧ decide (n ≥ 24) = false ∧ FSpec PP 117 [di 1] (St.mk [] []) (di 3) (St.mk [] []) ∧ iz 3 ≠ 0 ∧ FSpec PP 117 [di 1] (St.mk [] []) (di 3) (St.mk [] []) ∧ iz 3 ≠ 0 ∧ decide (IntKind.wrap IntKind.i64 (Int.tdiv n 3) > 0) = false ∧ iz 1 = 1 ∧ iz 0 ≤ 1 ∧ (8 : Int) * 1 ≤ 281474976710656 ∧ iz 1 ≤ 9223372036854775807 ∧ iz 3 ≠ 0 ∧ iz 0 ≤ 0 ∧ 0 < (↑(Int.toNat 1) : Int) ∧ iz 3 ≠ 0 ∧ [di (IntKind.wrap IntKind.i64 (Int.tmod (Int.tmod n 3) 3 - 1))] = [di (n % 3 - 1)] ∧ 1 = 1 ∧ D.tup [D.v (V.list [vi (n % 3 - 1)]), di (IntKind.wrap IntKind.i64 (Int.tdiv n 3)), db true] = dCnd (cndM 1 n)) = _) ?_
      have e1 := tq (k := 3) hn.1
      have e2 : (n.tmod 3).tmod 3 = n % 3 := by rw [tr hn.1, tr (by omega)]; omega
      rw [e1, e2, wrap_id (n := n / 3) (by omega) (by omega), wrap_id (n := n % 3 - 1) (by omega) (by omega)]
      refine ⟨decide_eq_false (by omega), icds_1, decide_eq_false (by omega), ilst_1, by decide, ilst_1, by decide, decide_eq_false h2, rfl, by decide, by decide, by decide, by decide, by decide, by decide, by decide, rfl, rfl, ?_⟩
      rw [cndM, if_pos rfl, if_pos h, if_neg h2, show n / 3 = 0 by omega]; rfl
  · refine spec_vc mixed fICnd cICnd (by kernel_rfl) (by kernel_rfl) (by kernel_rfl) (by kernel_rfl) 49 (by kernel_rfl) [] (.f <| .c (di 24) <| .t .r) ?_
    refine via (by kernel_rfl : (decide (n < 0) = false ∧ FSpec PP 116 [di 1] (St.mk [] []) (di 24) (St.mk [] []) ∧ decide (n ≥ 24) = true ∧ D.tup [D.v (V.list []), di 0, db false] = dCnd (cndM 1 n)) = _) ?_
    exact ⟨decide_eq_false (by omega), icds_1, decide_eq_true (by omega), by rw [cndM, if_pos rfl, if_neg h]; rfl⟩
theorem icnd_2 (n : Int) (hn : 0 ≤ n ∧ n ≤ 1000) : FSpec PP 73 [di 2, di n] σ0 (dCnd (cndM 2 n)) σ0 := by
  by_cases h : n < 72
  · by_cases h2 : n / 9 > 0
    · refine spec_vc mixed fICnd cICnd (by kernel_rfl) (by kernel_rfl) (by kernel_rfl) (by kernel_rfl) 49 (by kernel_rfl) [] (.f <| .c (di 72) <| .f <| .c (di 9) <| .c (di 9) <| .t <| .n <| .n <| .n <| .h (.q 13 0) <| .h (.fl 0 9 [vi (n % 9 % 3 - 1), vi (n % 9 / 3 % 3 - 1)]) .r) ?_
      refine via (by kernel_rfl : (decide (n < 0) = false ∧ FSpec PP 116 [di 2] (St.mk [] []) (di 72) (St.mk [] []) ∧ decide (n ≥ 72) = false ∧ FSpec PP 117 [di 2] (St.mk [] []) (di 9) (St.mk [] []) ∧ iz 9 ≠ 0 ∧ FSpec PP 117 [di 2] (St.mk [] []) (di 9) (St.mk [] []) ∧ iz 9 ≠ 0 ∧ decide (IntKind.wrap IntKind.i64 (Int.tdiv n 9) > 0) = true ∧ iz 2 = 2 ∧ iz 0 ≤ 2 ∧ (8 : Int) * 2 ≤ 281474976710656 ∧ iz 2 ≤ 9223372036854775807 ∧ iz 3 ≠ 0 ∧ iz 0 ≤ 0 ∧ 0 < (↑(Int.toNat 2) : Int) ∧ iz 3 ≠ 0 ∧ iz 3 ≠ 0 ∧ 0 ≤ IntKind.wrap IntKind.i64 (0 + 1) ∧ IntKind.wrap IntKind.i64 (0 + 1) < (↑(Int.toNat 2) : Int) ∧ iz 3 ≠ 0 ∧ [di (IntKind.wrap IntKind.i64 (Int.tmod (Int.tmod n 9) 3 - 1)), di (IntKind.wrap IntKind.i64 (Int.tmod (IntKind.wrap IntKind.i64 (Int.tdiv (Int.tmod n 9) 3)) 3 - 1))] = [di (n % 9 % 3 - 1), di (n % 9 / 3 % 3 - 1)] ∧ 2 = 2 ∧ D.tup [D.v (V.list [vi (n % 9 % 3 - 1), vi (n % 9 / 3 % 3 - 1)]), di (IntKind.wrap IntKind.i64 (IntKind.wrap IntKind.i64 (Int.tdiv n 9) + 1)), db true] = dCnd (cndM 2 n)) = _) ?_
      have e1 := tq (k := 9) hn.1
      have e2 : n.tmod 9 = n % 9 := tr hn.1
      have e3 : (n % 9).tmod 3 = n % 9 % 3 := tr (by omega)
      have e4 : (n % 9).tdiv 3 = n % 9 / 3 := tq (by omega)
      have e5 : (n % 9 / 3).tmod 3 = n % 9 / 3 % 3 := tr (by omega)
      rw [e1, e2, e3, e4, wrap_id (n := n / 9) (by omega) (by omega), wrap_id (n := n % 9 / 3) (by omega) (by omega), e5, wrap_id (n := n % 9 % 3 - 1) (by omega) (by omega), wrap_id (n := n % 9 / 3 % 3 - 1) (by omega) (by omega)]
      refine ⟨decide_eq_false (by omega), icds_2, decide_eq_false (by omega), ilst_2, by decide, ilst_2, by decide, decide_eq_true h2, rfl, by decide, by decide, by decide, by decide, by decide, by decide, by decide, by decide, by decide, by decide, by decide, rfl, rfl, ?_⟩
      rw [wrap_id (n := n / 9 + 1) (by omega) (by omega), cndM, if_neg (by decide), if_pos h, if_pos h2]; rfl
    · refine spec_vc mixed fICnd cICnd (by kernel_rfl) (by kernel_rfl) (by kernel_rfl) (by kernel_rfl) 49 (by kernel_rfl) [] (.f <| .c (di 72) <| .f <| .c (di 9) <| .c (di 9) <| .f <| .n <| .n <| .n <| .h (.q 13 0) <| .h (.fl 0 9 [vi (n % 9 % 3 - 1), vi (n % 9 / 3 % 3 - 1)]) .r) ?_
      refine via (by kernel_rfl : (decide (n < 0) = false ∧ FSpec PP 116 [di 2] (St.mk [] []) (di 72) (St.mk [] []) ∧ decide (n ≥ 72) = false ∧ FSpec PP 117 [di 2] (St.mk [] []) (di 9) (St.mk [] []) ∧ iz 9 ≠ 0 ∧ FSpec PP 117 [di 2] (St.mk [] []) (di 9) (St.mk [] []) ∧ iz 9 ≠ 0 ∧ decide (IntKind.wrap IntKind.i64 (Int.tdiv n 9) > 0) = false ∧ iz 2 = 2 ∧ iz 0 ≤ 2 ∧ (8 : Int) * 2 ≤ 281474976710656 ∧ iz 2 ≤ 9223372036854775807 ∧ iz 3 ≠ 0 ∧ iz 0 ≤ 0 ∧ 0 < (↑(Int.toNat 2) : Int) ∧ iz 3 ≠ 0 ∧ iz 3 ≠ 0 ∧ 0 ≤ IntKind.wrap IntKind.i64 (0 + 1) ∧ IntKind.wrap IntKind.i64 (0 + 1) < (↑(Int.toNat 2) : Int) ∧ iz 3 ≠ 0 ∧ [di (IntKind.wrap IntKind.i64 (Int.tmod (Int.tmod n 9) 3 - 1)), di (IntKind.wrap IntKind.i64 (Int.tmod (IntKind.wrap IntKind.i64 (Int.tdiv (Int.tmod n 9) 3)) 3 - 1))] = [di (n % 9 % 3 - 1), di (n % 9 / 3 % 3 - 1)] ∧ 2 = 2 ∧ D.tup [D.v (V.list [vi (n % 9 % 3 - 1), vi (n % 9 / 3 % 3 - 1)]), di (IntKind.wrap IntKind.i64 (Int.tdiv n 9)), db true] = dCnd (cndM 2 n)) = _) ?_
      have e1 := tq (k := 9) hn.1
      have e2 : n.tmod 9 = n % 9 := tr hn.1
      have e3 : (n % 9).tmod 3 = n % 9 % 3 := tr (by omega)
      have e4 : (n % 9).tdiv 3 = n % 9 / 3 := tq (by omega)
      have e5 : (n % 9 / 3).tmod 3 = n % 9 / 3 % 3 := tr (by omega)
      rw [e1, e2, e3, e4, wrap_id (n := n / 9) (by omega) (by omega), wrap_id (n := n % 9 / 3) (by omega) (by omega), e5, wrap_id (n := n % 9 % 3 - 1) (by omega) (by omega), wrap_id (n := n % 9 / 3 % 3 - 1) (by omega) (by omega)]
      refine ⟨decide_eq_false (by omega), icds_2, decide_eq_false (by omega), ilst_2, by decide, ilst_2, by decide, decide_eq_false h2, rfl, by decide, by decide, by decide, by decide, by decide, by decide, by decide, by decide, by decide, by decide, by decide, rfl, rfl, ?_⟩
      rw [cndM, if_neg (by decide), if_pos h, if_neg h2, show n / 9 = 0 by omega]; rfl
  · refine spec_vc mixed fICnd cICnd (by kernel_rfl) (by kernel_rfl) (by kernel_rfl) (by kernel_rfl) 49 (by kernel_rfl) [] (.f <| .c (di 72) <| .t .r) ?_
    refine via (by kernel_rfl : (decide (n < 0) = false ∧ FSpec PP 116 [di 2] (St.mk [] []) (di 72) (St.mk [] []) ∧ decide (n ≥ 72) = true ∧ D.tup [D.v (V.list []), di 0, db false] = dCnd (cndM 2 n)) = _) ?_
    exact ⟨decide_eq_false (by omega), icds_2, decide_eq_true (by omega), by rw [cndM, if_neg (by decide), if_neg h]; rfl⟩
/- FLOWS -/
noncomputable abbrev fIFlw : Func := Tryz.f181
noncomputable def cIFlw : Code := fIFlw.body.getD .skip
/-- where a rule leads the values -/
def nxtM (cs : List Int) (md : Int) (r : Rul) (v : Int) : Int := if decide (md > 0) = true then (v + effM cs r) % md else v + effM cs r
abbrev cSp (m : Mod) (cs : List Int) (md : Int) (N : Nat) : List D := [di m.kind, .v (vSs m.states), .v (vSs m.places), .v (vSs m.letters), .v (vIs m.ranks), di m.levels, di m.age, .v (vRuls m.rules), di m.start.n, dVs m.start.kids, dIs cs, di md, .arr 1 0 N]
abbrev stS (m : Mod) (cs : List Int) (md : Int) (N : Nat) (vals : List Int) : St := ⟨[some (cSp m cs md N), some (cIs vals)], []⟩
def flwM (cs : List Int) (md : Int) (r : Rul) (vals : List Int) : List Int × Bool × Bool :=
  let v := vals.getD r.frm.toNat 0
  let u := vals.getD r.to.toNat 0
  if v = OMG then (vals, false, true)
  else if u = OMG ∨ md = 0 ∧ nxtM cs md r v < u then (vals.set r.to.toNat (nxtM cs md r v), true, true)
  else if md > 0 ∧ nxtM cs md r v ≠ u then (vals, false, false)
  else (vals, false, true)
/-- what is asked for of coefficients and a modulus -/
structure CoM (m : Mod) (cs : List Int) (md : Int) : Prop where
  len : cs.length = m.places.length
  coef : ∀ c ∈ cs, -4 ≤ c ∧ c ≤ 4
  mod : md = 0 ∨ 2 ≤ md ∧ md ≤ 8
theorem iflw_spec (m : Mod) (hm : PlC m) (cs : List Int) (md : Int) (hc : CoM m cs md) (r : Rul) (hr : RulOK m r) (vals : List Int) (N : Nat) (hN : vals.length = N) (hN2 : N = m.states.length) (hb : ∀ v ∈ vals, -1099511627776 ≤ v ∧ v ≤ 1099511627776) :
    FSpec PP 181 [.ptr 0 0, dRul r] (stS m cs md N vals) (.tup [db (flwM cs md r vals).2.1, db (flwM cs md r vals).2.2]) (stS m cs md N (flwM cs md r vals).1) := by
  have hf := hr.frm
  have ht := hr.to
  have hp := hm.places
  have hfw := hm.few
  obtain ⟨v, hv⟩ : ∃ v, vals[r.frm.toNat]? = some v := ⟨_, List.getElem?_eq_getElem (by omega)⟩
  obtain ⟨u, hu⟩ : ∃ v, vals[r.to.toNat]? = some v := ⟨_, List.getElem?_eq_getElem (by omega)⟩
  have hvb := hb v (List.mem_of_getElem? hv)
  have hub := hb u (List.mem_of_getElem? hu)
  have hcl := hc.len
  have heff := ieff_spec m r hr cs hcl (by omega) hc.coef
  have heb := eff_bd hr (by omega) hc.coef
  have g1 : vals.getD r.frm.toNat 0 = v := by rw [List.getD_eq_getElem?_getD, hv]; rfl
  have g2 : vals.getD r.to.toNat 0 = u := by rw [List.getD_eq_getElem?_getD, hu]; rfl
  have hmd := hc.mod
  have okS : ∀ l : List Int, okH 2 [] [some (cSp m cs md N), some (cIs l)] = true := fun l => by simp [okH, D.okNs, D.okN, okNs_cIs]
  have i1 : (cIs vals)[0 + Int.toNat r.frm * 1]? = some (di v) := by simp [cIs, hv]
  have i2 : (cIs vals)[0 + Int.toNat r.to * 1]? = some (di u) := by simp [cIs, hu]
  have i3 : ∀ x : Int, List.set (cIs vals) (0 + Int.toNat r.to * 1) (di x) = cIs (vals.set r.to.toNat x) := fun x => by simp [cIs, List.map_set]
  have i4 : 0 + Int.toNat r.to * 1 < (cIs vals).length := by simp [cIs]; omega
  by_cases h1 : v = OMG
  · refine spec_vc mixed fIFlw cIFlw (by kernel_rfl) (by kernel_rfl) (by kernel_rfl) (by kernel_rfl) 87 (by kernel_rfl) [3] (.m (.arr 1 0 N) <| .m (di v) <| .t .ro) ?_
    refine via (by kernel_rfl : (some (D.arr 1 0 N) = some (D.arr 1 0 N) ∧ 0 ≤ r.frm ∧ r.frm < (↑N : Int) ∧ (cIs vals)[0 + Int.toNat r.frm * 1]? = some (di v) ∧ 0 ≤ r.to ∧ r.to < (↑N : Int) ∧ (True ∧ True ∧ True ∧ True) ∧ (v == 1099511627776) = true ∧ okH 2 [] [some (cSp m cs md N), some (cIs vals)] = true ∧ [some (cSp m cs md N), some (cIs vals)] = [some (cSp m cs md N), some (cIs (flwM cs md r vals).fst)] ∧ D.tup [db false, db true] = D.tup [db (flwM cs md r vals).snd.fst, db (flwM cs md r vals).snd.snd]) = _) ?_
    have e : flwM cs md r vals = (vals, false, true) := by simp only [flwM, g1, g2]; rw [if_pos h1]
    rw [e]
    exact ⟨rfl, hf.1, by omega, i1, ht.1, by omega, ⟨trivial, trivial, trivial, trivial⟩, by rw [h1]; rfl, okS _, rfl, rfl⟩
  · by_cases h2 : md = 0
    · refine spec_vc mixed fIFlw cIFlw (by kernel_rfl) (by kernel_rfl) (by kernel_rfl) (by kernel_rfl) 87 (by kernel_rfl) [3] (.m (.arr 1 0 N) <| .m (di v) <| .f <| .c (di (effM cs r)) <| .f <| .m (di u) <| .b (.w .ro) (.t <| .m (di u) <| .b (.w .ro) (.f .ro))) ?_
      refine via (by kernel_rfl : (some (D.arr 1 0 N) = some (D.arr 1 0 N) ∧ 0 ≤ r.frm ∧ r.frm < (↑N : Int) ∧ (cIs vals)[0 + Int.toNat r.frm * 1]? = some (di v) ∧ 0 ≤ r.to ∧ r.to < (↑N : Int) ∧ (True ∧ True ∧ True ∧ True) ∧ (v == 1099511627776) = false ∧ FSpec PP 185 [D.v (vIs cs), D.v (vRul r)] (St.mk [] []) (di (effM cs r)) (St.mk [] []) ∧ (True ∧ True) ∧ decide (md > 0) = false ∧ (cIs vals)[0 + Int.toNat r.to * 1]? = some (di u) ∧ ((u == 1099511627776) = true → 0 + Int.toNat r.to * 1 < List.length (cIs vals) ∧ okH 2 [] [some (cSp m cs md N), some (List.set (cIs vals) (0 + Int.toNat r.to * 1) (di (IntKind.wrap IntKind.i64 (v + effM cs r))))] = true ∧ [some (cSp m cs md N), some (List.set (cIs vals) (0 + Int.toNat r.to * 1) (di (IntKind.wrap IntKind.i64 (v + effM cs r))))] = [some (cSp m cs md N), some (cIs (flwM cs md r vals).fst)] ∧ D.tup [db true, db true] = D.tup [db (flwM cs md r vals).snd.fst, db (flwM cs md r vals).snd.snd]) ∧ ((u == 1099511627776) = false → (md == 0) = true ∧ (cIs vals)[0 + Int.toNat r.to * 1]? = some (di u) ∧ (decide (IntKind.wrap IntKind.i64 (v + effM cs r) < u) = true → 0 + Int.toNat r.to * 1 < List.length (cIs vals) ∧ okH 2 [] [some (cSp m cs md N), some (List.set (cIs vals) (0 + Int.toNat r.to * 1) (di (IntKind.wrap IntKind.i64 (v + effM cs r))))] = true ∧ [some (cSp m cs md N), some (List.set (cIs vals) (0 + Int.toNat r.to * 1) (di (IntKind.wrap IntKind.i64 (v + effM cs r))))] = [some (cSp m cs md N), some (cIs (flwM cs md r vals).fst)] ∧ D.tup [db true, db true] = D.tup [db (flwM cs md r vals).snd.fst, db (flwM cs md r vals).snd.snd]) ∧ (decide (IntKind.wrap IntKind.i64 (v + effM cs r) < u) = false → decide (md > 0) = false ∧ okH 2 [] [some (cSp m cs md N), some (cIs vals)] = true ∧ [some (cSp m cs md N), some (cIs vals)] = [some (cSp m cs md N), some (cIs (flwM cs md r vals).fst)] ∧ D.tup [db false, db true] = D.tup [db (flwM cs md r vals).snd.fst, db (flwM cs md r vals).snd.snd]))) = _) ?_
      have hx : nxtM cs md r v = v + effM cs r := by rw [nxtM, if_neg (by rw [h2]; decide)]
      rw [wrap_id (n := v + effM cs r) (by omega) (by omega), i3]
      refine ⟨rfl, hf.1, by omega, i1, ht.1, by omega, ⟨trivial, trivial, trivial, trivial⟩, beq_eq_false_iff_ne.2 h1, heff, ⟨trivial, trivial⟩, decide_eq_false (by omega), i2, fun h3 => ?_, fun h3 => ⟨by rw [h2]; rfl, i2, fun h4 => ?_, fun h4 => ?_⟩⟩
      · have h3 : u = OMG := by simpa [OMG] using h3
        have e : flwM cs md r vals = (vals.set r.to.toNat (v + effM cs r), true, true) := by simp only [flwM, g1, g2]; rw [if_neg h1, if_pos (.inl h3), hx]
        rw [e]; exact ⟨i4, okS _, rfl, rfl⟩
      · have h4 := of_decide_eq_true h4
        have e : flwM cs md r vals = (vals.set r.to.toNat (v + effM cs r), true, true) := by simp only [flwM, g1, g2]; rw [if_neg h1, if_pos (.inr ⟨h2, by rw [hx]; exact h4⟩), hx]
        rw [e]; exact ⟨i4, okS _, rfl, rfl⟩
      · have h3 : u ≠ OMG := by simpa [OMG] using h3
        have h4 := of_decide_eq_false h4
        have e : flwM cs md r vals = (vals, false, true) := by simp only [flwM, g1, g2]; rw [if_neg h1, if_neg (by rw [hx]; exact fun h => h.elim h3 fun h => h4 h.2), if_neg (by omega)]
        rw [e]; exact ⟨decide_eq_false (by omega), okS _, rfl, rfl⟩
    · have hrs := irest_spec (v + effM cs r) md (by omega) (by omega)
      refine spec_vc mixed fIFlw cIFlw (by kernel_rfl) (by kernel_rfl) (by kernel_rfl) (by kernel_rfl) 87 (by kernel_rfl) [3] (.m (.arr 1 0 N) <| .m (di v) <| .f <| .c (di (effM cs r)) <| .t <| .c (di ((v + effM cs r) % md)) <| .m (di u) <| .b (.w .ro) (.f <| .k <| .t <| .m (di u) <| .b .ro .ro)) ?_
      refine via (by kernel_rfl : (some (D.arr 1 0 N) = some (D.arr 1 0 N) ∧ 0 ≤ r.frm ∧ r.frm < (↑N : Int) ∧ (cIs vals)[0 + Int.toNat r.frm * 1]? = some (di v) ∧ 0 ≤ r.to ∧ r.to < (↑N : Int) ∧ (True ∧ True ∧ True ∧ True) ∧ (v == 1099511627776) = false ∧ FSpec PP 185 [D.v (vIs cs), D.v (vRul r)] (St.mk [] []) (di (effM cs r)) (St.mk [] []) ∧ (True ∧ True) ∧ decide (md > 0) = true ∧ FSpec PP 126 [di (IntKind.wrap IntKind.i64 (v + effM cs r)), di md] (St.mk [] []) (di ((v + effM cs r) % md)) (St.mk [] []) ∧ (cIs vals)[0 + Int.toNat r.to * 1]? = some (di u) ∧ ((u == 1099511627776) = true → 0 + Int.toNat r.to * 1 < List.length (cIs vals) ∧ okH 2 [] [some (cSp m cs md N), some (List.set (cIs vals) (0 + Int.toNat r.to * 1) (di ((v + effM cs r) % md)))] = true ∧ [some (cSp m cs md N), some (List.set (cIs vals) (0 + Int.toNat r.to * 1) (di ((v + effM cs r) % md)))] = [some (cSp m cs md N), some (cIs (flwM cs md r vals).fst)] ∧ D.tup [db true, db true] = D.tup [db (flwM cs md r vals).snd.fst, db (flwM cs md r vals).snd.snd]) ∧ ((u == 1099511627776) = false → (md == 0) = false ∧ decide (md > 0) = true ∧ (cIs vals)[0 + Int.toNat r.to * 1]? = some (di u) ∧ (((v + effM cs r) % md != u) = true → okH 2 [] [some (cSp m cs md N), some (cIs vals)] = true ∧ [some (cSp m cs md N), some (cIs vals)] = [some (cSp m cs md N), some (cIs (flwM cs md r vals).fst)] ∧ D.tup [db false, db false] = D.tup [db (flwM cs md r vals).snd.fst, db (flwM cs md r vals).snd.snd]) ∧ (((v + effM cs r) % md != u) = false → okH 2 [] [some (cSp m cs md N), some (cIs vals)] = true ∧ [some (cSp m cs md N), some (cIs vals)] = [some (cSp m cs md N), some (cIs (flwM cs md r vals).fst)] ∧ D.tup [db false, db true] = D.tup [db (flwM cs md r vals).snd.fst, db (flwM cs md r vals).snd.snd]))) = _) ?_
      have hx : nxtM cs md r v = (v + effM cs r) % md := by rw [nxtM, if_pos (decide_eq_true (by omega))]
      rw [wrap_id (n := v + effM cs r) (by omega) (by omega), i3]
      refine ⟨rfl, hf.1, by omega, i1, ht.1, by omega, ⟨trivial, trivial, trivial, trivial⟩, beq_eq_false_iff_ne.2 h1, heff, ⟨trivial, trivial⟩, decide_eq_true (by omega), hrs, i2, fun h3 => ?_, fun h3 => ⟨beq_eq_false_iff_ne.2 h2, decide_eq_true (by omega), i2, fun h4 => ?_, fun h4 => ?_⟩⟩
      · have h3 : u = OMG := by simpa [OMG] using h3
        have e : flwM cs md r vals = (vals.set r.to.toNat ((v + effM cs r) % md), true, true) := by simp only [flwM, g1, g2]; rw [if_neg h1, if_pos (.inl h3), hx]
        rw [e]; exact ⟨i4, okS _, rfl, rfl⟩
      · have h3 : u ≠ OMG := by simpa [OMG] using h3
        have h4 : (v + effM cs r) % md ≠ u := by simpa using h4
        have e : flwM cs md r vals = (vals, false, false) := by simp only [flwM, g1, g2]; rw [if_neg h1, if_neg (fun h => h.elim h3 fun h => h2 h.1), if_pos ⟨by omega, by rw [hx]; exact h4⟩]
        rw [e]; exact ⟨okS _, rfl, rfl⟩
      · have h3 : u ≠ OMG := by simpa [OMG] using h3
        have h4 : (v + effM cs r) % md = u := by simpa using h4
        have e : flwM cs md r vals = (vals, false, true) := by simp only [flwM, g1, g2]; rw [if_neg h1, if_neg (fun h => h.elim h3 fun h => h2 h.1), if_neg (by rw [hx]; rintro ⟨_, h⟩; exact h h4)]
        rw [e]; exact ⟨okS _, rfl, rfl⟩
/- ROUNDS -/
/-- bounds of values -/
structure ValB (md B : Int) (vals : List Int) : Prop where
  bd : ∀ v ∈ vals, v = OMG ∨ -B ≤ v ∧ v ≤ B
  md : 0 < md → ∀ v ∈ vals, v = OMG ∨ 0 ≤ v ∧ v ≤ md - 1
theorem flwM_ok {m : Mod} (hm : PlC m) {cs : List Int} {md : Int} (hc : CoM m cs md) {r : Rul} (hr : RulOK m r) {B : Int} (hB : 0 ≤ B) {vals : List Int} (h : ValB md B vals) (hl : vals.length = m.states.length) : ValB md (B + 16777216) (flwM cs md r vals).1 ∧ (flwM cs md r vals).1.length = m.states.length := by
  have hfw := hm.few
  have hcl := hc.len
  have heb := eff_bd hr (by omega) hc.coef
  have hf := hr.frm
  obtain ⟨v, hv⟩ : ∃ v, vals[r.frm.toNat]? = some v := ⟨_, List.getElem?_eq_getElem (by omega)⟩
  have g1 : vals.getD r.frm.toNat 0 = v := by rw [List.getD_eq_getElem?_getD, hv]; rfl
  have hvm := List.mem_of_getElem? hv
  have keep : ValB md (B + 16777216) vals := ⟨fun v hv => by have := h.bd v hv; omega, h.md⟩
  simp only [flwM, g1]
  split
  · exact ⟨keep, hl⟩
  · rename_i hne
    split
    · have hvb := (h.bd v hvm).resolve_left hne
      have hmd := hc.mod
      have hx : 0 < md → 0 ≤ nxtM cs md r v ∧ nxtM cs md r v ≤ md - 1 := fun hp => by
        rw [nxtM, if_pos (decide_eq_true hp)]
        have h1 := Int.emod_nonneg (v + effM cs r) (show md ≠ 0 by omega)
        have h2 := Int.emod_lt_of_pos (v + effM cs r) hp
        omega
      have hy : -(B + 16777216) ≤ nxtM cs md r v ∧ nxtM cs md r v ≤ B + 16777216 := by
        by_cases hp : 0 < md
        · have := hx hp; omega
        · rw [nxtM, if_neg (by rw [decide_eq_false hp]; decide)]; omega
      refine ⟨⟨fun w hw => ?_, fun hp w hw => ?_⟩, by rw [List.length_set]; exact hl⟩
      · rcases List.mem_or_eq_of_mem_set hw with hw | hw
        · exact keep.bd w hw
        · rw [hw]; exact .inr hy
      · rcases List.mem_or_eq_of_mem_set hw with hw | hw
        · exact h.md hp w hw
        · rw [hw]; exact .inr (hx hp)
    · split
      · exact ⟨keep, hl⟩
      · exact ⟨keep, hl⟩
def rndM (cs : List Int) (md : Int) : List Rul → List Int → Bool → List Int × Bool × Bool
  | [], vals, ch => (vals, ch, true)
  | r :: rs, vals, ch => if (flwM cs md r vals).2.2 = true then rndM cs md rs (flwM cs md r vals).1 (ch || (flwM cs md r vals).2.1) else ((flwM cs md r vals).1, false, false)
theorem rndM_ok {m : Mod} (hm : PlC m) {cs : List Int} {md : Int} (hc : CoM m cs md) : ∀ (rs : List Rul) (vals : List Int) (ch : Bool) (B : Int), (∀ r ∈ rs, RulOK m r) → 0 ≤ B → ValB md B vals → vals.length = m.states.length → ValB md (B + 16777216 * rs.length) (rndM cs md rs vals ch).1 ∧ (rndM cs md rs vals ch).1.length = m.states.length
  | [], vals, ch, B, _, _, h, hl => by rw [rndM]; exact ⟨by simpa using h, hl⟩
  | r :: rs, vals, ch, B, hr, hB, h, hl => by
    obtain ⟨h1, h2⟩ := flwM_ok hm hc (hr r (by simp)) hB h hl
    rw [rndM]
    split
    · have := rndM_ok hm hc rs _ (ch || (flwM cs md r vals).2.1) (B + 16777216) (fun r h => hr r (by simp [h])) (by omega) h1 h2
      rw [show B + 16777216 * ((r :: rs).length : Int) = B + 16777216 + 16777216 * (rs.length : Int) by simp only [List.length_cons]; omega]
      exact this
    · exact ⟨⟨fun v hv => by have := h1.bd v hv; simp only [List.length_cons]; omega, h1.md⟩, h2⟩
theorem argsR_v (n : Nat) (qs : List Nat) : ∀ l : List V, ArgsR n qs (l.map .v) (l.map .v)
  | [] => .nil
  | x :: l => .cons (.ren (dc := .v x) rfl) (argsR_v n qs l)
theorem rens_v (ρ τ : Nat → Nat) : ∀ l : List V, D.rens ρ τ (l.map .v) = l.map .v
  | [] => rfl
  | x :: l => by simp only [List.map_cons, D.rens, D.ren, rens_v ρ τ l]
theorem cIs_v (l : List Int) : cIs l = (l.map vi).map .v := by simp [cIs]
/-- a call that is handed the struct and its values -/
theorem op_callS {o : Oper} {c : Call} {fo : Operand} (ho : o.op = .call c) (hc : c.callee = .value fo) {f : FuncId} {H : List (Option (List D))} {m : Mod} {cs : List Int} {md : Int} {N : Nat} {vals vals' : List Int} (p : Nat) (hp1 : p ≠ 1) (hp : H[p]? = some (some (cSp m cs md N))) (ha : H[1]? = some (some (cIs vals))) {x : List V} {b1 b2 : Bool}
    (hspec : FSpec PP f (.ptr 0 0 :: x.map .v) (stS m cs md N vals) (.tup [db b1, db b2]) (stS m cs md N vals')) : OpOK PP o (.v (.fn f [] []) :: .ptr p 0 :: x.map .v) ⟨H, []⟩ (.tup [db b1, db b2]) ⟨(H.set p (some (cSp m cs md N))).set 1 (some (cIs vals')), []⟩ := by
  have v12 : ∀ q, ArgsR H.length q [di m.kind, .v (vSs m.states), .v (vSs m.places), .v (vSs m.letters), .v (vIs m.ranks), di m.levels, di m.age, .v (vRuls m.rules), di m.start.n, dVs m.start.kids, dIs cs, di md] [di m.kind, .v (vSs m.states), .v (vSs m.places), .v (vSs m.letters), .v (vIs m.ranks), di m.levels, di m.age, .v (vRuls m.rules), di m.start.n, dVs m.start.kids, dIs cs, di md] := fun q => argsR_v _ q [vi m.kind, vSs m.states, vSs m.places, vSs m.letters, vIs m.ranks, vi m.levels, vi m.age, vRuls m.rules, vi m.start.n, vVs m.start.kids, vIs cs, vi md]
  have app : ∀ {n : Nat} {qs : List Nat} {a b c d : List D}, ArgsR n qs a b → ArgsR n qs c d → ArgsR n qs (a ++ c) (b ++ d) := by
    intro n qs a b c d h1 h2
    induction h1 with
    | nil => exact h2
    | cons h hs ih => exact .cons h ih
  have hcells : ArgsR H.length [p, 1] (cSp m cs md N) (cSp m cs md N) := app (v12 _) (.cons (.ren (dc := .arr 1 0 N) rfl) .nil)
  have h := op_callG (σ := ⟨H, []⟩) ho hc (fD := .v (.fn f [] [])) rfl (ds := .ptr p 0 :: x.map .v) [p, 1] id hspec (.cons (.ren (dc := .ptr 0 0) rfl) (by simpa using argsR_v _ _ x))
    (.cons hp hcells (by rfl) (.cons ha (by rw [cIs_v]; exact argsR_v _ _ _) (by rw [cIs_v, List.all_eq_true]; intro d hd; obtain ⟨y, hy, rfl⟩ := List.mem_map.1 hd; obtain ⟨z, _, rfl⟩ := List.mem_map.1 hy; rfl) .nil)) (by simp [hp1]) rfl (by simp) (by simp) (by simp [D.okN, D.okNs]) (by simp [okH, D.okNs, D.okN, okNs_cIs])
  have e1 : D.rens (rho H.length [p, 1]) id (cIs vals') = cIs vals' := by rw [cIs_v, rens_v]
  simpa [renH, backH, renOwn, D.ren, D.rens, e1, rho] using h
noncomputable abbrev fIRnd : Func := Tryz.f127
noncomputable def cIRnd : Code := fIRnd.body.getD .skip
theorem irnd_loop (m : Mod) (hm : PlC m) (cs : List Int) (md : Int) (hc : CoM m cs md) (N : Nat) (hN : N = m.states.length) (n : Nat) : ∀ (k : Nat) (vals : List Int) (cg : Bool) (B : Int), m.rules.length - k = n → 0 ≤ B → B + 16777216 * n ≤ 1099511627776 → ValB md B vals → vals.length = N →
    Rn PP fIRnd 2 (.tup [db (rndM cs md (m.rules.drop k) vals cg).2.1, db (rndM cs md (m.rules.drop k) vals cg).2.2]) (stS m cs md N (rndM cs md (m.rules.drop k) vals cg).1) ([.lp (sub cIRnd [1, 1, 0, 1, 0, 0]), .blk 0, .code (sub cIRnd [1, 1, 1])] ++ []) (mkE 33 [(0, .ptr 0 0), (4, db cg), (13, .v (vRuls m.rules)), (14, di m.rules.length), (15, di k)]) (stS m cs md N vals) := by
  induction n with
  | zero =>
    intro k vals cg B hn hB hB2 h hl
    rw [List.drop_of_length_le (by omega)]
    simp only [rndM]
    refine loop_vc mixed 33 [] (.f .ro) ?_
    refine via (by kernel_rfl : (decide ((↑k : Int) < (↑(List.length m.rules) : Int)) = false ∧ okH 2 [] [some (cSp m cs md N), some (cIs vals)] = true ∧ [some (cSp m cs md N), some (cIs vals)] = [some (cSp m cs md N), some (cIs vals)] ∧ D.tup [db cg, db true] = D.tup [db cg, db true]) = _) ?_
    exact ⟨decide_eq_false (by omega), by simp [okH, D.okNs, D.okN, okNs_cIs], rfl, rfl⟩
  | succ n ih =>
    intro k vals cg B hn hB hB2 h hl
    have hk : k < m.rules.length := by omega
    obtain ⟨r, hr⟩ : ∃ r, m.rules[k]? = some r := ⟨_, List.getElem?_eq_getElem hk⟩
    have e3 : m.rules.drop k = r :: m.rules.drop (k + 1) := by rw [List.drop_eq_getElem_cons hk]; congr 1; rw [List.getElem?_eq_getElem hk] at hr; simpa using hr
    have hro := hm.rule (List.mem_of_getElem? hr)
    have hfs := iflw_spec m hm cs md hc r hro vals N hl hN (fun v hv => (h.bd v hv).elim (fun h1 => by rw [h1]; decide) (fun h1 => by omega))
    obtain ⟨hf1, hf2⟩ := flwM_ok hm hc hro hB h (by omega)
    have hi := fun ch' => ih (k + 1) (flwM cs md r vals).1 ch' (B + 16777216) (by omega) (by omega) (by omega) hf1 (by omega)
    rw [e3, rndM]
    generalize flwM cs md r vals = f at *
    cases hf : f.2.2 with
    | false =>
      rw [hf] at hfs
      rw [if_neg (by decide)]
      refine loop_vc mixed 33 [] (.t <| .x (vRul r) <| .h (.q 5 2) <| .h (.oc (.tup [db f.2.1, db false]) ⟨[some (cSp m cs md N), some (cIs f.1), some (cR r)], []⟩) .ro) ?_
      refine via (by kernel_rfl : (decide ((↑k : Int) < (↑(List.length m.rules) : Int)) = true ∧ 0 ≤ (↑k : Int) ∧ (List.map vRul m.rules)[Int.toNat (↑k : Int)]? = some (vRul r) ∧ (∀ (o : Oper) (c : Call) (fo : Operand), o.op = Op.call c → c.callee = Callee.value fo → OpOK PP o [D.v (V.fn 181 [] []), D.ptr 0 0, D.v (V.agg [V.str r.name, vi r.frm, vi r.to, vIs r.need, vIs r.give, vIs r.move, vi r.chan, vi r.act, vi r.letter, vIs r.path, vIs r.next, vTks r.takes, vIs r.makes, vi r.second])] (St.mk [some (cSp m cs md N), some (cIs vals), some [D.v (V.str r.name), di r.frm, di r.to, D.v (vIs r.need), D.v (vIs r.give), D.v (vIs r.move), di r.chan, di r.act, di r.letter, D.v (vIs r.path), D.v (vIs r.next), D.v (vTks r.takes), D.v (vIs r.makes), di r.second]] []) (D.tup [db f.snd.fst, db false]) (St.mk [some (cSp m cs md N), some (cIs f.fst), some (cR r)] [])) ∧ okH 2 [] [some (cSp m cs md N), some (cIs f.fst)] = true ∧ [some (cSp m cs md N), some (cIs f.fst)] = [some (cSp m cs md N), some (cIs (f.fst, false, false).fst)] ∧ D.tup [db false, db false] = D.tup [db (f.fst, false, false).snd.fst, db (f.fst, false, false).snd.snd]) = _) ?_
      refine ⟨decide_eq_true (by omega), by omega, idx_some hr, fun o c fo ho hc2 => ?_, by simp [okH, D.okNs, D.okN, okNs_cIs], rfl, rfl⟩
      exact op_callS (H := [some (cSp m cs md N), some (cIs vals), some (cR r)]) ho hc2 0 (by decide) rfl rfl (x := [vRul r]) hfs
    | true =>
      rw [hf] at hfs
      rw [if_pos rfl]
      refine loop_vc mixed 33 [] (.t <| .x (vRul r) <| .h (.q 5 2) <| .h (.oc (.tup [db f.2.1, db true]) ⟨[some (cSp m cs md N), some (cIs f.1), some (cR r)], []⟩) <| .k <| .b (.lo [ke 0, ch 4 (db (cg || f.2.1)), ke 13, ke 14, ch 15 (di (k + 1 : Nat))] (stS m cs md N f.1)) (.lo [ke 0, ch 4 (db (cg || f.2.1)), ke 13, ke 14, ch 15 (di (k + 1 : Nat))] (stS m cs md N f.1))) ?_
      refine via (by kernel_rfl : (decide ((↑k : Int) < (↑(List.length m.rules) : Int)) = true ∧ 0 ≤ (↑k : Int) ∧ (List.map vRul m.rules)[Int.toNat (↑k : Int)]? = some (vRul r) ∧ (∀ (o : Oper) (c : Call) (fo : Operand), o.op = Op.call c → c.callee = Callee.value fo → OpOK PP o [D.v (V.fn 181 [] []), D.ptr 0 0, D.v (V.agg [V.str r.name, vi r.frm, vi r.to, vIs r.need, vIs r.give, vIs r.move, vi r.chan, vi r.act, vi r.letter, vIs r.path, vIs r.next, vTks r.takes, vIs r.makes, vi r.second])] (St.mk [some (cSp m cs md N), some (cIs vals), some [D.v (V.str r.name), di r.frm, di r.to, D.v (vIs r.need), D.v (vIs r.give), D.v (vIs r.move), di r.chan, di r.act, di r.letter, D.v (vIs r.path), D.v (vIs r.next), D.v (vTks r.takes), D.v (vIs r.makes), di r.second]] []) (D.tup [db f.snd.fst, db true]) (St.mk [some (cSp m cs md N), some (cIs f.fst), some (cR r)] [])) ∧ (cg = true → db true = db (cg || f.snd.fst) ∧ di (IntKind.wrap IntKind.i64 ((↑k : Int) + 1)) = di (↑(k + 1) : Int) ∧ okH 2 [] [some (cSp m cs md N), some (cIs f.fst)] = true ∧ [some (cSp m cs md N), some (cIs f.fst)] = [some (cSp m cs md N), some (cIs f.fst)] ∧ Nv.It (RunC (CN 2) PP (fun env σ1 => ResOK PP fIRnd env σ1 (D.tup [db (rndM cs md (List.drop (k + 1) m.rules) f.fst (cg || f.snd.fst)).snd.fst, db (rndM cs md (List.drop (k + 1) m.rules) f.fst (cg || f.snd.fst)).snd.snd]) (stS m cs md N (rndM cs md (List.drop (k + 1) m.rules) f.fst (cg || f.snd.fst)).fst)) [KI.lp (sub cIRnd [1, 1, 0, 1, 0, 0]), KI.blk 0, KI.code (sub cIRnd [1, 1, 1])] (mkE 33 [(0, D.ptr 0 0), (4, db (cg || f.snd.fst)), (13, D.v (vRuls m.rules)), (14, di (↑(List.length m.rules) : Int)), (15, di (↑(k + 1) : Int))]) (stS m cs md N f.fst))) ∧ (cg = false → db f.snd.fst = db (cg || f.snd.fst) ∧ di (IntKind.wrap IntKind.i64 ((↑k : Int) + 1)) = di (↑(k + 1) : Int) ∧ okH 2 [] [some (cSp m cs md N), some (cIs f.fst)] = true ∧ [some (cSp m cs md N), some (cIs f.fst)] = [some (cSp m cs md N), some (cIs f.fst)] ∧ Nv.It (RunC (CN 2) PP (fun env σ1 => ResOK PP fIRnd env σ1 (D.tup [db (rndM cs md (List.drop (k + 1) m.rules) f.fst (cg || f.snd.fst)).snd.fst, db (rndM cs md (List.drop (k + 1) m.rules) f.fst (cg || f.snd.fst)).snd.snd]) (stS m cs md N (rndM cs md (List.drop (k + 1) m.rules) f.fst (cg || f.snd.fst)).fst)) [KI.lp (sub cIRnd [1, 1, 0, 1, 0, 0]), KI.blk 0, KI.code (sub cIRnd [1, 1, 1])] (mkE 33 [(0, D.ptr 0 0), (4, db (cg || f.snd.fst)), (13, D.v (vRuls m.rules)), (14, di (↑(List.length m.rules) : Int)), (15, di (↑(k + 1) : Int))]) (stS m cs md N f.fst)))) = _) ?_
      have okS : okH 2 [] [some (cSp m cs md N), some (cIs f.1)] = true := by simp [okH, D.okNs, D.okN, okNs_cIs]
      refine ⟨decide_eq_true (by omega), by omega, idx_some hr, fun o c fo ho hc2 => ?_, fun h1 => ⟨by rw [h1, Bool.true_or], wrap_succ (by have := hm.places; omega), okS, rfl, ⟨hi _⟩⟩, fun h1 => ⟨by rw [h1, Bool.false_or], wrap_succ (by have := hm.places; omega), okS, rfl, ⟨hi _⟩⟩⟩
      exact op_callS (H := [some (cSp m cs md N), some (cIs vals), some (cR r)]) ho hc2 0 (by decide) rfl rfl (x := [vRul r]) hfs
theorem irnd_spec (m : Mod) (hm : PlC m) (cs : List Int) (md : Int) (hc : CoM m cs md) (N : Nat) (hN : N = m.states.length) (vals : List Int) (B : Int) (hB : 0 ≤ B) (hB2 : B ≤ 800000000) (h : ValB md B vals) (hl : vals.length = N) :
    FSpec PP 127 [.ptr 0 0] (stS m cs md N vals) (.tup [db (rndM cs md m.rules vals false).2.1, db (rndM cs md m.rules vals false).2.2]) (stS m cs md N (rndM cs md m.rules vals false).1) := by
  have hp := hm.places
  refine spec_vc mixed fIRnd cIRnd (by kernel_rfl) (by kernel_rfl) (by kernel_rfl) (by kernel_rfl) 33 (by kernel_rfl) [] (.lo [ke 0, ke 4, ke 13, ch 14 (di m.rules.length), ch 15 (di (0 : Nat))] (stS m cs md N vals)) ?_
  refine via (by kernel_rfl : (di (↑(List.length (List.map vRul m.rules)) : Int) = di (↑(List.length m.rules) : Int) ∧ di 0 = di (↑0 : Int) ∧ okH 2 [] [some (cSp m cs md N), some (cIs vals)] = true ∧ [some (cSp m cs md N), some (cIs vals)] = [some (cSp m cs md N), some (cIs vals)] ∧ Nv.It (RunC (CN (List.length (stS m cs md N vals).H)) PP (fun env σ1 => ResOK PP fIRnd env σ1 (D.tup [db (rndM cs md m.rules vals false).snd.fst, db (rndM cs md m.rules vals false).snd.snd]) (stS m cs md N (rndM cs md m.rules vals false).fst)) [KI.lp (sub cIRnd [1, 1, 0, 1, 0, 0]), KI.blk 0, KI.code (sub cIRnd [1, 1, 1])] (mkE 33 [(0, D.ptr 0 0), (4, db false), (13, D.v (vRuls m.rules)), (14, di (↑(List.length m.rules) : Int)), (15, di (↑0 : Int))]) (stS m cs md N vals))) = _) ?_
  have hi := irnd_loop m hm cs md hc N hN m.rules.length 0 vals false B (by omega) hB (by omega) h hl
  rw [List.drop_zero] at hi
  exact ⟨by rw [List.length_map], rfl, by simp [okH, D.okNs, D.okN, okNs_cIs], rfl, ⟨hi⟩⟩
end Go.Proofs.YtdfdemnbaiieaaaGreat
