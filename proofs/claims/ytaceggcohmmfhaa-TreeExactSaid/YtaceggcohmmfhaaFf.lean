/-
  From a contract to the row's walk: a slice of integers, two trees, a slice of integers.
-/
import Derived.Test.YtaceggcohmmfhaaFd
import Derived.ChangeArms
import Derived.DataReads
import Derived.Test.YtaceggcohmmfhaaFe
import Derived.Test.YtaceggcohmmfhaaEb
namespace Go.Proofs.Ytaceggcohmmfhaa
open Go.Dv Go.RowKit Tr

theorem repE_snoc {M : Mem} {sz : Nat} {y : V} {u2 : List Value} (hl : u2.length = sz) (hy : repC M y u2) : ∀ (xs : List V) (u1 : List Value), repE M sz xs u1 → repE M sz (xs ++ [y]) (u1 ++ u2)
  | [], u1, h => by
    simp only [repE] at h
    subst h
    simp only [List.nil_append, repE]
    exact ⟨u2, [], by simp, hl, hy, rfl⟩
  | x :: xs, u1, h => by
    simp only [repE] at h
    obtain ⟨v1, v2, rfl, h1, h2, h3⟩ := h
    simp only [List.cons_append, repE]
    exact ⟨v1, v2 ++ u2, by simp, h1, h2, repE_snoc hl hy xs v2 h3⟩
theorem uTree : PP.underlying 25 = some (.struct #[Field.mk "Label" 3 0 false "" "" 0, Field.mk "Kids" 23 1 false "" "" 8]) := by kernel_rfl
theorem uTrees : PP.underlying 23 = some (.slice 25) := by kernel_rfl
theorem uInt64 : PP.underlying 3 = some (.int .i64) := by kernel_rfl
theorem add_addr (a : Addr) (i j : Nat) : (a.add i).add j = a.add (i + j) := by
  unfold Addr.add
  by_cases hi : i = 0 <;> by_cases hj : j = 0 <;> simp [hi, hj, Nat.add_assoc]
theorem cellsTree : PP.cellsOf 25 = 2 := by kernel_rfl
theorem cellsInt : PP.cellsOf 3 = 1 := by kernel_rfl
theorem cellsTrees : PP.cellsOf 23 = 1 := by kernel_rfl
theorem spot_none {w : World} {x : Addr} {v : Value} (h : w.cell? x = some v) : x.spot = none := by
  cases hs : x.spot with
  | none => rfl
  | some s =>
    unfold World.cell? at h
    split at h
    · rw [hs] at h; simp at h
    · simp at h
theorem tree_of {H : Type} {enc : TypeId × Value → H} {w : World} {base : Nat} {spare : Nat → Bool} {held : Bool} (fuel : Nat) : ∀ (cs : List Value) (x : DataW H × List MemPlace), DataW.trod enc PP w base spare held fuel 25 cs = some x → ∃ t : Tr, repC (memOf w) (vt t) cs := by
  induction fuel using Nat.strongRecOn with
  | _ fuel ih =>
  intro cs x h
  obtain ⟨ys, n, rfl, _, hl, hyl, hf⟩ := DataW.trod_struct uTree h
  rw [cellsTree] at hl
  match cs, hl with
  | [c0, c1], _ =>
  have h0 := hf 0 _ rfl
  have h1 := hf 1 _ rfl
  have hy2 : ys.length = 2 := hyl
  obtain ⟨y0, hy0⟩ := get_ex (a := ys) (i := 0) (by omega)
  obtain ⟨y1, hy1⟩ := get_ex (a := ys) (i := 1) (by omega)
  rw [hy0] at h0
  rw [hy1] at h1
  replace h0 : DataW.trod enc PP w base spare held n 3 [c0] = some y0 := by simpa [cellsInt] using h0
  replace h1 : DataW.trod enc PP w base spare held n 23 [c1] = some y1 := by simpa [cellsTrees] using h1
  obtain ⟨l, hc0, _, _⟩ := DataW.trod_int uInt64 h0
  simp only [List.cons.injEq, and_true] at hc0
  subst hc0
  have fin : ∀ ks : List Tr, repC (memOf w) (.list (ks.map vt)) [c1] → ∃ t : Tr, repC (memOf w) (vt t) [.int .i64 l, c1] := by
    intro ks hk
    refine ⟨.mk l ks, ?_⟩
    simp only [vt, vts_map, repC, repA]
    exact ⟨_, _, rfl, rfl, rfl, _, _, rfl, rfl, by simpa only [repC] using hk, rfl⟩
  rcases DataW.trod_slice uTrees h1 with ⟨hc, _⟩ | ⟨a, len, cap, elems, rest, m, hnm, hc, _, _, hlc, _, hel, hcell, _⟩
  · refine fin [] ?_
    rw [hc]
    simp only [List.map_nil, repC]
    exact ⟨none, 0, rfl, Nat.le_refl _, .inl trivial⟩
  · have build : ∀ k, k ≤ len → ∃ (ts : List Tr) (us : List Value), ts.length = k ∧ us.length = 2 * k ∧ repE (memOf w) 2 (ts.map vt) us ∧ ∀ j v, us[j]? = some v → w.cell? (a.add j) = some v := by
      intro k
      induction k with
      | zero => exact fun _ => ⟨[], [], rfl, rfl, by simp [repE], fun j v hj => by simp at hj⟩
      | succ k ihk =>
        intro hk
        obtain ⟨ts, us, e1, e2, e3, e4⟩ := ihk (by omega)
        have hb := hcell k (by omega)
        obtain ⟨y, hy⟩ := get_ex (a := elems) (i := k) (by omega)
        rw [hy, cellsTree] at hb
        obtain ⟨cs', hcs, ht⟩ := Option.bind_eq_some_iff.1 hb
        obtain ⟨_, hlen, hat⟩ := World.cells?_some hcs
        obtain ⟨t, htr⟩ := ih m (by omega) cs' y ht
        refine ⟨ts ++ [t], us ++ cs', by simp [e1], by simp [e2, hlen]; omega, ?_, fun j v hj => ?_⟩
        · rw [List.map_append]
          exact repE_snoc hlen htr _ _ e3
        · by_cases hjk : j < us.length
          · rw [List.getElem?_append_left hjk] at hj; exact e4 j v hj
          · rw [List.getElem?_append_right (by omega)] at hj
            have hj2 : j - us.length < 2 := by have := (List.getElem?_eq_some_iff.1 hj).1; omega
            have := hat (j - us.length) hj2
            rw [hj, add_addr, show k * 2 + (j - us.length) = j by omega] at this
            exact this
    obtain ⟨ts, us, e1, e2, e3, e4⟩ := build len (Nat.le_refl _)
    refine fin ts ?_
    rw [hc]
    simp only [repC, List.length_map]
    refine ⟨some a, cap, by rw [e1], by rw [e1]; exact hlc, ?_⟩
    rcases Nat.eq_zero_or_pos len with hz | hz
    · left
      have : ts = [] := List.eq_nil_of_length_eq_zero (by omega)
      rw [this]; rfl
    · right
      obtain ⟨v, hv⟩ := get_ex (a := us) (i := 0) (by omega)
      have h00 := spot_none (e4 0 v hv)
      obtain ⟨b, off, spot⟩ := a
      simp only [Addr.add] at h00
      subst h00
      exact ⟨b, off, 2, us, rfl, by omega, fun j v hj => by
        have := e4 j v hj
        rw [Addr.add_lit] at this
        exact this, e3⟩
theorem tree_in {H : Type} {enc : TypeId × Value → H} {w : World} {base : Nat} {spare : Nat → Bool} {held : Bool} {c : Array Value} {d : DataW H} {p : List MemPlace} (h : DataW.Trod enc PP w base spare held 25 (.agg c) d p) : ∃ t : Tr, repV (memOf w) (.agg [vi t.lab, vtl t.kids]) (.agg c) := by
  obtain ⟨fuel, hf⟩ := h
  obtain ⟨t, ht⟩ := tree_of fuel _ _ hf
  refine ⟨t, ?_⟩
  rw [vt_eq, show (Value.agg c).cells.toList = c.toList from rfl] at ht
  rw [repV_agg]
  exact ⟨c.toList, by simpa only [repC] using ht, by simp⟩
/-- a law of a slice of integers, two trees and a slice of integers -/
theorem law_trees {f : FuncId} (hspec : ∀ (l : List Int) (a b : Tr) (at' : List Int), FSpec PP f [dl l, dt a, dt b, dl at'] ⟨[], []⟩ (.v (.bool true)) ⟨[], []⟩)
    {a0 : Option Addr} {len0 cap0 : Nat} {z0 : List Int} {c1 c2 : Array Value} {t1 t2 : Tr} {a3 : Option Addr} {len3 cap3 : Nat} {z3 : List Int} {w : World} (h0 : IsRow .i64 w a0 len0 cap0 z0) (h1 : repV (memOf w) (.agg [vi t1.lab, vtl t1.kids]) (.agg c1)) (h2 : repV (memOf w) (.agg [vi t2.lab, vtl t2.kids]) (.agg c2)) (h3 : IsRow .i64 w a3 len3 cap3 z3) :
    Calls PP f #[.slice a0 len0 cap0, .agg c1, .agg c2, .slice a3 len3 cap3] w fun e w' => e = .returned (.bool true) ∧ Below w.heap.size w w' := by
  refine Calls.mono ((hspec (z0.take len0) t1 t2 (z3.take len3)).2 (g0 w) w [.slice a0 len0 cap0, .agg c1, .agg c2, .slice a3 len3 cap3] (wrep0 w) ?_) ?_
  · simp only [repDs]
    exact ⟨_, _, rfl, by simp only [repD]; exact isRow_rep h0, _, _, rfl, by simp only [repD]; exact h1, _, _, rfl, by simp only [repD]; exact h2, _, _, rfl, by simp only [repD]; exact isRow_rep h3, rfl⟩
  rintro e w' ⟨u, g', rfl, hw, hr⟩
  simp only [repD, repV_bool] at hr
  subst hr
  exact ⟨rfl, below_of hw⟩
end Go.Proofs.Ytaceggcohmmfhaa

namespace Go.Proofs.Ytaceggcohmmfhaa
open Go.Dv Go.Nv Tr
set_option maxRecDepth 20000
noncomputable abbrev fTEx : Func := Try.f3
noncomputable def cTEx : Code := fTEx.body.getD .skip
abbrev vP2 (p : Tr × Tr) : V := .agg [vi p.1.lab, vtl p.1.kids, vi p.2.lab, vtl p.2.kids]
abbrev rT (x : Tr) : D := .v (.ref (vTr x))
abbrev sd (l : List Int) (s : Nat × Int) : St := σd l s.1 s.2
/-- the loop over the pairs -/
abbrev loopP (l z : List Int) (ps : List (Tr × Tr)) (k : Nat) (s : Nat × Int) : Prop :=
  Rn PP fTEx 0 (db true) σ0 ([.lp (sub cTEx [1, 1, 1, 0, 1, 0, 0]), .blk 0, .code (sub cTEx [1, 1, 1, 1])] ++ []) (mkE 185 [(3, dl z), (9, .ptr 0 0), (67, .v (.list (ps.map vP2))), (68, di (ps.length : Int)), (69, di (k : Int))]) (sd l s)
/-- the loop over the lists that may prove -/
theorem zs_loop (l z : List Int) (ps : List (Tr × Tr)) (k : Nat) (s : Nat × Int) (x y : Tr) (hx : x.size ≤ 1000000) (hy : y.size ≤ 1000000) (zs : List (List Int)) (hzs : zs.length ≤ 1000) (hk : k ≤ 1000) (next : loopP l z ps (k + 1) s) (n : Nat) : ∀ j : Nat, zs.length - j = n →
    Rn PP fTEx 0 (db true) σ0 ([.lp (sub cTEx [1, 1, 1, 0, 1, 0, 0, 1, 1, 0, 0, 1, 1, 1, 1, 1, 1, 1, 1, 1, 0, 0]), .blk 2, .blk 1, .code (sub cTEx [1, 1, 1, 0, 1, 0, 0, 1, 1, 1]), .lp (sub cTEx [1, 1, 1, 0, 1, 0, 0]), .blk 0, .code (sub cTEx [1, 1, 1, 1])] ++ []) (mkE 185 [(3, dl z), (9, .ptr 0 0), (12, rT x), (13, rT y), (67, .v (.list (ps.map vP2))), (68, di (ps.length : Int)), (69, di (k : Int)), (168, .v (.list (zs.map vl))), (169, di (zs.length : Int)), (170, di (j : Int))]) (sd l s) := by
  induction n using Nat.strongRecOn with
  | _ n ih =>
  intro j hn
  refine loop_vc mixed 185 [5, 6] (.b (.e fun w : List Int => .x (vl w) <| .c (db (provX (nodesT x) (nodesT y) w)) <| .c (db (rprovM x y w)) <| .f <| .lo [ke 3, ke 9, ke 12, ke 13, ke 67, ke 68, ke 69, ke 168, ke 169, ch 170 (di (j + 1 : Nat))] (sd l s)) (.lo [ke 3, ke 9, ke 67, ke 68, ch 69 (di (k + 1 : Nat))] (sd l s))) ?_
  refine via (by kernel_rfl : ((decide ((↑j : Int) < (↑(List.length zs) : Int)) = true → ∃ a, 0 ≤ (↑j : Int) ∧ (List.map vl zs)[Int.toNat (↑j : Int)]? = some (vl a) ∧ FSpec PP 24 [D.v (vTr x), D.v (vTr y), D.v (vl a)] (St.mk [] []) (db (provX (nodesT x) (nodesT y) a)) (St.mk [] []) ∧ FSpec PP 22 [D.v (vTr x), D.v (vTr y), D.v (vl a)] (St.mk [] []) (db (rprovM x y a)) (St.mk [] []) ∧ (provX (nodesT x) (nodesT y) a != rprovM x y a) = false ∧ Nv.di (IntKind.wrap IntKind.i64 ((↑j : Int) + 1)) = di (↑(j + 1) : Int) ∧ okH 1 [] [some (dk l s.fst s.snd)] = true ∧ [some (dk l s.fst s.snd)] = [some (dk l s.fst s.snd)] ∧ Nv.It (RunC (CN 0) PP (fun env σ1 => ResOK PP fTEx env σ1 (db true) σ0) [KI.lp (sub cTEx [1, 1, 1, 0, 1, 0, 0, 1, 1, 0, 0, 1, 1, 1, 1, 1, 1, 1, 1, 1, 0, 0]), KI.blk 2, KI.blk 1, KI.code (sub cTEx [1, 1, 1, 0, 1, 0, 0, 1, 1, 1]), KI.lp (sub cTEx [1, 1, 1, 0, 1, 0, 0]), KI.blk 0, KI.code (sub cTEx [1, 1, 1, 1])] (mkE 185 [(3, D.v (V.list (List.map vi z))), (9, D.ptr 0 0), (12, D.v (V.ref (vTr x))), (13, D.v (V.ref (vTr y))), (67, D.v (V.list (List.map vP2 ps))), (68, Nv.di (↑(List.length ps) : Int)), (69, Nv.di (↑k : Int)), (168, D.v (V.list (List.map vl zs))), (169, Nv.di (↑(List.length zs) : Int)), (170, di (↑(j + 1) : Int))]) (sd l s))) ∧ (decide ((↑j : Int) < (↑(List.length zs) : Int)) = false → Nv.di (IntKind.wrap IntKind.i64 ((↑k : Int) + 1)) = di (↑(k + 1) : Int) ∧ okH 1 [] [some (dk l s.fst s.snd)] = true ∧ [some (dk l s.fst s.snd)] = [some (dk l s.fst s.snd)] ∧ Nv.It (RunC (CN 0) PP (fun env σ1 => ResOK PP fTEx env σ1 (db true) σ0) [KI.lp (sub cTEx [1, 1, 1, 0, 1, 0, 0]), KI.blk 0, KI.code (sub cTEx [1, 1, 1, 1])] (mkE 185 [(3, D.v (V.list (List.map vi z))), (9, D.ptr 0 0), (67, D.v (V.list (List.map vP2 ps))), (68, Nv.di (↑(List.length ps) : Int)), (69, di (↑(k + 1) : Int))]) (sd l s)))) = _) ?_
  refine ⟨fun h => ?_, fun h => ?_⟩
  · have hj : j < zs.length := by simpa using h
    have hw : zs[j]? = some zs[j] := List.getElem?_eq_getElem hj
    generalize zs[j] = w at hw
    exact ⟨w, by omega, idx_some hw, proves_spec x y w hx hy, rproves_spec x y w hx hy, by rw [prov_eq]; simp, wsucc (by omega), rfl, rfl, ⟨ih (zs.length - (j + 1)) (by omega) (j + 1) rfl⟩⟩
  · exact ⟨wsucc (by omega), rfl, rfl, ⟨next⟩⟩
abbrev aT (x y : Tr) : List D := [di x.lab, .v (vtl x.kids), di y.lab, .v (vtl y.kids)]
abbrev sdA (l : List Int) (s : Nat × Int) (x y : Tr) : St := ⟨[some (dk l s.1 s.2), some (aT x y), none, none], []⟩
abbrev eTl (z : List Int) (ps : List (Tr × Tr)) (k : Nat) (x y : Tr) (w : List Int) : List (Nat × D) := [(3, dl z), (9, .ptr 0 0), (12, rT x), (13, rT y), (14, dl w), (67, .v (.list (ps.map vP2))), (68, di (ps.length : Int)), (69, di (k : Int))]
abbrev zLeaf (z w b : List Int) : List (Nat × Option D) := [ke 3, ke 9, ke 12, ke 13, ke 67, ke 68, ke 69, ch 168 (.v (.list ([z, w, b].map vl))), ch 169 (di (([z, w, b].length : Nat) : Int)), ch 170 (di (0 : Nat))]
theorem flat_vi (w : List Int) : flatV (w.map vi) = (w.map vi).map .v := by
  induction w with
  | nil => rfl
  | cons x w ih => simp only [List.map_cons, flatV, List.flatMap_cons] at ih ⊢; simp [ih, V.cellsV]
section
variable {l z : List Int} {ps : List (Tr × Tr)} {k : Nat} (hk : k ≤ 1000) {s : Nat × Int} {x y : Tr} (hx : x.size ≤ 1000000) (hy : y.size ≤ 1000000)
include hk hx hy
theorem part_nil (next : loopP l z ps (k + 1) s) :
    Rn PP fTEx 0 (db true) σ0 ([.code (sub cTEx [1, 1, 1, 0, 1, 0, 0, 1, 1, 0, 0, 1, 1, 1, 1, 1, 1]), .blk 1, .code (sub cTEx [1, 1, 1, 0, 1, 0, 0, 1, 1, 1]), .lp (sub cTEx [1, 1, 1, 0, 1, 0, 0]), .blk 0, .code (sub cTEx [1, 1, 1, 1])] ++ []) (mkE 185 (eTl z ps k x y [])) (sdA l s x y) := by
  have hz := zs_loop l z ps k s x y hx hy [z, [], []] (by simp) hk next _ 0 rfl
  refine code_vcR mixed 185 [] (.a 1 <| .f <| .lo (zLeaf z [] []) (sd l s)) ?_
  refine via (by kernel_rfl : (LenOK 0 8 ∧ decide ((↑(List.length (List.map vi [])) : Int) > 0) = false ∧ D.v (V.list [V.list (List.map vi z), V.list [], V.list []]) = D.v (V.list [vl z, vl [], vl []]) ∧ Nv.di (↑(List.length (V.list (List.map vi z) :: V.list (List.map vi []) :: V.list (List.map vi []) :: nV)) : Int) = di (↑(List.length [z, [], []]) : Int) ∧ Nv.di 0 = di (↑0 : Int) ∧ okH 1 [] [some (dk l s.fst s.snd)] = true ∧ [some (dk l s.fst s.snd)] = [some (dk l s.fst s.snd)] ∧ Nv.It (RunC (CN 0) PP (fun env σ1 => ResOK PP fTEx env σ1 (db true) σ0) [KI.lp (sub cTEx [1, 1, 1, 0, 1, 0, 0, 1, 1, 0, 0, 1, 1, 1, 1, 1, 1, 1, 1, 1, 0, 0]), KI.blk 2, KI.blk 1, KI.code (sub cTEx [1, 1, 1, 0, 1, 0, 0, 1, 1, 1]), KI.lp (sub cTEx [1, 1, 1, 0, 1, 0, 0]), KI.blk 0, KI.code (sub cTEx [1, 1, 1, 1])] (mkE 185 [(3, D.v (V.list (List.map vi z))), (9, D.ptr 0 0), (12, D.v (V.ref (vTr x))), (13, D.v (V.ref (vTr y))), (67, D.v (V.list (List.map vP2 ps))), (68, Nv.di (↑(List.length ps) : Int)), (69, Nv.di (↑k : Int)), (168, D.v (V.list [vl z, vl [], vl []])), (169, di (↑(List.length [z, [], []]) : Int)), (170, di (↑0 : Int))]) (sd l s))) = _) ?_
  exact ⟨⟨by decide, by decide⟩, rfl, rfl, rfl, rfl, rfl, rfl, ⟨hz⟩⟩
theorem part_cons (w : List Int) (hw : 1 ≤ w.length) (hw2 : w.length ≤ 1000) {i v : Nat} {s1 s2 : Nat × Int} (h1 : FSpec PP 23 [.ptr 0 0, di (w.length : Int)] (sd l s) (di (i : Int)) (sd l s1)) (hi : i < w.length)
    (h2 : FSpec PP 23 [.ptr 0 0, di (((if validT y then y.size else 0) + 2 : Nat) : Int)] (sd l s1) (di (v : Int)) (sd l s2)) (next : loopP l z ps (k + 1) s2) :
    Rn PP fTEx 0 (db true) σ0 ([.code (sub cTEx [1, 1, 1, 0, 1, 0, 0, 1, 1, 0, 0, 1, 1, 1, 1, 1, 1]), .blk 1, .code (sub cTEx [1, 1, 1, 0, 1, 0, 0, 1, 1, 1]), .lp (sub cTEx [1, 1, 1, 0, 1, 0, 0]), .blk 0, .code (sub cTEx [1, 1, 1, 1])] ++ []) (mkE 185 (eTl z ps k x y w)) (sdA l s x y) := by
  have hz := zs_loop l z ps k s2 x y hx hy [z, w, w.set i (v : Int)] (by simp) hk next _ 0 rfl
  refine code_vcR mixed 185 [] (.h .g <| .h (.q 15 0) <| .h (.ga 18) <| .t <| .c1 (dk l s1.1 s1.2) (di (i : Int)) <| .c (di ((if validT y then y.size else 0 : Nat) : Int)) <| .c1 (dk l s2.1 s2.2) (di (v : Int)) <| .w <| .h (.q 17 0) <| .h (.ct 18 (dl (w.set i (v : Int))) ⟨[some (dk l s2.1 s2.2), some (aT x y), none, none, none], []⟩) <| .lo (zLeaf z w (w.set i (v : Int))) (sd l s2)) ?_
  refine via (by kernel_rfl : (List.map vi w ≠ [] ∧ (∀ (y : V), y ∈ List.map vi w → V.size y = 1) ∧ LenOK (List.length (List.map vi w)) 8 ∧ decide ((↑(List.length (List.map vi w)) : Int) > 0) = true ∧ FSpec PP 23 [D.ptr 0 0, Nv.di (↑(List.length (List.map vi w)) : Int)] (St.mk [some (dk l s.fst s.snd)] []) (di (↑i : Int)) (St.mk [some (dk l s1.fst s1.snd)] []) ∧ FSpec PP 12 [D.v (vTr y)] (St.mk [] []) (di (↑(if validT y = true then size y else 0) : Int)) (St.mk [] []) ∧ FSpec PP 23 [D.ptr 0 0, Nv.di (IntKind.wrap IntKind.i64 ((↑(if validT y = true then size y else 0) : Int) + 2))] (St.mk [some (dk l s1.fst s1.snd)] []) (di (↑v : Int)) (St.mk [some (dk l s2.fst s2.snd)] []) ∧ 0 ≤ (↑i : Int) ∧ (↑i : Int) < (↑(List.length (List.map vi w)) : Int) ∧ 0 + Int.toNat (↑i : Int) * 1 < List.length (flatV (List.map vi w)) ∧ (∀ (e : List D), e[18]? = some (D.arr 4 0 (List.length (List.map vi w))) → ∀ (E : Ent) (g : Gh) (a : Act) (w_1 : World), FI E g (List.getLast [St.mk [some (dk l s.fst s.snd), some (aT x y), none, none, some (flatV (List.map vi w))] (sdA l s x y).own, St.mk [some (dk l s1.fst s1.snd), some (aT x y), none, none, some (flatV (List.map vi w))] (St.mk [some (dk l s.fst s.snd), some (aT x y), none, none, some (flatV (List.map vi w))] (sdA l s x y).own).own, St.mk [some (dk l s2.fst s2.snd), some (aT x y), none, none, some (flatV (List.map vi w))] (St.mk [some (dk l s1.fst s1.snd), some (aT x y), none, none, some (flatV (List.map vi w))] (St.mk [some (dk l s.fst s.snd), some (aT x y), none, none, some (flatV (List.map vi w))] (sdA l s x y).own).own).own, St.mk [some (dk l s2.fst s2.snd), some (aT x y), none, none, some (List.set (flatV (List.map vi w)) (0 + Int.toNat (↑i : Int) * 1) (di (↑v : Int)))] (St.mk [some (dk l s2.fst s2.snd), some (aT x y), none, none, some (flatV (List.map vi w))] (St.mk [some (dk l s1.fst s1.snd), some (aT x y), none, none, some (flatV (List.map vi w))] (St.mk [some (dk l s.fst s.snd), some (aT x y), none, none, some (flatV (List.map vi w))] (sdA l s x y).own).own).own).own] (List.getLast._proof_2 (St.mk [some (dk l s.fst s.snd), some (aT x y), none, none, some (flatV (List.map vi w))] (sdA l s x y).own) [St.mk [some (dk l s1.fst s1.snd), some (aT x y), none, none, some (flatV (List.map vi w))] (St.mk [some (dk l s.fst s.snd), some (aT x y), none, none, some (flatV (List.map vi w))] (sdA l s x y).own).own, St.mk [some (dk l s2.fst s2.snd), some (aT x y), none, none, some (flatV (List.map vi w))] (St.mk [some (dk l s1.fst s1.snd), some (aT x y), none, none, some (flatV (List.map vi w))] (St.mk [some (dk l s.fst s.snd), some (aT x y), none, none, some (flatV (List.map vi w))] (sdA l s x y).own).own).own, St.mk [some (dk l s2.fst s2.snd), some (aT x y), none, none, some (List.set (flatV (List.map vi w)) (0 + Int.toNat (↑i : Int) * 1) (di (↑v : Int)))] (St.mk [some (dk l s2.fst s2.snd), some (aT x y), none, none, some (flatV (List.map vi w))] (St.mk [some (dk l s1.fst s1.snd), some (aT x y), none, none, some (flatV (List.map vi w))] (St.mk [some (dk l s.fst s.snd), some (aT x y), none, none, some (flatV (List.map vi w))] (sdA l s x y).own).own).own).own])) e a w_1 → ∃ g', FI E g' (St.mk [some (dk l s2.fst s2.snd), some (aT x y), none, none, none] []) (List.set e 18 (dl (List.set w i (↑v : Int)))) a w_1) ∧ D.v (V.list [V.list (List.map vi z), V.list (List.map vi w), V.list (List.map vi (List.set w i (↑v : Int)))]) = D.v (V.list [vl z, vl w, vl (List.set w i (↑v : Int))]) ∧ Nv.di (↑(List.length (V.list (List.map vi z) :: V.list (List.map vi w) :: V.list (List.map vi (List.set w i (↑v : Int))) :: nV)) : Int) = di (↑(List.length [z, w, List.set w i (↑v : Int)]) : Int) ∧ Nv.di 0 = di (↑0 : Int) ∧ okH 1 [] [some (dk l s2.fst s2.snd)] = true ∧ [some (dk l s2.fst s2.snd)] = [some (dk l s2.fst s2.snd)] ∧ Nv.It (RunC (CN 0) PP (fun env σ1 => ResOK PP fTEx env σ1 (db true) σ0) [KI.lp (sub cTEx [1, 1, 1, 0, 1, 0, 0, 1, 1, 0, 0, 1, 1, 1, 1, 1, 1, 1, 1, 1, 0, 0]), KI.blk 2, KI.blk 1, KI.code (sub cTEx [1, 1, 1, 0, 1, 0, 0, 1, 1, 1]), KI.lp (sub cTEx [1, 1, 1, 0, 1, 0, 0]), KI.blk 0, KI.code (sub cTEx [1, 1, 1, 1])] (mkE 185 [(3, D.v (V.list (List.map vi z))), (9, D.ptr 0 0), (12, D.v (V.ref (vTr x))), (13, D.v (V.ref (vTr y))), (67, D.v (V.list (List.map vP2 ps))), (68, Nv.di (↑(List.length ps) : Int)), (69, Nv.di (↑k : Int)), (168, D.v (V.list [vl z, vl w, vl (List.set w i (↑v : Int))])), (169, di (↑(List.length [z, w, List.set w i (↑v : Int)]) : Int)), (170, di (↑0 : Int))]) (sd l s2))) = _) ?_
  have hl : (w.map vi).length = w.length := List.length_map _
  refine ⟨fun e => ?_, sizes_vi w, ?_, ?_, ?_, rsize_spec y hy, ?_, by omega, ?_, ?_, fun e he => ?_, rfl, rfl, rfl, rfl, rfl, ⟨hz⟩⟩
  · rw [List.map_eq_nil_iff] at e
    rw [e] at hw; simp at hw
  · rw [hl]; exact ⟨by omega, by omega⟩
  · rw [hl]; exact decide_eq_true (by omega)
  · rw [hl]; exact h1
  · rw [show IntKind.i64.wrap (((if validT y then y.size else 0 : Nat) : Int) + 2) = (((if validT y then y.size else 0) + 2 : Nat) : Int) by rw [wrap_id (by omega) (by split <;> omega)]; omega]
    exact h2
  · rw [hl]; omega
  · rw [flat_vi, List.length_map, hl]; omega
  · have hq : List.set (flatV (w.map vi)) (0 + Int.toNat (i : Int) * 1) (di (v : Int)) = flatV ((w.set i (v : Int)).map vi) := by
      rw [flat_vi, flat_vi, List.map_set, List.map_set, Int.toNat_natCast, Nat.mul_one, Nat.zero_add]
    exact cv_flz (env := e) (σ := ⟨[some (dk l s2.1 s2.2), some (aT x y), none, none, some (List.set (flatV (w.map vi)) (0 + Int.toNat (i : Int) * 1) (di (v : Int)))], []⟩) (q := 4) (t := 18) (sz := 1) (xs := (w.set i (v : Int)).map vi) (by decide) (sizes_vi _) (by rw [List.length_map, List.length_map, List.length_set]) (by rw [hq]; rfl) he
end
theorem seq_8 : sub cTEx [1, 1, 1, 0, 1, 0, 0, 1, 1, 0, 0, 1, 1] = .seq (sub cTEx [1, 1, 1, 0, 1, 0, 0, 1, 1, 0, 0, 1, 1, 0]) (.seq (sub cTEx [1, 1, 1, 0, 1, 0, 0, 1, 1, 0, 0, 1, 1, 1, 0]) (.seq (sub cTEx [1, 1, 1, 0, 1, 0, 0, 1, 1, 0, 0, 1, 1, 1, 1, 0]) (.seq (sub cTEx [1, 1, 1, 0, 1, 0, 0, 1, 1, 0, 0, 1, 1, 1, 1, 1, 0]) (sub cTEx [1, 1, 1, 0, 1, 0, 0, 1, 1, 0, 0, 1, 1, 1, 1, 1, 1])))) := by kernel_rfl
noncomputable abbrev tailK : List KI := [.code (sub cTEx [1, 1, 1, 0, 1, 0, 0, 1, 1, 0, 0, 1, 1, 1, 1, 1, 1]), .blk 1, .code (sub cTEx [1, 1, 1, 0, 1, 0, 0, 1, 1, 1]), .lp (sub cTEx [1, 1, 1, 0, 1, 0, 0]), .blk 0, .code (sub cTEx [1, 1, 1, 1])]
noncomputable abbrev headK : List KI := [.code (sub cTEx [1, 1, 1, 0, 1, 0, 0, 1, 1, 0, 0, 1, 1, 0]), .code (sub cTEx [1, 1, 1, 0, 1, 0, 0, 1, 1, 0, 0, 1, 1, 1, 0]), .code (sub cTEx [1, 1, 1, 0, 1, 0, 0, 1, 1, 0, 0, 1, 1, 1, 1, 0]), .code (sub cTEx [1, 1, 1, 0, 1, 0, 0, 1, 1, 0, 0, 1, 1, 1, 1, 1, 0])]
abbrev eHd (z : List Int) (ps : List (Tr × Tr)) (k : Nat) (x y : Tr) : List (Nat × D) := [(3, dl z), (9, .ptr 0 0), (12, rT x), (13, rT y), (67, .v (.list (ps.map vP2))), (68, di (ps.length : Int)), (69, di (k : Int))]
theorem cmpL_self : ∀ a : List Int, cmpL a a = 0
  | [] => rfl
  | x :: a => by simp only [cmpL]; rw [if_pos (ord_zero.2 rfl)]; exact cmpL_self a
theorem cmpV_self (a : List Int) : cmpV a a = 0 := by unfold cmpV; rw [if_pos (ord_zero.2 rfl)]; exact cmpL_self a
theorem labs_same (x : Tr) : (cmpV ((nodesT x).map Nd.lab) (if validT x then wkL x else []) == 0) = true := by
  rw [nodesT_labs]; simp [cmpV_self]
section
variable {l z : List Int} {ps : List (Tr × Tr)} {k : Nat} {s : Nat × Int} {x y : Tr} (hx : x.size ≤ 1000000) (hy : y.size ≤ 1000000)
include hx hy
/-- the pair, from the first comparison on -/
theorem part_yes (w : List Int) (he : embT x y = some w) (u : List Int) (hu : embR x y = (u, true)) (next : Rn PP fTEx 0 (db true) σ0 tailK (mkE 185 (eTl z ps k x y u)) (sdA l s x y)) :
    Rn PP fTEx 0 (db true) σ0 (headK ++ tailK) (mkE 185 (eHd z ps k x y)) (sdA l s x y) := by
  have e1 := tleq_spec x y hx hy
  have e2 := rleq_spec x y hx hy
  have e3 := rembed_spec x y hx hy
  have e4 := embed_spec x y hx hy
  have e5 := emb_proves he
  rw [he] at e1 e4
  rw [hu] at e2 e3
  have e6 := same_spec ((nodesT x).map Nd.lab) (if validT x then wkL x else []) (by rw [List.length_map]; have := nodesT_small x; omega)
  have e7 := labs_same x
  rw [e7] at e6
  refine code_vcR (ks := headK) (T := tailK) mixed 185 [] (.c (db (validT x)) <| .c (db (validT x)) <| .f <| .c (di ((if validT x then x.size else 0 : Nat) : Int)) <| .c (di ((if validT x then x.size else 0 : Nat) : Int)) <| .f <| .c (db true) <| .c (db true) <| .c (di (cmpX x y)) <| .c (di (cmpX x y)) <| .f <| .c (dl ((nodesT x).map Nd.lab)) <| .c (dl (if validT x then wkL x else [])) <| .c (db true) <|
    .c (tB (u, true)) <| .c (.tup [dl w, db true]) <| .c (db (rprovM x y w)) <| .f <| .lo [ke 3, ke 9, ke 12, ke 13, ke 14, ke 67, ke 68, ke 69] (sdA l s x y)) ?_
  refine via (by kernel_rfl : (FSpec PP 9 [D.v (vTr x)] (St.mk [] []) (db (validT x)) (St.mk [] []) ∧ FSpec PP 10 [D.v (vTr x)] (St.mk [] []) (db (validT x)) (St.mk [] []) ∧ (validT x != validT x) = false ∧ FSpec PP 11 [D.v (vTr x)] (St.mk [] []) (di (↑(if validT x = true then size x else 0) : Int)) (St.mk [] []) ∧ FSpec PP 12 [D.v (vTr x)] (St.mk [] []) (di (↑(if validT x = true then size x else 0) : Int)) (St.mk [] []) ∧ ((↑(if validT x = true then size x else 0) : Int) != (↑(if validT x = true then size x else 0) : Int)) = false ∧ FSpec PP 13 [D.v (vTr x), D.v (vTr y)] (St.mk [] []) (db true) (St.mk [] []) ∧ FSpec PP 14 [D.v (vTr x), D.v (vTr y)] (St.mk [] []) (db true) (St.mk [] []) ∧ FSpec PP 15 [D.v (vTr x), D.v (vTr y)] (St.mk [] []) (di (cmpX x y)) (St.mk [] []) ∧ FSpec PP 16 [D.v (vTr x), D.v (vTr y)] (St.mk [] []) (di (cmpX x y)) (St.mk [] []) ∧ (cmpX x y != cmpX x y) = false ∧ FSpec PP 18 [D.v (vTr x)] (St.mk [] []) (dl (List.map Nd.lab (nodesT x))) (St.mk [] []) ∧ FSpec PP 19 [D.v (vTr x)] (St.mk [] []) (dl (if validT x = true then wkL x else [])) (St.mk [] []) ∧ FSpec PP 17 [D.v (V.list (List.map vi (List.map Nd.lab (nodesT x)))), D.v (V.list (List.map vi (if validT x = true then wkL x else [])))] (St.mk [] []) (db true) (St.mk [] []) ∧ FSpec PP 20 [D.v (vTr x), D.v (vTr y)] (St.mk [] []) (tB (u, true)) (St.mk [] []) ∧ FSpec PP 21 [D.v (vTr x), D.v (vTr y)] (St.mk [] []) (D.tup [dl w, db true]) (St.mk [] []) ∧ FSpec PP 22 [D.v (vTr x), D.v (vTr y), D.v (V.list (List.map vi w))] (St.mk [] []) (db (rprovM x y w)) (St.mk [] []) ∧ (!rprovM x y w) = false ∧ okH 4 [] [some (dk l s.fst s.snd), some (aT x y), none, none] = true ∧ [some (dk l s.fst s.snd), some (aT x y), none, none] = [some (dk l s.fst s.snd), some (aT x y), none, none] ∧ Nv.It (RunC (CN 0) PP (fun env σ1 => ResOK PP fTEx env σ1 (db true) σ0) tailK (mkE 185 [(3, D.v (V.list (List.map vi z))), (9, D.ptr 0 0), (12, D.v (V.ref (vTr x))), (13, D.v (V.ref (vTr y))), (14, dl (u, true).fst), (67, D.v (V.list (List.map vP2 ps))), (68, Nv.di (↑(List.length ps) : Int)), (69, Nv.di (↑k : Int))]) (sdA l s x y))) = _) ?_
  exact ⟨tvalid_spec x hx, rvalid_spec x hx, by simp, tsize_spec x hx, rsize_spec x hx, by simp, e1, e2, tcompareX_spec x y hx hy, rcmpX_spec x y hx hy, by simp, tlabels_spec x hx, rlabs_spec x hx, e6, e3, e4, rproves_spec x y w hx hy, by rw [e5]; rfl, rfl, rfl, ⟨next⟩⟩
theorem part_no (he : embT x y = none) (hu : embR x y = ([], false)) (next : Rn PP fTEx 0 (db true) σ0 tailK (mkE 185 (eTl z ps k x y [])) (sdA l s x y)) :
    Rn PP fTEx 0 (db true) σ0 (headK ++ tailK) (mkE 185 (eHd z ps k x y)) (sdA l s x y) := by
  have e1 := tleq_spec x y hx hy
  have e2 := rleq_spec x y hx hy
  have e3 := rembed_spec x y hx hy
  have e4 := embed_spec x y hx hy
  rw [he] at e1 e4
  rw [hu] at e2 e3
  have e6 := same_spec ((nodesT x).map Nd.lab) (if validT x then wkL x else []) (by rw [List.length_map]; have := nodesT_small x; omega)
  have e7 := labs_same x
  rw [e7] at e6
  refine code_vcR (ks := headK) (T := tailK) mixed 185 [] (.c (db (validT x)) <| .c (db (validT x)) <| .f <| .c (di ((if validT x then x.size else 0 : Nat) : Int)) <| .c (di ((if validT x then x.size else 0 : Nat) : Int)) <| .f <| .c (db false) <| .c (db false) <| .c (di (cmpX x y)) <| .c (di (cmpX x y)) <| .f <| .c (dl ((nodesT x).map Nd.lab)) <| .c (dl (if validT x then wkL x else [])) <| .c (db true) <|
    .c (tB ([], false)) <| .c (.tup [dl [], db false]) <| .lo [ke 3, ke 9, ke 12, ke 13, ke 14, ke 67, ke 68, ke 69] (sdA l s x y)) ?_
  refine via (by kernel_rfl : (FSpec PP 9 [D.v (vTr x)] (St.mk [] []) (db (validT x)) (St.mk [] []) ∧ FSpec PP 10 [D.v (vTr x)] (St.mk [] []) (db (validT x)) (St.mk [] []) ∧ (validT x != validT x) = false ∧ FSpec PP 11 [D.v (vTr x)] (St.mk [] []) (di (↑(if validT x = true then size x else 0) : Int)) (St.mk [] []) ∧ FSpec PP 12 [D.v (vTr x)] (St.mk [] []) (di (↑(if validT x = true then size x else 0) : Int)) (St.mk [] []) ∧ ((↑(if validT x = true then size x else 0) : Int) != (↑(if validT x = true then size x else 0) : Int)) = false ∧ FSpec PP 13 [D.v (vTr x), D.v (vTr y)] (St.mk [] []) (db false) (St.mk [] []) ∧ FSpec PP 14 [D.v (vTr x), D.v (vTr y)] (St.mk [] []) (db false) (St.mk [] []) ∧ FSpec PP 15 [D.v (vTr x), D.v (vTr y)] (St.mk [] []) (di (cmpX x y)) (St.mk [] []) ∧ FSpec PP 16 [D.v (vTr x), D.v (vTr y)] (St.mk [] []) (di (cmpX x y)) (St.mk [] []) ∧ (cmpX x y != cmpX x y) = false ∧ FSpec PP 18 [D.v (vTr x)] (St.mk [] []) (dl (List.map Nd.lab (nodesT x))) (St.mk [] []) ∧ FSpec PP 19 [D.v (vTr x)] (St.mk [] []) (dl (if validT x = true then wkL x else [])) (St.mk [] []) ∧ FSpec PP 17 [D.v (V.list (List.map vi (List.map Nd.lab (nodesT x)))), D.v (V.list (List.map vi (if validT x = true then wkL x else [])))] (St.mk [] []) (db true) (St.mk [] []) ∧ FSpec PP 20 [D.v (vTr x), D.v (vTr y)] (St.mk [] []) (tB ([], false)) (St.mk [] []) ∧ FSpec PP 21 [D.v (vTr x), D.v (vTr y)] (St.mk [] []) (D.tup [dl [], db false]) (St.mk [] []) ∧ okH 4 [] [some (dk l s.fst s.snd), some (aT x y), none, none] = true ∧ [some (dk l s.fst s.snd), some (aT x y), none, none] = [some (dk l s.fst s.snd), some (aT x y), none, none] ∧ Nv.It (RunC (CN 0) PP (fun env σ1 => ResOK PP fTEx env σ1 (db true) σ0) tailK (mkE 185 [(3, D.v (V.list (List.map vi z))), (9, D.ptr 0 0), (12, D.v (V.ref (vTr x))), (13, D.v (V.ref (vTr y))), (14, dl ([], false).fst), (67, D.v (V.list (List.map vP2 ps))), (68, Nv.di (↑(List.length ps) : Int)), (69, Nv.di (↑k : Int))]) (sdA l s x y))) = _) ?_
  exact ⟨tvalid_spec x hx, rvalid_spec x hx, by simp, tsize_spec x hx, rsize_spec x hx, by simp, e1, e2, tcompareX_spec x y hx hy, rcmpX_spec x y hx hy, by simp, tlabels_spec x hx, rlabs_spec x hx, e6, e3, e4, rfl, rfl, ⟨next⟩⟩
end
end Go.Proofs.Ytaceggcohmmfhaa

namespace Go.Proofs.Ytaceggcohmmfhaa
open Go.Dv Go.Nv Tr
set_option maxRecDepth 20000
noncomputable def ops7 : Array Oper := match sub cTEx [1, 1, 1, 0, 1, 0, 0, 1, 1, 0, 0, 1, 0] with
  | .region _ ops _ => ops
  | _ => #[]
noncomputable def o7 (i : Nat) : Oper := (ops7[i]?).getD ⟨none, .alloc 0, 0, "", #[], none⟩
theorem ops7_size : ops7.size = 8 := by kernel_rfl
theorem ops7_at (k : Nat) (o : Oper) (h : ops7[k]? = some o) : k < 8 ∧ o = o7 k := by
  have h1 : k < ops7.size := (Array.getElem?_eq_some_iff.1 h).1
  exact ⟨by rw [ops7_size] at h1; exact h1, by unfold o7; rw [h]; rfl⟩
abbrev cTr (x : Tr) : List D := [di x.lab, .v (vtl x.kids)]
abbrev zT : List D := [di 0, .v .nils]
section
variable (l z : List Int) (ps : List (Tr × Tr)) (k : Nat) (s : Nat × Int) (x y : Tr)
abbrev e7 : List (Nat × D) := [(3, dl z), (9, .ptr 0 0), (11, .ptr 1 0), (67, .v (.list (ps.map vP2))), (68, di (ps.length : Int)), (69, di (k : Int))]
def it7 (d12 d13 : D) (b : Bool) : List It := [(some 73, .ptr 1 0, false), (some 74, dt x, false), (some 75, .ptr 1 2, false), (some 76, dt y, false), (some 12, d12, false), (some 13, d13, false), (none, .undef, b), (none, .undef, b)]
def ef7 (b : Bool) : List Ef := [(false, none), (false, none), (false, none), (false, none), (false, none), (false, none), (b, none), (b, none)]
def S7 (r : List (Option (List D))) : St := ⟨some (dk l s.1 s.2) :: some (aT x y) :: r, []⟩
def s07 : List St := [S7 l s x y []]
def s17 : Bool → List St
  | false => [S7 l s x y [some zT]]
  | true => [S7 l s x y [some zT, some zT], S7 l s x y [some (cTr x), some zT], S7 l s x y [some (cTr x), some (cTr y)]]
def s27 : Bool → List St
  | false => [S7 l s x y [some zT]]
  | true => [S7 l s x y [some zT, some zT], S7 l s x y [some zT, some (cTr x)], S7 l s x y [some (cTr y), some (cTr x)]]
end
theorem dr7 (x y : Tr) (d12 d13 : D) (b : Bool) : DrOK ops7 (ef7 b) (it7 x y d12 d13 b) := by
  cases b
  · exact ⟨by kernel_rfl, by kernel_rfl, by kernel_rfl, rfl⟩
  · exact ⟨by kernel_rfl, by kernel_rfl, by kernel_rfl, rfl⟩
theorem ix_7 (i : Nat) (j : Nat) (h : (i = 0 ∧ j = 0) ∨ (i = 2 ∧ j = 1)) (σ : St) : OpOK PP (o7 i) [.ptr 1 0, di (j : Int)] σ (.ptr 1 (2 * j)) σ := by
  have ha : arTy PP 31 = some (2, 2, true) := by kernel_rfl
  rcases h with ⟨rfl, rfl⟩ | ⟨rfl, rfl⟩
  · exact op_idxAP (t := 31) (x := .tmp 11) (ix := .const (.int .i64 0)) (by kernel_rfl) ha (by decide) (by decide)
  · exact op_idxAP (t := 31) (x := .tmp 11) (ix := .const (.int .i64 1)) (by kernel_rfl) ha (by decide) (by decide)
theorem ld_7 (l : List Int) (s : Nat × Int) (x y : Tr) (r : List (Option (List D))) : OpOK PP (o7 1) [.ptr 1 0] (S7 l s x y r) (dt x) (S7 l s x y r) ∧ OpOK PP (o7 3) [.ptr 1 2] (S7 l s x y r) (dt y) (S7 l s x y r) := by
  have ht : AggTy PP 25 2 := by unfold AggTy; kernel_rfl
  exact ⟨op_loadPA (t := 25) (a := .tmp 73) (by kernel_rfl) ht (off := 0) (cs := aT x y) rfl (by simp) rfl, op_loadPA (t := 25) (a := .tmp 75) (by kernel_rfl) ht (off := 2) (cs := aT x y) rfl (by simp) rfl⟩
theorem al_7 (i : Nat) (h : i = 4 ∨ i = 5) (σ : St) : OpOK PP (o7 i) [] σ (.ptr σ.H.length 0) ⟨σ.H ++ [some zT], σ.own⟩ := by
  have hz : zeroN PP 25 = some [vi 0, .nils] := by kernel_rfl
  rcases h with rfl | rfl <;> exact op_allocN (e := 25) (by kernel_rfl) hz
theorem st_7 (i : Nat) (h : i = 6 ∨ i = 7) (σ : St) (q : Tr) (o : Nat) (cs : List D) (ho : σ.H[o]? = some (some cs)) (hc : cs.length = 2) : OpOK PP (o7 i) [.ptr o 0, dt q] σ .undef ⟨σ.H.set o (some (cTr q)), σ.own⟩ := by
  have ht : szAgg PP 25 = some (2, true) := by kernel_rfl
  have e : cs.take 0 ++ cellsD (dt q) ++ cs.drop (0 + 2) = cTr q := by
    rw [List.drop_eq_nil_of_le (by omega)]; rfl
  rcases h with rfl | rfl
  · have := op_store (P := PP) (o := o7 6) (σ := σ) (d := dt q) (t := 25) (x := .tmp 12) (y := .tmp 74) (by kernel_rfl) rfl ht rfl (off := 0) ho (by omega)
    rwa [e] at this
  · have := op_store (P := PP) (o := o7 7) (σ := σ) (d := dt q) (t := 25) (x := .tmp 13) (y := .tmp 76) (by kernel_rfl) rfl ht rfl (off := 0) ho (by omega)
    rwa [e] at this
section
variable (l z : List Int) (ps : List (Tr × Tr)) (k : Nat) (s : Nat × Int) (x y : Tr)
theorem f7 (sts : Bool → List St) (hall : ∀ (b : Bool) (c : Nat) (σ : St), (sts b)[c]? = some σ → ∃ r, σ = S7 l s x y r) (fr : Nat) (pl esc : Nat → Bool) (d12 d13 : D) (b : Bool) (j : Nat) (hj : j < 4) (hf : j ≠ fr) :
    FactX PP ops7 sts fr pl esc (it7 x y d12 d13 b) (ef7 b) (mkE 185 (e7 z ps k)) j (o7 j) := by
  match j, hj, hf with
  | 0, _, hf =>
    have e : evDs (envA ((it7 x y d12 d13 b).take 0) (mkE 185 (e7 z ps k))) (o7 0) = [.ptr 1 0, di ((0 : Nat) : Int)] := by kernel_rfl
    exact ⟨.ptr 1 0, false, by kernel_rfl, .inr (.inl ⟨by kernel_rfl, rfl, hf, fun _ _ σ _ _ => by rw [e]; exact ix_7 0 0 (.inl ⟨rfl, rfl⟩) σ⟩)⟩
  | 1, _, hf =>
    have e : evDs (envA ((it7 x y d12 d13 b).take 1) (mkE 185 (e7 z ps k))) (o7 1) = [.ptr 1 0] := by kernel_rfl
    exact ⟨dt x, false, by kernel_rfl, .inr (.inl ⟨by kernel_rfl, rfl, hf, fun _ _ σ hs _ => by
      obtain ⟨r, rfl⟩ := hall _ _ _ hs
      rw [e]; exact (ld_7 l s x y r).1⟩)⟩
  | 2, _, hf =>
    have e : evDs (envA ((it7 x y d12 d13 b).take 2) (mkE 185 (e7 z ps k))) (o7 2) = [.ptr 1 0, di ((1 : Nat) : Int)] := by kernel_rfl
    exact ⟨.ptr 1 2, false, by kernel_rfl, .inr (.inl ⟨by kernel_rfl, rfl, hf, fun _ _ σ _ _ => by rw [e]; exact ix_7 2 1 (.inr ⟨rfl, rfl⟩) σ⟩)⟩
  | 3, _, hf =>
    have e : evDs (envA ((it7 x y d12 d13 b).take 3) (mkE 185 (e7 z ps k))) (o7 3) = [.ptr 1 2] := by kernel_rfl
    exact ⟨dt y, false, by kernel_rfl, .inr (.inl ⟨by kernel_rfl, rfl, hf, fun _ _ σ hs _ => by
      obtain ⟨r, rfl⟩ := hall _ _ _ hs
      rw [e]; exact (ld_7 l s x y r).2⟩)⟩
theorem f07 (j : Nat) (o : Oper) (ho : ops7[j]? = some o) : FactX PP ops7 (fun _ => s07 l s x y) ops7.size (fun _ => false) (esc2 ops7 4 5) (it7 x y .undef .undef false) (ef7 false) (mkE 185 (e7 z ps k)) j o := by
  obtain ⟨hk, rfl⟩ := ops7_at j o ho
  by_cases h6 : j < 4
  · refine f7 l z ps k s x y (fun _ => s07 l s x y) (fun _ c σ hs => ?_) _ _ _ _ _ _ j h6 (by rw [ops7_size]; omega)
    match c, hs with
    | 0, hs => cases hs; exact ⟨_, rfl⟩
  · match j, hk, h6 with
    | 4, _, _ => exact ⟨.undef, false, by kernel_rfl, .inr (.inr (.inr (.inr (.inr ⟨by kernel_rfl, rfl⟩))))⟩
    | 5, _, _ => exact ⟨.undef, false, by kernel_rfl, .inr (.inr (.inr (.inr (.inr ⟨by kernel_rfl, rfl⟩))))⟩
    | 6, _, _ => exact ⟨.undef, false, by kernel_rfl, .inr (.inr (.inr (.inr (.inr ⟨by kernel_rfl, rfl⟩))))⟩
    | 7, _, _ => exact ⟨.undef, false, by kernel_rfl, .inr (.inr (.inr (.inr (.inr ⟨by kernel_rfl, rfl⟩))))⟩
theorem f17 (j : Nat) (o : Oper) (ho : ops7[j]? = some o) : FactX PP ops7 (s17 l s x y) 5 (fun k => k == 4) (fun _ => false) (it7 x y (.ptr 2 0) (.ptr 3 0) true) (ef7 true) (mkE 185 (e7 z ps k)) j o := by
  obtain ⟨hk, rfl⟩ := ops7_at j o ho
  by_cases h6 : j < 4
  · refine f7 l z ps k s x y (s17 l s x y) (fun b c σ hs => ?_) _ _ _ _ _ _ j h6 (by omega)
    cases b
    · match c, hs with
      | 0, hs => cases hs; exact ⟨_, rfl⟩
    · match c, hs with
      | 0, hs => cases hs; exact ⟨_, rfl⟩
      | 1, hs => cases hs; exact ⟨_, rfl⟩
      | 2, hs => cases hs; exact ⟨_, rfl⟩
  · match j, hk, h6 with
    | 4, _, _ => exact ⟨.ptr 2 0, false, by kernel_rfl, .inr (.inr (.inr (.inr (.inl ⟨rfl, rfl⟩))))⟩
    | 5, _, _ =>
      have e : evDs (envA ((it7 x y (.ptr 2 0) (.ptr 3 0) true).take 5) (mkE 185 (e7 z ps k))) (o7 5) = [] := by kernel_rfl
      refine ⟨.ptr 3 0, false, by kernel_rfl, .inr (.inr (.inr (.inl ⟨by kernel_rfl, rfl, rfl, fun c σ hs => ?_⟩)))⟩
      rw [e]
      match c, hs with
      | 0, hs => cases hs; exact ⟨_, rfl, al_7 5 (.inr rfl) (S7 l s x y [some zT])⟩
    | 6, _, _ =>
      have e : evDs (envA ((it7 x y (.ptr 2 0) (.ptr 3 0) true).take 6) (mkE 185 (e7 z ps k))) (o7 6) = [.ptr 2 0, dt x] := by kernel_rfl
      have ec : cntA ((it7 x y (.ptr 2 0) (.ptr 3 0) true).take 6) = 0 := by kernel_rfl
      have en : needs ops7 6 5 = true := by kernel_rfl
      refine ⟨.undef, true, by kernel_rfl, .inr (.inr (.inl ⟨by kernel_rfl, rfl, by decide, fun bb σ hs hb => ?_⟩))⟩
      cases bb
      · have := hb rfl; rw [en] at this; exact absurd this (by decide)
      · rw [ec] at hs
        cases hs
        rw [e, ec]
        exact ⟨_, rfl, st_7 6 (.inl rfl) (S7 l s x y [some zT, some zT]) x 2 zT rfl rfl⟩
    | 7, _, _ =>
      have e : evDs (envA ((it7 x y (.ptr 2 0) (.ptr 3 0) true).take 7) (mkE 185 (e7 z ps k))) (o7 7) = [.ptr 3 0, dt y] := by kernel_rfl
      have ec : cntA ((it7 x y (.ptr 2 0) (.ptr 3 0) true).take 7) = 1 := by kernel_rfl
      have en : needs ops7 7 5 = true := by kernel_rfl
      refine ⟨.undef, true, by kernel_rfl, .inr (.inr (.inl ⟨by kernel_rfl, rfl, by decide, fun bb σ hs hb => ?_⟩))⟩
      cases bb
      · have := hb rfl; rw [en] at this; exact absurd this (by decide)
      · rw [ec] at hs
        cases hs
        rw [e, ec]
        exact ⟨_, rfl, st_7 7 (.inr rfl) (S7 l s x y [some (cTr x), some zT]) y 3 zT rfl rfl⟩
theorem f27 (j : Nat) (o : Oper) (ho : ops7[j]? = some o) : FactX PP ops7 (s27 l s x y) 4 (fun k => k == 5) (fun _ => false) (it7 x y (.ptr 3 0) (.ptr 2 0) true) (ef7 true) (mkE 185 (e7 z ps k)) j o := by
  obtain ⟨hk, rfl⟩ := ops7_at j o ho
  by_cases h6 : j < 4
  · refine f7 l z ps k s x y (s27 l s x y) (fun b c σ hs => ?_) _ _ _ _ _ _ j h6 (by omega)
    cases b
    · match c, hs with
      | 0, hs => cases hs; exact ⟨_, rfl⟩
    · match c, hs with
      | 0, hs => cases hs; exact ⟨_, rfl⟩
      | 1, hs => cases hs; exact ⟨_, rfl⟩
      | 2, hs => cases hs; exact ⟨_, rfl⟩
  · match j, hk, h6 with
    | 5, _, _ => exact ⟨.ptr 2 0, false, by kernel_rfl, .inr (.inr (.inr (.inr (.inl ⟨rfl, rfl⟩))))⟩
    | 4, _, _ =>
      have e : evDs (envA ((it7 x y (.ptr 3 0) (.ptr 2 0) true).take 4) (mkE 185 (e7 z ps k))) (o7 4) = [] := by kernel_rfl
      refine ⟨.ptr 3 0, false, by kernel_rfl, .inr (.inr (.inr (.inl ⟨by kernel_rfl, rfl, rfl, fun c σ hs => ?_⟩)))⟩
      rw [e]
      match c, hs with
      | 0, hs => cases hs; exact ⟨_, rfl, al_7 4 (.inl rfl) (S7 l s x y [some zT])⟩
    | 6, _, _ =>
      have e : evDs (envA ((it7 x y (.ptr 3 0) (.ptr 2 0) true).take 6) (mkE 185 (e7 z ps k))) (o7 6) = [.ptr 3 0, dt x] := by kernel_rfl
      have ec : cntA ((it7 x y (.ptr 3 0) (.ptr 2 0) true).take 6) = 0 := by kernel_rfl
      have en : needs ops7 6 4 = true := by kernel_rfl
      refine ⟨.undef, true, by kernel_rfl, .inr (.inr (.inl ⟨by kernel_rfl, rfl, by decide, fun bb σ hs hb => ?_⟩))⟩
      cases bb
      · have := hb rfl; rw [en] at this; exact absurd this (by decide)
      · rw [ec] at hs
        cases hs
        rw [e, ec]
        exact ⟨_, rfl, st_7 6 (.inl rfl) (S7 l s x y [some zT, some zT]) x 3 zT rfl rfl⟩
    | 7, _, _ =>
      have e : evDs (envA ((it7 x y (.ptr 3 0) (.ptr 2 0) true).take 7) (mkE 185 (e7 z ps k))) (o7 7) = [.ptr 2 0, dt y] := by kernel_rfl
      have ec : cntA ((it7 x y (.ptr 3 0) (.ptr 2 0) true).take 7) = 1 := by kernel_rfl
      have en : needs ops7 7 4 = true := by kernel_rfl
      refine ⟨.undef, true, by kernel_rfl, .inr (.inr (.inl ⟨by kernel_rfl, rfl, by decide, fun bb σ hs hb => ?_⟩))⟩
      cases bb
      · have := hb rfl; rw [en] at this; exact absurd this (by decide)
      · rw [ec] at hs
        cases hs
        rw [e, ec]
        exact ⟨_, rfl, st_7 7 (.inr rfl) (S7 l s x y [some zT, some (cTr x)]) y 2 zT rfl rfl⟩
theorem half17 : Half PP ops7 4 5 (o7 4) (mkE 185 (e7 z ps k)) (s07 l s x y) (it7 x y .undef .undef false) (s17 l s x y) (it7 x y (.ptr 2 0) (.ptr 3 0) true) (ef7 true) (.ptr 2 0) where
  ok := dr7 x y _ _ true
  fact := f17 l z ps k s x y
  go := fun c σ hs => by
    match c, hs with
    | 0, hs => cases hs; exact ⟨_, rfl, al_7 4 (.inl rfl) (S7 l s x y [])⟩
  it := by kernel_rfl
  uniq := fun k x hx hk => by
    have e : (o7 4).dst = some 12 := by kernel_rfl
    rw [e]
    match k, hx, hk with
    | 0, hx, _ => cases hx; simp
    | 1, hx, _ => cases hx; simp
    | 2, hx, _ => cases hx; simp
    | 3, hx, _ => cases hx; simp
    | 4, _, hk => exact absurd rfl hk
    | 5, hx, _ => cases hx; simp
    | 6, hx, _ => cases hx; simp
    | 7, hx, _ => cases hx; simp
  agree := fun k he => by
    match k, he with
    | 0, _ => rfl
    | 1, _ => rfl
    | 2, _ => rfl
    | 3, _ => rfl
    | 4, he => rw [show esc2 ops7 4 5 4 = true by kernel_rfl] at he; exact absurd he (by decide)
    | 5, he => rw [show esc2 ops7 4 5 5 = true by kernel_rfl] at he; exact absurd he (by decide)
    | 6, he => rw [show esc2 ops7 4 5 6 = true by kernel_rfl] at he; exact absurd he (by decide)
    | 7, he => rw [show esc2 ops7 4 5 7 = true by kernel_rfl] at he; exact absurd he (by decide)
    | _ + 8, _ => rfl
theorem half27 : Half PP ops7 5 4 (o7 5) (mkE 185 (e7 z ps k)) (s07 l s x y) (it7 x y .undef .undef false) (s27 l s x y) (it7 x y (.ptr 3 0) (.ptr 2 0) true) (ef7 true) (.ptr 2 0) where
  ok := dr7 x y _ _ true
  fact := f27 l z ps k s x y
  go := fun c σ hs => by
    match c, hs with
    | 0, hs => cases hs; exact ⟨_, rfl, al_7 5 (.inr rfl) (S7 l s x y [])⟩
  it := by kernel_rfl
  uniq := fun k x hx hk => by
    have e : (o7 5).dst = some 13 := by kernel_rfl
    rw [e]
    match k, hx, hk with
    | 0, hx, _ => cases hx; simp
    | 1, hx, _ => cases hx; simp
    | 2, hx, _ => cases hx; simp
    | 3, hx, _ => cases hx; simp
    | 4, hx, _ => cases hx; simp
    | 5, _, hk => exact absurd rfl hk
    | 6, hx, _ => cases hx; simp
    | 7, hx, _ => cases hx; simp
  agree := fun k he => by
    match k, he with
    | 0, _ => rfl
    | 1, _ => rfl
    | 2, _ => rfl
    | 3, _ => rfl
    | 4, he => rw [show esc2 ops7 5 4 4 = true by kernel_rfl] at he; exact absurd he (by decide)
    | 5, he => rw [show esc2 ops7 5 4 5 = true by kernel_rfl] at he; exact absurd he (by decide)
    | 6, he => rw [show esc2 ops7 5 4 6 = true by kernel_rfl] at he; exact absurd he (by decide)
    | 7, he => rw [show esc2 ops7 5 4 7 = true by kernel_rfl] at he; exact absurd he (by decide)
    | _ + 8, _ => rfl
end
theorem fz_refl (L : Nat → Option (List D)) : ∀ e : List D, Fz L e e
  | [] => .nil
  | _ :: e => .keep (fz_refl L e)
theorem fz_set {L : Nat → Option (List D)} {e e' : List D} (h : Fz L e e') (t : Nat) (d : D) : Fz L (e.set t d) (e'.set t d) := by
  induction h generalizing t with
  | nil => exact .nil
  | keep hs ih =>
    cases t with
    | zero => exact .keep hs
    | succ t => exact .keep (ih t)
  | view hl hs ih =>
    cases t with
    | zero => exact .keep hs
    | succ t => exact .view hl (ih t)
theorem fz_setv {L : Nat → Option (List D)} {e e' : List D} (h : Fz L e e') {n : Nat} {d : D} {x : V} (hv : lends L n d x) (t : Nat) : Fz L (e.set t d) (e'.set t (.v x)) := by
  induction h generalizing t with
  | nil => exact .nil
  | keep hs ih =>
    cases t with
    | zero => exact .view hv hs
    | succ t => exact .keep (ih t)
  | view hl hs ih =>
    cases t with
    | zero => exact .view hv hs
    | succ t => exact .view hl (ih t)
abbrev e7b (z : List Int) (ps : List (Tr × Tr)) (k : Nat) (p q : D) : List (Nat × D) := [(3, dl z), (9, .ptr 0 0), (12, p), (13, q), (67, .v (.list (ps.map vP2))), (68, di (ps.length : Int)), (69, di (k : Int))]
theorem fz_7 {L : Nat → Option (List D)} {n m : Nat} {p q : D} {u v : V} (hp : lends L n p u) (hq : lends L m q v) (z : List Int) (ps : List (Tr × Tr)) (k : Nat) : Fz L (mkE 185 (e7b z ps k p q)) (mkE 185 (e7b z ps k (.v u) (.v v))) := by
  simp only [mkE, List.foldl]
  exact fz_set (fz_set (fz_set (fz_setv (fz_setv (fz_set (fz_set (fz_refl L _) 3 _) 9 _) hp 12) hq 13) 67 _) 68 _) 69 _
abbrev e7c (x y : Tr) : List (Nat × D) := [(11, .ptr 1 0), (73, .ptr 1 0), (74, dt x), (75, .ptr 1 2), (76, dt y)]
theorem e7_end (x y : Tr) (z : List Int) (ps : List (Tr × Tr)) (k : Nat) (p q : D) : envA (it7 x y p q true) (mkE 185 (e7 z ps k)) = mkE 185 (e7b z ps k p q ++ e7c x y) := by kernel_rfl
theorem e7_undef (x y : Tr) (z : List Int) (ps : List (Tr × Tr)) (k : Nat) (p q : D) : ∀ d ∈ e7c x y, (mkE 185 (e7b z ps k p q))[d.1]? = some .undef := by
  intro d hd
  simp only [e7c, List.mem_cons, List.not_mem_nil, or_false] at hd
  rcases hd with rfl | rfl | rfl | rfl | rfl <;> kernel_rfl
theorem seq_7 : sub cTEx [1, 1, 1, 0, 1, 0, 0, 1, 1, 0, 0, 1] = .seq (.region 7 ops7 true) (sub cTEx [1, 1, 1, 0, 1, 0, 0, 1, 1, 0, 0, 1, 1]) := by kernel_rfl
theorem part_7 {l z : List Int} {ps : List (Tr × Tr)} {k : Nat} {s : Nat × Int} {x y : Tr} {T : List KI} (next : Rn PP fTEx 0 (db true) σ0 (.code (sub cTEx [1, 1, 1, 0, 1, 0, 0, 1, 1, 0, 0, 1, 1]) :: T) (mkE 185 (eHd z ps k x y)) (sdA l s x y)) :
    Rn PP fTEx 0 (db true) σ0 (.code (sub cTEx [1, 1, 1, 0, 1, 0, 0, 1, 1, 0, 0, 1]) :: T) (mkE 185 (e7 z ps k)) (S7 l s x y []) := by
  rw [seq_7]
  refine run_seq ?_
  refine run_draw22 mixed (i := 4) (j := 5) (oi := o7 4) (oj := o7 5) (by decide) (by kernel_rfl) (by kernel_rfl) (by kernel_rfl) (by kernel_rfl) (by kernel_rfl) (by kernel_rfl) (σ1 := S7 l s x y [some (cTr x), some (cTr y)]) (σ2 := S7 l s x y [some (cTr y), some (cTr x)])
    (dr7 x y .undef .undef false) (f07 l z ps k s x y) rfl (half17 l z ps k s x y) (half27 l z ps k s x y) (by kernel_rfl) (by kernel_rfl) ?_ ?_
  · rw [e7_end]
    refine run_mkE_app (e7_undef x y z ps k _ _) ?_
    refine run_cv (cv_frz [2, 3] (fz_7 (lend_pair (x := vi x.lab) (y := vtl x.kids) rfl rfl rfl) (lend_pair (x := vi y.lab) (y := vtl y.kids) rfl rfl rfl) z ps k)) ?_
    exact next
  · rw [e7_end]
    refine run_mkE_app (e7_undef x y z ps k _ _) ?_
    refine run_cv (cv_frz [2, 3] (fz_7 (lend_pair (x := vi x.lab) (y := vtl x.kids) rfl rfl rfl) (lend_pair (x := vi y.lab) (y := vtl y.kids) rfl rfl rfl) z ps k)) ?_
    exact next
end Go.Proofs.Ytaceggcohmmfhaa
