/-
  The law on which questions fit which models: walked and proved.
-/
import Derived.Test.YtopbcpgmffppjaaGreatDoorEk
import Derived.Test.YtopbcpgmffppjaaGreatDoorEh
import Derived.Test.YtopbcpgmffppjaaGreatDoorEf
import Derived.Sort.Grow
import Derived.Lib.ItoaLen
namespace Go.Proofs.YtopbcpgmffppjaaGreatDoor
open Go.Dv Go.Nv
set_option maxRecDepth 20000
theorem Mod.ok.any {m : Mod} (h : m.ok) : ∃ t, ModI m t ∧ validB t m.start = true ∧ 1 ≤ m.places.length ∧ m.rules.length ≤ 12 := by
  obtain ⟨h1, h2, h3, h4, h5, h6, h7, h8⟩ := h.sz
  exact ⟨_, h.int, h.start, h4, h3⟩
theorem AnyM.int {m : Mod} (h : AnyM m) : ∃ t, ModI m t ∧ validB t m.start = true ∧ 1 ≤ m.places.length ∧ m.rules.length ≤ 12 := by
  cases h with
  | cM h => exact h.ok.any
  | l2 h => exact (h.ok (.inl rfl)).any
  | l3 h => exact (h.ok (.inr rfl)).any
  | tm h => exact ⟨_, h.int, h.start_ok, h.sz.2.1, by have := h.count; omega⟩
  | c h => exact h.ok.any
abbrev cMod (m : Mod) : List D := [di m.kind, .v (vSs m.states), .v (vSs m.places), .v (vSs m.letters), .v (vIs m.ranks), di m.levels, di m.age, .v (vRuls m.rules), di m.start.n, dVs m.start.kids]
end Go.Proofs.YtopbcpgmffppjaaGreatDoor

namespace Go.Proofs.YtopbcpgmffppjaaGreatDoor
open Go.Dv Go.Nv
set_option maxRecDepth 20000
/-- a dealt configuration: what its shape is, by the kind of the model -/
inductive CfgM (m : Mod) (c : Val) : Prop where
  | ctr (hk : m.kind = 1) (s : Int) (ys : List Int) (hs : 0 ≤ s ∧ s < m.states.length) (hy : ys.length = m.places.length) (h : ∀ y ∈ ys, 0 ≤ y ∧ y ≤ 3) (hc : c = cfgV s ys)
  | chan (hk : m.kind = 2 ∨ m.kind = 3) (s : Int) (ys : List Val) (hs : 0 ≤ s ∧ s < m.states.length) (hy : ys.length = m.places.length) (h : ∀ y ∈ ys, WordV m.letters.length y) (hc : c = .mk 0 (.mk s [] :: ys))
  | bag (hk : m.kind = 5) (s : Int) (ts : List Val) (hs : 0 ≤ s ∧ s < m.states.length) (h : TokL m.places.length m.age 2 ts) (hc : c = .mk 0 [.mk s [], .mk 0 ts])
theorem cfg1_ex (m : Mod) (hk : m.kind = 1) (hst : 1 ≤ m.states.length ∧ m.states.length ≤ 3) (hp : 1 ≤ m.places.length ∧ m.places.length ≤ 2) (l : List UInt8) (hl : l.length ≤ 200) (a : Nat) (ha : a ≤ l.length) :
    ∃ (c : Val) (a' : Nat), CfgM m c ∧ a' ≤ l.length ∧ FSpec PP 26 [.ptr 0 0, dMod m] (dz l a) (dV c) (dz l a') := by
  obtain ⟨s, a1, s1, s2, s3, s4⟩ := pick_ex l hl a ha m.states.length (by omega) (by omega)
  obtain ⟨ys, a2, y1, y2, y3, y4⟩ := ints_ex l hl a1 s3 m.places.length (by omega) 3 (by decide) (by decide)
  obtain ⟨c, hc⟩ : ∃ c, c = cfgV s ys := ⟨_, rfl⟩
  refine ⟨c, a2, .ctr hk s ys ⟨s1, s2⟩ y2 y3 hc, y1, ?_⟩
  refine spec_vc mixed fDCfg cDCfg (by kernel_rfl) (by kernel_rfl) (by kernel_rfl) (by kernel_rfl) 47 (by kernel_rfl) [3] (.t <| .c1 (cDz l a1) (di s) <| .c1 (cDz l a2) (dIs ys) <| .c (dV c) .r) ?_
  refine via (by kernel_rfl : ((m.kind == 1) = true ∧ FSpec PP 18 [D.ptr 0 0, di (↑(List.length (List.map V.str m.states)) : Int)] (St.mk [some (cDz l a)] []) (di s) (St.mk [some (cDz l a1)] []) ∧ FSpec PP 23 [D.ptr 0 0, di (↑(List.length (List.map V.str m.places)) : Int), di 3] (St.mk [some (cDz l a1)] []) (dIs ys) (St.mk [some (cDz l a2)] []) ∧ FSpec PP 24 [di s, D.v (vIs ys)] (St.mk [] []) (dV c) (St.mk [] []) ∧ [some (cDz l a2)] = [some (cDz l a2)] ∧ D.v (V.agg [vi (Val.n c), V.list (List.map eV (Val.kids c))]) = dV c) = _) ?_
  refine ⟨by rw [hk]; rfl, by rw [List.length_map]; exact s4, by rw [List.length_map]; exact y4, hc ▸ cfg28_spec ys (by omega) s, rfl, rfl⟩
theorem bld_one {o : Oper} (ho : o.op = .build 31 #[(0, .tmp 27)]) (s : Int) (τ : St) : OpOK PP o [di s] τ (.v (vVal (.mk s []))) τ :=
  op_build ho (z := [vi 0, .list []]) (places := [(0, 1), (1, 1)]) (by kernel_rfl) (xs := [(0, vi s)]) rfl rfl
theorem cfg2_ex (m : Mod) (hk : m.kind = 2 ∨ m.kind = 3) (hst : 1 ≤ m.states.length ∧ m.states.length ≤ 3) (hp : 1 ≤ m.places.length ∧ m.places.length ≤ 2) (hle : 1 ≤ m.letters.length ∧ m.letters.length ≤ 2) (l : List UInt8) (hl : l.length ≤ 200) (a : Nat) (ha : a ≤ l.length) :
    ∃ (c : Val) (a' : Nat), CfgM m c ∧ a' ≤ l.length ∧ FSpec PP 26 [.ptr 0 0, dMod m] (dz l a) (dV c) (dz l a') := by
  obtain ⟨s, a1, s1, s2, s3, s4⟩ := pick_ex l hl a ha m.states.length (by omega) (by omega)
  obtain ⟨ys, a2, y1, y2, y3, y4⟩ := wds_ex l hl a1 s3 m.places.length (by omega) m.letters.length (by omega) (by omega)
  obtain ⟨c, hc⟩ : ∃ c : Val, c = .mk 0 (.mk s [] :: ys) := ⟨_, rfl⟩
  refine ⟨c, a2, .chan hk s ys ⟨s1, s2⟩ y2 y3 hc, y1, ?_⟩
  have hpk : FSpec PP 18 [D.ptr 0 0, di (↑(List.length (List.map V.str m.states)) : Int)] (St.mk [some (cDz l a)] []) (di s) (St.mk [some (cDz l a1)] []) := by rw [List.length_map]; exact s4
  have hwd : FSpec PP 29 [D.ptr 0 0, di (↑(List.length (List.map V.str m.places)) : Int), di (↑(List.length (List.map V.str m.letters)) : Int), di 2] (St.mk [some (cDz l a1)] []) (dVs ys) (St.mk [some (cDz l a2)] []) := by rw [List.length_map, List.length_map]; exact y4
  have hsl : ∀ (o : Oper) (H : List (Option (List D))), o.op = .buildSlice 29 1 #[(0, .tmp 28)] → OpOK PP o [.v (vVal (.mk s []))] ⟨H, []⟩ (.acc 1 [vVal (.mk s [])]) ⟨H, [(1, 2, [vVal (.mk s [])])]⟩ := fun o H ho => op_buildSliceA (σ := ⟨H, []⟩) ho (by rfl) rfl slV rfl (ds := [.v (vVal (.mk s []))]) (xs := [vVal (.mk s [])]) rfl (fun z hz => by rw [List.mem_singleton.1 hz]; rfl) (by decide) (by decide) (by decide) 1 (by simp)
  rcases hk with hk | hk
  · refine spec_vc mixed fDCfg cDCfg (by kernel_rfl) (by kernel_rfl) (by kernel_rfl) (by kernel_rfl) 47 (by kernel_rfl) [3] (.f <| .t <| .k <| .h (.dr 6) <| .h (.cs ⟨[], [(1, 2, [vVal (.mk s [])])]⟩) <| .c1 (cDz l a1) (di s) <| .h (.p (.v (vVal (.mk s [])))) <| .h (.o (.acc 1 [vVal (.mk s [])]) σ0) <| .c1 (cDz l a2) (dVs ys) <| .w .r) ?_
    refine via (by kernel_rfl : ((m.kind == 1) = false ∧ (m.kind == 2) = true ∧ FSpec PP 18 [D.ptr 0 0, di (↑(List.length (List.map V.str m.states)) : Int)] (St.mk [some (cDz l a)] []) (di s) (St.mk [some (cDz l a1)] []) ∧ FSpec PP 18 [D.ptr 0 0, di (↑(List.length (List.map V.str m.states)) : Int)] (St.mk [some (cDz l a)] []) (di s) (St.mk [some (cDz l a1)] []) ∧ di s = di s ∧ (∀ (τ : St), OpOK PP (Oper.mk (some 28) (Op.build 31 #[(0, Operand.tmp 27)]) 31 "play.go:165" #[Edge.mk 4 Ground.data] none) [di s] τ (D.v (vVal (Val.mk s []))) τ) ∧ [St.mk [some (cDz l a), some [di 0, D.v V.nils]] [(1, 2, vVal (Val.mk s []) :: nV)], St.mk [some (cDz l a1), some [di 0, D.v V.nils]] [(1, 2, vVal (Val.mk s []) :: nV)]] = [St.mk [some (cDz l a), some [di 0, D.v V.nils]] [(1, 2, vVal (Val.mk s []) :: nV)], St.mk [some (cDz l a1), some [di 0, D.v V.nils]] [(1, 2, vVal (Val.mk s []) :: nV)]] ∧ (OpOK PP (Oper.mk (some 29) (Op.buildSlice 29 1 #[(0, Operand.tmp 28)]) 29 "play.go:165" #[Edge.mk 5 Ground.data] none) [D.v (vVal (Val.mk s []))] (St.mk [some (cDz l a), some [di 0, D.v V.nils]] []) (D.acc 1 [vVal (Val.mk s [])]) (St.mk [some (cDz l a), some [di 0, D.v V.nils]] [(1, 2, [vVal (Val.mk s [])])]) ∧ OpOK PP (Oper.mk (some 29) (Op.buildSlice 29 1 #[(0, Operand.tmp 28)]) 29 "play.go:165" #[Edge.mk 5 Ground.data] none) [D.v (vVal (Val.mk s []))] (St.mk [some (cDz l a1), some [di 0, D.v V.nils]] []) (D.acc 1 [vVal (Val.mk s [])]) (St.mk [some (cDz l a1), some [di 0, D.v V.nils]] [(1, 2, [vVal (Val.mk s [])])]) ∧ True) ∧ FSpec PP 29 [D.ptr 0 0, di (↑(List.length (List.map V.str m.places)) : Int), di (↑(List.length (List.map V.str m.letters)) : Int), di 2] (St.mk [some (cDz l a1)] []) (dVs ys) (St.mk [some (cDz l a2)] []) ∧ FSpec PP 29 [D.ptr 0 0, di (↑(List.length (List.map V.str m.places)) : Int), di (↑(List.length (List.map V.str m.letters)) : Int), di 2] (St.mk [some (cDz l a1)] []) (dVs ys) (St.mk [some (cDz l a2)] []) ∧ dVs ys = dVs ys ∧ (St.mk [some (cDz l a2), some [di 0, D.v V.nils]] [(1, 2, [vVal (Val.mk s [])])] = St.mk [some (cDz l a2), some [di 0, D.v V.nils]] [(1, 2, [vVal (Val.mk s [])])] ∧ OpOK PP (Oper.mk (some 29) (Op.buildSlice 29 1 #[(0, Operand.tmp 28)]) 29 "play.go:165" #[Edge.mk 5 Ground.data] none) [D.v (vVal (Val.mk s []))] (St.mk [some (cDz l a2), some [di 0, D.v V.nils]] []) (D.acc 1 [vVal (Val.mk s [])]) (St.mk [some (cDz l a2), some [di 0, D.v V.nils]] [(1, 2, [vVal (Val.mk s [])])])) ∧ vVal (Val.mk s []) :: nV = vVal (Val.mk s []) :: nV ∧ LenOK (List.length (vVal (Val.mk s []) :: nV) + List.length (List.map eV ys)) 32 ∧ (∀ (y : V), y ∈ List.map eV ys → V.size y = 2) ∧ True ∧ [some (cDz l a2)] = [some (cDz l a2)] ∧ D.v (V.agg [vi 0, V.list (vVal (Val.mk s []) :: [] ++ (List.map eV ys))]) = dV c) = _) ?_
    refine ⟨by rw [hk]; rfl, by rw [hk]; rfl, hpk, hpk, rfl, fun τ => bld_one rfl s τ, rfl, ⟨hsl _ _ rfl, hsl _ _ rfl, trivial⟩, hwd, hwd, rfl, ⟨rfl, hsl _ _ rfl⟩, rfl, ?_, fun y hy => ?_, trivial, rfl, ?_⟩
    · simp only [List.length_cons, List.length_nil, List.length_map, y2]; exact ⟨by omega, by omega⟩
    · obtain ⟨z, _, rfl⟩ := List.mem_map.1 hy
      cases z; rfl
    · subst hc
      rw [← enc_eq]; rfl
  · refine spec_vc mixed fDCfg cDCfg (by kernel_rfl) (by kernel_rfl) (by kernel_rfl) (by kernel_rfl) 47 (by kernel_rfl) [3] (.f <| .f <| .t <| .h (.dr 6) <| .h (.cs ⟨[], [(1, 2, [vVal (.mk s [])])]⟩) <| .c1 (cDz l a1) (di s) <| .h (.p (.v (vVal (.mk s [])))) <| .h (.o (.acc 1 [vVal (.mk s [])]) σ0) <| .c1 (cDz l a2) (dVs ys) <| .w .r) ?_
    refine via (by kernel_rfl : ((m.kind == 1) = false ∧ (m.kind == 2) = false ∧ (m.kind == 3) = true ∧ FSpec PP 18 [D.ptr 0 0, di (↑(List.length (List.map V.str m.states)) : Int)] (St.mk [some (cDz l a)] []) (di s) (St.mk [some (cDz l a1)] []) ∧ FSpec PP 18 [D.ptr 0 0, di (↑(List.length (List.map V.str m.states)) : Int)] (St.mk [some (cDz l a)] []) (di s) (St.mk [some (cDz l a1)] []) ∧ di s = di s ∧ (∀ (τ : St), OpOK PP (Oper.mk (some 28) (Op.build 31 #[(0, Operand.tmp 27)]) 31 "play.go:165" #[Edge.mk 4 Ground.data] none) [di s] τ (D.v (vVal (Val.mk s []))) τ) ∧ [St.mk [some (cDz l a), some [di 0, D.v V.nils]] [(1, 2, vVal (Val.mk s []) :: nV)], St.mk [some (cDz l a1), some [di 0, D.v V.nils]] [(1, 2, vVal (Val.mk s []) :: nV)]] = [St.mk [some (cDz l a), some [di 0, D.v V.nils]] [(1, 2, vVal (Val.mk s []) :: nV)], St.mk [some (cDz l a1), some [di 0, D.v V.nils]] [(1, 2, vVal (Val.mk s []) :: nV)]] ∧ (OpOK PP (Oper.mk (some 29) (Op.buildSlice 29 1 #[(0, Operand.tmp 28)]) 29 "play.go:165" #[Edge.mk 5 Ground.data] none) [D.v (vVal (Val.mk s []))] (St.mk [some (cDz l a), some [di 0, D.v V.nils]] []) (D.acc 1 [vVal (Val.mk s [])]) (St.mk [some (cDz l a), some [di 0, D.v V.nils]] [(1, 2, [vVal (Val.mk s [])])]) ∧ OpOK PP (Oper.mk (some 29) (Op.buildSlice 29 1 #[(0, Operand.tmp 28)]) 29 "play.go:165" #[Edge.mk 5 Ground.data] none) [D.v (vVal (Val.mk s []))] (St.mk [some (cDz l a1), some [di 0, D.v V.nils]] []) (D.acc 1 [vVal (Val.mk s [])]) (St.mk [some (cDz l a1), some [di 0, D.v V.nils]] [(1, 2, [vVal (Val.mk s [])])]) ∧ True) ∧ FSpec PP 29 [D.ptr 0 0, di (↑(List.length (List.map V.str m.places)) : Int), di (↑(List.length (List.map V.str m.letters)) : Int), di 2] (St.mk [some (cDz l a1)] []) (dVs ys) (St.mk [some (cDz l a2)] []) ∧ FSpec PP 29 [D.ptr 0 0, di (↑(List.length (List.map V.str m.places)) : Int), di (↑(List.length (List.map V.str m.letters)) : Int), di 2] (St.mk [some (cDz l a1)] []) (dVs ys) (St.mk [some (cDz l a2)] []) ∧ dVs ys = dVs ys ∧ (St.mk [some (cDz l a2), some [di 0, D.v V.nils]] [(1, 2, [vVal (Val.mk s [])])] = St.mk [some (cDz l a2), some [di 0, D.v V.nils]] [(1, 2, [vVal (Val.mk s [])])] ∧ OpOK PP (Oper.mk (some 29) (Op.buildSlice 29 1 #[(0, Operand.tmp 28)]) 29 "play.go:165" #[Edge.mk 5 Ground.data] none) [D.v (vVal (Val.mk s []))] (St.mk [some (cDz l a2), some [di 0, D.v V.nils]] []) (D.acc 1 [vVal (Val.mk s [])]) (St.mk [some (cDz l a2), some [di 0, D.v V.nils]] [(1, 2, [vVal (Val.mk s [])])])) ∧ vVal (Val.mk s []) :: nV = vVal (Val.mk s []) :: nV ∧ LenOK (List.length (vVal (Val.mk s []) :: nV) + List.length (List.map eV ys)) 32 ∧ (∀ (y : V), y ∈ List.map eV ys → V.size y = 2) ∧ True ∧ [some (cDz l a2)] = [some (cDz l a2)] ∧ D.v (V.agg [vi 0, V.list (vVal (Val.mk s []) :: [] ++ (List.map eV ys))]) = dV c) = _) ?_
    refine ⟨by rw [hk]; rfl, by rw [hk]; rfl, by rw [hk]; rfl, hpk, hpk, rfl, fun τ => bld_one rfl s τ, rfl, ⟨hsl _ _ rfl, hsl _ _ rfl, trivial⟩, hwd, hwd, rfl, ⟨rfl, hsl _ _ rfl⟩, rfl, ?_, fun y hy => ?_, trivial, rfl, ?_⟩
    · simp only [List.length_cons, List.length_nil, List.length_map, y2]; exact ⟨by omega, by omega⟩
    · obtain ⟨z, _, rfl⟩ := List.mem_map.1 hy
      cases z; rfl
    · subst hc
      rw [← enc_eq]; rfl
theorem cfg5_ex (m : Mod) (hk : m.kind = 5) (hst : 1 ≤ m.states.length ∧ m.states.length ≤ 3) (hp : 1 ≤ m.places.length ∧ m.places.length ≤ 2) (hag : 0 ≤ m.age ∧ m.age ≤ 3) (l : List UInt8) (hl : l.length ≤ 200) (a : Nat) (ha : a ≤ l.length) :
    ∃ (c : Val) (a' : Nat), CfgM m c ∧ a' ≤ l.length ∧ FSpec PP 26 [.ptr 0 0, dMod m] (dz l a) (dV c) (dz l a') := by
  obtain ⟨s, ts, a1, h1, h2, h3, h4⟩ := bag_ex l hl m hst hp hag a ha
  obtain ⟨c, hc⟩ : ∃ c : Val, c = .mk 0 [.mk s [], .mk 0 ts] := ⟨_, rfl⟩
  rw [← hc] at h4
  refine ⟨c, a1, .bag hk s ts h1 h2 hc, h3, ?_⟩
  refine spec_vc mixed fDCfg cDCfg (by kernel_rfl) (by kernel_rfl) (by kernel_rfl) (by kernel_rfl) 47 (by kernel_rfl) [3] (.f <| .f <| .f <| .t <| .c1 (cDz l a1) (dV c) .r) ?_
  refine via (by kernel_rfl : ((m.kind == 1) = false ∧ (m.kind == 2) = false ∧ (m.kind == 3) = false ∧ (m.kind == 5) = true ∧ FSpec PP 30 [D.ptr 0 0, D.v (vMod m), di 2] (St.mk [some (cDz l a)] []) (dV c) (St.mk [some (cDz l a1)] []) ∧ [some (cDz l a1)] = [some (cDz l a1)] ∧ D.v (V.agg [vi (Val.n c), V.list (List.map eV (Val.kids c))]) = dV c) = _) ?_
  exact ⟨by rw [hk]; rfl, by rw [hk]; rfl, by rw [hk]; rfl, by rw [hk]; rfl, h4, rfl, rfl⟩
theorem AnyM.cfg_ex {m : Mod} (h : AnyM m) (l : List UInt8) (hl : l.length ≤ 200) (a : Nat) (ha : a ≤ l.length) :
    ∃ (c : Val) (a' : Nat), CfgM m c ∧ a' ≤ l.length ∧ FSpec PP 26 [.ptr 0 0, dMod m] (dz l a) (dV c) (dz l a') := by
  have hP : m.places = [[120]] ∨ m.places = [[120], [121]] := by
    cases h with
    | cM h => exact h.places
    | l2 h => exact h.places
    | l3 h => exact h.places
    | tm h => exact h.places
    | c h => exact h.places
  have hpl : 1 ≤ m.places.length ∧ m.places.length ≤ 2 := by rcases hP with e | e <;> rw [e] <;> decide
  have two : ∀ S : List (List UInt8), (S = [[97]] ∨ S = [[97], [98]]) → 1 ≤ S.length ∧ S.length ≤ 3 := fun S e => by rcases e with e | e <;> rw [e] <;> decide
  cases h with
  | cM h => exact cfg1_ex m h.kind (two _ h.states) hpl l hl a ha
  | c h => exact cfg1_ex m h.kind (two _ h.states) hpl l hl a ha
  | tm h => exact cfg5_ex m h.kind (two _ h.states) hpl (by have := h.age; omega) l hl a ha
  | l2 h => exact cfg2_ex m (.inl h.kind) (by obtain ⟨n, h1, h2, e⟩ := h.states; rw [e, List.length_take]; simp only [List.length_cons, List.length_nil]; omega) hpl (by rcases h.letters with e | e <;> rw [e] <;> decide) l hl a ha
  | l3 h => exact cfg2_ex m (.inr h.kind) (by obtain ⟨n, h1, h2, e⟩ := h.states; rw [e, List.length_take]; simp only [List.length_cons, List.length_nil]; omega) hpl (by rcases h.letters with e | e <;> rw [e] <;> decide) l hl a ha
end Go.Proofs.YtopbcpgmffppjaaGreatDoor

namespace Go.Proofs.YtopbcpgmffppjaaGreatDoor
open Go.Dv Go.Nv
set_option maxRecDepth 20000
/-- small values -/
structure SmV (v : Val) : Prop where
  small : smB v = true
  size : v.size ≤ 128
theorem smB_vals : ∀ ys : List Int, (∀ y ∈ ys, 0 ≤ y ∧ y < 100) → smsB (ys.map fun x => Val.mk x []) = true
  | [], _ => rfl
  | y :: ys, h => by
    have := h y (by simp)
    simp only [List.map_cons, smsB, smB, Bool.and_eq_true, decide_eq_true_eq]
    exact ⟨⟨this.1, this.2, trivial⟩, smB_vals ys fun z hz => h z (by simp [hz])⟩
theorem smsB_of : ∀ {l : List Val}, (∀ v ∈ l, smB v = true) → smsB l = true
  | [], _ => rfl
  | v :: l, h => by simp only [smsB, Bool.and_eq_true]; exact ⟨h v (by simp), smsB_of fun w hw => h w (by simp [hw])⟩
theorem CfgM.sm {m : Mod} {c : Val} (h : CfgM m c) (hst : m.states.length ≤ 3) (hp : m.places.length ≤ 2) (hl : m.letters.length ≤ 2) (hag : m.age ≤ 3) : SmV c := by
  cases h with
  | ctr hk s ys hs hy h hc =>
    subst hc
    refine ⟨?_, by rw [cfgV_size]; omega⟩
    simp only [cfgV, smB, smsB, Bool.and_eq_true, decide_eq_true_eq]
    exact ⟨by decide, by decide, ⟨hs.1, by omega, trivial⟩, smB_vals ys fun y hy => by have := h y hy; omega⟩
  | chan hk s ys hs hy h hc =>
    subst hc
    have hz := words_sz _ ys h
    refine ⟨?_, by simp only [Val.size, Val.sizes]; omega⟩
    simp only [smB, smsB, Bool.and_eq_true, decide_eq_true_eq]
    refine ⟨by decide, by decide, ⟨hs.1, by omega, trivial⟩, smsB_of fun v hv => ?_⟩
    obtain ⟨ks, h1, h2, rfl⟩ := h v hv
    simp only [smB, Bool.and_eq_true, decide_eq_true_eq]
    exact ⟨by decide, by decide, smB_vals ks fun y hy => by have := h2 y hy; omega⟩
  | bag hk s ts hs h hc =>
    subst hc
    have hz := toks_sz ts h.tok
    have hn := h.len
    refine ⟨?_, by simp only [Val.size, Val.sizes]; omega⟩
    simp only [smB, smsB, Bool.and_eq_true, decide_eq_true_eq]
    refine ⟨by decide, by decide, ⟨hs.1, by omega, trivial⟩, ⟨by decide, by decide, smsB_of fun v hv => ?_⟩, trivial⟩
    obtain ⟨p, g, h1, h2, rfl⟩ := h.tok v hv
    simp only [smB, smsB, Bool.and_eq_true, decide_eq_true_eq]
    exact ⟨by decide, by decide, ⟨h1.1, by omega, trivial⟩, ⟨h2.1, by omega, trivial⟩, trivial⟩
theorem AnyM.small {m : Mod} (h : AnyM m) : (1 ≤ m.states.length ∧ m.states.length ≤ 3) ∧ (m.places = [[120]] ∨ m.places = [[120], [121]]) ∧ m.letters.length ≤ 2 ∧ m.age ≤ 3 := by
  have two : ∀ S : List (List UInt8), (S = [[97]] ∨ S = [[97], [98]]) → 1 ≤ S.length ∧ S.length ≤ 3 := fun S e => by rcases e with e | e <;> rw [e] <;> decide
  cases h with
  | cM h => exact ⟨two _ h.states, h.places, by rw [h.letters]; decide, by rw [h.age]; decide⟩
  | c h => exact ⟨two _ h.states, h.places, by rw [h.letters]; decide, by rw [h.age]; decide⟩
  | tm h => exact ⟨two _ h.states, h.places, by rw [h.letters]; decide, by have := h.age; omega⟩
  | l2 h => exact ⟨by obtain ⟨n, h1, h2, e⟩ := h.states; rw [e, List.length_take]; simp only [List.length_cons, List.length_nil]; omega, h.places, by rcases h.letters with e | e <;> rw [e] <;> decide, by rw [h.age]; decide⟩
  | l3 h => exact ⟨by obtain ⟨n, h1, h2, e⟩ := h.states; rw [e, List.length_take]; simp only [List.length_cons, List.length_nil]; omega, h.places, by rcases h.letters with e | e <;> rw [e] <;> decide, by rw [h.age]; decide⟩
noncomputable abbrev fAsk : Func := Tryz.f14
noncomputable def cAsk : Code := fAsk.body.getD .skip
abbrev cQs (q : Qst) : List D := [di q.kind, di q.place, di q.target.n, dVs q.target.kids]
theorem ask_ex (m : Mod) (hm : AnyM m) (l : List UInt8) (hl : l.length ≤ 200) (a : Nat) (ha : a ≤ l.length) :
    ∃ (q : Qst) (a' : Nat), SmV q.target ∧ a' ≤ l.length ∧ FSpec PP 14 [.ptr 0 0, dMod m] (dz l a) (dQ q) (dz l a') := by
  obtain ⟨hst, hP, hle, hag⟩ := hm.small
  have hpl : 1 ≤ m.places.length ∧ m.places.length ≤ 2 := by rcases hP with e | e <;> rw [e] <;> decide
  have sz0 : SmV (.mk 0 []) := ⟨rfl, by decide⟩
  have sv : ∀ x : Int, 0 ≤ x → x < 2 → SmV (.mk x []) := fun x h0 h1 => ⟨by simp only [smB, smsB, Bool.and_eq_true, decide_eq_true_eq]; exact ⟨h0, by omega, trivial⟩, by show 1 ≤ 128; decide⟩
  obtain ⟨r, a1, r1, r2, r3, r4⟩ := pick_ex l hl a ha 6 (by decide) (by decide)
  have wr : IntKind.wrap IntKind.i64 (1 + r) = 1 + r := wrap_id (by omega) (by omega)
  rcases (show r ≤ 1 ∨ r = 3 ∨ (r = 2 ∨ 4 ≤ r) by omega) with hr | rfl | hr
  · obtain ⟨c, a2, hc, h2, hcf⟩ := hm.cfg_ex l hl a1 r3
    obtain ⟨x, b1, x1, x2, x3, x4⟩ := pick_ex l hl a2 h2 9 (by decide) (by decide)
    rcases (show x = 0 ∨ x = 1 ∨ x = 2 ∨ 3 ≤ x by omega) with rfl | rfl | rfl | hx
    · obtain ⟨y, b2, y1, y2, y3, y4⟩ := pick_ex l hl b1 x3 4 (by decide) (by decide)
      have wy : IntKind.wrap IntKind.i64 (y - 1) = y - 1 := wrap_id (by omega) (by omega)
      refine ⟨⟨1 + r, y - 1, c⟩, b2, hc.sm (by omega) hpl.2 hle hag, y3, ?_⟩
      refine spec_vc mixed fAsk cAsk (by kernel_rfl) (by kernel_rfl) (by kernel_rfl) (by kernel_rfl) 46 (by kernel_rfl) [3] (.c1 (cDz l a1) (di r) <| .t <| .c1 (cDz l a2) (dV c) <| .f <| .c1 (cDz l b1) (di 0) <| .c1 (cDz l b2) (di y) <| .r) ?_
      refine via (by kernel_rfl : (FSpec PP 18 [D.ptr 0 0, di 6] (St.mk [some (cDz l a)] []) (di r) (St.mk [some (cDz l a1)] []) ∧ decide (IntKind.wrap IntKind.i64 (1 + r) ≤ 2) = true ∧ FSpec PP 26 [D.ptr 0 0, D.v (vMod m)] (St.mk [some (cDz l a1)] []) (dV c) (St.mk [some (cDz l a2)] []) ∧ (IntKind.wrap IntKind.i64 (1 + r) == 4) = false ∧ FSpec PP 18 [D.ptr 0 0, di 9] (St.mk [some (cDz l a2)] []) (di 0) (St.mk [some (cDz l b1)] []) ∧ FSpec PP 18 [D.ptr 0 0, di 4] (St.mk [some (cDz l b1)] []) (di y) (St.mk [some (cDz l b2)] []) ∧ [some (cDz l b2)] = [some (cDz l b2)] ∧ D.v (V.agg [vi (IntKind.wrap IntKind.i64 (1 + r)), vi (IntKind.wrap IntKind.i64 (y - 1)), vi (Val.n c), V.list (List.map eV (Val.kids c))]) = dQ (Qst.mk (1 + r) (y - 1) c)) = _) ?_
      rw [wr, wy]
      repeat' first | with_reducible refine And.intro ?_ ?_
      all_goals first | exact r4 | exact x4 | exact y4 | exact hcf |  exact decide_eq_true (by omega) | exact decide_eq_false (by omega) | exact beq_eq_false_iff_ne.2 (by omega) | rfl | trivial
    · obtain ⟨y, b2, y1, y2, y3, y4⟩ := pick_ex l hl b1 x3 2 (by decide) (by decide)
      refine ⟨⟨1 + r, 0, .mk y []⟩, b2, sv y y1 y2, y3, ?_⟩
      refine spec_vc mixed fAsk cAsk (by kernel_rfl) (by kernel_rfl) (by kernel_rfl) (by kernel_rfl) 46 (by kernel_rfl) [3] (.c1 (cDz l a1) (di r) <| .t <| .c1 (cDz l a2) (dV c) <| .f <| .c1 (cDz l b1) (di 1) <| .c1 (cDz l b2) (di y) <| .r) ?_
      refine via (by kernel_rfl : (FSpec PP 18 [D.ptr 0 0, di 6] (St.mk [some (cDz l a)] []) (di r) (St.mk [some (cDz l a1)] []) ∧ decide (IntKind.wrap IntKind.i64 (1 + r) ≤ 2) = true ∧ FSpec PP 26 [D.ptr 0 0, D.v (vMod m)] (St.mk [some (cDz l a1)] []) (dV c) (St.mk [some (cDz l a2)] []) ∧ (IntKind.wrap IntKind.i64 (1 + r) == 4) = false ∧ FSpec PP 18 [D.ptr 0 0, di 9] (St.mk [some (cDz l a2)] []) (di 1) (St.mk [some (cDz l b1)] []) ∧ FSpec PP 18 [D.ptr 0 0, di 2] (St.mk [some (cDz l b1)] []) (di y) (St.mk [some (cDz l b2)] []) ∧ [some (cDz l b2)] = [some (cDz l b2)] ∧ D.v (V.agg [vi (IntKind.wrap IntKind.i64 (1 + r)), vi 0, vi y, V.list []]) = dQ (Qst.mk (1 + r) 0 (Val.mk y []))) = _) ?_
      rw [wr]
      repeat' first | with_reducible refine And.intro ?_ ?_
      all_goals first | exact r4 | exact x4 | exact y4 | exact hcf |  exact decide_eq_true (by omega) | exact decide_eq_false (by omega) | exact beq_eq_false_iff_ne.2 (by omega) | rfl | trivial
    · obtain ⟨y, b2, y1, y2, y3, y4⟩ := pick_ex l hl b1 x3 9 (by decide) (by decide)
      refine ⟨⟨y, 0, c⟩, b2, hc.sm (by omega) hpl.2 hle hag, y3, ?_⟩
      refine spec_vc mixed fAsk cAsk (by kernel_rfl) (by kernel_rfl) (by kernel_rfl) (by kernel_rfl) 46 (by kernel_rfl) [3] (.c1 (cDz l a1) (di r) <| .t <| .c1 (cDz l a2) (dV c) <| .f <| .c1 (cDz l b1) (di 2) <| .c1 (cDz l b2) (di y) <| .r) ?_
      refine via (by kernel_rfl : (FSpec PP 18 [D.ptr 0 0, di 6] (St.mk [some (cDz l a)] []) (di r) (St.mk [some (cDz l a1)] []) ∧ decide (IntKind.wrap IntKind.i64 (1 + r) ≤ 2) = true ∧ FSpec PP 26 [D.ptr 0 0, D.v (vMod m)] (St.mk [some (cDz l a1)] []) (dV c) (St.mk [some (cDz l a2)] []) ∧ (IntKind.wrap IntKind.i64 (1 + r) == 4) = false ∧ FSpec PP 18 [D.ptr 0 0, di 9] (St.mk [some (cDz l a2)] []) (di 2) (St.mk [some (cDz l b1)] []) ∧ FSpec PP 18 [D.ptr 0 0, di 9] (St.mk [some (cDz l b1)] []) (di y) (St.mk [some (cDz l b2)] []) ∧ [some (cDz l b2)] = [some (cDz l b2)] ∧ D.v (V.agg [vi y, vi 0, vi (Val.n c), V.list (List.map eV (Val.kids c))]) = dQ (Qst.mk y 0 c)) = _) ?_
      rw [wr]
      repeat' first | with_reducible refine And.intro ?_ ?_
      all_goals first | exact r4 | exact x4 | exact y4 | exact hcf |  exact decide_eq_true (by omega) | exact decide_eq_false (by omega) | exact beq_eq_false_iff_ne.2 (by omega) | rfl | trivial
    · refine ⟨⟨1 + r, 0, c⟩, b1, hc.sm (by omega) hpl.2 hle hag, x3, ?_⟩
      refine spec_vc mixed fAsk cAsk (by kernel_rfl) (by kernel_rfl) (by kernel_rfl) (by kernel_rfl) 46 (by kernel_rfl) [3] (.c1 (cDz l a1) (di r) <| .t <| .c1 (cDz l a2) (dV c) <| .f <| .c1 (cDz l b1) (di x) <| .f <| .f <| .f <| .r) ?_
      refine via (by kernel_rfl : (FSpec PP 18 [D.ptr 0 0, di 6] (St.mk [some (cDz l a)] []) (di r) (St.mk [some (cDz l a1)] []) ∧ decide (IntKind.wrap IntKind.i64 (1 + r) ≤ 2) = true ∧ FSpec PP 26 [D.ptr 0 0, D.v (vMod m)] (St.mk [some (cDz l a1)] []) (dV c) (St.mk [some (cDz l a2)] []) ∧ (IntKind.wrap IntKind.i64 (1 + r) == 4) = false ∧ FSpec PP 18 [D.ptr 0 0, di 9] (St.mk [some (cDz l a2)] []) (di x) (St.mk [some (cDz l b1)] []) ∧ (x == 0) = false ∧ (x == 1) = false ∧ (x == 2) = false ∧ [some (cDz l b1)] = [some (cDz l b1)] ∧ D.v (V.agg [vi (IntKind.wrap IntKind.i64 (1 + r)), vi 0, vi (Val.n c), V.list (List.map eV (Val.kids c))]) = dQ (Qst.mk (1 + r) 0 c)) = _) ?_
      rw [wr]
      repeat' first | with_reducible refine And.intro ?_ ?_
      all_goals first | exact r4 | exact x4 | exact y4 | exact hcf |  exact decide_eq_true (by omega) | exact decide_eq_false (by omega) | exact beq_eq_false_iff_ne.2 (by omega) | rfl | trivial
  · obtain ⟨p, a2, p1, p2, p3, p4⟩ := pick_ex l hl a1 r3 m.places.length (by omega) (by omega)
    have p4 : FSpec PP 18 [.ptr 0 0, di ((m.places.map V.str).length : Int)] (dz l a1) (di p) (dz l a2) := by rw [List.length_map]; exact p4
    obtain ⟨x, b1, x1, x2, x3, x4⟩ := pick_ex l hl a2 p3 9 (by decide) (by decide)
    rcases (show x = 0 ∨ x = 1 ∨ x = 2 ∨ 3 ≤ x by omega) with rfl | rfl | rfl | hx
    · obtain ⟨y, b2, y1, y2, y3, y4⟩ := pick_ex l hl b1 x3 4 (by decide) (by decide)
      have wy : IntKind.wrap IntKind.i64 (y - 1) = y - 1 := wrap_id (by omega) (by omega)
      refine ⟨⟨4, y - 1, .mk 0 []⟩, b2, sz0, y3, ?_⟩
      refine spec_vc mixed fAsk cAsk (by kernel_rfl) (by kernel_rfl) (by kernel_rfl) (by kernel_rfl) 46 (by kernel_rfl) [3] (.c1 (cDz l a1) (di 3) <| .k <| .k <| .c1 (cDz l a2) (di p) <| .c1 (cDz l b1) (di 0) <| .c1 (cDz l b2) (di y) <| .r) ?_
      refine via (by kernel_rfl : (FSpec PP 18 [D.ptr 0 0, di 6] (St.mk [some (cDz l a)] []) (di 3) (St.mk [some (cDz l a1)] []) ∧ FSpec PP 18 [D.ptr 0 0, di (↑(List.length (List.map V.str m.places)) : Int)] (St.mk [some (cDz l a1)] []) (di p) (St.mk [some (cDz l a2)] []) ∧ FSpec PP 18 [D.ptr 0 0, di 9] (St.mk [some (cDz l a2)] []) (di 0) (St.mk [some (cDz l b1)] []) ∧ FSpec PP 18 [D.ptr 0 0, di 4] (St.mk [some (cDz l b1)] []) (di y) (St.mk [some (cDz l b2)] []) ∧ [some (cDz l b2)] = [some (cDz l b2)] ∧ D.v (V.agg [vi (IntKind.wrap IntKind.i64 (1 + 3)), vi (IntKind.wrap IntKind.i64 (y - 1)), vi 0, V.list []]) = dQ (Qst.mk 4 (y - 1) (Val.mk 0 []))) = _) ?_
      rw [wy]
      repeat' first | with_reducible refine And.intro ?_ ?_
      all_goals first | exact r4 | exact x4 | exact y4 | exact p4 |  exact decide_eq_true (by omega) | exact decide_eq_false (by omega) | exact beq_eq_false_iff_ne.2 (by omega) | rfl | trivial
    · obtain ⟨y, b2, y1, y2, y3, y4⟩ := pick_ex l hl b1 x3 2 (by decide) (by decide)
      refine ⟨⟨4, p, .mk y []⟩, b2, sv y y1 y2, y3, ?_⟩
      refine spec_vc mixed fAsk cAsk (by kernel_rfl) (by kernel_rfl) (by kernel_rfl) (by kernel_rfl) 46 (by kernel_rfl) [3] (.c1 (cDz l a1) (di 3) <| .k <| .k <| .c1 (cDz l a2) (di p) <| .c1 (cDz l b1) (di 1) <| .c1 (cDz l b2) (di y) <| .r) ?_
      refine via (by kernel_rfl : (FSpec PP 18 [D.ptr 0 0, di 6] (St.mk [some (cDz l a)] []) (di 3) (St.mk [some (cDz l a1)] []) ∧ FSpec PP 18 [D.ptr 0 0, di (↑(List.length (List.map V.str m.places)) : Int)] (St.mk [some (cDz l a1)] []) (di p) (St.mk [some (cDz l a2)] []) ∧ FSpec PP 18 [D.ptr 0 0, di 9] (St.mk [some (cDz l a2)] []) (di 1) (St.mk [some (cDz l b1)] []) ∧ FSpec PP 18 [D.ptr 0 0, di 2] (St.mk [some (cDz l b1)] []) (di y) (St.mk [some (cDz l b2)] []) ∧ [some (cDz l b2)] = [some (cDz l b2)] ∧ D.v (V.agg [vi (IntKind.wrap IntKind.i64 (1 + 3)), vi p, vi y, V.list []]) = dQ (Qst.mk 4 p (Val.mk y []))) = _) ?_
      repeat' first | with_reducible refine And.intro ?_ ?_
      all_goals first | exact r4 | exact x4 | exact y4 | exact p4 |  exact decide_eq_true (by omega) | exact decide_eq_false (by omega) | exact beq_eq_false_iff_ne.2 (by omega) | rfl | trivial
    · obtain ⟨y, b2, y1, y2, y3, y4⟩ := pick_ex l hl b1 x3 9 (by decide) (by decide)
      refine ⟨⟨y, p, .mk 0 []⟩, b2, sz0, y3, ?_⟩
      refine spec_vc mixed fAsk cAsk (by kernel_rfl) (by kernel_rfl) (by kernel_rfl) (by kernel_rfl) 46 (by kernel_rfl) [3] (.c1 (cDz l a1) (di 3) <| .k <| .k <| .c1 (cDz l a2) (di p) <| .c1 (cDz l b1) (di 2) <| .c1 (cDz l b2) (di y) <| .r) ?_
      refine via (by kernel_rfl : (FSpec PP 18 [D.ptr 0 0, di 6] (St.mk [some (cDz l a)] []) (di 3) (St.mk [some (cDz l a1)] []) ∧ FSpec PP 18 [D.ptr 0 0, di (↑(List.length (List.map V.str m.places)) : Int)] (St.mk [some (cDz l a1)] []) (di p) (St.mk [some (cDz l a2)] []) ∧ FSpec PP 18 [D.ptr 0 0, di 9] (St.mk [some (cDz l a2)] []) (di 2) (St.mk [some (cDz l b1)] []) ∧ FSpec PP 18 [D.ptr 0 0, di 9] (St.mk [some (cDz l b1)] []) (di y) (St.mk [some (cDz l b2)] []) ∧ [some (cDz l b2)] = [some (cDz l b2)] ∧ D.v (V.agg [vi y, vi p, vi 0, V.list []]) = dQ (Qst.mk y p (Val.mk 0 []))) = _) ?_
      repeat' first | with_reducible refine And.intro ?_ ?_
      all_goals first | exact r4 | exact x4 | exact y4 | exact p4 |  exact decide_eq_true (by omega) | exact decide_eq_false (by omega) | exact beq_eq_false_iff_ne.2 (by omega) | rfl | trivial
    · refine ⟨⟨4, p, .mk 0 []⟩, b1, sz0, x3, ?_⟩
      refine spec_vc mixed fAsk cAsk (by kernel_rfl) (by kernel_rfl) (by kernel_rfl) (by kernel_rfl) 46 (by kernel_rfl) [3] (.c1 (cDz l a1) (di 3) <| .k <| .k <| .c1 (cDz l a2) (di p) <| .c1 (cDz l b1) (di x) <| .f <| .f <| .f <| .r) ?_
      refine via (by kernel_rfl : (FSpec PP 18 [D.ptr 0 0, di 6] (St.mk [some (cDz l a)] []) (di 3) (St.mk [some (cDz l a1)] []) ∧ FSpec PP 18 [D.ptr 0 0, di (↑(List.length (List.map V.str m.places)) : Int)] (St.mk [some (cDz l a1)] []) (di p) (St.mk [some (cDz l a2)] []) ∧ FSpec PP 18 [D.ptr 0 0, di 9] (St.mk [some (cDz l a2)] []) (di x) (St.mk [some (cDz l b1)] []) ∧ (x == 0) = false ∧ (x == 1) = false ∧ (x == 2) = false ∧ [some (cDz l b1)] = [some (cDz l b1)] ∧ D.v (V.agg [vi (IntKind.wrap IntKind.i64 (1 + 3)), vi p, vi 0, V.list []]) = dQ (Qst.mk 4 p (Val.mk 0 []))) = _) ?_
      repeat' first | with_reducible refine And.intro ?_ ?_
      all_goals first | exact r4 | exact x4 | exact y4 | exact p4 |  exact decide_eq_true (by omega) | exact decide_eq_false (by omega) | exact beq_eq_false_iff_ne.2 (by omega) | rfl | trivial
  · obtain ⟨x, b1, x1, x2, x3, x4⟩ := pick_ex l hl a1 r3 9 (by decide) (by decide)
    rcases (show x = 0 ∨ x = 1 ∨ x = 2 ∨ 3 ≤ x by omega) with rfl | rfl | rfl | hx
    · obtain ⟨y, b2, y1, y2, y3, y4⟩ := pick_ex l hl b1 x3 4 (by decide) (by decide)
      have wy : IntKind.wrap IntKind.i64 (y - 1) = y - 1 := wrap_id (by omega) (by omega)
      refine ⟨⟨1 + r, y - 1, .mk 0 []⟩, b2, sz0, y3, ?_⟩
      refine spec_vc mixed fAsk cAsk (by kernel_rfl) (by kernel_rfl) (by kernel_rfl) (by kernel_rfl) 46 (by kernel_rfl) [3] (.c1 (cDz l a1) (di r) <| .f <| .f <| .c1 (cDz l b1) (di 0) <| .c1 (cDz l b2) (di y) <| .r) ?_
      refine via (by kernel_rfl : (FSpec PP 18 [D.ptr 0 0, di 6] (St.mk [some (cDz l a)] []) (di r) (St.mk [some (cDz l a1)] []) ∧ decide (IntKind.wrap IntKind.i64 (1 + r) ≤ 2) = false ∧ (IntKind.wrap IntKind.i64 (1 + r) == 4) = false ∧ FSpec PP 18 [D.ptr 0 0, di 9] (St.mk [some (cDz l a1)] []) (di 0) (St.mk [some (cDz l b1)] []) ∧ FSpec PP 18 [D.ptr 0 0, di 4] (St.mk [some (cDz l b1)] []) (di y) (St.mk [some (cDz l b2)] []) ∧ [some (cDz l b2)] = [some (cDz l b2)] ∧ D.v (V.agg [vi (IntKind.wrap IntKind.i64 (1 + r)), vi (IntKind.wrap IntKind.i64 (y - 1)), vi 0, V.list []]) = dQ (Qst.mk (1 + r) (y - 1) (Val.mk 0 []))) = _) ?_
      rw [wr, wy]
      repeat' first | with_reducible refine And.intro ?_ ?_
      all_goals first | exact r4 | exact x4 | exact y4 |  exact decide_eq_true (by omega) | exact decide_eq_false (by omega) | exact beq_eq_false_iff_ne.2 (by omega) | rfl | trivial
    · obtain ⟨y, b2, y1, y2, y3, y4⟩ := pick_ex l hl b1 x3 2 (by decide) (by decide)
      refine ⟨⟨1 + r, 0, .mk y []⟩, b2, sv y y1 y2, y3, ?_⟩
      refine spec_vc mixed fAsk cAsk (by kernel_rfl) (by kernel_rfl) (by kernel_rfl) (by kernel_rfl) 46 (by kernel_rfl) [3] (.c1 (cDz l a1) (di r) <| .f <| .f <| .c1 (cDz l b1) (di 1) <| .c1 (cDz l b2) (di y) <| .r) ?_
      refine via (by kernel_rfl : (FSpec PP 18 [D.ptr 0 0, di 6] (St.mk [some (cDz l a)] []) (di r) (St.mk [some (cDz l a1)] []) ∧ decide (IntKind.wrap IntKind.i64 (1 + r) ≤ 2) = false ∧ (IntKind.wrap IntKind.i64 (1 + r) == 4) = false ∧ FSpec PP 18 [D.ptr 0 0, di 9] (St.mk [some (cDz l a1)] []) (di 1) (St.mk [some (cDz l b1)] []) ∧ FSpec PP 18 [D.ptr 0 0, di 2] (St.mk [some (cDz l b1)] []) (di y) (St.mk [some (cDz l b2)] []) ∧ [some (cDz l b2)] = [some (cDz l b2)] ∧ D.v (V.agg [vi (IntKind.wrap IntKind.i64 (1 + r)), vi 0, vi y, V.list []]) = dQ (Qst.mk (1 + r) 0 (Val.mk y []))) = _) ?_
      rw [wr]
      repeat' first | with_reducible refine And.intro ?_ ?_
      all_goals first | exact r4 | exact x4 | exact y4 |  exact decide_eq_true (by omega) | exact decide_eq_false (by omega) | exact beq_eq_false_iff_ne.2 (by omega) | rfl | trivial
    · obtain ⟨y, b2, y1, y2, y3, y4⟩ := pick_ex l hl b1 x3 9 (by decide) (by decide)
      refine ⟨⟨y, 0, .mk 0 []⟩, b2, sz0, y3, ?_⟩
      refine spec_vc mixed fAsk cAsk (by kernel_rfl) (by kernel_rfl) (by kernel_rfl) (by kernel_rfl) 46 (by kernel_rfl) [3] (.c1 (cDz l a1) (di r) <| .f <| .f <| .c1 (cDz l b1) (di 2) <| .c1 (cDz l b2) (di y) <| .r) ?_
      refine via (by kernel_rfl : (FSpec PP 18 [D.ptr 0 0, di 6] (St.mk [some (cDz l a)] []) (di r) (St.mk [some (cDz l a1)] []) ∧ decide (IntKind.wrap IntKind.i64 (1 + r) ≤ 2) = false ∧ (IntKind.wrap IntKind.i64 (1 + r) == 4) = false ∧ FSpec PP 18 [D.ptr 0 0, di 9] (St.mk [some (cDz l a1)] []) (di 2) (St.mk [some (cDz l b1)] []) ∧ FSpec PP 18 [D.ptr 0 0, di 9] (St.mk [some (cDz l b1)] []) (di y) (St.mk [some (cDz l b2)] []) ∧ [some (cDz l b2)] = [some (cDz l b2)] ∧ D.v (V.agg [vi y, vi 0, vi 0, V.list []]) = dQ (Qst.mk y 0 (Val.mk 0 []))) = _) ?_
      rw [wr]
      repeat' first | with_reducible refine And.intro ?_ ?_
      all_goals first | exact r4 | exact x4 | exact y4 |  exact decide_eq_true (by omega) | exact decide_eq_false (by omega) | exact beq_eq_false_iff_ne.2 (by omega) | rfl | trivial
    · refine ⟨⟨1 + r, 0, .mk 0 []⟩, b1, sz0, x3, ?_⟩
      refine spec_vc mixed fAsk cAsk (by kernel_rfl) (by kernel_rfl) (by kernel_rfl) (by kernel_rfl) 46 (by kernel_rfl) [3] (.c1 (cDz l a1) (di r) <| .f <| .f <| .c1 (cDz l b1) (di x) <| .f <| .f <| .f <| .r) ?_
      refine via (by kernel_rfl : (FSpec PP 18 [D.ptr 0 0, di 6] (St.mk [some (cDz l a)] []) (di r) (St.mk [some (cDz l a1)] []) ∧ decide (IntKind.wrap IntKind.i64 (1 + r) ≤ 2) = false ∧ (IntKind.wrap IntKind.i64 (1 + r) == 4) = false ∧ FSpec PP 18 [D.ptr 0 0, di 9] (St.mk [some (cDz l a1)] []) (di x) (St.mk [some (cDz l b1)] []) ∧ (x == 0) = false ∧ (x == 1) = false ∧ (x == 2) = false ∧ [some (cDz l b1)] = [some (cDz l b1)] ∧ D.v (V.agg [vi (IntKind.wrap IntKind.i64 (1 + r)), vi 0, vi 0, V.list []]) = dQ (Qst.mk (1 + r) 0 (Val.mk 0 []))) = _) ?_
      rw [wr]
      repeat' first | with_reducible refine And.intro ?_ ?_
      all_goals first | exact r4 | exact x4 | exact y4 |  exact decide_eq_true (by omega) | exact decide_eq_false (by omega) | exact beq_eq_false_iff_ne.2 (by omega) | rfl | trivial
end Go.Proofs.YtopbcpgmffppjaaGreatDoor

namespace Go.Proofs.YtopbcpgmffppjaaGreatDoor
open Go.Dv Go.Nv
set_option maxRecDepth 20000
theorem valid_kind {m : Mod} {t : Typ} {q : Qst} (h : validQ m t q = true) : q.kind = 1 ∨ q.kind = 2 ∨ q.kind = 3 ∨ q.kind = 4 ∨ q.kind = 5 ∨ q.kind = 6 := by
  unfold validQ at h
  split at h
  · simp at h
  · omega
def sameQ (p q : Qst) : Bool := (p.kind == q.kind) && ((p.place == q.place) && (cmpV p.target q.target == 0))
noncomputable abbrev fQSm : Func := Tryz.f17
noncomputable def cQSm : Code := fQSm.body.getD .skip
theorem qsm_spec (p q : Qst) (hp : p.target.size ≤ 1000000) : FSpec PP 17 [dQ p, dQ q] σ0 (db (sameQ p q)) σ0 := by
  have h := ssame_spec p.target q.target hp
  refine spec_vc mixed fQSm cQSm (by kernel_rfl) (by kernel_rfl) (by kernel_rfl) (by kernel_rfl) 24 (by kernel_rfl) [2, 3] (.b (.b (.c (db (cmpV p.target q.target == 0)) .r) .r) .r) ?_
  refine via (by kernel_rfl : (((p.kind == q.kind) = true → ((p.place == q.place) = true → FSpec PP 28 [D.v (V.agg [vi (Val.n p.target), vVs (Val.kids p.target)]), D.v (V.agg [vi (Val.n q.target), vVs (Val.kids q.target)])] (St.mk [] []) (db (cmpV p.target q.target == 0)) (St.mk [] []) ∧ db (cmpV p.target q.target == 0) = db (sameQ p q)) ∧ ((p.place == q.place) = false → db false = db (sameQ p q))) ∧ ((p.kind == q.kind) = false → db false = db (sameQ p q))) = _) ?_
  refine ⟨fun h1 => ⟨fun h2 => ⟨h, ?_⟩, fun h2 => ?_⟩, fun h1 => ?_⟩
  all_goals simp only [sameQ, h1, *, Bool.true_and, Bool.false_and, Bool.and_true, Bool.and_false]
/-- no digit and no opening mark comes first -/
def Nd (a : List UInt8) : Prop := ∀ y r, a = y :: r → y.toNat < 48 ∧ y ≠ 40
/-- what a valid question is -/
inductive QK (m : Mod) : Qst → Prop where
  | cover (v : Val) : QK m ⟨1, 0, v⟩
  | reach (v : Val) : QK m ⟨2, 0, v⟩
  | bounded : QK m ⟨3, 0, zeroV⟩
  | place (n : Nat) (h : n < m.places.length) : QK m ⟨4, n, zeroV⟩
  | dead : QK m ⟨5, 0, zeroV⟩
  | home : QK m ⟨6, 0, zeroV⟩
theorem valid_is {m : Mod} {t : Typ} {q : Qst} (h : validQ m t q = true) : QK m q := by
  have hk := valid_kind h
  obtain ⟨k, p, v⟩ := q
  simp only at hk
  have hz : ∀ {b : Bool}, (b && ((cmpV v zeroV == 0) && (p == 0))) = true → v = zeroV ∧ p = 0 := fun {b} h => by
    simp only [Bool.and_eq_true, beq_iff_eq] at h
    exact ⟨cmpV_eq.1 h.2.1, h.2.2⟩
  rcases hk with rfl | rfl | rfl | rfl | rfl | rfl
  · have h : (validB t v && (p == 0)) = true := h
    simp only [Bool.and_eq_true, beq_iff_eq] at h
    rw [h.2]; exact .cover v
  · have h : (validB t v && (p == 0)) = true := h
    simp only [Bool.and_eq_true, beq_iff_eq] at h
    rw [h.2]; exact .reach v
  · obtain ⟨rfl, rfl⟩ := hz h; exact .bounded
  · have h : (plainB m && ((cmpV v zeroV == 0) && (decide (0 ≤ p) && decide (p < m.places.length)))) = true := h
    simp only [Bool.and_eq_true, beq_iff_eq, decide_eq_true_eq] at h
    rw [cmpV_eq.1 h.2.1]
    obtain ⟨n, rfl⟩ : ∃ n : Nat, p = n := ⟨p.toNat, by omega⟩
    exact .place n (by omega)
  · obtain ⟨rfl, rfl⟩ := hz (b := true) (by rw [Bool.true_and]; exact h); exact .dead
  · obtain ⟨rfl, rfl⟩ := hz (b := true) (by rw [Bool.true_and]; exact h); exact .home
theorem sameQ_eq {p q : Qst} : sameQ p q = true ↔ p = q := by
  obtain ⟨k, i, v⟩ := p
  obtain ⟨k', i', v'⟩ := q
  simp only [sameQ, Bool.and_eq_true, beq_iff_eq, cmpV_eq]
  constructor
  · rintro ⟨rfl, rfl, rfl⟩; rfl
  · intro h; injection h with h1 h2 h3; exact ⟨h1, h2, h3⟩
end Go.Proofs.YtopbcpgmffppjaaGreatDoor

namespace Go.Proofs
open Go.Shelf Go.RowKit Go.Dv
def Tryz.laysM171_ren : Go.Shelf.Ren := ⟨fun | 129 => 149 | 171 => 54 | 243 => 87 | 246 => 117 | 283 => 134 | 284 => 135 | 285 => 136 | 286 => 137 | 317 => 148 | 318 => 150 | 319 => 151 | 320 => 152 | 337 => 157 | 338 => 158 | n => n, fun | 0 => 0 | 2 => 2 | 3 => 3 | 4 => 4 | 5 => 5 | 9 => 9 | 20 => 20 | 37 => 22 | 46 => 149 | 51 => 162 | 53 => 157 | 171 => 156 | 173 => 160 | 212 => 173 | 213 => 174 | 232 => 187 | 233 => 188 | n => n, fun | 17 => 2 | 18 => 5 | 19 => 6 | n => n⟩
theorem Tryz.laysM171 : Go.Proofs.LaysM.n171 Tryz.prog Tryz.laysM171_ren := {
  mixed := by kernel_rfl
  f129 := Tryz.func149.trans (congrArg some (by kernel_rfl))
  f171 := Tryz.func54.trans (congrArg some (by kernel_rfl))
  f243 := Tryz.func87.trans (congrArg some (by kernel_rfl))
  f246 := Tryz.func117.trans (congrArg some (by kernel_rfl))
  f283 := Tryz.func134.trans (congrArg some (by kernel_rfl))
  f284 := Tryz.func135.trans (congrArg some (by kernel_rfl))
  f285 := Tryz.func136.trans (congrArg some (by kernel_rfl))
  f286 := Tryz.func137.trans (congrArg some (by kernel_rfl))
  f317 := Tryz.func148.trans (congrArg some (by kernel_rfl))
  f318 := Tryz.func150.trans (congrArg some (by kernel_rfl))
  f319 := Tryz.func151.trans (congrArg some (by kernel_rfl))
  f320 := Tryz.func152.trans (congrArg some (by kernel_rfl))
  f337 := Tryz.func157.trans (congrArg some (by kernel_rfl))
  f338 := Tryz.func158.trans (congrArg some (by kernel_rfl))
  t0 := Tryz.underlying0
  a0 := Tryz.isAgg0
  z0 := Tryz.sizeOf0
  v0 := Tryz.zeroValue0
  t2 := Tryz.underlying2
  a2 := Tryz.isAgg2
  z2 := Tryz.sizeOf2
  v2 := Tryz.zeroValue2
  t3 := Tryz.underlying3
  a3 := Tryz.isAgg3
  z3 := Tryz.sizeOf3
  v3 := Tryz.zeroValue3
  t4 := Tryz.underlying4
  a4 := Tryz.isAgg4
  z4 := Tryz.sizeOf4
  v4 := Tryz.zeroValue4
  t5 := Tryz.underlying5
  a5 := Tryz.isAgg5
  z5 := Tryz.sizeOf5
  v5 := Tryz.zeroValue5
  t9 := Tryz.underlying9
  a9 := Tryz.isAgg9
  z9 := Tryz.sizeOf9
  v9 := Tryz.zeroValue9
  t20 := Tryz.underlying20
  a20 := Tryz.isAgg20
  z20 := Tryz.sizeOf20
  v20 := Tryz.zeroValue20
  t37 := Tryz.underlying22
  a37 := Tryz.isAgg22
  z37 := Tryz.sizeOf22
  v37 := Tryz.zeroValue22
  t46 := Tryz.underlying149
  a46 := Tryz.isAgg149
  z46 := Tryz.sizeOf149
  v46 := Tryz.zeroValue149
  t51 := Tryz.underlying162
  a51 := Tryz.isAgg162
  z51 := Tryz.sizeOf162
  v51 := Tryz.zeroValue162
  t53 := Tryz.underlying157
  a53 := Tryz.isAgg157
  z53 := Tryz.sizeOf157
  v53 := Tryz.zeroValue157
  t171 := Tryz.underlying156
  a171 := Tryz.isAgg156
  z171 := Tryz.sizeOf156
  v171 := Tryz.zeroValue156
  t173 := Tryz.underlying160
  a173 := Tryz.isAgg160
  z173 := Tryz.sizeOf160
  v173 := Tryz.zeroValue160
  t212 := Tryz.underlying173
  a212 := Tryz.isAgg173
  z212 := Tryz.sizeOf173
  v212 := Tryz.zeroValue173
  t213 := Tryz.underlying174
  a213 := Tryz.isAgg174
  z213 := Tryz.sizeOf174
  t232 := Tryz.underlying187
  a232 := Tryz.isAgg187
  z232 := Tryz.sizeOf187
  v232 := Tryz.zeroValue187
  t233 := Tryz.underlying188
  a233 := Tryz.isAgg188
  z233 := Tryz.sizeOf188
  v233 := Tryz.zeroValue188
  g17 := by kernel_rfl
  g18 := by kernel_rfl
  g19 := by kernel_rfl
  i0 := by kernel_rfl
  i2 := by kernel_rfl
  i3 := by kernel_rfl
  i4 := by kernel_rfl
  i5 := by kernel_rfl
  i9 := by kernel_rfl
  i20 := by kernel_rfl
  i37 := by kernel_rfl
  i46 := by kernel_rfl
  i51 := by kernel_rfl
  i53 := by kernel_rfl
  i171 := by kernel_rfl
  i173 := by kernel_rfl
  i212 := by kernel_rfl
  i232 := by kernel_rfl
  i233 := by kernel_rfl
  m17 := by kernel_rfl
  m18 := by kernel_rfl
  m19 := by kernel_rfl }

end Go.Proofs
namespace Go.Proofs.YtopbcpgmffppjaaGreatDoor
open Go.Dv Go.Nv Go.RowKit
set_option maxRecDepth 100000
/-- the powers of ten are known -/
theorem tab_of {g : Gh} {σ : St} {w : World} (h : WRep g σ w) : Lib.TabIs PP w "internal/strconv.uint64pow10" .u64 Lib.pow10Tab := by
  obtain ⟨us, h1, h2⟩ := h.gl.known (2, vPow) (by simp [GLOB])
  obtain ⟨cs, e, x, h3, h4⟩ := h.gw (2, 20) (by simp [GSIZE])
  have hus : us = Lib.pow10Tab.map fun z => Value.int .u64 z := by
    simp only [vPow, repC, repA] at h2
    obtain ⟨_, _, rfl, _, e0, _, _, rfl, _, e1, _, _, rfl, _, e2, _, _, rfl, _, e3, _, _, rfl, _, e4, _, _, rfl, _, e5, _, _, rfl, _, e6, _, _, rfl, _, e7, _, _, rfl, _, e8, _, _, rfl, _, e9, _, _, rfl, _, e10, _, _, rfl, _, e11, _, _, rfl, _, e12, _, _, rfl, _, e13, _, _, rfl, _, e14, _, _, rfl, _, e15, _, _, rfl, _, e16, _, _, rfl, _, e17, _, _, rfl, _, e18, _, _, rfl, _, e19, rfl⟩ := h2
    simp only [List.cons.injEq, and_true] at e0 e1 e2 e3 e4 e5 e6 e7 e8 e9 e10 e11 e12 e13 e14 e15 e16 e17 e18 e19
    rw [e0, e1, e2, e3, e4, e5, e6, e7, e8, e9, e10, e11, e12, e13, e14, e15, e16, e17, e18, e19]
    rfl
  have hul : us.length = 20 := by rw [hus, List.length_map, Lib.pow10Tab_length]
  have hcs : cs = us.toArray := by
    apply Array.ext
    · rw [h4]; simp [hul]
    · intro i hi1 hi2
      have hj : us[i]? = some us[i] := List.getElem?_eq_getElem (by simpa using hi2)
      have := h.mem _ _ _ (h1 i _ hj)
      rw [Lib.cell_of_heap h3] at this
      have h5 : cs[i]? = some us[i] := by simpa using this
      rw [Array.getElem?_eq_getElem hi1] at h5
      simpa using h5
  show World.var? PP w "internal/strconv.uint64pow10" = _
  unfold World.var?
  rw [show PP.globalNamed "internal/strconv.uint64pow10" = some 2 by kernel_rfl]
  simp only [Option.bind_some, h3]
  rw [hcs, hus]
/-- the powers of ten lie below B -/
structure TabB (B : Nat) (w : World) : Prop where
  lt : 2 < B
  is : Lib.TabIs PP w "internal/strconv.uint64pow10" .u64 Lib.pow10Tab
theorem TabB.on {B : Nat} {w w' : World} (h : TabB B w) (hb : Below B w w') : TabB B w' := ⟨h.lt, by
  have h1 := h.is
  unfold Lib.TabIs World.var? at h1 ⊢
  rw [show PP.globalNamed "internal/strconv.uint64pow10" = some 2 by kernel_rfl] at h1 ⊢
  simp only [Option.bind_some] at h1 ⊢
  rw [hb.block _ h.lt]; exact h1⟩
theorem grow_below (w : World) (k : Nat) (os : Array Obj) : Below w.heap.size w (Sort.grow (w.drewN k) os) :=
  ⟨rfl, rfl, rfl, by rw [Sort.size_grow]; exact Nat.le_add_right _ _, fun b hb => Sort.heap_grow_old (w.drewN k) os hb⟩
theorem itoaW (n : Int) (h0 : -9223372036854775808 ≤ n ∧ n ≤ 9223372036854775807) (w : World) (ht : Lib.TabIs PP w "internal/strconv.uint64pow10" .u64 Lib.pow10Tab) :
    Calls Tryz.prog 54 #[.int .i64 n] w fun e w' => e = .returned (.string ⟨(Lib.itoa n).toArray⟩) ∧ Below w.heap.size w w' := by
  refine (Any.strconv_Itoa Tryz.laysM171 n h0.1 h0.2 w ht).mono ?_
  rintro e w' ⟨rfl, k, os, rfl⟩
  exact ⟨rfl, grow_below w k os⟩
theorem isB_old {B b : Nat} {l : List UInt8} {w w' : World} (h : IsB B b l w) (ho : ∀ x, x < w.heap.size → w'.heap[x]? = w.heap[x]?) : IsB B b l w' := by
  have : ∀ p, Lib.BuilderAtF 77 5 B b p (Lib.byteCells l) w → Lib.BuilderAtF 77 5 B b p (Lib.byteCells l) w' := fun p h => by
    obtain ⟨h1, v, h2, h3, h4⟩ := h
    refine ⟨h1, v, (ho b (Array.getElem?_eq_some_iff.1 h2).1).trans h2, ⟨h3.1, ?_⟩, h4⟩
    rcases h3.2 with h | ⟨g, cap, cur, fz, rfl, a1, a2, a3⟩
    · exact .inl h
    · exact .inr ⟨g, cap, cur, fz, rfl, a1, (ho g (Array.getElem?_eq_some_iff.1 a2).1).trans a2, a3⟩
  rcases h with h | h
  · exact .inl (this _ h)
  · exact .inr (this _ h)
mutual
/-- the text of a value -/
def textI : Val → List UInt8
  | .mk n l => Lib.itoa n ++ (textIK true l ++ (if l.isEmpty then [] else [41]))
def textIK : Bool → List Val → List UInt8
  | _, [] => []
  | f, v :: l => (if f then 40 else 32) :: (textI v ++ textIK false l)
end
mutual
/-- are all numbers ints? -/
def rgB : Val → Bool
  | .mk n l => decide (-9223372036854775808 ≤ n) && (decide (n ≤ 9223372036854775807) && rgsB l)
def rgsB : List Val → Bool
  | [] => true
  | v :: l => rgB v && rgsB l
end
theorem textIK_snoc (f : Bool) (v : Val) : ∀ l : List Val, textIK f (l ++ [v]) = textIK f l ++ (if f && l.isEmpty then 40 else 32) :: textI v
  | [] => by cases f <;> simp [textIK]
  | x :: l => by
    have h := textIK_snoc false v l
    simp only [List.cons_append, textIK, h, List.isEmpty_cons, Bool.and_false, Bool.false_and, List.append_assoc, Bool.false_eq_true, if_false]
theorem rgsB_mem {l : List Val} (h : rgsB l = true) : ∀ v ∈ l, rgB v = true := by
  induction l with
  | nil => simp
  | cons x l ih =>
    simp only [rgsB, Bool.and_eq_true] at h
    intro v hv
    rcases List.mem_cons.1 hv with rfl | hv
    · exact h.1
    · exact ih h.2 v hv
mutual
theorem textI_len : ∀ v : Val, rgB v = true → (textI v).length + 2 ≤ 25 * v.size
  | .mk n l, h => by
    simp only [rgB, Bool.and_eq_true, decide_eq_true_eq] at h
    have h1 := textIK_len l h.2.2 true
    have h2 := Lib.itoa_length_le n h.1 h.2.1
    simp only [textI, List.length_append, Val.size]
    split <;> simp <;> omega
theorem textIK_len : ∀ l : List Val, rgsB l = true → ∀ f, (textIK f l).length ≤ 25 * Val.sizes l
  | [], _, f => by simp [textIK]
  | v :: l, h, f => by
    simp only [rgsB, Bool.and_eq_true] at h
    have h1 := textI_len v h.1
    have h2 := textIK_len l h.2 false
    simp only [textIK, List.length_cons, List.length_append, Val.sizes]; omega
end
theorem textIK_take : ∀ l : List Val, rgsB l = true → ∀ f k, (textIK f (l.take k)).length ≤ 25 * Val.sizes (l.take k)
  | [], _, f, k => by simp [textIK]
  | v :: l, h, f, 0 => by simp [textIK]
  | v :: l, h, f, k + 1 => by
    simp only [rgsB, Bool.and_eq_true] at h
    have h1 := textI_len v h.1
    have h2 := textIK_take l h.2 false k
    simp only [List.take_succ_cons, textIK, List.length_cons, List.length_append, Val.sizes]; omega
theorem write_i (M : Mem) (N : Nat) : ∀ v : Val, v.size ≤ N → rgB v = true → ∀ (l : List UInt8) (B b : Nat) (w : World) (n : Int) (a : Option Addr) (len cap : Nat), IsB B b l w → B ≤ w.heap.size → KnB M B w → TabB B w →
    repC M (eV v) [.int .i64 n, .slice a len cap] → l.length + 60 * v.size ≤ 1000000 →
    Calls Tryz.prog 35 #[.pointer (some ⟨b, 0, none⟩), .agg #[.int .i64 n, .slice a len cap]] w fun e w' => e = .returned (.tuple #[]) ∧ IsB B b (l ++ textI v) w' ∧ Below B w w' ∧ Lib.OthersKept 5 (some b) w w' := by
  induction N with
  | zero => intro v hv; have := v.size_pos; omega
  | succ N ih =>
    intro v hv hs l B b w n a len cap hB hBw hK hT hr hlen
    cases v with
    | mk n0 ks =>
    rw [enc_eq] at hr
    simp only [repC, repA, Val.n, Val.kids] at hr
    obtain ⟨_, _, e1, _, e2, _, _, e3, _, ⟨a', cap', e4, hcap, hsl⟩, e5⟩ := hr
    cases e1
    cases e3
    obtain rfl : n = n0 := by simpa using e2
    rw [List.length_map] at e4 hcap
    obtain ⟨rfl, rfl, rfl⟩ : a = a' ∧ len = ks.length ∧ cap = cap' := by simpa using e4
    have hsk : rgsB ks = true ∧ -9223372036854775808 ≤ n ∧ n ≤ 9223372036854775807 := by simp only [rgB, Bool.and_eq_true, decide_eq_true_eq] at hs; exact ⟨hs.2.2, hs.1, hs.2.1⟩
    obtain ⟨hks, hn0⟩ := hsk
    have hdl : (Lib.itoa n).length ≤ 21 := Lib.itoa_length_le n hn0.1 hn0.2
    have hTi := Lib.hid hT
    have hn0 := Lib.hid hn0
    clear hs e2 e4 hT
    have hbl := isB_lt hB
    have hsz : Hid ((Val.mk n ks).size = Val.sizes ks + 1) := by show _ = _; simp only [Val.size]; omega
    have hkm : ks.length ≤ 1000000 := by have := hsz.out; have := Val.length_le ks; omega
    have hsl := Lib.hid hsl
    have hv := Lib.hid hv
    clear hcap
    go_enter Tryz.func35, Tryz.ntmps35
    go_wp2_with (go_at_call 54; refine (itoaW n hn0.out _ ((hTi.out.on ((Below.refl B w).alloc hBw _)).is)).mono ?_; rintro e w1 ⟨rfl, hb1⟩; refine Hid.out ?_)
    refine Lib.hid ?_
    have hBw1 : Hid (Below B w w1) := ((Below.refl B w).alloc hBw _).trans (hb1.mono (by simp; omega))
    have hB1 : Hid (IsB B b l w1) := isB_old (isB_alloc hB _) fun x hx => hb1.block x hx
    have hO1 : Hid (Lib.OthersKept 5 (some b) w w1) := fun k o h1 _ _ => by
      have hlt := (Array.getElem?_eq_some_iff.1 h1).1
      exact (hb1.block k (by simp; omega)).trans ((Go.Lib.alloc_old w _ k hlt).trans h1)
    have hpc := Lib.hid ((hb1.block w.heap.size (by simp)).trans (heap_alloc_new w _))
    have hz1 : Hid (w.heap.size < w1.heap.size ∧ B ≤ w1.heap.size) := by have := hb1.size; simp at this; exact ⟨by omega, by omega⟩
    clear hb1
    go_wp2_with (go_at_call 53; refine (wstr B b l _ (Lib.itoa n) hB1.out (by omega) hz1.out.2).mono ?_; rintro e w2 ⟨rfl, hB2, hb2, ho2⟩; refine Hid.out ?_)
    refine Lib.hid ?_
    have hk2 := ho2 w.heap.size _ hpc.out (by simp; omega) (by simp)
    have c1 : w2.cell? ⟨w.heap.size, 1, none⟩ = some (.slice a ks.length cap) := by rw [Lib.cell_of_heap hk2]; rfl
    go_wp2
    go_loopw [14] (fun v wr => ∃ k : Nat, k ≤ ks.length ∧ v = .int .i64 k ∧ IsB B b (l ++ Lib.itoa n ++ textIK true (ks.take k)) wr ∧ Below B w2 wr ∧ Lib.OthersKept 5 (some b) w2 wr) (fun v _ => ks.length - (intOf v).toNat)
    case atStart => exact ⟨0, Nat.zero_le _, rfl, by simpa [textIK] using hB2, Below.refl _ _, Lib.OthersKept.refl _ _ _⟩
    case round =>
      obtain ⟨k, hkl, rfl, hBr, hbr, hor⟩ := hrel
      by_cases hk : k < ks.length
      · rcases hsl.out with h | ⟨bk, off, sz, us, rfl, _, hin, hre⟩
        · have h0 : ks = [] := by simpa using h
          rw [h0] at hk; simp at hk
        have hx : (ks.map eV)[k]? = some (eV ks[k]) := by simp [hk]
        obtain ⟨u1, hr1, hl1, hg1⟩ := repE_get hre hx
        have h2 := repC_length hr1
        rw [eVsz] at h2
        obtain rfl : sz = 2 := by omega
        obtain ⟨n1, a1, len1, cap1, rfl⟩ : ∃ n1 a1 len1 cap1, u1 = [Value.int .i64 n1, .slice a1 len1 cap1] := by
          have hr2 := hr1
          rw [enc_eq] at hr2
          simp only [repC, repA] at hr2
          obtain ⟨_, _, e1, _, e2, _, _, e3, _, ⟨a', cap', e4, _⟩, e5⟩ := hr2
          simp only [List.cons.injEq, and_true] at e2 e4
          exact ⟨_, _, _, _, by rw [e1, e3, e5, e2, e4]⟩
        have g0 := hin _ _ (hg1 0 _ rfl)
        have g1 := hin _ _ (hg1 1 _ rfl)
        have hKr := ((hK.on hBw1.out).on hb2).on hbr
        have ca : wr.cell? ⟨bk, off + k * 2, none⟩ = some (.int .i64 n1) := hKr.at_ _ _ _ g0
        have cb : wr.cell? ⟨bk, off + k * 2 + 1, none⟩ = some (.slice a1 len1 cap1) := hKr.at_ _ _ _ g1
        clear hKr g0 g1
        clear hl1 hg1 h2 hx hre hin
        have hlk : Hid ((l ++ Lib.itoa n ++ textIK true (ks.take k)).length ≤ l.length + 21 + 25 * Val.sizes (ks.take k) ∧ Val.sizes (ks.take k) + ks[k].size ≤ Val.sizes ks) := by
          have h1 := textIK_take ks hks true k
          have h2 := sizes_get ks k hk
          exact ⟨by simp only [List.length_append]; omega, h2⟩
        have hwr : B ≤ wr.heap.size ∧ b < wr.heap.size := ⟨by have := hbr.size; have := hb2.size; have := hz1.out; omega, (isB_lt hBr).2⟩
        go_wp2_with (go_at_call 55; refine (wbyte B b _ _ _ (isB_alloc hBr _) (by have := hlk.out; have := hsz.out; omega) (by simp; omega)).mono ?_; rintro e w3 ⟨rfl, hB3, hb3, ho3⟩; refine Hid.out ?_)
        refine Lib.hid ?_
        have hk3 := ho3 wr.heap.size _ (heap_alloc_new wr _) (by simp; omega) (by simp)
        have d0 : w3.cell? ⟨wr.heap.size, 0, none⟩ = some (.int .i64 n1) := by rw [Lib.cell_of_heap hk3]; rfl
        have d1 : w3.cell? ⟨wr.heap.size, 1, none⟩ = some (.slice a1 len1 cap1) := by rw [Lib.cell_of_heap hk3]; rfl
        have hB3 := Lib.hid hB3
        have hKr3 := Lib.hid (((((hK.on hBw1.out).on hb2).on hbr).on ((Below.refl B wr).alloc hwr.1 _)).on hb3)
        have hTr3 := Lib.hid (((((hTi.out.on hBw1.out).on hb2).on hbr).on ((Below.refl B wr).alloc hwr.1 _)).on hb3)
        have hmem : Hid (ks[k].size ≤ Val.sizes ks ∧ rgB ks[k] = true ∧ ks[k].size ≤ N) := by
          have h1 := Val.size_mem (List.getElem_mem hk)
          have h2 := hsz.out
          exact ⟨h1, rgsB_mem hks _ (List.getElem_mem hk), by have := hv.out; omega⟩
        clear hk3
        go_wp2_with (go_at_call 35; refine (ih ks[k] hmem.out.2.2 hmem.out.2.1 _ B b w3 n1 a1 len1 cap1 hB3.out (by have := hb3.size; simp at this; omega) hKr3.out hTr3.out hr1 (by have := hlk.out; have := hsz.out; have := hmem.out; simp only [List.length_append, List.length_cons, List.length_nil] at *; omega)).mono ?_; rintro e w4 ⟨rfl, hB4, hb4, ho4⟩; refine Hid.out ?_)
        refine Lib.hid ?_
        go_wp2
        go_roundw
        case rel =>
          refine ⟨k + 1, by omega, by go_num, ?_, ((hbr.trans ((Below.refl B wr).alloc hwr.1 _)).trans hb3).trans hb4, ((hor.trans ((Lib.OthersKept.refl _ _ wr).alloc _)).trans ho3).trans ho4⟩
          rw [List.take_succ_eq_append_getElem hk, textIK_snoc]
          have hch : ∀ (j : Nat) (h : ((min (k : Int) 1)).toNat < ({ data := #[40, 32] } : ByteArray).size), ({ data := #[40, 32] } : ByteArray)[((min (k : Int) 1)).toNat]'h = (if (true && (ks.take k).isEmpty) = true then 40 else 32) := fun _ h => by
            rcases Nat.eq_zero_or_pos k with rfl | hp
            · simp; rfl
            · have h1 : (min (k : Int) 1).toNat = 1 := by omega
              have h2 : (ks.take k).isEmpty = false := by
                cases ks with
                | nil => simp at hk
                | cons x r => cases k with
                  | zero => omega
                  | succ k => rfl
              simp only [h1, h2]; rfl
          rw [hch 0] at hB4
          simpa only [List.append_assoc, List.singleton_append, List.cons_append, List.nil_append] using hB4
        case measure => simp [intOf]; omega
      · have hk : k = ks.length := by omega
        subst hk
        rw [List.take_length] at hBr
        have hk5 := hor w.heap.size _ hk2 (by simp; omega) (by simp)
        have e1 : wr.cell? ⟨w.heap.size, 1, none⟩ = some (.slice a ks.length cap) := by rw [Lib.cell_of_heap hk5]; rfl
        have hbw : B ≤ wr.heap.size := by have := hbr.size; have := hb2.size; have := hz1.out; omega
        have htx : Hid (textI (.mk n ks) = Lib.itoa n ++ (textIK true ks ++ (if ks.isEmpty then [] else [41]))) := rfl
        have hfin : Hid (Below B w wr ∧ Lib.OthersKept 5 (some b) w wr) := ⟨(hBw1.out.trans hb2).trans hbr, (hO1.out.trans ho2).trans hor⟩
        have hlk : Hid ((l ++ Lib.itoa n ++ textIK true ks).length + 1 ≤ 140737488355328) := by
          have h1 := textIK_len ks hks true
          have h2 := hsz.out
          show _ ≤ _
          simp only [List.length_append]; omega
        clear hk5
        by_cases he : 0 < ks.length
        · go_wp2_with (go_at_call 55; refine (wbyte B b _ _ 41 hBr hlk.out hbw).mono ?_; rintro e w3 ⟨rfl, hB3, hb3, ho3⟩; refine Hid.out ?_)
          refine Lib.hid ?_
          go_wp2
          go_end0
          have h1 : ks.isEmpty = false := by cases ks <;> simp at he ⊢
          refine ⟨rfl, ?_, hfin.out.1.trans hb3, hfin.out.2.trans ho3⟩
          rw [htx.out, h1]
          simpa only [List.append_assoc, Bool.false_eq_true, if_false] using hB3
        · go_wp2
          go_end0
          have h1 : ks.isEmpty = true := by cases ks <;> simp at he ⊢
          refine ⟨rfl, ?_, hfin.out.1, hfin.out.2⟩
          rw [htx.out, h1]
          simpa only [List.append_assoc, if_true, List.append_nil] using hBr
theorem otextI_spec (v : Val) (hv : rgB v = true) (hs : v.size ≤ 128) : FSpec PP 25 [dV v] σ0 (.tup [ds (textI v), di 0]) σ0 := by
  refine spec_below ⟨_, Tryz.func25, by kernel_rfl, by kernel_rfl⟩ fun g w args hw ha => ?_
  obtain ⟨u0, rfl, h0⟩ := repDs_one.1 ha
  have hr : repC g.M (eV v) u0.cells.toList := by
    rw [enc_eq]; simp only [repD] at h0; exact repV_cells h0
  obtain ⟨n1, a1, len1, cap1, rfl⟩ : ∃ n1 a1 len1 cap1, u0 = .agg #[Value.int .i64 n1, .slice a1 len1 cap1] := by
    simp only [repD, repV_agg] at h0
    obtain ⟨ws, h1, rfl⟩ := h0
    simp only [repC, repA] at h1
    obtain ⟨_, _, rfl, _, e2, _, _, rfl, _, ⟨a', cap', e4, _⟩, rfl⟩ := h1
    simp only [List.cons.injEq, and_true] at e2 e4
    exact ⟨_, _, _, _, by rw [e2, e4]⟩
  have hr : repC g.M (eV v) [.int .i64 n1, .slice a1 len1 cap1] := hr
  have hK : KnB g.M w.heap.size w := ⟨fun b o x h => hw.mem_lt h, hw.mem⟩
  have hT0 : TabB w.heap.size w := ⟨hw.gw.lt (p := (2, 20)) (by simp [GSIZE]), tab_of hw⟩
  have hsz : ∀ w1 : World, WRep g ⟨[], []⟩ w1 → Calls PP 34 #[.agg #[Value.int .i64 n1, .slice a1 len1 cap1]] w1 fun e w' => e = .returned (.int .i64 v.size) ∧ Below w1.heap.size w1 w' := fun w1 hw1 => by
    refine ((osize_spec v (by omega)).2 g w1 [.agg #[Value.int .i64 n1, .slice a1 len1 cap1]] hw1 ha).mono ?_
    rintro e w' ⟨u, g', rfl, h1, h2⟩
    rw [show min (v.size : Int) 129 = v.size by omega] at h2
    simp only [repD, repV_int] at h2
    exact ⟨by rw [h2], below_wi h1⟩
  have hw1 := Lib.hid (wi_below hw ((Below.refl _ w).alloc (Nat.le_refl _) (.cells #[.int .i64 n1, .slice a1 len1 cap1] 31))).rep
  have hL : (textI v).length ≤ 3200 := by have := textI_len v hv; omega
  clear h0 ha hw
  go_enter Tryz.func25, Tryz.ntmps25
  go_wp2_with (go_at_call 34; refine (hsz _ hw1.out).mono ?_; rintro e w1 ⟨rfl, hb1⟩; refine Hid.out ?_)
  refine Lib.hid ?_
  have hbox := hb1.block w.heap.size (by simp)
  rw [heap_alloc_new] at hbox
  have hlt : w.heap.size < w1.heap.size := by have := hb1.size; simp at this; omega
  have hb1 := Lib.hid hb1
  have c0 : ∀ o, (w1.alloc o).cell? ⟨w.heap.size, 0, none⟩ = some (.int .i64 n1) := fun o => by rw [Lib.cell_of_heap ((Go.Lib.alloc_old w1 o _ hlt).trans hbox)]; rfl
  have c1 : ∀ o, (w1.alloc o).cell? ⟨w.heap.size, 1, none⟩ = some (.slice a1 len1 cap1) := fun o => by rw [Lib.cell_of_heap ((Go.Lib.alloc_old w1 o _ hlt).trans hbox)]; rfl
  have hfr : Hid (IsB w1.heap.size w1.heap.size [] (w1.alloc (.cells #[.pointer none, .slice none 0 0] 77))) := Lib.IsBuilderF.of (Lib.fresh_isBuilder 77 5 w1)
  have hb2 : ∀ o, Below w.heap.size w (w1.alloc o) := fun o => (((Below.refl _ w).alloc (Nat.le_refl _) _).trans (hb1.out.mono (by simp))).alloc (by omega) o
  have hb3 : ∀ o, Below w1.heap.size w1 (w1.alloc o) := fun o => (Below.refl _ w1).alloc (Nat.le_refl _) o
  have hKw : Hid (∀ o, KnB g.M w1.heap.size (w1.alloc o)) := fun o => ⟨fun b x y h => Nat.lt_trans (hK.lt b x y h) hlt, fun b x y h => ((hb2 o).cell (p := ⟨b, x, none⟩) (hK.lt b x y h)).trans (hK.at_ b x y h)⟩
  have hTw : Hid (∀ o, TabB w1.heap.size (w1.alloc o)) := fun o => ⟨Nat.lt_trans hT0.lt hlt, (hT0.on (hb2 o)).is⟩
  have hb2 := Lib.hid hb2
  clear hbox hb3 hw1 hsz hT0
  have hs := Lib.hid hs
  go_wp2_with (go_at_call 35; refine (write_i g.M 128 v hs.out hv [] w1.heap.size w1.heap.size _ n1 a1 len1 cap1 hfr.out (by simp) (hKw.out _) (hTw.out _) hr (by have := hs.out; simp; omega)).mono ?_; rintro e w2 ⟨rfl, hB2, hb4, _⟩; refine Hid.out ?_)
  refine Lib.hid ?_
  go_wp2_with (go_at_call 36; refine (bstr w1.heap.size w1.heap.size _ w2 hB2 (by have := hb4.size; simp at this; omega)).mono ?_; rintro e w3 ⟨rfl, hb5⟩; refine Hid.out ?_)
  refine Lib.hid ?_
  go_wp2
  go_ret2
  refine ⟨_, rfl, ?_, ((hb2.out _).trans (hb4.mono (Nat.le_of_lt hlt))).trans (hb5.mono (Nat.le_of_lt hlt))⟩
  simp only [repD, List.nil_append]
  exact ⟨_, rfl, repDs_two.2 ⟨_, _, rfl, by simp only [repD, repV_str]; rfl, by simp only [repD, repV_int]; rfl⟩⟩
end Go.Proofs.YtopbcpgmffppjaaGreatDoor

namespace Go.Proofs.YtopbcpgmffppjaaGreatDoor
open Go.Dv Go.Nv Go.RowKit
set_option maxRecDepth 100000
/-- an int -/
def I64 (n : Int) : Prop := -9223372036854775808 ≤ n ∧ n ≤ 9223372036854775807
/-- what Atoi returns -/
def atD (s : List UInt8) : Int × D := match Lib.atoiAll s with
  | .ok n => (n, .raw .nilIface)
  | .syntax => (0, .err)
  | .range => (Lib.atoiSat s, .err)
theorem atD_I64 (s : List UInt8) : I64 (atD s).1 := by
  unfold atD
  split
  · rename_i n h; have := Lib.atoiAll_bounds h; exact ⟨by omega, by omega⟩
  · exact ⟨by decide, by decide⟩
  · have := Lib.atoiSat_bounds s; exact ⟨by omega, by omega⟩
theorem atoi_any (s : List UInt8) (hs : s.length ≤ 1000000) : FSpec PP 90 [ds s] σ0 (.tup [di (atD s).1, (atD s).2]) σ0 := by
  refine spec_below ⟨_, Tryz.func90, by kernel_rfl, by kernel_rfl⟩ fun g w args hw ha => ?_
  obtain ⟨u0, rfl, h0⟩ := repDs_one.1 ha
  simp only [repD, repV_str] at h0
  subst h0
  have hsz : ByteArray.size ⟨s.toArray⟩ = s.length := by simp [ByteArray.size]
  obtain ⟨⟨t1, p1, g1⟩, t2, p2, g2⟩ := hw.gl.more
  have g1 := hw.mem _ _ _ g1
  have g2 := hw.mem _ _ _ g2
  unfold atD
  cases h : Lib.atoiAll s with
  | ok n =>
    refine (Any.strconv_Atoi_ok Tryz.lays172 ⟨s.toArray⟩ (by rw [hsz]; omega) n h w).mono ?_
    rintro e w' ⟨rfl, hw'⟩
    refine ⟨_, rfl, ?_, ?_⟩
    · simp only [repD]
      exact ⟨_, rfl, repDs_two.2 ⟨_, _, rfl, by simp only [repD, repV_int], by simp only [repD]⟩⟩
    · rcases hw' with rfl | ⟨t, rfl⟩
      · exact Below.refl _ _
      · exact Lib.bytesWorld_below _ _ _
  | «syntax» =>
    refine (Any.strconv_Atoi_syntax Tryz.lays172 ⟨s.toArray⟩ (by rw [hsz]; omega) h _ w g1 (.inr ⟨_, _, rfl⟩)).mono ?_
    rintro e w' ⟨N, rfl, _, _, hb⟩
    refine ⟨_, rfl, ?_, hb⟩
    simp only [repD]
    exact ⟨_, rfl, repDs_two.2 ⟨_, _, rfl, by simp only [repD, repV_int], by simp only [repD]; exact ⟨_, _, rfl⟩⟩⟩
  | range =>
    refine (Any.strconv_Atoi_range Tryz.lays172 ⟨s.toArray⟩ (by rw [hsz]; omega) h _ w g2 (.inr ⟨_, _, rfl⟩)).mono ?_
    rintro e w' ⟨N, rfl, _, _, hb⟩
    refine ⟨_, rfl, ?_, hb⟩
    simp only [repD]
    exact ⟨_, rfl, repDs_two.2 ⟨_, _, rfl, by simp only [repD, repV_int], by simp only [repD]; exact ⟨_, _, rfl⟩⟩⟩
/-- an error is held against nil -/
theorem op_neErr {P : Program} {o : Oper} {σ : St} {t ty : TypeId} {x : Operand} (ho : o.op = .binOp .neq t x (.const .nilIface) ty) (hi : P.underlying t = some (.interface (P.methodsAt t))) : OpOK P o [.err, .undef] σ (db true) σ := by
  intro E g a w K Q hw hds hK
  simp only [ho, Op.operands] at hds
  obtain ⟨u, v, e, h1, _⟩ := repDs_two.1 hds
  simp only [List.map_cons, List.map_nil, List.cons.injEq, and_true] at e
  obtain ⟨e1, e2⟩ := e
  simp only [repD] at h1
  obtain ⟨t', p', rfl⟩ := h1
  have e3 : a.eval (.const .nilIface) = .nilIface := rfl
  unfold Oper.wp
  have : (execOp a.eval o).run P w = .ok (.value (.bool true)) w := by
    simp [execOp, ho, e1, e3, eqGuard, binOp, run_equal_held_nil w t t' p' hi]
  rw [this]
  exact hK g w _ hw g.le_refl (by simp [repD])
end Go.Proofs.YtopbcpgmffppjaaGreatDoor

namespace Go.Proofs.YtopbcpgmffppjaaGreatDoor
open Go.Dv Go.Nv
set_option maxRecDepth 20000
theorem tk_any (s : List UInt8) (hs : s.length ≤ 1000000) (p n : Nat) (b : Bool) (c : UInt8) (hp : p ≤ s.length) : ∃ (t : Bool) (q : Nat), p ≤ q ∧ q ≤ s.length ∧ (t = true → q = p + 1) ∧ FSpec PP 89 [.ptr 0 0, .v (vb c)] (rd s p n b) (db t) (rd s q n b) := by
  by_cases hl : p < s.length
  · have hx : s[p]? = some s[p] := List.getElem?_eq_getElem hl
    by_cases hc : s[p] = c
    · rw [hc] at hx
      exact ⟨true, p + 1, by omega, by omega, fun _ => rfl, tk_hit s hs p n b c hx⟩
    · exact ⟨false, p, by omega, by omega, fun h => by simp at h, tk_miss s hs p n b c _ hx hc⟩
  · exact ⟨false, p, by omega, by omega, fun h => by simp at h, tk_end s hs p n b c (by omega)⟩
theorem atoi_ex (a : List UInt8) (ha : a.length ≤ 1000000) : ∃ (n : Int) (e : D), I64 n ∧ ((e = .raw .nilIface ∧ a ≠ []) ∨ e = .err) ∧ FSpec PP 90 [ds a] σ0 (.tup [di n, e]) σ0 := by
  refine ⟨_, _, atD_I64 a, ?_, atoi_any a ha⟩
  unfold atD
  split
  · rename_i n h
    refine .inl ⟨rfl, fun e => ?_⟩
    subst e; simp [Lib.atoiAll] at h
  · exact .inr rfl
  · exact .inr rfl
/-- from any code on -/
theorem code_vc {P : Program} (hm : P.follows .mixedOrders = true) {C : Nat} {fn : Func} {d : D} {σ' : St} (nt : Nat) (im : List Nat) {ks T : List KI} {L : List (Nat × D)} {σ : St} (s : Sc)
    (h : forceK (mkE nt L) fun env => vc (CN C) C P (fun env σ1 => ResOK P fn env σ1 d σ') (vRet P fn.results.toList d σ') nt im T 10000 s ks env σ) : Rn P fn C d σ' (ks ++ T) (mkE nt L) σ := run_vc hm (linkN _) _ (fun _ _ h => h.2) nt im s h
/-- a value is read from here, or the text is bad -/
def VRes (s : List UInt8) (p n : Nat) : Prop := ∃ (v : Val) (q n' : Nat) (b : Bool), (p ≤ q ∧ q ≤ s.length) ∧ (b = false → p < q ∧ n' = n + v.size ∧ n' ≤ 128 ∧ rgB v = true) ∧ n' ≤ 129 ∧ FSpec PP 57 [.ptr 0 0] (rd s p n false) (dV v) (rd s q n' b)
theorem digs_any (s : List UInt8) (hs : s.length ≤ 1000000) (p n : Nat) : ∀ (k a : Nat), s.length - a ≤ k → a ≤ s.length → ∃ q, a ≤ q ∧ q ≤ s.length ∧ ∀ (d : D) (σ' : St),
    Rn PP fVal 1 d σ' ([.code (sub cVal [1, 1, 1, 1])] ++ []) (mkE 125 [(0, .ptr 0 0), (2, .ptr 1 0), (3, di p)]) (stVl s q n) →
    Rn PP fVal 1 d σ' ([.lp (sub cVal [1, 1, 1, 0, 0, 0]), .blk 0] ++ [.code (sub cVal [1, 1, 1, 1])]) (mkE 125 [(0, .ptr 0 0), (2, .ptr 1 0), (3, di p)]) (stVl s a n) := by
  intro k
  induction k with
  | zero =>
    intro a hk ha
    refine ⟨a, Nat.le_refl _, ha, fun d σ' h => ?_⟩
    refine loop_vc mixed 125 [] (.f <| .k <| .k <| .ls [ke 0, ke 2, ke 3] (stVl s a n)) ?_
    refine via (by kernel_rfl : (decide ((↑a : Int) < (↑(List.length s) : Int)) = false ∧ (True ∧ True ∧ True) ∧ [some (cRd s a n false), some [di 0, D.v V.nils]] = [some (cRd s a n false), some [di 0, D.v V.nils]] ∧ Nv.It (RunC (CN 1) PP (fun env σ1 => ResOK PP fVal env σ1 d σ') [KI.code (sub cVal [1, 1, 1, 1])] (mkE 125 [(0, D.ptr 0 0), (2, D.ptr 1 0), (3, di (↑p : Int))]) (stVl s a n))) = _) ?_
    exact ⟨decide_eq_false (by omega), ⟨trivial, trivial, trivial⟩, rfl, ⟨h⟩⟩
  | succ k ih =>
    intro a hk ha
    by_cases hl : a < s.length
    · have hx : s[a]? = some s[a] := List.getElem?_eq_getElem hl
      generalize s[a] = c at hx
      by_cases h1 : c.toNat < 48
      · refine ⟨a, Nat.le_refl _, ha, fun d σ' h => ?_⟩
        refine loop_vc mixed 125 [] (.t <| .y c <| .f <| .k <| .ls [ke 0, ke 2, ke 3] (stVl s a n)) ?_
        refine via (by kernel_rfl : (decide ((↑a : Int) < (↑(List.length s) : Int)) = true ∧ 0 ≤ (↑a : Int) ∧ s[Int.toNat (↑a : Int)]? = some c ∧ decide ((↑(UInt8.toNat c) : Int) ≥ 48) = false ∧ (True ∧ True ∧ True ∧ True ∧ True) ∧ [some (cRd s a n false), some [di 0, D.v V.nils]] = [some (cRd s a n false), some [di 0, D.v V.nils]] ∧ Nv.It (RunC (CN 1) PP (fun env σ1 => ResOK PP fVal env σ1 d σ') [KI.code (sub cVal [1, 1, 1, 1])] (mkE 125 [(0, D.ptr 0 0), (2, D.ptr 1 0), (3, di (↑p : Int))]) (stVl s a n))) = _) ?_
        exact ⟨decide_eq_true (by omega), by omega, hx, decide_eq_false (by omega), ⟨trivial, trivial, trivial, trivial, trivial⟩, rfl, ⟨h⟩⟩
      · by_cases h2 : 57 < c.toNat
        · refine ⟨a, Nat.le_refl _, ha, fun d σ' h => ?_⟩
          refine loop_vc mixed 125 [] (.t <| .y c <| .t <| .y c <| .f <| .ls [ke 0, ke 2, ke 3] (stVl s a n)) ?_
          refine via (by kernel_rfl : (decide ((↑a : Int) < (↑(List.length s) : Int)) = true ∧ 0 ≤ (↑a : Int) ∧ s[Int.toNat (↑a : Int)]? = some c ∧ decide ((↑(UInt8.toNat c) : Int) ≥ 48) = true ∧ 0 ≤ (↑a : Int) ∧ s[Int.toNat (↑a : Int)]? = some c ∧ (True ∧ True ∧ True ∧ True ∧ True ∧ True ∧ True) ∧ decide ((↑(UInt8.toNat c) : Int) ≤ 57) = false ∧ [some (cRd s a n false), some [di 0, D.v V.nils]] = [some (cRd s a n false), some [di 0, D.v V.nils]] ∧ Nv.It (RunC (CN 1) PP (fun env σ1 => ResOK PP fVal env σ1 d σ') [KI.code (sub cVal [1, 1, 1, 1])] (mkE 125 [(0, D.ptr 0 0), (2, D.ptr 1 0), (3, di (↑p : Int))]) (stVl s a n))) = _) ?_
          exact ⟨decide_eq_true (by omega), by omega, hx, decide_eq_true (by omega), by omega, hx, ⟨trivial, trivial, trivial, trivial, trivial, trivial, trivial⟩, decide_eq_false (by omega), rfl, ⟨h⟩⟩
        · obtain ⟨q, q1, q2, q3⟩ := ih (a + 1) (by omega) (by omega)
          refine ⟨q, by omega, q2, fun d σ' h => ?_⟩
          have hrn := q3 d σ' h
          refine loop_vc mixed 125 [] (.t <| .y c <| .t <| .y c <| .t <| .ls [ke 0, ke 2, ke 3] (stVl s (a + 1) n)) ?_
          refine via (by kernel_rfl : (decide ((↑a : Int) < (↑(List.length s) : Int)) = true ∧ 0 ≤ (↑a : Int) ∧ s[Int.toNat (↑a : Int)]? = some c ∧ decide ((↑(UInt8.toNat c) : Int) ≥ 48) = true ∧ 0 ≤ (↑a : Int) ∧ s[Int.toNat (↑a : Int)]? = some c ∧ (True ∧ True ∧ True ∧ True ∧ True ∧ True ∧ True) ∧ decide ((↑(UInt8.toNat c) : Int) ≤ 57) = true ∧ [some [D.v (V.str s), di (IntKind.wrap IntKind.i64 ((↑a : Int) + 1)), di (↑n : Int), db false], some [di 0, D.v V.nils]] = [some (cRd s (a + 1) n false), some [di 0, D.v V.nils]] ∧ Nv.It (RunC (CN 1) PP (fun env σ1 => ResOK PP fVal env σ1 d σ') [KI.lp (sub cVal [1, 1, 1, 0, 0, 0]), KI.blk 0, KI.code (sub cVal [1, 1, 1, 1])] (mkE 125 [(0, D.ptr 0 0), (2, D.ptr 1 0), (3, di (↑p : Int))]) (stVl s (a + 1) n))) = _) ?_
          rw [wrap_succ (by omega)]
          exact ⟨decide_eq_true (by omega), by omega, hx, decide_eq_true (by omega), by omega, hx, ⟨trivial, trivial, trivial, trivial, trivial, trivial, trivial⟩, decide_eq_true (by omega), rfl, ⟨hrn⟩⟩
    · refine ⟨a, Nat.le_refl _, ha, fun d σ' h => ?_⟩
      refine loop_vc mixed 125 [] (.f <| .k <| .k <| .ls [ke 0, ke 2, ke 3] (stVl s a n)) ?_
      refine via (by kernel_rfl : (decide ((↑a : Int) < (↑(List.length s) : Int)) = false ∧ (True ∧ True ∧ True) ∧ [some (cRd s a n false), some [di 0, D.v V.nils]] = [some (cRd s a n false), some [di 0, D.v V.nils]] ∧ Nv.It (RunC (CN 1) PP (fun env σ1 => ResOK PP fVal env σ1 d σ') [KI.code (sub cVal [1, 1, 1, 1])] (mkE 125 [(0, D.ptr 0 0), (2, D.ptr 1 0), (3, di (↑p : Int))]) (stVl s a n))) = _) ?_
      exact ⟨decide_eq_false (by omega), ⟨trivial, trivial, trivial⟩, rfl, ⟨h⟩⟩
theorem rgsB_snoc {x : Val} : ∀ {l : List Val}, rgsB l = true → rgB x = true → rgsB (l ++ [x]) = true
  | [], _, h => by simp [rgsB, h]
  | y :: l, h, hx => by
    simp only [rgsB, Bool.and_eq_true, List.cons_append] at h ⊢
    exact ⟨h.1, rgsB_snoc h.2 hx⟩
theorem sizes_snoc : ∀ (l : List Val) (x : Val), Val.sizes (l ++ [x]) = Val.sizes l + x.size
  | [], x => by simp [Val.sizes]
  | y :: l, x => by simp only [List.cons_append, Val.sizes, sizes_snoc l x]; omega
theorem kids_any (s : List UInt8) (hs : s.length ≤ 1000000) (v0 : Int) (K : Nat) (IH : ∀ p n, s.length - p < K → p ≤ s.length → n ≤ 128 → VRes s p n) : ∀ (k p n : Nat) (ks : List Val), s.length - p ≤ k → s.length - p < K → p ≤ s.length → n ≤ 128 → ks.length ≤ n → rgsB ks = true →
    ∃ (all : List Val) (q n' : Nat) (b : Bool), (p ≤ q ∧ q ≤ s.length) ∧ (b = false → n' + Val.sizes ks = n + Val.sizes all ∧ n' ≤ 128 ∧ rgsB all = true) ∧ n' ≤ 129 ∧
      Rn PP fVal 1 (dV (.mk v0 all)) (rd s q n' b) ([.lp (sub cVal [1, 1, 1, 1, 1, 1, 1, 1, 1, 0, 1, 0, 0]), .blk 2, .code (sub cVal [1, 1, 1, 1, 1, 1, 1, 1, 1, 1])] ++ []) (mkE 125 [(0, .ptr 0 0), (2, .ptr 1 0), (6, .ptr 2 0), (7, db true)]) (stK s p n v0 ks) := by
  intro k
  induction k with
  | zero =>
    intro p n ks hk hK hp hn hl hr
    obtain ⟨x, q, n2, b, ⟨x1, x2⟩, x3, x4, hx⟩ := IH p n hK hp hn
    cases b with
    | false => have := x3 rfl; omega
    | true =>
      obtain ⟨t, q', t1, t2, _, t4⟩ := tk_any s hs q n2 true 32 x2
      refine ⟨ks ++ [x], q', n2, true, ⟨by omega, t2⟩, fun h => by simp at h, x4, ?_⟩
      cases t with
      | true =>
        refine loop_vc mixed 125 [] (.k <| .k <| .m (.acc 1 (ks.map eV)) <| .c1 (cRd s q n2 true) (dV x) <| .c1 (cRd s q' n2 true) (db true) <| .n <| .r) ?_
        refine via (by kernel_rfl : (some (D.acc 1 (List.map eV ks)) = some (D.acc 1 (List.map eV ks)) ∧ FSpec PP 57 [D.ptr 0 0] (St.mk [some (cRd s p n false)] []) (dV x) (St.mk [some (cRd s q n2 true)] []) ∧ List.map eV ks = List.map eV ks ∧ LenOK (List.length (List.map eV ks) + List.length (vVal x :: nV)) 32 ∧ ((some [D.acc 1 (List.map eV ks)] = some [D.acc 1 (List.map eV ks)] ∧ True) ∧ True) ∧ FSpec PP 89 [D.ptr 0 0, D.v (V.int IntKind.u8 32)] (St.mk [some (cRd s q n2 true)] []) (db true) (St.mk [some (cRd s q' n2 true)] []) ∧ [some [D.v (V.str s), di (↑q' : Int), di (↑n2 : Int), db true]] = [some (cRd s q' n2 true)] ∧ D.v (V.agg [vi v0, V.list (List.map eV ks ++ [vVal x])]) = dV (Val.mk v0 (ks ++ [x]))) = _) ?_
        rw [vb32]
        refine ⟨rfl, hx, rfl, ⟨?_, ?_⟩, ⟨⟨rfl, trivial⟩, trivial⟩, t4, rfl, ?_⟩
        · simp only [List.length_map, List.length_cons, List.length_nil]; omega
        · simp only [List.length_map, List.length_cons, List.length_nil]; omega
        · rw [eVs_snoc]; exact (dV_mk v0 _).symm
      | false =>
        refine loop_vc mixed 125 [] (.k <| .k <| .m (.acc 1 (ks.map eV)) <| .c1 (cRd s q n2 true) (dV x) <| .c1 (cRd s q' n2 true) (db false) <| .n <| .r) ?_
        refine via (by kernel_rfl : (some (D.acc 1 (List.map eV ks)) = some (D.acc 1 (List.map eV ks)) ∧ FSpec PP 57 [D.ptr 0 0] (St.mk [some (cRd s p n false)] []) (dV x) (St.mk [some (cRd s q n2 true)] []) ∧ List.map eV ks = List.map eV ks ∧ LenOK (List.length (List.map eV ks) + List.length (vVal x :: nV)) 32 ∧ ((some [D.acc 1 (List.map eV ks)] = some [D.acc 1 (List.map eV ks)] ∧ True) ∧ True) ∧ FSpec PP 89 [D.ptr 0 0, D.v (V.int IntKind.u8 32)] (St.mk [some (cRd s q n2 true)] []) (db false) (St.mk [some (cRd s q' n2 true)] []) ∧ [some [D.v (V.str s), di (↑q' : Int), di (↑n2 : Int), db true]] = [some (cRd s q' n2 true)] ∧ D.v (V.agg [vi v0, V.list (List.map eV ks ++ [vVal x])]) = dV (Val.mk v0 (ks ++ [x]))) = _) ?_
        rw [vb32]
        refine ⟨rfl, hx, rfl, ⟨?_, ?_⟩, ⟨⟨rfl, trivial⟩, trivial⟩, t4, rfl, ?_⟩
        · simp only [List.length_map, List.length_cons, List.length_nil]; omega
        · simp only [List.length_map, List.length_cons, List.length_nil]; omega
        · rw [eVs_snoc]; exact (dV_mk v0 _).symm
  | succ k ih =>
    intro p n ks hk hK hp hn hl hr
    obtain ⟨x, q, n2, b, ⟨x1, x2⟩, x3, x4, hx⟩ := IH p n hK hp hn
    cases b with
    | true =>
      obtain ⟨t, q', t1, t2, _, t4⟩ := tk_any s hs q n2 true 32 x2
      refine ⟨ks ++ [x], q', n2, true, ⟨by omega, t2⟩, fun h => by simp at h, x4, ?_⟩
      cases t with
      | true =>
        refine loop_vc mixed 125 [] (.k <| .k <| .m (.acc 1 (ks.map eV)) <| .c1 (cRd s q n2 true) (dV x) <| .c1 (cRd s q' n2 true) (db true) <| .n <| .r) ?_
        refine via (by kernel_rfl : (some (D.acc 1 (List.map eV ks)) = some (D.acc 1 (List.map eV ks)) ∧ FSpec PP 57 [D.ptr 0 0] (St.mk [some (cRd s p n false)] []) (dV x) (St.mk [some (cRd s q n2 true)] []) ∧ List.map eV ks = List.map eV ks ∧ LenOK (List.length (List.map eV ks) + List.length (vVal x :: nV)) 32 ∧ ((some [D.acc 1 (List.map eV ks)] = some [D.acc 1 (List.map eV ks)] ∧ True) ∧ True) ∧ FSpec PP 89 [D.ptr 0 0, D.v (V.int IntKind.u8 32)] (St.mk [some (cRd s q n2 true)] []) (db true) (St.mk [some (cRd s q' n2 true)] []) ∧ [some [D.v (V.str s), di (↑q' : Int), di (↑n2 : Int), db true]] = [some (cRd s q' n2 true)] ∧ D.v (V.agg [vi v0, V.list (List.map eV ks ++ [vVal x])]) = dV (Val.mk v0 (ks ++ [x]))) = _) ?_
        rw [vb32]
        refine ⟨rfl, hx, rfl, ⟨?_, ?_⟩, ⟨⟨rfl, trivial⟩, trivial⟩, t4, rfl, ?_⟩
        · simp only [List.length_map, List.length_cons, List.length_nil]; omega
        · simp only [List.length_map, List.length_cons, List.length_nil]; omega
        · rw [eVs_snoc]; exact (dV_mk v0 _).symm
      | false =>
        refine loop_vc mixed 125 [] (.k <| .k <| .m (.acc 1 (ks.map eV)) <| .c1 (cRd s q n2 true) (dV x) <| .c1 (cRd s q' n2 true) (db false) <| .n <| .r) ?_
        refine via (by kernel_rfl : (some (D.acc 1 (List.map eV ks)) = some (D.acc 1 (List.map eV ks)) ∧ FSpec PP 57 [D.ptr 0 0] (St.mk [some (cRd s p n false)] []) (dV x) (St.mk [some (cRd s q n2 true)] []) ∧ List.map eV ks = List.map eV ks ∧ LenOK (List.length (List.map eV ks) + List.length (vVal x :: nV)) 32 ∧ ((some [D.acc 1 (List.map eV ks)] = some [D.acc 1 (List.map eV ks)] ∧ True) ∧ True) ∧ FSpec PP 89 [D.ptr 0 0, D.v (V.int IntKind.u8 32)] (St.mk [some (cRd s q n2 true)] []) (db false) (St.mk [some (cRd s q' n2 true)] []) ∧ [some [D.v (V.str s), di (↑q' : Int), di (↑n2 : Int), db true]] = [some (cRd s q' n2 true)] ∧ D.v (V.agg [vi v0, V.list (List.map eV ks ++ [vVal x])]) = dV (Val.mk v0 (ks ++ [x]))) = _) ?_
        rw [vb32]
        refine ⟨rfl, hx, rfl, ⟨?_, ?_⟩, ⟨⟨rfl, trivial⟩, trivial⟩, t4, rfl, ?_⟩
        · simp only [List.length_map, List.length_cons, List.length_nil]; omega
        · simp only [List.length_map, List.length_cons, List.length_nil]; omega
        · rw [eVs_snoc]; exact (dV_mk v0 _).symm
    | false =>
      obtain ⟨x5, x6, x7, x8⟩ := x3 rfl
      have hrs : rgsB (ks ++ [x]) = true := rgsB_snoc hr x8
      have hsz : Val.sizes (ks ++ [x]) = Val.sizes ks + x.size := sizes_snoc ks x
      have hx1 := x.size_pos
      obtain ⟨t, q', t1, t2, t3, t4⟩ := tk_any s hs q n2 false 32 x2
      cases t with
      | true =>
        obtain rfl := t3 rfl
        obtain ⟨all, q3, n3, b3, ⟨y1, y2⟩, y3, y4, hrn⟩ := ih (q + 1) n2 (ks ++ [x]) (by omega) (by omega) t2 x7 (by rw [List.length_append, List.length_singleton]; omega) hrs
        refine ⟨all, q3, n3, b3, ⟨by omega, y2⟩, fun h => ?_, y4, ?_⟩
        · obtain ⟨z1, z2, z3⟩ := y3 h
          exact ⟨by omega, z2, z3⟩
        · refine loop_vc mixed 125 [] (.k <| .k <| .m (.acc 1 (ks.map eV)) <| .c1 (cRd s q n2 false) (dV x) <| .c1 (cRd s (q + 1) n2 false) (db true) <| .ls [ke 0, ke 2, ke 6, ch 7 (db true)] (stK s (q + 1) n2 v0 (ks ++ [x]))) ?_
          refine via (by kernel_rfl : (some (D.acc 1 (List.map eV ks)) = some (D.acc 1 (List.map eV ks)) ∧ FSpec PP 57 [D.ptr 0 0] (St.mk [some (cRd s p n false)] []) (dV x) (St.mk [some (cRd s q n2 false)] []) ∧ List.map eV ks = List.map eV ks ∧ LenOK (List.length (List.map eV ks) + List.length (vVal x :: nV)) 32 ∧ ((some [D.acc 1 (List.map eV ks)] = some [D.acc 1 (List.map eV ks)] ∧ True) ∧ True) ∧ FSpec PP 89 [D.ptr 0 0, D.v (V.int IntKind.u8 32)] (St.mk [some (cRd s q n2 false)] []) (db true) (St.mk [some (cRd s (q + 1) n2 false)] []) ∧ db true = db true ∧ [some (cRd s (q + 1) n2 false), some [di 0, D.v V.nils], some [di v0, D.acc 1 (List.map eV ks ++ vVal x :: nV)]] = [some (cRd s (q + 1) n2 false), some [di 0, D.v V.nils], some [di v0, D.acc 1 (List.map eV (ks ++ [x]))]] ∧ [(1, 2, List.map eV ks ++ vVal x :: nV)] = [(1, 2, List.map eV (ks ++ [x]))] ∧ Nv.It (RunC (CN 1) PP (fun env σ1 => ResOK PP fVal env σ1 (dV (Val.mk v0 all)) (rd s q3 n3 b3)) [KI.lp (sub cVal [1, 1, 1, 1, 1, 1, 1, 1, 1, 0, 1, 0, 0]), KI.blk 2, KI.code (sub cVal [1, 1, 1, 1, 1, 1, 1, 1, 1, 1])] (mkE 125 [(0, D.ptr 0 0), (2, D.ptr 1 0), (6, D.ptr 2 0), (7, db true)]) (stK s (q + 1) n2 v0 (ks ++ [x])))) = _) ?_
          rw [vb32]
          refine ⟨rfl, hx, rfl, ⟨?_, ?_⟩, ⟨⟨rfl, trivial⟩, trivial⟩, t4, rfl, ?_, ?_, ⟨hrn⟩⟩
          · simp only [List.length_map, List.length_cons, List.length_nil]; omega
          · simp only [List.length_map, List.length_cons, List.length_nil]; omega
          · rw [eVs_snoc]
          · rw [eVs_snoc]
      | false =>
        obtain ⟨t', q2, u1, u2, u3, u4⟩ := tk_any s hs q' n2 false 41 t2
        cases t' with
        | true =>
          refine ⟨ks ++ [x], q2, n2, false, ⟨by omega, u2⟩, fun _ => ⟨by omega, x7, hrs⟩, x4, ?_⟩
          refine loop_vc mixed 125 [] (.k <| .k <| .m (.acc 1 (ks.map eV)) <| .c1 (cRd s q n2 false) (dV x) <| .c1 (cRd s q' n2 false) (db false) <| .n <| .c1 (cRd s q2 n2 false) (db true) .r) ?_
          refine via (by kernel_rfl : (some (D.acc 1 (List.map eV ks)) = some (D.acc 1 (List.map eV ks)) ∧ FSpec PP 57 [D.ptr 0 0] (St.mk [some (cRd s p n false)] []) (dV x) (St.mk [some (cRd s q n2 false)] []) ∧ List.map eV ks = List.map eV ks ∧ LenOK (List.length (List.map eV ks) + List.length (vVal x :: nV)) 32 ∧ ((some [D.acc 1 (List.map eV ks)] = some [D.acc 1 (List.map eV ks)] ∧ True) ∧ True) ∧ FSpec PP 89 [D.ptr 0 0, D.v (V.int IntKind.u8 32)] (St.mk [some (cRd s q n2 false)] []) (db false) (St.mk [some (cRd s q' n2 false)] []) ∧ FSpec PP 89 [D.ptr 0 0, D.v (V.int IntKind.u8 41)] (St.mk [some (cRd s q' n2 false)] []) (db true) (St.mk [some (cRd s q2 n2 false)] []) ∧ [some [D.v (V.str s), di (↑q2 : Int), di (↑n2 : Int), db !true]] = [some (cRd s q2 n2 false)] ∧ D.v (V.agg [vi v0, V.list (List.map eV ks ++ [vVal x])]) = dV (Val.mk v0 (ks ++ [x]))) = _) ?_
          rw [vb32, vb41]
          refine ⟨rfl, hx, rfl, ⟨?_, ?_⟩, ⟨⟨rfl, trivial⟩, trivial⟩, t4, u4, rfl, ?_⟩
          · simp only [List.length_map, List.length_cons, List.length_nil]; omega
          · simp only [List.length_map, List.length_cons, List.length_nil]; omega
          · rw [eVs_snoc]; exact (dV_mk v0 _).symm
        | false =>
          refine ⟨ks ++ [x], q2, n2, true, ⟨by omega, u2⟩, fun h => by simp at h, x4, ?_⟩
          refine loop_vc mixed 125 [] (.k <| .k <| .m (.acc 1 (ks.map eV)) <| .c1 (cRd s q n2 false) (dV x) <| .c1 (cRd s q' n2 false) (db false) <| .n <| .c1 (cRd s q2 n2 false) (db false) .r) ?_
          refine via (by kernel_rfl : (some (D.acc 1 (List.map eV ks)) = some (D.acc 1 (List.map eV ks)) ∧ FSpec PP 57 [D.ptr 0 0] (St.mk [some (cRd s p n false)] []) (dV x) (St.mk [some (cRd s q n2 false)] []) ∧ List.map eV ks = List.map eV ks ∧ LenOK (List.length (List.map eV ks) + List.length (vVal x :: nV)) 32 ∧ ((some [D.acc 1 (List.map eV ks)] = some [D.acc 1 (List.map eV ks)] ∧ True) ∧ True) ∧ FSpec PP 89 [D.ptr 0 0, D.v (V.int IntKind.u8 32)] (St.mk [some (cRd s q n2 false)] []) (db false) (St.mk [some (cRd s q' n2 false)] []) ∧ FSpec PP 89 [D.ptr 0 0, D.v (V.int IntKind.u8 41)] (St.mk [some (cRd s q' n2 false)] []) (db false) (St.mk [some (cRd s q2 n2 false)] []) ∧ [some [D.v (V.str s), di (↑q2 : Int), di (↑n2 : Int), db !false]] = [some (cRd s q2 n2 true)] ∧ D.v (V.agg [vi v0, V.list (List.map eV ks ++ [vVal x])]) = dV (Val.mk v0 (ks ++ [x]))) = _) ?_
          rw [vb32, vb41]
          refine ⟨rfl, hx, rfl, ⟨?_, ?_⟩, ⟨⟨rfl, trivial⟩, trivial⟩, t4, u4, rfl, ?_⟩
          · simp only [List.length_map, List.length_cons, List.length_nil]; omega
          · simp only [List.length_map, List.length_cons, List.length_nil]; omega
          · rw [eVs_snoc]; exact (dV_mk v0 _).symm
theorem val_rest (s : List UInt8) (hs : s.length ≤ 1000000) (K : Nat) (IH : ∀ p n, s.length - p < K → p ≤ s.length → n ≤ 128 → VRes s p n) (p q n : Nat) (h1 : p ≤ q) (h2 : q ≤ s.length) (hK : s.length - p ≤ K) (hn : n ≤ 128) :
    ∃ (v : Val) (q' n' : Nat) (b : Bool), (p ≤ q' ∧ q' ≤ s.length) ∧ (b = false → p < q' ∧ n' = n + v.size ∧ n' ≤ 128 ∧ rgB v = true) ∧ n' ≤ 129 ∧
      Rn PP fVal 1 (dV v) (rd s q' n' b) ([.code (sub cVal [1, 1, 1, 1])] ++ []) (mkE 125 [(0, .ptr 0 0), (2, .ptr 1 0), (3, di p)]) (stVl s q n) := by
  obtain ⟨i, e, hi, he, ha⟩ := atoi_ex ((s.drop p).take (q - p)) (by rw [List.length_take, List.length_drop]; omega)
  rcases he with ⟨rfl, hne⟩ | rfl
  · have hpq : p < q := by
      rcases Nat.lt_or_ge p q with h | h
      · exact h
      · exact absurd (by rw [show q - p = 0 by omega]; rfl) hne
    by_cases hn8 : n + 1 ≤ 128
    · obtain ⟨t, q2, t1, t2, t3, t4⟩ := tk_any s hs q (n + 1) false 40 h2
      cases t with
      | false =>
        refine ⟨.mk i [], q2, n + 1, false, ⟨by omega, t2⟩, fun _ => ⟨by omega, rfl, hn8, by simp only [rgB, rgsB, Bool.and_eq_true, decide_eq_true_eq]; exact ⟨hi.1, hi.2, trivial⟩⟩, by omega, ?_⟩
        refine code_vc mixed 125 [] (.c (.tup [di i, .raw .nilIface]) <| .h (.q 7 1) <| .h (.o (db false) (St.mk [some (cRd s q (n + 1) false), some [di 0, .v .nils]] [])) <| .k <| .f <| .c1 (cRd s q2 (n + 1) false) (db false) <| .k .r) ?_
        refine via (by kernel_rfl : (0 ≤ (fun x => x.snd) (IntKind.i64, (↑p : Int)) ∧ (fun x => x.snd) (IntKind.i64, (↑p : Int)) ≤ (fun x => x.snd) (IntKind.i64, (↑q : Int)) ∧ (fun x => x.snd) (IntKind.i64, (↑q : Int)) ≤ (↑(List.length s) : Int) ∧ FSpec PP 90 [D.v (V.str (List.drop (Int.toNat ((fun x => x.snd) (IntKind.i64, (↑p : Int)))) (List.take (Int.toNat ((fun x => x.snd) (IntKind.i64, (↑q : Int)))) s)))] (St.mk [] []) (D.tup [di i, D.raw Value.nilIface]) (St.mk [] []) ∧ (True ∧ True ∧ True) ∧ OpOK PP (Oper.mk (some 77) (Op.binOp BinOp.neq 97 (Operand.tmp 76) (Operand.const Value.nilIface) 97) 4 "order.go:306" #[Edge.mk 0 Ground.data] none) [D.raw Value.nilIface, D.undef] (St.mk [some [D.v (V.str s), di (↑q : Int), di (IntKind.wrap IntKind.i64 ((↑n : Int) + 1)), db false], some [di 0, D.v V.nils]] []) (db false) (St.mk [some (cRd s q (n + 1) false), some [di 0, D.v V.nils]] []) ∧ decide ((↑(n + 1) : Int) > 128) = false ∧ FSpec PP 89 [D.ptr 0 0, D.v (V.int IntKind.u8 40)] (St.mk [some (cRd s q (n + 1) false)] []) (db false) (St.mk [some (cRd s q2 (n + 1) false)] []) ∧ [some (cRd s q2 (n + 1) false)] = [some (cRd s q2 (n + 1) false)] ∧ D.v (V.agg [vi i, V.list []]) = dV (Val.mk i [])) = _) ?_
        rw [vb40, wrap_succ (by omega), List.drop_take, show ((q : Nat) : Int).toNat = q from rfl, show ((p : Nat) : Int).toNat = p from rfl]
        exact ⟨by show (0 : Int) ≤ p; omega, by show (p : Int) ≤ q; omega, by show (q : Int) ≤ _; omega, ha, ⟨trivial, trivial, trivial⟩, op_neNil rfl (by kernel_rfl), decide_eq_false (by omega), t4, rfl, rfl⟩
      | true =>
        obtain rfl := t3 rfl
        obtain ⟨all, q3, n3, b3, ⟨y1, y2⟩, y3, y4, hrn⟩ := kids_any s hs i K IH _ (q + 1) (n + 1) [] (Nat.le_refl _) (by omega) t2 hn8 (by simp) rfl
        refine ⟨.mk i all, q3, n3, b3, ⟨by omega, y2⟩, fun h => ?_, y4, ?_⟩
        · obtain ⟨z1, z2, z3⟩ := y3 h
          simp only [Val.sizes] at z1
          exact ⟨by omega, by simp only [Val.size]; omega, z2, by simp only [rgB, Bool.and_eq_true, decide_eq_true_eq]; exact ⟨hi.1, hi.2, z3⟩⟩
        · refine code_vc mixed 125 [] (.c (.tup [di i, .raw .nilIface]) <| .h (.q 7 1) <| .h (.o (db false) (St.mk [some (cRd s q (n + 1) false), some [di 0, .v .nils]] [])) <| .k <| .f <| .h .rn <| .h (.q 11 0) <| .h (.cl 2 1 1 2) <| .c1 (cRd s (q + 1) (n + 1) false) (db true) <| .k <| .ls [ke 0, ke 2, ch 6 (.ptr 2 0), ch 7 (db true)] (stK s (q + 1) (n + 1) i [])) ?_
          refine via (by kernel_rfl : (0 ≤ (fun x => x.snd) (IntKind.i64, (↑p : Int)) ∧ (fun x => x.snd) (IntKind.i64, (↑p : Int)) ≤ (fun x => x.snd) (IntKind.i64, (↑q : Int)) ∧ (fun x => x.snd) (IntKind.i64, (↑q : Int)) ≤ (↑(List.length s) : Int) ∧ FSpec PP 90 [D.v (V.str (List.drop (Int.toNat ((fun x => x.snd) (IntKind.i64, (↑p : Int)))) (List.take (Int.toNat ((fun x => x.snd) (IntKind.i64, (↑q : Int)))) s)))] (St.mk [] []) (D.tup [di i, D.raw Value.nilIface]) (St.mk [] []) ∧ (True ∧ True ∧ True) ∧ OpOK PP (Oper.mk (some 77) (Op.binOp BinOp.neq 97 (Operand.tmp 76) (Operand.const Value.nilIface) 97) 4 "order.go:306" #[Edge.mk 0 Ground.data] none) [D.raw Value.nilIface, D.undef] (St.mk [some [D.v (V.str s), di (↑q : Int), di (IntKind.wrap IntKind.i64 ((↑n : Int) + 1)), db false], some [di 0, D.v V.nils]] []) (db false) (St.mk [some (cRd s q (n + 1) false), some [di 0, D.v V.nils]] []) ∧ decide ((↑(n + 1) : Int) > 128) = false ∧ FSpec PP 89 [D.ptr 0 0, D.v (V.int IntKind.u8 40)] (St.mk [some (cRd s q (n + 1) false)] []) (db true) (St.mk [some (cRd s (q + 1) (n + 1) false)] []) ∧ D.ptr 2 0 = D.ptr 2 0 ∧ db true = db true ∧ [some (cRd s (q + 1) (n + 1) false), some [di 0, D.v V.nils], some [di i, D.acc 1 nV]] = [some (cRd s (q + 1) (n + 1) false), some [di 0, D.v V.nils], some [di i, D.acc 1 nV]] ∧ [(1, 2, nV)] = [(1, 2, nV)] ∧ Nv.It (RunC (CN 1) PP (fun env σ1 => ResOK PP fVal env σ1 (dV (Val.mk i all)) (rd s q3 n3 b3)) [KI.lp (sub cVal [1, 1, 1, 1, 1, 1, 1, 1, 1, 0, 1, 0, 0]), KI.blk 2, KI.code (sub cVal [1, 1, 1, 1, 1, 1, 1, 1, 1, 1])] (mkE 125 [(0, D.ptr 0 0), (2, D.ptr 1 0), (6, D.ptr 2 0), (7, db true)]) (stK s (q + 1) (n + 1) i []))) = _) ?_
          rw [vb40, wrap_succ (by omega), List.drop_take, show ((q : Nat) : Int).toNat = q from rfl, show ((p : Nat) : Int).toNat = p from rfl]
          exact ⟨by show (0 : Int) ≤ p; omega, by show (p : Int) ≤ q; omega, by show (q : Int) ≤ _; omega, ha, ⟨trivial, trivial, trivial⟩, op_neNil rfl (by kernel_rfl), decide_eq_false (by omega), t4, rfl, rfl, rfl, rfl, ⟨hrn⟩⟩
    · refine ⟨.mk 0 [], q, n + 1, true, ⟨by omega, h2⟩, fun h => by simp at h, by omega, ?_⟩
      refine code_vc mixed 125 [] (.c (.tup [di i, .raw .nilIface]) <| .h (.q 7 1) <| .h (.o (db false) (St.mk [some (cRd s q (n + 1) false), some [di 0, .v .nils]] [])) <| .k <| .t <| .r) ?_
      refine via (by kernel_rfl : (0 ≤ (fun x => x.snd) (IntKind.i64, (↑p : Int)) ∧ (fun x => x.snd) (IntKind.i64, (↑p : Int)) ≤ (fun x => x.snd) (IntKind.i64, (↑q : Int)) ∧ (fun x => x.snd) (IntKind.i64, (↑q : Int)) ≤ (↑(List.length s) : Int) ∧ FSpec PP 90 [D.v (V.str (List.drop (Int.toNat ((fun x => x.snd) (IntKind.i64, (↑p : Int)))) (List.take (Int.toNat ((fun x => x.snd) (IntKind.i64, (↑q : Int)))) s)))] (St.mk [] []) (D.tup [di i, D.raw Value.nilIface]) (St.mk [] []) ∧ (True ∧ True ∧ True) ∧ OpOK PP (Oper.mk (some 77) (Op.binOp BinOp.neq 97 (Operand.tmp 76) (Operand.const Value.nilIface) 97) 4 "order.go:306" #[Edge.mk 0 Ground.data] none) [D.raw Value.nilIface, D.undef] (St.mk [some [D.v (V.str s), di (↑q : Int), di (IntKind.wrap IntKind.i64 ((↑n : Int) + 1)), db false], some [di 0, D.v V.nils]] []) (db false) (St.mk [some (cRd s q (n + 1) false), some [di 0, D.v V.nils]] []) ∧ decide ((↑(n + 1) : Int) > 128) = true ∧ [some [D.v (V.str s), di (↑q : Int), di (↑(n + 1) : Int), db true]] = [some (cRd s q (n + 1) true)] ∧ D.v (V.agg [vi 0, V.list []]) = dV (Val.mk 0 [])) = _) ?_
      rw [wrap_succ (by omega), List.drop_take, show ((q : Nat) : Int).toNat = q from rfl, show ((p : Nat) : Int).toNat = p from rfl]
      exact ⟨by show (0 : Int) ≤ p; omega, by show (p : Int) ≤ q; omega, by show (q : Int) ≤ _; omega, ha, ⟨trivial, trivial, trivial⟩, op_neNil rfl (by kernel_rfl), decide_eq_true (by omega), rfl, rfl⟩
  · refine ⟨.mk 0 [], q, n + 1, true, ⟨by omega, h2⟩, fun h => by simp at h, by omega, ?_⟩
    refine code_vc mixed 125 [] (.c (.tup [di i, .err]) <| .h (.q 7 1) <| .h (.o (db true) (St.mk [some (cRd s q (n + 1) false), some [di 0, .v .nils]] [])) <| .k <| .k <| .r) ?_
    refine via (by kernel_rfl : (0 ≤ (fun x => x.snd) (IntKind.i64, (↑p : Int)) ∧ (fun x => x.snd) (IntKind.i64, (↑p : Int)) ≤ (fun x => x.snd) (IntKind.i64, (↑q : Int)) ∧ (fun x => x.snd) (IntKind.i64, (↑q : Int)) ≤ (↑(List.length s) : Int) ∧ FSpec PP 90 [D.v (V.str (List.drop (Int.toNat ((fun x => x.snd) (IntKind.i64, (↑p : Int)))) (List.take (Int.toNat ((fun x => x.snd) (IntKind.i64, (↑q : Int)))) s)))] (St.mk [] []) (D.tup [di i, D.err]) (St.mk [] []) ∧ (True ∧ True ∧ True) ∧ OpOK PP (Oper.mk (some 77) (Op.binOp BinOp.neq 97 (Operand.tmp 76) (Operand.const Value.nilIface) 97) 4 "order.go:306" #[Edge.mk 0 Ground.data] none) [D.err, D.undef] (St.mk [some [D.v (V.str s), di (↑q : Int), di (IntKind.wrap IntKind.i64 ((↑n : Int) + 1)), db false], some [di 0, D.v V.nils]] []) (db true) (St.mk [some (cRd s q (n + 1) false), some [di 0, D.v V.nils]] []) ∧ [some [D.v (V.str s), di (↑q : Int), di (↑(n + 1) : Int), db true]] = [some (cRd s q (n + 1) true)] ∧ D.v (V.agg [vi 0, V.list []]) = dV (Val.mk 0 [])) = _) ?_
    rw [wrap_succ (by omega), List.drop_take, show ((q : Nat) : Int).toNat = q from rfl, show ((p : Nat) : Int).toNat = p from rfl]
    exact ⟨by show (0 : Int) ≤ p; omega, by show (p : Int) ≤ q; omega, by show (q : Int) ≤ _; omega, ha, ⟨trivial, trivial, trivial⟩, op_neErr rfl (by kernel_rfl), rfl, rfl⟩
theorem val_any (s : List UInt8) (hs : s.length ≤ 1000000) : ∀ (K p n : Nat), s.length - p < K → p ≤ s.length → n ≤ 128 → VRes s p n := by
  intro K
  induction K with
  | zero => intro p n h; omega
  | succ K ih =>
    intro p n hK hp hn
    obtain ⟨t, q0, t1, t2, _, t4⟩ := tk_any s hs p n false 45 hp
    obtain ⟨q, d1, d2, d3⟩ := digs_any s hs p n _ q0 (Nat.le_refl _) t2
    obtain ⟨v, q', n', b, v1, v2, v3, hrn⟩ := val_rest s hs K ih p q n (by omega) d2 (by omega) hn
    refine ⟨v, q', n', b, v1, v2, v3, ?_⟩
    have hrn := d3 _ _ hrn
    refine spec_vc mixed fVal cVal (by kernel_rfl) (by kernel_rfl) (by kernel_rfl) (by kernel_rfl) 125 (by kernel_rfl) [] (.c1 (cRd s q0 n false) (db t) <| .ls [ke 0, ke 2, ch 3 (di p)] (stVl s q0 n)) ?_
    refine via (by kernel_rfl : (FSpec PP 89 [D.ptr 0 0, D.v (V.int IntKind.u8 45)] (St.mk [some (cRd s p n false)] []) (db t) (St.mk [some (cRd s q0 n false)] []) ∧ di (↑p : Int) = di (↑p : Int) ∧ [some (cRd s q0 n false), some [di 0, D.v V.nils]] = [some (cRd s q0 n false), some [di 0, D.v V.nils]] ∧ Nv.It (RunC (CN (List.length (rd s p n false).H)) PP (fun env σ1 => ResOK PP fVal env σ1 (dV v) (rd s q' n' b)) [KI.lp (sub cVal [1, 1, 1, 0, 0, 0]), KI.blk 0, KI.code (sub cVal [1, 1, 1, 1])] (mkE 125 [(0, D.ptr 0 0), (2, D.ptr 1 0), (3, di (↑p : Int))]) (stVl s q0 n))) = _) ?_
    rw [vb45]
    exact ⟨t4, rfl, rfl, ⟨hrn⟩⟩
end Go.Proofs.YtopbcpgmffppjaaGreatDoor

namespace Go.Proofs.YtopbcpgmffppjaaGreatDoor
open Go.Dv Go.Nv
set_option maxRecDepth 20000
/-- a value that may come out of a text -/
structure RdV (v : Val) : Prop where
  rg : rgB v = true
  size : v.size ≤ 128
theorem rdV0 : RdV (.mk 0 []) := ⟨rfl, by decide⟩
theorem oparse_any (s : List UInt8) (hs : s.length ≤ 1000000) : ∃ (v : Val) (e : Int), RdV v ∧ FSpec PP 38 [ds s] σ0 (.tup [dV v, di e]) σ0 := by
  by_cases hl : s.length ≤ 4096
  · obtain ⟨v, q, n, b, ⟨q1, q2⟩, h1, h2, h3⟩ := val_any s hs (s.length + 1) 0 0 (by omega) (by omega) (by omega)
    cases b with
    | true =>
      refine ⟨.mk 0 [], 12, rdV0, ?_⟩
      refine spec_vc mixed fOPar cOPar (by kernel_rfl) (by kernel_rfl) (by kernel_rfl) (by kernel_rfl) 45 (by kernel_rfl) [] (.f <| .c1 (cRd s q n true) (dV v) <| .k <| .k <| .r) ?_
      refine via (by kernel_rfl : (decide ((↑(List.length s) : Int) > 4096) = false ∧ FSpec PP 57 [D.ptr 0 0] (St.mk [some [D.v (V.str s), di 0, di 0, db false]] []) (dV v) (St.mk [some (cRd s q n true)] []) ∧ D.tup [D.v (V.agg [vi 0, V.list []]), di 12] = D.tup [dV (Val.mk 0 []), di 12]) = _) ?_
      exact ⟨decide_eq_false (by omega), h3, rfl⟩
    | false =>
      obtain ⟨h4, h5, h6, h7⟩ := h1 rfl
      have hv : RdV v := ⟨h7, by omega⟩
      by_cases hq : q = s.length
      · have ht := otextI_spec v h7 (by omega)
        by_cases he : textI v = s
        · refine ⟨v, 0, hv, ?_⟩
          rw [he] at ht
          refine spec_vc mixed fOPar cOPar (by kernel_rfl) (by kernel_rfl) (by kernel_rfl) (by kernel_rfl) 45 (by kernel_rfl) [] (.f <| .c1 (cRd s q n false) (dV v) <| .k <| .f <| .c (.tup [ds s, di 0]) <| .k <| .f <| .r) ?_
          refine via (by kernel_rfl : (decide ((↑(List.length s) : Int) > 4096) = false ∧ FSpec PP 57 [D.ptr 0 0] (St.mk [some [D.v (V.str s), di 0, di 0, db false]] []) (dV v) (St.mk [some (cRd s q n false)] []) ∧ ((↑q : Int) != (↑(List.length s) : Int)) = false ∧ FSpec PP 25 [D.v (V.agg [vi (Val.n v), vVs (Val.kids v)])] (St.mk [] []) (D.tup [D.v (V.str s), di 0]) (St.mk [] []) ∧ (!s == s) = false ∧ D.tup [D.v (V.agg [vi (Val.n v), V.list (List.map eV (Val.kids v))]), di 0] = D.tup [dV v, di 0]) = _) ?_
          exact ⟨decide_eq_false (by omega), h3, by simp [hq], ht, by simp, rfl⟩
        · refine ⟨.mk 0 [], 12, rdV0, ?_⟩
          generalize textI v = u at ht he
          refine spec_vc mixed fOPar cOPar (by kernel_rfl) (by kernel_rfl) (by kernel_rfl) (by kernel_rfl) 45 (by kernel_rfl) [] (.f <| .c1 (cRd s q n false) (dV v) <| .k <| .f <| .c (.tup [ds u, di 0]) <| .k <| .t <| .r) ?_
          refine via (by kernel_rfl : (decide ((↑(List.length s) : Int) > 4096) = false ∧ FSpec PP 57 [D.ptr 0 0] (St.mk [some [D.v (V.str s), di 0, di 0, db false]] []) (dV v) (St.mk [some (cRd s q n false)] []) ∧ ((↑q : Int) != (↑(List.length s) : Int)) = false ∧ FSpec PP 25 [D.v (V.agg [vi (Val.n v), vVs (Val.kids v)])] (St.mk [] []) (D.tup [D.v (V.str u), di 0]) (St.mk [] []) ∧ (!u == s) = true ∧ D.tup [D.v (V.agg [vi 0, V.list []]), di 12] = D.tup [dV (Val.mk 0 []), di 12]) = _) ?_
          exact ⟨decide_eq_false (by omega), h3, by simp [hq], ht, by simpa using he, rfl⟩
      · refine ⟨.mk 0 [], 12, rdV0, ?_⟩
        refine spec_vc mixed fOPar cOPar (by kernel_rfl) (by kernel_rfl) (by kernel_rfl) (by kernel_rfl) 45 (by kernel_rfl) [] (.f <| .c1 (cRd s q n false) (dV v) <| .k <| .t <| .r) ?_
        refine via (by kernel_rfl : (decide ((↑(List.length s) : Int) > 4096) = false ∧ FSpec PP 57 [D.ptr 0 0] (St.mk [some [D.v (V.str s), di 0, di 0, db false]] []) (dV v) (St.mk [some (cRd s q n false)] []) ∧ ((↑q : Int) != (↑(List.length s) : Int)) = true ∧ D.tup [D.v (V.agg [vi 0, V.list []]), di 12] = D.tup [dV (Val.mk 0 []), di 12]) = _) ?_
        exact ⟨decide_eq_false (by omega), h3, by simp; omega, rfl⟩
  · refine ⟨.mk 0 [], 1, rdV0, ?_⟩
    refine spec_vc mixed fOPar cOPar (by kernel_rfl) (by kernel_rfl) (by kernel_rfl) (by kernel_rfl) 45 (by kernel_rfl) [] (.t <| .r) ?_
    refine via (by kernel_rfl : (decide ((↑(List.length s) : Int) > 4096) = true ∧ D.tup [D.v (V.agg [vi 0, V.list []]), di 1] = D.tup [dV (Val.mk 0 []), di 1]) = _) ?_
    exact ⟨decide_eq_true (by omega), rfl⟩
end Go.Proofs.YtopbcpgmffppjaaGreatDoor
