/-
  Dice: words: walked.
-/
import Derived.Test.YtopbcpgmffppjaaGreatDoorEe
import Derived.Test.YtopbcpgmffppjaaGreatDoorEb
import Derived.Test.YtopbcpgmffppjaaGreatDoorEj
import Derived.Laws.StructEq
import Derived.ChangeKeysEq
import Derived.Test.YtopbcpgmffppjaaGreatDoorEh
namespace Go.Proofs.YtopbcpgmffppjaaGreatDoor
open Go.Dv Go.Nv
set_option maxRecDepth 20000
/-- a word of at most two letters -/
def WordV (L : Int) (v : Val) : Prop := ∃ ks : List Int, ks.length ≤ 2 ∧ (∀ x ∈ ks, 0 ≤ x ∧ x < L) ∧ v = .mk 0 (ks.map fun x => .mk x [])
theorem WordV.size {L : Int} {v : Val} (h : WordV L v) : v.size ≤ 3 := by
  obtain ⟨ks, h1, _, rfl⟩ := h
  simp only [Val.size, size_vals]; omega
theorem cv_word {H : List (Option (List D))} {own : List (Nat × Nat × List V)} {q tag : Nat} {xs : List V} (hq : H[q]? = some (some [di 0, .acc tag xs])) (e : List D) : Cv e ⟨H, own⟩ e ⟨H.set q (some [di 0, dl xs]), own⟩ :=
  cv_cells (σ := ⟨H, own⟩) (q := q) hq (fun g us hr => by
    have := wkDs_rep (ts := []) (kn := false) hr
    exact this) (fun _ x hx => by
    simp only [List.mem_cons, List.not_mem_nil, or_false] at hx
    rcases hx with rfl | rfl <;> rfl) e
theorem cv_word0 {H : List (Option (List D))} {own : List (Nat × Nat × List V)} {q : Nat} (hq : H[q]? = some (some [di 0, .v .nils])) (e : List D) : Cv e ⟨H, own⟩ e ⟨H.set q (some [di 0, dl []]), own⟩ :=
  cv_cells (σ := ⟨H, own⟩) (q := q) hq (fun g us hr => by
    have := wkDs_rep (ts := []) (kn := false) hr
    exact this) (fun _ x hx => by
    simp only [List.mem_cons, List.not_mem_nil, or_false] at hx
    rcases hx with rfl | rfl <;> rfl) e
theorem eV_snoc (os : List Val) (v : Val) : os.map eV ++ [vVal v] = (os ++ [v]).map eV := by rw [← enc_eq]; simp
noncomputable abbrev fWds : Func := Tryz.f29
noncomputable def cWds : Code := fWds.body.getD .skip
abbrev stW (l : List UInt8) (a : Nat) (os : List Val) : St := ⟨[some (cDz l a)], [(1, 2, os.map eV)]⟩
theorem wds_loop (l : List UInt8) (hl : l.length ≤ 200) (n : Nat) (hn : n ≤ 100) (L : Int) (hL : 1 ≤ L) (hL2 : L ≤ 100) (N : Nat) : ∀ (k a : Nat) (os : List Val), n - k = N → k ≤ n → a ≤ l.length → os.length = k → (∀ y ∈ os, WordV L y) →
    ∃ (ys : List Val) (a' : Nat), a' ≤ l.length ∧ ys.length = n ∧ (∀ y ∈ ys, WordV L y) ∧
    Rn PP fWds 1 (dVs ys) (dz l a') ([.lp (sub cWds [1, 1, 0, 1, 0, 0]), .blk 0, .code (sub cWds [1, 1, 1])] ++ []) (mkE 40 [(0, .ptr 0 0), (1, di n), (2, di L), (3, di 2), (9, .acc 1 (os.map eV)), (10, di k)]) (stW l a os) := by
  induction N with
  | zero =>
    intro k a os hk hk0 ha hx hos
    refine ⟨os, a, ha, by omega, hos, ?_⟩
    refine loop_vc mixed 40 [] (.f .r) ?_
    refine via (by kernel_rfl : (decide ((↑k : Int) < (↑n : Int)) = false ∧ [some (cDz l a)] = [some (cDz l a)] ∧ D.v (V.list (List.map eV os)) = dVs os) = _) ?_
    exact ⟨decide_eq_false (by omega), rfl, rfl⟩
  | succ N ih =>
    intro k a os hk hk0 ha hx hos
    obtain ⟨r, a1, h1, h2, h3, h4⟩ := pick_ex l hl a ha 3 (by decide) (by decide)
    have hmem : ∀ (w : Val), WordV L w → ∀ y ∈ os ++ [w], WordV L y := fun w hw y hy => by
      rcases List.mem_append.1 hy with hy | hy
      · exact hos y hy
      · rw [List.mem_singleton.1 hy]; exact hw
    have hkn : decide ((k : Int) < n) = true := decide_eq_true (by omega)
    rcases (show r = 0 ∨ r = 1 ∨ r = 2 by omega) with rfl | rfl | rfl
    · obtain ⟨w, hw⟩ : ∃ w : Val, w = .mk 0 [] := ⟨_, rfl⟩
      obtain ⟨ys, a', y1, y2, y3, y4⟩ := ih (k + 1) a1 (os ++ [w]) (by omega) (by omega) h3 (by simp [hx]) (hmem _ ⟨[], by simp, by simp, hw⟩)
      refine ⟨ys, a', y1, y2, y3, ?_⟩
      refine loop_vc mixed 40 [] (.t <| .c1 (cDz l a1) (di 0) <| .n <| .h (.q 10 1) <| .h (.cs ⟨[some (cDz l a1), some [di 0, dl []]], [(1, 2, os.map eV)]⟩) <| .ls [ke 0, ke 1, ke 2, ke 3, ch 9 (.acc 1 ((os ++ [w]).map eV)), ch 10 (di (k + 1 : Nat))] (stW l a1 (os ++ [w]))) ?_
      refine via (by kernel_rfl : (decide ((↑k : Int) < (↑n : Int)) = true ∧ FSpec PP 18 [D.ptr 0 0, di (IntKind.wrap IntKind.i64 (2 + 1))] (St.mk [some (cDz l a)] []) (di 0) (St.mk [some (cDz l a1)] []) ∧ (∀ (e : List D) (E : Ent) (g : Gh) (a : Act) (w : World), FI E g (St.mk [some (cDz l a1), some [D.v (V.int IntKind.i64 0), D.v V.nils]] [(1, 2, List.map eV os)]) e a w → ∃ g', FI E g' (St.mk [some (cDz l a1), some [di 0, dl []]] [(1, 2, List.map eV os)]) e a w) ∧ List.map eV os = List.map eV os ∧ LenOK (List.length (List.map eV os) + List.length (V.agg (V.int IntKind.i64 0 :: V.list nV :: nV) :: nV)) 32 ∧ D.acc 1 (List.map eV os ++ [V.agg [vi 0, V.list []]]) = D.acc 1 (List.map eV (os ++ [w])) ∧ di (IntKind.wrap IntKind.i64 ((↑k : Int) + 1)) = di (↑(k + 1) : Int) ∧ [some (cDz l a1)] = [some (cDz l a1)] ∧ [(1, 2, List.map eV os ++ V.agg (vi 0 :: V.list nV :: nV) :: nV)] = [(1, 2, List.map eV (os ++ [w]))] ∧ Nv.It (RunC (CN 1) PP (fun env σ1 => ResOK PP fWds env σ1 (dVs ys) (dz l a')) [KI.lp (sub cWds [1, 1, 0, 1, 0, 0]), KI.blk 0, KI.code (sub cWds [1, 1, 1])] (mkE 40 [(0, D.ptr 0 0), (1, di (↑n : Int)), (2, di L), (3, di 2), (9, D.acc 1 (List.map eV (os ++ [w]))), (10, di (↑(k + 1) : Int))]) (stW l a1 (os ++ [w])))) = _) ?_
      have hv : V.agg [vi 0, .list []] = vVal w := by rw [hw]; rfl
      rw [show IntKind.i64.wrap (2 + 1) = 3 from by decide]
      repeat' first | with_reducible refine And.intro ?_ ?_
      all_goals first | exact hkn | exact h4 | exact wrap_succ (by omega) | exact ⟨y4⟩ | (simp only [List.length_map, List.length_cons, List.length_nil]; omega) | rfl | trivial | skip
      · exact fun e => cv_word0 (H := [some (cDz l a1), some [di 0, .v .nils]]) (own := [(1, 2, os.map eV)]) (q := 1) rfl e
      · exact congrArg (D.acc 1) ((congrArg (fun z => os.map eV ++ [z]) hv).trans (eV_snoc os w))
      · exact congrArg (fun z => [(1, 2, z)]) ((congrArg (fun z => os.map eV ++ [z]) hv).trans (eV_snoc os w))
    · obtain ⟨x1, a2, x11, x12, x13, x14⟩ := pick_ex l hl a1 h3 L hL (by omega)
      obtain ⟨w, hw⟩ : ∃ w : Val, w = .mk 0 [.mk x1 []] := ⟨_, rfl⟩
      obtain ⟨ys, a', y1, y2, y3, y4⟩ := ih (k + 1) a2 (os ++ [w]) (by omega) (by omega) x13 (by simp [hx]) (hmem _ ⟨[x1], by simp, by simp [x11, x12], hw⟩)
      refine ⟨ys, a', y1, y2, y3, ?_⟩
      refine loop_vc mixed 40 [] (.t <| .c1 (cDz l a1) (di 1) <| .h (.q 6 4) <| .h (.cl 1 1 2 2) <| .n <| .m (.acc 2 []) <| .c1 (cDz l a2) (di x1) <| .n <| .h (.q 10 1) <| .h (.cs ⟨[some (cDz l a2), some [di 0, dl [eV (.mk x1 [])]]], [(2, 2, [eV (.mk x1 [])]), (1, 2, os.map eV)]⟩) <| .ls [ke 0, ke 1, ke 2, ke 3, ch 9 (.acc 1 ((os ++ [w]).map eV)), ch 10 (di (k + 1 : Nat))] (stW l a2 (os ++ [w]))) ?_
      refine via (by kernel_rfl : (decide ((↑k : Int) < (↑n : Int)) = true ∧ FSpec PP 18 [D.ptr 0 0, di (IntKind.wrap IntKind.i64 (2 + 1))] (St.mk [some (cDz l a)] []) (di 1) (St.mk [some (cDz l a1)] []) ∧ some (D.acc 2 []) = some (D.acc 2 []) ∧ FSpec PP 18 [D.ptr 0 0, di L] (St.mk [some (cDz l a1)] []) (di x1) (St.mk [some (cDz l a2)] []) ∧ nV = nV ∧ LenOK 1 32 ∧ ((some [D.acc 2 []] = some [D.acc 2 []] ∧ True) ∧ True) ∧ (∀ (e : List D) (E : Ent) (g : Gh) (a : Act) (w : World), FI E g (St.mk [some (cDz l a2), some [D.v (V.int IntKind.i64 0), D.acc 2 ([] ++ [V.agg [V.int IntKind.i64 x1, V.list []]])]] [(2, 2, [] ++ [V.agg [V.int IntKind.i64 x1, V.list []]]), (1, 2, List.map eV os)]) e a w → ∃ g', FI E g' (St.mk [some (cDz l a2), some [di 0, dl [eV (Val.mk x1 [])]]] [(2, 2, [eV (Val.mk x1 [])]), (1, 2, List.map eV os)]) e a w) ∧ List.map eV os = List.map eV os ∧ LenOK (List.length (List.map eV os) + List.length (V.agg (V.int IntKind.i64 0 :: V.list (eV (Val.mk x1 []) :: nV) :: nV) :: nV)) 32 ∧ D.acc 1 (List.map eV os ++ [V.agg [vi 0, V.list [eV (Val.mk x1 [])]]]) = D.acc 1 (List.map eV (os ++ [w])) ∧ di (IntKind.wrap IntKind.i64 ((↑k : Int) + 1)) = di (↑(k + 1) : Int) ∧ [some (cDz l a2)] = [some (cDz l a2)] ∧ [(1, 2, List.map eV os ++ V.agg (vi 0 :: V.list (eV (Val.mk x1 []) :: nV) :: nV) :: nV)] = [(1, 2, List.map eV (os ++ [w]))] ∧ Nv.It (RunC (CN 1) PP (fun env σ1 => ResOK PP fWds env σ1 (dVs ys) (dz l a')) [KI.lp (sub cWds [1, 1, 0, 1, 0, 0]), KI.blk 0, KI.code (sub cWds [1, 1, 1])] (mkE 40 [(0, D.ptr 0 0), (1, di (↑n : Int)), (2, di L), (3, di 2), (9, D.acc 1 (List.map eV (os ++ [w]))), (10, di (↑(k + 1) : Int))]) (stW l a2 (os ++ [w])))) = _) ?_
      have hv : V.agg [vi 0, .list [eV (.mk x1 [])]] = vVal w := by rw [hw]; rfl
      rw [show IntKind.i64.wrap (2 + 1) = 3 from by decide]
      repeat' first | with_reducible refine And.intro ?_ ?_
      all_goals first | exact hkn | exact h4 | exact x14 | exact lenOK2 (by decide) (by decide) | exact ⟨by decide, by decide⟩ | exact wrap_succ (by omega) | exact ⟨y4⟩ | (simp only [List.length_map, List.length_cons, List.length_nil]; omega) | rfl | trivial | skip
      · exact fun e => cv_word (H := [some (cDz l a2), some [di 0, .acc 2 [eV (.mk x1 [])]]]) (own := [(2, 2, [eV (.mk x1 [])]), (1, 2, os.map eV)]) (q := 1) rfl e
      · exact congrArg (D.acc 1) ((congrArg (fun z => os.map eV ++ [z]) hv).trans (eV_snoc os w))
      · exact congrArg (fun z => [(1, 2, z)]) ((congrArg (fun z => os.map eV ++ [z]) hv).trans (eV_snoc os w))
    · obtain ⟨x1, a2, x11, x12, x13, x14⟩ := pick_ex l hl a1 h3 L hL (by omega)
      obtain ⟨x2, a3, x21, x22, x23, x24⟩ := pick_ex l hl a2 x13 L hL (by omega)
      obtain ⟨w, hw⟩ : ∃ w : Val, w = .mk 0 [.mk x1 [], .mk x2 []] := ⟨_, rfl⟩
      obtain ⟨ys, a', y1, y2, y3, y4⟩ := ih (k + 1) a3 (os ++ [w]) (by omega) (by omega) x23 (by simp [hx]) (hmem _ ⟨[x1, x2], by simp, by simp [x11, x12, x21, x22], hw⟩)
      refine ⟨ys, a', y1, y2, y3, ?_⟩
      refine loop_vc mixed 40 [] (.t <| .c1 (cDz l a1) (di 2) <| .h (.q 6 4) <| .h (.cl 1 1 2 2) <| .n <| .m (.acc 2 []) <| .c1 (cDz l a2) (di x1) <| .n <| .m (.acc 2 [eV (.mk x1 [])]) <| .c1 (cDz l a3) (di x2) <| .n <| .h (.q 10 1) <| .h (.cs ⟨[some (cDz l a3), some [di 0, dl [eV (.mk x1 []), eV (.mk x2 [])]]], [(2, 2, [eV (.mk x1 []), eV (.mk x2 [])]), (1, 2, os.map eV)]⟩) <| .ls [ke 0, ke 1, ke 2, ke 3, ch 9 (.acc 1 ((os ++ [w]).map eV)), ch 10 (di (k + 1 : Nat))] (stW l a3 (os ++ [w]))) ?_
      refine via (by kernel_rfl : (decide ((↑k : Int) < (↑n : Int)) = true ∧ FSpec PP 18 [D.ptr 0 0, di (IntKind.wrap IntKind.i64 (2 + 1))] (St.mk [some (cDz l a)] []) (di 2) (St.mk [some (cDz l a1)] []) ∧ some (D.acc 2 []) = some (D.acc 2 []) ∧ FSpec PP 18 [D.ptr 0 0, di L] (St.mk [some (cDz l a1)] []) (di x1) (St.mk [some (cDz l a2)] []) ∧ nV = nV ∧ LenOK 1 32 ∧ ((some [D.acc 2 []] = some [D.acc 2 []] ∧ True) ∧ True) ∧ some (D.acc 2 [V.agg [vi x1, V.list []]]) = some (D.acc 2 [eV (Val.mk x1 [])]) ∧ FSpec PP 18 [D.ptr 0 0, di L] (St.mk [some (cDz l a2)] []) (di x2) (St.mk [some (cDz l a3)] []) ∧ V.agg (vi x1 :: V.list nV :: nV) :: nV = eV (Val.mk x1 []) :: nV ∧ LenOK 2 32 ∧ ((some [D.acc 2 [V.agg [vi x1, V.list []]]] = some [D.acc 2 [V.agg [vi x1, V.list []]]] ∧ True) ∧ True) ∧ (∀ (e : List D) (E : Ent) (g : Gh) (a : Act) (w : World), FI E g (St.mk [some (cDz l a3), some [D.v (V.int IntKind.i64 0), D.acc 2 ([eV (Val.mk x1 [])] ++ [V.agg [V.int IntKind.i64 x2, V.list []]])]] [(2, 2, [eV (Val.mk x1 [])] ++ [V.agg [V.int IntKind.i64 x2, V.list []]]), (1, 2, List.map eV os)]) e a w → ∃ g', FI E g' (St.mk [some (cDz l a3), some [di 0, dl [eV (Val.mk x1 []), eV (Val.mk x2 [])]]] [(2, 2, [eV (Val.mk x1 []), eV (Val.mk x2 [])]), (1, 2, List.map eV os)]) e a w) ∧ List.map eV os = List.map eV os ∧ LenOK (List.length (List.map eV os) + List.length (V.agg (V.int IntKind.i64 0 :: V.list (eV (Val.mk x1 []) :: eV (Val.mk x2 []) :: nV) :: nV) :: nV)) 32 ∧ D.acc 1 (List.map eV os ++ [V.agg [vi 0, V.list [eV (Val.mk x1 []), eV (Val.mk x2 [])]]]) = D.acc 1 (List.map eV (os ++ [w])) ∧ di (IntKind.wrap IntKind.i64 ((↑k : Int) + 1)) = di (↑(k + 1) : Int) ∧ [some (cDz l a3)] = [some (cDz l a3)] ∧ [(1, 2, List.map eV os ++ V.agg (vi 0 :: V.list (eV (Val.mk x1 []) :: eV (Val.mk x2 []) :: nV) :: nV) :: nV)] = [(1, 2, List.map eV (os ++ [w]))] ∧ Nv.It (RunC (CN 1) PP (fun env σ1 => ResOK PP fWds env σ1 (dVs ys) (dz l a')) [KI.lp (sub cWds [1, 1, 0, 1, 0, 0]), KI.blk 0, KI.code (sub cWds [1, 1, 1])] (mkE 40 [(0, D.ptr 0 0), (1, di (↑n : Int)), (2, di L), (3, di 2), (9, D.acc 1 (List.map eV (os ++ [w]))), (10, di (↑(k + 1) : Int))]) (stW l a3 (os ++ [w])))) = _) ?_
      have hv : V.agg [vi 0, .list [eV (.mk x1 []), eV (.mk x2 [])]] = vVal w := by rw [hw]; rfl
      rw [show IntKind.i64.wrap (2 + 1) = 3 from by decide]
      repeat' first | with_reducible refine And.intro ?_ ?_
      all_goals first | exact hkn | exact h4 | exact x14 | exact x24 | exact lenOK2 (by decide) (by decide) | exact ⟨by decide, by decide⟩ | exact wrap_succ (by omega) | exact ⟨y4⟩ | (simp only [List.length_map, List.length_cons, List.length_nil]; omega) | rfl | trivial | skip
      · exact fun e => cv_word (H := [some (cDz l a3), some [di 0, .acc 2 [eV (.mk x1 []), eV (.mk x2 [])]]]) (own := [(2, 2, [eV (.mk x1 []), eV (.mk x2 [])]), (1, 2, os.map eV)]) (q := 1) rfl e
      · exact congrArg (D.acc 1) ((congrArg (fun z => os.map eV ++ [z]) hv).trans (eV_snoc os w))
      · exact congrArg (fun z => [(1, 2, z)]) ((congrArg (fun z => os.map eV ++ [z]) hv).trans (eV_snoc os w))
theorem wds_ex (l : List UInt8) (hl : l.length ≤ 200) (a : Nat) (ha : a ≤ l.length) (n : Nat) (hn : n ≤ 100) (L : Int) (hL : 1 ≤ L) (hL2 : L ≤ 100) :
    ∃ (ys : List Val) (a' : Nat), a' ≤ l.length ∧ ys.length = n ∧ (∀ y ∈ ys, WordV L y) ∧ FSpec PP 29 [.ptr 0 0, di n, di L, di 2] (dz l a) (dVs ys) (dz l a') := by
  obtain ⟨ys, a', h1, h2, h3, h4⟩ := wds_loop l hl n hn L hL hL2 _ 0 a [] rfl (by omega) ha rfl (by simp)
  refine ⟨ys, a', h1, h2, h3, ?_⟩
  refine spec_vc mixed fWds cWds (by kernel_rfl) (by kernel_rfl) (by kernel_rfl) (by kernel_rfl) 40 (by kernel_rfl) [] (.h (.q 2 0) <| .h (.nw 9 1 2) <| .ls [ke 0, ke 1, ke 2, ke 3, ke 9, ch 10 (di (0 : Nat))] (stW l a [])) ?_
  refine via (by kernel_rfl : (di 0 = di (↑0 : Int) ∧ [some (cDz l a)] = [some (cDz l a)] ∧ [(1, 2, nV)] = [(1, 2, nV)] ∧ Nv.It (RunC (CN (List.length (dz l a).H)) PP (fun env σ1 => ResOK PP fWds env σ1 (dVs ys) (dz l a')) [KI.lp (sub cWds [1, 1, 0, 1, 0, 0]), KI.blk 0, KI.code (sub cWds [1, 1, 1])] (mkE 40 [(0, D.ptr 0 0), (1, di (↑n : Int)), (2, di L), (3, di 2), (9, D.acc 1 []), (10, di (↑0 : Int))]) (stW l a []))) = _) ?_
  exact ⟨rfl, rfl, rfl, ⟨h4⟩⟩
end Go.Proofs.YtopbcpgmffppjaaGreatDoor

namespace Go.Proofs.YtopbcpgmffppjaaGreatDoor
open Go.Dv Go.Nv
set_option maxRecDepth 20000
abbrev dl4 : List (List UInt8) := [[114], [115], [116], [117]]
def mkL (nm : List UInt8) (f t ch ac le : Int) : Rul := ⟨nm, f, t, [], [], [], ch, ac, le, [], [], [], [], 0⟩
abbrev lM (K : Int) (S Pl Le : List (List UInt8)) (rk : List Int) (rs : List Rul) : List D := [di K, .v (vSs S), .v (vSs Pl), .v (vSs Le), .v (vIs rk), di 0, di 0, .acc 2 (rs.map vRul), di 0, dl []]
abbrev stL (l : List UInt8) (a : Nat) (K : Int) (S Pl Le : List (List UInt8)) (rk : List Int) (rs : List Rul) : St := ⟨[some (cDz l a), some zM, some (lM K S Pl Le rk rs)], [(2, 14, rs.map vRul)]⟩
/-- the dealt rules of channels -/
structure MadeLR (ns np nl : Nat) (k : Nat) (r : Rul) : Prop where
  name : dl4[k]? = some r.name
  frm : 0 ≤ r.frm ∧ r.frm < ns
  to : 0 ≤ r.to ∧ r.to < ns
  act : r.act = 0 ∧ r.chan = 0 ∧ r.letter = 0 ∨ (1 ≤ r.act ∧ r.act ≤ 2) ∧ (0 ≤ r.chan ∧ r.chan < np) ∧ (0 ≤ r.letter ∧ r.letter < nl)
  rest : r = mkL r.name r.frm r.to r.chan r.act r.letter
/-- the dealt models of channels -/
structure MadeL (K : Int) (m : Mod) : Prop where
  kind : m.kind = K
  states : ∃ n : Nat, 1 ≤ n ∧ n ≤ 3 ∧ m.states = ([[97], [98], [99]] : List (List UInt8)).take n
  places : m.places = [[120]] ∨ m.places = [[120], [121]]
  letters : m.letters = [[112]] ∨ m.letters = [[112], [113]]
  ranks : if K = 3 then m.ranks.length = m.letters.length ∧ ∀ x ∈ m.ranks, 0 ≤ x ∧ x ≤ 1 else m.ranks = []
  levels : m.levels = 0
  age : m.age = 0
  count : m.rules.length ≤ 4
  rules : ∀ k r, m.rules[k]? = some r → MadeLR m.states.length m.places.length m.letters.length k r
  start : ∃ ys : List Val, ys.length = m.places.length ∧ (∀ y ∈ ys, WordV m.letters.length y) ∧ m.start = .mk 0 (.mk 0 [] :: ys)
theorem mkL_at {ns np nl : Nat} {rs : List Rul} {k : Nat} {nm : List UInt8} {f t chn ac le : Int} (hnm : dl4[k]? = some nm) (hf : 0 ≤ f ∧ f < ns) (ht : 0 ≤ t ∧ t < ns) (ha : ac = 0 ∧ chn = 0 ∧ le = 0 ∨ (1 ≤ ac ∧ ac ≤ 2) ∧ (0 ≤ chn ∧ chn < np) ∧ (0 ≤ le ∧ le < nl)) (hrs : rs.length = k) (hR : ∀ i r, rs[i]? = some r → MadeLR ns np nl i r) : ∀ i r, (rs ++ [mkL nm f t chn ac le])[i]? = some r → MadeLR ns np nl i r := fun i r hi => by
  by_cases hik : i < rs.length
  · rw [List.getElem?_append_left hik] at hi; exact hR i r hi
  · rw [List.getElem?_append_right (by omega)] at hi
    have h1 : i - rs.length = 0 := by
      have := (List.getElem?_eq_some_iff.1 hi).1
      simp at this; omega
    rw [h1] at hi
    simp at hi; subst hi
    have hik2 : i = k := by omega
    subst hik2
    exact ⟨hnm, hf, ht, ha, rfl⟩
noncomputable abbrev fChn : Func := Tryz.f19
noncomputable def cChn : Code := fChn.body.getD .skip
theorem chn_loop (l : List UInt8) (hl : l.length ≤ 200) (K : Int) (S Pl Le : List (List UInt8)) (rk : List Int) (hS : ∃ n : Nat, 1 ≤ n ∧ n ≤ 3 ∧ S = ([[97], [98], [99]] : List (List UInt8)).take n) (hP : Pl = [[120]] ∨ Pl = [[120], [121]]) (hLe : Le = [[112]] ∨ Le = [[112], [113]]) (hrk : if K = 3 then rk.length = Le.length ∧ ∀ x ∈ rk, 0 ≤ x ∧ x ≤ 1 else rk = []) (n : Nat) : ∀ (k a : Nat) (rs : List Rul), 4 - k = n → a ≤ l.length → k ≤ 4 → rs.length = k → (∀ i r, rs[i]? = some r → MadeLR S.length Pl.length Le.length i r) →
    ∃ (m : Mod) (a' : Nat), MadeL K m ∧ a' ≤ l.length ∧ Rn PP fChn 1 (dMod m) (dz l a') ([.lp (sub cChn [1, 1, 1, 0, 1, 0, 0]), .blk 0, .code (sub cChn [1, 1, 1, 1])] ++ []) (mkE 92 [(0, .ptr 0 0), (4, .ptr 1 0), (5, .ptr 2 0), (6, di k)]) (stL l a K S Pl Le rk rs) := by
  induction n using Nat.strongRecOn with
  | _ n ih =>
  intro k a rs hn ha hk4 hrs hR
  have hSl : 1 ≤ S.length ∧ S.length ≤ 3 := by obtain ⟨n, h1, h2, rfl⟩ := hS; rw [List.length_take]; simp only [List.length_cons, List.length_nil]; omega
  have hPl : 1 ≤ Pl.length ∧ Pl.length ≤ 2 := by rcases hP with rfl | rfl <;> decide
  have hLl : 1 ≤ Le.length ∧ Le.length ≤ 2 := by rcases hLe with rfl | rfl <;> decide
  have hSm : ((S.map V.str).length : Int) = (S.length : Int) := by rw [List.length_map]
  have hPm : ((Pl.map V.str).length : Int) = (Pl.length : Int) := by rw [List.length_map]
  have hLm : ((Le.map V.str).length : Int) = (Le.length : Int) := by rw [List.length_map]
  obtain ⟨r, a1, h1, h2, h3, h4⟩ := pick_ex l hl a ha 4 (by decide) (by decide)
  by_cases hk : (k : Int) < 1 + r
  · obtain ⟨f, a2, f1, f2, f3, f4⟩ := pick_ex l hl a1 h3 S.length (by omega) (by omega)
    obtain ⟨t, a3, t1, t2, t3, t4⟩ := pick_ex l hl a2 f3 S.length (by omega) (by omega)
    obtain ⟨ac, a4, c1, c2, c3, c4⟩ := pick_ex l hl a3 t3 3 (by decide) (by decide)
    obtain ⟨nm, hnm⟩ : ∃ nm, dl4[k]? = some nm := ⟨_, List.getElem?_eq_getElem (show k < dl4.length by show k < 4; omega)⟩
    have hkr : decide ((k : Int) < IntKind.wrap IntKind.i64 (1 + r)) = true := by rw [wrap_id (by omega) (by omega)]; exact decide_eq_true hk
    by_cases hw : (ac != 0) = true
    · obtain ⟨chn, a5, d1, d2, d3, d4⟩ := pick_ex l hl a4 c3 Pl.length (by omega) (by omega)
      obtain ⟨le, a6, e1, e2, e3, e4⟩ := pick_ex l hl a5 d3 Le.length (by omega) (by omega)
      have hac : ac ≠ 0 := by simpa using hw
      obtain ⟨m, a', m1, m2, m3⟩ := ih (4 - (k + 1)) (by omega) (k + 1) a6 (rs ++ [mkL nm f t chn ac le]) rfl e3 (by omega) (by simp [hrs]) (mkL_at hnm ⟨f1, f2⟩ ⟨t1, t2⟩ (.inr ⟨by omega, ⟨d1, d2⟩, ⟨e1, e2⟩⟩) hrs hR)
      refine ⟨m, a', m1, m2, ?_⟩
      refine loop_vc mixed 92 [] (.c1 (cDz l a1) (di r) <| .t <| .h (.dr 17) <| .x (.str nm) <| .c1 (cDz l a2) (di f) <| .c1 (cDz l a3) (di t) <| .c1 (cDz l a4) (di ac) <| .t <| .c1 (cDz l a5) (di chn) <| .c1 (cDz l a6) (di le) <| .ls [ke 0, ke 4, ke 5, ch 6 (di (k + 1 : Nat))] (stL l a6 K S Pl Le rk (rs ++ [mkL nm f t chn ac le]))) ?_
      refine via (by kernel_rfl : (FSpec PP 18 [D.ptr 0 0, di 4] (St.mk [some (cDz l a)] []) (di r) (St.mk [some (cDz l a1)] []) ∧ decide ((↑k : Int) < IntKind.wrap IntKind.i64 (1 + r)) = true ∧ 0 ≤ (↑k : Int) ∧ [V.str (ByteArray.mk #[114]).data.toList, V.str (ByteArray.mk #[115]).data.toList, V.str (ByteArray.mk #[116]).data.toList, V.str (ByteArray.mk #[117]).data.toList][Int.toNat (↑k : Int)]? = some (V.str nm) ∧ FSpec PP 18 [D.ptr 0 0, di (↑(List.length (List.map V.str S)) : Int)] (St.mk [some (cDz l a1)] []) (di f) (St.mk [some (cDz l a2)] []) ∧ FSpec PP 18 [D.ptr 0 0, di (↑(List.length (List.map V.str S)) : Int)] (St.mk [some (cDz l a1)] []) (di f) (St.mk [some (cDz l a2)] []) ∧ di f = di f ∧ FSpec PP 18 [D.ptr 0 0, di (↑(List.length (List.map V.str S)) : Int)] (St.mk [some (cDz l a2)] []) (di t) (St.mk [some (cDz l a3)] []) ∧ FSpec PP 18 [D.ptr 0 0, di (↑(List.length (List.map V.str S)) : Int)] (St.mk [some (cDz l a2)] []) (di t) (St.mk [some (cDz l a3)] []) ∧ di t = di t ∧ FSpec PP 18 [D.ptr 0 0, di 3] (St.mk [some (cDz l a3)] []) (di ac) (St.mk [some (cDz l a4)] []) ∧ FSpec PP 18 [D.ptr 0 0, di 3] (St.mk [some (cDz l a3)] []) (di ac) (St.mk [some (cDz l a4)] []) ∧ di ac = di ac ∧ [St.mk [some (cDz l a1), some zM, some (lM K S Pl Le rk rs), some [D.v (V.str (ByteArray.mk #[]).data.toList), di 0, di 0, D.v V.nils, D.v V.nils, D.v V.nils, di 0, di 0, di 0, D.v V.nils, D.v V.nils, D.v V.nils, D.v V.nils, di 0]] [(2, 14, List.map vRul rs)], St.mk [some (cDz l a2), some zM, some (lM K S Pl Le rk rs), some [D.v (V.str (ByteArray.mk #[]).data.toList), di 0, di 0, D.v V.nils, D.v V.nils, D.v V.nils, di 0, di 0, di 0, D.v V.nils, D.v V.nils, D.v V.nils, D.v V.nils, di 0]] [(2, 14, List.map vRul rs)], St.mk [some (cDz l a3), some zM, some (lM K S Pl Le rk rs), some [D.v (V.str (ByteArray.mk #[]).data.toList), di 0, di 0, D.v V.nils, D.v V.nils, D.v V.nils, di 0, di 0, di 0, D.v V.nils, D.v V.nils, D.v V.nils, D.v V.nils, di 0]] [(2, 14, List.map vRul rs)], St.mk [some (cDz l a4), some zM, some (lM K S Pl Le rk rs), some [D.v (V.str (ByteArray.mk #[]).data.toList), di 0, di 0, D.v V.nils, D.v V.nils, D.v V.nils, di 0, di 0, di 0, D.v V.nils, D.v V.nils, D.v V.nils, D.v V.nils, di 0]] [(2, 14, List.map vRul rs)]] = [St.mk [some (cDz l a1), some zM, some (lM K S Pl Le rk rs), some [D.v (V.str (ByteArray.mk #[]).data.toList), di 0, di 0, D.v V.nils, D.v V.nils, D.v V.nils, di 0, di 0, di 0, D.v V.nils, D.v V.nils, D.v V.nils, D.v V.nils, di 0]] [(2, 14, List.map vRul rs)], St.mk [some (cDz l a2), some zM, some (lM K S Pl Le rk rs), some [D.v (V.str (ByteArray.mk #[]).data.toList), di 0, di 0, D.v V.nils, D.v V.nils, D.v V.nils, di 0, di 0, di 0, D.v V.nils, D.v V.nils, D.v V.nils, D.v V.nils, di 0]] [(2, 14, List.map vRul rs)], St.mk [some (cDz l a3), some zM, some (lM K S Pl Le rk rs), some [D.v (V.str (ByteArray.mk #[]).data.toList), di 0, di 0, D.v V.nils, D.v V.nils, D.v V.nils, di 0, di 0, di 0, D.v V.nils, D.v V.nils, D.v V.nils, D.v V.nils, di 0]] [(2, 14, List.map vRul rs)], St.mk [some (cDz l a4), some zM, some (lM K S Pl Le rk rs), some [D.v (V.str (ByteArray.mk #[]).data.toList), di 0, di 0, D.v V.nils, D.v V.nils, D.v V.nils, di 0, di 0, di 0, D.v V.nils, D.v V.nils, D.v V.nils, D.v V.nils, di 0]] [(2, 14, List.map vRul rs)]] ∧ ((some [D.v (vSs S)] = some [D.v (vSs S)] ∧ some [D.v (vSs S)] = some [D.v (vSs S)] ∧ some [D.v (vSs S)] = some [D.v (vSs S)] ∧ some [D.v (vSs S)] = some [D.v (vSs S)] ∧ some [D.v (vSs S)] = some [D.v (vSs S)] ∧ some [D.v (vSs S)] = some [D.v (vSs S)] ∧ some [D.v (vSs S)] = some [D.v (vSs S)] ∧ some [D.v (vSs S)] = some [D.v (vSs S)] ∧ some [D.v (vSs S)] = some [D.v (vSs S)] ∧ True) ∧ (some [D.v (vSs S)] = some [D.v (vSs S)] ∧ some [D.v (vSs S)] = some [D.v (vSs S)] ∧ some [D.v (vSs S)] = some [D.v (vSs S)] ∧ some [D.v (vSs S)] = some [D.v (vSs S)] ∧ some [D.v (vSs S)] = some [D.v (vSs S)] ∧ some [D.v (vSs S)] = some [D.v (vSs S)] ∧ some [D.v (vSs S)] = some [D.v (vSs S)] ∧ some [D.v (vSs S)] = some [D.v (vSs S)] ∧ some [D.v (vSs S)] = some [D.v (vSs S)] ∧ True) ∧ True) ∧ (ac != 0) = true ∧ FSpec PP 18 [D.ptr 0 0, di (↑(List.length (List.map V.str Pl)) : Int)] (St.mk [some (cDz l a4)] []) (di chn) (St.mk [some (cDz l a5)] []) ∧ FSpec PP 18 [D.ptr 0 0, di (↑(List.length (List.map V.str Le)) : Int)] (St.mk [some (cDz l a5)] []) (di le) (St.mk [some (cDz l a6)] []) ∧ (True ∧ (some [D.v (vSs Le)] = some [D.v (vSs Le)] ∧ True) ∧ True) ∧ List.map vRul rs = List.map vRul rs ∧ LenOK (List.length (List.map vRul rs) + List.length (V.agg (V.str nm :: V.int IntKind.i64 f :: V.int IntKind.i64 t :: V.list nV :: V.list nV :: V.list nV :: V.int IntKind.i64 chn :: V.int IntKind.i64 ac :: V.int IntKind.i64 le :: V.list nV :: V.list nV :: V.list nV :: V.list nV :: V.int IntKind.i64 0 :: nV) :: nV)) 232 ∧ di (IntKind.wrap IntKind.i64 ((↑k : Int) + 1)) = di (↑(k + 1) : Int) ∧ [some (cDz l a6), some zM, some [di K, D.v (vSs S), D.v (vSs Pl), D.v (vSs Le), D.v (vIs rk), di 0, di 0, D.acc 2 (List.map vRul rs ++ V.agg (V.str nm :: vi f :: vi t :: V.list nV :: V.list nV :: V.list nV :: vi chn :: vi ac :: vi le :: V.list nV :: V.list nV :: V.list nV :: V.list nV :: vi 0 :: nV) :: nV), di 0, dl nV]] = [some (cDz l a6), some zM, some (lM K S Pl Le rk (rs ++ [mkL nm f t chn ac le]))] ∧ [(2, 14, List.map vRul rs ++ V.agg (V.str nm :: vi f :: vi t :: V.list nV :: V.list nV :: V.list nV :: vi chn :: vi ac :: vi le :: V.list nV :: V.list nV :: V.list nV :: V.list nV :: vi 0 :: nV) :: nV)] = [(2, 14, List.map vRul (rs ++ [mkL nm f t chn ac le]))] ∧ Nv.It (RunC (CN 1) PP (fun env σ1 => ResOK PP fChn env σ1 (dMod m) (dz l a')) [KI.lp (sub cChn [1, 1, 1, 0, 1, 0, 0]), KI.blk 0, KI.code (sub cChn [1, 1, 1, 1])] (mkE 92 [(0, D.ptr 0 0), (4, D.ptr 1 0), (5, D.ptr 2 0), (6, di (↑(k + 1) : Int))]) (stL l a6 K S Pl Le rk (rs ++ [mkL nm f t chn ac le])))) = _) ?_
      rw [hSm, hPm, hLm]
      repeat' first | with_reducible refine And.intro ?_ ?_
      all_goals first | exact h4 | exact hkr | exact f4 | exact t4 | exact c4 | exact d4 | exact e4 | exact hw | exact idx_str hnm | exact ⟨m3⟩ | exact wrap_succ (by omega) | omega | rfl | trivial | skip
      all_goals first | exact congrArg (fun z => [some (cDz l a6), some zM, some [di K, .v (vSs S), .v (vSs Pl), .v (vSs Le), .v (vIs rk), di 0, di 0, .acc 2 z, di 0, dl []]]) (vRul_snoc rs (mkL nm f t chn ac le)) | exact congrArg (fun z => [(2, 14, z)]) (vRul_snoc rs (mkL nm f t chn ac le)) | (simp only [List.length_map, List.length_cons, List.length_nil]; omega)
    · have hac : ac = 0 := by simpa using hw
      subst hac
      obtain ⟨m, a', m1, m2, m3⟩ := ih (4 - (k + 1)) (by omega) (k + 1) a4 (rs ++ [mkL nm f t 0 0 0]) rfl c3 (by omega) (by simp [hrs]) (mkL_at hnm ⟨f1, f2⟩ ⟨t1, t2⟩ (.inl ⟨rfl, rfl, rfl⟩) hrs hR)
      refine ⟨m, a', m1, m2, ?_⟩
      refine loop_vc mixed 92 [] (.c1 (cDz l a1) (di r) <| .t <| .h (.dr 17) <| .x (.str nm) <| .c1 (cDz l a2) (di f) <| .c1 (cDz l a3) (di t) <| .c1 (cDz l a4) (di 0) <| .k <| .ls [ke 0, ke 4, ke 5, ch 6 (di (k + 1 : Nat))] (stL l a4 K S Pl Le rk (rs ++ [mkL nm f t 0 0 0]))) ?_
      refine via (by kernel_rfl : (FSpec PP 18 [D.ptr 0 0, di 4] (St.mk [some (cDz l a)] []) (di r) (St.mk [some (cDz l a1)] []) ∧ decide ((↑k : Int) < IntKind.wrap IntKind.i64 (1 + r)) = true ∧ 0 ≤ (↑k : Int) ∧ [V.str (ByteArray.mk #[114]).data.toList, V.str (ByteArray.mk #[115]).data.toList, V.str (ByteArray.mk #[116]).data.toList, V.str (ByteArray.mk #[117]).data.toList][Int.toNat (↑k : Int)]? = some (V.str nm) ∧ FSpec PP 18 [D.ptr 0 0, di (↑(List.length (List.map V.str S)) : Int)] (St.mk [some (cDz l a1)] []) (di f) (St.mk [some (cDz l a2)] []) ∧ FSpec PP 18 [D.ptr 0 0, di (↑(List.length (List.map V.str S)) : Int)] (St.mk [some (cDz l a1)] []) (di f) (St.mk [some (cDz l a2)] []) ∧ di f = di f ∧ FSpec PP 18 [D.ptr 0 0, di (↑(List.length (List.map V.str S)) : Int)] (St.mk [some (cDz l a2)] []) (di t) (St.mk [some (cDz l a3)] []) ∧ FSpec PP 18 [D.ptr 0 0, di (↑(List.length (List.map V.str S)) : Int)] (St.mk [some (cDz l a2)] []) (di t) (St.mk [some (cDz l a3)] []) ∧ di t = di t ∧ FSpec PP 18 [D.ptr 0 0, di 3] (St.mk [some (cDz l a3)] []) (di 0) (St.mk [some (cDz l a4)] []) ∧ FSpec PP 18 [D.ptr 0 0, di 3] (St.mk [some (cDz l a3)] []) (di 0) (St.mk [some (cDz l a4)] []) ∧ di 0 = di 0 ∧ [St.mk [some (cDz l a1), some zM, some (lM K S Pl Le rk rs), some [D.v (V.str (ByteArray.mk #[]).data.toList), di 0, di 0, D.v V.nils, D.v V.nils, D.v V.nils, di 0, di 0, di 0, D.v V.nils, D.v V.nils, D.v V.nils, D.v V.nils, di 0]] [(2, 14, List.map vRul rs)], St.mk [some (cDz l a2), some zM, some (lM K S Pl Le rk rs), some [D.v (V.str (ByteArray.mk #[]).data.toList), di 0, di 0, D.v V.nils, D.v V.nils, D.v V.nils, di 0, di 0, di 0, D.v V.nils, D.v V.nils, D.v V.nils, D.v V.nils, di 0]] [(2, 14, List.map vRul rs)], St.mk [some (cDz l a3), some zM, some (lM K S Pl Le rk rs), some [D.v (V.str (ByteArray.mk #[]).data.toList), di 0, di 0, D.v V.nils, D.v V.nils, D.v V.nils, di 0, di 0, di 0, D.v V.nils, D.v V.nils, D.v V.nils, D.v V.nils, di 0]] [(2, 14, List.map vRul rs)], St.mk [some (cDz l a4), some zM, some (lM K S Pl Le rk rs), some [D.v (V.str (ByteArray.mk #[]).data.toList), di 0, di 0, D.v V.nils, D.v V.nils, D.v V.nils, di 0, di 0, di 0, D.v V.nils, D.v V.nils, D.v V.nils, D.v V.nils, di 0]] [(2, 14, List.map vRul rs)]] = [St.mk [some (cDz l a1), some zM, some (lM K S Pl Le rk rs), some [D.v (V.str (ByteArray.mk #[]).data.toList), di 0, di 0, D.v V.nils, D.v V.nils, D.v V.nils, di 0, di 0, di 0, D.v V.nils, D.v V.nils, D.v V.nils, D.v V.nils, di 0]] [(2, 14, List.map vRul rs)], St.mk [some (cDz l a2), some zM, some (lM K S Pl Le rk rs), some [D.v (V.str (ByteArray.mk #[]).data.toList), di 0, di 0, D.v V.nils, D.v V.nils, D.v V.nils, di 0, di 0, di 0, D.v V.nils, D.v V.nils, D.v V.nils, D.v V.nils, di 0]] [(2, 14, List.map vRul rs)], St.mk [some (cDz l a3), some zM, some (lM K S Pl Le rk rs), some [D.v (V.str (ByteArray.mk #[]).data.toList), di 0, di 0, D.v V.nils, D.v V.nils, D.v V.nils, di 0, di 0, di 0, D.v V.nils, D.v V.nils, D.v V.nils, D.v V.nils, di 0]] [(2, 14, List.map vRul rs)], St.mk [some (cDz l a4), some zM, some (lM K S Pl Le rk rs), some [D.v (V.str (ByteArray.mk #[]).data.toList), di 0, di 0, D.v V.nils, D.v V.nils, D.v V.nils, di 0, di 0, di 0, D.v V.nils, D.v V.nils, D.v V.nils, D.v V.nils, di 0]] [(2, 14, List.map vRul rs)]] ∧ ((some [D.v (vSs S)] = some [D.v (vSs S)] ∧ some [D.v (vSs S)] = some [D.v (vSs S)] ∧ some [D.v (vSs S)] = some [D.v (vSs S)] ∧ some [D.v (vSs S)] = some [D.v (vSs S)] ∧ some [D.v (vSs S)] = some [D.v (vSs S)] ∧ some [D.v (vSs S)] = some [D.v (vSs S)] ∧ some [D.v (vSs S)] = some [D.v (vSs S)] ∧ some [D.v (vSs S)] = some [D.v (vSs S)] ∧ some [D.v (vSs S)] = some [D.v (vSs S)] ∧ True) ∧ (some [D.v (vSs S)] = some [D.v (vSs S)] ∧ some [D.v (vSs S)] = some [D.v (vSs S)] ∧ some [D.v (vSs S)] = some [D.v (vSs S)] ∧ some [D.v (vSs S)] = some [D.v (vSs S)] ∧ some [D.v (vSs S)] = some [D.v (vSs S)] ∧ some [D.v (vSs S)] = some [D.v (vSs S)] ∧ some [D.v (vSs S)] = some [D.v (vSs S)] ∧ some [D.v (vSs S)] = some [D.v (vSs S)] ∧ some [D.v (vSs S)] = some [D.v (vSs S)] ∧ True) ∧ True) ∧ List.map vRul rs = List.map vRul rs ∧ LenOK (List.length (List.map vRul rs) + List.length (V.agg (V.str nm :: V.int IntKind.i64 f :: V.int IntKind.i64 t :: V.list nV :: V.list nV :: V.list nV :: V.int IntKind.i64 0 :: V.int IntKind.i64 0 :: V.int IntKind.i64 0 :: V.list nV :: V.list nV :: V.list nV :: V.list nV :: V.int IntKind.i64 0 :: nV) :: nV)) 232 ∧ di (IntKind.wrap IntKind.i64 ((↑k : Int) + 1)) = di (↑(k + 1) : Int) ∧ [some (cDz l a4), some zM, some [di K, D.v (vSs S), D.v (vSs Pl), D.v (vSs Le), D.v (vIs rk), di 0, di 0, D.acc 2 (List.map vRul rs ++ V.agg (V.str nm :: vi f :: vi t :: V.list nV :: V.list nV :: V.list nV :: vi 0 :: vi 0 :: vi 0 :: V.list nV :: V.list nV :: V.list nV :: V.list nV :: vi 0 :: nV) :: nV), di 0, dl nV]] = [some (cDz l a4), some zM, some (lM K S Pl Le rk (rs ++ [mkL nm f t 0 0 0]))] ∧ [(2, 14, List.map vRul rs ++ V.agg (V.str nm :: vi f :: vi t :: V.list nV :: V.list nV :: V.list nV :: vi 0 :: vi 0 :: vi 0 :: V.list nV :: V.list nV :: V.list nV :: V.list nV :: vi 0 :: nV) :: nV)] = [(2, 14, List.map vRul (rs ++ [mkL nm f t 0 0 0]))] ∧ Nv.It (RunC (CN 1) PP (fun env σ1 => ResOK PP fChn env σ1 (dMod m) (dz l a')) [KI.lp (sub cChn [1, 1, 1, 0, 1, 0, 0]), KI.blk 0, KI.code (sub cChn [1, 1, 1, 1])] (mkE 92 [(0, D.ptr 0 0), (4, D.ptr 1 0), (5, D.ptr 2 0), (6, di (↑(k + 1) : Int))]) (stL l a4 K S Pl Le rk (rs ++ [mkL nm f t 0 0 0])))) = _) ?_
      rw [hSm]
      repeat' first | with_reducible refine And.intro ?_ ?_
      all_goals first | exact h4 | exact hkr | exact f4 | exact t4 | exact c4 | exact idx_str hnm | exact ⟨m3⟩ | exact wrap_succ (by omega) | omega | rfl | trivial | skip
      all_goals first | exact congrArg (fun z => [some (cDz l a4), some zM, some [di K, .v (vSs S), .v (vSs Pl), .v (vSs Le), .v (vIs rk), di 0, di 0, .acc 2 z, di 0, dl []]]) (vRul_snoc rs (mkL nm f t 0 0 0)) | exact congrArg (fun z => [(2, 14, z)]) (vRul_snoc rs (mkL nm f t 0 0 0)) | (simp only [List.length_map, List.length_cons, List.length_nil]; omega)
  · obtain ⟨ys, a2, y1, y2, y3, y4⟩ := wds_ex l hl a1 h3 Pl.length (by omega) Le.length (by omega) (by omega)
    obtain ⟨c, hc⟩ : ∃ c : Val, c = .mk 0 (.mk 0 [] :: ys) := ⟨_, rfl⟩
    refine ⟨⟨K, S, Pl, Le, rk, 0, 0, rs, c⟩, a2, ⟨rfl, hS, hP, hLe, hrk, rfl, rfl, by show rs.length ≤ 4; omega, hR, ys, y2, y3, hc⟩, y1, ?_⟩
    refine loop_vc mixed 92 [] (.c1 (cDz l a1) (di r) <| .f <| .a 3 <| .c1 (cDz l a2) (dVs ys) <| .w .r) ?_
    refine via (by kernel_rfl : (FSpec PP 18 [D.ptr 0 0, di 4] (St.mk [some (cDz l a)] []) (di r) (St.mk [some (cDz l a1)] []) ∧ decide ((↑k : Int) < IntKind.wrap IntKind.i64 (1 + r)) = false ∧ FSpec PP 29 [D.ptr 0 0, di (↑(List.length (List.map V.str Pl)) : Int), di (↑(List.length (List.map V.str Le)) : Int), di 2] (St.mk [some (cDz l a1)] []) (dVs ys) (St.mk [some (cDz l a2)] []) ∧ V.agg (vi 0 :: V.list nV :: nV) :: nV = V.agg (vi 0 :: V.list nV :: nV) :: nV ∧ LenOK (List.length (V.agg (V.int IntKind.i64 0 :: V.list nV :: nV) :: nV) + List.length (List.map eV ys)) 32 ∧ (∀ (y : V), y ∈ List.map eV ys → V.size y = 2) ∧ [some (cDz l a2)] = [some (cDz l a2)] ∧ D.v (V.agg [vi K, V.list (List.map V.str S), V.list (List.map V.str Pl), V.list (List.map V.str Le), V.list (List.map vi rk), vi 0, vi 0, V.list (List.map vRul rs), vi 0, V.list (V.agg [vi 0, V.list []] :: [] ++ (List.map eV ys))]) = dMod (Mod.mk K S Pl Le rk 0 0 rs c)) = _) ?_
    rw [hPm, hLm]
    refine ⟨h4, decide_eq_false (by rw [wrap_id (by omega) (by omega)]; exact hk), y4, rfl, ⟨?_, ?_⟩, fun y hy => ?_, rfl, ?_⟩
    · have := hPl; simp only [List.length_map, List.length_cons, List.length_nil, y2]; omega
    · have := hPl; simp only [List.length_map, List.length_cons, List.length_nil, y2]; omega
    · obtain ⟨z, _, rfl⟩ := List.mem_map.1 hy
      rw [enc_eq]; rfl
    · rw [hc]; rfl
theorem wkD_one {ts : List Nat} {kn : Bool} {d : D} (h : d.one = true) : (wkD ts kn d).one = true := by
  unfold wkD
  split
  · cases ts.any _ <;> rfl
  · cases kn <;> rfl
  · cases kn
    · exact absurd h (by simp [D.one, V.isAgg])
    · exact h
  · exact h
theorem cv_lM {H : List (Option (List D))} {own : List (Nat × Nat × List V)} {q : Nat} {d0 : Int} {S Pl Le : V} {rk : V} (hq : H[q]? = some (some [di d0, .v S, .v Pl, .v Le, .v rk, di 0, di 0, .acc 2 [], di 0, .v .nils])) (e : List D) : Cv e ⟨H, own⟩ e ⟨H.set q (some ([di d0, .v S, .v Pl, .v Le, .v rk, di 0, di 0, .acc 2 [], di 0, .v .nils].map (wkD [2] false))), own⟩ :=
  cv_cells (σ := ⟨H, own⟩) (q := q) hq (fun g us hr => wkDs_rep hr) (fun h c hc => by
    obtain ⟨d, hd, rfl⟩ := List.mem_map.1 hc
    exact wkD_one (h d hd)) e
theorem chn_ex (l : List UInt8) (hl : l.length ≤ 200) (a : Nat) (ha : a ≤ l.length) (K : Int) (hK : K = 2 ∨ K = 3) :
    ∃ (m : Mod) (a' : Nat), MadeL K m ∧ a' ≤ l.length ∧ FSpec PP 19 [.ptr 0 0, di K] (dz l a) (dMod m) (dz l a') := by
  obtain ⟨r1, a1, p1, p2, p3, p4⟩ := pick_ex l hl a ha 3 (by decide) (by decide)
  obtain ⟨r2, a2, q1, q2, q3, q4⟩ := pick_ex l hl a1 p3 2 (by decide) (by decide)
  obtain ⟨r3, a3, u1, u2, u3, u4⟩ := pick_ex l hl a2 q3 2 (by decide) (by decide)
  obtain ⟨n1, rfl⟩ : ∃ n : Nat, r1 = n := ⟨r1.toNat, by omega⟩
  obtain ⟨n2, rfl⟩ : ∃ n : Nat, r2 = n := ⟨r2.toNat, by omega⟩
  obtain ⟨n3, rfl⟩ : ∃ n : Nat, r3 = n := ⟨r3.toNat, by omega⟩
  obtain ⟨S, hS⟩ : ∃ S, S = ([[97], [98], [99]] : List (List UInt8)).take (1 + n1) := ⟨_, rfl⟩
  obtain ⟨Pl, hPl⟩ : ∃ S, S = ([[120], [121]] : List (List UInt8)).take (1 + n2) := ⟨_, rfl⟩
  obtain ⟨Le, hLe⟩ : ∃ S, S = ([[112], [113]] : List (List UInt8)).take (1 + n3) := ⟨_, rfl⟩
  have hSx : ∃ n : Nat, 1 ≤ n ∧ n ≤ 3 ∧ S = ([[97], [98], [99]] : List (List UInt8)).take n := ⟨1 + n1, by omega, by omega, hS⟩
  have hPx : Pl = [[120]] ∨ Pl = [[120], [121]] := by
    rcases (show n2 = 0 ∨ n2 = 1 by omega) with rfl | rfl
    · exact .inl hPl
    · exact .inr hPl
  have hLx : Le = [[112]] ∨ Le = [[112], [113]] := by
    rcases (show n3 = 0 ∨ n3 = 1 by omega) with rfl | rfl
    · exact .inl hLe
    · exact .inr hLe
  rcases hK with rfl | rfl
  · obtain ⟨m, a', m1, m2, m3⟩ := chn_loop l hl 2 S Pl Le [] hSx hPx hLx (by simp) _ 0 a3 [] rfl u3 (by omega) rfl (by simp)
    refine ⟨m, a', m1, m2, ?_⟩
    refine spec_vc mixed fChn cChn (by kernel_rfl) (by kernel_rfl) (by kernel_rfl) (by kernel_rfl) 92 (by kernel_rfl) [] (.h (.dr 17) <| .c1 (cDz l a1) (di n1) <| .c1 (cDz l a2) (di n2) <| .c1 (cDz l a3) (di n3) <| .h .rn <| .k <| .h (.q 4 0) <| .h (.cl 2 7 2 14) <| .h (.cs (stL l a3 2 S Pl Le [] [])) <| .ls [ke 0, ke 4, ke 5, ch 6 (di (0 : Nat))] (stL l a3 2 S Pl Le [] [])) ?_
    refine via (by kernel_rfl : (FSpec PP 18 [D.ptr 0 0, di 3] (St.mk [some (cDz l a)] []) (di (↑n1 : Int)) (St.mk [some (cDz l a1)] []) ∧ FSpec PP 18 [D.ptr 0 0, di 3] (St.mk [some (cDz l a)] []) (di (↑n1 : Int)) (St.mk [some (cDz l a1)] []) ∧ di (↑n1 : Int) = di (↑n1 : Int) ∧ (∀ (x : V), x ∈ [V.str (ByteArray.mk #[97]).data.toList, V.str (ByteArray.mk #[98]).data.toList, V.str (ByteArray.mk #[99]).data.toList] → V.size x = 1) ∧ 0 ≤ (fun x => x.snd) (IntKind.i64, IntKind.wrap IntKind.i64 (1 + (↑n1 : Int))) ∧ (fun x => x.snd) (IntKind.i64, IntKind.wrap IntKind.i64 (1 + (↑n1 : Int))) ≤ (↑(List.length [V.str (ByteArray.mk #[97]).data.toList, V.str (ByteArray.mk #[98]).data.toList, V.str (ByteArray.mk #[99]).data.toList]) : Int) ∧ FSpec PP 18 [D.ptr 0 0, di 2] (St.mk [some (cDz l a1)] []) (di (↑n2 : Int)) (St.mk [some (cDz l a2)] []) ∧ FSpec PP 18 [D.ptr 0 0, di 2] (St.mk [some (cDz l a1)] []) (di (↑n2 : Int)) (St.mk [some (cDz l a2)] []) ∧ di (↑n2 : Int) = di (↑n2 : Int) ∧ (∀ (x : V), x ∈ [V.str (ByteArray.mk #[120]).data.toList, V.str (ByteArray.mk #[121]).data.toList] → V.size x = 1) ∧ 0 ≤ (fun x => x.snd) (IntKind.i64, IntKind.wrap IntKind.i64 (1 + (↑n2 : Int))) ∧ (fun x => x.snd) (IntKind.i64, IntKind.wrap IntKind.i64 (1 + (↑n2 : Int))) ≤ (↑(List.length [V.str (ByteArray.mk #[120]).data.toList, V.str (ByteArray.mk #[121]).data.toList]) : Int) ∧ FSpec PP 18 [D.ptr 0 0, di 2] (St.mk [some (cDz l a2)] []) (di (↑n3 : Int)) (St.mk [some (cDz l a3)] []) ∧ FSpec PP 18 [D.ptr 0 0, di 2] (St.mk [some (cDz l a2)] []) (di (↑n3 : Int)) (St.mk [some (cDz l a3)] []) ∧ di (↑n3 : Int) = di (↑n3 : Int) ∧ (∀ (x : V), x ∈ [V.str (ByteArray.mk #[112]).data.toList, V.str (ByteArray.mk #[113]).data.toList] → V.size x = 1) ∧ 0 ≤ (fun x => x.snd) (IntKind.i64, IntKind.wrap IntKind.i64 (1 + (↑n3 : Int))) ∧ (fun x => x.snd) (IntKind.i64, IntKind.wrap IntKind.i64 (1 + (↑n3 : Int))) ≤ (↑(List.length [V.str (ByteArray.mk #[112]).data.toList, V.str (ByteArray.mk #[113]).data.toList]) : Int) ∧ [St.mk [some (cDz l a), some [di 0, D.v V.nils, D.v V.nils, D.v V.nils, D.v V.nils, di 0, di 0, D.v V.nils, di 0, D.v V.nils], some [di 0, D.v V.nils, D.v V.nils, D.v V.nils, D.v V.nils, di 0, di 0, D.v V.nils, di 0, D.v V.nils]] [], St.mk [some (cDz l a1), some [di 0, D.v V.nils, D.v V.nils, D.v V.nils, D.v V.nils, di 0, di 0, D.v V.nils, di 0, D.v V.nils], some [di 0, D.v V.nils, D.v V.nils, D.v V.nils, D.v V.nils, di 0, di 0, D.v V.nils, di 0, D.v V.nils]] [], St.mk [some (cDz l a2), some [di 0, D.v V.nils, D.v V.nils, D.v V.nils, D.v V.nils, di 0, di 0, D.v V.nils, di 0, D.v V.nils], some [di 0, D.v V.nils, D.v V.nils, D.v V.nils, D.v V.nils, di 0, di 0, D.v V.nils, di 0, D.v V.nils]] [], St.mk [some (cDz l a3), some [di 0, D.v V.nils, D.v V.nils, D.v V.nils, D.v V.nils, di 0, di 0, D.v V.nils, di 0, D.v V.nils], some [di 0, D.v V.nils, D.v V.nils, D.v V.nils, D.v V.nils, di 0, di 0, D.v V.nils, di 0, D.v V.nils]] []] = [St.mk [some (cDz l a), some [di 0, D.v V.nils, D.v V.nils, D.v V.nils, D.v V.nils, di 0, di 0, D.v V.nils, di 0, D.v V.nils], some [di 0, D.v V.nils, D.v V.nils, D.v V.nils, D.v V.nils, di 0, di 0, D.v V.nils, di 0, D.v V.nils]] [], St.mk [some (cDz l a1), some [di 0, D.v V.nils, D.v V.nils, D.v V.nils, D.v V.nils, di 0, di 0, D.v V.nils, di 0, D.v V.nils], some [di 0, D.v V.nils, D.v V.nils, D.v V.nils, D.v V.nils, di 0, di 0, D.v V.nils, di 0, D.v V.nils]] [], St.mk [some (cDz l a2), some [di 0, D.v V.nils, D.v V.nils, D.v V.nils, D.v V.nils, di 0, di 0, D.v V.nils, di 0, D.v V.nils], some [di 0, D.v V.nils, D.v V.nils, D.v V.nils, D.v V.nils, di 0, di 0, D.v V.nils, di 0, D.v V.nils]] [], St.mk [some (cDz l a3), some [di 0, D.v V.nils, D.v V.nils, D.v V.nils, D.v V.nils, di 0, di 0, D.v V.nils, di 0, D.v V.nils], some [di 0, D.v V.nils, D.v V.nils, D.v V.nils, D.v V.nils, di 0, di 0, D.v V.nils, di 0, D.v V.nils]] []] ∧ True ∧ (∀ (e : List D) (E : Ent) (g : Gh) (a : Act) (w : World), FI E g (St.mk [some (cDz l a3), some [D.v (V.int IntKind.i64 0), D.v V.nils, D.v V.nils, D.v V.nils, D.v V.nils, D.v (V.int IntKind.i64 0), D.v (V.int IntKind.i64 0), D.v V.nils, D.v (V.int IntKind.i64 0), D.v V.nils], some [D.v (V.int IntKind.i64 2), D.v (V.list (List.drop 0 (List.take (Int.toNat ((fun x => x.snd) (IntKind.i64, IntKind.wrap IntKind.i64 (1 + (↑n1 : Int))))) [V.str (ByteArray.mk #[97]).data.toList, V.str (ByteArray.mk #[98]).data.toList, V.str (ByteArray.mk #[99]).data.toList]))), D.v (V.list (List.drop 0 (List.take (Int.toNat ((fun x => x.snd) (IntKind.i64, IntKind.wrap IntKind.i64 (1 + (↑n2 : Int))))) [V.str (ByteArray.mk #[120]).data.toList, V.str (ByteArray.mk #[121]).data.toList]))), D.v (V.list (List.drop 0 (List.take (Int.toNat ((fun x => x.snd) (IntKind.i64, IntKind.wrap IntKind.i64 (1 + (↑n3 : Int))))) [V.str (ByteArray.mk #[112]).data.toList, V.str (ByteArray.mk #[113]).data.toList]))), D.v V.nils, D.v (V.int IntKind.i64 0), D.v (V.int IntKind.i64 0), D.acc 2 [], D.v (V.int IntKind.i64 0), D.v V.nils]] [(2, 14, [])]) e a w → ∃ g', FI E g' (stL l a3 2 S Pl Le [] []) e a w) ∧ di 0 = di (↑0 : Int) ∧ [some (cDz l a3), some zM, some (lM 2 S Pl Le [] [])] = [some (cDz l a3), some zM, some (lM 2 S Pl Le [] [])] ∧ [(2, 14, nV)] = [(2, 14, nV)] ∧ Nv.It (RunC (CN (List.length (dz l a).H)) PP (fun env σ1 => ResOK PP fChn env σ1 (dMod m) (dz l a')) [KI.lp (sub cChn [1, 1, 1, 0, 1, 0, 0]), KI.blk 0, KI.code (sub cChn [1, 1, 1, 1])] (mkE 92 [(0, D.ptr 0 0), (4, D.ptr 1 0), (5, D.ptr 2 0), (6, di (↑0 : Int))]) (stL l a3 2 S Pl Le [] []))) = _) ?_
    have w1 : IntKind.wrap IntKind.i64 (1 + (n1 : Int)) = 1 + n1 := wrap_id (by omega) (by omega)
    have w2 : IntKind.wrap IntKind.i64 (1 + (n2 : Int)) = 1 + n2 := wrap_id (by omega) (by omega)
    have w3 : IntKind.wrap IntKind.i64 (1 + (n3 : Int)) = 1 + n3 := wrap_id (by omega) (by omega)
    have z1 : ∀ x ∈ [V.str [97], V.str [98], V.str [99]], x.size = 1 := by simp [V.size]
    have z2 : ∀ x ∈ [V.str [120], V.str [121]], x.size = 1 := by simp [V.size]
    have z3 : ∀ x ∈ [V.str [112], V.str [113]], x.size = 1 := by simp [V.size]
    have k1 : V.list (List.drop 0 (List.take (1 + (n1 : Int)).toNat [V.str [97], V.str [98], V.str [99]])) = vSs S := by
      rw [hS, List.drop_zero, show (1 + (n1 : Int)).toNat = 1 + n1 by omega]
      rcases (show n1 = 0 ∨ n1 = 1 ∨ n1 = 2 by omega) with rfl | rfl | rfl <;> rfl
    have k2 : V.list (List.drop 0 (List.take (1 + (n2 : Int)).toNat [V.str [120], V.str [121]])) = vSs Pl := by
      rw [hPl, List.drop_zero, show (1 + (n2 : Int)).toNat = 1 + n2 by omega]
      rcases (show n2 = 0 ∨ n2 = 1 by omega) with rfl | rfl <;> rfl
    have k3 : List.drop 0 (List.take (1 + (n3 : Int)).toNat [V.str [112], V.str [113]]) = Le.map V.str := by
      rw [hLe, List.drop_zero, show (1 + (n3 : Int)).toNat = 1 + n3 by omega]
      rcases (show n3 = 0 ∨ n3 = 1 by omega) with rfl | rfl <;> rfl
    rw [w1, w2, w3]
    refine ⟨p4, p4, rfl, z1, by show 0 ≤ 1 + (n1 : Int); omega, by show 1 + (n1 : Int) ≤ 3; omega, q4, q4, rfl, z2, by show 0 ≤ 1 + (n2 : Int); omega, by show 1 + (n2 : Int) ≤ 2; omega, u4, u4, rfl, z3, by show 0 ≤ 1 + (n3 : Int); omega, by show 1 + (n3 : Int) ≤ 2; omega, rfl, trivial, fun e => ?_, rfl, rfl, rfl, ⟨m3⟩⟩
    show Cv e ⟨[some (cDz l a3), some zM, some [di 2, .v (V.list (List.drop 0 (List.take (1 + (n1 : Int)).toNat [V.str [97], V.str [98], V.str [99]]))), .v (V.list (List.drop 0 (List.take (1 + (n2 : Int)).toNat [V.str [120], V.str [121]]))), .v (V.list (List.drop 0 (List.take (1 + (n3 : Int)).toNat [V.str [112], V.str [113]]))), .v .nils, di 0, di 0, .acc 2 [], di 0, .v .nils]], [(2, 14, [])]⟩ e _
    rw [k1, k2, k3]
    exact cv_lM (H := [some (cDz l a3), some zM, some [di 2, .v (vSs S), .v (vSs Pl), .v (vSs Le), .v .nils, di 0, di 0, .acc 2 [], di 0, .v .nils]]) (q := 2) rfl e
  · obtain ⟨rk, a4, v1, v2, v3, v4⟩ := ints_ex l hl a3 u3 Le.length (by rcases hLx with h | h <;> rw [h] <;> decide) 1 (by decide) (by decide)
    obtain ⟨m, a', m1, m2, m3⟩ := chn_loop l hl 3 S Pl Le rk hSx hPx hLx (by rw [if_pos rfl]; exact ⟨v2, v3⟩) _ 0 a4 [] rfl (by omega) (by omega) rfl (by simp)
    refine ⟨m, a', m1, m2, ?_⟩
    refine spec_vc mixed fChn cChn (by kernel_rfl) (by kernel_rfl) (by kernel_rfl) (by kernel_rfl) 92 (by kernel_rfl) [] (.h (.dr 17) <| .c1 (cDz l a1) (di n1) <| .c1 (cDz l a2) (di n2) <| .c1 (cDz l a3) (di n3) <| .h .rn <| .k <| .c1 (cDz l a4) (dIs rk) <| .h (.q 4 0) <| .h (.cl 2 7 2 14) <| .h (.cs (stL l a4 3 S Pl Le rk [])) <| .ls [ke 0, ke 4, ke 5, ch 6 (di (0 : Nat))] (stL l a4 3 S Pl Le rk [])) ?_
    refine via (by kernel_rfl : (FSpec PP 18 [D.ptr 0 0, di 3] (St.mk [some (cDz l a)] []) (di (↑n1 : Int)) (St.mk [some (cDz l a1)] []) ∧ FSpec PP 18 [D.ptr 0 0, di 3] (St.mk [some (cDz l a)] []) (di (↑n1 : Int)) (St.mk [some (cDz l a1)] []) ∧ di (↑n1 : Int) = di (↑n1 : Int) ∧ (∀ (x : V), x ∈ [V.str (ByteArray.mk #[97]).data.toList, V.str (ByteArray.mk #[98]).data.toList, V.str (ByteArray.mk #[99]).data.toList] → V.size x = 1) ∧ 0 ≤ (fun x => x.snd) (IntKind.i64, IntKind.wrap IntKind.i64 (1 + (↑n1 : Int))) ∧ (fun x => x.snd) (IntKind.i64, IntKind.wrap IntKind.i64 (1 + (↑n1 : Int))) ≤ (↑(List.length [V.str (ByteArray.mk #[97]).data.toList, V.str (ByteArray.mk #[98]).data.toList, V.str (ByteArray.mk #[99]).data.toList]) : Int) ∧ FSpec PP 18 [D.ptr 0 0, di 2] (St.mk [some (cDz l a1)] []) (di (↑n2 : Int)) (St.mk [some (cDz l a2)] []) ∧ FSpec PP 18 [D.ptr 0 0, di 2] (St.mk [some (cDz l a1)] []) (di (↑n2 : Int)) (St.mk [some (cDz l a2)] []) ∧ di (↑n2 : Int) = di (↑n2 : Int) ∧ (∀ (x : V), x ∈ [V.str (ByteArray.mk #[120]).data.toList, V.str (ByteArray.mk #[121]).data.toList] → V.size x = 1) ∧ 0 ≤ (fun x => x.snd) (IntKind.i64, IntKind.wrap IntKind.i64 (1 + (↑n2 : Int))) ∧ (fun x => x.snd) (IntKind.i64, IntKind.wrap IntKind.i64 (1 + (↑n2 : Int))) ≤ (↑(List.length [V.str (ByteArray.mk #[120]).data.toList, V.str (ByteArray.mk #[121]).data.toList]) : Int) ∧ FSpec PP 18 [D.ptr 0 0, di 2] (St.mk [some (cDz l a2)] []) (di (↑n3 : Int)) (St.mk [some (cDz l a3)] []) ∧ FSpec PP 18 [D.ptr 0 0, di 2] (St.mk [some (cDz l a2)] []) (di (↑n3 : Int)) (St.mk [some (cDz l a3)] []) ∧ di (↑n3 : Int) = di (↑n3 : Int) ∧ (∀ (x : V), x ∈ [V.str (ByteArray.mk #[112]).data.toList, V.str (ByteArray.mk #[113]).data.toList] → V.size x = 1) ∧ 0 ≤ (fun x => x.snd) (IntKind.i64, IntKind.wrap IntKind.i64 (1 + (↑n3 : Int))) ∧ (fun x => x.snd) (IntKind.i64, IntKind.wrap IntKind.i64 (1 + (↑n3 : Int))) ≤ (↑(List.length [V.str (ByteArray.mk #[112]).data.toList, V.str (ByteArray.mk #[113]).data.toList]) : Int) ∧ [St.mk [some (cDz l a), some [di 0, D.v V.nils, D.v V.nils, D.v V.nils, D.v V.nils, di 0, di 0, D.v V.nils, di 0, D.v V.nils], some [di 0, D.v V.nils, D.v V.nils, D.v V.nils, D.v V.nils, di 0, di 0, D.v V.nils, di 0, D.v V.nils]] [], St.mk [some (cDz l a1), some [di 0, D.v V.nils, D.v V.nils, D.v V.nils, D.v V.nils, di 0, di 0, D.v V.nils, di 0, D.v V.nils], some [di 0, D.v V.nils, D.v V.nils, D.v V.nils, D.v V.nils, di 0, di 0, D.v V.nils, di 0, D.v V.nils]] [], St.mk [some (cDz l a2), some [di 0, D.v V.nils, D.v V.nils, D.v V.nils, D.v V.nils, di 0, di 0, D.v V.nils, di 0, D.v V.nils], some [di 0, D.v V.nils, D.v V.nils, D.v V.nils, D.v V.nils, di 0, di 0, D.v V.nils, di 0, D.v V.nils]] [], St.mk [some (cDz l a3), some [di 0, D.v V.nils, D.v V.nils, D.v V.nils, D.v V.nils, di 0, di 0, D.v V.nils, di 0, D.v V.nils], some [di 0, D.v V.nils, D.v V.nils, D.v V.nils, D.v V.nils, di 0, di 0, D.v V.nils, di 0, D.v V.nils]] []] = [St.mk [some (cDz l a), some [di 0, D.v V.nils, D.v V.nils, D.v V.nils, D.v V.nils, di 0, di 0, D.v V.nils, di 0, D.v V.nils], some [di 0, D.v V.nils, D.v V.nils, D.v V.nils, D.v V.nils, di 0, di 0, D.v V.nils, di 0, D.v V.nils]] [], St.mk [some (cDz l a1), some [di 0, D.v V.nils, D.v V.nils, D.v V.nils, D.v V.nils, di 0, di 0, D.v V.nils, di 0, D.v V.nils], some [di 0, D.v V.nils, D.v V.nils, D.v V.nils, D.v V.nils, di 0, di 0, D.v V.nils, di 0, D.v V.nils]] [], St.mk [some (cDz l a2), some [di 0, D.v V.nils, D.v V.nils, D.v V.nils, D.v V.nils, di 0, di 0, D.v V.nils, di 0, D.v V.nils], some [di 0, D.v V.nils, D.v V.nils, D.v V.nils, D.v V.nils, di 0, di 0, D.v V.nils, di 0, D.v V.nils]] [], St.mk [some (cDz l a3), some [di 0, D.v V.nils, D.v V.nils, D.v V.nils, D.v V.nils, di 0, di 0, D.v V.nils, di 0, D.v V.nils], some [di 0, D.v V.nils, D.v V.nils, D.v V.nils, D.v V.nils, di 0, di 0, D.v V.nils, di 0, D.v V.nils]] []] ∧ True ∧ FSpec PP 23 [D.ptr 0 0, di (↑(List.length (List.drop 0 (List.take (Int.toNat ((fun x => x.snd) (IntKind.i64, IntKind.wrap IntKind.i64 (1 + (↑n3 : Int))))) (V.str (ByteArray.mk #[112]).data.toList :: V.str (ByteArray.mk #[113]).data.toList :: nV)))) : Int), di 1] (St.mk [some (cDz l a3)] []) (dIs rk) (St.mk [some (cDz l a4)] []) ∧ (∀ (e : List D) (E : Ent) (g : Gh) (a : Act) (w : World), FI E g (St.mk [some (cDz l a4), some [D.v (V.int IntKind.i64 0), D.v V.nils, D.v V.nils, D.v V.nils, D.v V.nils, D.v (V.int IntKind.i64 0), D.v (V.int IntKind.i64 0), D.v V.nils, D.v (V.int IntKind.i64 0), D.v V.nils], some [D.v (V.int IntKind.i64 3), D.v (V.list (List.drop 0 (List.take (Int.toNat ((fun x => x.snd) (IntKind.i64, IntKind.wrap IntKind.i64 (1 + (↑n1 : Int))))) [V.str (ByteArray.mk #[97]).data.toList, V.str (ByteArray.mk #[98]).data.toList, V.str (ByteArray.mk #[99]).data.toList]))), D.v (V.list (List.drop 0 (List.take (Int.toNat ((fun x => x.snd) (IntKind.i64, IntKind.wrap IntKind.i64 (1 + (↑n2 : Int))))) [V.str (ByteArray.mk #[120]).data.toList, V.str (ByteArray.mk #[121]).data.toList]))), D.v (V.list (List.drop 0 (List.take (Int.toNat ((fun x => x.snd) (IntKind.i64, IntKind.wrap IntKind.i64 (1 + (↑n3 : Int))))) [V.str (ByteArray.mk #[112]).data.toList, V.str (ByteArray.mk #[113]).data.toList]))), dIs rk, D.v (V.int IntKind.i64 0), D.v (V.int IntKind.i64 0), D.acc 2 [], D.v (V.int IntKind.i64 0), D.v V.nils]] [(2, 14, [])]) e a w → ∃ g', FI E g' (stL l a4 3 S Pl Le rk []) e a w) ∧ di 0 = di (↑0 : Int) ∧ [some (cDz l a4), some zM, some (lM 3 S Pl Le rk [])] = [some (cDz l a4), some zM, some (lM 3 S Pl Le rk [])] ∧ [(2, 14, nV)] = [(2, 14, nV)] ∧ Nv.It (RunC (CN (List.length (dz l a).H)) PP (fun env σ1 => ResOK PP fChn env σ1 (dMod m) (dz l a')) [KI.lp (sub cChn [1, 1, 1, 0, 1, 0, 0]), KI.blk 0, KI.code (sub cChn [1, 1, 1, 1])] (mkE 92 [(0, D.ptr 0 0), (4, D.ptr 1 0), (5, D.ptr 2 0), (6, di (↑0 : Int))]) (stL l a4 3 S Pl Le rk []))) = _) ?_
    have w1 : IntKind.wrap IntKind.i64 (1 + (n1 : Int)) = 1 + n1 := wrap_id (by omega) (by omega)
    have w2 : IntKind.wrap IntKind.i64 (1 + (n2 : Int)) = 1 + n2 := wrap_id (by omega) (by omega)
    have w3 : IntKind.wrap IntKind.i64 (1 + (n3 : Int)) = 1 + n3 := wrap_id (by omega) (by omega)
    have z1 : ∀ x ∈ [V.str [97], V.str [98], V.str [99]], x.size = 1 := by simp [V.size]
    have z2 : ∀ x ∈ [V.str [120], V.str [121]], x.size = 1 := by simp [V.size]
    have z3 : ∀ x ∈ [V.str [112], V.str [113]], x.size = 1 := by simp [V.size]
    have k1 : V.list (List.drop 0 (List.take (1 + (n1 : Int)).toNat [V.str [97], V.str [98], V.str [99]])) = vSs S := by
      rw [hS, List.drop_zero, show (1 + (n1 : Int)).toNat = 1 + n1 by omega]
      rcases (show n1 = 0 ∨ n1 = 1 ∨ n1 = 2 by omega) with rfl | rfl | rfl <;> rfl
    have k2 : V.list (List.drop 0 (List.take (1 + (n2 : Int)).toNat [V.str [120], V.str [121]])) = vSs Pl := by
      rw [hPl, List.drop_zero, show (1 + (n2 : Int)).toNat = 1 + n2 by omega]
      rcases (show n2 = 0 ∨ n2 = 1 by omega) with rfl | rfl <;> rfl
    have k3 : List.drop 0 (List.take (1 + (n3 : Int)).toNat [V.str [112], V.str [113]]) = Le.map V.str := by
      rw [hLe, List.drop_zero, show (1 + (n3 : Int)).toNat = 1 + n3 by omega]
      rcases (show n3 = 0 ∨ n3 = 1 by omega) with rfl | rfl <;> rfl
    rw [w1, w2, w3]
    refine ⟨p4, p4, rfl, z1, by show 0 ≤ 1 + (n1 : Int); omega, by show 1 + (n1 : Int) ≤ 3; omega, q4, q4, rfl, z2, by show 0 ≤ 1 + (n2 : Int); omega, by show 1 + (n2 : Int) ≤ 2; omega, u4, u4, rfl, z3, by show 0 ≤ 1 + (n3 : Int); omega, by show 1 + (n3 : Int) ≤ 2; omega, rfl, trivial, ?_, fun e => ?_, rfl, rfl, rfl, ⟨m3⟩⟩
    · show FSpec PP _ [_, di ((List.drop 0 (List.take (1 + (n3 : Int)).toNat [V.str [112], V.str [113]])).length : Int), _] _ _ _
      rw [k3, List.length_map]; exact v4
    show Cv e ⟨[some (cDz l a4), some zM, some [di 3, .v (V.list (List.drop 0 (List.take (1 + (n1 : Int)).toNat [V.str [97], V.str [98], V.str [99]]))), .v (V.list (List.drop 0 (List.take (1 + (n2 : Int)).toNat [V.str [120], V.str [121]]))), .v (V.list (List.drop 0 (List.take (1 + (n3 : Int)).toNat [V.str [112], V.str [113]]))), dIs rk, di 0, di 0, .acc 2 [], di 0, .v .nils]], [(2, 14, [])]⟩ e _
    rw [k1, k2, k3]
    exact cv_lM (H := [some (cDz l a4), some zM, some [di 3, .v (vSs S), .v (vSs Pl), .v (vSs Le), dIs rk, di 0, di 0, .acc 2 [], di 0, .v .nils]]) (q := 2) rfl e
end Go.Proofs.YtopbcpgmffppjaaGreatDoor

namespace Go.Proofs.YtopbcpgmffppjaaGreatDoor
open Go.Dv Go.Nv
set_option maxRecDepth 20000
noncomputable abbrev fCpy06 : Func := Tryz.f63
noncomputable def cCpy06 : Code := fCpy06.body.getD .skip
abbrev stQ (n : Int) (l : List Val) : St := ⟨[some [di 0, .v .nils], some [di n, .acc 1 (l.map eV)]], [(1, 2, l.map eV)]⟩
theorem cpy06_loop (v : Val) (hv : v.size ≤ 1000000) (hk : ∀ x ∈ v.kids, FSpec PP 63 [dV x] σ0 (dV x) σ0) (n : Nat) : ∀ k : Nat, v.kids.length - k = n →
    Rn PP fCpy06 0 (dV v) σ0 ([.lp (sub cCpy06 [1, 1, 0, 1, 0, 0]), .blk 0, .code (sub cCpy06 [1, 1, 1])] ++ []) (mkE 27 [(1, .v (.ref (vVal v))), (2, .ptr 0 0), (3, .ptr 1 0), (4, di k)]) (stQ v.n (v.kids.take k)) := by
  have hs := v.size_eq
  have hl := Val.length_le v.kids
  induction n with
  | zero =>
    intro k hn
    refine loop_vc mixed 27 [1] (.f .r) ?_
    refine via (by kernel_rfl : (decide ((↑k : Int) < (↑(List.length (List.map eV (Val.kids v))) : Int)) = false ∧ D.v (V.agg [vi (Val.n v), V.list (List.map eV (List.take k (Val.kids v)))]) = dV v) = _) ?_
    rw [List.take_of_length_le (by omega)]
    exact ⟨decide_eq_false (by rw [List.length_map]; omega), rfl⟩
  | succ n ih =>
    intro k hn
    obtain ⟨x, hx⟩ : ∃ x, v.kids[k]? = some x := ⟨_, List.getElem?_eq_getElem (show k < v.kids.length by omega)⟩
    refine loop_vc mixed 27 [1] (.t <| .h (.xs (vVal x)) <| .c (dV x) <| .ls [ke 1, ke 2, ke 3, ch 4 (di (k + 1 : Nat))] (stQ v.n (v.kids.take (k + 1)))) ?_
    refine via (by kernel_rfl : (decide ((↑k : Int) < (↑(List.length (List.map eV (Val.kids v))) : Int)) = true ∧ 2 = 2 ∧ 0 ≤ (↑k : Int) ∧ (List.map eV (Val.kids v))[Int.toNat (↑k : Int)]? = some (vVal x) ∧ FSpec PP 63 [D.v (vVal x)] (St.mk [] []) (dV x) (St.mk [] []) ∧ List.map eV (List.take k (Val.kids v)) = List.map eV (List.take k (Val.kids v)) ∧ LenOK (List.length (List.map eV (List.take k (Val.kids v))) + List.length (vVal x :: nV)) 32 ∧ (True ∧ True) ∧ di (IntKind.wrap IntKind.i64 ((↑k : Int) + 1)) = di (↑(k + 1) : Int) ∧ [some [di 0, D.v V.nils], some [di (Val.n v), D.acc 1 (List.map eV (List.take k (Val.kids v)) ++ vVal x :: nV)]] = [some [di 0, D.v V.nils], some [di (Val.n v), D.acc 1 (List.map eV (List.take (k + 1) (Val.kids v)))]] ∧ [(1, 2, List.map eV (List.take k (Val.kids v)) ++ vVal x :: nV)] = [(1, 2, List.map eV (List.take (k + 1) (Val.kids v)))] ∧ Nv.It (RunC (CN 0) PP (fun env σ1 => ResOK PP fCpy06 env σ1 (dV v) σ0) [KI.lp (sub cCpy06 [1, 1, 0, 1, 0, 0]), KI.blk 0, KI.code (sub cCpy06 [1, 1, 1])] (mkE 27 [(1, D.v (V.ref (vVal v))), (2, D.ptr 0 0), (3, D.ptr 1 0), (4, di (↑(k + 1) : Int))]) (stQ (Val.n v) (List.take (k + 1) (Val.kids v))))) = _) ?_
    have ht : v.kids.take (k + 1) = v.kids.take k ++ [x] := by rw [List.take_add_one, hx]; rfl
    refine ⟨decide_eq_true (by rw [List.length_map]; omega), rfl, by omega, idx_val hx, hk x (List.mem_of_getElem? hx), rfl, ⟨?_, ?_⟩, ⟨trivial, trivial⟩, wrap_succ (by omega), ?_, ?_, ⟨ih (k + 1) (by omega)⟩⟩
    · simp only [List.length_map, List.length_take, List.length_cons, List.length_nil]; omega
    · simp only [List.length_map, List.length_take, List.length_cons, List.length_nil]; omega
    · rw [ht, append_val]
    · rw [ht, append_val]
theorem cpy06_spec (N : Nat) : ∀ v : Val, v.size ≤ N → v.size ≤ 1000000 → FSpec PP 63 [dV v] σ0 (dV v) σ0 := by
  induction N with
  | zero => intro v h; have := v.size_pos; omega
  | succ N ih =>
    intro v hN hv
    have hs := v.size_eq
    refine spec_vc mixed fCpy06 cCpy06 (by kernel_rfl) (by kernel_rfl) (by kernel_rfl) (by kernel_rfl) 27 (by kernel_rfl) [1] (.h .rn <| .h (.q 2 0) <| .h (.cl 1 1 1 2) <| .ls [ke 1, ke 2, ke 3, ch 4 (di (0 : Nat))] (stQ v.n [])) ?_
    refine via (by kernel_rfl : (di 0 = di (↑0 : Int) ∧ [some [di 0, D.v V.nils], some [di (Val.n v), D.acc 1 nV]] = [some [di 0, D.v V.nils], some [di (Val.n v), D.acc 1 nV]] ∧ [(1, 2, nV)] = [(1, 2, nV)] ∧ Nv.It (RunC (CN (List.length σ0.H)) PP (fun env σ1 => ResOK PP fCpy06 env σ1 (dV v) σ0) [KI.lp (sub cCpy06 [1, 1, 0, 1, 0, 0]), KI.blk 0, KI.code (sub cCpy06 [1, 1, 1])] (mkE 27 [(1, D.v (V.ref (vVal v))), (2, D.ptr 0 0), (3, D.ptr 1 0), (4, di (↑0 : Int))]) (stQ (Val.n v) []))) = _) ?_
    have := cpy06_loop v hv (fun x hx => by have := Val.size_mem hx; exact ih x (by omega) (by omega)) _ 0 rfl
    exact ⟨rfl, rfl, rfl, ⟨by simpa using this⟩⟩
noncomputable abbrev fPut06 : Func := Tryz.f40
noncomputable def cPut06 : Code := fPut06.body.getD .skip
/-- how many elements are smaller -/
def putI (v : Val) : List Val → Nat
  | [] => 0
  | x :: l => if cmpV x v < 0 then putI v l + 1 else 0
def putV (l : List Val) (v : Val) : List Val := match l[putI v l]? with
  | some x => if (cmpV x v == 0) = true then l else l.take (putI v l) ++ v :: l.drop (putI v l)
  | none => l.take (putI v l) ++ v :: l.drop (putI v l)
theorem putI_le (v : Val) : ∀ l : List Val, putI v l ≤ l.length
  | [] => Nat.le_refl _
  | x :: l => by
    have := putI_le v l
    unfold putI; split <;> simp only [List.length_cons] <;> omega
theorem putI_lt (v : Val) : ∀ (l : List Val) (k : Nat), k < putI v l → ∃ x, l[k]? = some x ∧ cmpV x v < 0
  | [], k, h => by simp [putI] at h
  | x :: l, k, h => by
    unfold putI at h
    split at h
    · rename_i hx
      cases k with
      | zero => exact ⟨x, rfl, hx⟩
      | succ k => exact putI_lt v l k (by omega)
    · omega
theorem putI_at (v : Val) : ∀ (l : List Val) (x : Val), l[putI v l]? = some x → ¬ cmpV x v < 0
  | [], x, h => by simp at h
  | y :: l, x, h => by
    unfold putI at h
    split at h
    · exact putI_at v l x (by simpa using h)
    · rename_i hy
      simp at h; subst h; exact hy
theorem eVsz2 (l : List Val) : ∀ x ∈ l.map eV, x.size = 2 := fun x hx => by
  obtain ⟨y, _, rfl⟩ := List.mem_map.1 hx
  rw [enc_eq]; rfl
theorem eVsz3 (l : List Val) (i j : Nat) : ∀ x ∈ ((l.map eV).take j).drop i, x.size = 2 := fun x hx => eVsz2 l x (List.mem_of_mem_take (List.mem_of_mem_drop hx))
theorem put_end (l : List Val) (v : Val) (k : Nat) : List.take k (l.map eV) ++ [vVal v] ++ List.drop k (l.map eV) = (l.take k ++ v :: l.drop k).map eV := by
  rw [← enc_eq]; simp [List.map_take, List.map_drop]
theorem put_fin (l : List Val) (v : Val) (k : Nat) : D.v (V.list (List.drop 0 (List.take ((k : Nat) : Int).toNat (l.map eV)) ++ [vVal v] ++ List.drop ((k : Nat) : Int).toNat (List.take (l.map eV).length (l.map eV)))) = dVs (l.take k ++ v :: l.drop k) := by
  rw [List.drop_zero, List.take_length]; exact congrArg (fun z => D.v (V.list z)) (put_end l v k)
theorem put_loop (l : List Val) (v : Val) (hl : Val.sizes l ≤ 1000000) (hv : v.size ≤ 1000000) (n : Nat) : ∀ k : Nat, putI v l - k = n → k ≤ putI v l →
    Rn PP fPut06 0 (dVs (putV l v)) σ0 ([.lp (sub cPut06 [1, 1, 0, 0, 0]), .blk 0, .code (sub cPut06 [1, 1, 1])] ++ []) (mkE 46 [(0, dVs l), (3, .v (.ref (vVal v))), (5, di k)]) σ0 := by
  have hil := putI_le v l
  have hll := Val.length_le l
  induction n with
  | zero =>
    intro k hn hk0
    have hk : k = putI v l := by omega
    subst hk
    cases hx : l[putI v l]? with
    | none =>
      have e1 : putV l v = l.take (putI v l) ++ v :: l.drop (putI v l) := by rw [putV, hx]
      have hlt : l.length ≤ putI v l := List.getElem?_eq_none_iff.1 hx
      rw [e1]
      refine loop_vc mixed 46 [3] (.f <| .k <| .f <| .k <| .a 1 <| .w <| .c (dV v) <| .w <| .w <| .r) ?_
      refine via (by kernel_rfl : (decide ((↑(putI v l) : Int) < (↑(List.length (List.map eV l)) : Int)) = false ∧ decide ((↑(putI v l) : Int) < (↑(List.length (List.map eV l)) : Int)) = false ∧ (∀ (x : V), x ∈ List.map eV l → V.size x = 2) ∧ 0 ≤ (fun x => x.snd) (IntKind.i64, (↑(putI v l) : Int)) ∧ (fun x => x.snd) (IntKind.i64, (↑(putI v l) : Int)) ≤ (↑(List.length (List.map eV l)) : Int) ∧ LenOK (List.length (List.drop 0 (List.take (Int.toNat ((fun x => x.snd) (IntKind.i64, (↑(putI v l) : Int)))) (List.map eV l)))) 32 ∧ (∀ (y : V), y ∈ List.drop 0 (List.take (Int.toNat ((fun x => x.snd) (IntKind.i64, (↑(putI v l) : Int)))) (List.map eV l)) → V.size y = 2) ∧ FSpec PP 63 [D.v (vVal v)] (St.mk [] []) (dV v) (St.mk [] []) ∧ List.drop 0 (List.take (Int.toNat ((fun x => x.snd) (IntKind.i64, (↑(putI v l) : Int)))) (List.map eV l)) = List.drop 0 (List.take (Int.toNat ((fun x => x.snd) (IntKind.i64, (↑(putI v l) : Int)))) (List.map eV l)) ∧ LenOK (List.length (List.drop 0 (List.take (Int.toNat ((fun x => x.snd) (IntKind.i64, (↑(putI v l) : Int)))) (List.map eV l))) + List.length (vVal v :: nV)) 32 ∧ (∀ (y : V), y ∈ [vVal v] → V.size y = 2) ∧ (∀ (x : V), x ∈ List.map eV l → V.size x = 2) ∧ 0 ≤ (fun x => x.snd) (IntKind.i64, (↑(putI v l) : Int)) ∧ (fun x => x.snd) (IntKind.i64, (↑(putI v l) : Int)) ≤ (↑(List.length (List.map eV l)) : Int) ∧ List.drop 0 (List.take (Int.toNat ((fun x => x.snd) (IntKind.i64, (↑(putI v l) : Int)))) (List.map eV l)) ++ vVal v :: nV = List.drop 0 (List.take (Int.toNat ((fun x => x.snd) (IntKind.i64, (↑(putI v l) : Int)))) (List.map eV l)) ++ vVal v :: nV ∧ LenOK (List.length (List.drop 0 (List.take (Int.toNat ((fun x => x.snd) (IntKind.i64, (↑(putI v l) : Int)))) (List.map eV l)) ++ vVal v :: nV) + List.length (List.drop (Int.toNat ((fun x => x.snd) (IntKind.i64, (↑(putI v l) : Int)))) (List.take (List.length (List.map eV l)) (List.map eV l)))) 32 ∧ (∀ (y : V), y ∈ List.drop (Int.toNat ((fun x => x.snd) (IntKind.i64, (↑(putI v l) : Int)))) (List.take (List.length (List.map eV l)) (List.map eV l)) → V.size y = 2) ∧ D.v (V.list (List.drop 0 (List.take (Int.toNat ((fun x => x.snd) (IntKind.i64, (↑(putI v l) : Int)))) (List.map eV l)) ++ [vVal v] ++ List.drop (Int.toNat ((fun x => x.snd) (IntKind.i64, (↑(putI v l) : Int)))) (List.take (List.length (List.map eV l)) (List.map eV l)))) = dVs (List.take (putI v l) l ++ v :: List.drop (putI v l) l)) = _) ?_
      have z0 : (0 : Int) ≤ (putI v l : Int) := by omega
      have z1 : (putI v l : Int) ≤ ((l.map eV).length : Int) := by rw [List.length_map]; omega
      have z2 : ∀ y ∈ [vVal v], y.size = 2 := fun y hy => by rw [List.mem_singleton.1 hy]; rfl
      repeat' first | with_reducible refine And.intro ?_ ?_
      all_goals first | exact decide_eq_false (by rw [List.length_map]; omega) | exact eVsz2 l | exact eVsz3 l _ _ | exact z2 | exact cpy06_spec _ v (Nat.le_refl _) hv | exact z0 | exact z1 | exact Nat.zero_le _ | rfl | (simp only [List.length_append, List.length_drop, List.length_take, List.length_map, List.length_cons, List.length_nil]; omega) | exact put_fin l v _
    | some x =>
      have hlt := (List.getElem?_eq_some_iff.1 hx).1
      have hc := putI_at v l x hx
      have hsz := Val.size_mem (List.mem_of_getElem? hx)
      have z0' : (0 : Int) ≤ (putI v l : Int) := by omega
      by_cases he : (cmpV x v == 0) = true
      · have e1 : putV l v = l := by rw [putV, hx]; simp only [he, if_true]
        rw [e1]
        refine loop_vc mixed 46 [3] (.t <| .h (.xs (vVal x)) <| .c (di (cmpV x v)) <| .f <| .t <| .h (.xs (vVal x)) <| .c (db (cmpV x v == 0)) <| .t <| .r) ?_
        refine via (by kernel_rfl : (decide ((↑(putI v l) : Int) < (↑(List.length (List.map eV l)) : Int)) = true ∧ 2 = 2 ∧ 0 ≤ (↑(putI v l) : Int) ∧ (List.map eV l)[Int.toNat (↑(putI v l) : Int)]? = some (vVal x) ∧ FSpec PP 61 [D.v (vVal x), D.v (vVal v)] (St.mk [] []) (di (cmpV x v)) (St.mk [] []) ∧ decide (cmpV x v < 0) = false ∧ decide ((↑(putI v l) : Int) < (↑(List.length (List.map eV l)) : Int)) = true ∧ 2 = 2 ∧ 0 ≤ (↑(putI v l) : Int) ∧ (List.map eV l)[Int.toNat (↑(putI v l) : Int)]? = some (vVal x) ∧ FSpec PP 62 [D.v (vVal x), D.v (vVal v)] (St.mk [] []) (db (cmpV x v == 0)) (St.mk [] []) ∧ (cmpV x v == 0) = true ∧ D.v (vVs l) = dVs l) = _) ?_
        exact ⟨decide_eq_true (by rw [List.length_map]; omega), rfl, z0', idx_val hx, cmp06_spec _ x v (Nat.le_refl _) (by omega), decide_eq_false hc, decide_eq_true (by rw [List.length_map]; omega), rfl, z0', idx_val hx, sam06_spec x v (by omega), he, rfl⟩
      · have e1 : putV l v = l.take (putI v l) ++ v :: l.drop (putI v l) := by rw [putV, hx]; simp only [he]; rfl
        have he2 : (cmpV x v == 0) = false := by simpa using he
        rw [e1]
        refine loop_vc mixed 46 [3] (.t <| .h (.xs (vVal x)) <| .c (di (cmpV x v)) <| .f <| .t <| .h (.xs (vVal x)) <| .c (db (cmpV x v == 0)) <| .f <| .a 1 <| .w <| .c (dV v) <| .w <| .w <| .r) ?_
        refine via (by kernel_rfl : (decide ((↑(putI v l) : Int) < (↑(List.length (List.map eV l)) : Int)) = true ∧ 2 = 2 ∧ 0 ≤ (↑(putI v l) : Int) ∧ (List.map eV l)[Int.toNat (↑(putI v l) : Int)]? = some (vVal x) ∧ FSpec PP 61 [D.v (vVal x), D.v (vVal v)] (St.mk [] []) (di (cmpV x v)) (St.mk [] []) ∧ decide (cmpV x v < 0) = false ∧ decide ((↑(putI v l) : Int) < (↑(List.length (List.map eV l)) : Int)) = true ∧ 2 = 2 ∧ 0 ≤ (↑(putI v l) : Int) ∧ (List.map eV l)[Int.toNat (↑(putI v l) : Int)]? = some (vVal x) ∧ FSpec PP 62 [D.v (vVal x), D.v (vVal v)] (St.mk [] []) (db (cmpV x v == 0)) (St.mk [] []) ∧ (cmpV x v == 0) = false ∧ (∀ (x : V), x ∈ List.map eV l → V.size x = 2) ∧ 0 ≤ (fun x => x.snd) (IntKind.i64, (↑(putI v l) : Int)) ∧ (fun x => x.snd) (IntKind.i64, (↑(putI v l) : Int)) ≤ (↑(List.length (List.map eV l)) : Int) ∧ LenOK (List.length (List.drop 0 (List.take (Int.toNat ((fun x => x.snd) (IntKind.i64, (↑(putI v l) : Int)))) (List.map eV l)))) 32 ∧ (∀ (y : V), y ∈ List.drop 0 (List.take (Int.toNat ((fun x => x.snd) (IntKind.i64, (↑(putI v l) : Int)))) (List.map eV l)) → V.size y = 2) ∧ FSpec PP 63 [D.v (vVal v)] (St.mk [] []) (dV v) (St.mk [] []) ∧ List.drop 0 (List.take (Int.toNat ((fun x => x.snd) (IntKind.i64, (↑(putI v l) : Int)))) (List.map eV l)) = List.drop 0 (List.take (Int.toNat ((fun x => x.snd) (IntKind.i64, (↑(putI v l) : Int)))) (List.map eV l)) ∧ LenOK (List.length (List.drop 0 (List.take (Int.toNat ((fun x => x.snd) (IntKind.i64, (↑(putI v l) : Int)))) (List.map eV l))) + List.length (vVal v :: nV)) 32 ∧ (∀ (y : V), y ∈ [vVal v] → V.size y = 2) ∧ (∀ (x : V), x ∈ List.map eV l → V.size x = 2) ∧ 0 ≤ (fun x => x.snd) (IntKind.i64, (↑(putI v l) : Int)) ∧ (fun x => x.snd) (IntKind.i64, (↑(putI v l) : Int)) ≤ (↑(List.length (List.map eV l)) : Int) ∧ List.drop 0 (List.take (Int.toNat ((fun x => x.snd) (IntKind.i64, (↑(putI v l) : Int)))) (List.map eV l)) ++ vVal v :: nV = List.drop 0 (List.take (Int.toNat ((fun x => x.snd) (IntKind.i64, (↑(putI v l) : Int)))) (List.map eV l)) ++ vVal v :: nV ∧ LenOK (List.length (List.drop 0 (List.take (Int.toNat ((fun x => x.snd) (IntKind.i64, (↑(putI v l) : Int)))) (List.map eV l)) ++ vVal v :: nV) + List.length (List.drop (Int.toNat ((fun x => x.snd) (IntKind.i64, (↑(putI v l) : Int)))) (List.take (List.length (List.map eV l)) (List.map eV l)))) 32 ∧ (∀ (y : V), y ∈ List.drop (Int.toNat ((fun x => x.snd) (IntKind.i64, (↑(putI v l) : Int)))) (List.take (List.length (List.map eV l)) (List.map eV l)) → V.size y = 2) ∧ D.v (V.list (List.drop 0 (List.take (Int.toNat ((fun x => x.snd) (IntKind.i64, (↑(putI v l) : Int)))) (List.map eV l)) ++ [vVal v] ++ List.drop (Int.toNat ((fun x => x.snd) (IntKind.i64, (↑(putI v l) : Int)))) (List.take (List.length (List.map eV l)) (List.map eV l)))) = dVs (List.take (putI v l) l ++ v :: List.drop (putI v l) l)) = _) ?_
        have z0 : (0 : Int) ≤ (putI v l : Int) := by omega
        have z1 : (putI v l : Int) ≤ ((l.map eV).length : Int) := by rw [List.length_map]; omega
        have z2 : ∀ y ∈ [vVal v], y.size = 2 := fun y hy => by rw [List.mem_singleton.1 hy]; rfl
        repeat' first | with_reducible refine And.intro ?_ ?_
        all_goals first | exact decide_eq_true (by rw [List.length_map]; omega) | exact idx_val hx | exact cmp06_spec _ x v (Nat.le_refl _) (by omega) | exact decide_eq_false hc | exact sam06_spec x v (by omega) | exact he2 | exact eVsz2 l | exact eVsz3 l _ _ | exact z2 | exact cpy06_spec _ v (Nat.le_refl _) hv | exact z0 | exact z1 | exact Nat.zero_le _ | rfl | (simp only [List.length_append, List.length_drop, List.length_take, List.length_map, List.length_cons, List.length_nil]; omega) | exact put_fin l v _
  | succ n ih =>
    intro k hn hk0
    obtain ⟨x, hx, hc⟩ := putI_lt v l k (by omega)
    have hlt := (List.getElem?_eq_some_iff.1 hx).1
    have hsz := Val.size_mem (List.mem_of_getElem? hx)
    refine loop_vc mixed 46 [3] (.t <| .h (.xs (vVal x)) <| .c (di (cmpV x v)) <| .t <| .l [ke 0, ke 3, ch 5 (di (k + 1 : Nat))]) ?_
    refine via (by kernel_rfl : (decide ((↑k : Int) < (↑(List.length (List.map eV l)) : Int)) = true ∧ 2 = 2 ∧ 0 ≤ (↑k : Int) ∧ (List.map eV l)[Int.toNat (↑k : Int)]? = some (vVal x) ∧ FSpec PP 61 [D.v (vVal x), D.v (vVal v)] (St.mk [] []) (di (cmpV x v)) (St.mk [] []) ∧ decide (cmpV x v < 0) = true ∧ di (IntKind.wrap IntKind.i64 ((↑k : Int) + 1)) = di (↑(k + 1) : Int) ∧ Nv.It (RunC (CN 0) PP (fun env σ1 => ResOK PP fPut06 env σ1 (dVs (putV l v)) σ0) [KI.lp (sub cPut06 [1, 1, 0, 0, 0]), KI.blk 0, KI.code (sub cPut06 [1, 1, 1])] (mkE 46 [(0, D.v (vVs l)), (3, D.v (V.ref (vVal v))), (5, di (↑(k + 1) : Int))]) (St.mk [] []))) = _) ?_
    exact ⟨decide_eq_true (by rw [List.length_map]; omega), rfl, by omega, idx_val hx, cmp06_spec _ x v (Nat.le_refl _) (by omega), decide_eq_true hc, wrap_succ (by omega), ⟨ih (k + 1) (by omega) (by omega)⟩⟩
theorem put_spec (l : List Val) (v : Val) (hl : Val.sizes l ≤ 1000000) (hv : v.size ≤ 1000000) : FSpec PP 40 [dVs l, dV v] σ0 (dVs (putV l v)) σ0 := by
  refine spec_vc mixed fPut06 cPut06 (by kernel_rfl) (by kernel_rfl) (by kernel_rfl) (by kernel_rfl) 46 (by kernel_rfl) [3] (.l [ke 0, ke 3, ch 5 (di (0 : Nat))]) ?_
  refine via (by kernel_rfl : (di 0 = di (↑0 : Int) ∧ Nv.It (RunC (CN (List.length σ0.H)) PP (fun env σ1 => ResOK PP fPut06 env σ1 (dVs (putV l v)) σ0) [KI.lp (sub cPut06 [1, 1, 0, 0, 0]), KI.blk 0, KI.code (sub cPut06 [1, 1, 1])] (mkE 46 [(0, dVs l), (3, D.v (V.ref (vVal v))), (5, di (↑0 : Int))]) σ0)) = _) ?_
  exact ⟨rfl, ⟨put_loop l v hl hv _ 0 rfl (Nat.zero_le _)⟩⟩
end Go.Proofs.YtopbcpgmffppjaaGreatDoor

namespace Go.Proofs.YtopbcpgmffppjaaGreatDoor
open Go.Dv Go.Nv
set_option maxRecDepth 20000
theorem mapNameL {rs : List Rul} (h3 : rs.length ≤ 4) {ns np nl : Nat} (h : ∀ k r, rs[k]? = some r → MadeLR ns np nl k r) : rs.map Rul.name = dl4.take rs.length := by
  apply List.ext_getElem?
  intro i
  by_cases hi : i < rs.length
  · have hx : rs[i]? = some rs[i] := List.getElem?_eq_getElem hi
    rw [List.getElem?_map, hx, List.getElem?_take_of_lt hi, (h i _ hx).name]; rfl
  · rw [List.getElem?_eq_none (by simp; omega), List.getElem?_eq_none (by simp; omega)]
theorem word_lab {L : Int} {v : Val} (h : WordV L v) : (v.n == 0) = true ∧ decide ((v.kids.length : Int) ≤ 12) = true ∧ (v.kids.all fun k => labB L k) = true := by
  obtain ⟨ks, h1, h2, rfl⟩ := h
  refine ⟨rfl, decide_eq_true (by simp only [Val.kids, List.length_map]; omega), ?_⟩
  simp only [Val.kids, List.all_eq_true]
  intro k hk
  obtain ⟨x, hx, rfl⟩ := List.mem_map.1 hk
  have := h2 x hx
  simp only [labB, Val.n, Val.kids, Bool.and_eq_true, decide_eq_true_eq]
  exact ⟨decide_eq_true this.1, decide_eq_true this.2, rfl⟩
theorem words_one (t : Typ) (L : Int) (ht : ∀ v, WordV L v → oneB t v = true) : ∀ (n : Nat) (ys : List Val), ys.length = n → (∀ y ∈ ys, WordV L y) → onesB (List.replicate n t) ys = true
  | 0, ys, h, _ => by
    cases ys with
    | nil => rfl
    | cons y ys => simp at h
  | n + 1, ys, h, hy => by
    cases ys with
    | nil => simp at h
    | cons y ys =>
      simp only [List.replicate_succ, onesB, Bool.and_eq_true]
      exact ⟨ht y (hy y (by simp)), words_one t L ht n ys (by simpa using h) fun z hz => hy z (by simp [hz])⟩
theorem words_sz (L : Int) : ∀ (ys : List Val), (∀ y ∈ ys, WordV L y) → Val.sizes ys ≤ 3 * ys.length
  | [], _ => Nat.le_refl _
  | y :: ys, h => by
    have h1 := (h y (by simp)).size
    have h2 := words_sz L ys fun z hz => h z (by simp [hz])
    simp only [Val.sizes, List.length_cons]; omega
/-- a configuration of channels -/
theorem chan_valid (m : Mod) (hk : m.kind = 2 ∨ m.kind = 3) (hpl : m.places.length ≤ 2) (s : Int) (hs : 0 ≤ s ∧ s < m.states.length) (ys : List Val) (hy : ys.length = m.places.length) (h : ∀ y ∈ ys, WordV m.letters.length y) : validB (typM m) (.mk 0 (.mk s [] :: ys)) = true := by
  have hsz := words_sz _ ys h
  rw [validB, decide_eq_true (by simp only [Val.size, Val.sizes]; omega), Bool.true_and, typM]
  have he : ∀ v, WordV m.letters.length v → oneB (eltM m) v = true := fun v hv => by
    obtain ⟨h1, h2, h3⟩ := word_lab hv
    rcases hk with hk | hk
    · rw [show eltM m = .word (.lab m.letters.length) by simp [eltM, hk]]
      simp only [oneB, Bool.and_eq_true]
      exact ⟨h1, h2, h3⟩
    · rw [show eltM m = .prio m.letters.length m.ranks by simp [eltM, hk]]
      simp only [oneB, Bool.and_eq_true]
      exact ⟨h1, h2, h3⟩
  simp only [oneB, Val.n, Val.kids, onesB, labB, Bool.and_eq_true, decide_eq_true_eq, beq_iff_eq]
  refine ⟨?_, by simp [hy], ⟨decide_eq_true hs.1, decide_eq_true hs.2, by rfl⟩, words_one _ _ he _ ys hy h⟩
  first | trivial | rfl
theorem MadeL.ok {K : Int} {m : Mod} (hK : K = 2 ∨ K = 3) (h : MadeL K m) : m.ok := by
  have hk := h.kind
  have hk1 : ¬ m.kind = 1 := by omega
  have hst : 1 ≤ m.states.length ∧ m.states.length ≤ 3 := by obtain ⟨n, h1, h2, e⟩ := h.states; rw [e, List.length_take]; simp only [List.length_cons, List.length_nil]; omega
  have hpl : 1 ≤ m.places.length ∧ m.places.length ≤ 2 := by rcases h.places with e | e <;> rw [e] <;> decide
  have hll : 1 ≤ m.letters.length ∧ m.letters.length ≤ 2 := by rcases h.letters with e | e <;> rw [e] <;> decide
  have hb : ∀ {x a b : Int}, a ≤ x → x ≤ b → betB x a b = true := fun h1 h2 => by simp [betB, h1, h2]
  have hget : ∀ r ∈ m.rules, MadeLR m.states.length m.places.length m.letters.length (m.rules.idxOf r) r := fun r hr => by
    have hi := List.idxOf_lt_length_of_mem hr
    exact h.rules _ r (by rw [List.getElem?_eq_getElem hi, List.getElem_idxOf])
  have hc := h.count
  refine ⟨.inr (by omega), ?_, ?_, ?_, ?_, ?_, ?_, ?_⟩
  · simp only [sizedB, limM, if_neg hk1, Bool.and_eq_true, decide_eq_true_eq, h.levels, h.age]
    exact ⟨hb (by omega) (by omega), by omega, hb (by omega) (by omega), hb (by omega) (by omega), by decide, by decide⟩
  · have hr := h.ranks
    rw [rankedB]
    rcases hK with rfl | rfl
    · rw [if_neg (by decide)] at hr
      rw [if_pos (by rw [hk]; rfl), hr]; rfl
    · rw [if_pos rfl] at hr
      rw [if_neg (by rw [hk]; decide)]
      simp only [Bool.and_eq_true, beq_iff_eq, List.all_eq_true]
      exact ⟨by omega, fun x hx => hb (hr.2 x hx).1 (by have := (hr.2 x hx).2; omega)⟩
  · have hn := mapNameL h.count h.rules
    obtain ⟨n, n1, n2, e⟩ := h.states
    rw [namedB, namesM, hn, baseM]
    have : m.rules.length = 0 ∨ m.rules.length = 1 ∨ m.rules.length = 2 ∨ m.rules.length = 3 ∨ m.rules.length = 4 := by omega
    rcases (show n = 1 ∨ n = 2 ∨ n = 3 by omega) with rfl | rfl | rfl <;> rcases h.places with e' | e' <;> rcases h.letters with e3 | e3 <;> rcases this with e2 | e2 | e2 | e2 | e2 <;> rw [e, e', e2, e3] <;> decide +kernel
  · intro r hr
    rw [(hget r hr).rest]
    exact ⟨Nat.zero_le _, Nat.zero_le _, Nat.zero_le _, Nat.zero_le _, Nat.zero_le _, Nat.zero_le _, Nat.zero_le _⟩
  · intro r hr
    have hm := hget r hr
    obtain ⟨f1, f2⟩ := hm.frm
    obtain ⟨t1, t2⟩ := hm.to
    have ha := hm.act
    have hr := hm.rest
    generalize r.name = nm at hr
    generalize r.frm = f at *
    generalize r.to = t at *
    generalize r.chan = cn at *
    generalize r.act = ac at *
    generalize r.letter = le at *
    subst hr
    rw [rightM, if_neg hk1]
    simp only [rightL, sameB, onlyL, mkL, actsB, Bool.and_eq_true, beq_iff_eq, decide_eq_true_eq, and_true, true_and]
    refine ⟨hb (by omega) (by omega), hb (by omega) (by omega), ?_⟩
    rcases ha with ⟨rfl, rfl, rfl⟩ | ⟨h1, h2, h3⟩
    · rfl
    · rw [if_neg (by omega)]
      simp only [Bool.and_eq_true]
      exact ⟨hb (by omega) (by omega), hb (by omega) (by omega), hb (by omega) (by omega)⟩
  · obtain ⟨ys, y1, y2, y3⟩ := h.start
    rw [y3]
    exact chan_valid m (by omega) (by omega) 0 ⟨by omega, by omega⟩ ys y1 y2
  · obtain ⟨ys, y1, y2, y3⟩ := h.start
    have := words_sz _ ys y2
    rw [y3]; simp only [Val.size, Val.sizes]; omega
end Go.Proofs.YtopbcpgmffppjaaGreatDoor

namespace Go.Proofs.YtopbcpgmffppjaaGreatDoor
open Go.Dv Go.Nv
set_option maxRecDepth 20000
/-- a token -/
def TokV (np age : Int) (v : Val) : Prop := ∃ p g : Int, (0 ≤ p ∧ p < np) ∧ (0 ≤ g ∧ g < age + 2) ∧ v = .mk 0 [.mk p [], .mk g []]
/-- at most n tokens, ascending -/
structure TokL (np age : Int) (n : Nat) (ts : List Val) : Prop where
  tok : ∀ t ∈ ts, TokV np age t
  len : ts.length ≤ n
  asc : ∀ i x y, ts[i]? = some x → ts[i + 1]? = some y → cmpV x y < 0
theorem TokV.sz {np age : Int} {v : Val} (h : TokV np age v) : v.size = 3 := by
  obtain ⟨p, g, _, _, rfl⟩ := h; rfl
theorem toks_sz {np age : Int} : ∀ (ts : List Val), (∀ t ∈ ts, TokV np age t) → Val.sizes ts = 3 * ts.length
  | [], _ => rfl
  | t :: ts, h => by
    have h1 := (h t (by simp)).sz
    have h2 := toks_sz ts fun z hz => h z (by simp [hz])
    simp only [Val.sizes, List.length_cons]; omega
theorem asc1 {np age : Int} {v : Val} (h : TokV np age v) : TokL np age 1 [v] := ⟨fun t ht => by rw [List.mem_singleton.1 ht]; exact h, by simp, fun i x y _ hy => by simp at hy⟩
theorem put_two {np age : Int} {ts : List Val} {v : Val} (h : TokL np age 1 ts) (hv : TokV np age v) : TokL np age 2 (putV ts v) := by
  match ts, h with
  | [], _ => exact ⟨(asc1 hv).tok, by simp [putV, putI], (asc1 hv).asc⟩
  | [x], h =>
    have hx := h.tok x (by simp)
    by_cases hc : cmpV x v < 0
    · have e : putV [x] v = [x, v] := by simp [putV, putI, hc]
      rw [e]
      refine ⟨fun t ht => ?_, by simp, fun i a b ha hb => ?_⟩
      · rcases List.mem_cons.1 ht with rfl | ht
        · exact hx
        · rw [List.mem_singleton.1 ht]; exact hv
      · match i, ha, hb with
        | 0, ha, hb => simp at ha hb; subst ha hb; exact hc
        | i + 1, _, hb => simp at hb
    · by_cases he : (cmpV x v == 0) = true
      · have e : putV [x] v = [x] := by simp only [putV, putI, hc, if_false, List.getElem?_cons_zero, he, if_true]
        rw [e]
        exact ⟨h.tok, by simp, fun i a b ha hb => by simp at hb⟩
      · have e : putV [x] v = [v, x] := by simp only [putV, putI, hc, if_false, List.getElem?_cons_zero, he]; rfl
        rw [e]
        refine ⟨fun t ht => ?_, by simp, fun i a b ha hb => ?_⟩
        · rcases List.mem_cons.1 ht with rfl | ht
          · exact hv
          · rw [List.mem_singleton.1 ht]; exact hx
        · match i, ha, hb with
          | 0, ha, hb =>
            simp at ha hb; subst ha hb
            have := (cmpV_lin.swap v x trivial trivial).2
            have he : cmpV x v ≠ 0 := by simpa using he
            exact this (by omega)
          | i + 1, _, hb => simp at hb
  | _ :: _ :: _, h => exact absurd h.len (by simp)
noncomputable abbrev fBag : Func := Tryz.f30
noncomputable def cBag : Code := fBag.body.getD .skip
abbrev stBg (l : List UInt8) (a : Nat) : St := ⟨[some (cDz l a), some [di 0, .v .nils]], []⟩
theorem bag_step (l : List UInt8) (hl : l.length ≤ 200) (m : Mod) (hpl : 1 ≤ m.places.length ∧ m.places.length ≤ 2) (hag : 0 ≤ m.age ∧ m.age ≤ 3) (k : Nat) (hk : k ≤ 2) (a : Nat) (ha : a ≤ l.length) (ts : List Val) (hts : Val.sizes ts ≤ 1000) :
    ∃ (t : Val) (a' : Nat), TokV m.places.length m.age t ∧ a' ≤ l.length ∧ ∀ (d : D) (σ' : St), Rn PP fBag 1 d σ' ([.lp (sub cBag [1, 1, 0, 1, 0, 0]), .blk 0, .code (sub cBag [1, 1, 1])] ++ []) (mkE 43 [(0, .ptr 0 0), (4, .v (.ref (vMod m))), (6, .ptr 1 0), (7, dVs (putV ts t)), (8, di k)]) (stBg l a') →
      Rn PP fBag 1 d σ' ([.lp (sub cBag [1, 1, 0, 1, 0, 0]), .blk 0, .code (sub cBag [1, 1, 1])] ++ []) (mkE 43 [(0, .ptr 0 0), (4, .v (.ref (vMod m))), (6, .ptr 1 0), (7, dVs ts), (8, di (k + 1 : Nat))]) (stBg l a) := by
  obtain ⟨p, a1, p1, p2, p3, p4⟩ := pick_ex l hl a ha m.places.length (by omega) (by omega)
  obtain ⟨g, a2, q1, q2, q3, q4⟩ := pick_ex l hl a1 p3 (m.age + 2) (by omega) (by omega)
  obtain ⟨t, ht⟩ : ∃ t : Val, t = .mk 0 [.mk p [], .mk g []] := ⟨_, rfl⟩
  refine ⟨t, a2, ⟨p, g, ⟨p1, p2⟩, ⟨q1, q2⟩, ht⟩, q3, fun d σ' hrn => ?_⟩
  refine loop_vc mixed 43 [4] (.t <| .c1 (cDz l a1) (di p) <| .c1 (cDz l a2) (di g) <| .c (dVs (putV ts t)) <| .ls [ke 0, ke 4, ke 6, ch 7 (dVs (putV ts t)), ch 8 (di k)] (stBg l a2)) ?_
  refine via (by kernel_rfl : (decide ((↑(k + 1) : Int) > 0) = true ∧ FSpec PP 18 [D.ptr 0 0, di (↑(List.length (List.map V.str m.places)) : Int)] (St.mk [some (cDz l a)] []) (di p) (St.mk [some (cDz l a1)] []) ∧ FSpec PP 18 [D.ptr 0 0, di (IntKind.wrap IntKind.i64 (m.age + 2))] (St.mk [some (cDz l a1)] []) (di g) (St.mk [some (cDz l a2)] []) ∧ FSpec PP 40 [D.v (vVs ts), D.v (V.agg [vi 0, V.list [V.agg [vi p, V.list []], V.agg [vi g, V.list []]]])] (St.mk [] []) (dVs (putV ts t)) (St.mk [] []) ∧ dVs (putV ts t) = dVs (putV ts t) ∧ di (IntKind.wrap IntKind.i64 ((↑(k + 1) : Int) - 1)) = di (↑k : Int) ∧ [some (cDz l a2), some [di 0, D.v V.nils]] = [some (cDz l a2), some [di 0, D.v V.nils]] ∧ Nv.It (RunC (CN 1) PP (fun env σ1 => ResOK PP fBag env σ1 d σ') [KI.lp (sub cBag [1, 1, 0, 1, 0, 0]), KI.blk 0, KI.code (sub cBag [1, 1, 1])] (mkE 43 [(0, D.ptr 0 0), (4, D.v (V.ref (vMod m))), (6, D.ptr 1 0), (7, dVs (putV ts t)), (8, di (↑k : Int))]) (stBg l a2))) = _) ?_
  rw [show IntKind.wrap IntKind.i64 (m.age + 2) = m.age + 2 from wrap_id (by omega) (by omega), show IntKind.wrap IntKind.i64 ((k + 1 : Nat) - 1 : Int) = (k : Int) from by rw [wrap_id (by omega) (by omega)]; omega]
  refine ⟨decide_eq_true (by omega), by rw [List.length_map]; exact p4, q4, ?_, rfl, rfl, rfl, ⟨hrn⟩⟩
  subst ht
  exact put_spec ts (.mk 0 [.mk p [], .mk g []]) (by omega) (by show 3 ≤ 1000000; decide)
theorem bag_end (l : List UInt8) (hl : l.length ≤ 200) (m : Mod) (hst : 1 ≤ m.states.length ∧ m.states.length ≤ 3) (a : Nat) (ha : a ≤ l.length) (ts : List Val) :
    ∃ (s : Int) (a' : Nat), (0 ≤ s ∧ s < m.states.length) ∧ a' ≤ l.length ∧ Rn PP fBag 1 (dV (.mk 0 [.mk s [], .mk 0 ts])) (dz l a') ([.lp (sub cBag [1, 1, 0, 1, 0, 0]), .blk 0, .code (sub cBag [1, 1, 1])] ++ []) (mkE 43 [(0, .ptr 0 0), (4, .v (.ref (vMod m))), (6, .ptr 1 0), (7, dVs ts), (8, di (0 : Nat))]) (stBg l a) := by
  obtain ⟨s, a1, p1, p2, p3, p4⟩ := pick_ex l hl a ha m.states.length (by omega) (by omega)
  refine ⟨s, a1, ⟨p1, p2⟩, p3, ?_⟩
  refine loop_vc mixed 43 [4] (.f <| .c1 (cDz l a1) (di s) .r) ?_
  refine via (by kernel_rfl : (decide ((↑0 : Int) > 0) = false ∧ FSpec PP 18 [D.ptr 0 0, di (↑(List.length (List.map V.str m.states)) : Int)] (St.mk [some (cDz l a)] []) (di s) (St.mk [some (cDz l a1)] []) ∧ [some (cDz l a1)] = [some (cDz l a1)] ∧ D.v (V.agg [vi 0, V.list [V.agg [vi s, V.list []], V.agg [vi 0, vVs ts]]]) = dV (Val.mk 0 [Val.mk s [], Val.mk 0 ts])) = _) ?_
  refine ⟨by decide, by rw [List.length_map]; exact p4, rfl, ?_⟩
  show D.v (V.agg [vi 0, V.list [vVal (.mk s []), vVal (.mk 0 ts)]]) = _
  rw [← enc_eq, ← enc_eq]; rfl
theorem slV : slTy PP 29 = some (31, 2, 32, some (.agg #[.int .i64 0, .slice none 0 0])) := by kernel_rfl
theorem bag_lit {o : Oper} {σ : St} (ho : o.op = .buildSlice 29 2 #[(0, .tmp 38), (1, .tmp 40)]) (x y : Val) : OpOK PP o [.v (vVal x), .v (vVal y)] σ (.gro σ.H.length 2 2) ⟨σ.H ++ [some (flatV [vVal x, vVal y])], σ.own⟩ :=
  op_buildSliceO ho (by rfl) rfl slV rfl (ds := [.v (vVal x), .v (vVal y)]) (xs := [vVal x, vVal y]) rfl (fun z hz => by simp at hz; rcases hz with rfl | rfl <;> rfl) (by decide) (by decide) (by decide)
theorem bag_endO (l : List UInt8) (hl : l.length ≤ 200) (m : Mod) (hst : 1 ≤ m.states.length ∧ m.states.length ≤ 3) (a : Nat) (ha : a ≤ l.length) (ts : List Val) :
    ∃ (s : Int) (a' : Nat), (0 ≤ s ∧ s < m.states.length) ∧ a' ≤ l.length ∧ Rn PP fBag 1 (.dagg [di 0, .gro 2 2 2]) ⟨[some (cDz l a'), some [di 0, .gro 2 2 2], some (flatV [vVal (.mk s []), vVal (.mk 0 ts)])], []⟩ ([.lp (sub cBag [1, 1, 0, 1, 0, 0]), .blk 0, .code (sub cBag [1, 1, 1])] ++ []) (mkE 43 [(0, .ptr 0 0), (4, .v (.ref (vMod m))), (6, .ptr 1 0), (7, dVs ts), (8, di (0 : Nat))]) (stBg l a) := by
  obtain ⟨s, a1, p1, p2, p3, p4⟩ := pick_ex l hl a ha m.states.length (by omega) (by omega)
  refine ⟨s, a1, ⟨p1, p2⟩, p3, ?_⟩
  refine loop_vc mixed 43 [4] (.f <| .c1 (cDz l a1) (di s) <| .h (.q 6 8) <| .h (.o (.gro 2 2 2) ⟨[some (cDz l a1), some [di 0, .v .nils], some (flatV [vVal (.mk s []), vVal (.mk 0 ts)])], []⟩) <| .h .g <| .h .ww <| .rd) ?_
  refine via (by kernel_rfl : (decide ((↑0 : Int) > 0) = false ∧ FSpec PP 18 [D.ptr 0 0, di (↑(List.length (List.map V.str m.states)) : Int)] (St.mk [some (cDz l a)] []) (di s) (St.mk [some (cDz l a1)] []) ∧ OpOK PP (Oper.mk (some 41) (Op.buildSlice 29 2 #[(0, Operand.tmp 38), (1, Operand.tmp 40)]) 29 "play.go:141" #[Edge.mk 5 Ground.data, Edge.mk 7 Ground.data] none) [D.v (V.agg [vi s, V.list []]), D.v (V.agg [vi 0, vVs ts])] (St.mk [some (cDz l a1), some [di 0, D.v V.nils]] []) (D.gro 2 2 2) (St.mk [some (cDz l a1), some [di 0, D.v V.nils], some [di (Val.n (Val.mk s [])), D.v (vVs (Val.kids (Val.mk s []))), di (Val.n (Val.mk 0 ts)), D.v (vVs (Val.kids (Val.mk 0 ts)))]] []) ∧ 2 ≤ 2 ∧ [some (cDz l a1), some [di 0, D.gro 2 2 2], some [di (Val.n (Val.mk s [])), D.v (vVs (Val.kids (Val.mk s []))), di (Val.n (Val.mk 0 ts)), D.v (vVs (Val.kids (Val.mk 0 ts)))]] = [some (cDz l a1), some [di 0, D.gro 2 2 2], some [di (Val.n (Val.mk s [])), D.v (vVs (Val.kids (Val.mk s []))), di (Val.n (Val.mk 0 ts)), D.v (vVs (Val.kids (Val.mk 0 ts)))]] ∧ D.dagg [di 0, D.gro 2 2 2] = D.dagg [di 0, D.gro 2 2 2]) = _) ?_
  exact ⟨by decide, by rw [List.length_map]; exact p4, bag_lit (σ := ⟨[some (cDz l a1), some [di 0, .v .nils]], []⟩) rfl (.mk s []) (.mk 0 ts), by decide, rfl, rfl⟩
theorem cv_nl {σ : St} {t : Nat} (e : List D) (he : e[t]? = some (.v .nils)) : Cv e σ (e.set t (.v (.list []))) σ := fun E g a w hf => by
  obtain ⟨u, hu, hr⟩ := repDs_get hf.env he
  refine ⟨g, hf.wi, ?_, hf.defers⟩
  have := repDs_set hf.env t (d := .v (.list [])) (u := u) (see_nilsD hr)
  rwa [set_self hu] at this
theorem bag_toks (l : List UInt8) (hl : l.length ≤ 200) (m : Mod) (hpl : 1 ≤ m.places.length ∧ m.places.length ≤ 2) (hag : 0 ≤ m.age ∧ m.age ≤ 3) (a : Nat) (ha : a ≤ l.length) (r : Nat) (hr : r ≤ 2) :
    ∃ (ts : List Val) (a' : Nat), TokL m.places.length m.age 2 ts ∧ a' ≤ l.length ∧ ∀ (d : D) (σ' : St), Rn PP fBag 1 d σ' ([.lp (sub cBag [1, 1, 0, 1, 0, 0]), .blk 0, .code (sub cBag [1, 1, 1])] ++ []) (mkE 43 [(0, .ptr 0 0), (4, .v (.ref (vMod m))), (6, .ptr 1 0), (7, dVs ts), (8, di (0 : Nat))]) (stBg l a') →
      Rn PP fBag 1 d σ' ([.lp (sub cBag [1, 1, 0, 1, 0, 0]), .blk 0, .code (sub cBag [1, 1, 1])] ++ []) (mkE 43 [(0, .ptr 0 0), (4, .v (.ref (vMod m))), (6, .ptr 1 0), (7, dVs []), (8, di (r : Nat))]) (stBg l a) := by
  rcases (show r = 0 ∨ r = 1 ∨ r = 2 by omega) with rfl | rfl | rfl
  · exact ⟨[], a, ⟨fun t ht => by simp at ht, by simp, fun i x y hx => by simp at hx⟩, ha, fun d σ' h => h⟩
  · obtain ⟨t, a1, h1, h2, h3⟩ := bag_step l hl m hpl hag 0 (by omega) a ha [] (by decide)
    exact ⟨putV [] t, a1, ⟨(asc1 h1).tok, by simp [putV, putI], (asc1 h1).asc⟩, h2, h3⟩
  · obtain ⟨t, a1, h1, h2, h3⟩ := bag_step l hl m hpl hag 1 (by omega) a ha [] (by decide)
    obtain ⟨t2, a2, h4, h5, h6⟩ := bag_step l hl m hpl hag 0 (by omega) a1 h2 [t] (by simp only [Val.sizes, h1.sz]; decide)
    exact ⟨putV [t] t2, a2, put_two (asc1 h1) h4, h5, fun d σ' h => h3 d σ' (h6 d σ' h)⟩
theorem bag_ex (l : List UInt8) (hl : l.length ≤ 200) (m : Mod) (hst : 1 ≤ m.states.length ∧ m.states.length ≤ 3) (hpl : 1 ≤ m.places.length ∧ m.places.length ≤ 2) (hag : 0 ≤ m.age ∧ m.age ≤ 3) (a : Nat) (ha : a ≤ l.length) :
    ∃ (s : Int) (ts : List Val) (a' : Nat), (0 ≤ s ∧ s < m.states.length) ∧ TokL m.places.length m.age 2 ts ∧ a' ≤ l.length ∧ FSpec PP 30 [.ptr 0 0, dMod m, di 2] (dz l a) (dV (.mk 0 [.mk s [], .mk 0 ts])) (dz l a') := by
  obtain ⟨r, a1, p1, p2, p3, p4⟩ := pick_ex l hl a ha 3 (by decide) (by decide)
  obtain ⟨r, rfl⟩ : ∃ n : Nat, r = n := ⟨r.toNat, by omega⟩
  obtain ⟨ts, a2, h1, h2, h3⟩ := bag_toks l hl m hpl hag a1 p3 r (by omega)
  obtain ⟨s, a3, h4, h5, h6⟩ := bag_end l hl m hst a2 h2 ts
  refine ⟨s, ts, a3, h4, h1, h5, ?_⟩
  have hrn := h3 _ _ h6
  refine spec_vc mixed fBag cBag (by kernel_rfl) (by kernel_rfl) (by kernel_rfl) (by kernel_rfl) 43 (by kernel_rfl) [4] (.h (.q 2 0) <| .h (.ct 7 (dVs []) (stBg l a)) <| .c1 (cDz l a1) (di r) <| .ls [ke 0, ke 4, ke 6, ch 7 (dVs []), ch 8 (di r)] (stBg l a1)) ?_
  refine via (by kernel_rfl : ((∀ (e : List D), e[7]? = some (D.v V.nils) → ∀ (E : Ent) (g : Gh) (a_2 : Act) (w : World), FI E g (St.mk [some (cDz l a), some [D.v (V.int IntKind.i64 0), D.v V.nils]] (dz l a).own) e a_2 w → ∃ g', FI E g' (stBg l a) (List.set e 7 (dVs [])) a_2 w) ∧ FSpec PP 18 [D.ptr 0 0, di (IntKind.wrap IntKind.i64 (2 + 1))] (St.mk [some (cDz l a)] []) (di (↑r : Int)) (St.mk [some (cDz l a1)] []) ∧ dVs [] = dVs [] ∧ di (↑r : Int) = di (↑r : Int) ∧ [some (cDz l a1), some [di 0, D.v V.nils]] = [some (cDz l a1), some [di 0, D.v V.nils]] ∧ Nv.It (RunC (CN (List.length (dz l a).H)) PP (fun env σ1 => ResOK PP fBag env σ1 (dV (Val.mk 0 [Val.mk s [], Val.mk 0 ts])) (dz l a3)) [KI.lp (sub cBag [1, 1, 0, 1, 0, 0]), KI.blk 0, KI.code (sub cBag [1, 1, 1])] (mkE 43 [(0, D.ptr 0 0), (4, D.v (V.ref (vMod m))), (6, D.ptr 1 0), (7, dVs []), (8, di (↑r : Int))]) (stBg l a1))) = _) ?_
  have w3 : IntKind.wrap IntKind.i64 (2 + 1) = 3 := by decide
  rw [w3]
  exact ⟨fun e he => cv_nl e he, p4, rfl, rfl, rfl, ⟨hrn⟩⟩
theorem bag_exO (l : List UInt8) (hl : l.length ≤ 200) (m : Mod) (hst : 1 ≤ m.states.length ∧ m.states.length ≤ 3) (hpl : 1 ≤ m.places.length ∧ m.places.length ≤ 2) (hag : 0 ≤ m.age ∧ m.age ≤ 3) (a : Nat) (ha : a ≤ l.length) :
    ∃ (s : Int) (ts : List Val) (a' : Nat), (0 ≤ s ∧ s < m.states.length) ∧ TokL m.places.length m.age 2 ts ∧ a' ≤ l.length ∧ FSpec PP 30 [.ptr 0 0, dMod m, di 2] (dz l a) (.dagg [di 0, .arr 1 0 2]) ⟨[some (cDz l a'), some [di s, dVs [], di 0, dVs ts]], []⟩ := by
  obtain ⟨r, a1, p1, p2, p3, p4⟩ := pick_ex l hl a ha 3 (by decide) (by decide)
  obtain ⟨r, rfl⟩ : ∃ n : Nat, r = n := ⟨r.toNat, by omega⟩
  obtain ⟨ts, a2, h1, h2, h3⟩ := bag_toks l hl m hpl hag a1 p3 r (by omega)
  obtain ⟨s, a3, h4, h5, h6⟩ := bag_endO l hl m hst a2 h2 ts
  refine ⟨s, ts, a3, h4, h1, h5, ?_⟩
  have hrn := h3 _ _ h6
  refine spec_sel (c1 := [di 0]) (c2 := []) (T := [some [di 0, .gro 2 2 2], some (flatV [vVal (.mk s []), vVal (.mk 0 ts)])]) (q := 1) (sz := 2) rfl rfl rfl rfl rfl ?_
  refine spec_vc mixed fBag cBag (by kernel_rfl) (by kernel_rfl) (by kernel_rfl) (by kernel_rfl) 43 (by kernel_rfl) [4] (.h (.q 2 0) <| .h (.ct 7 (dVs []) (stBg l a)) <| .c1 (cDz l a1) (di r) <| .ls [ke 0, ke 4, ke 6, ch 7 (dVs []), ch 8 (di r)] (stBg l a1)) ?_
  refine via (by kernel_rfl : ((∀ (e : List D), e[7]? = some (D.v V.nils) → ∀ (E : Ent) (g : Gh) (a_2 : Act) (w : World), FI E g (St.mk [some (cDz l a), some [D.v (V.int IntKind.i64 0), D.v V.nils]] (St.mk [some (cDz l a)] []).own) e a_2 w → ∃ g', FI E g' (stBg l a) (List.set e 7 (dVs [])) a_2 w) ∧ FSpec PP 18 [D.ptr 0 0, di (IntKind.wrap IntKind.i64 (2 + 1))] (St.mk [some (cDz l a)] []) (di (↑r : Int)) (St.mk [some (cDz l a1)] []) ∧ dVs [] = dVs [] ∧ di (↑r : Int) = di (↑r : Int) ∧ [some (cDz l a1), some [di 0, D.v V.nils]] = [some (cDz l a1), some [di 0, D.v V.nils]] ∧ Nv.It (RunC (CN (List.length (St.mk [some (cDz l a)] []).H)) PP (fun env σ1 => ResOK PP fBag env σ1 (D.dagg ([di 0] ++ [D.gro (1 + 1) 2 2])) (St.mk [some (cDz l a3), some [di 0, D.gro 2 2 2], some (flatV [vVal (Val.mk s []), vVal (Val.mk 0 ts)])] [])) [KI.lp (sub cBag [1, 1, 0, 1, 0, 0]), KI.blk 0, KI.code (sub cBag [1, 1, 1])] (mkE 43 [(0, D.ptr 0 0), (4, D.v (V.ref (vMod m))), (6, D.ptr 1 0), (7, dVs []), (8, di (↑r : Int))]) (stBg l a1))) = _) ?_
  have w3 : IntKind.wrap IntKind.i64 (2 + 1) = 3 := by decide
  rw [w3]
  exact ⟨fun e he => cv_nl e he, p4, rfl, rfl, rfl, ⟨hrn⟩⟩
end Go.Proofs.YtopbcpgmffppjaaGreatDoor

namespace Go.Proofs.YtopbcpgmffppjaaGreatDoor
open Go.Dv Go.Nv
set_option maxRecDepth 20000
abbrev dl2 : List (List UInt8) := [[114], [115]]
def mkT (nm : List UInt8) (f t : Int) (tk : List Tk) (mk : List Int) : Rul := ⟨nm, f, t, [], [], [], 0, 0, 0, [], [], tk, mk, 0⟩
abbrev cTm (S Pl : List (List UInt8)) (ag : Int) (rs : List Rul) : List D := [di 5, .v (vSs S), .v (vSs Pl), .v .nils, .v .nils, di 0, di ag, .acc 2 (rs.map vRul), di 0, .v .nils]
abbrev stTm (l : List UInt8) (a : Nat) (S Pl : List (List UInt8)) (ag : Int) (rs : List Rul) : St := ⟨[some (cDz l a), some zM, some (cTm S Pl ag rs)], [(2, 14, rs.map vRul)]⟩
/-- the dealt rules of timed models -/
structure MadeTR (ns np : Nat) (ag : Int) (k : Nat) (r : Rul) : Prop where
  name : dl2[k]? = some r.name
  frm : 0 ≤ r.frm ∧ r.frm < ns
  to : 0 ≤ r.to ∧ r.to < ns
  takes : r.takes = [] ∨ ∃ p lo hi : Int, (0 ≤ p ∧ p < np) ∧ (0 ≤ lo ∧ lo ≤ hi ∧ hi ≤ ag + 1) ∧ r.takes = [⟨p, lo, hi⟩]
  makes : r.makes = [] ∨ ∃ p : Int, (0 ≤ p ∧ p < np) ∧ r.makes = [p]
  rest : r = mkT r.name r.frm r.to r.takes r.makes
/-- the dealt timed models -/
structure MadeT (m : Mod) : Prop where
  kind : m.kind = 5
  states : m.states = [[97]] ∨ m.states = [[97], [98]]
  places : m.places = [[120]] ∨ m.places = [[120], [121]]
  letters : m.letters = []
  ranks : m.ranks = []
  levels : m.levels = 0
  age : 0 ≤ m.age ∧ m.age ≤ 1
  count : m.rules.length ≤ 2
  rules : ∀ k r, m.rules[k]? = some r → MadeTR m.states.length m.places.length m.age k r
  start : ∃ ts : List Val, TokL m.places.length m.age 2 ts ∧ m.start = .mk 0 [.mk 0 [], .mk 0 ts]
theorem mkT_at {ns np : Nat} {ag : Int} {rs : List Rul} {k : Nat} {nm : List UInt8} {f t : Int} {tk : List Tk} {mk : List Int} (hnm : dl2[k]? = some nm) (hf : 0 ≤ f ∧ f < ns) (ht : 0 ≤ t ∧ t < ns) (h1 : tk = [] ∨ ∃ p lo hi : Int, (0 ≤ p ∧ p < np) ∧ (0 ≤ lo ∧ lo ≤ hi ∧ hi ≤ ag + 1) ∧ tk = [⟨p, lo, hi⟩]) (h2 : mk = [] ∨ ∃ p : Int, (0 ≤ p ∧ p < np) ∧ mk = [p]) (hrs : rs.length = k) (hR : ∀ i r, rs[i]? = some r → MadeTR ns np ag i r) : ∀ i r, (rs ++ [mkT nm f t tk mk])[i]? = some r → MadeTR ns np ag i r := fun i r hi => by
  by_cases hik : i < rs.length
  · rw [List.getElem?_append_left hik] at hi; exact hR i r hi
  · rw [List.getElem?_append_right (by omega)] at hi
    have h0 : i - rs.length = 0 := by
      have := (List.getElem?_eq_some_iff.1 hi).1
      simp at this; omega
    rw [h0] at hi
    simp at hi; subst hi
    have hik2 : i = k := by omega
    subst hik2
    exact ⟨hnm, hf, ht, h1, h2, rfl⟩
noncomputable abbrev fTim : Func := Tryz.f20
noncomputable def cTim : Code := fTim.body.getD .skip
theorem tim_loop (l : List UInt8) (hl : l.length ≤ 200) (S Pl : List (List UInt8)) (ag : Int) (hS : S = [[97]] ∨ S = [[97], [98]]) (hP : Pl = [[120]] ∨ Pl = [[120], [121]]) (hag : 0 ≤ ag ∧ ag ≤ 1) (n : Nat) : ∀ (k a : Nat) (rs : List Rul), 2 - k = n → a ≤ l.length → k ≤ 2 → rs.length = k → (∀ i r, rs[i]? = some r → MadeTR S.length Pl.length ag i r) →
    ∃ (m : Mod) (a' : Nat), MadeT m ∧ a' ≤ l.length ∧ Rn PP fTim 1 (dMod m) (dz l a') ([.lp (sub cTim [1, 1, 0, 1, 0, 0]), .blk 0, .code (sub cTim [1, 1, 1])] ++ []) (mkE 94 [(0, .ptr 0 0), (2, .ptr 1 0), (3, .ptr 2 0), (4, di k)]) (stTm l a S Pl ag rs) := by
  induction n using Nat.strongRecOn with
  | _ n ih =>
  intro k a rs hn ha hk2 hrs hR
  have hSl : 1 ≤ S.length ∧ S.length ≤ 2 := by rcases hS with rfl | rfl <;> decide
  have hPl : 1 ≤ Pl.length ∧ Pl.length ≤ 2 := by rcases hP with rfl | rfl <;> decide
  have hSm : ((S.map V.str).length : Int) = (S.length : Int) := by rw [List.length_map]
  have hPm : ((Pl.map V.str).length : Int) = (Pl.length : Int) := by rw [List.length_map]
  have wag : IntKind.wrap IntKind.i64 (ag + 2) = ag + 2 := wrap_id (by omega) (by omega)
  obtain ⟨r, a1, h1, h2, h3, h4⟩ := pick_ex l hl a ha 2 (by decide) (by decide)
  by_cases hk : (k : Int) < 1 + r
  · obtain ⟨f, a2, f1, f2, f3, f4⟩ := pick_ex l hl a1 h3 S.length (by omega) (by omega)
    obtain ⟨t, a3, t1, t2, t3, t4⟩ := pick_ex l hl a2 f3 S.length (by omega) (by omega)
    obtain ⟨nm, hnm⟩ : ∃ nm, dl2[k]? = some nm := ⟨_, List.getElem?_eq_getElem (show k < dl2.length by show k < 2; omega)⟩
    have hkr : decide ((k : Int) < IntKind.wrap IntKind.i64 (1 + r)) = true := by rw [wrap_id (by omega) (by omega)]; exact decide_eq_true hk
    obtain ⟨u, a4, u1, u2, u3, u4⟩ := pick_ex l hl a3 t3 2 (by decide) (by decide)
    by_cases hu : (u == 0) = true
    · obtain ⟨lo, a5, lo1, lo2, lo3, lo4⟩ := pick_ex l hl a4 u3 (ag + 2) (by omega) (by omega)
      obtain ⟨p, a6, p1, p2, p3, p4⟩ := pick_ex l hl a5 lo3 Pl.length (by omega) (by omega)
      obtain ⟨hi, a7, hi1, hi2, hi3, hi4⟩ := pick_ex l hl a6 p3 (ag + 2 - lo) (by omega) (by omega)
      obtain ⟨x, a8, x1, x2, x3, x4⟩ := pick_ex l hl a7 hi3 2 (by decide) (by decide)
      have wlo : IntKind.wrap IntKind.i64 (ag + 2 - lo) = ag + 2 - lo := wrap_id (by omega) (by omega)
      have whi : IntKind.wrap IntKind.i64 (lo + hi) = lo + hi := wrap_id (by omega) (by omega)
      have htk : ([⟨p, lo, lo + hi⟩] : List Tk) = [] ∨ ∃ p' lo' hi' : Int, (0 ≤ p' ∧ p' < Pl.length) ∧ (0 ≤ lo' ∧ lo' ≤ hi' ∧ hi' ≤ ag + 1) ∧ ([⟨p, lo, lo + hi⟩] : List Tk) = [⟨p', lo', hi'⟩] := .inr ⟨p, lo, lo + hi, ⟨p1, p2⟩, ⟨lo1, by omega, by omega⟩, rfl⟩
      by_cases hx : (x == 0) = true
      · obtain ⟨q, a9, q1, q2, q3, q4⟩ := pick_ex l hl a8 x3 Pl.length (by omega) (by omega)
        obtain ⟨m, a', m1, m2, m3⟩ := ih (2 - (k + 1)) (by omega) (k + 1) a9 (rs ++ [mkT nm f t [⟨p, lo, lo + hi⟩] [q]]) rfl q3 (by omega) (by simp [hrs]) (mkT_at hnm ⟨f1, f2⟩ ⟨t1, t2⟩ htk (.inr ⟨q, ⟨q1, q2⟩, rfl⟩) hrs hR)
        refine ⟨m, a', m1, m2, ?_⟩
        refine loop_vc mixed 94 [] (.c1 (cDz l a1) (di r) <| .t <| .h (.dr 15) <| .x (.str nm) <| .c1 (cDz l a2) (di f) <| .c1 (cDz l a3) (di t) <| .c1 (cDz l a4) (di u) <| .t <| .c1 (cDz l a5) (di lo) <| .c1 (cDz l a6) (di p) <| .c1 (cDz l a7) (di hi) <| .c1 (cDz l a8) (di x) <| .t <| .c1 (cDz l a9) (di q) <| .ls [ke 0, ke 2, ke 3, ch 4 (di (k + 1 : Nat))] (stTm l a9 S Pl ag (rs ++ [mkT nm f t [⟨p, lo, lo + hi⟩] [q]]))) ?_
        refine via (by kernel_rfl : (FSpec PP 18 [D.ptr 0 0, di 2] (St.mk [some (cDz l a)] []) (di r) (St.mk [some (cDz l a1)] []) ∧ decide ((↑k : Int) < IntKind.wrap IntKind.i64 (1 + r)) = true ∧ 0 ≤ (↑k : Int) ∧ [V.str (ByteArray.mk #[114]).data.toList, V.str (ByteArray.mk #[115]).data.toList][Int.toNat (↑k : Int)]? = some (V.str nm) ∧ FSpec PP 18 [D.ptr 0 0, di (↑(List.length (List.map V.str S)) : Int)] (St.mk [some (cDz l a1)] []) (di f) (St.mk [some (cDz l a2)] []) ∧ FSpec PP 18 [D.ptr 0 0, di (↑(List.length (List.map V.str S)) : Int)] (St.mk [some (cDz l a1)] []) (di f) (St.mk [some (cDz l a2)] []) ∧ di f = di f ∧ FSpec PP 18 [D.ptr 0 0, di (↑(List.length (List.map V.str S)) : Int)] (St.mk [some (cDz l a2)] []) (di t) (St.mk [some (cDz l a3)] []) ∧ FSpec PP 18 [D.ptr 0 0, di (↑(List.length (List.map V.str S)) : Int)] (St.mk [some (cDz l a2)] []) (di t) (St.mk [some (cDz l a3)] []) ∧ di t = di t ∧ [St.mk [some (cDz l a1), some zM, some (cTm S Pl ag rs), some [D.v (V.str (ByteArray.mk #[]).data.toList), di 0, di 0, D.v V.nils, D.v V.nils, D.v V.nils, di 0, di 0, di 0, D.v V.nils, D.v V.nils, D.v V.nils, D.v V.nils, di 0]] [(2, 14, List.map vRul rs)], St.mk [some (cDz l a2), some zM, some (cTm S Pl ag rs), some [D.v (V.str (ByteArray.mk #[]).data.toList), di 0, di 0, D.v V.nils, D.v V.nils, D.v V.nils, di 0, di 0, di 0, D.v V.nils, D.v V.nils, D.v V.nils, D.v V.nils, di 0]] [(2, 14, List.map vRul rs)], St.mk [some (cDz l a3), some zM, some (cTm S Pl ag rs), some [D.v (V.str (ByteArray.mk #[]).data.toList), di 0, di 0, D.v V.nils, D.v V.nils, D.v V.nils, di 0, di 0, di 0, D.v V.nils, D.v V.nils, D.v V.nils, D.v V.nils, di 0]] [(2, 14, List.map vRul rs)]] = [St.mk [some (cDz l a1), some zM, some (cTm S Pl ag rs), some [D.v (V.str (ByteArray.mk #[]).data.toList), di 0, di 0, D.v V.nils, D.v V.nils, D.v V.nils, di 0, di 0, di 0, D.v V.nils, D.v V.nils, D.v V.nils, D.v V.nils, di 0]] [(2, 14, List.map vRul rs)], St.mk [some (cDz l a2), some zM, some (cTm S Pl ag rs), some [D.v (V.str (ByteArray.mk #[]).data.toList), di 0, di 0, D.v V.nils, D.v V.nils, D.v V.nils, di 0, di 0, di 0, D.v V.nils, D.v V.nils, D.v V.nils, D.v V.nils, di 0]] [(2, 14, List.map vRul rs)], St.mk [some (cDz l a3), some zM, some (cTm S Pl ag rs), some [D.v (V.str (ByteArray.mk #[]).data.toList), di 0, di 0, D.v V.nils, D.v V.nils, D.v V.nils, di 0, di 0, di 0, D.v V.nils, D.v V.nils, D.v V.nils, D.v V.nils, di 0]] [(2, 14, List.map vRul rs)]] ∧ ((some [D.v (vSs S)] = some [D.v (vSs S)] ∧ some [D.v (vSs S)] = some [D.v (vSs S)] ∧ some [D.v (vSs S)] = some [D.v (vSs S)] ∧ some [D.v (vSs S)] = some [D.v (vSs S)] ∧ some [D.v (vSs S)] = some [D.v (vSs S)] ∧ some [D.v (vSs S)] = some [D.v (vSs S)] ∧ some [D.v (vSs S)] = some [D.v (vSs S)] ∧ True) ∧ (some [D.v (vSs S)] = some [D.v (vSs S)] ∧ some [D.v (vSs S)] = some [D.v (vSs S)] ∧ some [D.v (vSs S)] = some [D.v (vSs S)] ∧ some [D.v (vSs S)] = some [D.v (vSs S)] ∧ some [D.v (vSs S)] = some [D.v (vSs S)] ∧ some [D.v (vSs S)] = some [D.v (vSs S)] ∧ some [D.v (vSs S)] = some [D.v (vSs S)] ∧ True) ∧ True) ∧ FSpec PP 18 [D.ptr 0 0, di 2] (St.mk [some (cDz l a3)] []) (di u) (St.mk [some (cDz l a4)] []) ∧ (u == 0) = true ∧ FSpec PP 18 [D.ptr 0 0, di (IntKind.wrap IntKind.i64 (ag + 2))] (St.mk [some (cDz l a4)] []) (di lo) (St.mk [some (cDz l a5)] []) ∧ FSpec PP 18 [D.ptr 0 0, di (↑(List.length (List.map V.str Pl)) : Int)] (St.mk [some (cDz l a5)] []) (di p) (St.mk [some (cDz l a6)] []) ∧ FSpec PP 18 [D.ptr 0 0, di (IntKind.wrap IntKind.i64 (IntKind.wrap IntKind.i64 (ag + 2) - lo))] (St.mk [some (cDz l a6)] []) (di hi) (St.mk [some (cDz l a7)] []) ∧ (True ∧ (some [di ag] = some [di ag] ∧ True) ∧ True) ∧ FSpec PP 18 [D.ptr 0 0, di 2] (St.mk [some (cDz l a7)] []) (di x) (St.mk [some (cDz l a8)] []) ∧ (x == 0) = true ∧ FSpec PP 18 [D.ptr 0 0, di (↑(List.length (List.map V.str Pl)) : Int)] (St.mk [some (cDz l a8)] []) (di q) (St.mk [some (cDz l a9)] []) ∧ List.map vRul rs = List.map vRul rs ∧ LenOK (List.length (List.map vRul rs) + List.length (V.agg (V.str nm :: V.int IntKind.i64 f :: V.int IntKind.i64 t :: V.list nV :: V.list nV :: V.list nV :: V.int IntKind.i64 0 :: V.int IntKind.i64 0 :: V.int IntKind.i64 0 :: V.list nV :: V.list nV :: V.list (V.agg (V.int IntKind.i64 p :: V.int IntKind.i64 lo :: V.int IntKind.i64 (IntKind.wrap IntKind.i64 (lo + hi)) :: nV) :: nV) :: V.list (V.int IntKind.i64 q :: nV) :: V.int IntKind.i64 0 :: nV) :: nV)) 232 ∧ di (IntKind.wrap IntKind.i64 ((↑k : Int) + 1)) = di (↑(k + 1) : Int) ∧ [some (cDz l a9), some zM, some [di 5, D.v (vSs S), D.v (vSs Pl), D.v V.nils, D.v V.nils, di 0, di ag, D.acc 2 (List.map vRul rs ++ V.agg (V.str nm :: vi f :: vi t :: V.list nV :: V.list nV :: V.list nV :: vi 0 :: vi 0 :: vi 0 :: V.list nV :: V.list nV :: V.list (V.agg (vi p :: vi lo :: vi (IntKind.wrap IntKind.i64 (lo + hi)) :: nV) :: nV) :: V.list (vi q :: nV) :: vi 0 :: nV) :: nV), di 0, D.v V.nils]] = [some (cDz l a9), some zM, some (cTm S Pl ag (rs ++ [mkT nm f t [Tk.mk p lo (lo + hi)] [q]]))] ∧ [(2, 14, List.map vRul rs ++ V.agg (V.str nm :: vi f :: vi t :: V.list nV :: V.list nV :: V.list nV :: vi 0 :: vi 0 :: vi 0 :: V.list nV :: V.list nV :: V.list (V.agg (vi p :: vi lo :: vi (IntKind.wrap IntKind.i64 (lo + hi)) :: nV) :: nV) :: V.list (vi q :: nV) :: vi 0 :: nV) :: nV)] = [(2, 14, List.map vRul (rs ++ [mkT nm f t [Tk.mk p lo (lo + hi)] [q]]))] ∧ Nv.It (RunC (CN 1) PP (fun env σ1 => ResOK PP fTim env σ1 (dMod m) (dz l a')) [KI.lp (sub cTim [1, 1, 0, 1, 0, 0]), KI.blk 0, KI.code (sub cTim [1, 1, 1])] (mkE 94 [(0, D.ptr 0 0), (2, D.ptr 1 0), (3, D.ptr 2 0), (4, di (↑(k + 1) : Int))]) (stTm l a9 S Pl ag (rs ++ [mkT nm f t [Tk.mk p lo (lo + hi)] [q]])))) = _) ?_
        rw [hSm, hPm, wag, wlo, whi]
        repeat' first | with_reducible refine And.intro ?_ ?_
        all_goals first | exact h4 | exact hkr | exact f4 | exact t4 | exact u4 | exact lo4 | exact p4 | exact hi4 | exact hu | exact hx | exact x4 | exact q4 |  exact idx_str hnm | exact ⟨m3⟩ | exact wrap_succ (by omega) | omega | rfl | trivial | skip
        all_goals first | exact congrArg (fun z => [some (cDz l a9), some zM, some [di 5, .v (vSs S), .v (vSs Pl), .v .nils, .v .nils, di 0, di ag, .acc 2 z, di 0, .v .nils]]) (vRul_snoc rs (mkT nm f t [⟨p, lo, lo + hi⟩] [q])) | exact congrArg (fun z => [(2, 14, z)]) (vRul_snoc rs (mkT nm f t [⟨p, lo, lo + hi⟩] [q])) | (simp only [List.length_map, List.length_cons, List.length_nil]; omega)
      · have hx : (x == 0) = false := by simpa using hx
        obtain ⟨m, a', m1, m2, m3⟩ := ih (2 - (k + 1)) (by omega) (k + 1) a8 (rs ++ [mkT nm f t [⟨p, lo, lo + hi⟩] []]) rfl x3 (by omega) (by simp [hrs]) (mkT_at hnm ⟨f1, f2⟩ ⟨t1, t2⟩ htk (.inl rfl) hrs hR)
        refine ⟨m, a', m1, m2, ?_⟩
        refine loop_vc mixed 94 [] (.c1 (cDz l a1) (di r) <| .t <| .h (.dr 15) <| .x (.str nm) <| .c1 (cDz l a2) (di f) <| .c1 (cDz l a3) (di t) <| .c1 (cDz l a4) (di u) <| .t <| .c1 (cDz l a5) (di lo) <| .c1 (cDz l a6) (di p) <| .c1 (cDz l a7) (di hi) <| .c1 (cDz l a8) (di x) <| .f <| .ls [ke 0, ke 2, ke 3, ch 4 (di (k + 1 : Nat))] (stTm l a8 S Pl ag (rs ++ [mkT nm f t [⟨p, lo, lo + hi⟩] []]))) ?_
        refine via (by kernel_rfl : (FSpec PP 18 [D.ptr 0 0, di 2] (St.mk [some (cDz l a)] []) (di r) (St.mk [some (cDz l a1)] []) ∧ decide ((↑k : Int) < IntKind.wrap IntKind.i64 (1 + r)) = true ∧ 0 ≤ (↑k : Int) ∧ [V.str (ByteArray.mk #[114]).data.toList, V.str (ByteArray.mk #[115]).data.toList][Int.toNat (↑k : Int)]? = some (V.str nm) ∧ FSpec PP 18 [D.ptr 0 0, di (↑(List.length (List.map V.str S)) : Int)] (St.mk [some (cDz l a1)] []) (di f) (St.mk [some (cDz l a2)] []) ∧ FSpec PP 18 [D.ptr 0 0, di (↑(List.length (List.map V.str S)) : Int)] (St.mk [some (cDz l a1)] []) (di f) (St.mk [some (cDz l a2)] []) ∧ di f = di f ∧ FSpec PP 18 [D.ptr 0 0, di (↑(List.length (List.map V.str S)) : Int)] (St.mk [some (cDz l a2)] []) (di t) (St.mk [some (cDz l a3)] []) ∧ FSpec PP 18 [D.ptr 0 0, di (↑(List.length (List.map V.str S)) : Int)] (St.mk [some (cDz l a2)] []) (di t) (St.mk [some (cDz l a3)] []) ∧ di t = di t ∧ [St.mk [some (cDz l a1), some zM, some (cTm S Pl ag rs), some [D.v (V.str (ByteArray.mk #[]).data.toList), di 0, di 0, D.v V.nils, D.v V.nils, D.v V.nils, di 0, di 0, di 0, D.v V.nils, D.v V.nils, D.v V.nils, D.v V.nils, di 0]] [(2, 14, List.map vRul rs)], St.mk [some (cDz l a2), some zM, some (cTm S Pl ag rs), some [D.v (V.str (ByteArray.mk #[]).data.toList), di 0, di 0, D.v V.nils, D.v V.nils, D.v V.nils, di 0, di 0, di 0, D.v V.nils, D.v V.nils, D.v V.nils, D.v V.nils, di 0]] [(2, 14, List.map vRul rs)], St.mk [some (cDz l a3), some zM, some (cTm S Pl ag rs), some [D.v (V.str (ByteArray.mk #[]).data.toList), di 0, di 0, D.v V.nils, D.v V.nils, D.v V.nils, di 0, di 0, di 0, D.v V.nils, D.v V.nils, D.v V.nils, D.v V.nils, di 0]] [(2, 14, List.map vRul rs)]] = [St.mk [some (cDz l a1), some zM, some (cTm S Pl ag rs), some [D.v (V.str (ByteArray.mk #[]).data.toList), di 0, di 0, D.v V.nils, D.v V.nils, D.v V.nils, di 0, di 0, di 0, D.v V.nils, D.v V.nils, D.v V.nils, D.v V.nils, di 0]] [(2, 14, List.map vRul rs)], St.mk [some (cDz l a2), some zM, some (cTm S Pl ag rs), some [D.v (V.str (ByteArray.mk #[]).data.toList), di 0, di 0, D.v V.nils, D.v V.nils, D.v V.nils, di 0, di 0, di 0, D.v V.nils, D.v V.nils, D.v V.nils, D.v V.nils, di 0]] [(2, 14, List.map vRul rs)], St.mk [some (cDz l a3), some zM, some (cTm S Pl ag rs), some [D.v (V.str (ByteArray.mk #[]).data.toList), di 0, di 0, D.v V.nils, D.v V.nils, D.v V.nils, di 0, di 0, di 0, D.v V.nils, D.v V.nils, D.v V.nils, D.v V.nils, di 0]] [(2, 14, List.map vRul rs)]] ∧ ((some [D.v (vSs S)] = some [D.v (vSs S)] ∧ some [D.v (vSs S)] = some [D.v (vSs S)] ∧ some [D.v (vSs S)] = some [D.v (vSs S)] ∧ some [D.v (vSs S)] = some [D.v (vSs S)] ∧ some [D.v (vSs S)] = some [D.v (vSs S)] ∧ some [D.v (vSs S)] = some [D.v (vSs S)] ∧ some [D.v (vSs S)] = some [D.v (vSs S)] ∧ True) ∧ (some [D.v (vSs S)] = some [D.v (vSs S)] ∧ some [D.v (vSs S)] = some [D.v (vSs S)] ∧ some [D.v (vSs S)] = some [D.v (vSs S)] ∧ some [D.v (vSs S)] = some [D.v (vSs S)] ∧ some [D.v (vSs S)] = some [D.v (vSs S)] ∧ some [D.v (vSs S)] = some [D.v (vSs S)] ∧ some [D.v (vSs S)] = some [D.v (vSs S)] ∧ True) ∧ True) ∧ FSpec PP 18 [D.ptr 0 0, di 2] (St.mk [some (cDz l a3)] []) (di u) (St.mk [some (cDz l a4)] []) ∧ (u == 0) = true ∧ FSpec PP 18 [D.ptr 0 0, di (IntKind.wrap IntKind.i64 (ag + 2))] (St.mk [some (cDz l a4)] []) (di lo) (St.mk [some (cDz l a5)] []) ∧ FSpec PP 18 [D.ptr 0 0, di (↑(List.length (List.map V.str Pl)) : Int)] (St.mk [some (cDz l a5)] []) (di p) (St.mk [some (cDz l a6)] []) ∧ FSpec PP 18 [D.ptr 0 0, di (IntKind.wrap IntKind.i64 (IntKind.wrap IntKind.i64 (ag + 2) - lo))] (St.mk [some (cDz l a6)] []) (di hi) (St.mk [some (cDz l a7)] []) ∧ (True ∧ (some [di ag] = some [di ag] ∧ True) ∧ True) ∧ FSpec PP 18 [D.ptr 0 0, di 2] (St.mk [some (cDz l a7)] []) (di x) (St.mk [some (cDz l a8)] []) ∧ (x == 0) = false ∧ List.map vRul rs = List.map vRul rs ∧ LenOK (List.length (List.map vRul rs) + List.length (V.agg (V.str nm :: V.int IntKind.i64 f :: V.int IntKind.i64 t :: V.list nV :: V.list nV :: V.list nV :: V.int IntKind.i64 0 :: V.int IntKind.i64 0 :: V.int IntKind.i64 0 :: V.list nV :: V.list nV :: V.list (V.agg (V.int IntKind.i64 p :: V.int IntKind.i64 lo :: V.int IntKind.i64 (IntKind.wrap IntKind.i64 (lo + hi)) :: nV) :: nV) :: V.list nV :: V.int IntKind.i64 0 :: nV) :: nV)) 232 ∧ di (IntKind.wrap IntKind.i64 ((↑k : Int) + 1)) = di (↑(k + 1) : Int) ∧ [some (cDz l a8), some zM, some [di 5, D.v (vSs S), D.v (vSs Pl), D.v V.nils, D.v V.nils, di 0, di ag, D.acc 2 (List.map vRul rs ++ V.agg (V.str nm :: vi f :: vi t :: V.list nV :: V.list nV :: V.list nV :: vi 0 :: vi 0 :: vi 0 :: V.list nV :: V.list nV :: V.list (V.agg (vi p :: vi lo :: vi (IntKind.wrap IntKind.i64 (lo + hi)) :: nV) :: nV) :: V.list nV :: vi 0 :: nV) :: nV), di 0, D.v V.nils]] = [some (cDz l a8), some zM, some (cTm S Pl ag (rs ++ [mkT nm f t [Tk.mk p lo (lo + hi)] []]))] ∧ [(2, 14, List.map vRul rs ++ V.agg (V.str nm :: vi f :: vi t :: V.list nV :: V.list nV :: V.list nV :: vi 0 :: vi 0 :: vi 0 :: V.list nV :: V.list nV :: V.list (V.agg (vi p :: vi lo :: vi (IntKind.wrap IntKind.i64 (lo + hi)) :: nV) :: nV) :: V.list nV :: vi 0 :: nV) :: nV)] = [(2, 14, List.map vRul (rs ++ [mkT nm f t [Tk.mk p lo (lo + hi)] []]))] ∧ Nv.It (RunC (CN 1) PP (fun env σ1 => ResOK PP fTim env σ1 (dMod m) (dz l a')) [KI.lp (sub cTim [1, 1, 0, 1, 0, 0]), KI.blk 0, KI.code (sub cTim [1, 1, 1])] (mkE 94 [(0, D.ptr 0 0), (2, D.ptr 1 0), (3, D.ptr 2 0), (4, di (↑(k + 1) : Int))]) (stTm l a8 S Pl ag (rs ++ [mkT nm f t [Tk.mk p lo (lo + hi)] []])))) = _) ?_
        rw [hSm, hPm, wag, wlo, whi]
        repeat' first | with_reducible refine And.intro ?_ ?_
        all_goals first | exact h4 | exact hkr | exact f4 | exact t4 | exact u4 | exact lo4 | exact p4 | exact hi4 | exact hu | exact hx | exact x4 |  exact idx_str hnm | exact ⟨m3⟩ | exact wrap_succ (by omega) | omega | rfl | trivial | skip
        all_goals first | exact congrArg (fun z => [some (cDz l a8), some zM, some [di 5, .v (vSs S), .v (vSs Pl), .v .nils, .v .nils, di 0, di ag, .acc 2 z, di 0, .v .nils]]) (vRul_snoc rs (mkT nm f t [⟨p, lo, lo + hi⟩] [])) | exact congrArg (fun z => [(2, 14, z)]) (vRul_snoc rs (mkT nm f t [⟨p, lo, lo + hi⟩] [])) | (simp only [List.length_map, List.length_cons, List.length_nil]; omega)
    · have hu : (u == 0) = false := by simpa using hu
      obtain ⟨x, a8, x1, x2, x3, x4⟩ := pick_ex l hl a4 u3 2 (by decide) (by decide)
      by_cases hx : (x == 0) = true
      · obtain ⟨q, a9, q1, q2, q3, q4⟩ := pick_ex l hl a8 x3 Pl.length (by omega) (by omega)
        obtain ⟨m, a', m1, m2, m3⟩ := ih (2 - (k + 1)) (by omega) (k + 1) a9 (rs ++ [mkT nm f t [] [q]]) rfl q3 (by omega) (by simp [hrs]) (mkT_at hnm ⟨f1, f2⟩ ⟨t1, t2⟩ (.inl rfl) (.inr ⟨q, ⟨q1, q2⟩, rfl⟩) hrs hR)
        refine ⟨m, a', m1, m2, ?_⟩
        refine loop_vc mixed 94 [] (.c1 (cDz l a1) (di r) <| .t <| .h (.dr 15) <| .x (.str nm) <| .c1 (cDz l a2) (di f) <| .c1 (cDz l a3) (di t) <| .c1 (cDz l a4) (di u) <| .f <| .c1 (cDz l a8) (di x) <| .t <| .c1 (cDz l a9) (di q) <| .ls [ke 0, ke 2, ke 3, ch 4 (di (k + 1 : Nat))] (stTm l a9 S Pl ag (rs ++ [mkT nm f t [] [q]]))) ?_
        refine via (by kernel_rfl : (FSpec PP 18 [D.ptr 0 0, di 2] (St.mk [some (cDz l a)] []) (di r) (St.mk [some (cDz l a1)] []) ∧ decide ((↑k : Int) < IntKind.wrap IntKind.i64 (1 + r)) = true ∧ 0 ≤ (↑k : Int) ∧ [V.str (ByteArray.mk #[114]).data.toList, V.str (ByteArray.mk #[115]).data.toList][Int.toNat (↑k : Int)]? = some (V.str nm) ∧ FSpec PP 18 [D.ptr 0 0, di (↑(List.length (List.map V.str S)) : Int)] (St.mk [some (cDz l a1)] []) (di f) (St.mk [some (cDz l a2)] []) ∧ FSpec PP 18 [D.ptr 0 0, di (↑(List.length (List.map V.str S)) : Int)] (St.mk [some (cDz l a1)] []) (di f) (St.mk [some (cDz l a2)] []) ∧ di f = di f ∧ FSpec PP 18 [D.ptr 0 0, di (↑(List.length (List.map V.str S)) : Int)] (St.mk [some (cDz l a2)] []) (di t) (St.mk [some (cDz l a3)] []) ∧ FSpec PP 18 [D.ptr 0 0, di (↑(List.length (List.map V.str S)) : Int)] (St.mk [some (cDz l a2)] []) (di t) (St.mk [some (cDz l a3)] []) ∧ di t = di t ∧ [St.mk [some (cDz l a1), some zM, some (cTm S Pl ag rs), some [D.v (V.str (ByteArray.mk #[]).data.toList), di 0, di 0, D.v V.nils, D.v V.nils, D.v V.nils, di 0, di 0, di 0, D.v V.nils, D.v V.nils, D.v V.nils, D.v V.nils, di 0]] [(2, 14, List.map vRul rs)], St.mk [some (cDz l a2), some zM, some (cTm S Pl ag rs), some [D.v (V.str (ByteArray.mk #[]).data.toList), di 0, di 0, D.v V.nils, D.v V.nils, D.v V.nils, di 0, di 0, di 0, D.v V.nils, D.v V.nils, D.v V.nils, D.v V.nils, di 0]] [(2, 14, List.map vRul rs)], St.mk [some (cDz l a3), some zM, some (cTm S Pl ag rs), some [D.v (V.str (ByteArray.mk #[]).data.toList), di 0, di 0, D.v V.nils, D.v V.nils, D.v V.nils, di 0, di 0, di 0, D.v V.nils, D.v V.nils, D.v V.nils, D.v V.nils, di 0]] [(2, 14, List.map vRul rs)]] = [St.mk [some (cDz l a1), some zM, some (cTm S Pl ag rs), some [D.v (V.str (ByteArray.mk #[]).data.toList), di 0, di 0, D.v V.nils, D.v V.nils, D.v V.nils, di 0, di 0, di 0, D.v V.nils, D.v V.nils, D.v V.nils, D.v V.nils, di 0]] [(2, 14, List.map vRul rs)], St.mk [some (cDz l a2), some zM, some (cTm S Pl ag rs), some [D.v (V.str (ByteArray.mk #[]).data.toList), di 0, di 0, D.v V.nils, D.v V.nils, D.v V.nils, di 0, di 0, di 0, D.v V.nils, D.v V.nils, D.v V.nils, D.v V.nils, di 0]] [(2, 14, List.map vRul rs)], St.mk [some (cDz l a3), some zM, some (cTm S Pl ag rs), some [D.v (V.str (ByteArray.mk #[]).data.toList), di 0, di 0, D.v V.nils, D.v V.nils, D.v V.nils, di 0, di 0, di 0, D.v V.nils, D.v V.nils, D.v V.nils, D.v V.nils, di 0]] [(2, 14, List.map vRul rs)]] ∧ ((some [D.v (vSs S)] = some [D.v (vSs S)] ∧ some [D.v (vSs S)] = some [D.v (vSs S)] ∧ some [D.v (vSs S)] = some [D.v (vSs S)] ∧ some [D.v (vSs S)] = some [D.v (vSs S)] ∧ some [D.v (vSs S)] = some [D.v (vSs S)] ∧ some [D.v (vSs S)] = some [D.v (vSs S)] ∧ some [D.v (vSs S)] = some [D.v (vSs S)] ∧ True) ∧ (some [D.v (vSs S)] = some [D.v (vSs S)] ∧ some [D.v (vSs S)] = some [D.v (vSs S)] ∧ some [D.v (vSs S)] = some [D.v (vSs S)] ∧ some [D.v (vSs S)] = some [D.v (vSs S)] ∧ some [D.v (vSs S)] = some [D.v (vSs S)] ∧ some [D.v (vSs S)] = some [D.v (vSs S)] ∧ some [D.v (vSs S)] = some [D.v (vSs S)] ∧ True) ∧ True) ∧ FSpec PP 18 [D.ptr 0 0, di 2] (St.mk [some (cDz l a3)] []) (di u) (St.mk [some (cDz l a4)] []) ∧ (u == 0) = false ∧ FSpec PP 18 [D.ptr 0 0, di 2] (St.mk [some (cDz l a4)] []) (di x) (St.mk [some (cDz l a8)] []) ∧ (x == 0) = true ∧ FSpec PP 18 [D.ptr 0 0, di (↑(List.length (List.map V.str Pl)) : Int)] (St.mk [some (cDz l a8)] []) (di q) (St.mk [some (cDz l a9)] []) ∧ List.map vRul rs = List.map vRul rs ∧ LenOK (List.length (List.map vRul rs) + List.length (V.agg (V.str nm :: V.int IntKind.i64 f :: V.int IntKind.i64 t :: V.list nV :: V.list nV :: V.list nV :: V.int IntKind.i64 0 :: V.int IntKind.i64 0 :: V.int IntKind.i64 0 :: V.list nV :: V.list nV :: V.list nV :: V.list (V.int IntKind.i64 q :: nV) :: V.int IntKind.i64 0 :: nV) :: nV)) 232 ∧ di (IntKind.wrap IntKind.i64 ((↑k : Int) + 1)) = di (↑(k + 1) : Int) ∧ [some (cDz l a9), some zM, some [di 5, D.v (vSs S), D.v (vSs Pl), D.v V.nils, D.v V.nils, di 0, di ag, D.acc 2 (List.map vRul rs ++ V.agg (V.str nm :: vi f :: vi t :: V.list nV :: V.list nV :: V.list nV :: vi 0 :: vi 0 :: vi 0 :: V.list nV :: V.list nV :: V.list nV :: V.list (vi q :: nV) :: vi 0 :: nV) :: nV), di 0, D.v V.nils]] = [some (cDz l a9), some zM, some (cTm S Pl ag (rs ++ [mkT nm f t [] [q]]))] ∧ [(2, 14, List.map vRul rs ++ V.agg (V.str nm :: vi f :: vi t :: V.list nV :: V.list nV :: V.list nV :: vi 0 :: vi 0 :: vi 0 :: V.list nV :: V.list nV :: V.list nV :: V.list (vi q :: nV) :: vi 0 :: nV) :: nV)] = [(2, 14, List.map vRul (rs ++ [mkT nm f t [] [q]]))] ∧ Nv.It (RunC (CN 1) PP (fun env σ1 => ResOK PP fTim env σ1 (dMod m) (dz l a')) [KI.lp (sub cTim [1, 1, 0, 1, 0, 0]), KI.blk 0, KI.code (sub cTim [1, 1, 1])] (mkE 94 [(0, D.ptr 0 0), (2, D.ptr 1 0), (3, D.ptr 2 0), (4, di (↑(k + 1) : Int))]) (stTm l a9 S Pl ag (rs ++ [mkT nm f t [] [q]])))) = _) ?_
        rw [hSm, hPm]
        repeat' first | with_reducible refine And.intro ?_ ?_
        all_goals first | exact h4 | exact hkr | exact f4 | exact t4 | exact u4 | exact hu | exact hx | exact x4 | exact q4 |  exact idx_str hnm | exact ⟨m3⟩ | exact wrap_succ (by omega) | omega | rfl | trivial | skip
        all_goals first | exact congrArg (fun z => [some (cDz l a9), some zM, some [di 5, .v (vSs S), .v (vSs Pl), .v .nils, .v .nils, di 0, di ag, .acc 2 z, di 0, .v .nils]]) (vRul_snoc rs (mkT nm f t [] [q])) | exact congrArg (fun z => [(2, 14, z)]) (vRul_snoc rs (mkT nm f t [] [q])) | (simp only [List.length_map, List.length_cons, List.length_nil]; omega)
      · have hx : (x == 0) = false := by simpa using hx
        obtain ⟨m, a', m1, m2, m3⟩ := ih (2 - (k + 1)) (by omega) (k + 1) a8 (rs ++ [mkT nm f t [] []]) rfl x3 (by omega) (by simp [hrs]) (mkT_at hnm ⟨f1, f2⟩ ⟨t1, t2⟩ (.inl rfl) (.inl rfl) hrs hR)
        refine ⟨m, a', m1, m2, ?_⟩
        refine loop_vc mixed 94 [] (.c1 (cDz l a1) (di r) <| .t <| .h (.dr 15) <| .x (.str nm) <| .c1 (cDz l a2) (di f) <| .c1 (cDz l a3) (di t) <| .c1 (cDz l a4) (di u) <| .f <| .c1 (cDz l a8) (di x) <| .f <| .ls [ke 0, ke 2, ke 3, ch 4 (di (k + 1 : Nat))] (stTm l a8 S Pl ag (rs ++ [mkT nm f t [] []]))) ?_
        refine via (by kernel_rfl : (FSpec PP 18 [D.ptr 0 0, di 2] (St.mk [some (cDz l a)] []) (di r) (St.mk [some (cDz l a1)] []) ∧ decide ((↑k : Int) < IntKind.wrap IntKind.i64 (1 + r)) = true ∧ 0 ≤ (↑k : Int) ∧ [V.str (ByteArray.mk #[114]).data.toList, V.str (ByteArray.mk #[115]).data.toList][Int.toNat (↑k : Int)]? = some (V.str nm) ∧ FSpec PP 18 [D.ptr 0 0, di (↑(List.length (List.map V.str S)) : Int)] (St.mk [some (cDz l a1)] []) (di f) (St.mk [some (cDz l a2)] []) ∧ FSpec PP 18 [D.ptr 0 0, di (↑(List.length (List.map V.str S)) : Int)] (St.mk [some (cDz l a1)] []) (di f) (St.mk [some (cDz l a2)] []) ∧ di f = di f ∧ FSpec PP 18 [D.ptr 0 0, di (↑(List.length (List.map V.str S)) : Int)] (St.mk [some (cDz l a2)] []) (di t) (St.mk [some (cDz l a3)] []) ∧ FSpec PP 18 [D.ptr 0 0, di (↑(List.length (List.map V.str S)) : Int)] (St.mk [some (cDz l a2)] []) (di t) (St.mk [some (cDz l a3)] []) ∧ di t = di t ∧ [St.mk [some (cDz l a1), some zM, some (cTm S Pl ag rs), some [D.v (V.str (ByteArray.mk #[]).data.toList), di 0, di 0, D.v V.nils, D.v V.nils, D.v V.nils, di 0, di 0, di 0, D.v V.nils, D.v V.nils, D.v V.nils, D.v V.nils, di 0]] [(2, 14, List.map vRul rs)], St.mk [some (cDz l a2), some zM, some (cTm S Pl ag rs), some [D.v (V.str (ByteArray.mk #[]).data.toList), di 0, di 0, D.v V.nils, D.v V.nils, D.v V.nils, di 0, di 0, di 0, D.v V.nils, D.v V.nils, D.v V.nils, D.v V.nils, di 0]] [(2, 14, List.map vRul rs)], St.mk [some (cDz l a3), some zM, some (cTm S Pl ag rs), some [D.v (V.str (ByteArray.mk #[]).data.toList), di 0, di 0, D.v V.nils, D.v V.nils, D.v V.nils, di 0, di 0, di 0, D.v V.nils, D.v V.nils, D.v V.nils, D.v V.nils, di 0]] [(2, 14, List.map vRul rs)]] = [St.mk [some (cDz l a1), some zM, some (cTm S Pl ag rs), some [D.v (V.str (ByteArray.mk #[]).data.toList), di 0, di 0, D.v V.nils, D.v V.nils, D.v V.nils, di 0, di 0, di 0, D.v V.nils, D.v V.nils, D.v V.nils, D.v V.nils, di 0]] [(2, 14, List.map vRul rs)], St.mk [some (cDz l a2), some zM, some (cTm S Pl ag rs), some [D.v (V.str (ByteArray.mk #[]).data.toList), di 0, di 0, D.v V.nils, D.v V.nils, D.v V.nils, di 0, di 0, di 0, D.v V.nils, D.v V.nils, D.v V.nils, D.v V.nils, di 0]] [(2, 14, List.map vRul rs)], St.mk [some (cDz l a3), some zM, some (cTm S Pl ag rs), some [D.v (V.str (ByteArray.mk #[]).data.toList), di 0, di 0, D.v V.nils, D.v V.nils, D.v V.nils, di 0, di 0, di 0, D.v V.nils, D.v V.nils, D.v V.nils, D.v V.nils, di 0]] [(2, 14, List.map vRul rs)]] ∧ ((some [D.v (vSs S)] = some [D.v (vSs S)] ∧ some [D.v (vSs S)] = some [D.v (vSs S)] ∧ some [D.v (vSs S)] = some [D.v (vSs S)] ∧ some [D.v (vSs S)] = some [D.v (vSs S)] ∧ some [D.v (vSs S)] = some [D.v (vSs S)] ∧ some [D.v (vSs S)] = some [D.v (vSs S)] ∧ some [D.v (vSs S)] = some [D.v (vSs S)] ∧ True) ∧ (some [D.v (vSs S)] = some [D.v (vSs S)] ∧ some [D.v (vSs S)] = some [D.v (vSs S)] ∧ some [D.v (vSs S)] = some [D.v (vSs S)] ∧ some [D.v (vSs S)] = some [D.v (vSs S)] ∧ some [D.v (vSs S)] = some [D.v (vSs S)] ∧ some [D.v (vSs S)] = some [D.v (vSs S)] ∧ some [D.v (vSs S)] = some [D.v (vSs S)] ∧ True) ∧ True) ∧ FSpec PP 18 [D.ptr 0 0, di 2] (St.mk [some (cDz l a3)] []) (di u) (St.mk [some (cDz l a4)] []) ∧ (u == 0) = false ∧ FSpec PP 18 [D.ptr 0 0, di 2] (St.mk [some (cDz l a4)] []) (di x) (St.mk [some (cDz l a8)] []) ∧ (x == 0) = false ∧ List.map vRul rs = List.map vRul rs ∧ LenOK (List.length (List.map vRul rs) + List.length (V.agg (V.str nm :: V.int IntKind.i64 f :: V.int IntKind.i64 t :: V.list nV :: V.list nV :: V.list nV :: V.int IntKind.i64 0 :: V.int IntKind.i64 0 :: V.int IntKind.i64 0 :: V.list nV :: V.list nV :: V.list nV :: V.list nV :: V.int IntKind.i64 0 :: nV) :: nV)) 232 ∧ di (IntKind.wrap IntKind.i64 ((↑k : Int) + 1)) = di (↑(k + 1) : Int) ∧ [some (cDz l a8), some zM, some [di 5, D.v (vSs S), D.v (vSs Pl), D.v V.nils, D.v V.nils, di 0, di ag, D.acc 2 (List.map vRul rs ++ V.agg (V.str nm :: vi f :: vi t :: V.list nV :: V.list nV :: V.list nV :: vi 0 :: vi 0 :: vi 0 :: V.list nV :: V.list nV :: V.list nV :: V.list nV :: vi 0 :: nV) :: nV), di 0, D.v V.nils]] = [some (cDz l a8), some zM, some (cTm S Pl ag (rs ++ [mkT nm f t [] []]))] ∧ [(2, 14, List.map vRul rs ++ V.agg (V.str nm :: vi f :: vi t :: V.list nV :: V.list nV :: V.list nV :: vi 0 :: vi 0 :: vi 0 :: V.list nV :: V.list nV :: V.list nV :: V.list nV :: vi 0 :: nV) :: nV)] = [(2, 14, List.map vRul (rs ++ [mkT nm f t [] []]))] ∧ Nv.It (RunC (CN 1) PP (fun env σ1 => ResOK PP fTim env σ1 (dMod m) (dz l a')) [KI.lp (sub cTim [1, 1, 0, 1, 0, 0]), KI.blk 0, KI.code (sub cTim [1, 1, 1])] (mkE 94 [(0, D.ptr 0 0), (2, D.ptr 1 0), (3, D.ptr 2 0), (4, di (↑(k + 1) : Int))]) (stTm l a8 S Pl ag (rs ++ [mkT nm f t [] []])))) = _) ?_
        rw [hSm]
        repeat' first | with_reducible refine And.intro ?_ ?_
        all_goals first | exact h4 | exact hkr | exact f4 | exact t4 | exact u4 | exact hu | exact hx | exact x4 |  exact idx_str hnm | exact ⟨m3⟩ | exact wrap_succ (by omega) | omega | rfl | trivial | skip
        all_goals first | exact congrArg (fun z => [some (cDz l a8), some zM, some [di 5, .v (vSs S), .v (vSs Pl), .v .nils, .v .nils, di 0, di ag, .acc 2 z, di 0, .v .nils]]) (vRul_snoc rs (mkT nm f t [] [])) | exact congrArg (fun z => [(2, 14, z)]) (vRul_snoc rs (mkT nm f t [] [])) | (simp only [List.length_map, List.length_cons, List.length_nil]; omega)
  · obtain ⟨m0', hm0⟩ : ∃ m0' : Mod, m0' = ⟨5, S, Pl, [], [], 0, ag, rs, .mk 0 []⟩ := ⟨_, rfl⟩
    obtain ⟨s, ts, a2, s1, s2, s3, s4⟩ := bag_exO l hl m0' (by rw [hm0]; show 1 ≤ S.length ∧ S.length ≤ 3; omega) (by rw [hm0]; exact hPl) (by rw [hm0]; show 0 ≤ ag ∧ ag ≤ 3; omega) a1 h3
    refine ⟨⟨5, S, Pl, [], [], 0, ag, rs, .mk 0 [.mk 0 [], .mk 0 ts]⟩, a2, ⟨rfl, hS, hP, rfl, rfl, rfl, hag, by show rs.length ≤ 2; omega, hR, ts, by rw [hm0] at s2; exact s2, rfl⟩, s3, ?_⟩
    refine loop_vc mixed 94 [] (.c1 (cDz l a1) (di r) <| .f <| .h (.oc (.dagg [di 0, .arr 3 0 2]) ⟨[some (cDz l a2), some zM, some (cTm S Pl ag rs), some [di s, dVs [], di 0, dVs ts]], [(2, 14, rs.map vRul)]⟩) <| .h .ww <| .m (.arr 3 0 2) <| .h (.q 14 0) <| .h (.cs ⟨[some (cDz l a2), some zM, some [di 5, .v (vSs S), .v (vSs Pl), .v .nils, .v .nils, di 0, di ag, .acc 2 (rs.map vRul), di 0, .v (.list [vVal (.mk 0 []), vVal (.mk 0 ts)])], none], [(2, 14, rs.map vRul)]⟩) .r) ?_
    refine via (by kernel_rfl : (FSpec PP 18 [D.ptr 0 0, di 2] (St.mk [some (cDz l a)] []) (di r) (St.mk [some (cDz l a1)] []) ∧ decide ((↑k : Int) < IntKind.wrap IntKind.i64 (1 + r)) = false ∧ (∀ (o : Oper) (c : Call) (fo : Operand), o.op = Op.call c → c.callee = Callee.value fo → OpOK PP o [D.v (V.fn 30 [] []), D.ptr 0 0, D.v (V.agg [vi 5, vSs S, vSs Pl, V.nils, V.nils, vi 0, vi ag, V.list (List.map vRul rs), vi 0, V.nils]), di 2] (St.mk [some (cDz l a1), some zM, some (cTm S Pl ag rs)] [(2, 14, List.map vRul rs)]) (D.dagg [di 0, D.arr 3 0 2]) (St.mk [some (cDz l a2), some zM, some (cTm S Pl ag rs), some [di s, dVs [], di 0, dVs ts]] [(2, 14, List.map vRul rs)])) ∧ 10 ≤ 10 ∧ some (D.arr 3 0 2) = some (D.arr 3 0 2) ∧ iz 0 ≤ 0 ∧ 0 < (↑2 : Int) ∧ (∀ (e : List D) (E : Ent) (g : Gh) (a : Act) (w : World), FI E g (St.mk [some (cDz l a2), some zM, some (List.take (Nat.add 0 8) (cTm S Pl ag rs) ++ cellsD (D.dagg [di 0, D.arr 3 0 2]) ++ List.drop (Nat.add 0 8 + 2) (cTm S Pl ag rs)), some [evN [(0, D.ptr 0 0).snd, D.undef, (2, D.ptr 1 0).snd, (3, D.ptr 2 0).snd, (4, di (↑k : Int)).snd, D.undef, D.undef, D.undef, D.undef, D.undef, D.undef, D.undef, D.undef, D.undef, D.undef, D.undef, D.undef, D.undef, D.undef, D.undef, (4, di (↑k : Int)).snd, (0, D.ptr 0 0).snd, di r, D.v (V.int IntKind.i64 (IntKind.wrap IntKind.i64 (1 + r))), D.v (V.bool false), D.undef, D.undef, D.undef, D.undef, D.undef, D.undef, D.undef, D.undef, D.undef, D.undef, D.undef, D.undef, D.undef, D.undef, D.undef, D.undef, D.undef, D.undef, D.undef, D.undef, D.undef, D.undef, D.undef, D.undef, D.undef, D.undef, D.undef, D.undef, D.undef, D.undef, D.undef, D.undef, D.undef, D.undef, D.undef, D.undef, D.undef, D.undef, D.undef, D.undef, D.undef, D.undef, D.undef, D.undef, D.undef, D.undef, D.undef, D.undef, D.undef, D.undef, D.undef, D.undef, D.undef, D.undef, D.undef, D.undef, D.undef, D.undef, D.undef, (0, D.ptr 0 0).snd, D.v (V.agg [V.int IntKind.i64 5, vSs S, vSs Pl, V.nils, V.nils, V.int IntKind.i64 0, V.int IntKind.i64 ag, V.list (List.map vRul rs), V.int IntKind.i64 0, V.nils]), D.dagg [di 0, D.arr 3 0 2], D.ptr 2 (Nat.add 0 8), D.ptr 2 (Nat.add 0 8), D.ptr 2 (Nat.add (Nat.add 0 8) 1), D.arr 3 0 2, D.ptr 3 (0 + Int.toNat 0 * 2), D.ptr 3 (Nat.add (0 + Int.toNat 0 * 2) 0), D.undef] (Operand.const (Value.int IntKind.i64 0)), dVs [], di 0, dVs ts]] [(2, 14, List.map vRul rs)]) e a w → ∃ g', FI E g' (St.mk [some (cDz l a2), some zM, some [di 5, D.v (vSs S), D.v (vSs Pl), D.v V.nils, D.v V.nils, di 0, di ag, D.acc 2 (List.map vRul rs), di 0, D.v (V.list [vVal (Val.mk 0 []), vVal (Val.mk 0 ts)])], none] [(2, 14, List.map vRul rs)]) e a w) ∧ [some (cDz l a2)] = [some (cDz l a2)] ∧ D.v (V.agg [vi 5, V.list (List.map V.str S), V.list (List.map V.str Pl), V.list [], V.list [], vi 0, vi ag, V.list (List.map vRul rs), vi 0, V.list [vVal (Val.mk 0 []), vVal (Val.mk 0 ts)]]) = dMod (Mod.mk 5 S Pl [] [] 0 ag rs (Val.mk 0 [Val.mk 0 [], Val.mk 0 ts]))) = _) ?_
    refine ⟨h4, decide_eq_false (by rw [wrap_id (by omega) (by omega)]; exact hk), fun o c fo ho hc => ?_, by decide, rfl, by decide, by decide, ?_, rfl, ?_⟩
    · refine opOK_sub (ds' := [.v (.fn 30 [] []), .ptr 0 0, dMod m0', di 2]) (fun g us h => by rw [hm0]; exact wkDs_rep (ts := []) (kn := false) h) ?_
      have h := op_callG (σ := ⟨[some (cDz l a1), some zM, some (cTm S Pl ag rs)], [(2, 14, rs.map vRul)]⟩) ho hc (fD := .v (.fn 30 [] [])) rfl (ds := [.ptr 0 0, dMod m0', di 2]) [0] id s4 (.cons (.ren (dc := .ptr 0 0) rfl) (.cons (.ren (dc := dMod m0') rfl) (.cons (.ren (dc := di 2) rfl) .nil)))
        (.cons rfl (.cons (.ren (dc := .v (vBs l)) rfl) (.cons (.ren (dc := di a1) rfl) .nil)) (by rfl) .nil) (by simp) rfl (by simp) (by simp) (by simp [D.okN, D.okNs]) (by simp [okH, D.okNs, D.okN])
      simp [renH, backH, renOwn, D.ren, D.rens, rho] at h
      exact h
    · intro e
      exact cv_cellArrF (σ := ⟨[some (cDz l a2), some zM, some [di 5, .v (vSs S), .v (vSs Pl), .v .nils, .v .nils, di 0, di ag, .acc 2 (rs.map vRul), di 0, .arr 3 0 2], some (flatV [vVal (.mk 0 []), vVal (.mk 0 ts)])], [(2, 14, rs.map vRul)]⟩) (p := 2) (q := 3) (i := 9) (sz := 2) (cs := [di 5, .v (vSs S), .v (vSs Pl), .v .nils, .v .nils, di 0, di ag, .acc 2 (rs.map vRul), di 0, .arr 3 0 2]) (xs := [vVal (.mk 0 []), vVal (.mk 0 ts)]) (by decide) rfl rfl (by decide) rfl (fun x hx => by simp at hx; rcases hx with rfl | rfl <;> rfl) e
    · show D.v (V.agg [vi 5, vSs S, vSs Pl, vSs [], vIs [], vi 0, vi ag, vRuls rs, vi 0, V.list [vVal (.mk 0 []), vVal (.mk 0 ts)]]) = _
      rw [← enc_eq, ← enc_eq]; rfl
theorem tim_ex (l : List UInt8) (hl : l.length ≤ 200) (a : Nat) (ha : a ≤ l.length) :
    ∃ (m : Mod) (a' : Nat), MadeT m ∧ a' ≤ l.length ∧ FSpec PP 20 [.ptr 0 0] (dz l a) (dMod m) (dz l a') := by
  obtain ⟨r1, a1, p1, p2, p3, p4⟩ := pick_ex l hl a ha 2 (by decide) (by decide)
  obtain ⟨r2, a2, q1, q2, q3, q4⟩ := pick_ex l hl a1 p3 2 (by decide) (by decide)
  obtain ⟨ag, a3, u1, u2, u3, u4⟩ := pick_ex l hl a2 q3 2 (by decide) (by decide)
  obtain ⟨n1, rfl⟩ : ∃ n : Nat, r1 = n := ⟨r1.toNat, by omega⟩
  obtain ⟨n2, rfl⟩ : ∃ n : Nat, r2 = n := ⟨r2.toNat, by omega⟩
  obtain ⟨S, hS⟩ : ∃ S, S = ([[97], [98]] : List (List UInt8)).take (1 + n1) := ⟨_, rfl⟩
  obtain ⟨Pl, hPl⟩ : ∃ S, S = ([[120], [121]] : List (List UInt8)).take (1 + n2) := ⟨_, rfl⟩
  have hSx : S = [[97]] ∨ S = [[97], [98]] := by
    rcases (show n1 = 0 ∨ n1 = 1 by omega) with rfl | rfl
    · exact .inl hS
    · exact .inr hS
  have hPx : Pl = [[120]] ∨ Pl = [[120], [121]] := by
    rcases (show n2 = 0 ∨ n2 = 1 by omega) with rfl | rfl
    · exact .inl hPl
    · exact .inr hPl
  obtain ⟨m, a', m1, m2, m3⟩ := tim_loop l hl S Pl ag hSx hPx ⟨u1, by omega⟩ _ 0 a3 [] rfl u3 (by omega) rfl (by simp)
  refine ⟨m, a', m1, m2, ?_⟩
  refine spec_vc mixed fTim cTim (by kernel_rfl) (by kernel_rfl) (by kernel_rfl) (by kernel_rfl) 94 (by kernel_rfl) [] (.h (.dr 13) <| .c1 (cDz l a1) (di n1) <| .c1 (cDz l a2) (di n2) <| .c1 (cDz l a3) (di ag) <| .h .rn <| .h (.q 2 0) <| .h (.cl 2 7 2 14) <| .ls [ke 0, ke 2, ke 3, ch 4 (di (0 : Nat))] (stTm l a3 S Pl ag [])) ?_
  refine via (by kernel_rfl : (FSpec PP 18 [D.ptr 0 0, di 2] (St.mk [some (cDz l a)] []) (di (↑n1 : Int)) (St.mk [some (cDz l a1)] []) ∧ FSpec PP 18 [D.ptr 0 0, di 2] (St.mk [some (cDz l a)] []) (di (↑n1 : Int)) (St.mk [some (cDz l a1)] []) ∧ di (↑n1 : Int) = di (↑n1 : Int) ∧ (∀ (x : V), x ∈ [V.str (ByteArray.mk #[97]).data.toList, V.str (ByteArray.mk #[98]).data.toList] → V.size x = 1) ∧ 0 ≤ (fun x => x.snd) (IntKind.i64, IntKind.wrap IntKind.i64 (1 + (↑n1 : Int))) ∧ (fun x => x.snd) (IntKind.i64, IntKind.wrap IntKind.i64 (1 + (↑n1 : Int))) ≤ (↑(List.length [V.str (ByteArray.mk #[97]).data.toList, V.str (ByteArray.mk #[98]).data.toList]) : Int) ∧ FSpec PP 18 [D.ptr 0 0, di 2] (St.mk [some (cDz l a1)] []) (di (↑n2 : Int)) (St.mk [some (cDz l a2)] []) ∧ FSpec PP 18 [D.ptr 0 0, di 2] (St.mk [some (cDz l a1)] []) (di (↑n2 : Int)) (St.mk [some (cDz l a2)] []) ∧ di (↑n2 : Int) = di (↑n2 : Int) ∧ (∀ (x : V), x ∈ [V.str (ByteArray.mk #[120]).data.toList, V.str (ByteArray.mk #[121]).data.toList] → V.size x = 1) ∧ 0 ≤ (fun x => x.snd) (IntKind.i64, IntKind.wrap IntKind.i64 (1 + (↑n2 : Int))) ∧ (fun x => x.snd) (IntKind.i64, IntKind.wrap IntKind.i64 (1 + (↑n2 : Int))) ≤ (↑(List.length [V.str (ByteArray.mk #[120]).data.toList, V.str (ByteArray.mk #[121]).data.toList]) : Int) ∧ FSpec PP 18 [D.ptr 0 0, di 2] (St.mk [some (cDz l a2)] []) (di ag) (St.mk [some (cDz l a3)] []) ∧ FSpec PP 18 [D.ptr 0 0, di 2] (St.mk [some (cDz l a2)] []) (di ag) (St.mk [some (cDz l a3)] []) ∧ di ag = di ag ∧ [St.mk [some (cDz l a), some [di 0, D.v V.nils, D.v V.nils, D.v V.nils, D.v V.nils, di 0, di 0, D.v V.nils, di 0, D.v V.nils], some [di 0, D.v V.nils, D.v V.nils, D.v V.nils, D.v V.nils, di 0, di 0, D.v V.nils, di 0, D.v V.nils]] [], St.mk [some (cDz l a1), some [di 0, D.v V.nils, D.v V.nils, D.v V.nils, D.v V.nils, di 0, di 0, D.v V.nils, di 0, D.v V.nils], some [di 0, D.v V.nils, D.v V.nils, D.v V.nils, D.v V.nils, di 0, di 0, D.v V.nils, di 0, D.v V.nils]] [], St.mk [some (cDz l a2), some [di 0, D.v V.nils, D.v V.nils, D.v V.nils, D.v V.nils, di 0, di 0, D.v V.nils, di 0, D.v V.nils], some [di 0, D.v V.nils, D.v V.nils, D.v V.nils, D.v V.nils, di 0, di 0, D.v V.nils, di 0, D.v V.nils]] [], St.mk [some (cDz l a3), some [di 0, D.v V.nils, D.v V.nils, D.v V.nils, D.v V.nils, di 0, di 0, D.v V.nils, di 0, D.v V.nils], some [di 0, D.v V.nils, D.v V.nils, D.v V.nils, D.v V.nils, di 0, di 0, D.v V.nils, di 0, D.v V.nils]] []] = [St.mk [some (cDz l a), some [di 0, D.v V.nils, D.v V.nils, D.v V.nils, D.v V.nils, di 0, di 0, D.v V.nils, di 0, D.v V.nils], some [di 0, D.v V.nils, D.v V.nils, D.v V.nils, D.v V.nils, di 0, di 0, D.v V.nils, di 0, D.v V.nils]] [], St.mk [some (cDz l a1), some [di 0, D.v V.nils, D.v V.nils, D.v V.nils, D.v V.nils, di 0, di 0, D.v V.nils, di 0, D.v V.nils], some [di 0, D.v V.nils, D.v V.nils, D.v V.nils, D.v V.nils, di 0, di 0, D.v V.nils, di 0, D.v V.nils]] [], St.mk [some (cDz l a2), some [di 0, D.v V.nils, D.v V.nils, D.v V.nils, D.v V.nils, di 0, di 0, D.v V.nils, di 0, D.v V.nils], some [di 0, D.v V.nils, D.v V.nils, D.v V.nils, D.v V.nils, di 0, di 0, D.v V.nils, di 0, D.v V.nils]] [], St.mk [some (cDz l a3), some [di 0, D.v V.nils, D.v V.nils, D.v V.nils, D.v V.nils, di 0, di 0, D.v V.nils, di 0, D.v V.nils], some [di 0, D.v V.nils, D.v V.nils, D.v V.nils, D.v V.nils, di 0, di 0, D.v V.nils, di 0, D.v V.nils]] []] ∧ True ∧ di 0 = di (↑0 : Int) ∧ [some (cDz l a3), some [di 0, D.v V.nils, D.v V.nils, D.v V.nils, D.v V.nils, di 0, di 0, D.v V.nils, di 0, D.v V.nils], some [di 5, D.v (V.list (List.drop 0 (List.take (Int.toNat ((fun x => x.snd) (IntKind.i64, IntKind.wrap IntKind.i64 (1 + (↑n1 : Int))))) (V.str (ByteArray.mk #[97]).data.toList :: V.str (ByteArray.mk #[98]).data.toList :: nV)))), D.v (V.list (List.drop 0 (List.take (Int.toNat ((fun x => x.snd) (IntKind.i64, IntKind.wrap IntKind.i64 (1 + (↑n2 : Int))))) (V.str (ByteArray.mk #[120]).data.toList :: V.str (ByteArray.mk #[121]).data.toList :: nV)))), D.v V.nils, D.v V.nils, di 0, di ag, D.acc 2 nV, di 0, D.v V.nils]] = [some (cDz l a3), some zM, some (cTm S Pl ag [])] ∧ [(2, 14, nV)] = [(2, 14, nV)] ∧ Nv.It (RunC (CN (List.length (dz l a).H)) PP (fun env σ1 => ResOK PP fTim env σ1 (dMod m) (dz l a')) [KI.lp (sub cTim [1, 1, 0, 1, 0, 0]), KI.blk 0, KI.code (sub cTim [1, 1, 1])] (mkE 94 [(0, D.ptr 0 0), (2, D.ptr 1 0), (3, D.ptr 2 0), (4, di (↑0 : Int))]) (stTm l a3 S Pl ag []))) = _) ?_
  have w1 : IntKind.wrap IntKind.i64 (1 + (n1 : Int)) = 1 + n1 := wrap_id (by omega) (by omega)
  have w2 : IntKind.wrap IntKind.i64 (1 + (n2 : Int)) = 1 + n2 := wrap_id (by omega) (by omega)
  have z1 : ∀ x ∈ [V.str [97], V.str [98]], x.size = 1 := by simp [V.size]
  have z2 : ∀ x ∈ [V.str [120], V.str [121]], x.size = 1 := by simp [V.size]
  have k1 : V.list (List.drop 0 (List.take (1 + (n1 : Int)).toNat [V.str [97], V.str [98]])) = vSs S := by
    rw [hS, List.drop_zero, show (1 + (n1 : Int)).toNat = 1 + n1 by omega]
    rcases (show n1 = 0 ∨ n1 = 1 by omega) with rfl | rfl <;> rfl
  have k2 : V.list (List.drop 0 (List.take (1 + (n2 : Int)).toNat [V.str [120], V.str [121]])) = vSs Pl := by
    rw [hPl, List.drop_zero, show (1 + (n2 : Int)).toNat = 1 + n2 by omega]
    rcases (show n2 = 0 ∨ n2 = 1 by omega) with rfl | rfl <;> rfl
  rw [w1, w2]
  refine ⟨p4, p4, rfl, z1, by show 0 ≤ 1 + (n1 : Int); omega, by show 1 + (n1 : Int) ≤ 2; omega, q4, q4, rfl, z2, by show 0 ≤ 1 + (n2 : Int); omega, by show 1 + (n2 : Int) ≤ 2; omega, u4, u4, rfl, rfl, trivial, rfl, ?_, rfl, ⟨m3⟩⟩
  show [some (cDz l a3), some zM, some [di 5, .v (V.list (List.drop 0 (List.take (1 + (n1 : Int)).toNat [V.str [97], V.str [98]]))), .v (V.list (List.drop 0 (List.take (1 + (n2 : Int)).toNat [V.str [120], V.str [121]]))), .v .nils, .v .nils, di 0, di ag, .acc 2 [], di 0, .v .nils]] = _
  rw [k1, k2]; rfl
end Go.Proofs.YtopbcpgmffppjaaGreatDoor

namespace Go.Proofs.YtopbcpgmffppjaaGreatDoor
open Go.Dv Go.Nv
set_option maxRecDepth 20000
def isI64 (P : Program) (t : TypeId) : Bool := match P.underlying t with
  | some (.int .i64) => true
  | _ => false
theorem isI64_eq {P : Program} {t : TypeId} (h : isI64 P t = true) : P.underlying t = some (.int .i64) := by
  unfold isI64 at h
  split at h
  · assumption
  · simp at h
def threeInts (P : Program) (t : TypeId) : Bool := match (P.fieldsOf t).toList with
  | [f, g, h] => f.name != "_" && g.name != "_" && h.name != "_" && f.offset == 0 && g.offset == 1 && h.offset == 2 && P.plainKey f.type && P.plainKey g.type && P.plainKey h.type && isI64 P f.type && isI64 P g.type && isI64 P h.type
  | _ => false
theorem run_eq3 {P : Program} {t : TypeId} (h2 : threeInts P t = true) (ht : P.underlying t = some (.struct (P.fieldsOf t))) (hp : P.stoodInHeld t = false) (d : Nat) (a b c : Int) (w : World) :
    (Op.equalIn (d + 2) t (.agg #[.int .i64 a, .int .i64 b, .int .i64 c]) (.agg #[.int .i64 a, .int .i64 b, .int .i64 c])).run P w = .ok true w := by
  rw [run_equalIn_struct w (d + 1) t _ _ ht hp]
  unfold threeInts at h2
  split at h2
  · rename_i f g h hfs
    rw [hfs]
    simp only [Bool.and_eq_true, bne_iff_ne, beq_iff_eq] at h2
    obtain ⟨⟨⟨⟨⟨⟨⟨⟨⟨⟨⟨n1, n2⟩, n3⟩, o1⟩, o2⟩, o3⟩, p1⟩, p2⟩, p3⟩, u1⟩, u2⟩, u3⟩ := h2
    have e1 : ∀ w, (part f.type #[.int .i64 a, .int .i64 b, .int .i64 c] f.offset).run P w = .ok (.int .i64 a) w := fun w => run_part_plain w p1 (by rw [o1]; rfl)
    have e3 : ∀ w, (part g.type #[.int .i64 a, .int .i64 b, .int .i64 c] g.offset).run P w = .ok (.int .i64 b) w := fun w => run_part_plain w p2 (by rw [o2]; rfl)
    have e5 : ∀ w, (part h.type #[.int .i64 a, .int .i64 b, .int .i64 c] h.offset).run P w = .ok (.int .i64 c) w := fun w => run_part_plain w p3 (by rw [o3]; rfl)
    simp only [Op.eqFields, ne_eq, n1, n2, n3, not_false_eq_true, if_true, Sem.run_bind, e1, Result.andThen_ok, run_equalIn_int _ d _ .i64 .i64 _ _ (isI64_eq u1)]
    have u2' := fun w => run_equalIn_int (P := P) w d g.type .i64 .i64 b b (isI64_eq u2)
    have u3' := fun w => run_equalIn_int (P := P) w d h.type .i64 .i64 c c (isI64_eq u3)
    simp [Sem.run_ite, e3, u2', e5, u3']
  · simp at h2
abbrev tTk : TypeId := 70
theorem tk_three : threeInts PP tTk = true := by kernel_rfl
theorem tk_st : PP.underlying tTk = some (.struct (PP.fieldsOf tTk)) := by kernel_rfl
theorem tk_held : PP.stoodInHeld tTk = false := by kernel_rfl
theorem tk_guard : PP.eqGuardType PP.depth tTk = false := by kernel_rfl
theorem tk_agg : AggTy PP tTk 3 := by unfold AggTy; kernel_rfl
theorem op_neqTk {o : Oper} {σ : St} {ty : TypeId} {x y : Operand} (ho : o.op = .binOp .neq tTk x y ty) (a : Tk) : OpOK PP o [.v (vTk a), .v (vTk a)] σ (db false) σ := by
  refine opOK_run fun E g ρ w hw hds => ?_
  simp only [ho, Op.operands, repDs_two] at hds
  obtain ⟨u, v, e, h1, h2'⟩ := hds
  simp only [List.map_cons, List.map_nil, List.cons.injEq, and_true] at e
  obtain ⟨e1, e2⟩ := e
  simp only [repD, repV_agg] at h1 h2'
  obtain ⟨ws, h1, rfl⟩ := h1
  obtain ⟨vs, h3, rfl⟩ := h2'
  have hw1 : ws = [.int .i64 a.1, .int .i64 a.2, .int .i64 a.3] := by
    simp only [repA, repC, List.cons.injEq, and_true] at h1
    obtain ⟨u, us, rfl, _, rfl, u2, us2, rfl, _, rfl, u3, us3, rfl, _, rfl, rfl⟩ := h1; rfl
  have hw2 : vs = [.int .i64 a.1, .int .i64 a.2, .int .i64 a.3] := by
    simp only [repA, repC, List.cons.injEq, and_true] at h3
    obtain ⟨u, us, rfl, _, rfl, u2, us2, rfl, _, rfl, u3, us3, rfl, _, rfl, rfl⟩ := h3; rfl
  subst hw1 hw2
  refine ⟨.bool false, ?_, by simp [repD]⟩
  have hr := run_eq3 tk_three tk_st tk_held 9998 a.1 a.2 a.3 w
  simp [execOp, ho, e1, e2, run_eqGuard_agg w .neq tTk x y _ _ tk_guard, run_neq_struct, hr]
theorem eqT_one (a : Tk) : FSpec PP 108 [.v (vTks [a]), .v (vTks [a])] σ0 (db true) σ0 := by
  refine spec_vc mixed fEqT cEqT (by kernel_rfl) (by kernel_rfl) (by kernel_rfl) (by kernel_rfl) 26 (by kernel_rfl) [] (.n <| .x (vTk a) <| .x (vTk a) <| .h (.p (.v (vTk a))) <| .h (.p (db false)) <| .n <| .r) ?_
  refine via (by kernel_rfl : (iz 0 ≤ 0 ∧ some (vTk a) = some (vTk a) ∧ iz 0 ≤ 0 ∧ some (vTk a) = some (vTk a) ∧ (∀ (τ : St), OpOK PP (Oper.mk (some 23) (Op.load 70 (Operand.tmp 22)) 70 "slices.go:25" #[Edge.mk 6 Ground.data] none) [D.v (V.ref (vTk a))] τ (D.v (vTk a)) τ) ∧ (∀ (τ : St), OpOK PP (Oper.mk (some 24) (Op.binOp BinOp.neq 70 (Operand.tmp 19) (Operand.tmp 23) 70) 4 "slices.go:25" #[Edge.mk 3 Ground.data, Edge.mk 7 Ground.data] none) [D.v (vTk a), D.v (vTk a)] τ (db false) τ) ∧ db true = db true) = _) ?_
  exact ⟨by decide, rfl, by decide, rfl, fun τ => op_loadRA rfl tk_agg, fun τ => op_neqTk rfl a, rfl⟩
theorem eqT_same (l : List Tk) (h : l.length ≤ 1) : FSpec PP 108 [.v (vTks l), .v (vTks l)] σ0 (db true) σ0 := by
  match l, h with
  | [], _ => exact eqT_nil []
  | [a], _ => exact eqT_one a
noncomputable abbrev fSrI : Func := Tryz.f102
noncomputable def cSrI : Code := fSrI.body.getD .skip
theorem srI_spec (l : List Int) (h : l.length ≤ 1) : FSpec PP 102 [dIs l] σ0 (db true) σ0 := by
  match l, h with
  | [], _ =>
    refine spec_vc mixed fSrI cSrI (by kernel_rfl) (by kernel_rfl) (by kernel_rfl) (by kernel_rfl) 21 (by kernel_rfl) [] (.n <| .r) ?_
    refine via (by kernel_rfl : (db true = db true) = _) ?_
    rfl
  | [a], _ =>
    refine spec_vc mixed fSrI cSrI (by kernel_rfl) (by kernel_rfl) (by kernel_rfl) (by kernel_rfl) 21 (by kernel_rfl) [] (.n <| .r) ?_
    refine via (by kernel_rfl : (db true = db true) = _) ?_
    rfl
noncomputable abbrev fAg1 : Func := Tryz.f103
noncomputable def cAg1 : Code := fAg1.body.getD .skip
theorem ag1_spec (n : Nat) (hn : n ≤ 1000000) (x : Int) : FSpec PP 103 [di x, .v (.ref (vi n))] σ0 (db (betB x 0 (n - 1))) σ0 := by
  refine spec_vc mixed fAg1 cAg1 (by kernel_rfl) (by kernel_rfl) (by kernel_rfl) (by kernel_rfl) 7 (by kernel_rfl) [] (.c (db (betB x 0 (n - 1))) .r) ?_
  refine via (by kernel_rfl : (FSpec PP 71 [di x, di (↑n : Int)] (St.mk [] []) (db (betB x 0 ((↑n : Int) - 1))) (St.mk [] []) ∧ db (betB x 0 ((↑n : Int) - 1)) = db (betB x 0 ((↑n : Int) - 1))) = _) ?_
  exact ⟨mindex_spec x n hn, rfl⟩
noncomputable abbrev fAg2 : Func := Tryz.f105
noncomputable def cAg2 : Code := fAg2.body.getD .skip
theorem ag2_ok (m : Mod) (hm : m.places.length ≤ 1000000) (hag : 0 ≤ m.age ∧ m.age ≤ 1000) (t : Tk) (h1 : 0 ≤ t.place ∧ t.place < m.places.length) (h2 : 0 ≤ t.low ∧ t.low ≤ t.high ∧ t.high ≤ m.age + 1) : FSpec PP 105 [.v (vTk t), .v (.ref (vi m.places.length)), .v (.ref (vMod m))] σ0 (db false) σ0 := by
  refine spec_vc mixed fAg2 cAg2 (by kernel_rfl) (by kernel_rfl) (by kernel_rfl) (by kernel_rfl) 30 (by kernel_rfl) [3] (.c (db true) <| .k <| .f <| .f <| .r) ?_
  refine via (by kernel_rfl : (FSpec PP 71 [di t.place, di (↑(List.length m.places) : Int)] (St.mk [] []) (db true) (St.mk [] []) ∧ decide (t.low < 0) = false ∧ decide (t.low > t.high) = false ∧ db (decide (t.high > IntKind.wrap IntKind.i64 (m.age + 1))) = db false) = _) ?_
  have h := mindex_spec t.place m.places.length hm
  rw [show betB t.place 0 ((m.places.length : Int) - 1) = true by simp [betB]; omega] at h
  refine ⟨h, decide_eq_false (by omega), decide_eq_false (by omega), ?_⟩
  rw [wrap_id (by omega) (by omega), decide_eq_false (by omega)]
noncomputable abbrev fIxTk : Func := Tryz.f127
noncomputable def cIxTk : Code := fIxTk.body.getD .skip
noncomputable abbrev fHasTk : Func := Tryz.f104
noncomputable def cHasTk : Code := fHasTk.body.getD .skip
theorem hasTk_spec (F : FuncId) (cs : List V) (l : List Tk) (h : l.length ≤ 1) (hp : ∀ x ∈ l, FSpec PP F ((([] : List V) ++ [vTk x] ++ cs).map .v) σ0 (db false) σ0) : FSpec PP 104 [.v (vTks l), .v (.fn F [] cs)] σ0 (db false) σ0 := by
  have hi : FSpec PP 127 [.v (vTks l), .v (.fn F [] cs)] σ0 (di (-1)) σ0 := by
    match l, h with
    | [], _ =>
      refine spec_vc mixed fIxTk cIxTk (by kernel_rfl) (by kernel_rfl) (by kernel_rfl) (by kernel_rfl) 19 (by kernel_rfl) [] (.n <| .r) ?_
      refine via (by kernel_rfl : (di (-1) = di (-1)) = _) ?_
      rfl
    | [a], _ =>
      refine spec_vc mixed fIxTk cIxTk (by kernel_rfl) (by kernel_rfl) (by kernel_rfl) (by kernel_rfl) 19 (by kernel_rfl) [] (.n <| .x (vTk a) <| .c (db false) <| .n <| .r) ?_
      refine via (by kernel_rfl : (iz 0 ≤ 0 ∧ some (vTk a) = some (vTk a) ∧ FSpec PP F (D.v (vTk a) :: List.map D.v ([] ++ cs)) (St.mk [] []) (db false) (St.mk [] []) ∧ di (-1) = di (-1)) = _) ?_
      exact ⟨by decide, rfl, by simpa using hp a (by simp), rfl⟩
  refine spec_vc mixed fHasTk cHasTk (by kernel_rfl) (by kernel_rfl) (by kernel_rfl) (by kernel_rfl) 9 (by kernel_rfl) [] (.c (di (-1)) .r) ?_
  refine via (by kernel_rfl : (FSpec PP 127 [D.v (vTks l), D.v (V.fn F [] cs)] (St.mk [] []) (di (-1)) (St.mk [] []) ∧ db (decide (-1 ≥ 0)) = db false) = _) ?_
  exact ⟨hi, rfl⟩
noncomputable abbrev fAgs : Func := Tryz.f76
noncomputable def cAgs : Code := fAgs.body.getD .skip
theorem ags_ok (m : Mod) (hm : m.places.length ≤ 1000000) (hag : 0 ≤ m.age ∧ m.age ≤ 1000) (r : Rul) (h1 : r.takes.length ≤ 1) (h2 : r.makes.length ≤ 1) (h3 : ∀ t ∈ r.takes, (0 ≤ t.place ∧ t.place < m.places.length) ∧ (0 ≤ t.low ∧ t.low ≤ t.high ∧ t.high ≤ m.age + 1)) (h4 : ∀ x ∈ r.makes, 0 ≤ x ∧ x < m.places.length) : FSpec PP 76 [dMod m, dRul r] σ0 (db true) σ0 := by
  refine spec_vc mixed fAgs cAgs (by kernel_rfl) (by kernel_rfl) (by kernel_rfl) (by kernel_rfl) 37 (by kernel_rfl) [2, 3] (.h (.q 2 0) <| .h (.f1 0 [5]) <| .t <| .t <| .c (db true) <| .k <| .c (db true) <| .k <| .c (db false) <| .r) ?_
  refine via (by kernel_rfl : (decide ((↑(List.length (List.map vTk r.takes)) : Int) ≤ 3) = true ∧ decide ((↑(List.length (List.map vi r.makes)) : Int) ≤ 3) = true ∧ FSpec PP 102 [D.v (vIs r.makes)] (St.mk [] []) (db true) (St.mk [] []) ∧ FSpec PP 77 [D.v (vIs r.makes), D.v (V.fn 103 [] [V.ref (vi (↑(List.length (List.map V.str m.places)) : Int))])] (St.mk [] []) (db true) (St.mk [] []) ∧ FSpec PP 104 [D.v (vTks r.takes), D.v (V.fn 105 [] [V.ref (vi (↑(List.length (List.map V.str m.places)) : Int)), V.ref (vMod m)])] (St.mk [] []) (db false) (St.mk [] []) ∧ (db !false) = db true) = _) ?_
  refine ⟨decide_eq_true (by rw [List.length_map]; omega), decide_eq_true (by rw [List.length_map]; omega), srI_spec _ h2, ?_, ?_, rfl⟩
  · rw [List.length_map]
    have h := mall_spec 103 [] [.ref (vi m.places.length)] (fun x => betB x 0 ((m.places.length : Int) - 1)) r.makes (by omega) (fun x _ => ag1_spec m.places.length hm x)
    rwa [show (r.makes.all fun x => betB x 0 ((m.places.length : Int) - 1)) = true from by
      rw [List.all_eq_true]; intro x hx; have := h4 x hx; simp [betB]; omega] at h
  · rw [List.length_map]
    exact hasTk_spec _ _ r.takes h1 fun x hx => ag2_ok m hm hag x (h3 x hx).1 (h3 x hx).2
theorem sameT_ok (nm : List UInt8) (f t : Int) (tk : List Tk) (mk : List Int) (h1 : tk.length ≤ 1) (h2 : mk.length ≤ 1) : FSpec PP 79 [dRul (mkT nm f t tk mk), dRul (mkT nm f t tk mk)] σ0 (db true) σ0 := by
  refine spec_vc mixed fSame cSame (by kernel_rfl) (by kernel_rfl) (by kernel_rfl) (by kernel_rfl) 101 (by kernel_rfl) [2, 3] (.t <| .t <| .t <| .c (db true) <| .k <| .c (db true) <| .k <| .c (db true) <| .k <| .k <| .k <| .k <| .c (db true) <| .k <| .c (db true) <| .k <| .c (db true) <| .k <| .c (db true) <| .k <| .r) ?_
  refine via (by kernel_rfl : (((mkT nm f t tk mk).name == (mkT nm f t tk mk).name) = true ∧ ((mkT nm f t tk mk).frm == (mkT nm f t tk mk).frm) = true ∧ ((mkT nm f t tk mk).to == (mkT nm f t tk mk).to) = true ∧ FSpec PP 107 [D.v (vIs (mkT nm f t tk mk).need), D.v (vIs (mkT nm f t tk mk).need)] (St.mk [] []) (db true) (St.mk [] []) ∧ FSpec PP 107 [D.v (vIs (mkT nm f t tk mk).give), D.v (vIs (mkT nm f t tk mk).give)] (St.mk [] []) (db true) (St.mk [] []) ∧ FSpec PP 107 [D.v (vIs (mkT nm f t tk mk).move), D.v (vIs (mkT nm f t tk mk).move)] (St.mk [] []) (db true) (St.mk [] []) ∧ FSpec PP 107 [D.v (vIs (mkT nm f t tk mk).path), D.v (vIs (mkT nm f t tk mk).path)] (St.mk [] []) (db true) (St.mk [] []) ∧ FSpec PP 107 [D.v (vIs (mkT nm f t tk mk).next), D.v (vIs (mkT nm f t tk mk).next)] (St.mk [] []) (db true) (St.mk [] []) ∧ FSpec PP 108 [D.v (vTks (mkT nm f t tk mk).takes), D.v (vTks (mkT nm f t tk mk).takes)] (St.mk [] []) (db true) (St.mk [] []) ∧ FSpec PP 107 [D.v (vIs (mkT nm f t tk mk).makes), D.v (vIs (mkT nm f t tk mk).makes)] (St.mk [] []) (db true) (St.mk [] []) ∧ db ((mkT nm f t tk mk).second == (mkT nm f t tk mk).second) = db true) = _) ?_
  have e : ∀ l : List Int, l.length ≤ 1000000 → FSpec PP 107 [.v (vIs l), .v (vIs l)] σ0 (db true) σ0 := fun l hl => by simpa using eqI_spec l l hl
  have n0 := e [] (by decide)
  exact ⟨by simp, by simp, by simp, n0, n0, n0, n0, n0, eqT_same tk h1, e mk (by omega), by simp⟩
theorem rightT_ok (m : Mod) (hm : m.places.length ≤ 1000000) (hst : m.states.length ≤ 1000000) (hk : m.kind = 5) (hag : 0 ≤ m.age ∧ m.age ≤ 1000) (nm : List UInt8) (f t : Int) (tk : List Tk) (mk : List Int) (hf : 0 ≤ f ∧ f < m.states.length) (ht : 0 ≤ t ∧ t < m.states.length) (h1 : tk.length ≤ 1) (h2 : mk.length ≤ 1) (h3 : ∀ t ∈ tk, (0 ≤ t.place ∧ t.place < m.places.length) ∧ (0 ≤ t.low ∧ t.low ≤ t.high ∧ t.high ≤ m.age + 1)) (h4 : ∀ x ∈ mk, 0 ≤ x ∧ x < m.places.length) : FSpec PP 47 [dMod m, dRul (mkT nm f t tk mk)] σ0 (db true) σ0 := by
  refine spec_vc mixed fRight cRight (by kernel_rfl) (by kernel_rfl) (by kernel_rfl) (by kernel_rfl) 142 (by kernel_rfl) [2, 3] (.c (db true) <| .k <| .c (db true) <| .k <| .k <| .f <| .f <| .f <| .f <| .t <| .c (db true) <| .k <| .c (db true) .r) ?_
  refine via (by kernel_rfl : (FSpec PP 71 [di (mkT nm f t tk mk).to, di (↑(List.length (List.map V.str m.states)) : Int)] (St.mk [] []) (db true) (St.mk [] []) ∧ FSpec PP 71 [di (mkT nm f t tk mk).frm, di (↑(List.length (List.map V.str m.states)) : Int)] (St.mk [] []) (db true) (St.mk [] []) ∧ (m.kind == 1) = false ∧ (m.kind == 2) = false ∧ (m.kind == 3) = false ∧ (m.kind == 4) = false ∧ (m.kind == 5) = true ∧ FSpec PP 76 [D.v (vMod m), D.v (vRul (mkT nm f t tk mk))] (St.mk [] []) (db true) (St.mk [] []) ∧ FSpec PP 79 [D.v (vRul (mkT nm f t tk mk)), D.v (V.agg [V.str (mkT nm f t tk mk).name, vi (mkT nm f t tk mk).frm, vi (mkT nm f t tk mk).to, V.list [], V.list [], V.list [], vi 0, vi 0, vi 0, V.list [], V.list [], vTks (mkT nm f t tk mk).takes, vIs (mkT nm f t tk mk).makes, vi 0])] (St.mk [] []) (db true) (St.mk [] []) ∧ db true = db true) = _) ?_
  have hx : ∀ x : Int, 0 ≤ x → x < m.states.length → FSpec PP 71 [di x, di ((m.states.map V.str).length : Int)] σ0 (db true) σ0 := fun x h0 h1 => by
    rw [List.length_map]
    have h := mindex_spec x m.states.length hst
    rwa [show betB x 0 ((m.states.length : Int) - 1) = true by simp [betB]; omega] at h
  exact ⟨hx t ht.1 ht.2, hx f hf.1 hf.2, by rw [hk]; rfl, by rw [hk]; rfl, by rw [hk]; rfl, by rw [hk]; rfl, by rw [hk]; rfl, ags_ok m hm hag (mkT nm f t tk mk) h1 h2 h3 h4, sameT_ok nm f t tk mk h1 h2, rfl⟩
/-- the type of a timed model's configurations -/
def typT (m : Mod) : Typ := .prod [.lab m.states.length, .bag (.prod [.lab m.places.length, .lab (m.age + 2)])]
theorem typedT_spec (m : Mod) (hk : m.kind = 5) (hag : 0 ≤ m.age ∧ m.age ≤ 1000) : FSpec PP 51 [dMod m] σ0 (dT (typT m)) σ0 := by
  refine spec_vc mixed fTyped cTyped (by kernel_rfl) (by kernel_rfl) (by kernel_rfl) (by kernel_rfl) 70 (by kernel_rfl) [1] (.c (dT (.lab m.states.length)) <| .a 1 <| .f <| .t <| .c (dT (.lab m.places.length)) <| .c (dT (.lab (m.age + 2))) <| .c (dT (.bag (.prod [.lab m.places.length, .lab (m.age + 2)]))) <| .r) ?_
  refine via (by kernel_rfl : (FSpec PP 82 [di (↑(List.length (List.map V.str m.states)) : Int)] (St.mk [] []) (dT (Typ.lab (↑(List.length m.states) : Int))) (St.mk [] []) ∧ (m.kind == 4) = false ∧ (m.kind == 5) = true ∧ FSpec PP 82 [di (↑(List.length (List.map V.str m.places)) : Int)] (St.mk [] []) (dT (Typ.lab (↑(List.length m.places) : Int))) (St.mk [] []) ∧ FSpec PP 82 [di (IntKind.wrap IntKind.i64 (m.age + 2))] (St.mk [] []) (dT (Typ.lab (m.age + 2))) (St.mk [] []) ∧ FSpec PP 84 [di 5, D.v (V.agg [vi 3, vi 0, V.list [], V.list [vT (Typ.lab (↑(List.length m.places) : Int)), vT (Typ.lab (m.age + 2))]])] (St.mk [] []) (dT (Typ.bag (Typ.prod [Typ.lab (↑(List.length m.places) : Int), Typ.lab (m.age + 2)]))) (St.mk [] []) ∧ vT (Typ.lab (↑(List.length m.states) : Int)) :: nV = vT (Typ.lab (↑(List.length m.states) : Int)) :: nV ∧ LenOK 2 64 ∧ D.v (V.agg [vi 3, vi 0, V.list [], V.list [vT (Typ.lab (↑(List.length m.states) : Int)), vT (Typ.bag (Typ.prod [Typ.lab (↑(List.length m.places) : Int), Typ.lab (m.age + 2)]))]]) = dT (typT m)) = _) ?_
  exact ⟨by rw [List.length_map]; exact mlabel_spec _, by rw [hk]; rfl, by rw [hk]; rfl, by rw [List.length_map]; exact mlabel_spec _, by rw [wrap_id (by omega) (by omega)]; exact mlabel_spec _, mlist_bag (.prod [.lab m.places.length, .lab (m.age + 2)]), rfl, ⟨by decide, by decide⟩, rfl⟩
theorem goodT (m : Mod) (hst : 1 ≤ m.states.length ∧ m.states.length ≤ 16) (hpl : 1 ≤ m.places.length ∧ m.places.length ≤ 16) (hag : 0 ≤ m.age ∧ m.age ≤ 3) : goodB 8 (typT m) = true := by
  simp only [typT, goodB, List.length_cons, List.length_nil, List.all_cons, List.all_nil, Bool.and_true, Bool.and_eq_true, Bool.not_eq_true', beq_eq_false_iff_ne, decide_eq_false_iff_not, decide_eq_true_eq]
  omega
theorem tokOne (np age : Int) (t : Val) (h : TokV np age t) : oneB (.prod [.lab np, .lab (age + 2)]) t = true := by
  obtain ⟨p, g, h1, h2, rfl⟩ := h
  simp only [oneB, Val.n, Val.kids, onesB, labB, Bool.and_eq_true, decide_eq_true_eq, beq_iff_eq]
  refine ⟨?_, ?_, ⟨?_, ?_, ?_⟩, ⟨?_, ?_, ?_⟩, ?_⟩
  all_goals first | exact decide_eq_true h1.1 | exact decide_eq_true h1.2 | exact decide_eq_true h2.1 | exact decide_eq_true h2.2 | rfl | trivial
theorem srtM_asc (l : List Val) (h : ∀ i x y, l[i]? = some x → l[i + 1]? = some y → cmpV x y < 0) : ∀ k, k < l.length → srtM l k = true
  | 0, _ => rfl
  | k + 1, hk => by
    have h1 : l[k]? = some l[k] := List.getElem?_eq_getElem (by omega)
    have h2 : l[k + 1]? = some l[k + 1] := List.getElem?_eq_getElem hk
    have h3 := h k _ _ h1 h2
    have h4 := (cmpV_lin.swap _ _ trivial trivial).1 h3
    rw [srtM, List.getD_eq_getElem?_getD, List.getD_eq_getElem?_getD, h1, h2, if_neg (by show ¬ cmpV l[k + 1] l[k] < 0; omega)]
    exact srtM_asc l h k (by omega)
/-- a configuration of a timed model -/
theorem bag_valid (m : Mod) (s : Int) (hs : 0 ≤ s ∧ s < m.states.length) (ts : List Val) (h : TokL m.places.length m.age 2 ts) : validB (typT m) (.mk 0 [.mk s [], .mk 0 ts]) = true := by
  have hsz := toks_sz ts h.tok
  have hl := h.len
  have hsr : srtB ts = true := by
    unfold srtB
    cases ts with
    | nil => rfl
    | cons t ts => exact srtM_asc _ h.asc _ (by simp)
  rw [validB, decide_eq_true (by simp only [Val.size, Val.sizes]; omega), Bool.true_and, typT]
  simp only [oneB, Val.n, Val.kids, onesB, labB, Bool.and_eq_true, decide_eq_true_eq, beq_iff_eq, List.all_eq_true]
  refine ⟨?_, ?_, ⟨?_, ?_, ?_⟩, ⟨⟨?_, ?_, ?_⟩, ?_⟩, ?_⟩
  all_goals first | exact decide_eq_true hs.1 | exact decide_eq_true hs.2 | exact hsr | (intro t ht; obtain ⟨p, g, h1, h2, rfl⟩ := h.tok t ht; have := tokOne _ _ _ ⟨p, g, h1, h2, rfl⟩; simp only [oneB, Bool.and_eq_true] at this; exact ⟨rfl, rfl, this.2.2⟩) | rfl | trivial | exact decide_eq_true (by omega)
end Go.Proofs.YtopbcpgmffppjaaGreatDoor

namespace Go.Proofs.YtopbcpgmffppjaaGreatDoor
open Go.Dv Go.Nv
set_option maxRecDepth 20000
theorem mapNameT {rs : List Rul} (h3 : rs.length ≤ 2) {ns np : Nat} {ag : Int} (h : ∀ k r, rs[k]? = some r → MadeTR ns np ag k r) : rs.map Rul.name = dl2.take rs.length := by
  apply List.ext_getElem?
  intro i
  by_cases hi : i < rs.length
  · have hx : rs[i]? = some rs[i] := List.getElem?_eq_getElem hi
    rw [List.getElem?_map, hx, List.getElem?_take_of_lt hi, (h i _ hx).name]; rfl
  · rw [List.getElem?_eq_none (by simp; omega), List.getElem?_eq_none (by simp; omega)]
theorem MadeT.sz {m : Mod} (h : MadeT m) : (1 ≤ m.states.length ∧ m.states.length ≤ 2) ∧ (1 ≤ m.places.length ∧ m.places.length ≤ 2) :=
  ⟨by rcases h.states with e | e <;> rw [e] <;> decide, by rcases h.places with e | e <;> rw [e] <;> decide⟩
theorem MadeT.right {m : Mod} (h : MadeT m) (r : Rul) (hr : r ∈ m.rules) : FSpec PP 47 [dMod m, dRul r] σ0 (db true) σ0 := by
  obtain ⟨hst, hpl⟩ := h.sz
  have hag := h.age
  have hi := List.idxOf_lt_length_of_mem hr
  have hm := h.rules _ r (by rw [List.getElem?_eq_getElem hi, List.getElem_idxOf])
  rw [hm.rest]
  refine rightT_ok m (by omega) (by omega) h.kind (by omega) _ _ _ _ _ hm.frm hm.to ?_ ?_ ?_ ?_
  · rcases hm.takes with e | ⟨p, lo, hi, _, _, e⟩ <;> rw [e] <;> simp
  · rcases hm.makes with e | ⟨p, _, e⟩ <;> rw [e] <;> simp
  · rcases hm.takes with e | ⟨p, lo, hi, h1, h2, e⟩
    · rw [e]; simp
    · rw [e]; intro t ht; rw [List.mem_singleton.1 ht]; exact ⟨h1, h2⟩
  · rcases hm.makes with e | ⟨p, h1, e⟩
    · rw [e]; simp
    · rw [e]; intro t ht; rw [List.mem_singleton.1 ht]; exact h1
theorem chk1T_spec (m : Mod) (hm : MadeT m) (r : Rul) (hr : r ∈ m.rules) : FSpec PP 46 [dRul r, .v (.ref (vMod m))] σ0 (db false) σ0 := by
  refine spec_vc mixed fChk1 cChk1 (by kernel_rfl) (by kernel_rfl) (by kernel_rfl) (by kernel_rfl) 8 (by kernel_rfl) [2] (.c (db true) .r) ?_
  refine via (by kernel_rfl : (FSpec PP 47 [D.v (vMod m), D.v (vRul r)] (St.mk [] []) (db true) (St.mk [] []) ∧ (db !true) = db false) = _) ?_
  exact ⟨hm.right r hr, rfl⟩
theorem MadeT.good {m : Mod} (h : MadeT m) : goodB 8 (typT m) = true := goodT m (by have := h.sz; omega) (by have := h.sz; omega) (by have := h.age; omega)
theorem MadeT.start_ok {m : Mod} (h : MadeT m) : validB (typT m) m.start = true := by
  obtain ⟨ts, h1, h2⟩ := h.start
  have := h.sz
  rw [h2]; exact bag_valid m 0 ⟨by omega, by omega⟩ ts h1
theorem MadeT.ssz {m : Mod} (h : MadeT m) : m.start.size ≤ 1000000 := by
  have := h.start_ok
  simp only [validB, Bool.and_eq_true, decide_eq_true_eq] at this
  omega
theorem begT_spec (m : Mod) (hm : MadeT m) : FSpec PP 48 [dMod m] σ0 (db true) σ0 := by
  refine spec_vc mixed fBeg cBeg (by kernel_rfl) (by kernel_rfl) (by kernel_rfl) (by kernel_rfl) 22 (by kernel_rfl) [1] (.f <| .c (dT (typT m)) <| .c (db true) .r) ?_
  refine via (by kernel_rfl : ((m.kind == 6) = false ∧ FSpec PP 51 [D.v (vMod m)] (St.mk [] []) (dT (typT m)) (St.mk [] []) ∧ FSpec PP 50 [D.v (vT (typT m)), D.v (V.agg [vi (Val.n m.start), vVs (Val.kids m.start)])] (St.mk [] []) (db true) (St.mk [] []) ∧ db true = db true) = _) ?_
  refine ⟨by rw [hm.kind]; rfl, typedT_spec m hm.kind (by have := hm.age; omega), ?_, rfl⟩
  have := oval_spec (typT m) hm.good m.start hm.ssz
  rw [hm.start_ok] at this
  exact this
theorem chkT_spec (m : Mod) (hm : MadeT m) : FSpec PP 31 [dMod m] σ0 (di 0) σ0 := by
  refine spec_vc mixed fChk cChk (by kernel_rfl) (by kernel_rfl) (by kernel_rfl) (by kernel_rfl) 29 (by kernel_rfl) [1] (.c (db true) <| .c (db true) <| .c (db true) <| .c (db true) <| .c (db false) <| .c (db true) .r) ?_
  refine via (by kernel_rfl : (FSpec PP 41 [di m.kind, di 1, di 6] (St.mk [] []) (db true) (St.mk [] []) ∧ FSpec PP 42 [D.v (vMod m)] (St.mk [] []) (db true) (St.mk [] []) ∧ FSpec PP 43 [D.v (vMod m)] (St.mk [] []) (db true) (St.mk [] []) ∧ FSpec PP 44 [D.v (vMod m)] (St.mk [] []) (db true) (St.mk [] []) ∧ FSpec PP 45 [D.v (vRuls m.rules), D.v (V.fn 46 [] [V.ref (vMod m)])] (St.mk [] []) (db false) (St.mk [] []) ∧ FSpec PP 48 [D.v (vMod m)] (St.mk [] []) (db true) (St.mk [] []) ∧ di 0 = di 0) = _) ?_
  obtain ⟨hst, hpl⟩ := hm.sz
  have hag := hm.age
  have hc := hm.count
  have hb : ∀ {x a b : Int}, a ≤ x → x ≤ b → betB x a b = true := fun h1 h2 => by simp [betB, h1, h2]
  refine ⟨?_, ?_, ?_, ?_, ?_, begT_spec m hm, rfl⟩
  · have := betw_spec m.kind 1 6
    rwa [show betB m.kind 1 6 = true by rw [hm.kind]; rfl] at this
  · have := sized_spec lim5 m (by rw [hm.kind]; exact of_5)
    rwa [show sizedB lim5 m = true by
      simp only [sizedB, Bool.and_eq_true, decide_eq_true_eq, hm.letters, hm.levels]
      exact ⟨hb (by omega) (by omega), by omega, hb (by omega) (by omega), by decide, by decide, hb (by omega) (by omega)⟩] at this
  · have := ranked_spec m (by rw [hm.ranks]; decide)
    rwa [show rankedB m = true by rw [rankedB, if_pos (by rw [hm.kind]; rfl), hm.ranks]; rfl] at this
  · have := nam_spec m (by simp only [baseM, List.flatten_cons, List.flatten_nil, List.length_append, List.length_nil, hm.letters]; omega)
    rwa [show namedB m = true by
      have hn := mapNameT hm.count hm.rules
      rw [namedB, namesM, hn, baseM, hm.letters]
      have : m.rules.length = 0 ∨ m.rules.length = 1 ∨ m.rules.length = 2 := by omega
      rcases hm.states with e | e <;> rcases hm.places with e' | e' <;> rcases this with e2 | e2 | e2 <;> rw [e, e', e2] <;> decide +kernel] at this
  · have := hasR_spec 46 [] [.ref (vMod m)] (fun _ => false) m.rules (by omega) (fun r hr => chk1T_spec m hm r hr)
    rw [show m.rules.any (fun _ => false) = false by simp] at this
    exact this
theorem mvalT_spec (m : Mod) (hm : MadeT m) (v : Val) (hv : v.size ≤ 1000000) : FSpec PP 33 [dMod m, dV v] σ0 (db (validB (typT m) v)) σ0 := by
  refine spec_vc mixed fMVal cMVal (by kernel_rfl) (by kernel_rfl) (by kernel_rfl) (by kernel_rfl) 14 (by kernel_rfl) [2, 3] (.c (di 0) <| .c (dT (typT m)) <| .c (db (validB (typT m) v)) .r) ?_
  refine via (by kernel_rfl : (FSpec PP 31 [D.v (vMod m)] (St.mk [] []) (di 0) (St.mk [] []) ∧ FSpec PP 51 [D.v (vMod m)] (St.mk [] []) (dT (typT m)) (St.mk [] []) ∧ FSpec PP 50 [D.v (vT (typT m)), D.v (vVal v)] (St.mk [] []) (db (validB (typT m) v)) (St.mk [] []) ∧ db (validB (typT m) v) = db (validB (typT m) v)) = _) ?_
  exact ⟨chkT_spec m hm, typedT_spec m hm.kind (by have := hm.age; omega), oval_spec _ hm.good v hv, rfl⟩
theorem wlkT_spec (m : Mod) (hm : MadeT m) : FSpec PP 21 [dMod m] σ0 (di 0) σ0 := by
  refine spec_vc mixed fWlk cWlk (by kernel_rfl) (by kernel_rfl) (by kernel_rfl) (by kernel_rfl) 12 (by kernel_rfl) [1] (.c (di 0) <| .k <| .f .r) ?_
  refine via (by kernel_rfl : (FSpec PP 31 [D.v (vMod m)] (St.mk [] []) (di 0) (St.mk [] []) ∧ (m.kind == 6) = false ∧ di 0 = di 0) = _) ?_
  exact ⟨chkT_spec m hm, by rw [hm.kind]; rfl, rfl⟩
theorem MadeT.int {m : Mod} (h : MadeT m) : ModI m (typT m) := ⟨wlkT_spec m h, spl_spec m (by have := h.count; omega), fun v hv => mvalT_spec m h v hv, by have := h.sz; omega⟩
/-- the dealt models -/
inductive AnyM (m : Mod) : Prop where
  | cM (h : MadeM m)
  | l2 (h : MadeL 2 m)
  | l3 (h : MadeL 3 m)
  | tm (h : MadeT m)
  | c (h : MadeC m)
noncomputable abbrev fAny : Func := Tryz.f9
noncomputable def cAny : Code := fAny.body.getD .skip
theorem any_ex (l : List UInt8) (hl : l.length ≤ 200) (a : Nat) (ha : a ≤ l.length) :
    ∃ (m : Mod) (a' : Nat), AnyM m ∧ a' ≤ l.length ∧ FSpec PP 9 [.ptr 0 0] (dz l a) (dMod m) (dz l a') := by
  obtain ⟨r, a1, p1, p2, p3, p4⟩ := pick_ex l hl a ha 5 (by decide) (by decide)
  rcases (show r = 0 ∨ r = 1 ∨ r = 2 ∨ r = 3 ∨ r = 4 by omega) with rfl | rfl | rfl | rfl | rfl
  · obtain ⟨m, a2, h1, h2, h3⟩ := ctrT_ex l hl a1 p3
    refine ⟨m, a2, .cM h1, h2, ?_⟩
    refine spec_vc mixed fAny cAny (by kernel_rfl) (by kernel_rfl) (by kernel_rfl) (by kernel_rfl) 23 (by kernel_rfl) [] (.c1 (cDz l a1) (di 0) <| .c1 (cDz l a2) (dMod m) .r) ?_
    refine via (by kernel_rfl : (FSpec PP 18 [D.ptr 0 0, di 5] (St.mk [some (cDz l a)] []) (di 0) (St.mk [some (cDz l a1)] []) ∧ FSpec PP 12 [D.ptr 0 0, db true] (St.mk [some (cDz l a1)] []) (dMod m) (St.mk [some (cDz l a2)] []) ∧ [some (cDz l a2)] = [some (cDz l a2)] ∧ D.v (V.agg [vi m.kind, V.list (List.map V.str m.states), V.list (List.map V.str m.places), V.list (List.map V.str m.letters), V.list (List.map vi m.ranks), vi m.levels, vi m.age, V.list (List.map vRul m.rules), vi (Val.n m.start), V.list (List.map eV (Val.kids m.start))]) = dMod m) = _) ?_
    trivial
  · obtain ⟨m, a2, h1, h2, h3⟩ := chn_ex l hl a1 p3 2 (.inl rfl)
    refine ⟨m, a2, .l2 h1, h2, ?_⟩
    refine spec_vc mixed fAny cAny (by kernel_rfl) (by kernel_rfl) (by kernel_rfl) (by kernel_rfl) 23 (by kernel_rfl) [] (.c1 (cDz l a1) (di 1) <| .c1 (cDz l a2) (dMod m) .r) ?_
    refine via (by kernel_rfl : (FSpec PP 18 [D.ptr 0 0, di 5] (St.mk [some (cDz l a)] []) (di 1) (St.mk [some (cDz l a1)] []) ∧ FSpec PP 19 [D.ptr 0 0, di 2] (St.mk [some (cDz l a1)] []) (dMod m) (St.mk [some (cDz l a2)] []) ∧ [some (cDz l a2)] = [some (cDz l a2)] ∧ D.v (V.agg [vi m.kind, V.list (List.map V.str m.states), V.list (List.map V.str m.places), V.list (List.map V.str m.letters), V.list (List.map vi m.ranks), vi m.levels, vi m.age, V.list (List.map vRul m.rules), vi (Val.n m.start), V.list (List.map eV (Val.kids m.start))]) = dMod m) = _) ?_
    trivial
  · obtain ⟨m, a2, h1, h2, h3⟩ := chn_ex l hl a1 p3 3 (.inr rfl)
    refine ⟨m, a2, .l3 h1, h2, ?_⟩
    refine spec_vc mixed fAny cAny (by kernel_rfl) (by kernel_rfl) (by kernel_rfl) (by kernel_rfl) 23 (by kernel_rfl) [] (.c1 (cDz l a1) (di 2) <| .c1 (cDz l a2) (dMod m) .r) ?_
    refine via (by kernel_rfl : (FSpec PP 18 [D.ptr 0 0, di 5] (St.mk [some (cDz l a)] []) (di 2) (St.mk [some (cDz l a1)] []) ∧ FSpec PP 19 [D.ptr 0 0, di 3] (St.mk [some (cDz l a1)] []) (dMod m) (St.mk [some (cDz l a2)] []) ∧ [some (cDz l a2)] = [some (cDz l a2)] ∧ D.v (V.agg [vi m.kind, V.list (List.map V.str m.states), V.list (List.map V.str m.places), V.list (List.map V.str m.letters), V.list (List.map vi m.ranks), vi m.levels, vi m.age, V.list (List.map vRul m.rules), vi (Val.n m.start), V.list (List.map eV (Val.kids m.start))]) = dMod m) = _) ?_
    trivial
  · obtain ⟨m, a2, h1, h2, h3⟩ := tim_ex l hl a1 p3
    refine ⟨m, a2, .tm h1, h2, ?_⟩
    refine spec_vc mixed fAny cAny (by kernel_rfl) (by kernel_rfl) (by kernel_rfl) (by kernel_rfl) 23 (by kernel_rfl) [] (.c1 (cDz l a1) (di 3) <| .c1 (cDz l a2) (dMod m) .r) ?_
    refine via (by kernel_rfl : (FSpec PP 18 [D.ptr 0 0, di 5] (St.mk [some (cDz l a)] []) (di 3) (St.mk [some (cDz l a1)] []) ∧ FSpec PP 20 [D.ptr 0 0] (St.mk [some (cDz l a1)] []) (dMod m) (St.mk [some (cDz l a2)] []) ∧ [some (cDz l a2)] = [some (cDz l a2)] ∧ D.v (V.agg [vi m.kind, V.list (List.map V.str m.states), V.list (List.map V.str m.places), V.list (List.map V.str m.letters), V.list (List.map vi m.ranks), vi m.levels, vi m.age, V.list (List.map vRul m.rules), vi (Val.n m.start), V.list (List.map eV (Val.kids m.start))]) = dMod m) = _) ?_
    trivial
  · obtain ⟨m, a2, h1, h2, h3⟩ := ctr_ex l hl a1 p3
    refine ⟨m, a2, .c h1, h2, ?_⟩
    refine spec_vc mixed fAny cAny (by kernel_rfl) (by kernel_rfl) (by kernel_rfl) (by kernel_rfl) 23 (by kernel_rfl) [] (.c1 (cDz l a1) (di 4) <| .c1 (cDz l a2) (dMod m) .r) ?_
    refine via (by kernel_rfl : (FSpec PP 18 [D.ptr 0 0, di 5] (St.mk [some (cDz l a)] []) (di 4) (St.mk [some (cDz l a1)] []) ∧ FSpec PP 12 [D.ptr 0 0, db false] (St.mk [some (cDz l a1)] []) (dMod m) (St.mk [some (cDz l a2)] []) ∧ [some (cDz l a2)] = [some (cDz l a2)] ∧ D.v (V.agg [vi m.kind, V.list (List.map V.str m.states), V.list (List.map V.str m.places), V.list (List.map V.str m.letters), V.list (List.map vi m.ranks), vi m.levels, vi m.age, V.list (List.map vRul m.rules), vi (Val.n m.start), V.list (List.map eV (Val.kids m.start))]) = dMod m) = _) ?_
    trivial
end Go.Proofs.YtopbcpgmffppjaaGreatDoor

namespace Go.Proofs.YtopbcpgmffppjaaGreatDoor
open Go.Dv Go.Nv
set_option maxRecDepth 20000
end Go.Proofs.YtopbcpgmffppjaaGreatDoor
