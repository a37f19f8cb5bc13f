/-
  Closed facts on the types of this translation.
-/
import Derived.Test.YtopbcpgmffppjaaGreatDoorProg
import Derived.Test.YtopbcpgmffppjaaGreatDoorDb
import Derived.KernelRfl
import Derived.Test.YtopbcpgmffppjaaGreatDoorEb
namespace Go.Proofs.YtopbcpgmffppjaaGreatDoor
open Go.Dv
noncomputable abbrev PP : Program := Tryz.prog
theorem mixed : PP.follows .mixedOrders = true := by kernel_rfl
end Go.Proofs.YtopbcpgmffppjaaGreatDoor

namespace Go.Proofs.YtopbcpgmffppjaaGreatDoor
open Go.Dv Go.Nv
set_option maxRecDepth 20000
abbrev σ0 : St := ⟨[], []⟩
abbrev dfn (f : FuncId) : D := .v (.fn f [] [])
abbrev dl (l : List V) : D := .v (.list l)
abbrev ke (t : Nat) : Nat × Option D := (t, none)
abbrev ch (t : Nat) (d : D) : Nat × Option D := (t, some d)
theorem idx_some {α : Type} {f : α → V} {a : List α} {i : Nat} {x : α} (h : a[i]? = some x) : (a.map f)[((i : Nat) : Int).toNat]? = some (f x) := by simp [h]
theorem wrap_id {n : Int} (h0 : -9223372036854775808 ≤ n) (h1 : n ≤ 9223372036854775807) : IntKind.i64.wrap n = n := by rw [IntKind.wrap_i64]; omega
theorem wrap_succ {i : Nat} (h : i ≤ 1000000000) : di (IntKind.i64.wrap ((i : Int) + 1)) = di ((i + 1 : Nat) : Int) := by rw [wrap_id (by omega) (by omega)]; simp

/- VALUES -/
inductive Val where
  | mk (n : Int) (kids : List Val)
  deriving Inhabited
def Val.n : Val → Int
  | .mk n _ => n
def Val.kids : Val → List Val
  | .mk _ ks => ks
mutual
def Val.enc : Val → V
  | .mk n ks => .agg [vi n, .list (Val.encs ks)]
def Val.encs : List Val → List V
  | [] => []
  | v :: vs => v.enc :: Val.encs vs
end
abbrev eV : Val → V := Val.enc
abbrev vVs (l : List Val) : V := .list (l.map eV)
abbrev vVal (v : Val) : V := .agg [vi v.n, vVs v.kids]
theorem encs_map : ∀ l : List Val, Val.encs l = l.map eV
  | [] => rfl
  | v :: l => by simp [Val.encs, encs_map l]
theorem enc_eq (v : Val) : eV v = vVal v := by cases v with | mk n ks => simp only [eV, Val.enc, encs_map]; rfl
abbrev dV (v : Val) : D := .v (vVal v)
abbrev dVs (l : List Val) : D := .v (vVs l)
theorem idx_val {a : List Val} {i : Nat} {x : Val} (h : a[i]? = some x) : (a.map eV)[((i : Nat) : Int).toNat]? = some (vVal x) := by rw [← enc_eq]; exact idx_some h
theorem append_val (a : List Val) (x : Val) : a.map eV ++ [vVal x] = (a ++ [x]).map eV := by rw [← enc_eq]; simp
mutual
def Val.size : Val → Nat
  | .mk _ ks => 1 + Val.sizes ks
def Val.sizes : List Val → Nat
  | [] => 0
  | v :: vs => v.size + Val.sizes vs
end
theorem Val.size_eq (v : Val) : v.size = 1 + Val.sizes v.kids := by cases v; rfl
theorem Val.size_pos (v : Val) : 1 ≤ v.size := by rw [Val.size_eq]; omega
theorem Val.size_mem {v : Val} : ∀ {l : List Val}, v ∈ l → v.size ≤ Val.sizes l
  | w :: l, h => by
    rcases List.mem_cons.1 h with rfl | h
    · simp [Val.sizes]
    · have := Val.size_mem h; simp only [Val.sizes]; omega
theorem Val.length_le : ∀ l : List Val, l.length ≤ Val.sizes l
  | [] => by simp [Val.sizes]
  | v :: l => by have := Val.length_le l; have := v.size_pos; simp only [List.length_cons, Val.sizes]; omega

/- COMPARING NUMBERS -/
noncomputable abbrev fNaN : Func := Tryz.f91
noncomputable def cNaN : Code := fNaN.body.getD .skip
theorem nan_spec (x : Int) : FSpec PP 91 [di x] σ0 (db false) σ0 := by
  refine spec_vc mixed fNaN cNaN (by kernel_rfl) (by kernel_rfl) (by kernel_rfl) (by kernel_rfl) 6 (by kernel_rfl) [] .r ?_
  refine via (by kernel_rfl : (db (x != x) = db false) = _) ?_
  simp
def cmpI (a b : Int) : Int := if a < b then -1 else if b < a then 1 else 0
noncomputable abbrev fCmpI : Func := Tryz.f59
noncomputable def cCmpI : Code := fCmpI.body.getD .skip
theorem cmpI_spec (a b : Int) : FSpec PP 59 [di a, di b] σ0 (di (cmpI a b)) σ0 := by
  refine spec_vc mixed fCmpI cCmpI (by kernel_rfl) (by kernel_rfl) (by kernel_rfl) (by kernel_rfl) 20 (by kernel_rfl) [] (.c (db false) <| .c (db false) <| .k <| .k <| .b .r <| .b .r .r) ?_
  refine via (by kernel_rfl : (FSpec PP 91 [di a] (St.mk [] []) (db false) (St.mk [] []) ∧ FSpec PP 91 [di b] (St.mk [] []) (db false) (St.mk [] []) ∧ (decide (a < b) = true → di (-1) = di (cmpI a b)) ∧ (decide (a < b) = false → (decide (a > b) = true → di 1 = di (cmpI a b)) ∧ (decide (a > b) = false → di 0 = di (cmpI a b)))) = _) ?_
  refine ⟨nan_spec a, nan_spec b, fun h => ?_, fun h => ⟨fun h1 => ?_, fun h1 => ?_⟩⟩ <;> simp_all [cmpI] <;> omega
def orM : List Int → Int
  | [] => 0
  | x :: l => if x = 0 then orM l else x
noncomputable abbrev fOr : Func := Tryz.f58
noncomputable def cOr : Code := fOr.body.getD .skip
theorem or_loop (l : List Int) (hl : l.length ≤ 1000000) (n : Nat) : ∀ k : Nat, l.length - k = n →
    Rn PP fOr 0 (di (orM (l.drop k))) σ0 ([.lp (sub cOr [1, 1, 0, 1, 0, 0]), .blk 0, .code (sub cOr [1, 1, 1])] ++ []) (mkE 18 [(3, di 0), (6, dl (l.map vi)), (7, di l.length), (8, di k)]) σ0 := by
  induction n using Nat.strongRecOn with
  | _ n ih =>
  intro k hn
  refine loop_vc mixed 18 [] (.b (.e fun x : Int => .x (vi x) <| .b .r (.l [ke 3, ke 6, ke 7, ch 8 (di (k + 1 : Nat))])) .r) ?_
  refine via (by kernel_rfl : ((decide ((↑k : Int) < (↑(List.length l) : Int)) = true → ∃ a, 0 ≤ (↑k : Int) ∧ (List.map vi l)[Int.toNat (↑k : Int)]? = some (vi a) ∧ ((a != 0) = true → di a = di (orM (List.drop k l))) ∧ ((a != 0) = false → di (IntKind.wrap IntKind.i64 ((↑k : Int) + 1)) = di (↑(k + 1) : Int) ∧ Nv.It (RunC (CN 0) PP (fun env σ1 => ResOK PP fOr env σ1 (di (orM (List.drop k l))) σ0) [KI.lp (sub cOr [1, 1, 0, 1, 0, 0]), KI.blk 0, KI.code (sub cOr [1, 1, 1])] (mkE 18 [(3, di 0), (6, D.v (V.list (List.map vi l))), (7, di (↑(List.length l) : Int)), (8, di (↑(k + 1) : Int))]) σ0))) ∧ (decide ((↑k : Int) < (↑(List.length l) : Int)) = false → di 0 = di (orM (List.drop k l)))) = _) ?_
  refine ⟨fun h => ?_, fun h => ?_⟩
  · have hk : k < l.length := by simpa using h
    have hx : l[k]? = some l[k] := List.getElem?_eq_getElem hk
    rw [List.drop_eq_getElem_cons hk]
    generalize l[k] = x at hx ⊢
    refine ⟨x, by omega, idx_some hx, fun hf => ?_, fun hf => ⟨wrap_succ (by omega), ⟨?_⟩⟩⟩
    · have : x ≠ 0 := by simpa using hf
      simp [orM, this]
    · have : x = 0 := by simpa using hf
      subst this
      exact ih (l.length - (k + 1)) (by omega) (k + 1) rfl
  · have hk : l.length ≤ k := by simpa using h
    rw [List.drop_of_length_le hk]; rfl
theorem or_spec (l : List Int) (hl : l.length ≤ 1000000) : FSpec PP 58 [dl (l.map vi)] σ0 (di (orM l)) σ0 := by
  refine spec_vc mixed fOr cOr (by kernel_rfl) (by kernel_rfl) (by kernel_rfl) (by kernel_rfl) 18 (by kernel_rfl) [] (.l [ke 3, ke 6, ch 7 (di l.length), ch 8 (di (0 : Nat))]) ?_
  refine via (by kernel_rfl : (di (↑(List.length (List.map vi l)) : Int) = di (↑(List.length l) : Int) ∧ di 0 = di (↑0 : Int) ∧ Nv.It (RunC (CN (List.length σ0.H)) PP (fun env σ1 => ResOK PP fOr env σ1 (di (orM l)) σ0) [KI.lp (sub cOr [1, 1, 0, 1, 0, 0]), KI.blk 0, KI.code (sub cOr [1, 1, 1])] (mkE 18 [(3, di 0), (6, dl (List.map vi l)), (7, di (↑(List.length l) : Int)), (8, di (↑0 : Int))]) σ0)) = _) ?_
  refine ⟨by simp, rfl, ⟨?_⟩⟩
  exact or_loop l hl _ 0 rfl

/- COMPARING LISTS -/
def cmpL {α : Type} (c : α → α → Int) : List α → List α → Int
  | [], [] => 0
  | [], _ :: _ => -1
  | _ :: _, [] => 1
  | x :: a, y :: b => if c x y = 0 then cmpL c a b else c x y
noncomputable abbrev fCmpVs : Func := Tryz.f60
noncomputable def cCmpVs : Code := fCmpVs.body.getD .skip
theorem cmpVs_loop (F : FuncId) (fs cs : List V) (c : Val → Val → Int) (a b : List Val) (ha : a.length ≤ 1000000) (hf : ∀ x ∈ a, ∀ y ∈ b, FSpec PP F ((fs ++ [vVal x, vVal y] ++ cs).map .v) σ0 (di (c x y)) σ0) (n : Nat) : ∀ k : Nat, a.length - k = n → k ≤ b.length → k ≤ a.length →
    Rn PP fCmpVs 0 (di (cmpL c (a.drop k) (b.drop k))) σ0 ([.lp (sub cCmpVs [1, 0, 1, 0, 0]), .blk 0, .code (sub cCmpVs [1, 1])] ++ []) (mkE 39 [(0, dVs a), (1, dVs b), (2, .v (.fn F fs cs)), (11, dVs a), (12, di a.length), (13, di k)]) σ0 := by
  induction n using Nat.strongRecOn with
  | _ n ih =>
  intro k hn hkb hka
  refine loop_vc mixed 39 [] (.b (.e fun x : Val => .x (vVal x) <| .b .r <| .e fun y : Val => .x (vVal y) <| .c (di (c x y)) <| .b .r (.ls [ke 0, ke 1, ke 2, ke 11, ke 12, ch 13 (di (k + 1 : Nat))] σ0)) (.b .r .r)) ?_
  refine via (by kernel_rfl : ((decide ((↑k : Int) < (↑(List.length a) : Int)) = true → ∃ a_2, 0 ≤ (↑k : Int) ∧ (List.map eV a)[Int.toNat (↑k : Int)]? = some (vVal a_2) ∧ (decide ((↑k : Int) ≥ (↑(List.length (List.map eV b)) : Int)) = true → di 1 = di (cmpL c (List.drop k a) (List.drop k b))) ∧ (decide ((↑k : Int) ≥ (↑(List.length (List.map eV b)) : Int)) = false → ∃ a_4, 0 ≤ (↑k : Int) ∧ (List.map eV b)[Int.toNat (↑k : Int)]? = some (vVal a_4) ∧ FSpec PP F (List.map D.v (fs ++ [V.agg [vi (Val.n a_2), vVs (Val.kids a_2)], V.agg [vi (Val.n a_4), vVs (Val.kids a_4)]] ++ cs)) (St.mk [] []) (di (c a_2 a_4)) (St.mk [] []) ∧ ((c a_2 a_4 != 0) = true → di (c a_2 a_4) = di (cmpL c (List.drop k a) (List.drop k b))) ∧ ((c a_2 a_4 != 0) = false → di (IntKind.wrap IntKind.i64 ((↑k : Int) + 1)) = di (↑(k + 1) : Int) ∧ Nv.It (RunC (CN 0) PP (fun env σ1 => ResOK PP fCmpVs env σ1 (di (cmpL c (List.drop k a) (List.drop k b))) σ0) [KI.lp (sub cCmpVs [1, 0, 1, 0, 0]), KI.blk 0, KI.code (sub cCmpVs [1, 1])] (mkE 39 [(0, D.v (vVs a)), (1, D.v (vVs b)), (2, D.v (V.fn F fs cs)), (11, D.v (vVs a)), (12, di (↑(List.length a) : Int)), (13, di (↑(k + 1) : Int))]) σ0)))) ∧ (decide ((↑k : Int) < (↑(List.length a) : Int)) = false → (decide ((↑(List.length (List.map eV a)) : Int) < (↑(List.length (List.map eV b)) : Int)) = true → di (-1) = di (cmpL c (List.drop k a) (List.drop k b))) ∧ (decide ((↑(List.length (List.map eV a)) : Int) < (↑(List.length (List.map eV b)) : Int)) = false → di 0 = di (cmpL c (List.drop k a) (List.drop k b))))) = _) ?_
  refine ⟨fun h => ?_, fun h => ?_⟩
  · have hk : k < a.length := by simpa using h
    have hx : a[k]? = some a[k] := List.getElem?_eq_getElem hk
    rw [List.drop_eq_getElem_cons hk]
    generalize a[k] = x at hx ⊢
    refine ⟨x, by omega, idx_val hx, fun h1 => ?_, fun h1 => ?_⟩
    · have : b.drop k = [] := List.drop_of_length_le (by simpa using h1)
      rw [this]; rfl
    · have hk2 : k < b.length := by simpa using h1
      have hy : b[k]? = some b[k] := List.getElem?_eq_getElem hk2
      rw [List.drop_eq_getElem_cons hk2]
      generalize b[k] = y at hy ⊢
      refine ⟨y, by omega, idx_val hy, hf x (List.mem_of_getElem? hx) y (List.mem_of_getElem? hy), fun h2 => ?_, fun h2 => ⟨wrap_succ (by omega), ⟨?_⟩⟩⟩
      · have : c x y ≠ 0 := by simpa using h2
        simp [cmpL, this]
      · have : c x y = 0 := by simpa using h2
        simp only [cmpL, this, if_true]
        exact ih (a.length - (k + 1)) (by omega) (k + 1) rfl hk2 hk
  · have hk : k = a.length := by have : a.length ≤ k := by simpa using h
                                 omega
    subst hk
    rw [List.drop_length]
    refine ⟨fun h1 => ?_, fun h1 => ?_⟩
    · have h1 : a.length < b.length := by simpa using h1
      rw [List.drop_eq_getElem_cons h1]; rfl
    · have h1 : b.length ≤ a.length := by simpa using h1
      rw [List.drop_of_length_le h1]; rfl
theorem cmpVs_spec (F : FuncId) (fs cs : List V) (c : Val → Val → Int) (a b : List Val) (ha : a.length ≤ 1000000) (hf : ∀ x ∈ a, ∀ y ∈ b, FSpec PP F ((fs ++ [vVal x, vVal y] ++ cs).map .v) σ0 (di (c x y)) σ0) :
    FSpec PP 60 [dVs a, dVs b, .v (.fn F fs cs)] σ0 (di (cmpL c a b)) σ0 := by
  refine spec_vc mixed fCmpVs cCmpVs (by kernel_rfl) (by kernel_rfl) (by kernel_rfl) (by kernel_rfl) 39 (by kernel_rfl) [] (.l [ke 0, ke 1, ke 2, ke 11, ch 12 (di a.length), ch 13 (di (0 : Nat))]) ?_
  refine via (by kernel_rfl : (di (↑(List.length (List.map eV a)) : Int) = di (↑(List.length a) : Int) ∧ di 0 = di (↑0 : Int) ∧ Nv.It (RunC (CN (List.length σ0.H)) PP (fun env σ1 => ResOK PP fCmpVs env σ1 (di (cmpL c a b)) σ0) [KI.lp (sub cCmpVs [1, 0, 1, 0, 0]), KI.blk 0, KI.code (sub cCmpVs [1, 1])] (mkE 39 [(0, dVs a), (1, dVs b), (2, D.v (V.fn F fs cs)), (11, dVs a), (12, di (↑(List.length a) : Int)), (13, di (↑0 : Int))]) σ0)) = _) ?_
  refine ⟨by simp, rfl, ⟨?_⟩⟩
  exact cmpVs_loop F fs cs c a b ha hf _ 0 rfl (by omega) (by omega)
/- COMPARING VALUES -/
mutual
def cmpV : Val → Val → Int
  | .mk n ks, .mk m ls => if cmpI n m = 0 then (if cmpI ks.length ls.length = 0 then cmpVl ks ls else cmpI ks.length ls.length) else cmpI n m
def cmpVl : List Val → List Val → Int
  | [], [] => 0
  | [], _ :: _ => -1
  | _ :: _, [] => 1
  | x :: a, y :: b => if cmpV x y = 0 then cmpVl a b else cmpV x y
end
theorem cmpVl_eq : ∀ a b : List Val, cmpVl a b = cmpL cmpV a b
  | [], [] => rfl
  | [], _ :: _ => rfl
  | _ :: _, [] => rfl
  | x :: a, y :: b => by simp only [cmpVl, cmpL, cmpVl_eq a b]
theorem or3 (x y z : Int) : (if x = 0 then (if y = 0 then z else y) else x) = orM [x, y, z] := by
  simp only [orM]
  by_cases h1 : x = 0 <;> by_cases h2 : y = 0 <;> by_cases h3 : z = 0 <;> simp_all
theorem cmpV_or (a b : Val) : cmpV a b = orM [cmpI a.n b.n, cmpI a.kids.length b.kids.length, cmpL cmpV a.kids b.kids] := by
  cases a; cases b
  rw [cmpV, cmpVl_eq]
  exact or3 _ _ _
noncomputable abbrev fCmpV : Func := Tryz.f39
noncomputable def cCmpV : Code := fCmpV.body.getD .skip
theorem cmpV_spec (N : Nat) : ∀ a b : Val, a.size ≤ N → a.size ≤ 1000000 → FSpec PP 39 [dV a, dV b] σ0 (di (cmpV a b)) σ0 := by
  induction N with
  | zero => intro a b h; have := a.size_pos; omega
  | succ N ih =>
  intro a b ha hb
  refine spec_vc mixed fCmpV cCmpV (by kernel_rfl) (by kernel_rfl) (by kernel_rfl) (by kernel_rfl) 24 (by kernel_rfl) [2, 3] (.c (di (cmpI a.n b.n)) <| .c (di (cmpI a.kids.length b.kids.length)) <| .c (di (cmpL cmpV a.kids b.kids)) <| .c (di (cmpV a b)) .r) ?_
  refine via (by kernel_rfl : (FSpec PP 59 [di (Val.n a), di (Val.n b)] (St.mk [] []) (di (cmpI (Val.n a) (Val.n b))) (St.mk [] []) ∧ FSpec PP 59 [di (↑(List.length (List.map eV (Val.kids a))) : Int), di (↑(List.length (List.map eV (Val.kids b))) : Int)] (St.mk [] []) (di (cmpI (↑(List.length (Val.kids a)) : Int) (↑(List.length (Val.kids b)) : Int))) (St.mk [] []) ∧ FSpec PP 60 [D.v (vVs (Val.kids a)), D.v (vVs (Val.kids b)), D.v (V.fn 39 [] [])] (St.mk [] []) (di (cmpL cmpV (Val.kids a) (Val.kids b))) (St.mk [] []) ∧ FSpec PP 58 [D.v (V.list [vi (cmpI (Val.n a) (Val.n b)), vi (cmpI (↑(List.length (Val.kids a)) : Int) (↑(List.length (Val.kids b)) : Int)), vi (cmpL cmpV (Val.kids a) (Val.kids b))])] (St.mk [] []) (di (cmpV a b)) (St.mk [] []) ∧ di (cmpV a b) = di (cmpV a b)) = _) ?_
  have hs := a.size_eq
  have hl := Val.length_le a.kids
  refine ⟨cmpI_spec _ _, by simpa using cmpI_spec _ _, cmpVs_spec _ _ _ cmpV a.kids b.kids (by omega) (fun x hx y hy => ?_), ?_, rfl⟩
  · have := Val.size_mem hx
    exact ih x y (by omega) (by omega)
  · rw [cmpV_or]; exact or_spec [_, _, _] (by simp)
end Go.Proofs.YtopbcpgmffppjaaGreatDoor

namespace Go.Proofs.YtopbcpgmffppjaaGreatDoor
open Go.Dv Go.Nv
set_option maxRecDepth 20000
def ixM {α : Type} (p : α → Bool) : List α → Nat → Int
  | [], _ => -1
  | x :: l, k => if p x then k else ixM p l (k + 1)
theorem ixM_any {α : Type} (p : α → Bool) : ∀ (l : List α) (k : Nat), decide (ixM p l k ≥ 0) = l.any p
  | [], k => by simp [ixM]
  | x :: l, k => by
    simp only [ixM, List.any_cons]
    by_cases h : p x = true
    · simp [h]
    · simp [h, ixM_any p l]

noncomputable abbrev fIxI : Func := Tryz.f93
noncomputable def cIxI : Code := fIxI.body.getD .skip
theorem ixI_loop (F : FuncId) (fs cs : List V) (p : Int → Bool) (l : List (Int)) (hl : l.length ≤ 1000000) (hp : ∀ x ∈ l, FSpec PP F ((fs ++ [vi x] ++ cs).map .v) σ0 (db (p x)) σ0) (n : Nat) : ∀ k : Nat, l.length - k = n →
    Rn PP fIxI 0 (di (ixM p (l.drop k) k)) σ0 ([.lp (sub cIxI [1, 0, 1, 0, 0]), .blk 0, .code (sub cIxI [1, 1])] ++ []) (mkE 19 [(0, dl (l.map vi)), (1, .v (.fn F fs cs)), (7, di l.length), (8, di k)]) σ0 := by
  induction n using Nat.strongRecOn with
  | _ n ih =>
  intro k hn
  refine loop_vc mixed 19 [] (.b (.e fun x : Int => .x (vi x) <| .c (db (p x)) <| .b .r (.l [ke 0, ke 1, ke 7, ch 8 (di (k + 1 : Nat))])) .r) ?_
  refine via (by kernel_rfl : ((decide ((↑k : Int) < (↑(List.length l) : Int)) = true → ∃ a, 0 ≤ (↑k : Int) ∧ (List.map vi l)[Int.toNat (↑k : Int)]? = some (vi a) ∧ FSpec PP F (List.map D.v (fs ++ [vi a] ++ cs)) (St.mk [] []) (db (p a)) (St.mk [] []) ∧ (p a = true → di (↑k : Int) = di (ixM p (List.drop k l) k)) ∧ (p a = false → di (IntKind.wrap IntKind.i64 ((↑k : Int) + 1)) = di (↑(k + 1) : Int) ∧ Nv.It (RunC (CN 0) PP (fun env σ1 => ResOK PP fIxI env σ1 (di (ixM p (List.drop k l) k)) σ0) [KI.lp (sub cIxI [1, 0, 1, 0, 0]), KI.blk 0, KI.code (sub cIxI [1, 1])] (mkE 19 [(0, D.v (V.list (List.map vi l))), (1, D.v (V.fn F fs cs)), (7, di (↑(List.length l) : Int)), (8, di (↑(k + 1) : Int))]) σ0))) ∧ (decide ((↑k : Int) < (↑(List.length l) : Int)) = false → di (-1) = di (ixM p (List.drop k l) k))) = _) ?_
  refine ⟨fun h => ?_, fun h => ?_⟩
  · have hk : k < l.length := by simpa using h
    have hx : l[k]? = some l[k] := List.getElem?_eq_getElem hk
    rw [List.drop_eq_getElem_cons hk]
    generalize l[k] = x at hx ⊢
    refine ⟨x, by omega, idx_some hx, hp x (List.mem_of_getElem? hx), fun hf => by simp [ixM, hf], fun hf => ⟨wrap_succ (by omega), ⟨?_⟩⟩⟩
    simp only [ixM, hf]
    exact ih (l.length - (k + 1)) (by omega) (k + 1) rfl
  · have hk : l.length ≤ k := by simpa using h
    rw [List.drop_of_length_le hk]; rfl
theorem ixI_spec (F : FuncId) (fs cs : List V) (p : Int → Bool) (l : List (Int)) (hl : l.length ≤ 1000000) (hp : ∀ x ∈ l, FSpec PP F ((fs ++ [vi x] ++ cs).map .v) σ0 (db (p x)) σ0) :
    FSpec PP 93 [dl (l.map vi), .v (.fn F fs cs)] σ0 (di (ixM p l 0)) σ0 := by
  refine spec_vc mixed fIxI cIxI (by kernel_rfl) (by kernel_rfl) (by kernel_rfl) (by kernel_rfl) 19 (by kernel_rfl) [] (.l [ke 0, ke 1, ch 7 (di l.length), ch 8 (di (0 : Nat))]) ?_
  refine via (by kernel_rfl : (di (↑(List.length (List.map vi l)) : Int) = di (↑(List.length l) : Int) ∧ di 0 = di (↑0 : Int) ∧ Nv.It (RunC (CN (List.length σ0.H)) PP (fun env σ1 => ResOK PP fIxI env σ1 (di (ixM p l 0)) σ0) [KI.lp (sub cIxI [1, 0, 1, 0, 0]), KI.blk 0, KI.code (sub cIxI [1, 1])] (mkE 19 [(0, dl (List.map vi l)), (1, D.v (V.fn F fs cs)), (7, di (↑(List.length l) : Int)), (8, di (↑0 : Int))]) σ0)) = _) ?_
  refine ⟨by simp, rfl, ⟨?_⟩⟩
  exact ixI_loop F fs cs p l hl hp _ 0 rfl

noncomputable abbrev fHasI : Func := Tryz.f65
noncomputable def cHasI : Code := fHasI.body.getD .skip
theorem hasI_spec (F : FuncId) (fs cs : List V) (p : Int → Bool) (l : List (Int)) (hl : l.length ≤ 1000000) (hp : ∀ x ∈ l, FSpec PP F ((fs ++ [vi x] ++ cs).map .v) σ0 (db (p x)) σ0) :
    FSpec PP 65 [dl (l.map vi), .v (.fn F fs cs)] σ0 (db (l.any p)) σ0 := by
  refine spec_vc mixed fHasI cHasI (by kernel_rfl) (by kernel_rfl) (by kernel_rfl) (by kernel_rfl) 9 (by kernel_rfl) [] (.c (di (ixM p l 0)) .r) ?_
  refine via (by kernel_rfl : (FSpec PP 93 [D.v (V.list (List.map vi l)), D.v (V.fn F fs cs)] (St.mk [] []) (di (ixM p l 0)) (St.mk [] []) ∧ db (decide (ixM p l 0 ≥ 0)) = db (List.any l p)) = _) ?_
  exact ⟨ixI_spec F fs cs p l hl hp, by rw [← ixM_any]⟩

noncomputable abbrev fIxV : Func := Tryz.f133
noncomputable def cIxV : Code := fIxV.body.getD .skip
theorem ixV_loop (F : FuncId) (fs cs : List V) (p : Val → Bool) (l : List (Val)) (hl : l.length ≤ 1000000) (hp : ∀ x ∈ l, FSpec PP F ((fs ++ [vVal x] ++ cs).map .v) σ0 (db (p x)) σ0) (n : Nat) : ∀ k : Nat, l.length - k = n →
    Rn PP fIxV 0 (di (ixM p (l.drop k) k)) σ0 ([.lp (sub cIxV [1, 0, 1, 0, 0]), .blk 0, .code (sub cIxV [1, 1])] ++ []) (mkE 19 [(0, dl (l.map eV)), (1, .v (.fn F fs cs)), (7, di l.length), (8, di k)]) σ0 := by
  induction n using Nat.strongRecOn with
  | _ n ih =>
  intro k hn
  refine loop_vc mixed 19 [] (.b (.e fun x : Val => .x (vVal x) <| .c (db (p x)) <| .b .r (.l [ke 0, ke 1, ke 7, ch 8 (di (k + 1 : Nat))])) .r) ?_
  refine via (by kernel_rfl : ((decide ((↑k : Int) < (↑(List.length l) : Int)) = true → ∃ a, 0 ≤ (↑k : Int) ∧ (List.map eV l)[Int.toNat (↑k : Int)]? = some (vVal a) ∧ FSpec PP F (List.map D.v (fs ++ [vVal a] ++ cs)) (St.mk [] []) (db (p a)) (St.mk [] []) ∧ (p a = true → di (↑k : Int) = di (ixM p (List.drop k l) k)) ∧ (p a = false → di (IntKind.wrap IntKind.i64 ((↑k : Int) + 1)) = di (↑(k + 1) : Int) ∧ Nv.It (RunC (CN 0) PP (fun env σ1 => ResOK PP fIxV env σ1 (di (ixM p (List.drop k l) k)) σ0) [KI.lp (sub cIxV [1, 0, 1, 0, 0]), KI.blk 0, KI.code (sub cIxV [1, 1])] (mkE 19 [(0, D.v (V.list (List.map eV l))), (1, D.v (V.fn F fs cs)), (7, di (↑(List.length l) : Int)), (8, di (↑(k + 1) : Int))]) σ0))) ∧ (decide ((↑k : Int) < (↑(List.length l) : Int)) = false → di (-1) = di (ixM p (List.drop k l) k))) = _) ?_
  refine ⟨fun h => ?_, fun h => ?_⟩
  · have hk : k < l.length := by simpa using h
    have hx : l[k]? = some l[k] := List.getElem?_eq_getElem hk
    rw [List.drop_eq_getElem_cons hk]
    generalize l[k] = x at hx ⊢
    refine ⟨x, by omega, idx_val hx, hp x (List.mem_of_getElem? hx), fun hf => by simp [ixM, hf], fun hf => ⟨wrap_succ (by omega), ⟨?_⟩⟩⟩
    simp only [ixM, hf]
    exact ih (l.length - (k + 1)) (by omega) (k + 1) rfl
  · have hk : l.length ≤ k := by simpa using h
    rw [List.drop_of_length_le hk]; rfl
theorem ixV_spec (F : FuncId) (fs cs : List V) (p : Val → Bool) (l : List (Val)) (hl : l.length ≤ 1000000) (hp : ∀ x ∈ l, FSpec PP F ((fs ++ [vVal x] ++ cs).map .v) σ0 (db (p x)) σ0) :
    FSpec PP 133 [dl (l.map eV), .v (.fn F fs cs)] σ0 (di (ixM p l 0)) σ0 := by
  refine spec_vc mixed fIxV cIxV (by kernel_rfl) (by kernel_rfl) (by kernel_rfl) (by kernel_rfl) 19 (by kernel_rfl) [] (.l [ke 0, ke 1, ch 7 (di l.length), ch 8 (di (0 : Nat))]) ?_
  refine via (by kernel_rfl : (di (↑(List.length (List.map eV l)) : Int) = di (↑(List.length l) : Int) ∧ di 0 = di (↑0 : Int) ∧ Nv.It (RunC (CN (List.length σ0.H)) PP (fun env σ1 => ResOK PP fIxV env σ1 (di (ixM p l 0)) σ0) [KI.lp (sub cIxV [1, 0, 1, 0, 0]), KI.blk 0, KI.code (sub cIxV [1, 1])] (mkE 19 [(0, dl (List.map eV l)), (1, D.v (V.fn F fs cs)), (7, di (↑(List.length l) : Int)), (8, di (↑0 : Int))]) σ0)) = _) ?_
  refine ⟨by simp, rfl, ⟨?_⟩⟩
  exact ixV_loop F fs cs p l hl hp _ 0 rfl

noncomputable abbrev fHasV : Func := Tryz.f114
noncomputable def cHasV : Code := fHasV.body.getD .skip
theorem hasV_spec (F : FuncId) (fs cs : List V) (p : Val → Bool) (l : List (Val)) (hl : l.length ≤ 1000000) (hp : ∀ x ∈ l, FSpec PP F ((fs ++ [vVal x] ++ cs).map .v) σ0 (db (p x)) σ0) :
    FSpec PP 114 [dl (l.map eV), .v (.fn F fs cs)] σ0 (db (l.any p)) σ0 := by
  refine spec_vc mixed fHasV cHasV (by kernel_rfl) (by kernel_rfl) (by kernel_rfl) (by kernel_rfl) 9 (by kernel_rfl) [] (.c (di (ixM p l 0)) .r) ?_
  refine via (by kernel_rfl : (FSpec PP 133 [D.v (V.list (List.map eV l)), D.v (V.fn F fs cs)] (St.mk [] []) (di (ixM p l 0)) (St.mk [] []) ∧ db (decide (ixM p l 0 ≥ 0)) = db (List.any l p)) = _) ?_
  exact ⟨ixV_spec F fs cs p l hl hp, by rw [← ixM_any]⟩

noncomputable abbrev fEqI : Func := Tryz.f107
noncomputable def cEqI : Code := fEqI.body.getD .skip
theorem eqI_loop (a b : List (Int)) (ha : a.length ≤ 1000000) (hab : a.length = b.length) (n : Nat) : ∀ k : Nat, a.length - k = n →
    Rn PP fEqI 0 (db (decide (a.drop k = b.drop k))) σ0 ([.lp (sub cEqI [1, 1, 0, 1, 0, 0]), .blk 0, .code (sub cEqI [1, 1, 1])] ++ []) (mkE 26 [(0, dl (a.map vi)), (1, dl (b.map vi)), (12, di a.length), (13, di k)]) σ0 := by
  induction n using Nat.strongRecOn with
  | _ n ih =>
  intro k hn
  refine loop_vc mixed 26 [] (.b (.e fun x : Int => .x (vi x) <| .e fun y : Int => .x (vi y) <| .b .r (.l [ke 0, ke 1, ke 12, ch 13 (di (k + 1 : Nat))])) .r) ?_
  refine via (by kernel_rfl : ((decide ((↑k : Int) < (↑(List.length a) : Int)) = true → ∃ a_2, 0 ≤ (↑k : Int) ∧ (List.map vi a)[Int.toNat (↑k : Int)]? = some (vi a_2) ∧ ∃ a_3, 0 ≤ (↑k : Int) ∧ (List.map vi b)[Int.toNat (↑k : Int)]? = some (vi a_3) ∧ ((a_2 != a_3) = true → db false = db (decide (List.drop k a = List.drop k b))) ∧ ((a_2 != a_3) = false → di (IntKind.wrap IntKind.i64 ((↑k : Int) + 1)) = di (↑(k + 1) : Int) ∧ Nv.It (RunC (CN 0) PP (fun env σ1 => ResOK PP fEqI env σ1 (db (decide (List.drop k a = List.drop k b))) σ0) [KI.lp (sub cEqI [1, 1, 0, 1, 0, 0]), KI.blk 0, KI.code (sub cEqI [1, 1, 1])] (mkE 26 [(0, D.v (V.list (List.map vi a))), (1, D.v (V.list (List.map vi b))), (12, di (↑(List.length a) : Int)), (13, di (↑(k + 1) : Int))]) (St.mk [] [])))) ∧ (decide ((↑k : Int) < (↑(List.length a) : Int)) = false → db true = db (decide (List.drop k a = List.drop k b)))) = _) ?_
  refine ⟨fun h => ?_, fun h => ?_⟩
  · have hk : k < a.length := by simpa using h
    have hk2 : k < b.length := by omega
    have hx : a[k]? = some a[k] := List.getElem?_eq_getElem hk
    have hy : b[k]? = some b[k] := List.getElem?_eq_getElem hk2
    rw [List.drop_eq_getElem_cons hk, List.drop_eq_getElem_cons hk2]
    generalize a[k] = x at hx ⊢
    generalize b[k] = y at hy ⊢
    refine ⟨x, by omega, idx_some hx, y, by omega, idx_some hy, fun hf => ?_, fun hf => ⟨wrap_succ (by omega), ⟨?_⟩⟩⟩
    · have : x ≠ y := by simpa using hf
      simp [this]
    · have : x = y := by simpa using hf
      subst this
      simpa using ih (a.length - (k + 1)) (by omega) (k + 1) rfl
  · have hk : a.length ≤ k := by simpa using h
    rw [List.drop_of_length_le hk, List.drop_of_length_le (by omega)]; simp
theorem eqI_spec (a b : List (Int)) (ha : a.length ≤ 1000000) : FSpec PP 107 [dl (a.map vi), dl (b.map vi)] σ0 (db (decide (a = b))) σ0 := by
  refine spec_vc mixed fEqI cEqI (by kernel_rfl) (by kernel_rfl) (by kernel_rfl) (by kernel_rfl) 26 (by kernel_rfl) [] (.b .r (.l [ke 0, ke 1, ch 12 (di a.length), ch 13 (di (0 : Nat))])) ?_
  refine via (by kernel_rfl : ((((↑(List.length (List.map vi a)) : Int) != (↑(List.length (List.map vi b)) : Int)) = true → db false = db (decide (a = b))) ∧ (((↑(List.length (List.map vi a)) : Int) != (↑(List.length (List.map vi b)) : Int)) = false → di (↑(List.length (List.map vi a)) : Int) = di (↑(List.length a) : Int) ∧ di 0 = di (↑0 : Int) ∧ Nv.It (RunC (CN (List.length σ0.H)) PP (fun env σ1 => ResOK PP fEqI env σ1 (db (decide (a = b))) σ0) [KI.lp (sub cEqI [1, 1, 0, 1, 0, 0]), KI.blk 0, KI.code (sub cEqI [1, 1, 1])] (mkE 26 [(0, dl (List.map vi a)), (1, dl (List.map vi b)), (12, di (↑(List.length a) : Int)), (13, di (↑0 : Int))]) σ0))) = _) ?_
  refine ⟨fun h => ?_, fun h => ⟨by simp, rfl, ⟨?_⟩⟩⟩
  · have h : a.length ≠ b.length := by simp at h; omega
    rw [decide_eq_false fun e => h (by rw [e])]
  · exact eqI_loop a b ha (by simp at h; omega) _ 0 rfl

theorem flat_take {α : Type} {ls : List (List α)} {k : Nat} (hk : k < ls.length) : (ls.take (k + 1)).flatten = (ls.take k).flatten ++ ls[k] := by
  rw [List.take_succ_eq_append_getElem hk, List.flatten_append]; simp
theorem flat_le {α : Type} (ls : List (List α)) (k : Nat) : (ls.take k).flatten.length ≤ ls.flatten.length := by
  have := congrArg (fun l => l.flatten.length) (List.take_append_drop k ls)
  simp only [List.flatten_append, List.length_append] at this
  omega
theorem lenOK2 {α β : Type} {e : α → V} {f : β → V} {a : List α} {b : List β} {by' : Nat} (h : a.length + b.length ≤ 2000000) (hb : by' ≤ 10000) : LenOK ((a.map e).length + (b.map f).length) by' := by
  rw [List.length_map, List.length_map]
  have : (a.length + b.length) * by' ≤ 2000000 * 10000 := Nat.mul_le_mul h hb
  exact ⟨by omega, by omega⟩
end Go.Proofs.YtopbcpgmffppjaaGreatDoor

namespace Go.Proofs.YtopbcpgmffppjaaGreatDoor
open Go.Dv Go.Nv
set_option maxRecDepth 20000
abbrev vIs (l : List Int) : V := .list (l.map vi)
abbrev dIs (l : List Int) : D := .v (vIs l)
theorem sizes_vi (l : List Int) : ∀ y ∈ l.map vi, y.size = 1 := by simp [V.size]
noncomputable abbrev fCloI : Func := Tryz.f85
noncomputable def cCloI : Code := fCloI.body.getD .skip
theorem cloI_spec (l : List Int) (hl : l.length ≤ 1000000) : FSpec PP 85 [dIs l] σ0 (dIs l) σ0 := by
  by_cases h : l = []
  · subst h
    refine spec_nil (ds := []) (ds' := []) fun a cap => ?_
    cases a with
    | none =>
      refine spec_vc mixed fCloI cCloI (by kernel_rfl) (by kernel_rfl) (by kernel_rfl) (by kernel_rfl) 8 (by kernel_rfl) [] .r ?_
      refine via (by kernel_rfl : (D.v (V.list []) = dIs []) = _) ?_
      rfl
    | some a =>
      refine spec_vc mixed fCloI cCloI (by kernel_rfl) (by kernel_rfl) (by kernel_rfl) (by kernel_rfl) 8 (by kernel_rfl) [] (.a 1 <| .h (.q 3 2) <| .h (.un 6) <| .r) ?_
      refine via (by kernel_rfl : (nV = nV ∧ LenOK 0 8 ∧ D.v (V.list []) = dIs []) = _) ?_
      refine ⟨rfl, ⟨by simp, by simp⟩, ?_⟩
      rfl
  · refine spec_vc mixed fCloI cCloI (by kernel_rfl) (by kernel_rfl) (by kernel_rfl) (by kernel_rfl) 8 (by kernel_rfl) [] (.a 1 <| .w .r) ?_
    refine via (by kernel_rfl : (List.map vi l ≠ [] ∧ nV = nV ∧ LenOK (List.length nV + List.length (List.map vi l)) 8 ∧ (∀ (y : V), y ∈ List.map vi l → V.size y = 1) ∧ D.v (V.list ([] ++ List.map vi l)) = dIs l) = _) ?_
    exact ⟨by simpa using h, rfl, ⟨by simp; omega, by simp; omega⟩, sizes_vi l, rfl⟩
end Go.Proofs.YtopbcpgmffppjaaGreatDoor

namespace Go.Proofs.YtopbcpgmffppjaaGreatDoor
open Go.Dv Go.Nv
set_option maxRecDepth 20000
theorem sizes_vs (l : List (List UInt8)) : ∀ y ∈ l.map V.str, y.size = 1 := by simp [V.size]

noncomputable abbrev fGrS : Func := Tryz.f94
noncomputable def cGrS : Code := fGrS.body.getD .skip
theorem grS_spec (n : Nat) (hn : n ≤ 1000000) : FSpec PP 94 [.v .nils, di n] σ0 (.acc 1 []) ⟨[], [(1, 1, [])]⟩ := by
  have h1 : IntKind.i64.wrap (0 - 0) = 0 := by decide
  by_cases h : n = 0
  · subst h
    refine spec_vc mixed fGrS cGrS (by kernel_rfl) (by kernel_rfl) (by kernel_rfl) (by kernel_rfl) 27 (by kernel_rfl) [] (.f <| .f <| .h (.q 6 0) <| .h (.nw 0 1 1) .r) ?_
    refine via (by kernel_rfl : (decide ((↑0 : Int) < 0) = false ∧ decide (IntKind.wrap IntKind.i64 ((↑0 : Int) - IntKind.wrap IntKind.i64 (0 - 0)) > 0) = false ∧ [(1, 1, nV)] = [(1, 1, nV)] ∧ D.acc 1 [] = D.acc 1 []) = _) ?_
    exact ⟨by decide, by decide, rfl, rfl⟩
  · refine spec_vc mixed fGrS cGrS (by kernel_rfl) (by kernel_rfl) (by kernel_rfl) (by kernel_rfl) 27 (by kernel_rfl) [] (.f <| .t <| .a 1 .r) ?_
    refine via (by kernel_rfl : (decide ((↑n : Int) < 0) = false ∧ decide (IntKind.wrap IntKind.i64 ((↑n : Int) - IntKind.wrap IntKind.i64 (0 - 0)) > 0) = true ∧ iz 0 = 0 ∧ 0 < IntKind.wrap IntKind.i64 ((↑n : Int) - IntKind.wrap IntKind.i64 (0 - 0)) ∧ LenOK (Int.toNat (IntKind.wrap IntKind.i64 ((↑n : Int) - IntKind.wrap IntKind.i64 (0 - 0)))) 16 ∧ iz 0 = 0 ∧ [(1, 1, nV)] = [(1, 1, nV)] ∧ D.acc 1 [] = D.acc 1 []) = _) ?_
    have h2 : IntKind.i64.wrap ((n : Int) - IntKind.i64.wrap (0 - 0)) = n := by rw [h1, wrap_id (by omega) (by omega)]; omega
    rw [h2]
    refine ⟨by simp, by simp; omega, by simp, by omega, ⟨by simp; omega, by simp; omega⟩, by simp, rfl, rfl⟩
noncomputable abbrev fCoS : Func := Tryz.f67
noncomputable def cCoS : Code := fCoS.body.getD .skip
abbrev vLsS (ls : List (List (List UInt8))) : List V := ls.map fun l => .list (l.map V.str)
theorem coSA_loop2 (ls : List (List (List UInt8))) (hl : ls.length ≤ 1000) (ht : ls.flatten.length ≤ 1000000) (n : Nat) : ∀ k : Nat, ls.length - k = n →
    Rn PP fCoS 0 (.acc 1 (ls.flatten.map V.str)) ⟨[], [(1, 1, ls.flatten.map V.str)]⟩ ([.lp (sub cCoS [1, 1, 1, 1, 0, 1, 0, 0]), .blk 2, .code (sub cCoS [1, 1, 1, 1, 1])] ++ []) (mkE 36 [(0, dl (vLsS ls)), (6, .acc 1 ((ls.take k).flatten.map V.str)), (25, dl (vLsS ls)), (26, di ls.length), (27, di k)]) ⟨[], [(1, 1, (ls.take k).flatten.map V.str)]⟩ := by
  induction n using Nat.strongRecOn with
  | _ n ih =>
  intro k hn
  refine loop_vc mixed 36 [] (.b (.e fun x : List (List UInt8) => .x (.list (x.map V.str)) <| .w <| .ls [ke 0, ch 6 (.acc 1 ((ls.take (k + 1)).flatten.map V.str)), ke 25, ke 26, ch 27 (di (k + 1 : Nat))] ⟨[], [(1, 1, (ls.take (k + 1)).flatten.map V.str)]⟩) .r) ?_
  refine via (by kernel_rfl : ((decide ((↑k : Int) < (↑(List.length ls) : Int)) = true → ∃ a, 0 ≤ (↑k : Int) ∧ (vLsS ls)[Int.toNat (↑k : Int)]? = some (V.list (List.map V.str a)) ∧ List.map V.str (List.flatten (List.take k ls)) = List.map V.str (List.flatten (List.take k ls)) ∧ LenOK (List.length (List.map V.str (List.flatten (List.take k ls))) + List.length (List.map V.str a)) 16 ∧ (∀ (y : V), y ∈ List.map V.str a → V.size y = 1) ∧ D.acc 1 (List.map V.str (List.flatten (List.take k ls)) ++ List.map V.str a) = D.acc 1 (List.map V.str (List.flatten (List.take (k + 1) ls))) ∧ di (IntKind.wrap IntKind.i64 ((↑k : Int) + 1)) = di (↑(k + 1) : Int) ∧ [(1, 1, List.map V.str (List.flatten (List.take k ls)) ++ List.map V.str a)] = [(1, 1, List.map V.str (List.flatten (List.take (k + 1) ls)))] ∧ Nv.It (RunC (CN 0) PP (fun env σ1 => ResOK PP fCoS env σ1 (D.acc 1 (List.map V.str (List.flatten ls))) (St.mk [] [(1, 1, List.map V.str (List.flatten ls))])) [KI.lp (sub cCoS [1, 1, 1, 1, 0, 1, 0, 0]), KI.blk 2, KI.code (sub cCoS [1, 1, 1, 1, 1])] (mkE 36 [(0, D.v (V.list (vLsS ls))), (6, D.acc 1 (List.map V.str (List.flatten (List.take (k + 1) ls)))), (25, D.v (V.list (vLsS ls))), (26, di (↑(List.length ls) : Int)), (27, di (↑(k + 1) : Int))]) (St.mk [] [(1, 1, List.map V.str (List.flatten (List.take (k + 1) ls)))]))) ∧ (decide ((↑k : Int) < (↑(List.length ls) : Int)) = false → [(1, 1, List.map V.str (List.flatten (List.take k ls)))] = [(1, 1, List.map V.str (List.flatten ls))] ∧ D.acc 1 (List.map V.str (List.flatten (List.take k ls))) = D.acc 1 (List.map V.str (List.flatten ls)))) = _) ?_
  refine ⟨fun h => ?_, fun h => ?_⟩
  · have hk : k < ls.length := by simpa using h
    have hx : ls[k]? = some ls[k] := List.getElem?_eq_getElem hk
    have hf := flat_take hk
    have hle := flat_le ls (k + 1)
    have hih := ih (ls.length - (k + 1)) (by omega) (k + 1) rfl
    rw [hf] at hle hih ⊢
    generalize ls[k] = x at hx hle hih ⊢
    simp only [List.length_append] at hle
    refine ⟨x, by omega, by simp [hx], rfl, lenOK2 (by omega) (by decide), sizes_vs x, by simp, wrap_succ (by omega), by simp, ⟨hih⟩⟩
  · have hk : ls.length ≤ k := by simpa using h
    rw [List.take_of_length_le hk]; exact ⟨rfl, rfl⟩
theorem coSA_loop1 (ls : List (List (List UInt8))) (hl : ls.length ≤ 1000) (ht : ls.flatten.length ≤ 1000000) (n : Nat) : ∀ k : Nat, ls.length - k = n →
    Rn PP fCoS 0 (.acc 1 (ls.flatten.map V.str)) ⟨[], [(1, 1, ls.flatten.map V.str)]⟩ ([.lp (sub cCoS [1, 1, 0, 1, 0, 0]), .blk 0, .code (sub cCoS [1, 1, 1])] ++ []) (mkE 36 [(0, dl (vLsS ls)), (3, di ((ls.take k).flatten.length : Nat)), (9, dl (vLsS ls)), (10, di ls.length), (11, di k)]) σ0 := by
  induction n using Nat.strongRecOn with
  | _ n ih =>
  intro k hn
  refine loop_vc mixed 36 [] (.b (.e fun x : List (List UInt8) => .x (.list (x.map V.str)) <| .f <| .l [ke 0, ch 3 (di ((ls.take (k + 1)).flatten.length : Nat)), ke 9, ke 10, ch 11 (di (k + 1 : Nat))]) (.h (.ckn 1 1 1 []) <| .ls [ke 0, ch 6 (.acc 1 ((ls.take 0).flatten.map V.str)), ke 25, ch 26 (di ls.length), ch 27 (di (0 : Nat))] ⟨[], [(1, 1, (ls.take 0).flatten.map V.str)]⟩)) ?_
  refine via (by kernel_rfl : ((decide ((↑k : Int) < (↑(List.length ls) : Int)) = true → ∃ a, 0 ≤ (↑k : Int) ∧ (vLsS ls)[Int.toNat (↑k : Int)]? = some (V.list (List.map V.str a)) ∧ decide (IntKind.wrap IntKind.i64 ((↑(List.length (List.flatten (List.take k ls))) : Int) + (↑(List.length (List.map V.str a)) : Int)) < 0) = false ∧ di (IntKind.wrap IntKind.i64 ((↑(List.length (List.flatten (List.take k ls))) : Int) + (↑(List.length (List.map V.str a)) : Int))) = di (↑(List.length (List.flatten (List.take (k + 1) ls))) : Int) ∧ di (IntKind.wrap IntKind.i64 ((↑k : Int) + 1)) = di (↑(k + 1) : Int) ∧ Nv.It (RunC (CN 0) PP (fun env σ1 => ResOK PP fCoS env σ1 (D.acc 1 (List.map V.str (List.flatten ls))) (St.mk [] [(1, 1, List.map V.str (List.flatten ls))])) [KI.lp (sub cCoS [1, 1, 0, 1, 0, 0]), KI.blk 0, KI.code (sub cCoS [1, 1, 1])] (mkE 36 [(0, D.v (V.list (vLsS ls))), (3, di (↑(List.length (List.flatten (List.take (k + 1) ls))) : Int)), (9, D.v (V.list (vLsS ls))), (10, di (↑(List.length ls) : Int)), (11, di (↑(k + 1) : Int))]) σ0)) ∧ (decide ((↑k : Int) < (↑(List.length ls) : Int)) = false → FSpec PP 94 [D.v V.nils, di (↑(List.length (List.flatten (List.take k ls))) : Int)] (St.mk [] []) (D.acc 1 []) (St.mk [] [(1, 1, [])]) ∧ D.acc 1 [] = D.acc 1 [] ∧ di (↑(List.length (vLsS ls)) : Int) = di (↑(List.length ls) : Int) ∧ di 0 = di (↑0 : Int) ∧ [(1, 1, nV)] = [(1, 1, nV)] ∧ Nv.It (RunC (CN 0) PP (fun env σ1 => ResOK PP fCoS env σ1 (D.acc 1 (List.map V.str (List.flatten ls))) (St.mk [] [(1, 1, List.map V.str (List.flatten ls))])) [KI.lp (sub cCoS [1, 1, 1, 1, 0, 1, 0, 0]), KI.blk 2, KI.code (sub cCoS [1, 1, 1, 1, 1])] (mkE 36 [(0, D.v (V.list (vLsS ls))), (6, D.acc 1 []), (25, D.v (V.list (vLsS ls))), (26, di (↑(List.length ls) : Int)), (27, di (↑0 : Int))]) (St.mk [] [(1, 1, [])])))) = _) ?_
  refine ⟨fun h => ?_, fun h => ?_⟩
  · have hk : k < ls.length := by simpa using h
    have hx : ls[k]? = some ls[k] := List.getElem?_eq_getElem hk
    have hf := congrArg List.length (flat_take hk)
    rw [List.length_append] at hf
    have hle := flat_le ls (k + 1)
    generalize ls[k] = x at hx hf ⊢
    have h2 : IntKind.i64.wrap ((((ls.take k).flatten.length : Nat) : Int) + ((x.map V.str).length : Int)) = (((ls.take (k + 1)).flatten.length : Nat) : Int) := by rw [wrap_id (by simp only [List.length_map]; omega) (by simp only [List.length_map]; omega), hf]; simp
    refine ⟨x, by omega, by simp [hx], by rw [h2]; simp, by rw [h2], wrap_succ (by omega), ⟨?_⟩⟩
    exact ih (ls.length - (k + 1)) (by omega) (k + 1) rfl
  · have hk : ls.length ≤ k := by simpa using h
    rw [List.take_of_length_le hk]
    refine ⟨grS_spec ls.flatten.length ht, rfl, by simp, rfl, rfl, ⟨?_⟩⟩
    exact coSA_loop2 ls hl ht _ 0 rfl
theorem coSA_spec (ls : List (List (List UInt8))) (hl : ls.length ≤ 1000) (ht : ls.flatten.length ≤ 1000000) : FSpec PP 67 [dl (vLsS ls)] σ0 (.acc 1 (ls.flatten.map V.str)) ⟨[], [(1, 1, ls.flatten.map V.str)]⟩ := by
  refine spec_vc mixed fCoS cCoS (by kernel_rfl) (by kernel_rfl) (by kernel_rfl) (by kernel_rfl) 36 (by kernel_rfl) [] (.l [ke 0, ch 3 (di ((ls.take 0).flatten.length : Nat)), ke 9, ch 10 (di ls.length), ch 11 (di (0 : Nat))]) ?_
  refine via (by kernel_rfl : (di 0 = di (↑(List.length (List.flatten (List.take 0 ls))) : Int) ∧ di (↑(List.length (vLsS ls)) : Int) = di (↑(List.length ls) : Int) ∧ di 0 = di (↑0 : Int) ∧ Nv.It (RunC (CN (List.length σ0.H)) PP (fun env σ1 => ResOK PP fCoS env σ1 (D.acc 1 (List.map V.str (List.flatten ls))) (St.mk [] [(1, 1, List.map V.str (List.flatten ls))])) [KI.lp (sub cCoS [1, 1, 0, 1, 0, 0]), KI.blk 0, KI.code (sub cCoS [1, 1, 1])] (mkE 36 [(0, dl (vLsS ls)), (3, di (↑(List.length (List.flatten (List.take 0 ls))) : Int)), (9, dl (vLsS ls)), (10, di (↑(List.length ls) : Int)), (11, di (↑0 : Int))]) σ0)) = _) ?_
  refine ⟨rfl, by simp, rfl, ⟨?_⟩⟩
  exact coSA_loop1 ls hl ht _ 0 rfl

end Go.Proofs.YtopbcpgmffppjaaGreatDoor

namespace Go.Proofs.YtopbcpgmffppjaaGreatDoor
open Go.Dv Go.Nv
set_option maxRecDepth 20000

structure Tk where
  place : Int
  low : Int
  high : Int
  deriving DecidableEq, Inhabited
abbrev vTk (t : Tk) : V := .agg [vi t.place, vi t.low, vi t.high]
abbrev vTks (l : List Tk) : V := .list (l.map vTk)
structure Rul where
  name : List UInt8
  frm : Int
  to : Int
  need : List Int
  give : List Int
  move : List Int
  chan : Int
  act : Int
  letter : Int
  path : List Int
  next : List Int
  takes : List Tk
  makes : List Int
  second : Int
  deriving DecidableEq, Inhabited
abbrev vRul (r : Rul) : V := .agg [.str r.name, vi r.frm, vi r.to, vIs r.need, vIs r.give, vIs r.move, vi r.chan, vi r.act, vi r.letter, vIs r.path, vIs r.next, vTks r.takes, vIs r.makes, vi r.second]
abbrev vRuls (l : List Rul) : V := .list (l.map vRul)
abbrev vSs (l : List (List UInt8)) : V := .list (l.map V.str)
structure Mod where
  kind : Int
  states : List (List UInt8)
  places : List (List UInt8)
  letters : List (List UInt8)
  ranks : List Int
  levels : Int
  age : Int
  rules : List Rul
  start : Val
  deriving Inhabited
abbrev vMod (m : Mod) : V := .agg [vi m.kind, vSs m.states, vSs m.places, vSs m.letters, vIs m.ranks, vi m.levels, vi m.age, vRuls m.rules, vi m.start.n, vVs m.start.kids]
abbrev dMod (m : Mod) : D := .v (vMod m)
abbrev dRul (r : Rul) : D := .v (vRul r)

def betB (x a b : Int) : Bool := decide (a ≤ x) && decide (x ≤ b)
noncomputable abbrev fBetw : Func := Tryz.f41
noncomputable def cBetw : Code := fBetw.body.getD .skip
theorem betw_spec (x a b : Int) : FSpec PP 41 [di x, di a, di b] σ0 (db (betB x a b)) σ0 := by
  refine spec_vc mixed fBetw cBetw (by kernel_rfl) (by kernel_rfl) (by kernel_rfl) (by kernel_rfl) 15 (by kernel_rfl) [] (.b .r .r) ?_
  refine via (by kernel_rfl : ((decide (x ≥ a) = true → db (decide (x ≤ b)) = db (betB x a b)) ∧ (decide (x ≥ a) = false → db false = db (betB x a b))) = _) ?_
  refine ⟨fun h => ?_, fun h => ?_⟩
  · have h : a ≤ x := by simpa using h
    simp [betB, h]
  · have h : ¬ a ≤ x := by simpa using h
    simp [betB, h]
noncomputable abbrev fMIndex : Func := Tryz.f71
noncomputable def cMIndex : Code := fMIndex.body.getD .skip
theorem mindex_spec (x : Int) (n : Nat) (hn : n ≤ 1000000) : FSpec PP 71 [di x, di n] σ0 (db (betB x 0 (n - 1))) σ0 := by
  refine spec_vc mixed fMIndex cMIndex (by kernel_rfl) (by kernel_rfl) (by kernel_rfl) (by kernel_rfl) 9 (by kernel_rfl) [] (.c (db (betB x 0 (n - 1))) .r) ?_
  refine via (by kernel_rfl : (FSpec PP 41 [di x, di 0, di (IntKind.wrap IntKind.i64 ((↑n : Int) - 1))] (St.mk [] []) (db (betB x 0 ((↑n : Int) - 1))) (St.mk [] []) ∧ db (betB x 0 ((↑n : Int) - 1)) = db (betB x 0 ((↑n : Int) - 1))) = _) ?_
  refine ⟨?_, rfl⟩
  rw [wrap_id (by omega) (by omega)]
  exact betw_spec x 0 (n - 1)
noncomputable abbrev fMAll : Func := Tryz.f77
noncomputable def cMAll : Code := fMAll.body.getD .skip
noncomputable abbrev fMAll1 : Func := Tryz.f106
noncomputable def cMAll1 : Code := fMAll1.body.getD .skip
theorem mall1_spec (F : FuncId) (fs cs : List V) (p : Int → Bool) (x : Int) (hp : FSpec PP F ((fs ++ [vi x] ++ cs).map .v) σ0 (db (p x)) σ0) : FSpec PP 106 [di x, .v (.ref (.fn F fs cs))] σ0 (db (!p x)) σ0 := by
  refine spec_vc mixed fMAll1 cMAll1 (by kernel_rfl) (by kernel_rfl) (by kernel_rfl) (by kernel_rfl) 8 (by kernel_rfl) [] (.c (db (p x)) .r) ?_
  refine via (by kernel_rfl : (FSpec PP F (List.map D.v (fs ++ [vi x] ++ cs)) (St.mk [] []) (db (p x)) (St.mk [] []) ∧ (db !p x) = db !p x) = _) ?_
  exact ⟨hp, rfl⟩
theorem mall_spec (F : FuncId) (fs cs : List V) (p : Int → Bool) (l : List Int) (hl : l.length ≤ 1000000) (hp : ∀ x ∈ l, FSpec PP F ((fs ++ [vi x] ++ cs).map .v) σ0 (db (p x)) σ0) : FSpec PP 77 [dIs l, .v (.fn F fs cs)] σ0 (db (l.all p)) σ0 := by
  refine spec_vc mixed fMAll cMAll (by kernel_rfl) (by kernel_rfl) (by kernel_rfl) (by kernel_rfl) 9 (by kernel_rfl) [3] (.c (db (l.any fun x => !p x)) .r) ?_
  refine via (by kernel_rfl : (FSpec PP 65 [D.v (vIs l), D.v (V.fn 106 [] [V.ref (V.fn F fs cs)])] (St.mk [] []) (db (List.any l fun x => !p x)) (St.mk [] []) ∧ (db !List.any l fun x => !p x) = db (List.all l p)) = _) ?_
  refine ⟨hasI_spec _ [] _ (fun x => !p x) l hl fun x hx => mall1_spec F fs cs p x (hp x hx), ?_⟩
  congr 2
  induction l with
  | nil => rfl
  | cons x l ih =>
    have h := ih (by simp at hl; omega) (fun x hx => hp x (by simp [hx]))
    simp only [List.any_cons, List.all_cons, Bool.not_or, Bool.not_not, h]
/- COUNTERS -/
noncomputable abbrev fChg : Func := Tryz.f72
noncomputable def cChg : Code := fChg.body.getD .skip
noncomputable abbrev fChg1 : Func := Tryz.f99
noncomputable def cChg1 : Code := fChg1.body.getD .skip
abbrev smallB (x : Int) : Bool := betB x 0 16
theorem chg1_spec (x : Int) : FSpec PP 99 [di x] σ0 (db (smallB x)) σ0 := by
  refine spec_vc mixed fChg1 cChg1 (by kernel_rfl) (by kernel_rfl) (by kernel_rfl) (by kernel_rfl) 5 (by kernel_rfl) [] (.c (db (smallB x)) .r) ?_
  refine via (by kernel_rfl : (FSpec PP 41 [di x, di 0, di 16] (St.mk [] []) (db (smallB x)) (St.mk [] []) ∧ db (smallB x) = db (smallB x)) = _) ?_
  exact ⟨betw_spec x 0 16, rfl⟩
/-- no list of a rule is too long -/
structure Rul.short (r : Rul) : Prop where
  need : r.need.length ≤ 1000000
  give : r.give.length ≤ 1000000
  move : r.move.length ≤ 1000000
  path : r.path.length ≤ 1000000
  next : r.next.length ≤ 1000000
  takes : r.takes.length ≤ 1000000
  makes : r.makes.length ≤ 1000000
def changesB (m : Mod) (r : Rul) : Bool := ((r.need.length : Int) == m.places.length) && (((r.give.length : Int) == m.places.length) && (r.need.all smallB && r.give.all smallB))
theorem chg_spec (m : Mod) (r : Rul) (hr : r.short) : FSpec PP 72 [dMod m, dRul r] σ0 (db (changesB m r)) σ0 := by
  refine spec_vc mixed fChg cChg (by kernel_rfl) (by kernel_rfl) (by kernel_rfl) (by kernel_rfl) 34 (by kernel_rfl) [2, 3] (.b (.b (.c (db (r.need.all smallB)) <| .b (.c (db (r.give.all smallB)) .r) .r) .r) .r) ?_
  refine via (by kernel_rfl : ((((↑(List.length (List.map vi r.need)) : Int) == (↑(List.length (List.map V.str m.places)) : Int)) = true → (((↑(List.length (List.map vi r.give)) : Int) == (↑(List.length (List.map V.str m.places)) : Int)) = true → FSpec PP 77 [D.v (vIs r.need), D.v (V.fn 99 [] [])] (St.mk [] []) (db (List.all r.need smallB)) (St.mk [] []) ∧ (List.all r.need smallB = true → FSpec PP 77 [D.v (vIs r.give), D.v (V.fn 99 [] [])] (St.mk [] []) (db (List.all r.give smallB)) (St.mk [] []) ∧ db (List.all r.give smallB) = db (changesB m r)) ∧ (List.all r.need smallB = false → db false = db (changesB m r))) ∧ (((↑(List.length (List.map vi r.give)) : Int) == (↑(List.length (List.map V.str m.places)) : Int)) = false → db false = db (changesB m r))) ∧ (((↑(List.length (List.map vi r.need)) : Int) == (↑(List.length (List.map V.str m.places)) : Int)) = false → db false = db (changesB m r))) = _) ?_
  refine ⟨fun h1 => ⟨fun h2 => ⟨mall_spec _ [] [] smallB _ hr.need fun x _ => chg1_spec x, fun h3 => ⟨mall_spec _ [] [] smallB _ hr.give fun x _ => chg1_spec x, ?_⟩, fun h3 => ?_⟩, fun h2 => ?_⟩, fun h1 => ?_⟩ <;> (simp only [List.length_map] at *; simp [changesB, *])
noncomputable abbrev fMvs : Func := Tryz.f73
noncomputable def cMvs : Code := fMvs.body.getD .skip
noncomputable abbrev fMvs1 : Func := Tryz.f100
noncomputable def cMvs1 : Code := fMvs1.body.getD .skip
theorem mvs1_spec (n : Nat) (hn : n ≤ 1000000) (x : Int) : FSpec PP 100 [di x, .v (.ref (vi n))] σ0 (db (betB x (-1) (n - 1))) σ0 := by
  refine spec_vc mixed fMvs1 cMvs1 (by kernel_rfl) (by kernel_rfl) (by kernel_rfl) (by kernel_rfl) 8 (by kernel_rfl) [] (.c (db (betB x (-1) (n - 1))) .r) ?_
  refine via (by kernel_rfl : (FSpec PP 41 [di x, di (-1), di (IntKind.wrap IntKind.i64 ((↑n : Int) - 1))] (St.mk [] []) (db (betB x (-1) ((↑n : Int) - 1))) (St.mk [] []) ∧ db (betB x (-1) ((↑n : Int) - 1)) = db (betB x (-1) ((↑n : Int) - 1))) = _) ?_
  refine ⟨?_, rfl⟩
  rw [wrap_id (by omega) (by omega)]
  exact betw_spec x (-1) (n - 1)
def movesB (m : Mod) (r : Rul) : Bool := ((r.move.length : Int) == 0) || (((r.move.length : Int) == m.places.length) && r.move.all fun x => betB x (-1) (m.places.length - 1))
theorem mvs_spec (m : Mod) (hm : m.places.length ≤ 1000000) (r : Rul) (hr : r.short) : FSpec PP 73 [dMod m, dRul r] σ0 (db (movesB m r)) σ0 := by
  refine spec_vc mixed fMvs cMvs (by kernel_rfl) (by kernel_rfl) (by kernel_rfl) (by kernel_rfl) 26 (by kernel_rfl) [2, 3] (.h (.q 2 0) <| .h (.f1 0 [5]) <| .b .r (.b (.c (db (r.move.all fun x => betB x (-1) (m.places.length - 1))) .r) .r)) ?_
  refine via (by kernel_rfl : ((((↑(List.length (List.map vi r.move)) : Int) == 0) = true → db true = db (movesB m r)) ∧ (((↑(List.length (List.map vi r.move)) : Int) == 0) = false → (((↑(List.length (List.map vi r.move)) : Int) == (↑(List.length (List.map V.str m.places)) : Int)) = true → FSpec PP 77 [D.v (vIs r.move), D.v (V.fn 100 [] [V.ref (vi (↑(List.length (List.map V.str m.places)) : Int))])] (St.mk [] []) (db (List.all r.move fun x => betB x (-1) ((↑(List.length m.places) : Int) - 1))) (St.mk [] []) ∧ db (List.all r.move fun x => betB x (-1) ((↑(List.length m.places) : Int) - 1)) = db (movesB m r)) ∧ (((↑(List.length (List.map vi r.move)) : Int) == (↑(List.length (List.map V.str m.places)) : Int)) = false → db false = db (movesB m r)))) = _) ?_
  refine ⟨fun h1 => ?_, fun h1 => ⟨fun h2 => ⟨mall_spec _ [] [_] _ _ hr.move fun x _ => by simpa using mvs1_spec m.places.length hm x, ?_⟩, fun h2 => ?_⟩⟩ <;> (simp only [List.length_map] at *; simp [movesB, *])
/- CHANNELS -/
noncomputable abbrev fActs : Func := Tryz.f74
noncomputable def cActs : Code := fActs.body.getD .skip
def actsB (m : Mod) (r : Rul) : Bool := if (r.act == 0) = true then (r.chan == 0) && (r.letter == 0) else betB r.act 1 2 && (betB r.chan 0 (m.places.length - 1) && betB r.letter 0 (m.letters.length - 1))
theorem acts_spec (m : Mod) (hm : m.places.length ≤ 1000000) (hl : m.letters.length ≤ 1000000) (r : Rul) : FSpec PP 74 [dMod m, dRul r] σ0 (db (actsB m r)) σ0 := by
  refine spec_vc mixed fActs cActs (by kernel_rfl) (by kernel_rfl) (by kernel_rfl) (by kernel_rfl) 35 (by kernel_rfl) [2, 3] (.b (.b .r .r) (.c (db (betB r.act 1 2)) <| .b (.c (db (betB r.chan 0 (m.places.length - 1))) <| .b (.c (db (betB r.letter 0 (m.letters.length - 1))) .r) .r) .r)) ?_
  refine via (by kernel_rfl : (((r.act == 0) = true → ((r.chan == 0) = true → db (r.letter == 0) = db (actsB m r)) ∧ ((r.chan == 0) = false → db false = db (actsB m r))) ∧ ((r.act == 0) = false → FSpec PP 41 [di r.act, di 1, di 2] (St.mk [] []) (db (betB r.act 1 2)) (St.mk [] []) ∧ (betB r.act 1 2 = true → FSpec PP 71 [di r.chan, di (↑(List.length (List.map V.str m.places)) : Int)] (St.mk [] []) (db (betB r.chan 0 ((↑(List.length m.places) : Int) - 1))) (St.mk [] []) ∧ (betB r.chan 0 ((↑(List.length m.places) : Int) - 1) = true → FSpec PP 71 [di r.letter, di (↑(List.length (List.map V.str m.letters)) : Int)] (St.mk [] []) (db (betB r.letter 0 ((↑(List.length m.letters) : Int) - 1))) (St.mk [] []) ∧ db (betB r.letter 0 ((↑(List.length m.letters) : Int) - 1)) = db (actsB m r)) ∧ (betB r.chan 0 ((↑(List.length m.places) : Int) - 1) = false → db false = db (actsB m r))) ∧ (betB r.act 1 2 = false → db false = db (actsB m r)))) = _) ?_
  refine ⟨fun h1 => ⟨fun h2 => ?_, fun h2 => ?_⟩, fun h1 => ⟨betw_spec _ 1 2, fun h2 => ⟨by simpa using mindex_spec r.chan m.places.length hm, fun h3 => ⟨by simpa using mindex_spec r.letter m.letters.length hl, ?_⟩, fun h3 => ?_⟩, fun h2 => ?_⟩⟩ <;> (try simp only [List.length_map] at *) <;> simp [actsB, *]
end Go.Proofs.YtopbcpgmffppjaaGreatDoor

namespace Go.Proofs.YtopbcpgmffppjaaGreatDoor
open Go.Dv Go.Nv
set_option maxRecDepth 20000
noncomputable abbrev fEqT : Func := Tryz.f108
noncomputable def cEqT : Code := fEqT.body.getD .skip
theorem eqT_nil (a : List Tk) : FSpec PP 108 [.v (vTks a), .v (vTks [])] σ0 (db (decide (a = []))) σ0 := by
  refine spec_vc mixed fEqT cEqT (by kernel_rfl) (by kernel_rfl) (by kernel_rfl) (by kernel_rfl) 26 (by kernel_rfl) [] (.b .r (.n <| .f .r)) ?_
  refine via (by kernel_rfl : ((((↑(List.length (List.map vTk a)) : Int) != (↑(List.length (List.map vTk [])) : Int)) = true → db false = db (decide (a = []))) ∧ (((↑(List.length (List.map vTk a)) : Int) != (↑(List.length (List.map vTk [])) : Int)) = false → decide (0 < (↑(List.length (List.map vTk a)) : Int)) = false ∧ db true = db (decide (a = [])))) = _) ?_
  refine ⟨fun h => ?_, fun h => ?_⟩
  · have : a ≠ [] := by rintro rfl; simp at h
    simp [this]
  · have : a = [] := by simpa using h
    subst this
    simp
/-- a rule that bears no takes is compared -/
def sameB (a b : Rul) : Bool := (a.name == b.name) && ((a.frm == b.frm) && ((a.to == b.to) && (decide (a.need = b.need) && (decide (a.give = b.give) && (decide (a.move = b.move) && ((a.chan == b.chan) && ((a.act == b.act) && ((a.letter == b.letter) && (decide (a.path = b.path) && (decide (a.next = b.next) && (decide (a.takes = []) && (decide (a.makes = b.makes) && (a.second == b.second)))))))))))))
noncomputable abbrev fSame : Func := Tryz.f79
noncomputable def cSame : Code := fSame.body.getD .skip
theorem same_spec (a b : Rul) (ha : a.short) (hb : b.takes = []) : FSpec PP 79 [dRul a, dRul b] σ0 (db (sameB a b)) σ0 := by
  refine spec_vc mixed fSame cSame (by kernel_rfl) (by kernel_rfl) (by kernel_rfl) (by kernel_rfl) 101 (by kernel_rfl) [2, 3] (.b (.b (.b (.c (db (decide (a.need = b.need))) <| .b (.c (db (decide (a.give = b.give))) <| .b (.c (db (decide (a.move = b.move))) <| .b (.b (.b (.b (.c (db (decide (a.path = b.path))) <| .b (.c (db (decide (a.next = b.next))) <| .b (.c (db (decide (a.takes = []))) <| .b (.c (db (decide (a.makes = b.makes))) <| .b .r .r) .r) .r) .r) .r) .r) .r) .r) .r) .r) .r) .r) .r) ?_
  refine via (by kernel_rfl : (((a.name == b.name) = true → ((a.frm == b.frm) = true → ((a.to == b.to) = true → FSpec PP 107 [D.v (vIs a.need), D.v (vIs b.need)] (St.mk [] []) (db (decide (a.need = b.need))) (St.mk [] []) ∧ (decide (a.need = b.need) = true → FSpec PP 107 [D.v (vIs a.give), D.v (vIs b.give)] (St.mk [] []) (db (decide (a.give = b.give))) (St.mk [] []) ∧ (decide (a.give = b.give) = true → FSpec PP 107 [D.v (vIs a.move), D.v (vIs b.move)] (St.mk [] []) (db (decide (a.move = b.move))) (St.mk [] []) ∧ (decide (a.move = b.move) = true → ((a.chan == b.chan) = true → ((a.act == b.act) = true → ((a.letter == b.letter) = true → FSpec PP 107 [D.v (vIs a.path), D.v (vIs b.path)] (St.mk [] []) (db (decide (a.path = b.path))) (St.mk [] []) ∧ (decide (a.path = b.path) = true → FSpec PP 107 [D.v (vIs a.next), D.v (vIs b.next)] (St.mk [] []) (db (decide (a.next = b.next))) (St.mk [] []) ∧ (decide (a.next = b.next) = true → FSpec PP 108 [D.v (vTks a.takes), D.v (vTks b.takes)] (St.mk [] []) (db (decide (a.takes = []))) (St.mk [] []) ∧ (decide (a.takes = []) = true → FSpec PP 107 [D.v (vIs a.makes), D.v (vIs b.makes)] (St.mk [] []) (db (decide (a.makes = b.makes))) (St.mk [] []) ∧ (decide (a.makes = b.makes) = true → db (a.second == b.second) = db (sameB a b)) ∧ (decide (a.makes = b.makes) = false → db false = db (sameB a b))) ∧ (decide (a.takes = []) = false → db false = db (sameB a b))) ∧ (decide (a.next = b.next) = false → db false = db (sameB a b))) ∧ (decide (a.path = b.path) = false → db false = db (sameB a b))) ∧ ((a.letter == b.letter) = false → db false = db (sameB a b))) ∧ ((a.act == b.act) = false → db false = db (sameB a b))) ∧ ((a.chan == b.chan) = false → db false = db (sameB a b))) ∧ (decide (a.move = b.move) = false → db false = db (sameB a b))) ∧ (decide (a.give = b.give) = false → db false = db (sameB a b))) ∧ (decide (a.need = b.need) = false → db false = db (sameB a b))) ∧ ((a.to == b.to) = false → db false = db (sameB a b))) ∧ ((a.frm == b.frm) = false → db false = db (sameB a b))) ∧ ((a.name == b.name) = false → db false = db (sameB a b))) = _) ?_
  repeat' first | with_reducible refine And.intro ?_ ?_ | intro _
  all_goals first | exact eqI_spec _ _ ha.need | exact eqI_spec _ _ ha.give | exact eqI_spec _ _ ha.move | exact eqI_spec _ _ ha.path | exact eqI_spec _ _ ha.next | exact eqI_spec _ _ ha.makes | (rw [hb]; exact eqT_nil _) | simp [sameB, *]
def onlyC (r : Rul) : Rul := { name := r.name, frm := r.frm, to := r.to, need := r.need, give := r.give, move := r.move, chan := 0, act := 0, letter := 0, path := [], next := [], takes := [], makes := [], second := 0 }
def onlyL (r : Rul) : Rul := { name := r.name, frm := r.frm, to := r.to, need := [], give := [], move := [], chan := r.chan, act := r.act, letter := r.letter, path := [], next := [], takes := [], makes := [], second := 0 }
noncomputable abbrev fRight : Func := Tryz.f47
noncomputable def cRight : Code := fRight.body.getD .skip
def rightC (m : Mod) (r : Rul) : Bool := betB r.to 0 (m.states.length - 1) && (betB r.frm 0 (m.states.length - 1) && (changesB m r && (movesB m r && sameB r (onlyC r))))
structure Mod.short (m : Mod) : Prop where
  states : m.states.length ≤ 1000000
  places : m.places.length ≤ 1000000
  letters : m.letters.length ≤ 1000000
  ranks : m.ranks.length ≤ 1000000
  rules : m.rules.length ≤ 1000000
  rule : ∀ r ∈ m.rules, r.short
theorem rightC_spec (m : Mod) (hm : m.short) (hk : m.kind = 1) (r : Rul) (hr : r.short) : FSpec PP 47 [dMod m, dRul r] σ0 (db (rightC m r)) σ0 := by
  refine spec_vc mixed fRight cRight (by kernel_rfl) (by kernel_rfl) (by kernel_rfl) (by kernel_rfl) 142 (by kernel_rfl) [2, 3] (.c (db (betB r.to 0 (m.states.length - 1))) <| .b .r <| .c (db (betB r.frm 0 (m.states.length - 1))) <| .b (.t .r) <| .k <| .t <| .c (db (changesB m r)) <| .b (.c (db (movesB m r)) <| .b (.c (db (sameB r (onlyC r))) .r) .r) .r) ?_
  refine via (by kernel_rfl : (FSpec PP 71 [di r.to, di (↑(List.length (List.map V.str m.states)) : Int)] (St.mk [] []) (db (betB r.to 0 ((↑(List.length m.states) : Int) - 1))) (St.mk [] []) ∧ ((!betB r.to 0 ((↑(List.length m.states) : Int) - 1)) = true → db false = db (rightC m r)) ∧ ((!betB r.to 0 ((↑(List.length m.states) : Int) - 1)) = false → FSpec PP 71 [di r.frm, di (↑(List.length (List.map V.str m.states)) : Int)] (St.mk [] []) (db (betB r.frm 0 ((↑(List.length m.states) : Int) - 1))) (St.mk [] []) ∧ ((!betB r.frm 0 ((↑(List.length m.states) : Int) - 1)) = true → (m.kind != 6) = true ∧ db false = db (rightC m r)) ∧ ((!betB r.frm 0 ((↑(List.length m.states) : Int) - 1)) = false → (m.kind == 1) = true ∧ FSpec PP 72 [D.v (vMod m), D.v (vRul r)] (St.mk [] []) (db (changesB m r)) (St.mk [] []) ∧ (changesB m r = true → FSpec PP 73 [D.v (vMod m), D.v (vRul r)] (St.mk [] []) (db (movesB m r)) (St.mk [] []) ∧ (movesB m r = true → FSpec PP 79 [D.v (vRul r), D.v (V.agg [V.str r.name, vi r.frm, vi r.to, vIs r.need, vIs r.give, vIs r.move, vi 0, vi 0, vi 0, V.list [], V.list [], V.list [], V.list [], vi 0])] (St.mk [] []) (db (sameB r (onlyC r))) (St.mk [] []) ∧ db (sameB r (onlyC r)) = db (rightC m r)) ∧ (movesB m r = false → db false = db (rightC m r))) ∧ (changesB m r = false → db false = db (rightC m r))))) = _) ?_
  repeat' first | with_reducible refine And.intro ?_ ?_ | intro _
  all_goals first | (simpa using mindex_spec _ _ hm.states) | exact chg_spec m r hr | exact mvs_spec m hm.places r hr | exact same_spec r (onlyC r) hr rfl | simp_all [rightC]
def rightL (m : Mod) (r : Rul) : Bool := betB r.to 0 (m.states.length - 1) && (betB r.frm 0 (m.states.length - 1) && (actsB m r && sameB r (onlyL r)))
theorem rightL_spec (m : Mod) (hm : m.short) (hk : m.kind = 2 ∨ m.kind = 3) (r : Rul) (hr : r.short) : FSpec PP 47 [dMod m, dRul r] σ0 (db (rightL m r)) σ0 := by
  refine spec_vc mixed fRight cRight (by kernel_rfl) (by kernel_rfl) (by kernel_rfl) (by kernel_rfl) 142 (by kernel_rfl) [2, 3] (.c (db (betB r.to 0 (m.states.length - 1))) <| .b .r <| .c (db (betB r.frm 0 (m.states.length - 1))) <| .b (.t .r) <| .k <| .f <| .b (.k <| .c (db (actsB m r)) <| .b (.c (db (sameB r (onlyL r))) .r) .r) (.t <| .c (db (actsB m r)) <| .b (.c (db (sameB r (onlyL r))) .r) .r)) ?_
  refine via (by kernel_rfl : (FSpec PP 71 [di r.to, di (↑(List.length (List.map V.str m.states)) : Int)] (St.mk [] []) (db (betB r.to 0 ((↑(List.length m.states) : Int) - 1))) (St.mk [] []) ∧ ((!betB r.to 0 ((↑(List.length m.states) : Int) - 1)) = true → db false = db (rightL m r)) ∧ ((!betB r.to 0 ((↑(List.length m.states) : Int) - 1)) = false → FSpec PP 71 [di r.frm, di (↑(List.length (List.map V.str m.states)) : Int)] (St.mk [] []) (db (betB r.frm 0 ((↑(List.length m.states) : Int) - 1))) (St.mk [] []) ∧ ((!betB r.frm 0 ((↑(List.length m.states) : Int) - 1)) = true → (m.kind != 6) = true ∧ db false = db (rightL m r)) ∧ ((!betB r.frm 0 ((↑(List.length m.states) : Int) - 1)) = false → (m.kind == 1) = false ∧ ((m.kind == 2) = true → FSpec PP 74 [D.v (vMod m), D.v (vRul r)] (St.mk [] []) (db (actsB m r)) (St.mk [] []) ∧ (actsB m r = true → FSpec PP 79 [D.v (vRul r), D.v (V.agg [V.str r.name, vi r.frm, vi r.to, V.list [], V.list [], V.list [], vi r.chan, vi r.act, vi r.letter, V.list [], V.list [], V.list [], V.list [], vi 0])] (St.mk [] []) (db (sameB r (onlyL r))) (St.mk [] []) ∧ db (sameB r (onlyL r)) = db (rightL m r)) ∧ (actsB m r = false → db false = db (rightL m r))) ∧ ((m.kind == 2) = false → (m.kind == 3) = true ∧ FSpec PP 74 [D.v (vMod m), D.v (vRul r)] (St.mk [] []) (db (actsB m r)) (St.mk [] []) ∧ (actsB m r = true → FSpec PP 79 [D.v (vRul r), D.v (V.agg [V.str r.name, vi r.frm, vi r.to, V.list [], V.list [], V.list [], vi r.chan, vi r.act, vi r.letter, V.list [], V.list [], V.list [], V.list [], vi 0])] (St.mk [] []) (db (sameB r (onlyL r))) (St.mk [] []) ∧ db (sameB r (onlyL r)) = db (rightL m r)) ∧ (actsB m r = false → db false = db (rightL m r)))))) = _) ?_
  repeat' first | with_reducible refine And.intro ?_ ?_ | intro _
  all_goals first | (simpa using mindex_spec _ _ hm.states) | exact acts_spec m hm.places hm.letters r | exact same_spec r (onlyL r) hr rfl | (rcases hk with hk | hk <;> simp_all [rightL])
end Go.Proofs.YtopbcpgmffppjaaGreatDoor

namespace Go.Proofs.YtopbcpgmffppjaaGreatDoor
open Go.Dv Go.Nv
set_option maxRecDepth 20000
/- WORDS -/
noncomputable abbrev fLet : Func := Tryz.f95
noncomputable def cLet : Code := fLet.body.getD .skip
noncomputable abbrev fDig : Func := Tryz.f124
noncomputable def cDig : Code := fDig.body.getD .skip
noncomputable abbrev fPart : Func := Tryz.f97
noncomputable def cPart : Code := fPart.body.getD .skip
def letB (c : UInt8) : Bool := decide ((c.toNat : Int) ≥ 97) && decide ((c.toNat : Int) ≤ 122)
def digB (c : UInt8) : Bool := decide ((c.toNat : Int) ≥ 48) && decide ((c.toNat : Int) ≤ 57)
def partB (c : UInt8) : Bool := letB c || (digB c || ((c.toNat : Int) == 95))
theorem let_spec (c : UInt8) : FSpec PP 95 [.v (vb c)] σ0 (db (letB c)) σ0 := by
  refine spec_vc mixed fLet cLet (by kernel_rfl) (by kernel_rfl) (by kernel_rfl) (by kernel_rfl) 9 (by kernel_rfl) [] (.b .r .r) ?_
  refine via (by kernel_rfl : ((decide ((↑(UInt8.toNat c) : Int) ≥ 97) = true → db (decide ((↑(UInt8.toNat c) : Int) ≤ 122)) = db (letB c)) ∧ (decide ((↑(UInt8.toNat c) : Int) ≥ 97) = false → db false = db (letB c))) = _) ?_
  refine ⟨fun h => ?_, fun h => ?_⟩ <;> simp [letB, *]
theorem dig_spec (c : UInt8) : FSpec PP 124 [.v (vb c)] σ0 (db (digB c)) σ0 := by
  refine spec_vc mixed fDig cDig (by kernel_rfl) (by kernel_rfl) (by kernel_rfl) (by kernel_rfl) 9 (by kernel_rfl) [] (.b .r .r) ?_
  refine via (by kernel_rfl : ((decide ((↑(UInt8.toNat c) : Int) ≥ 48) = true → db (decide ((↑(UInt8.toNat c) : Int) ≤ 57)) = db (digB c)) ∧ (decide ((↑(UInt8.toNat c) : Int) ≥ 48) = false → db false = db (digB c))) = _) ?_
  refine ⟨fun h => ?_, fun h => ?_⟩ <;> simp [digB, *]
theorem part_spec (c : UInt8) : FSpec PP 97 [.v (vb c)] σ0 (db (partB c)) σ0 := by
  refine spec_vc mixed fPart cPart (by kernel_rfl) (by kernel_rfl) (by kernel_rfl) (by kernel_rfl) 13 (by kernel_rfl) [] (.c (db (letB c)) <| .b .r <| .c (db (digB c)) <| .b .r .r) ?_
  refine via (by kernel_rfl : (FSpec PP 95 [D.v (V.int IntKind.u8 (↑(UInt8.toNat c) : Int))] (St.mk [] []) (db (letB c)) (St.mk [] []) ∧ (letB c = true → db true = db (partB c)) ∧ (letB c = false → FSpec PP 124 [D.v (V.int IntKind.u8 (↑(UInt8.toNat c) : Int))] (St.mk [] []) (db (digB c)) (St.mk [] []) ∧ (digB c = true → db true = db (partB c)) ∧ (digB c = false → db ((↑(UInt8.toNat c) : Int) == 95) = db (partB c)))) = _) ?_
  refine ⟨let_spec c, fun h => ?_, fun h => ⟨dig_spec c, fun h2 => ?_, fun h2 => ?_⟩⟩ <;> simp [partB, *]
noncomputable abbrev fRun : Func := Tryz.f96
noncomputable def cRun : Code := fRun.body.getD .skip
def runM (p : UInt8 → Bool) : List UInt8 → Nat
  | [] => 0
  | c :: s => if p c then runM p s + 1 else 0
theorem run_loop (F : FuncId) (p : UInt8 → Bool) (s : List UInt8) (hs : s.length ≤ 1000000) (hp : ∀ c ∈ s, FSpec PP F [.v (vb c)] σ0 (db (p c)) σ0) (n : Nat) : ∀ k : Nat, s.length - k = n → k ≤ s.length →
    Rn PP fRun 0 (di ((k + runM p (s.drop k) : Nat) : Int)) σ0 ([.lp (sub cRun [1, 1, 0, 0, 0]), .blk 0, .code (sub cRun [1, 1, 1])] ++ []) (mkE 20 [(0, ds s), (1, .v (.fn F [] [])), (5, di k)]) σ0 := by
  induction n using Nat.strongRecOn with
  | _ n ih =>
  intro k hn hk0
  refine loop_vc mixed 20 [] (.b (.e fun c : UInt8 => .y c <| .c (db (p c)) <| .b (.l [ke 0, ke 1, ch 5 (di (k + 1 : Nat))]) .r) (.k .r)) ?_
  refine via (by kernel_rfl : ((decide ((↑k : Int) < (↑(List.length s) : Int)) = true → ∃ a, 0 ≤ (↑k : Int) ∧ s[Int.toNat (↑k : Int)]? = some a ∧ FSpec PP F [D.v (V.int IntKind.u8 (↑(UInt8.toNat a) : Int))] (St.mk [] []) (db (p a)) (St.mk [] []) ∧ (p a = true → di (IntKind.wrap IntKind.i64 ((↑k : Int) + 1)) = di (↑(k + 1) : Int) ∧ Nv.It (RunC (CN 0) PP (fun env σ1 => ResOK PP fRun env σ1 (di (↑(k + runM p (List.drop k s)) : Int)) σ0) [KI.lp (sub cRun [1, 1, 0, 0, 0]), KI.blk 0, KI.code (sub cRun [1, 1, 1])] (mkE 20 [(0, D.v (V.str s)), (1, D.v (V.fn F [] [])), (5, di (↑(k + 1) : Int))]) σ0)) ∧ (p a = false → di (↑k : Int) = di (↑(k + runM p (List.drop k s)) : Int))) ∧ (decide ((↑k : Int) < (↑(List.length s) : Int)) = false → di (↑k : Int) = di (↑(k + runM p (List.drop k s)) : Int))) = _) ?_
  refine ⟨fun h => ?_, fun h => ?_⟩
  · have hk : k < s.length := by simpa using h
    have hx : s[k]? = some s[k] := List.getElem?_eq_getElem hk
    have hih := ih (s.length - (k + 1)) (by omega) (k + 1) rfl hk
    rw [List.drop_eq_getElem_cons hk]
    generalize s[k] = c at hx ⊢
    refine ⟨c, by omega, by simpa using hx, by simpa using hp c (List.mem_of_getElem? hx), fun h2 => ⟨wrap_succ (by omega), ⟨?_⟩⟩, fun h2 => ?_⟩
    · simp only [runM, h2, if_true]
      rw [show k + (runM p (s.drop (k + 1)) + 1) = k + 1 + runM p (s.drop (k + 1)) by omega]
      exact hih
    · simp [runM, h2]
  · have hk : s.length ≤ k := by simpa using h
    rw [List.drop_of_length_le hk]; simp [runM]
theorem run_spec (F : FuncId) (p : UInt8 → Bool) (s : List UInt8) (hs : s.length ≤ 1000000) (hp : ∀ c ∈ s, FSpec PP F [.v (vb c)] σ0 (db (p c)) σ0) : FSpec PP 96 [ds s, .v (.fn F [] [])] σ0 (di (runM p s)) σ0 := by
  refine spec_vc mixed fRun cRun (by kernel_rfl) (by kernel_rfl) (by kernel_rfl) (by kernel_rfl) 20 (by kernel_rfl) [] (.l [ke 0, ke 1, ch 5 (di (0 : Nat))]) ?_
  refine via (by kernel_rfl : (di 0 = di (↑0 : Int) ∧ Nv.It (RunC (CN (List.length σ0.H)) PP (fun env σ1 => ResOK PP fRun env σ1 (di (↑(runM p s) : Int)) σ0) [KI.lp (sub cRun [1, 1, 0, 0, 0]), KI.blk 0, KI.code (sub cRun [1, 1, 1])] (mkE 20 [(0, D.v (V.str s)), (1, D.v (V.fn F [] [])), (5, di (↑0 : Int))]) σ0)) = _) ?_
  refine ⟨rfl, ⟨?_⟩⟩
  have := run_loop F p s hs hp _ 0 rfl (by omega)
  simpa using this
noncomputable abbrev fWord : Func := Tryz.f68
noncomputable def cWord : Code := fWord.body.getD .skip
def wordB (s : List UInt8) : Bool := (s != []) && (decide ((s.length : Int) ≤ 12) && (letB (s.headD 0) && ((runM partB s : Int) == s.length)))
theorem short12 {s : List UInt8} (h : decide ((s.length : Int) ≤ 12) = true) : s.length ≤ 1000000 := by
  have h := of_decide_eq_true h
  omega
theorem word_spec (s : List UInt8) : FSpec PP 68 [ds s] σ0 (db (wordB s)) σ0 := by
  refine spec_vc mixed fWord cWord (by kernel_rfl) (by kernel_rfl) (by kernel_rfl) (by kernel_rfl) 22 (by kernel_rfl) [] (.b (.b (.y (s.headD 0) <| .c (db (letB (s.headD 0))) <| .b (.c (di (runM partB s)) .r) .r) .r) .r) ?_
  refine via (by kernel_rfl : (((!s == (ByteArray.mk #[]).data.toList) = true → (decide ((↑(List.length s) : Int) ≤ 12) = true → iz 0 ≤ 0 ∧ s[Int.toNat 0]? = some (List.headD s 0) ∧ FSpec PP 95 [D.v (V.int IntKind.u8 (↑(UInt8.toNat (List.headD s 0)) : Int))] (St.mk [] []) (db (letB (List.headD s 0))) (St.mk [] []) ∧ (letB (List.headD s 0) = true → FSpec PP 96 [D.v (V.str s), D.v (V.fn 97 [] [])] (St.mk [] []) (di (↑(runM partB s) : Int)) (St.mk [] []) ∧ db ((↑(runM partB s) : Int) == (↑(List.length s) : Int)) = db (wordB s)) ∧ (letB (List.headD s 0) = false → db false = db (wordB s))) ∧ (decide ((↑(List.length s) : Int) ≤ 12) = false → db false = db (wordB s))) ∧ ((!s == (ByteArray.mk #[]).data.toList) = false → db false = db (wordB s))) = _) ?_
  refine ⟨fun h1 => ⟨fun h2 => ⟨by simp, ?_, let_spec _, fun h3 => ⟨run_spec _ partB s (short12 h2) fun c _ => part_spec c, ?_⟩, fun h3 => ?_⟩, fun h2 => ?_⟩, fun h1 => ?_⟩
  · cases s with
    | nil => simp [binS] at h1
    | cons a s => rfl
  all_goals simp_all [wordB]
  all_goals omega
end Go.Proofs.YtopbcpgmffppjaaGreatDoor

namespace Go.Proofs.YtopbcpgmffppjaaGreatDoor
open Go.Dv Go.Nv
set_option maxRecDepth 20000
theorem idx_str {l : List (List UInt8)} {k : Nat} {s : List UInt8} (h : l[k]? = some s) : (l.map V.str)[Int.toNat (k : Int)]? = some (.str s) := by simp [h]

noncomputable abbrev fIdS : Func := Tryz.f125
noncomputable def cIdS : Code := fIdS.body.getD .skip
theorem idS_loop (l : List (List UInt8)) (v : List UInt8) (hl : l.length ≤ 1000000) (n : Nat) : ∀ k : Nat, l.length - k = n →
    Rn PP fIdS 0 (di (ixM (· == v) (l.drop k) k)) σ0 ([.lp (sub cIdS [1, 0, 1, 0, 0]), .blk 0, .code (sub cIdS [1, 1])] ++ []) (mkE 19 [(0, dl (l.map V.str)), (1, .v (V.str v)), (7, di l.length), (8, di k)]) σ0 := by
  induction n using Nat.strongRecOn with
  | _ n ih =>
  intro k hn
  refine loop_vc mixed 19 [] (.b (.e fun x : List UInt8 => .x (V.str x) <| .b .r (.l [ke 0, ke 1, ke 7, ch 8 (di (k + 1 : Nat))])) .r) ?_
  refine via (by kernel_rfl : ((decide ((↑k : Int) < (↑(List.length l) : Int)) = true → ∃ a, 0 ≤ (↑k : Int) ∧ (List.map V.str l)[Int.toNat (↑k : Int)]? = some (V.str a) ∧ ((v == a) = true → di (↑k : Int) = di (ixM (fun x => x == v) (List.drop k l) k)) ∧ ((v == a) = false → di (IntKind.wrap IntKind.i64 ((↑k : Int) + 1)) = di (↑(k + 1) : Int) ∧ Nv.It (RunC (CN 0) PP (fun env σ1 => ResOK PP fIdS env σ1 (di (ixM (fun x => x == v) (List.drop k l) k)) σ0) [KI.lp (sub cIdS [1, 0, 1, 0, 0]), KI.blk 0, KI.code (sub cIdS [1, 1])] (mkE 19 [(0, D.v (V.list (List.map V.str l))), (1, D.v (V.str v)), (7, di (↑(List.length l) : Int)), (8, di (↑(k + 1) : Int))]) σ0))) ∧ (decide ((↑k : Int) < (↑(List.length l) : Int)) = false → di (-1) = di (ixM (fun x => x == v) (List.drop k l) k))) = _) ?_
  refine ⟨fun h => ?_, fun h => ?_⟩
  · have hk : k < l.length := by simpa using h
    have hx : l[k]? = some l[k] := List.getElem?_eq_getElem hk
    rw [List.drop_eq_getElem_cons hk]
    generalize l[k] = x at hx ⊢
    refine ⟨x, by omega, idx_str hx, fun hf => ?_, fun hf => ⟨wrap_succ (by omega), ⟨?_⟩⟩⟩
    · have : v = x := by simpa using hf
      subst this; simp [ixM]
    · have h2 : v ≠ x := by simpa using hf
      have : (x == v) = false := by simpa using fun e => h2 e.symm
      simp only [ixM, this]
      exact ih (l.length - (k + 1)) (by omega) (k + 1) rfl
  · have hk : l.length ≤ k := by simpa using h
    rw [List.drop_of_length_le hk]; rfl
theorem idS_spec (l : List (List UInt8)) (v : List UInt8) (hl : l.length ≤ 1000000) : FSpec PP 125 [dl (l.map V.str), .v (V.str v)] σ0 (di (ixM (· == v) l 0)) σ0 := by
  refine spec_vc mixed fIdS cIdS (by kernel_rfl) (by kernel_rfl) (by kernel_rfl) (by kernel_rfl) 19 (by kernel_rfl) [] (.l [ke 0, ke 1, ch 7 (di l.length), ch 8 (di (0 : Nat))]) ?_
  refine via (by kernel_rfl : (di (↑(List.length (List.map V.str l)) : Int) = di (↑(List.length l) : Int) ∧ di 0 = di (↑0 : Int) ∧ Nv.It (RunC (CN (List.length σ0.H)) PP (fun env σ1 => ResOK PP fIdS env σ1 (di (ixM (fun x => x == v) l 0)) σ0) [KI.lp (sub cIdS [1, 0, 1, 0, 0]), KI.blk 0, KI.code (sub cIdS [1, 1])] (mkE 19 [(0, dl (List.map V.str l)), (1, D.v (V.str v)), (7, di (↑(List.length l) : Int)), (8, di (↑0 : Int))]) σ0)) = _) ?_
  refine ⟨by simp, rfl, ⟨?_⟩⟩
  exact idS_loop l v hl _ 0 rfl
noncomputable abbrev fConS : Func := Tryz.f98
noncomputable def cConS : Code := fConS.body.getD .skip
theorem conS_spec (l : List (List UInt8)) (v : List UInt8) (hl : l.length ≤ 1000000) : FSpec PP 98 [dl (l.map V.str), .v (V.str v)] σ0 (db (l.any (· == v))) σ0 := by
  refine spec_vc mixed fConS cConS (by kernel_rfl) (by kernel_rfl) (by kernel_rfl) (by kernel_rfl) 9 (by kernel_rfl) [] (.c (di (ixM (· == v) l 0)) .r) ?_
  refine via (by kernel_rfl : (FSpec PP 125 [D.v (V.list (List.map V.str l)), D.v (V.str v)] (St.mk [] []) (di (ixM (fun x => x == v) l 0)) (St.mk [] []) ∧ db (decide (ixM (fun x => x == v) l 0 ≥ 0)) = db (List.any l fun x => x == v)) = _) ?_
  exact ⟨idS_spec l v hl, by rw [← ixM_any]⟩

def keys : List (List UInt8) := [[109, 111, 100, 101, 108], [115, 116, 97, 116, 101, 115], [112, 108, 97, 99, 101, 115], [108, 101, 116, 116, 101, 114, 115], [108, 101, 118, 101, 108, 115], [97, 103, 101], [114, 117, 108, 101], [110, 101, 101, 100], [103, 105, 118, 101], [109, 111, 118, 101], [101, 109, 112, 116, 121], [115, 101, 110, 100], [114, 101, 99, 101, 105, 118, 101], [112, 97, 116, 104], [110, 101, 120, 116], [116, 97, 107, 101], [109, 97, 107, 101], [115, 116, 97, 114, 116]]
def keyB (s : List UInt8) : Bool := keys.any (· == s)
noncomputable abbrev fKw : Func := Tryz.f69
noncomputable def cKw : Code := fKw.body.getD .skip
theorem kw_spec (s : List UInt8) : FSpec PP 69 [ds s] σ0 (db (keyB s)) σ0 := by
  refine spec_vc mixed fKw cKw (by kernel_rfl) (by kernel_rfl) (by kernel_rfl) (by kernel_rfl) 6 (by kernel_rfl) [] (.c (db (keyB s)) .r) ?_
  refine via (by kernel_rfl : (FSpec PP 98 [D.v (V.list [V.str (ByteArray.mk #[109, 111, 100, 101, 108]).data.toList, V.str (ByteArray.mk #[115, 116, 97, 116, 101, 115]).data.toList, V.str (ByteArray.mk #[112, 108, 97, 99, 101, 115]).data.toList, V.str (ByteArray.mk #[108, 101, 116, 116, 101, 114, 115]).data.toList, V.str (ByteArray.mk #[108, 101, 118, 101, 108, 115]).data.toList, V.str (ByteArray.mk #[97, 103, 101]).data.toList, V.str (ByteArray.mk #[114, 117, 108, 101]).data.toList, V.str (ByteArray.mk #[110, 101, 101, 100]).data.toList, V.str (ByteArray.mk #[103, 105, 118, 101]).data.toList, V.str (ByteArray.mk #[109, 111, 118, 101]).data.toList, V.str (ByteArray.mk #[101, 109, 112, 116, 121]).data.toList, V.str (ByteArray.mk #[115, 101, 110, 100]).data.toList, V.str (ByteArray.mk #[114, 101, 99, 101, 105, 118, 101]).data.toList, V.str (ByteArray.mk #[112, 97, 116, 104]).data.toList, V.str (ByteArray.mk #[110, 101, 120, 116]).data.toList, V.str (ByteArray.mk #[116, 97, 107, 101]).data.toList, V.str (ByteArray.mk #[109, 97, 107, 101]).data.toList, V.str (ByteArray.mk #[115, 116, 97, 114, 116]).data.toList]), D.v (V.str s)] (St.mk [] []) (db (keyB s)) (St.mk [] []) ∧ db (keyB s) = db (keyB s)) = _) ?_
  exact ⟨conS_spec keys s (by decide), rfl⟩

noncomputable abbrev fNam : Func := Tryz.f44
noncomputable def cNam : Code := fNam.body.getD .skip
def nmB (used : List (List UInt8)) : List (List UInt8) → Bool
  | [] => true
  | s :: l => wordB s && (!keyB s && (!used.contains s && nmB (used ++ [s]) l))
def baseM (m : Mod) : List (List UInt8) := [m.states, m.places, m.letters].flatten
def namesM (m : Mod) : List (List UInt8) := baseM m ++ m.rules.map Rul.name
def namedB (m : Mod) : Bool := nmB [] (namesM m)
abbrev accS (l : List (List UInt8)) : D := .acc 1 (l.map V.str)
abbrev ownS (l : List (List UInt8)) : St := ⟨[], [(1, 1, l.map V.str)]⟩
theorem nam_loop2 (r : Nat) (l : List (List UInt8)) (hl : l.length ≤ 1000000) (n : Nat) : ∀ k : Nat, l.length - k = n → k ≤ l.length →
    RunC (CS 0 r (l.take k)) PP (fun env σ1 => ResOK PP fNam env σ1 (db (nmB (l.take k) (l.drop k))) σ0) [.lp (sub cNam [1, 1, 1, 1, 0, 1, 0, 0]), .blk 2, .code (sub cNam [1, 1, 1, 1, 1])] (mkE 52 [(3, .raw (.map (some r))), (31, dl (l.map V.str)), (32, di l.length), (33, di k)]) σ0 := by
  induction n using Nat.strongRecOn with
  | _ n ih =>
  intro k hn hk0
  refine run_s mixed 52 [1] (.b (.e fun s : List UInt8 => .x (.str s) <| .c (db (wordB s)) <| .b .r (.c (db (keyB s)) <| .b .r (.h (.q 11 10) <| .h (.s [ke 3, ke 8, ke 31, ke 32, ke 33, ke 44, ke 45, ke 46]) .z))) .r) ?_
  refine via (by kernel_rfl : ((decide ((↑k : Int) < (↑(List.length l) : Int)) = true → ∃ a, 0 ≤ (↑k : Int) ∧ (List.map V.str l)[Int.toNat (↑k : Int)]? = some (V.str a) ∧ FSpec PP 68 [D.v (V.str a)] (St.mk [] []) (db (wordB a)) (St.mk [] []) ∧ ((!wordB a) = true → db false = db (nmB (List.take k l) (List.drop k l))) ∧ ((!wordB a) = false → FSpec PP 69 [D.v (V.str a)] (St.mk [] []) (db (keyB a)) (St.mk [] []) ∧ (keyB a = true → db false = db (nmB (List.take k l) (List.drop k l))) ∧ (keyB a = false → Nv.It (RunO (CS 0 r (List.take k l)) PP (fun env σ1 => ResOK PP fNam env σ1 (db (nmB (List.take k l) (List.drop k l))) σ0) [KI.code (sub cNam [1, 1, 1, 1, 0, 1, 0, 0, 1, 1, 0, 0, 1, 0, 1]), KI.code (sub cNam [1, 1, 1, 1, 0, 1, 0, 0, 1, 1, 0, 0, 1, 1]), KI.blk 3, KI.code (sub cNam [1, 1, 1, 1, 0, 1, 0, 0, 1, 1, 1]), KI.lp (sub cNam [1, 1, 1, 1, 0, 1, 0, 0]), KI.blk 2, KI.code (sub cNam [1, 1, 1, 1, 1])] (opsIn (sub cNam [1, 1, 1, 1, 0, 1, 0, 0, 1, 1, 0, 0, 1, 0, 0])) (List.drop 10 (opsIn (sub cNam [1, 1, 1, 1, 0, 1, 0, 0, 1, 1, 0, 0, 1, 0, 0])).toList) (mkE 52 [(3, D.raw (Value.map (some r))), (8, D.v (V.str a)), (31, D.v (V.list (List.map V.str l))), (32, di (↑(List.length l) : Int)), (33, di (↑k : Int)), (44, db false), (45, D.raw (Value.map (some r))), (46, D.v (V.str a))]) σ0)))) ∧ (decide ((↑k : Int) < (↑(List.length l) : Int)) = false → db true = db (nmB (List.take k l) (List.drop k l)))) = _) ?_
  refine ⟨fun h => ?_, fun h => ?_⟩
  · have hk : k < l.length := by simpa using h
    have hx : l[k]? = some l[k] := List.getElem?_eq_getElem hk
    have hih := ih (l.length - (k + 1)) (by omega) (k + 1) rfl hk
    rw [List.take_succ_eq_append_getElem hk] at hih
    rw [List.drop_eq_getElem_cons hk]
    generalize l[k] = s at hx hih ⊢
    refine ⟨s, by omega, by simp [hx], word_spec s, fun h1 => ?_, fun h1 => ⟨kw_spec s, fun h2 => ?_, fun h2 => ⟨?_⟩⟩⟩
    · simp only [Bool.not_eq_true', Bool.not_eq_eq_eq_not, Bool.not_true] at h1; simp [nmB, h1]
    · simp [nmB, h2]
    · have h1 : wordB s = true := by simpa using h1
      refine ro_lookupE (s := s) 47 45 46 rfl (by kernel_rfl) (by kernel_rfl) (by kernel_rfl) (by kernel_rfl) (by kernel_rfl) (by kernel_rfl) ?_
      refine rest_s mixed 52 [1] 11 11 (.b .r (.h (.q 13 2) <| .h (.s [ke 3, ke 8, ke 31, ke 32, ke 33, ke 49, ke 50]) .z)) ?_
      refine via (by kernel_rfl : ((List.contains (List.take k l) s = true → db false = db (nmB (List.take k l) (s :: List.drop (k + 1) l))) ∧ (List.contains (List.take k l) s = false → Nv.It (RunO (CS 0 r (List.take k l)) PP (fun env σ1 => ResOK PP fNam env σ1 (db (nmB (List.take k l) (s :: List.drop (k + 1) l))) σ0) [KI.blk 3, KI.code (sub cNam [1, 1, 1, 1, 0, 1, 0, 0, 1, 1, 1]), KI.lp (sub cNam [1, 1, 1, 1, 0, 1, 0, 0]), KI.blk 2, KI.code (sub cNam [1, 1, 1, 1, 1])] (opsIn (sub cNam [1, 1, 1, 1, 0, 1, 0, 0, 1, 1, 0, 0, 1, 1])) (List.drop 2 (opsIn (sub cNam [1, 1, 1, 1, 0, 1, 0, 0, 1, 1, 0, 0, 1, 1])).toList) (mkE 52 [(3, D.raw (Value.map (some r))), (8, D.v (V.str s)), (31, D.v (V.list (List.map V.str l))), (32, di (↑(List.length l) : Int)), (33, di (↑k : Int)), (49, D.raw (Value.map (some r))), (50, D.v (V.str s))]) σ0))) = _) ?_
      refine ⟨fun h3 => ?_, fun h3 => ⟨?_⟩⟩
      · simp only [nmB, h3, Bool.not_true, Bool.false_and, Bool.and_false]
      · refine ro_setPutE (s := s) 49 50 rfl (by kernel_rfl) (by kernel_rfl) (by kernel_rfl) (by kernel_rfl) (by kernel_rfl) (by kernel_rfl) h3 ?_
        refine rest_s mixed 52 [1] 13 3 (.ls [ke 3, ke 31, ke 32, ch 33 (di (k + 1 : Nat))] σ0) ?_
        refine via (by kernel_rfl : (di (IntKind.wrap IntKind.i64 ((↑k : Int) + 1)) = di (↑(k + 1) : Int) ∧ Nv.It (RunC (CS (List.length σ0.H) r (List.take k l ++ [s])) PP (fun env σ1 => ResOK PP fNam env σ1 (db (nmB (List.take k l) (s :: List.drop (k + 1) l))) σ0) [KI.lp (sub cNam [1, 1, 1, 1, 0, 1, 0, 0]), KI.blk 2, KI.code (sub cNam [1, 1, 1, 1, 1])] (mkE 52 [(3, D.raw (Value.map (some r))), (31, D.v (V.list (List.map V.str l))), (32, di (↑(List.length l) : Int)), (33, di (↑(k + 1) : Int))]) σ0)) = _) ?_
        refine ⟨wrap_succ (by omega), ⟨?_⟩⟩
        simp only [nmB, h1, h2, h3, Bool.not_false, Bool.true_and]
        exact hih
  · have hk : l.length ≤ k := by simpa using h
    rw [List.drop_of_length_le hk]; rfl
theorem nam_loop1 (r : Nat) (m : Mod) (b : List (List UInt8)) (hm : m.rules.length ≤ 1000000) (hb : b.length + m.rules.length ≤ 1000000) (n : Nat) : ∀ k : Nat, m.rules.length - k = n → k ≤ m.rules.length →
    RunC (CS 0 r []) PP (fun env σ1 => ResOK PP fNam env σ1 (db (nmB [] (b ++ m.rules.map Rul.name))) σ0) [.lp (sub cNam [1, 1, 1, 0, 1, 0, 0]), .blk 0, .code (sub cNam [1, 1, 1, 1])] (mkE 52 [(3, .raw (.map (some r))), (4, accS (b ++ (m.rules.take k).map Rul.name)), (19, dl (m.rules.map vRul)), (20, di m.rules.length), (21, di k)]) (ownS (b ++ (m.rules.take k).map Rul.name)) := by
  induction n using Nat.strongRecOn with
  | _ n ih =>
  intro k hn hk0
  refine run_s mixed 52 [1] (.b (.e fun x : Rul => .h (.xs (vRul x)) <| .w <| .ls [ke 3, ch 4 (accS (b ++ (m.rules.take (k + 1)).map Rul.name)), ke 19, ke 20, ch 21 (di (k + 1 : Nat))] (ownS (b ++ (m.rules.take (k + 1)).map Rul.name))) (.h (.q 8 0) <| .h (.un 4) <| .ls [ke 3, ch 31 (dl ((b ++ m.rules.map Rul.name).map V.str)), ch 32 (di (b ++ m.rules.map Rul.name).length), ch 33 (di (0 : Nat))] σ0)) ?_
  refine via (by kernel_rfl : ((decide ((↑k : Int) < (↑(List.length m.rules) : Int)) = true → ∃ a, 14 = 14 ∧ 0 ≤ (↑k : Int) ∧ (List.map vRul m.rules)[Int.toNat (↑k : Int)]? = some (vRul a) ∧ List.map V.str (b ++ List.map Rul.name (List.take k m.rules)) = List.map V.str (b ++ List.map Rul.name (List.take k m.rules)) ∧ LenOK (List.length (List.map V.str (b ++ List.map Rul.name (List.take k m.rules))) + List.length (V.str a.name :: nV)) 16 ∧ (∀ (y : V), y ∈ [V.str a.name] → V.size y = 1) ∧ D.acc 1 (List.map V.str (b ++ List.map Rul.name (List.take k m.rules)) ++ [V.str a.name]) = accS (b ++ List.map Rul.name (List.take (k + 1) m.rules)) ∧ di (IntKind.wrap IntKind.i64 ((↑k : Int) + 1)) = di (↑(k + 1) : Int) ∧ [(1, 1, List.map V.str (b ++ List.map Rul.name (List.take k m.rules)) ++ V.str a.name :: nV)] = [(1, 1, List.map V.str (b ++ List.map Rul.name (List.take (k + 1) m.rules)))] ∧ Nv.It (RunC (CS 0 r []) PP (fun env σ1 => ResOK PP fNam env σ1 (db (nmB [] (b ++ List.map Rul.name m.rules))) σ0) [KI.lp (sub cNam [1, 1, 1, 0, 1, 0, 0]), KI.blk 0, KI.code (sub cNam [1, 1, 1, 1])] (mkE 52 [(3, D.raw (Value.map (some r))), (4, accS (b ++ List.map Rul.name (List.take (k + 1) m.rules))), (19, D.v (V.list (List.map vRul m.rules))), (20, di (↑(List.length m.rules) : Int)), (21, di (↑(k + 1) : Int))]) (ownS (b ++ List.map Rul.name (List.take (k + 1) m.rules))))) ∧ (decide ((↑k : Int) < (↑(List.length m.rules) : Int)) = false → D.v (V.list (List.map V.str (b ++ List.map Rul.name (List.take k m.rules)))) = dl (List.map V.str (b ++ List.map Rul.name m.rules)) ∧ di (↑(List.length (List.map V.str (b ++ List.map Rul.name (List.take k m.rules)))) : Int) = di (↑(List.length (b ++ List.map Rul.name m.rules)) : Int) ∧ di 0 = di (↑0 : Int) ∧ Nv.It (RunC (CS 0 r []) PP (fun env σ1 => ResOK PP fNam env σ1 (db (nmB [] (b ++ List.map Rul.name m.rules))) σ0) [KI.lp (sub cNam [1, 1, 1, 1, 0, 1, 0, 0]), KI.blk 2, KI.code (sub cNam [1, 1, 1, 1, 1])] (mkE 52 [(3, D.raw (Value.map (some r))), (31, dl (List.map V.str (b ++ List.map Rul.name m.rules))), (32, di (↑(List.length (b ++ List.map Rul.name m.rules)) : Int)), (33, di (↑0 : Int))]) σ0))) = _) ?_
  refine ⟨fun h => ?_, fun h => ?_⟩
  · have hk : k < m.rules.length := by simpa using h
    have hx : m.rules[k]? = some m.rules[k] := List.getElem?_eq_getElem hk
    have hih := ih (m.rules.length - (k + 1)) (by omega) (k + 1) rfl hk
    have hl : (b ++ (m.rules.take k).map Rul.name).length ≤ 1000000 := by simp; omega
    have ht : b ++ (m.rules.take (k + 1)).map Rul.name = b ++ (m.rules.take k).map Rul.name ++ [(m.rules[k]).name] := by rw [List.take_succ_eq_append_getElem hk, List.map_append, List.append_assoc]; rfl
    rw [ht] at hih ⊢
    generalize m.rules[k] = x at hx hih ⊢
    generalize b ++ (m.rules.take k).map Rul.name = p at hl hih ⊢
    refine ⟨x, rfl, by omega, by simp [hx], rfl, ?_, by simp [V.size], by simp, wrap_succ (by omega), by simp, ⟨hih⟩⟩
    exact ⟨by simp only [List.length_map, List.length_cons, List.length_nil]; omega, by simp only [List.length_map, List.length_cons, List.length_nil]; omega⟩
  · have hk : m.rules.length ≤ k := by simpa using h
    rw [List.take_of_length_le hk]
    refine ⟨rfl, by simp, rfl, ⟨?_⟩⟩
    exact nam_loop2 r _ (by simpa using hb) _ 0 rfl (by omega)
theorem nam_spec (m : Mod) (h1 : (baseM m).length + m.rules.length ≤ 1000000) : FSpec PP 44 [dMod m] σ0 (db (namedB m)) σ0 := by
  refine spec_vc mixed fNam cNam (by kernel_rfl) (by kernel_rfl) (by kernel_rfl) (by kernel_rfl) 52 (by kernel_rfl) [1] (.h (.q 1 0) <| .h (.s [ke 1]) .z) ?_
  refine via (by kernel_rfl : (Nv.It (RunO (CN (List.length σ0.H)) PP (fun env σ1 => ResOK PP fNam env σ1 (db (namedB m)) σ0) [KI.code (sub cNam [1, 1])] (opsIn (sub cNam [1, 0])) (List.drop 0 (opsIn (sub cNam [1, 0])).toList) (mkE 52 [(1, D.v (V.ref (vMod m)))]) σ0)) = _) ?_
  refine ⟨ro_makeMapE 9 rfl (by kernel_rfl) (by kernel_rfl) (by kernel_rfl) fun r => ?_⟩
  refine rest_s mixed 52 [1] 1 1 (.h (.ck 1 1 1 ((baseM m).map V.str)) <| .ls [ke 3, ch 4 (accS (baseM m ++ (m.rules.take 0).map Rul.name)), ke 19, ch 20 (di m.rules.length), ch 21 (di (0 : Nat))] (ownS (baseM m ++ (m.rules.take 0).map Rul.name))) ?_
  refine via (by kernel_rfl : (FSpec PP 67 [D.v (V.list [vSs m.states, vSs m.places, vSs m.letters])] (St.mk [] []) (D.acc 1 (List.map V.str (baseM m))) (St.mk [] [(1, 1, List.map V.str (baseM m))]) ∧ D.acc 1 (List.map V.str (baseM m)) = accS (baseM m ++ List.map Rul.name (List.take 0 m.rules)) ∧ di (↑(List.length (List.map vRul m.rules)) : Int) = di (↑(List.length m.rules) : Int) ∧ di 0 = di (↑0 : Int) ∧ [(1, 1, List.map V.str (baseM m))] = [(1, 1, List.map V.str (baseM m ++ []))] ∧ Nv.It (RunC (CS (List.length σ0.H) r []) PP (fun env σ1 => ResOK PP fNam env σ1 (db (namedB m)) σ0) [KI.lp (sub cNam [1, 1, 1, 0, 1, 0, 0]), KI.blk 0, KI.code (sub cNam [1, 1, 1, 1])] (mkE 52 [(3, D.raw (Value.map (some r))), (4, accS (baseM m ++ List.map Rul.name (List.take 0 m.rules))), (19, D.v (vRuls m.rules)), (20, di (↑(List.length m.rules) : Int)), (21, di (↑0 : Int))]) (ownS (baseM m ++ List.map Rul.name (List.take 0 m.rules))))) = _) ?_
  refine ⟨coSA_spec [m.states, m.places, m.letters] (by simp only [List.length_cons, List.length_nil]; omega) (by show (baseM m).length ≤ _; omega), by simp, by simp, rfl, by simp, ⟨?_⟩⟩
  exact nam_loop1 r m (baseM m) (by omega) h1 _ 0 rfl (by omega)
end Go.Proofs.YtopbcpgmffppjaaGreatDoor

namespace Go.Proofs.YtopbcpgmffppjaaGreatDoor
open Go.Dv Go.Nv
set_option maxRecDepth 20000
inductive Typ where
  | nat
  | lab (n : Int)
  | prod (l : List Typ)
  | word (t : Typ)
  | bag (t : Typ)
  | prio (n : Int) (r : List Int)
  deriving Inhabited
mutual
def Typ.enc : Typ → V
  | .nat => .agg [vi 1, vi 0, .list [], .list []]
  | .lab n => .agg [vi 2, vi n, .list [], .list []]
  | .prod l => .agg [vi 3, vi 0, .list [], .list (Typ.encs l)]
  | .word t => .agg [vi 4, vi 0, .list [], .list [t.enc]]
  | .bag t => .agg [vi 5, vi 0, .list [], .list [t.enc]]
  | .prio n r => .agg [vi 7, vi n, vIs r, .list []]
def Typ.encs : List Typ → List V
  | [] => []
  | t :: l => t.enc :: Typ.encs l
end
theorem Typ.encs_map : ∀ l : List Typ, Typ.encs l = l.map Typ.enc
  | [] => rfl
  | t :: l => by simp [Typ.encs, Typ.encs_map l]
abbrev vTy (k n : Int) (r : List Int) (l : List V) : V := .agg [vi k, vi n, vIs r, .list l]
def Typ.kd : Typ → Int
  | .nat => 1 | .lab _ => 2 | .prod _ => 3 | .word _ => 4 | .bag _ => 5 | .prio _ _ => 7
def Typ.sz : Typ → Int
  | .lab n => n | .prio n _ => n | _ => 0
def Typ.rk : Typ → List Int
  | .prio _ r => r | _ => []
def Typ.ps : Typ → List Typ
  | .prod l => l | .word t => [t] | .bag t => [t] | _ => []
abbrev eT : Typ → V := Typ.enc
abbrev vT (t : Typ) : V := vTy t.kd t.sz t.rk (t.ps.map eT)
abbrev dT (t : Typ) : D := .v (vT t)
theorem eT_eq (t : Typ) : eT t = vT t := by cases t <;> simp only [eT, Typ.enc, Typ.encs_map] <;> rfl
theorem idx_typ {a : List Typ} {i : Nat} {x : Typ} (h : a[i]? = some x) : (a.map eT)[((i : Nat) : Int).toNat]? = some (vT x) := by rw [← eT_eq]; exact idx_some h
theorem vT_word (t : Typ) : vT (.word t) = vTy 4 0 [] [vT t] := by rw [← eT_eq t]; rfl
theorem vT_bag (t : Typ) : vT (.bag t) = vTy 5 0 [] [vT t] := by rw [← eT_eq t]; rfl
/- LABELS -/
noncomputable abbrev fLab : Func := Tryz.f110
noncomputable def cLab : Code := fLab.body.getD .skip
def labB (n : Int) (v : Val) : Bool := decide (v.n ≥ 0) && (decide (v.n < n) && ((v.kids.length : Int) == 0))
theorem lab_spec (n : Int) (v : Val) : FSpec PP 110 [dV v, di n] σ0 (db (labB n v)) σ0 := by
  refine spec_vc mixed fLab cLab (by kernel_rfl) (by kernel_rfl) (by kernel_rfl) (by kernel_rfl) 20 (by kernel_rfl) [2] (.b (.b .r .r) .r) ?_
  refine via (by kernel_rfl : ((decide (Val.n v ≥ 0) = true → (decide (Val.n v < n) = true → db ((↑(List.length (List.map eV (Val.kids v))) : Int) == 0) = db (labB n v)) ∧ (decide (Val.n v < n) = false → db false = db (labB n v))) ∧ (decide (Val.n v ≥ 0) = false → db false = db (labB n v))) = _) ?_
  refine ⟨fun h1 => ⟨fun h2 => ?_, fun h2 => ?_⟩, fun h1 => ?_⟩ <;> (try simp only [List.length_map] at *) <;> simp_all [labB] <;> (intros; omega)
/- SORTED -/
noncomputable abbrev fSrt : Func := Tryz.f112
noncomputable def cSrt : Code := fSrt.body.getD .skip
def srtM (l : List Val) : Nat → Bool
  | 0 => true
  | k + 1 => if cmpV (l.getD (k + 1) default) (l.getD k default) < 0 then false else srtM l k
theorem srt_loop (l : List Val) (hs : Val.sizes l ≤ 1000000) (k : Nat) : k < l.length →
    Rn PP fSrt 0 (db (srtM l k)) σ0 ([.lp (sub cSrt [1, 0, 1, 0, 0]), .blk 0, .code (sub cSrt [1, 1])] ++ []) (mkE 25 [(0, dVs l), (1, dfn 39), (5, di k)]) σ0 := by
  induction k with
  | zero =>
    intro hk
    refine loop_vc mixed 25 [] (.f .r) ?_
    refine via (by kernel_rfl : (decide ((↑0 : Int) > 0) = false ∧ db true = db (srtM l 0)) = _) ?_
    exact ⟨rfl, rfl⟩
  | succ k ih =>
    intro hk
    refine loop_vc mixed 25 [] (.t <| .x (vVal (l.getD (k + 1) default)) <| .x (vVal (l.getD k default)) <| .c (di (cmpV (l.getD (k + 1) default) (l.getD k default))) <| .b .r (.l [ke 0, ke 1, ch 5 (di k)])) ?_
    refine via (by kernel_rfl : (decide ((↑(k + 1) : Int) > 0) = true ∧ 0 ≤ (↑(k + 1) : Int) ∧ (List.map eV l)[Int.toNat (↑(k + 1) : Int)]? = some (vVal (List.getD l (k + 1) default)) ∧ 0 ≤ IntKind.wrap IntKind.i64 ((↑(k + 1) : Int) - 1) ∧ (List.map eV l)[Int.toNat (IntKind.wrap IntKind.i64 ((↑(k + 1) : Int) - 1))]? = some (vVal (List.getD l k default)) ∧ FSpec PP 39 [D.v (vVal (List.getD l (k + 1) default)), D.v (vVal (List.getD l k default))] (St.mk [] []) (di (cmpV (List.getD l (k + 1) default) (List.getD l k default))) (St.mk [] []) ∧ (decide (cmpV (List.getD l (k + 1) default) (List.getD l k default) < 0) = true → db false = db (srtM l (k + 1))) ∧ (decide (cmpV (List.getD l (k + 1) default) (List.getD l k default) < 0) = false → di (IntKind.wrap IntKind.i64 ((↑(k + 1) : Int) - 1)) = di (↑k : Int) ∧ Nv.It (RunC (CN 0) PP (fun env σ1 => ResOK PP fSrt env σ1 (db (srtM l (k + 1))) σ0) [KI.lp (sub cSrt [1, 0, 1, 0, 0]), KI.blk 0, KI.code (sub cSrt [1, 1])] (mkE 25 [(0, D.v (vVs l)), (1, D.v (V.fn 39 [] [])), (5, di (↑k : Int))]) (St.mk [] [])))) = _) ?_
    have h1 : IntKind.i64.wrap (((k + 1 : Nat) : Int) - 1) = k := by rw [wrap_id (by have := Val.length_le l; omega) (by have := Val.length_le l; omega)]; omega
    have hx : l[k + 1]? = some (l.getD (k + 1) default) := by rw [List.getD_eq_getElem?_getD, List.getElem?_eq_getElem hk]; rfl
    have hy : l[k]? = some (l.getD k default) := by rw [List.getD_eq_getElem?_getD, List.getElem?_eq_getElem (by omega)]; rfl
    have hz : (l.getD (k + 1) default).size ≤ 1000000 := by have := Val.size_mem (List.mem_of_getElem? hx); omega
    rw [h1]
    refine ⟨by simp, by omega, idx_val hx, by omega, idx_val hy, cmpV_spec _ _ _ (Nat.le_refl _) hz, fun h2 => ?_, fun h2 => ⟨rfl, ⟨?_⟩⟩⟩
    · simp only [srtM, if_pos (of_decide_eq_true h2)]
    · simp only [srtM, if_neg (of_decide_eq_false h2)]
      exact ih (by omega)
def srtB (l : List Val) : Bool := srtM l (l.length - 1)
theorem srt_spec (l : List Val) (hs : Val.sizes l ≤ 1000000) : FSpec PP 112 [dVs l, dfn 39] σ0 (db (srtB l)) σ0 := by
  cases l with
  | nil =>
    refine spec_vc mixed fSrt cSrt (by kernel_rfl) (by kernel_rfl) (by kernel_rfl) (by kernel_rfl) 25 (by kernel_rfl) [] (.n <| .f .r) ?_
    refine via (by kernel_rfl : (decide (IntKind.wrap IntKind.i64 ((↑(List.length (List.map eV [])) : Int) - 1) > 0) = false ∧ db true = db (srtB [])) = _) ?_
    exact ⟨rfl, rfl⟩
  | cons v l =>
    refine spec_vc mixed fSrt cSrt (by kernel_rfl) (by kernel_rfl) (by kernel_rfl) (by kernel_rfl) 25 (by kernel_rfl) [] (.l [ke 0, ke 1, ch 5 (di (l.length : Nat))]) ?_
    refine via (by kernel_rfl : (di (IntKind.wrap IntKind.i64 ((↑(List.length (List.map eV (v :: l))) : Int) - 1)) = di (↑(List.length l) : Int) ∧ Nv.It (RunC (CN (List.length σ0.H)) PP (fun env σ1 => ResOK PP fSrt env σ1 (db (srtB (v :: l))) σ0) [KI.lp (sub cSrt [1, 0, 1, 0, 0]), KI.blk 0, KI.code (sub cSrt [1, 1])] (mkE 25 [(0, dVs (v :: l)), (1, dfn 39), (5, di (↑(List.length l) : Int))]) σ0)) = _) ?_
    have := Val.length_le (v :: l)
    have h1 : IntKind.i64.wrap ((((v :: l).map eV).length : Int) - 1) = l.length := by
      rw [List.length_map, List.length_cons] at *
      rw [wrap_id (by omega) (by omega)]; omega
    rw [h1]
    exact ⟨rfl, ⟨srt_loop (v :: l) hs l.length (by simp)⟩⟩
/- WHICH VALUES ARE OF A TYPE -/
mutual
def oneB : Typ → Val → Bool
  | .nat, v => decide (v.n ≥ 0) && (decide (v.n ≤ 1048576) && ((v.kids.length : Int) == 0))
  | .lab n, v => labB n v
  | .prod l, v => (v.n == 0) && (((v.kids.length : Int) == l.length) && onesB l v.kids)
  | .word t, v => (v.n == 0) && (decide ((v.kids.length : Int) ≤ 12) && v.kids.all (fun k => oneB t k))
  | .bag t, v => ((v.n == 0) && (decide ((v.kids.length : Int) ≤ 12) && v.kids.all (fun k => oneB t k))) && srtB v.kids
  | .prio n _, v => (v.n == 0) && (decide ((v.kids.length : Int) ≤ 12) && v.kids.all (fun k => labB n k))
def onesB : List Typ → List Val → Bool
  | t :: l, v :: vs => oneB t v && onesB l vs
  | _, _ => true
end
noncomputable abbrev fOne : Func := Tryz.f81
noncomputable def cOne : Code := fOne.body.getD .skip
noncomputable abbrev fLstV : Func := Tryz.f111
noncomputable def cLstV : Code := fLstV.body.getD .skip
noncomputable abbrev fLstV1 : Func := Tryz.f131
noncomputable def cLstV1 : Code := fLstV1.body.getD .skip
noncomputable abbrev fOne1 : Func := Tryz.f115
noncomputable def cOne1 : Code := fOne1.body.getD .skip
theorem any_not {α : Type} (l : List α) (p : α → Bool) : (!l.any fun k => !p k) = l.all p := by
  induction l with
  | nil => rfl
  | cons x l ih => simp only [List.any_cons, List.all_cons, Bool.not_or, Bool.not_not, ih]
theorem one1_spec (n : Int) (r : List Int) (v : Val) : FSpec PP 115 [dV v, .v (.ref (vT (.prio n r)))] σ0 (db (!labB n v)) σ0 := by
  refine spec_vc mixed fOne1 cOne1 (by kernel_rfl) (by kernel_rfl) (by kernel_rfl) (by kernel_rfl) 9 (by kernel_rfl) [2] (.c (db (labB n v)) .r) ?_
  refine via (by kernel_rfl : (FSpec PP 110 [D.v (vVal v), di (Typ.sz (Typ.prio n r))] (St.mk [] []) (db (labB n v)) (St.mk [] []) ∧ (db !labB n v) = db !labB n v) = _) ?_
  exact ⟨lab_spec n v, rfl⟩
theorem list1_spec (t : Typ) (v : Val) (h : FSpec PP 81 [dT t, dV v] σ0 (db (oneB t v)) σ0) : FSpec PP 131 [dV v, .v (.ref (vT t))] σ0 (db (!oneB t v)) σ0 := by
  refine spec_vc mixed fLstV1 cLstV1 (by kernel_rfl) (by kernel_rfl) (by kernel_rfl) (by kernel_rfl) 8 (by kernel_rfl) [2] (.c (db (oneB t v)) .r) ?_
  refine via (by kernel_rfl : (FSpec PP 81 [D.v (vT t), D.v (vVal v)] (St.mk [] []) (db (oneB t v)) (St.mk [] []) ∧ (db !oneB t v) = db !oneB t v) = _) ?_
  exact ⟨h, rfl⟩
def listB (t : Typ) (v : Val) : Bool := (v.n == 0) && (decide ((v.kids.length : Int) ≤ 12) && v.kids.all (fun k => oneB t k))
theorem len12 {v : Val} (h : decide (((v.kids.map eV).length : Int) ≤ 12) = true) : v.kids.length ≤ 1000000 := by
  have h := of_decide_eq_true h
  rw [List.length_map] at h
  omega
theorem list_spec (t : Typ) (v : Val) (h : ∀ k ∈ v.kids, FSpec PP 81 [dT t, dV k] σ0 (db (oneB t k)) σ0) : FSpec PP 111 [dV v, dT t] σ0 (db (listB t v)) σ0 := by
  refine spec_vc mixed fLstV cLstV (by kernel_rfl) (by kernel_rfl) (by kernel_rfl) (by kernel_rfl) 21 (by kernel_rfl) [2, 3] (.b (.b (.c (db (v.kids.any fun k => !oneB t k)) .r) .r) .r) ?_
  refine via (by kernel_rfl : (((Val.n v == 0) = true → (decide ((↑(List.length (List.map eV (Val.kids v))) : Int) ≤ 12) = true → FSpec PP 114 [D.v (vVs (Val.kids v)), D.v (V.fn 131 [] [V.ref (vT t)])] (St.mk [] []) (db (List.any (Val.kids v) fun k => !oneB t k)) (St.mk [] []) ∧ (db !List.any (Val.kids v) fun k => !oneB t k) = db (listB t v)) ∧ (decide ((↑(List.length (List.map eV (Val.kids v))) : Int) ≤ 12) = false → db false = db (listB t v))) ∧ ((Val.n v == 0) = false → db false = db (listB t v))) = _) ?_
  refine ⟨fun h1 => ⟨fun h2 => ⟨hasV_spec _ [] [_] _ v.kids (len12 h2) fun k hk => list1_spec t k (h k hk), ?_⟩, fun h2 => ?_⟩, fun h1 => ?_⟩
  · rw [any_not]; simp_all [listB]
  all_goals (simp_all [listB] <;> (intros; omega))
theorem one_nat (v : Val) : FSpec PP 81 [dT .nat, dV v] σ0 (db (oneB .nat v)) σ0 := by
  refine spec_vc mixed fOne cOne (by kernel_rfl) (by kernel_rfl) (by kernel_rfl) (by kernel_rfl) 110 (by kernel_rfl) [2, 3] (.k <| .b (.b .r .r) .r) ?_
  refine via (by kernel_rfl : ((decide (Val.n v ≥ 0) = true → (decide (Val.n v ≤ 1048576) = true → db ((↑(List.length (List.map eV (Val.kids v))) : Int) == 0) = db (oneB Typ.nat v)) ∧ (decide (Val.n v ≤ 1048576) = false → db false = db (oneB Typ.nat v))) ∧ (decide (Val.n v ≥ 0) = false → db false = db (oneB Typ.nat v))) = _) ?_
  refine ⟨fun h1 => ⟨fun h2 => ?_, fun h2 => ?_⟩, fun h1 => ?_⟩ <;> simp_all [oneB] <;> (intros; omega)
theorem one_lab (n : Int) (v : Val) : FSpec PP 81 [dT (.lab n), dV v] σ0 (db (oneB (.lab n) v)) σ0 := by
  refine spec_vc mixed fOne cOne (by kernel_rfl) (by kernel_rfl) (by kernel_rfl) (by kernel_rfl) 110 (by kernel_rfl) [2, 3] (.c (db (labB n v)) .r) ?_
  refine via (by kernel_rfl : (FSpec PP 110 [D.v (vVal v), di (Typ.sz (Typ.lab n))] (St.mk [] []) (db (labB n v)) (St.mk [] []) ∧ db (labB n v) = db (oneB (Typ.lab n) v)) = _) ?_
  exact ⟨lab_spec n v, by simp only [oneB]⟩
theorem one_prio (n : Int) (r : List Int) (v : Val) : FSpec PP 81 [dT (.prio n r), dV v] σ0 (db (oneB (.prio n r) v)) σ0 := by
  refine spec_vc mixed fOne cOne (by kernel_rfl) (by kernel_rfl) (by kernel_rfl) (by kernel_rfl) 110 (by kernel_rfl) [2, 3] (.k <| .k <| .k <| .k <| .k <| .k <| .b (.b (.c (db (v.kids.any fun k => !labB n k)) .r) .r) .r) ?_
  refine via (by kernel_rfl : (((Val.n v == 0) = true → (decide ((↑(List.length (List.map eV (Val.kids v))) : Int) ≤ 12) = true → FSpec PP 114 [D.v (vVs (Val.kids v)), D.v (V.fn 115 [] [V.ref (vT (Typ.prio n r))])] (St.mk [] []) (db (List.any (Val.kids v) fun k => !labB n k)) (St.mk [] []) ∧ (db !List.any (Val.kids v) fun k => !labB n k) = db (oneB (Typ.prio n r) v)) ∧ (decide ((↑(List.length (List.map eV (Val.kids v))) : Int) ≤ 12) = false → db false = db (oneB (Typ.prio n r) v))) ∧ ((Val.n v == 0) = false → db false = db (oneB (Typ.prio n r) v))) = _) ?_
  refine ⟨fun h1 => ⟨fun h2 => ⟨hasV_spec _ [] [_] _ v.kids (len12 h2) fun k hk => one1_spec n r k, ?_⟩, fun h2 => ?_⟩, fun h1 => ?_⟩
  · rw [any_not]; simp_all [oneB]
  all_goals (simp_all [oneB] <;> (intros; omega))
theorem one_word (t : Typ) (v : Val) (h : ∀ k ∈ v.kids, FSpec PP 81 [dT t, dV k] σ0 (db (oneB t k)) σ0) : FSpec PP 81 [dT (.word t), dV v] σ0 (db (oneB (.word t) v)) σ0 := by
  rw [dT, vT_word]
  refine spec_vc mixed fOne cOne (by kernel_rfl) (by kernel_rfl) (by kernel_rfl) (by kernel_rfl) 110 (by kernel_rfl) [2, 3] (.x (vT t) <| .c (db (listB t v)) .r) ?_
  refine via (by kernel_rfl : (iz 0 ≤ 0 ∧ some (vT t) = some (vT t) ∧ FSpec PP 111 [D.v (vVal v), D.v (vT t)] (St.mk [] []) (db (listB t v)) (St.mk [] []) ∧ db (listB t v) = db (oneB (Typ.word t) v)) = _) ?_
  exact ⟨by decide, rfl, list_spec t v h, by simp only [oneB, listB]⟩
theorem one_bag (t : Typ) (v : Val) (hv : v.size ≤ 1000000) (h : ∀ k ∈ v.kids, FSpec PP 81 [dT t, dV k] σ0 (db (oneB t k)) σ0) : FSpec PP 81 [dT (.bag t), dV v] σ0 (db (oneB (.bag t) v)) σ0 := by
  rw [dT, vT_bag]
  refine spec_vc mixed fOne cOne (by kernel_rfl) (by kernel_rfl) (by kernel_rfl) (by kernel_rfl) 110 (by kernel_rfl) [2, 3] (.x (vT t) <| .c (db (listB t v)) <| .b (.c (db (srtB v.kids)) .r) .r) ?_
  refine via (by kernel_rfl : (iz 0 ≤ 0 ∧ some (vT t) = some (vT t) ∧ FSpec PP 111 [D.v (vVal v), D.v (vT t)] (St.mk [] []) (db (listB t v)) (St.mk [] []) ∧ (listB t v = true → FSpec PP 112 [D.v (vVs (Val.kids v)), D.v (V.fn 39 [] [])] (St.mk [] []) (db (srtB (Val.kids v))) (St.mk [] []) ∧ db (srtB (Val.kids v)) = db (oneB (Typ.bag t) v)) ∧ (listB t v = false → db false = db (oneB (Typ.bag t) v))) = _) ?_
  have := Val.size_eq v
  refine ⟨by decide, rfl, list_spec t v h, fun h1 => ⟨srt_spec v.kids (by omega), ?_⟩, fun h1 => ?_⟩
  · simp only [listB] at h1; simp only [oneB, h1, Bool.true_and]
  · simp only [listB] at h1; simp only [oneB, h1, Bool.false_and]
theorem prod_loop (l : List Typ) (v : Val) (hl : v.kids.length = l.length) (hv : v.kids.length ≤ 1000000) (h : ∀ t ∈ l, ∀ k ∈ v.kids, FSpec PP 81 [dT t, dV k] σ0 (db (oneB t k)) σ0) (n : Nat) : ∀ k : Nat, l.length - k = n →
    Rn PP fOne 0 (db (onesB (l.drop k) (v.kids.drop k))) σ0 ([.lp (sub cOne [1, 0, 1, 0, 1, 1, 1, 1, 1, 0, 1, 0, 1, 0, 0]), .blk 1, .code (sub cOne [1, 0, 1, 0, 1, 1, 1, 1, 1, 0, 1, 1]), .blk 0, .code (sub cOne [1, 1])] ++ []) (mkE 110 [(2, .v (.ref (vT (.prod l)))), (46, dVs v.kids), (47, di v.kids.length), (48, di k)]) σ0 := by
  induction n using Nat.strongRecOn with
  | _ n ih =>
  intro k hn
  refine loop_vc mixed 110 [2, 3] (.b (.e fun x : Val => .x (vVal x) <| .e fun t : Typ => .x (vT t) <| .c (db (oneB t x)) <| .b .r (.ls [ke 2, ke 46, ke 47, ch 48 (di (k + 1 : Nat))] σ0)) .r) ?_
  refine via (by kernel_rfl : ((decide ((↑k : Int) < (↑(List.length (Val.kids v)) : Int)) = true → ∃ a, 0 ≤ (↑k : Int) ∧ (List.map eV (Val.kids v))[Int.toNat (↑k : Int)]? = some (vVal a) ∧ ∃ a_1, 0 ≤ (↑k : Int) ∧ (List.map eT (Typ.ps (Typ.prod l)))[Int.toNat (↑k : Int)]? = some (vT a_1) ∧ FSpec PP 81 [D.v (vT a_1), D.v (V.agg [vi (Val.n a), vVs (Val.kids a)])] (St.mk [] []) (db (oneB a_1 a)) (St.mk [] []) ∧ (True ∧ True) ∧ ((!oneB a_1 a) = true → db false = db (onesB (List.drop k l) (List.drop k (Val.kids v)))) ∧ ((!oneB a_1 a) = false → di (IntKind.wrap IntKind.i64 ((↑k : Int) + 1)) = di (↑(k + 1) : Int) ∧ Nv.It (RunC (CN 0) PP (fun env σ1 => ResOK PP fOne env σ1 (db (onesB (List.drop k l) (List.drop k (Val.kids v)))) σ0) [KI.lp (sub cOne [1, 0, 1, 0, 1, 1, 1, 1, 1, 0, 1, 0, 1, 0, 0]), KI.blk 1, KI.code (sub cOne [1, 0, 1, 0, 1, 1, 1, 1, 1, 0, 1, 1]), KI.blk 0, KI.code (sub cOne [1, 1])] (mkE 110 [(2, D.v (V.ref (vT (Typ.prod l)))), (46, D.v (vVs (Val.kids v))), (47, di (↑(List.length (Val.kids v)) : Int)), (48, di (↑(k + 1) : Int))]) σ0))) ∧ (decide ((↑k : Int) < (↑(List.length (Val.kids v)) : Int)) = false → db true = db (onesB (List.drop k l) (List.drop k (Val.kids v))))) = _) ?_
  refine ⟨fun h1 => ?_, fun h1 => ?_⟩
  · have hk : k < v.kids.length := by simpa using h1
    have hk2 : k < l.length := by omega
    have hx : v.kids[k]? = some v.kids[k] := List.getElem?_eq_getElem hk
    have hy : l[k]? = some l[k] := List.getElem?_eq_getElem hk2
    rw [List.drop_eq_getElem_cons hk, List.drop_eq_getElem_cons hk2]
    generalize v.kids[k] = x at hx ⊢
    generalize l[k] = t at hy ⊢
    refine ⟨x, by omega, idx_val hx, t, by omega, idx_typ hy, h t (List.mem_of_getElem? hy) x (List.mem_of_getElem? hx), ⟨trivial, trivial⟩, fun h2 => ?_, fun h2 => ⟨wrap_succ (by omega), ⟨?_⟩⟩⟩
    · have h2 : oneB t x = false := by simpa using h2
      simp only [onesB, h2, Bool.false_and]
    · have h2 : oneB t x = true := by simpa using h2
      simp only [onesB, h2, Bool.true_and]
      exact ih (l.length - (k + 1)) (by omega) (k + 1) rfl
  · have hk : v.kids.length ≤ k := by simpa using h1
    rw [List.drop_of_length_le hk, List.drop_of_length_le (by omega)]; simp only [onesB]
theorem one_prod (l : List Typ) (v : Val) (hv : v.size ≤ 1000000) (h : ∀ t ∈ l, ∀ k ∈ v.kids, FSpec PP 81 [dT t, dV k] σ0 (db (oneB t k)) σ0) : FSpec PP 81 [dT (.prod l), dV v] σ0 (db (oneB (.prod l) v)) σ0 := by
  refine spec_vc mixed fOne cOne (by kernel_rfl) (by kernel_rfl) (by kernel_rfl) (by kernel_rfl) 110 (by kernel_rfl) [2, 3] (.k <| .k <| .k <| .b .r (.b .r (.l [ke 2, ke 46, ch 47 (di v.kids.length), ch 48 (di (0 : Nat))]))) ?_
  refine via (by kernel_rfl : (((Val.n v != 0) = true → db false = db (oneB (Typ.prod l) v)) ∧ ((Val.n v != 0) = false → (((↑(List.length (List.map eV (Val.kids v))) : Int) != (↑(List.length (List.map eT (Typ.ps (Typ.prod l)))) : Int)) = true → db false = db (oneB (Typ.prod l) v)) ∧ (((↑(List.length (List.map eV (Val.kids v))) : Int) != (↑(List.length (List.map eT (Typ.ps (Typ.prod l)))) : Int)) = false → di (↑(List.length (List.map eV (Val.kids v))) : Int) = di (↑(List.length (Val.kids v)) : Int) ∧ di 0 = di (↑0 : Int) ∧ Nv.It (RunC (CN (List.length σ0.H)) PP (fun env σ1 => ResOK PP fOne env σ1 (db (oneB (Typ.prod l) v)) σ0) [KI.lp (sub cOne [1, 0, 1, 0, 1, 1, 1, 1, 1, 0, 1, 0, 1, 0, 0]), KI.blk 1, KI.code (sub cOne [1, 0, 1, 0, 1, 1, 1, 1, 1, 0, 1, 1]), KI.blk 0, KI.code (sub cOne [1, 1])] (mkE 110 [(2, D.v (V.ref (vT (Typ.prod l)))), (46, D.v (vVs (Val.kids v))), (47, di (↑(List.length (Val.kids v)) : Int)), (48, di (↑0 : Int))]) σ0)))) = _) ?_
  have hlen := Val.length_le v.kids
  have hsz := Val.size_eq v
  refine ⟨fun h1 => ?_, fun h1 => ⟨fun h2 => ?_, fun h2 => ⟨by rw [List.length_map], rfl, ⟨?_⟩⟩⟩⟩
  · have h1 : (v.n == 0) = false := by simpa using h1
    simp only [oneB, h1, Bool.false_and]
  · have h2 : ((v.kids.length : Int) == l.length) = false := by simpa [Typ.ps] using h2
    simp only [oneB, h2, Bool.false_and, Bool.and_false]
  · have h1 : (v.n == 0) = true := by simpa using h1
    have h2 : (v.kids.length : Int) = l.length := by simpa [Typ.ps] using h2
    have h3 : ((v.kids.length : Int) == l.length) = true := by simpa using h2
    simp only [oneB, h1, h3, Bool.true_and]
    exact prod_loop l v (by omega) (by omega) h _ 0 rfl
/-- the contract of `one` -/
theorem one_spec (N : Nat) : ∀ (t : Typ), SizeOf.sizeOf t ≤ N → ∀ v : Val, v.size ≤ 1000000 → FSpec PP 81 [dT t, dV v] σ0 (db (oneB t v)) σ0 := by
  induction N with
  | zero => intro t ht; cases t <;> simp at ht <;> omega
  | succ N ih =>
    intro t ht v hv
    have hk : ∀ k ∈ v.kids, k.size ≤ 1000000 := fun k hk => by have := Val.size_mem hk; have := Val.size_eq v; omega
    cases t with
    | nat => exact one_nat v
    | lab n => exact one_lab n v
    | prio n r => exact one_prio n r v
    | word t => exact one_word t v fun k h => ih t (by simp at ht; omega) k (hk k h)
    | bag t => exact one_bag t v hv fun k h => ih t (by simp at ht; omega) k (hk k h)
    | prod l => exact one_prod l v hv fun t h k h' => ih t (by have := List.sizeOf_lt_of_mem h; simp at ht; omega) k (hk k h')
end Go.Proofs.YtopbcpgmffppjaaGreatDoor
