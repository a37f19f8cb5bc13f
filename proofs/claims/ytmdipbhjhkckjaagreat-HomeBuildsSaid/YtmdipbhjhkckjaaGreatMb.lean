/-
 Made counter models as data; they are valid: run by the kernel, number by bounds.
-/
import Derived.Test.YtmdipbhjhkckjaaGreatCy
import Derived.Test.YtmdipbhjhkckjaaGreatHx
namespace Go.Proofs.YtmdipbhjhkckjaaGreat
open Go.Dv Go.Ci
abbrev vN (n : Int) : V := .agg [.int .i64 n, .nils]
abbrev vK (c : List Int) : V := .list (c.map vN)
abbrev vCf (c : List Int) : V := .agg [.int .i64 0, vK c]
structure Rl where
 name : List UInt8
 frm : Int
 to : Int
 need : List Int
 give : List Int
abbrev vRl (r : Rl) : V := .agg [.str r.name, .int .i64 r.frm, .int .i64 r.to, .list (r.need.map vi), .list (r.give.map vi), .nils, .int .i64 0, .int .i64 0, .int .i64 0, .nils, .nils, .nils, .nils, .int .i64 0]
structure Md where
 ns : Nat
 np : Nat
 rules : List Rl
 start : List Int
def nmS : List (List UInt8) := [[97], [98]]
def nmP : List (List UInt8) := [[120], [121]]
def nmR : List (List UInt8) := [[114], [115], [116]]
abbrev vNm (l : List (List UInt8)) : V := .list (l.map V.str)
abbrev vMd (m : Md) : V := .agg [.int .i64 1, vNm (nmS.take m.ns), vNm (nmP.take m.np), .nils, .nils, .int .i64 0, .int .i64 0, .list (m.rules.map vRl), .int .i64 0, vK m.start]
structure RlOK (ns np : Nat) (r : Rl) : Prop where
 f0 : 0 ≤ r.frm
 f1 : r.frm < ns
 t0 : 0 ≤ r.to
 t1 : r.to < ns
 nl : r.need.length = np
 gl : r.give.length = np
 n : ∀ x ∈ r.need, 0 ≤ x ∧ x ≤ 2
 g : ∀ x ∈ r.give, 0 ≤ x ∧ x ≤ 2
structure CfOK (ns np : Nat) (c : List Int) : Prop where
 len : c.length = np + 1
 st : ∀ s ∈ c.head?, 0 ≤ s ∧ s < ns
 num : ∀ x ∈ c.tail, 0 ≤ x ∧ x ≤ 6
structure MdOK (m : Md) : Prop where
 s0 : 1 ≤ m.ns
 s1 : m.ns ≤ 2
 p0 : 1 ≤ m.np
 p1 : m.np ≤ 2
 k0 : 1 ≤ m.rules.length
 k1 : m.rules.length ≤ 3
 names : m.rules.map Rl.name = nmR.take m.rules.length
 rl : ∀ r ∈ m.rules, RlOK m.ns m.np r
 st : ∃ l : List Int, m.start = 0 :: l ∧ l.length = m.np ∧ ∀ x ∈ l, 0 ≤ x ∧ x ≤ 3
def sI (n : Int) : SV := .data (.int .i64 n)
def sN : SV := .data .nils
def sRl (ns np : Nat) (name : List UInt8) : SV := .agg [.data (.str name), .sym 0 (ns - 1), .sym 0 (ns - 1), .list (List.replicate np (.sym 0 2)), .list (List.replicate np (.sym 0 2)), sN, sI 0, sI 0, sI 0, sN, sN, sN, sN, sI 0]
def sLf (lo hi : Int) : SV := .agg [.sym lo hi, sN]
def sMd (ns np k : Nat) : SV := .agg [sI 1, .data (vNm (nmS.take ns)), .data (vNm (nmP.take np)), sN, sN, sI 0, sI 0, .list ((nmR.take k).map (sRl ns np)), sI 0, .list (sLf 0 0 :: List.replicate np (sLf 0 3))]
def sCf (ns np : Nat) : SV := .agg [sI 0, .list (sLf 0 (ns - 1) :: List.replicate np (sLf 0 6))]
theorem fits_rep {lo hi : Int} : ∀ {l : List Int} {n : Nat}, l.length = n → (∀ x ∈ l, lo ≤ x ∧ x ≤ hi) → FitsL (List.replicate n (.sym lo hi)) (l.map vi)
 | [], n, h, _ => by subst h; exact .nil
 | x :: l, n, h, hl => by
  subst h
  rw [List.length_cons, List.replicate_succ]
  exact .cons (.sym (hl x (by simp)).1 (hl x (by simp)).2) (fits_rep rfl fun y hy => hl y (by simp [hy]))
theorem fits_lf {lo hi : Int} : ∀ {l : List Int} {n : Nat}, l.length = n → (∀ x ∈ l, lo ≤ x ∧ x ≤ hi) → FitsL (List.replicate n (sLf lo hi)) (l.map vN)
 | [], n, h, _ => by subst h; exact .nil
 | x :: l, n, h, hl => by
  subst h
  rw [List.length_cons, List.replicate_succ]
  exact .cons (.agg (.cons (.sym (hl x (by simp)).1 (hl x (by simp)).2) (.cons (.data _) .nil))) (fits_lf rfl fun y hy => hl y (by simp [hy]))
theorem fits_rl {ns np : Nat} {r : Rl} (h : RlOK ns np r) : Fits (sRl ns np r.name) (vRl r) := by
 have h1 := h.f1
 have h2 := h.t1
 exact .agg (.cons (.data _) (.cons (.sym h.f0 (by omega)) (.cons (.sym h.t0 (by omega)) (.cons (.list (fits_rep h.nl h.n)) (.cons (.list (fits_rep h.gl h.g)) (FitsL.data [_, _, _, _, _, _, _, _, _]))))))
theorem fits_rls {ns np : Nat} : ∀ {rs : List Rl} {l : List (List UInt8)}, rs.map Rl.name = l → (∀ r ∈ rs, RlOK ns np r) → FitsL (l.map (sRl ns np)) (rs.map vRl)
 | [], l, h, _ => by subst h; exact .nil
 | r :: rs, l, h, hr => by
  subst h
  exact .cons (fits_rl (hr r (by simp))) (fits_rls rfl fun q hq => hr q (by simp [hq]))
theorem fits_md {m : Md} (h : MdOK m) : Fits (sMd m.ns m.np m.rules.length) (vMd m) := by
 obtain ⟨l, e, hl, hn⟩ := h.st
 unfold sMd
 refine .agg (.cons (.data _) (.cons (.data _) (.cons (.data _) (.cons (.data _) (.cons (.data _) (.cons (.data _) (.cons (.data _) (.cons (.list (fits_rls h.names h.rl)) (.cons (.data _) (.cons (.list ?_) .nil))))))))))
 rw [e, List.map_cons]
 exact .cons (.agg (.cons (.sym (Int.le_refl _) (Int.le_refl _)) (.cons (.data _) .nil))) (fits_lf hl hn)
theorem fits_cf {ns np : Nat} {c : List Int} (h : CfOK ns np c) : Fits (sCf ns np) (vCf c) := by
 have hl := h.len
 match c, h, hl with
 | s :: l, h, hl =>
  have h1 := h.st s (by simp)
  refine .agg (.cons (.data _) (.cons (.list ?_) .nil))
  rw [List.map_cons]
  exact .cons (.agg (.cons (.sym h1.1 (by omega)) (.cons (.data _) .nil))) (fits_lf (by simpa using hl) h.num)
theorem runCheck_111 : isCV (runS PP (fun _ => none) 60 54 [sMd 1 1 1]) (.int .i64 0) = true := by kernel_rfl
theorem runCheck_112 : isCV (runS PP (fun _ => none) 60 54 [sMd 1 1 2]) (.int .i64 0) = true := by kernel_rfl
theorem runCheck_113 : isCV (runS PP (fun _ => none) 60 54 [sMd 1 1 3]) (.int .i64 0) = true := by kernel_rfl
theorem runCheck_121 : isCV (runS PP (fun _ => none) 60 54 [sMd 1 2 1]) (.int .i64 0) = true := by kernel_rfl
theorem runCheck_122 : isCV (runS PP (fun _ => none) 60 54 [sMd 1 2 2]) (.int .i64 0) = true := by kernel_rfl
theorem runCheck_123 : isCV (runS PP (fun _ => none) 60 54 [sMd 1 2 3]) (.int .i64 0) = true := by kernel_rfl
theorem runCheck_211 : isCV (runS PP (fun _ => none) 60 54 [sMd 2 1 1]) (.int .i64 0) = true := by kernel_rfl
theorem runCheck_212 : isCV (runS PP (fun _ => none) 60 54 [sMd 2 1 2]) (.int .i64 0) = true := by kernel_rfl
theorem runCheck_213 : isCV (runS PP (fun _ => none) 60 54 [sMd 2 1 3]) (.int .i64 0) = true := by kernel_rfl
theorem runCheck_221 : isCV (runS PP (fun _ => none) 60 54 [sMd 2 2 1]) (.int .i64 0) = true := by kernel_rfl
theorem runCheck_222 : isCV (runS PP (fun _ => none) 60 54 [sMd 2 2 2]) (.int .i64 0) = true := by kernel_rfl
theorem runCheck_223 : isCV (runS PP (fun _ => none) 60 54 [sMd 2 2 3]) (.int .i64 0) = true := by kernel_rfl
theorem mdCheck {m : Md} (h : MdOK m) : FSpec PP 54 [.v (vMd m)] ⟨[], []⟩ (.v (.int .i64 0)) ⟨[], []⟩ := by
 have hf := fits_md h
 have h1 := h.s0
 have h2 := h.s1
 have h3 := h.p0
 have h4 := h.p1
 have h5 := h.k0
 have h6 := h.k1
 have key : runS PP (fun _ => none) 60 54 [sMd m.ns m.np m.rules.length] = some (.int .i64 0) := by
  clear hf
  rcases (show m.ns = 1 ∨ m.ns = 2 by omega) with e1 | e1 <;> rcases (show m.np = 1 ∨ m.np = 2 by omega) with e2 | e2 <;> rcases (show m.rules.length = 1 ∨ m.rules.length = 2 ∨ m.rules.length = 3 by omega) with e3 | e3 | e3 <;> rw [e1, e2, e3]
  ·exact isCV_eq runCheck_111
  ·exact isCV_eq runCheck_112
  ·exact isCV_eq runCheck_113
  ·exact isCV_eq runCheck_121
  ·exact isCV_eq runCheck_122
  ·exact isCV_eq runCheck_123
  ·exact isCV_eq runCheck_211
  ·exact isCV_eq runCheck_212
  ·exact isCV_eq runCheck_213
  ·exact isCV_eq runCheck_221
  ·exact isCV_eq runCheck_222
  ·exact isCV_eq runCheck_223
 exact (runS_T (tab0 PP) mixed key (.cons hf .nil)).f rfl
theorem runValid_111 : isCV (runS PP (fun _ => none) 60 85 [sMd 1 1 1, sCf 1 1]) (.bool true) = true := by kernel_rfl
theorem runValid_112 : isCV (runS PP (fun _ => none) 60 85 [sMd 1 1 2, sCf 1 1]) (.bool true) = true := by kernel_rfl
theorem runValid_113 : isCV (runS PP (fun _ => none) 60 85 [sMd 1 1 3, sCf 1 1]) (.bool true) = true := by kernel_rfl
theorem runValid_121 : isCV (runS PP (fun _ => none) 60 85 [sMd 1 2 1, sCf 1 2]) (.bool true) = true := by kernel_rfl
theorem runValid_122 : isCV (runS PP (fun _ => none) 60 85 [sMd 1 2 2, sCf 1 2]) (.bool true) = true := by kernel_rfl
theorem runValid_123 : isCV (runS PP (fun _ => none) 60 85 [sMd 1 2 3, sCf 1 2]) (.bool true) = true := by kernel_rfl
theorem runValid_211 : isCV (runS PP (fun _ => none) 60 85 [sMd 2 1 1, sCf 2 1]) (.bool true) = true := by kernel_rfl
theorem runValid_212 : isCV (runS PP (fun _ => none) 60 85 [sMd 2 1 2, sCf 2 1]) (.bool true) = true := by kernel_rfl
theorem runValid_213 : isCV (runS PP (fun _ => none) 60 85 [sMd 2 1 3, sCf 2 1]) (.bool true) = true := by kernel_rfl
theorem runValid_221 : isCV (runS PP (fun _ => none) 60 85 [sMd 2 2 1, sCf 2 2]) (.bool true) = true := by kernel_rfl
theorem runValid_222 : isCV (runS PP (fun _ => none) 60 85 [sMd 2 2 2, sCf 2 2]) (.bool true) = true := by kernel_rfl
theorem runValid_223 : isCV (runS PP (fun _ => none) 60 85 [sMd 2 2 3, sCf 2 2]) (.bool true) = true := by kernel_rfl
theorem mdValid {m : Md} (h : MdOK m) {c : List Int} (hc : CfOK m.ns m.np c) : FSpec PP 85 [.v (vMd m), .v (vCf c)] ⟨[], []⟩ (.v (.bool true)) ⟨[], []⟩ := by
 have hf := fits_md h
 have h1 := h.s0
 have h2 := h.s1
 have h3 := h.p0
 have h4 := h.p1
 have h5 := h.k0
 have h6 := h.k1
 have key : runS PP (fun _ => none) 60 85 [sMd m.ns m.np m.rules.length, sCf m.ns m.np] = some (.bool true) := by
  clear hf hc
  rcases (show m.ns = 1 ∨ m.ns = 2 by omega) with e1 | e1 <;> rcases (show m.np = 1 ∨ m.np = 2 by omega) with e2 | e2 <;> rcases (show m.rules.length = 1 ∨ m.rules.length = 2 ∨ m.rules.length = 3 by omega) with e3 | e3 | e3 <;> rw [e1, e2, e3]
  ·exact isCV_eq runValid_111
  ·exact isCV_eq runValid_112
  ·exact isCV_eq runValid_113
  ·exact isCV_eq runValid_121
  ·exact isCV_eq runValid_122
  ·exact isCV_eq runValid_123
  ·exact isCV_eq runValid_211
  ·exact isCV_eq runValid_212
  ·exact isCV_eq runValid_213
  ·exact isCV_eq runValid_221
  ·exact isCV_eq runValid_222
  ·exact isCV_eq runValid_223
 exact (runS_T (tab0 PP) mixed key (.cons hf (.cons (fits_cf hc) .nil))).f rfl
theorem runRCheck_111 : isCV (runS PP (fun _ => none) 60 63 [sMd 1 1 1]) (.int .i64 0) = true := by kernel_rfl
theorem runRCheck_112 : isCV (runS PP (fun _ => none) 60 63 [sMd 1 1 2]) (.int .i64 0) = true := by kernel_rfl
theorem runRCheck_113 : isCV (runS PP (fun _ => none) 60 63 [sMd 1 1 3]) (.int .i64 0) = true := by kernel_rfl
theorem runRCheck_121 : isCV (runS PP (fun _ => none) 60 63 [sMd 1 2 1]) (.int .i64 0) = true := by kernel_rfl
theorem runRCheck_122 : isCV (runS PP (fun _ => none) 60 63 [sMd 1 2 2]) (.int .i64 0) = true := by kernel_rfl
theorem runRCheck_123 : isCV (runS PP (fun _ => none) 60 63 [sMd 1 2 3]) (.int .i64 0) = true := by kernel_rfl
theorem runRCheck_211 : isCV (runS PP (fun _ => none) 60 63 [sMd 2 1 1]) (.int .i64 0) = true := by kernel_rfl
theorem runRCheck_212 : isCV (runS PP (fun _ => none) 60 63 [sMd 2 1 2]) (.int .i64 0) = true := by kernel_rfl
theorem runRCheck_213 : isCV (runS PP (fun _ => none) 60 63 [sMd 2 1 3]) (.int .i64 0) = true := by kernel_rfl
theorem runRCheck_221 : isCV (runS PP (fun _ => none) 60 63 [sMd 2 2 1]) (.int .i64 0) = true := by kernel_rfl
theorem runRCheck_222 : isCV (runS PP (fun _ => none) 60 63 [sMd 2 2 2]) (.int .i64 0) = true := by kernel_rfl
theorem runRCheck_223 : isCV (runS PP (fun _ => none) 60 63 [sMd 2 2 3]) (.int .i64 0) = true := by kernel_rfl
theorem mdRCheck {m : Md} (h : MdOK m) : FSpec PP 63 [.v (vMd m)] ⟨[], []⟩ (.v (.int .i64 0)) ⟨[], []⟩ := by
 have hf := fits_md h
 have h1 := h.s0
 have h2 := h.s1
 have h3 := h.p0
 have h4 := h.p1
 have h5 := h.k0
 have h6 := h.k1
 have key : runS PP (fun _ => none) 60 63 [sMd m.ns m.np m.rules.length] = some (.int .i64 0) := by
  clear hf
  rcases (show m.ns = 1 ∨ m.ns = 2 by omega) with e1 | e1 <;> rcases (show m.np = 1 ∨ m.np = 2 by omega) with e2 | e2 <;> rcases (show m.rules.length = 1 ∨ m.rules.length = 2 ∨ m.rules.length = 3 by omega) with e3 | e3 | e3 <;> rw [e1, e2, e3]
  ·exact isCV_eq runRCheck_111
  ·exact isCV_eq runRCheck_112
  ·exact isCV_eq runRCheck_113
  ·exact isCV_eq runRCheck_121
  ·exact isCV_eq runRCheck_122
  ·exact isCV_eq runRCheck_123
  ·exact isCV_eq runRCheck_211
  ·exact isCV_eq runRCheck_212
  ·exact isCV_eq runRCheck_213
  ·exact isCV_eq runRCheck_221
  ·exact isCV_eq runRCheck_222
  ·exact isCV_eq runRCheck_223
 exact (runS_T (tab0 PP) mixed key (.cons hf .nil)).f rfl
theorem runRValid_111 : isCV (runS PP (fun _ => none) 60 34 [sMd 1 1 1, sCf 1 1]) (.bool true) = true := by kernel_rfl
theorem runRValid_112 : isCV (runS PP (fun _ => none) 60 34 [sMd 1 1 2, sCf 1 1]) (.bool true) = true := by kernel_rfl
theorem runRValid_113 : isCV (runS PP (fun _ => none) 60 34 [sMd 1 1 3, sCf 1 1]) (.bool true) = true := by kernel_rfl
theorem runRValid_121 : isCV (runS PP (fun _ => none) 60 34 [sMd 1 2 1, sCf 1 2]) (.bool true) = true := by kernel_rfl
theorem runRValid_122 : isCV (runS PP (fun _ => none) 60 34 [sMd 1 2 2, sCf 1 2]) (.bool true) = true := by kernel_rfl
theorem runRValid_123 : isCV (runS PP (fun _ => none) 60 34 [sMd 1 2 3, sCf 1 2]) (.bool true) = true := by kernel_rfl
theorem runRValid_211 : isCV (runS PP (fun _ => none) 60 34 [sMd 2 1 1, sCf 2 1]) (.bool true) = true := by kernel_rfl
theorem runRValid_212 : isCV (runS PP (fun _ => none) 60 34 [sMd 2 1 2, sCf 2 1]) (.bool true) = true := by kernel_rfl
theorem runRValid_213 : isCV (runS PP (fun _ => none) 60 34 [sMd 2 1 3, sCf 2 1]) (.bool true) = true := by kernel_rfl
theorem runRValid_221 : isCV (runS PP (fun _ => none) 60 34 [sMd 2 2 1, sCf 2 2]) (.bool true) = true := by kernel_rfl
theorem runRValid_222 : isCV (runS PP (fun _ => none) 60 34 [sMd 2 2 2, sCf 2 2]) (.bool true) = true := by kernel_rfl
theorem runRValid_223 : isCV (runS PP (fun _ => none) 60 34 [sMd 2 2 3, sCf 2 2]) (.bool true) = true := by kernel_rfl
theorem mdRValid {m : Md} (h : MdOK m) {c : List Int} (hc : CfOK m.ns m.np c) : FSpec PP 34 [.v (vMd m), .v (vCf c)] ⟨[], []⟩ (.v (.bool true)) ⟨[], []⟩ := by
 have hf := fits_md h
 have h1 := h.s0
 have h2 := h.s1
 have h3 := h.p0
 have h4 := h.p1
 have h5 := h.k0
 have h6 := h.k1
 have key : runS PP (fun _ => none) 60 34 [sMd m.ns m.np m.rules.length, sCf m.ns m.np] = some (.bool true) := by
  clear hf hc
  rcases (show m.ns = 1 ∨ m.ns = 2 by omega) with e1 | e1 <;> rcases (show m.np = 1 ∨ m.np = 2 by omega) with e2 | e2 <;> rcases (show m.rules.length = 1 ∨ m.rules.length = 2 ∨ m.rules.length = 3 by omega) with e3 | e3 | e3 <;> rw [e1, e2, e3]
  ·exact isCV_eq runRValid_111
  ·exact isCV_eq runRValid_112
  ·exact isCV_eq runRValid_113
  ·exact isCV_eq runRValid_121
  ·exact isCV_eq runRValid_122
  ·exact isCV_eq runRValid_123
  ·exact isCV_eq runRValid_211
  ·exact isCV_eq runRValid_212
  ·exact isCV_eq runRValid_213
  ·exact isCV_eq runRValid_221
  ·exact isCV_eq runRValid_222
  ·exact isCV_eq runRValid_223
 exact (runS_T (tab0 PP) mixed key (.cons hf (.cons (fits_cf hc) .nil))).f rfl
end Go.Proofs.YtmdipbhjhkckjaaGreat
