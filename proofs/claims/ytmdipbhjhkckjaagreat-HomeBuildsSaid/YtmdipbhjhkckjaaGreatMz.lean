/-
 Steady counter models, plain: steps stay small; what a graph is built of. No program here.
-/
import Derived.Test.YtmdipbhjhkckjaaGreatMy
import Derived.Test.YtmdipbhjhkckjaaGreatHx
namespace Go.Proofs.YtmdipbhjhkckjaaGreat
open Go.Dv
structure CfS (ns np : Nat) (c : List Int) : Prop where
 ok : CfOK ns np c
 sum : c.tail.sum ≤ 6
structure MdS (m : Md) : Prop where
 ok : MdOK m
 steady : ∀ r ∈ m.rules, r.give.sum ≤ r.need.sum
theorem CfOK.cons {ns np : Nat} {c : List Int} (h : CfOK ns np c) : ∃ s l, c = s :: l ∧ l.length = np ∧ 0 ≤ s ∧ s < ns ∧ ∀ x ∈ l, 0 ≤ x ∧ x ≤ 6 := by
 have hl := h.len
 match c, h, hl with
 | s :: l, h, hl => exact ⟨s, l, rfl, by simpa using hl, (h.st s (by simp)).1, (h.st s (by simp)).2, h.num⟩
theorem apN_ok : ∀ {g l n : List Int}, l.length = g.length → n.length = g.length → geQ l n = true → (∀ x ∈ g, 0 ≤ x) → (apN g l n).sum = g.sum + (l.sum - n.sum) ∧ ∀ y ∈ apN g l n, 0 ≤ y
 | [], l, n, h1, h2, _, _ => by
  have e1 : l = [] := List.eq_nil_of_length_eq_zero (by simpa using h1)
  have e2 : n = [] := List.eq_nil_of_length_eq_zero (by simpa using h2)
  subst e1 e2
  simp [apN]
 | g :: gs, [], _, h, _, _, _ => by simp at h
 | g :: gs, x :: xs, [], _, h, _, _ => by simp at h
 | g :: gs, x :: xs, n :: ns, h1, h2, hq, hg => by
  simp only [geQ, List.zip_cons_cons, List.all_cons, Bool.and_eq_true, decide_eq_true_eq] at hq
  obtain ⟨e, hp⟩ := apN_ok (g := gs) (l := xs) (n := ns) (by simpa using h1) (by simpa using h2) hq.2 (fun y hy => hg y (by simp [hy]))
  have hg0 := hg g (by simp)
  refine ⟨by simp only [apN, List.sum_cons, e]; omega, fun y hy => ?_⟩
  simp only [apN, List.mem_cons] at hy
  rcases hy with rfl | hy
  ·omega
  ·exact hp y hy
theorem le_sum : ∀ {l : List Int}, (∀ x ∈ l, 0 ≤ x) → ∀ x ∈ l, x ≤ l.sum
 | [], _, x, hx => by simp at hx
 | a :: l, h, x, hx => by
  have ha := h a (by simp)
  have hs : 0 ≤ l.sum := by
   have : ∀ {l : List Int}, (∀ x ∈ l, 0 ≤ x) → 0 ≤ l.sum := by
    intro l
    induction l with
    | nil => intro _; simp
    | cons b l ih => intro h; have := ih (fun x hx => h x (by simp [hx])); have := h b (by simp); simp; omega
   exact this (fun x hx => h x (by simp [hx]))
  rcases List.mem_cons.1 hx with rfl | hx
  ·simp; omega
  ·have := le_sum (fun x hx => h x (by simp [hx])) x hx; simp; omega
theorem apM_ok {m : Md} (hm : MdS m) {r : Rl} (hr : r ∈ m.rules) {c : List Int} (hc : CfS m.ns m.np c) (he : enQ r c = true) : CfS m.ns m.np (apM r c) := by
 obtain ⟨s, l, rfl, hl, h0, h1, hn⟩ := hc.ok.cons
 have ro := hm.ok.rl r hr
 have hq : geQ l r.need = true := by
  simp only [enQ, Bool.and_eq_true, List.tail_cons] at he; exact he.2
 have h2 := ro.nl
 have h3 := ro.gl
 obtain ⟨e, hp⟩ := apN_ok (g := r.give) (l := l) (n := r.need) (by omega) (by omega) hq (fun x hx => (ro.g x hx).1)
 have hst := hm.steady r hr
 have hs := hc.sum
 simp only [List.tail_cons] at hs
 refine ⟨⟨?_, fun x hx => ?_, fun x hx => ?_⟩, ?_⟩
 ·simp only [apM, List.length_cons, List.tail_cons]; rw [apN_length (by omega) (by omega)]; omega
 ·simp only [apM, List.head?_cons, Option.mem_def, Option.some.injEq] at hx; subst hx; exact ⟨ro.t0, ro.t1⟩
 ·simp only [apM, List.tail_cons] at hx
  have := le_sum hp x hx
  exact ⟨hp x hx, by omega⟩
 ·simp only [apM, List.tail_cons]; omega
theorem stM_ok {m : Md} (hm : MdS m) {c : List Int} (hc : CfS m.ns m.np c) : ∀ (rs : List Rl) (k : Nat), (∀ r ∈ rs, r ∈ m.rules) → ∀ s ∈ stM rs k c, CfS m.ns m.np s.2
 | [], k, _, s, hs => by simp [stM] at hs
 | r :: rs, k, h, s, hs => by
  simp only [stM, List.mem_append, List.mem_map] at hs
  rcases hs with ⟨d, hd, rfl⟩ | hs
  ·unfold bhM at hd
   split at hd
   ·rename_i he
    simp at hd; subst hd
    exact apM_ok hm (h r (by simp)) hc he
   ·simp at hd
  ·exact stM_ok hm hc rs (k + 1) (fun q hq => h q (by simp [hq])) s hs
def enc (c : List Int) : Nat := (c.getD 0 0 * 49 + c.getD 1 0 * 7 + c.getD 2 0).toNat
theorem enc_ok {m : Md} (hm : MdOK m) {c : List Int} (h : CfOK m.ns m.np c) : enc c < 98 := by
 obtain ⟨s, l, rfl, hl, h0, h1, hn⟩ := h.cons
 have h2 := hm.s1
 have h3 := hm.p1
 match l, hl, hn with
 | [], _, _ => simp [enc]; omega
 | [a], _, hn => have := hn a (by simp); simp [enc]; omega
 | [a, b], _, hn => have := hn a (by simp); have := hn b (by simp); simp [enc]; omega
 | a :: b :: c :: l, hl, _ => simp at hl; omega
theorem enc_inj {m : Md} (hm : MdOK m) {c d : List Int} (h : CfOK m.ns m.np c) (h' : CfOK m.ns m.np d) (e : enc c = enc d) : c = d := by
 obtain ⟨s, l, rfl, hl, h0, h1, hn⟩ := h.cons
 obtain ⟨t, k, rfl, hk, g0, g1, gn⟩ := h'.cons
 have h3 := hm.p1
 match l, hl, hn, k, hk, gn with
 | [], hl, _, [], _, _ => simp [enc] at e; simp; omega
 | [a], _, hn, [b], _, gn =>
  have := hn a (by simp); have := gn b (by simp)
  simp [enc] at e
  have e1 : s = t := by omega
  have e2 : a = b := by omega
  rw [e1, e2]
 | [a, b], _, hn, [a', b'], _, gn =>
  have := hn a (by simp); have := gn a' (by simp)
  have := hn b (by simp); have := gn b' (by simp)
  simp [enc] at e
  have e1 : s = t := by omega
  have e2 : a = a' := by omega
  have e3 : b = b' := by omega
  rw [e1, e2, e3]
 | [], hl, _, _ :: _, hk, _ => simp at hl hk; omega
 | _ :: _, hl, _, [], hk, _ => simp at hl hk; omega
 | [_], hl, _, _ :: _ :: _, hk, _ => simp at hl hk; omega
 | _ :: _ :: _, hl, _, [_], hk, _ => simp at hl hk; omega
 | _ :: _ :: _ :: _, hl, _, _, _, _ => simp at hl; omega
 | _, _, _, _ :: _ :: _ :: _, hk, _ => simp at hk; omega
structure CsOK (m : Md) (cs : List (List Int)) : Prop where
 ok : ∀ c ∈ cs, CfS m.ns m.np c
 once : cs.Nodup
theorem CsOK.le {m : Md} (hm : MdOK m) {cs : List (List Int)} (h : CsOK m cs) : cs.length ≤ 98 := by
 have hn : (cs.map enc).Nodup := by
  refine List.pairwise_map.2 (List.Pairwise.imp_of_mem ?_ h.once)
  intro a b ha hb hne e
  exact hne (enc_inj hm (h.ok a ha).ok (h.ok b hb).ok e)
 have := len_le (cs.map enc) (List.range 98) hn (fun x hx => by
  obtain ⟨c, hc, rfl⟩ := List.mem_map.1 hx
  exact List.mem_range.2 (enc_ok hm (h.ok c hc).ok))
 simpa using this
theorem CsOK.snoc {m : Md} {cs : List (List Int)} (h : CsOK m cs) {d : List Int} (hd : CfS m.ns m.np d) (hn : d ∉ cs) : CsOK m (cs ++ [d]) := by
 refine ⟨fun c hc => ?_, ?_⟩
 ·rcases List.mem_append.1 hc with hc | hc
  ·exact h.ok c hc
  ·simp at hc; subst hc; exact hd
 ·rw [List.nodup_append]
  refine ⟨h.once, by simp, fun a ha b hb => ?_⟩
  simp at hb; subst hb; rintro rfl; exact hn ha
def ixM (cs : List (List Int)) (d : List Int) : Int := idxQ (fun c => decide (c = d)) cs 0
theorem idxQ_spec {α : Type} {p : α → Bool} : ∀ (xs : List α) (i : Nat), (idxQ p xs i = -1 ∧ ∀ x ∈ xs, p x = false) ∨ ∃ j x, idxQ p xs i = ((i + j : Nat) : Int) ∧ xs[j]? = some x ∧ p x = true
 | [], i => .inl ⟨rfl, by simp⟩
 | x :: xs, i => by
  cases hp : p x with
  | true => exact .inr ⟨0, x, by simp [idxQ, hp], rfl, hp⟩
  | false =>
   rcases idxQ_spec (p := p) xs (i + 1) with ⟨h1, h2⟩ | ⟨j, y, h1, h2, h3⟩
   ·exact .inl ⟨by simp [idxQ, hp, h1], by simpa [hp] using h2⟩
   ·exact .inr ⟨j + 1, y, by simp only [idxQ, hp]; rw [if_neg (by simp), h1]; omega, by simpa using h2, h3⟩
theorem ixM_spec (cs : List (List Int)) (d : List Int) : (ixM cs d = -1 ∧ d ∉ cs) ∨ ∃ j : Nat, ixM cs d = (j : Int) ∧ cs[j]? = some d := by
 rcases idxQ_spec (p := fun c => decide (c = d)) cs 0 with ⟨h1, h2⟩ | ⟨j, x, h1, h2, h3⟩
 ·exact .inl ⟨h1, fun hm => by have := h2 d hm; simp at this⟩
 ·have : x = d := by simpa using h3
  subst this
  exact .inr ⟨j, by rw [ixM, h1]; simp, h2⟩
def inM : List Stp → List (List Int) → List Arc → List (List Int) × List Arc
 | [], cs, row => (cs, row)
 | s :: L, cs, row => if ixM cs s.2 < 0 then inM L (cs ++ [s.2]) (row ++ [(s.1, (cs.length : Int))]) else inM L cs (row ++ [(s.1, ixM cs s.2)])
def outM (rules : List Rl) : Nat → Nat → List (List Int) → List (List Arc) → List (List Int) × List (List Arc)
 | 0, _, cs, A => (cs, A)
 | f + 1, i, cs, A => match cs[i]? with
  | none => (cs, A)
  | some c => outM rules f (i + 1) (inM (stM rules 0 c) cs []).1 (A ++ [(inM (stM rules 0 c) cs []).2])
theorem inM_ok {m : Md} : ∀ (L : List Stp) (cs : List (List Int)) (row : List Arc), CsOK m cs → (∀ s ∈ L, CfS m.ns m.np s.2) → CsOK m (inM L cs row).1
 | [], cs, row, h, _ => h
 | s :: L, cs, row, h, hL => by
  unfold inM
  split
  ·rename_i hx
   refine inM_ok L _ _ (h.snoc (hL s (by simp)) ?_) (fun t ht => hL t (by simp [ht]))
   rcases ixM_spec cs s.2 with ⟨_, h2⟩ | ⟨j, h1, _⟩
   ·exact h2
   ·omega
  ·exact inM_ok L _ _ h (fun t ht => hL t (by simp [ht]))
end Go.Proofs.YtmdipbhjhkckjaaGreat

namespace Go.Proofs.YtmdipbhjhkckjaaGreat
open Go.Dv
abbrev vGC (cs : List (List Int)) (A : List (List Arc)) : V := .agg [.list (cs.map vCf), .list (A.map vArcs)]
theorem built_g0 (a : Option Addr) (len cap : Nat) : PP.built 37 [(0, .slice a len cap)] = some #[.slice a len cap, .slice none 0 0] := by kernel_rfl
theorem op_buildG0 {o : Oper} {σ : St} {x : Operand} (ho : o.op = .build 37 #[(0, x)]) {k : Nat} {xs : List V} : OpOK PP o [.acc k xs] σ (.dagg [.acc k xs, .v .nils]) σ := by
 intro E g a w K Q hw hds hK
 simp only [ho, Op.operands] at hds
 obtain ⟨u, eq, h1⟩ := repDs_one.1 hds
 have e1 : a.eval x = u := by simpa using eq
 simp only [repD] at h1
 obtain ⟨ad, cap, rfl, _, _⟩ := repV_list.1 h1.1
 have hrun := run_build (P := PP) w 37 #[(0, a.eval x)] _ (by rw [e1]; exact built_g0 ad xs.length cap)
 have := hK g w (.agg #[.slice ad xs.length cap, .slice none 0 0]) hw g.le_refl (by
  simp only [repD, repDs, repV_nils]
  exact ⟨[.slice ad xs.length cap, .slice none 0 0], rfl, _, _, rfl, h1, _, _, rfl, rfl, rfl⟩)
 unfold Oper.wp execOp
 simp only [ho]
 simp only [Sem.run_bind]
 rw [show ((#[(0, x)] : Array (Nat × Operand)).map fun (x : Nat × Operand) => match x with | (i, x) => (i, a.eval x)) = #[(0, a.eval x)] from by simp, hrun]
 exact this
abbrev bH (C A : List V) : List (Option (List D)) := [some [.v .nils, .v .nils], some [.acc 1 C, .acc 2 A]]
abbrev bSt (cs : List (List Int)) (A : List (List Arc)) : St := ⟨bH (cs.map vCf) (A.map vArcs), [(2, 1, A.map vArcs), (1, 2, cs.map vCf)]⟩
abbrev bStR (cs : List (List Int)) (A : List (List Arc)) (row : List Arc) : St := ⟨bH (cs.map vCf) (A.map vArcs), [(3, 2, row.map vArc), (2, 1, A.map vArcs), (1, 2, cs.map vCf)]⟩
theorem noTag_b {C A : List V} {i : Nat} {cs : List D} (h : (bH C A)[i]? = some (some cs)) : ∀ d ∈ cs, d.noTag 3 = true := by
 match i, h with
 | 0, h => simp at h; subst h; simp [D.noTag]
 | 1, h => simp at h; subst h; simp [D.noTag]
 | i + 2, h => simp at h
theorem CfOK.len3 {ns np : Nat} {c : List Int} (h : CfOK ns np c) (hp : np ≤ 2) : c.length ≤ 100 ∧ c ≠ [] := by
 have := h.len
 refine ⟨by omega, ?_⟩
 rintro rfl; simp at this
theorem inM_len : ∀ (L : List Stp) (cs : List (List Int)) (row : List Arc), cs.length ≤ (inM L cs row).1.length ∧ (inM L cs row).2.length = row.length + L.length
 | [], cs, row => by simp [inM]
 | s :: L, cs, row => by
  unfold inM
  split
  ·have := inM_len L (cs ++ [s.2]) (row ++ [(s.1, (cs.length : Int))]); simp at this ⊢; omega
  ·have := inM_len L cs (row ++ [(s.1, ixM cs s.2)]); simp at this ⊢; omega
noncomputable def cBuild : Code := Tryz.f11.body.getD .skip
set_option maxRecDepth 20000 in
theorem bu_in (R : List D → St → Prop) (K : List KI) (m : Md) (hm : MdS m) (A : List (List Arc)) (at_ : Nat) (L : List Stp) (hL : ∀ s ∈ L, CfS m.ns m.np s.2) (hLl : L.length ≤ 3) (T : List (List Int) × List Arc) (hk : Run PP R K (.undef :: (di 128) :: (.v (.ref (vMd m))) :: .undef :: (.ptr 0 0) :: .undef :: .undef :: (.ptr 1 0) :: (di ↑at_) :: .undef :: .undef :: (.acc 3 (T.2.map vArc)) :: .undef :: .undef :: .undef :: .undef :: .undef :: .undef :: .undef :: .undef :: .undef :: .undef :: .undef :: .undef :: .undef :: .undef :: .undef :: .undef :: .undef :: .undef :: .undef :: .undef :: .undef :: .undef :: .undef :: .undef :: .undef :: .undef :: .undef :: .undef :: .undef :: .undef :: .undef :: .undef :: .undef :: .undef :: .undef :: .undef :: .undef :: .undef :: .undef :: .undef :: .undef :: .undef :: .undef :: .undef :: .undef :: .undef :: .undef :: .undef :: .undef :: .undef :: .undef :: .undef :: .undef :: .undef :: .undef :: .undef :: .undef :: .undef :: .undef :: .undef :: .undef :: .undef :: .undef :: .undef :: .undef :: .undef :: .undef :: .undef :: .undef :: .undef :: .undef :: .undef :: .undef :: .undef :: .undef :: .undef :: .undef :: .undef :: .undef :: .undef :: .undef :: .undef :: .undef :: .undef :: .undef :: []) (bStR T.1 A T.2)) (n : Nat) : ∀ (k : Nat) (cs : List (List Int)) (row : List Arc), L.length - k = n → CsOK m cs → row.length ≤ k → T = inM (L.drop k) cs row → Run PP R (.lp (sub cBuild [1, 1, 1, 1, 0, 1, 0, 0, 1, 0, 0, 1, 1, 1, 0, 1, 0, 0]) :: .blk 2 :: K) (.undef :: (di 128) :: (.v (.ref (vMd m))) :: .undef :: (.ptr 0 0) :: .undef :: .undef :: (.ptr 1 0) :: (di ↑at_) :: .undef :: .undef :: (.acc 3 (row.map vArc)) :: .undef :: .undef :: .undef :: .undef :: .undef :: .undef :: .undef :: .undef :: .undef :: .undef :: .undef :: .undef :: .undef :: .undef :: .undef :: .undef :: .undef :: .undef :: .undef :: .undef :: .undef :: .undef :: .undef :: .undef :: .undef :: .undef :: .undef :: .undef :: .undef :: .undef :: .undef :: .undef :: .undef :: .undef :: .undef :: .undef :: .undef :: .undef :: .undef :: .undef :: .undef :: .undef :: (.v (vStps L)) :: (di ↑L.length) :: (di ↑k) :: .undef :: .undef :: .undef :: .undef :: .undef :: .undef :: .undef :: .undef :: .undef :: .undef :: .undef :: .undef :: .undef :: .undef :: .undef :: .undef :: .undef :: .undef :: .undef :: .undef :: .undef :: .undef :: .undef :: .undef :: .undef :: .undef :: .undef :: .undef :: .undef :: .undef :: .undef :: .undef :: .undef :: .undef :: .undef :: .undef :: .undef :: .undef :: .undef :: .undef :: []) (bStR cs A row) := by
 induction n using Nat.strongRecOn with
 | _ n ih =>
  intro k cs row hn hcs hrl hT
  have hle := hcs.le hm.ok
  have hp := hm.ok.p1
  refine run_lp ?_
  refine at_seq [1, 1, 1, 1, 0, 1, 0, 0, 1, 0, 0, 1, 1, 1, 0, 1, 0, 0, 0] [1, 1, 1, 1, 0, 1, 0, 0, 1, 0, 0, 1, 1, 1, 0, 1, 0, 0, 1] rfl ?_
  refine at_region rfl ?_
  refine at_o 57 rfl rfl rfl rfl (op_binI rfl rfl) ?_
  refine at_end rfl ?_
  refine at_seq [1, 1, 1, 1, 0, 1, 0, 0, 1, 0, 0, 1, 1, 1, 0, 1, 0, 0, 1, 0] [1, 1, 1, 1, 0, 1, 0, 0, 1, 0, 0, 1, 1, 1, 0, 1, 0, 0, 1, 1] rfl ?_
  refine at_cond [1, 1, 1, 1, 0, 1, 0, 0, 1, 0, 0, 1, 1, 1, 0, 1, 0, 0, 1, 0, 0] [1, 1, 1, 1, 0, 1, 0, 0, 1, 0, 0, 1, 1, 1, 0, 1, 0, 0, 1, 0, 1] rfl rfl (fun hc1 => ?_) (fun hc1 => ?_)
  ·skip
   have hlt : k < L.length := by simpa using hc1
   obtain ⟨s, hsk⟩ := get_ex hlt
   have hs2 := idx_some (f := vStp) hsk
   have hs := hL s (List.mem_of_getElem? hsk)
   rw [List.drop_eq_getElem_cons hlt, (List.getElem?_eq_some_iff.1 hsk).2] at hT
   simp only [inM] at hT
   refine at_skip rfl ?_
   refine at_seq [1, 1, 1, 1, 0, 1, 0, 0, 1, 0, 0, 1, 1, 1, 0, 1, 0, 0, 1, 1, 0] [1, 1, 1, 1, 0, 1, 0, 0, 1, 0, 0, 1, 1, 1, 0, 1, 0, 0, 1, 1, 1] rfl ?_
   refine at_block [1, 1, 1, 1, 0, 1, 0, 0, 1, 0, 0, 1, 1, 1, 0, 1, 0, 0, 1, 1, 0, 0] 3 rfl ?_
   refine at_seq [1, 1, 1, 1, 0, 1, 0, 0, 1, 0, 0, 1, 1, 1, 0, 1, 0, 0, 1, 1, 0, 0, 0] [1, 1, 1, 1, 0, 1, 0, 0, 1, 0, 0, 1, 1, 1, 0, 1, 0, 0, 1, 1, 0, 0, 1] rfl ?_
   refine at_region rfl ?_
   first | (refine at_o 58 rfl rfl rfl rfl (op_idxL rfl fsl_Sapi_Step (by first | decide | omega) (by first | assumption | exact idx_some (by assumption) | rfl) (by first | rfl | (simp [V.size]; done))) ?_) | (refine at_o 58 rfl rfl rfl rfl (opOK_un (op_idxL rfl fsl_Sapi_Step (by first | decide | omega) (by first | assumption | exact idx_some (by assumption) | rfl) (by first | rfl | (simp [V.size]; done)))) ?_) | (refine at_o 58 rfl rfl rfl rfl (op_idxA rfl fsl_Sapi_Step (by first | decide | omega) (by first | decide | omega)) ?_)
   first | (refine at_o 59 rfl rfl rfl rfl (op_loadRA rfl fagg_api_Step) ?_) | (refine at_o 59 rfl rfl rfl rfl (op_loadPA rfl fagg_api_Step rfl (by first | decide | simp) rfl) ?_)
   refine at_new 59 13 rfl rfl rfl rfl fzero_api_Step rfl rfl rfl rfl (by decide) rfl rfl fagg_api_Step (by first | rfl | (simp [V.size]; done)) rfl (by simp only [List.length_cons]; omega) (by dsimp only [List.set]) ?_
   refine at_end rfl ?_
   refine at_seq [1, 1, 1, 1, 0, 1, 0, 0, 1, 0, 0, 1, 1, 1, 0, 1, 0, 0, 1, 1, 0, 0, 1, 0] [1, 1, 1, 1, 0, 1, 0, 0, 1, 0, 0, 1, 1, 1, 0, 1, 0, 0, 1, 1, 0, 0, 1, 1] rfl ?_
   refine at_region rfl ?_
   first | (refine at_o 60 rfl rfl rfl rfl (op_fieldP rfl ffld0_api_Graph (by decide)) ?_) | (refine at_o 60 rfl rfl rfl rfl (op_fieldR rfl ffld0_api_Graph (by decide) (by decide) rfl) ?_)
   refine at_o 61 rfl rfl rfl rfl (op_loadP1 rfl fone_Sapi_Value rfl rfl) ?_
   first | (refine at_o 62 rfl rfl rfl rfl (op_fieldP rfl ffld1_api_Step (by decide)) ?_) | (refine at_o 62 rfl rfl rfl rfl (op_fieldR rfl ffld1_api_Step (by decide) (by decide) rfl) ?_)
   first | (refine at_o 63 rfl rfl rfl rfl (op_loadRA rfl fagg_api_Value) ?_) | (refine at_o 63 rfl rfl rfl rfl (op_loadPA rfl fagg_api_Value rfl (by first | decide | simp) rfl) ?_)
   refine at_o 64 rfl rfl rfl rfl (opOK_see (.cons .same (.cons .acc (.cons .same .nil))) (op_call0 rfl rfl rfl rfl (shix_spec cs s.2 (by omega) (fun c hc => ((hcs.ok c hc).ok.len3 hp).1) (hs.ok.len3 hp).1))) ?_
   rw [show idxQ (fun c => decide (c = s.2)) cs 0 = ixM cs s.2 from rfl]
   refine at_m 64 14 rfl rfl rfl (.inr rfl) rfl ?_
   refine at_end rfl ?_
   refine at_seq [1, 1, 1, 1, 0, 1, 0, 0, 1, 0, 0, 1, 1, 1, 0, 1, 0, 0, 1, 1, 0, 0, 1, 1, 0] [1, 1, 1, 1, 0, 1, 0, 0, 1, 0, 0, 1, 1, 1, 0, 1, 0, 0, 1, 1, 0, 0, 1, 1, 1] rfl ?_
   refine at_seq [1, 1, 1, 1, 0, 1, 0, 0, 1, 0, 0, 1, 1, 1, 0, 1, 0, 0, 1, 1, 0, 0, 1, 1, 0, 0] [1, 1, 1, 1, 0, 1, 0, 0, 1, 0, 0, 1, 1, 1, 0, 1, 0, 0, 1, 1, 0, 0, 1, 1, 0, 1] rfl ?_
   refine at_region rfl ?_
   refine at_m 14 65 rfl rfl rfl (.inl rfl) rfl ?_
   refine at_o 66 rfl rfl rfl rfl (op_binI rfl rfl) ?_
   refine at_end rfl ?_
   refine at_cond [1, 1, 1, 1, 0, 1, 0, 0, 1, 0, 0, 1, 1, 1, 0, 1, 0, 0, 1, 1, 0, 0, 1, 1, 0, 1, 0] [1, 1, 1, 1, 0, 1, 0, 0, 1, 0, 0, 1, 1, 1, 0, 1, 0, 0, 1, 1, 0, 0, 1, 1, 0, 1, 1] rfl rfl (fun hc2 => ?_) (fun hc2 => ?_)
   ·skip
    have hx : ixM cs s.2 < 0 := by simpa using hc2
    rw [if_pos hx] at hT
    have hno : s.2 ∉ cs := by rcases ixM_spec cs s.2 with ⟨_, h⟩ | ⟨j, h, _⟩; exact h; omega
    have hcs2 := hcs.snoc hs hno
    have hown := own_spec s.2 (hs.ok.len3 hp).2 (hs.ok.len3 hp).1
    refine at_seq [1, 1, 1, 1, 0, 1, 0, 0, 1, 0, 0, 1, 1, 1, 0, 1, 0, 0, 1, 1, 0, 0, 1, 1, 0, 1, 0, 0] [1, 1, 1, 1, 0, 1, 0, 0, 1, 0, 0, 1, 1, 1, 0, 1, 0, 0, 1, 1, 0, 0, 1, 1, 0, 1, 0, 1] rfl ?_
    refine at_seq [1, 1, 1, 1, 0, 1, 0, 0, 1, 0, 0, 1, 1, 1, 0, 1, 0, 0, 1, 1, 0, 0, 1, 1, 0, 1, 0, 0, 0] [1, 1, 1, 1, 0, 1, 0, 0, 1, 0, 0, 1, 1, 1, 0, 1, 0, 0, 1, 1, 0, 0, 1, 1, 0, 1, 0, 0, 1] rfl ?_
    refine at_region rfl ?_
    first | (refine at_o 67 rfl rfl rfl rfl (op_fieldP rfl ffld0_api_Graph (by decide)) ?_) | (refine at_o 67 rfl rfl rfl rfl (op_fieldR rfl ffld0_api_Graph (by decide) (by decide) rfl) ?_)
    first | (refine at_o 68 rfl rfl rfl rfl (op_loadR1 rfl fone_Sapi_Value rfl) ?_) | (refine at_o 68 rfl rfl rfl rfl (op_loadP1 rfl fone_Sapi_Value rfl rfl) ?_)
    first | (refine at_o 69 rfl rfl rfl rfl (op_lenL rfl fu_Sapi_Value) ?_) | (refine at_o 69 rfl rfl rfl rfl (opOK_un (op_lenL rfl fu_Sapi_Value)) ?_) | (refine at_o 69 rfl rfl rfl rfl (op_lenA rfl fu_Sapi_Value) ?_)
    simp only [List.length_map]
    refine at_m 69 14 rfl rfl rfl (.inr rfl) rfl ?_
    refine at_end rfl ?_
    refine at_seq [1, 1, 1, 1, 0, 1, 0, 0, 1, 0, 0, 1, 1, 1, 0, 1, 0, 0, 1, 1, 0, 0, 1, 1, 0, 1, 0, 0, 1, 0] [1, 1, 1, 1, 0, 1, 0, 0, 1, 0, 0, 1, 1, 1, 0, 1, 0, 0, 1, 1, 0, 0, 1, 1, 0, 1, 0, 0, 1, 1] rfl ?_
    refine at_region rfl ?_
    refine at_m 14 70 rfl rfl rfl (.inl rfl) rfl ?_
    refine at_m 1 71 rfl rfl rfl (.inl rfl) rfl ?_
    refine at_o 72 rfl rfl rfl rfl (op_binI rfl rfl) ?_
    refine at_end rfl ?_
    refine at_cond [1, 1, 1, 1, 0, 1, 0, 0, 1, 0, 0, 1, 1, 1, 0, 1, 0, 0, 1, 1, 0, 0, 1, 1, 0, 1, 0, 0, 1, 1, 0] [1, 1, 1, 1, 0, 1, 0, 0, 1, 0, 0, 1, 1, 1, 0, 1, 0, 0, 1, 1, 0, 0, 1, 1, 0, 1, 0, 0, 1, 1, 1] rfl rfl (fun hc3 => ?_) (fun hc3 => ?_)
    ·skip
     exact absurd hc3 (by simp; omega)
    ·skip
     refine at_skip rfl ?_
     refine at_draw mixed rfl [bStR cs A row, ⟨bH (cs.map vCf) (A.map vArcs), [(3, 2, row.map vArc), (2, 1, A.map vArcs), (1, 2, (cs.map vCf ++ [vCf s.2]))]⟩, ⟨bH (cs.map vCf ++ [vCf s.2]) (A.map vArcs), [(3, 2, row.map vArc), (2, 1, A.map vArcs), (1, 2, (cs.map vCf ++ [vCf s.2]))]⟩] rfl ?_
     first | (refine da_q 74 rfl rfl rfl rfl (fun s hs => op_fieldP rfl ffld0_api_Graph (by decide)) ?_) | (refine da_q 74 rfl rfl rfl rfl (fun s hs => op_fieldR rfl ffld0_api_Graph (by decide) (by decide) rfl) ?_)
     refine da_quietW 0 (some 75) rfl rfl rfl rfl (by intro s hs; simp only [List.take_succ_cons, List.take_zero, List.mem_cons, List.not_mem_nil, or_false] at hs; rcases hs with rfl <;> exact op_loadP1 rfl fone_Sapi_Value rfl rfl) (by dsimp only [putD, List.set]) ?_
     first | (refine da_q 76 rfl rfl rfl rfl (fun s hs => op_fieldP rfl ffld1_api_Step (by decide)) ?_) | (refine da_q 76 rfl rfl rfl rfl (fun s hs => op_fieldR rfl ffld1_api_Step (by decide) (by decide) rfl) ?_)
     first | (refine da_q 77 rfl rfl rfl rfl (fun s hs => op_loadRA rfl fagg_api_Value) ?_) | (refine da_q 77 rfl rfl rfl rfl (by intro s hs; simp only [List.mem_cons, List.not_mem_nil, or_false] at hs; rcases hs with rfl | rfl | rfl <;> exact op_loadPA rfl fagg_api_Value rfl (by first | decide | simp) rfl) ?_)
     refine da_q 78 rfl rfl rfl rfl (fun s hs => op_call0 rfl rfl rfl rfl (hown)) ?_
     refine da_q 79 rfl rfl rfl rfl (fun s hs => op_buildSlice rfl (by rfl) (by rfl) fsl_Sapi_Value rfl rfl (by simp [V.size]) (by decide) (by decide) (by decide)) ?_
     refine da_eff (some 80) rfl rfl rfl rfl rfl rfl (op_append rfl fsl_Sapi_Value rfl (by simp) (by simp [V.size]) (by simp; omega) (by simp; omega)) (by dsimp only [putD, List.set]) ?_
     first | (refine da_q 81 rfl rfl rfl rfl (fun s hs => op_fieldP rfl ffld0_api_Graph (by decide)) ?_) | (refine da_q 81 rfl rfl rfl rfl (fun s hs => op_fieldR rfl ffld0_api_Graph (by decide) (by decide) rfl) ?_)
     refine da_st1 81 (.tmp 80) rfl rfl rfl rfl rfl rfl rfl (ev_tmp rfl) rfl fone_Sapi_Value rfl (by first | decide | simp | (simp; omega)) (by first | rfl | (dsimp only [List.set, List.append, List.cons_append, List.nil_append, cellsD, List.map, repl, List.length, Nat.reduceAdd, if_true, ↓reduceIte]; first | done | rfl)) ?_
     refine da_end rfl ⟨by decide +kernel, _, rfl, ?_⟩
     rw [show (cs.map vCf ++ [vCf s.2]) = (cs ++ [s.2]).map vCf by simp]
     refine at_region rfl ?_
     refine at_m 11 82 rfl rfl rfl (.inl rfl) rfl ?_
     first | (refine at_o 83 rfl rfl rfl rfl (op_fieldP rfl ffld0_api_Step (by decide)) ?_) | (refine at_o 83 rfl rfl rfl rfl (op_fieldR rfl ffld0_api_Step (by decide) (by decide) rfl) ?_)
     first | (refine at_o 84 rfl rfl rfl rfl (op_loadR1 rfl fone_int rfl) ?_) | (refine at_o 84 rfl rfl rfl rfl (op_loadP1 rfl fone_int rfl rfl) ?_)
     refine at_m 14 85 rfl rfl rfl (.inl rfl) rfl ?_
     refine at_o 86 rfl rfl rfl rfl (op_build rfl fbld_api_Arc rfl rfl) ?_
     try dsimp only [V.cellsV, List.take, List.drop, List.cons_append, List.nil_append, List.length]
     refine at_o 87 rfl rfl rfl rfl (op_buildSlice rfl (by rfl) (by rfl) fsl_Sapi_Arc rfl rfl (by simp [V.size]) (by decide) (by decide) (by decide)) ?_
     refine at_opS (some 88) rfl rfl rfl rfl (op_append rfl fsl_Sapi_Arc rfl (by simp) (by simp [V.size]) (by simp; omega) (by simp; omega)) (by dsimp only [putD, List.set]) (by dsimp only [List.set, List.append, List.cons_append, List.nil_append, cellsD, List.map, repl, List.length, Nat.reduceAdd, if_true, ↓reduceIte]; first | done | rfl) ?_
     refine at_m 88 11 rfl rfl rfl (.inr rfl) rfl ?_
     refine at_end rfl ?_
     refine run_blk ?_
     refine at_region rfl ?_
     refine at_o 89 rfl rfl rfl rfl (op_binI rfl rfl) ?_
     rw [wrap_succ (by omega)]
     refine at_m 89 56 rfl rfl rfl (.inl rfl) rfl ?_
     refine at_end rfl ?_
     first | (rw [show (row.map vArc ++ [.agg [.int .i64 s.1, .int .i64 ↑cs.length]]) = (row ++ [(s.1, (cs.length : Int))]).map vArc by simp]; exact run_wk (.drop (.keep (.keep (.drop (.keep (.drop (.drop (.keep (.keep (.drop (.drop (.keep (.d16 (.d16 (.d4 (.d4 (.drop (.drop (.keep (.keep (.keep (.d16 (.d16 (.d4 (.d4 .nil))))))))))))))))))))))))) (ih _ (by omega) (k + 1) _ _ rfl hcs2 (by simp; omega) hT)) | (rw [show (row.map vArc ++ [.agg [.int .i64 s.1, .int .i64 (ixM cs s.2)]]) = (row ++ [(s.1, ixM cs s.2)]).map vArc by simp]; exact run_wk (.drop (.keep (.keep (.drop (.keep (.drop (.drop (.keep (.keep (.drop (.drop (.keep (.d16 (.d16 (.d4 (.d4 (.drop (.drop (.keep (.keep (.keep (.d16 (.d16 (.d4 (.d4 .nil))))))))))))))))))))))))) (ih _ (by omega) (k + 1) _ _ rfl hcs (by simp; omega) hT))
   ·skip
    have hx : ¬ ixM cs s.2 < 0 := by simpa using hc2
    rw [if_neg hx] at hT
    refine at_skip rfl ?_
    refine at_region rfl ?_
    refine at_m 11 82 rfl rfl rfl (.inl rfl) rfl ?_
    first | (refine at_o 83 rfl rfl rfl rfl (op_fieldP rfl ffld0_api_Step (by decide)) ?_) | (refine at_o 83 rfl rfl rfl rfl (op_fieldR rfl ffld0_api_Step (by decide) (by decide) rfl) ?_)
    first | (refine at_o 84 rfl rfl rfl rfl (op_loadR1 rfl fone_int rfl) ?_) | (refine at_o 84 rfl rfl rfl rfl (op_loadP1 rfl fone_int rfl rfl) ?_)
    refine at_m 14 85 rfl rfl rfl (.inl rfl) rfl ?_
    refine at_o 86 rfl rfl rfl rfl (op_build rfl fbld_api_Arc rfl rfl) ?_
    try dsimp only [V.cellsV, List.take, List.drop, List.cons_append, List.nil_append, List.length]
    refine at_o 87 rfl rfl rfl rfl (op_buildSlice rfl (by rfl) (by rfl) fsl_Sapi_Arc rfl rfl (by simp [V.size]) (by decide) (by decide) (by decide)) ?_
    refine at_opS (some 88) rfl rfl rfl rfl (op_append rfl fsl_Sapi_Arc rfl (by simp) (by simp [V.size]) (by simp; omega) (by simp; omega)) (by dsimp only [putD, List.set]) (by dsimp only [List.set, List.append, List.cons_append, List.nil_append, cellsD, List.map, repl, List.length, Nat.reduceAdd, if_true, ↓reduceIte]; first | done | rfl) ?_
    refine at_m 88 11 rfl rfl rfl (.inr rfl) rfl ?_
    refine at_end rfl ?_
    refine run_blk ?_
    refine at_region rfl ?_
    refine at_o 89 rfl rfl rfl rfl (op_binI rfl rfl) ?_
    rw [wrap_succ (by omega)]
    refine at_m 89 56 rfl rfl rfl (.inl rfl) rfl ?_
    refine at_end rfl ?_
    first | (rw [show (row.map vArc ++ [.agg [.int .i64 s.1, .int .i64 ↑cs.length]]) = (row ++ [(s.1, (cs.length : Int))]).map vArc by simp]; exact run_wk (.drop (.keep (.keep (.drop (.keep (.drop (.drop (.keep (.keep (.drop (.drop (.keep (.d16 (.d16 (.d4 (.d4 (.drop (.drop (.keep (.keep (.keep (.d16 (.d16 (.d4 (.d4 .nil))))))))))))))))))))))))) (ih _ (by omega) (k + 1) _ _ rfl hcs2 (by simp; omega) hT)) | (rw [show (row.map vArc ++ [.agg [.int .i64 s.1, .int .i64 (ixM cs s.2)]]) = (row ++ [(s.1, ixM cs s.2)]).map vArc by simp]; exact run_wk (.drop (.keep (.keep (.drop (.keep (.drop (.drop (.keep (.keep (.drop (.drop (.keep (.d16 (.d16 (.d4 (.d4 (.drop (.drop (.keep (.keep (.keep (.d16 (.d16 (.d4 (.d4 .nil))))))))))))))))))))))))) (ih _ (by omega) (k + 1) _ _ rfl hcs (by simp; omega) hT))
  ·skip
   have hge : L.length ≤ k := by simpa using hc1
   rw [List.drop_of_length_le hge] at hT
   simp only [inM] at hT
   subst hT
   refine at_exit rfl rfl ?_
   exact run_wk (.drop (.keep (.keep (.drop (.keep (.drop (.drop (.keep (.keep (.drop (.drop (.keep (.d16 (.d16 (.d16 (.d16 (.d16 (.d4 (.drop .nil))))))))))))))))))) hk
set_option maxRecDepth 20000 in
theorem bu_out (m : Md) (hm : MdS m) (T : List (List Int) × List (List Arc)) (n : Nat) : ∀ (f at_ : Nat) (cs : List (List Int)) (A : List (List Arc)), f = n → f + at_ = 99 → at_ ≤ cs.length → A.length = at_ → CsOK m cs → T = outM m.rules f at_ cs A → Run PP (fun env σ1 => ResOK PP Tryz.f11 env σ1 (.tup [.v (vGC T.1 T.2), di 0]) σ0) [.lp (sub cBuild [1, 1, 1, 1, 0, 1, 0, 0]), .blk 0, .code (sub cBuild [1, 1, 1, 1, 1])] (.undef :: (di 128) :: (.v (.ref (vMd m))) :: .undef :: (.ptr 0 0) :: .undef :: .undef :: (.ptr 1 0) :: (di ↑at_) :: .undef :: .undef :: .undef :: .undef :: .undef :: .undef :: .undef :: .undef :: .undef :: .undef :: .undef :: .undef :: .undef :: .undef :: .undef :: .undef :: .undef :: .undef :: .undef :: .undef :: .undef :: .undef :: .undef :: .undef :: .undef :: .undef :: .undef :: .undef :: .undef :: .undef :: .undef :: .undef :: .undef :: .undef :: .undef :: .undef :: .undef :: .undef :: .undef :: .undef :: .undef :: .undef :: .undef :: .undef :: .undef :: .undef :: .undef :: .undef :: .undef :: .undef :: .undef :: .undef :: .undef :: .undef :: .undef :: .undef :: .undef :: .undef :: .undef :: .undef :: .undef :: .undef :: .undef :: .undef :: .undef :: .undef :: .undef :: .undef :: .undef :: .undef :: .undef :: .undef :: .undef :: .undef :: .undef :: .undef :: .undef :: .undef :: .undef :: .undef :: .undef :: .undef :: .undef :: .undef :: .undef :: .undef :: .undef :: .undef :: []) (bSt cs A) := by
 induction n using Nat.strongRecOn with
 | _ n ih =>
  intro f at_ cs A hn hf hat hA hcs hT
  have hle := hcs.le hm.ok
  have hp := hm.ok.p1
  obtain ⟨f', rfl⟩ : ∃ f', f = f' + 1 := ⟨f - 1, by omega⟩
  refine run_lp ?_
  refine at_seq [1, 1, 1, 1, 0, 1, 0, 0, 0] [1, 1, 1, 1, 0, 1, 0, 0, 1] rfl ?_
  refine at_seq [1, 1, 1, 1, 0, 1, 0, 0, 0, 0] [1, 1, 1, 1, 0, 1, 0, 0, 0, 1] rfl ?_
  refine at_region rfl ?_
  refine at_m 8 33 rfl rfl rfl (.inl rfl) rfl ?_
  first | (refine at_o 34 rfl rfl rfl rfl (op_fieldP rfl ffld0_api_Graph (by decide)) ?_) | (refine at_o 34 rfl rfl rfl rfl (op_fieldR rfl ffld0_api_Graph (by decide) (by decide) rfl) ?_)
  refine at_o 35 rfl rfl rfl rfl (op_loadP1 rfl fone_Sapi_Value rfl rfl) ?_
  first | (refine at_o 36 rfl rfl rfl rfl (op_lenL rfl fu_Sapi_Value) ?_) | (refine at_o 36 rfl rfl rfl rfl (opOK_un (op_lenL rfl fu_Sapi_Value)) ?_) | (refine at_o 36 rfl rfl rfl rfl (op_lenA rfl fu_Sapi_Value) ?_)
  simp only [List.length_map]
  refine at_o 37 rfl rfl rfl rfl (op_binI rfl rfl) ?_
  refine at_end rfl ?_
  refine at_cond [1, 1, 1, 1, 0, 1, 0, 0, 0, 1, 0] [1, 1, 1, 1, 0, 1, 0, 0, 0, 1, 1] rfl rfl (fun hc1 => ?_) (fun hc1 => ?_)
  ·skip
   have hlt : at_ < cs.length := by simpa using hc1
   obtain ⟨c, hcc⟩ := get_ex hlt
   have hc2 := idx_some (f := vCf) hcc
   have hcS := hcs.ok c (List.mem_of_getElem? hcc)
   simp only [outM, hcc] at hT
   obtain ⟨s, l, rfl, _⟩ := hcS.ok.cons
   have hL := stM_ok hm hcS m.rules 0 (fun r h => h)
   have hLl := stM_le (s :: l) m.rules 0
   have hk1 := hm.ok.k1
   have hLl : (stM m.rules 0 (s :: l)).length ≤ 3 := by omega
   have hln := inM_len (stM m.rules 0 (s :: l)) cs []
   have hall := stall_spec m hm.ok s l hcS.ok
   refine at_skip rfl ?_
   refine at_seq [1, 1, 1, 1, 0, 1, 0, 0, 1, 0] [1, 1, 1, 1, 0, 1, 0, 0, 1, 1] rfl ?_
   refine at_block [1, 1, 1, 1, 0, 1, 0, 0, 1, 0, 0] 1 rfl ?_
   refine at_seq [1, 1, 1, 1, 0, 1, 0, 0, 1, 0, 0, 0] [1, 1, 1, 1, 0, 1, 0, 0, 1, 0, 0, 1] rfl ?_
   refine at_draw mixed rfl [bSt cs A] rfl ?_
   first | (refine da_q 41 rfl rfl rfl rfl (fun s hs => op_loadRA rfl fagg_api_Model) ?_) | (refine da_q 41 rfl rfl rfl rfl (by intro s hs; simp only [List.mem_cons, List.not_mem_nil, or_false] at hs; rcases hs with rfl <;> exact op_loadPA rfl fagg_api_Model rfl (by first | decide | simp) rfl) ?_)
   first | (refine da_q 42 rfl rfl rfl rfl (fun s hs => op_fieldP rfl ffld0_api_Graph (by decide)) ?_) | (refine da_q 42 rfl rfl rfl rfl (fun s hs => op_fieldR rfl ffld0_api_Graph (by decide) (by decide) rfl) ?_)
   refine da_q 43 rfl rfl rfl rfl (by intro s hs; simp only [List.mem_cons, List.not_mem_nil, or_false] at hs; rcases hs with rfl <;> exact op_loadP1 rfl fone_Sapi_Value rfl rfl) ?_
   refine da_m 8 44 rfl rfl rfl (.inl rfl) rfl ?_
   first | (refine da_q 45 rfl rfl rfl rfl (fun s hs => op_idxL rfl fsl_Sapi_Value (by first | decide | omega) (by first | assumption | exact idx_some (by assumption) | rfl) (by first | rfl | (simp [V.size]; done))) ?_) | (refine da_q 45 rfl rfl rfl rfl (fun s hs => opOK_un (op_idxL rfl fsl_Sapi_Value (by first | decide | omega) (by first | assumption | exact idx_some (by assumption) | rfl) (by first | rfl | (simp [V.size]; done)))) ?_) | (refine da_q 45 rfl rfl rfl rfl (fun s hs => op_idxA rfl fsl_Sapi_Value (by first | decide | omega) (by first | decide | omega)) ?_)
   first | (refine da_q 46 rfl rfl rfl rfl (fun s hs => op_loadRA rfl fagg_api_Value) ?_) | (refine da_q 46 rfl rfl rfl rfl (by intro s hs; simp only [List.mem_cons, List.not_mem_nil, or_false] at hs; rcases hs with rfl <;> exact op_loadPA rfl fagg_api_Value rfl (by first | decide | simp) rfl) ?_)
   refine da_q 47 rfl rfl rfl rfl (fun s hs => op_call0 rfl rfl rfl rfl (hall)) ?_
   refine da_m 47 40 rfl rfl rfl (.inl rfl) rfl ?_
   refine da_q 48 rfl rfl rfl rfl (fun s hs => op_extract rfl rfl) ?_
   refine da_q 49 rfl rfl rfl rfl (fun s hs => op_extract rfl rfl) ?_
   refine da_m 48 9 rfl rfl rfl (.inr rfl) rfl ?_
   refine da_m 49 10 rfl rfl rfl (.inr rfl) rfl ?_
   refine da_end rfl ⟨by decide +kernel, _, rfl, ?_⟩
   refine at_seq [1, 1, 1, 1, 0, 1, 0, 0, 1, 0, 0, 1, 0] [1, 1, 1, 1, 0, 1, 0, 0, 1, 0, 0, 1, 1] rfl ?_
   refine at_seq [1, 1, 1, 1, 0, 1, 0, 0, 1, 0, 0, 1, 0, 0] [1, 1, 1, 1, 0, 1, 0, 0, 1, 0, 0, 1, 0, 1] rfl ?_
   refine at_region rfl ?_
   refine at_m 10 50 rfl rfl rfl (.inl rfl) rfl ?_
   refine at_o 51 rfl rfl rfl rfl (op_binI rfl rfl) ?_
   refine at_end rfl ?_
   refine at_cond [1, 1, 1, 1, 0, 1, 0, 0, 1, 0, 0, 1, 0, 1, 0] [1, 1, 1, 1, 0, 1, 0, 0, 1, 0, 0, 1, 0, 1, 1] rfl rfl (fun hc2 => ?_) (fun hc2 => ?_)
   ·skip
    exact absurd hc2 (by simp)
   ·skip
    refine at_skip rfl ?_
    refine at_seq [1, 1, 1, 1, 0, 1, 0, 0, 1, 0, 0, 1, 1, 0] [1, 1, 1, 1, 0, 1, 0, 0, 1, 0, 0, 1, 1, 1] rfl ?_
    refine at_region rfl ?_
    refine at_opS (some 11) rfl rfl rfl rfl (op_nilOwn (.inl rfl) 3 2 (by simp) (by decide)) (by dsimp only [putD, List.set]) (by dsimp only [List.set, List.append, List.cons_append, List.nil_append, cellsD, List.map, repl, List.length, Nat.reduceAdd, if_true, ↓reduceIte]; first | done | rfl) ?_
    refine at_end rfl ?_
    refine at_seq [1, 1, 1, 1, 0, 1, 0, 0, 1, 0, 0, 1, 1, 1, 0] [1, 1, 1, 1, 0, 1, 0, 0, 1, 0, 0, 1, 1, 1, 1] rfl ?_
    refine at_seq [1, 1, 1, 1, 0, 1, 0, 0, 1, 0, 0, 1, 1, 1, 0, 0] [1, 1, 1, 1, 0, 1, 0, 0, 1, 0, 0, 1, 1, 1, 0, 1] rfl ?_
    refine at_region rfl ?_
    refine at_m 9 54 rfl rfl rfl (.inl rfl) rfl ?_
    first | (refine at_o 55 rfl rfl rfl rfl (op_lenL rfl fu_Sapi_Step) ?_) | (refine at_o 55 rfl rfl rfl rfl (opOK_un (op_lenL rfl fu_Sapi_Step)) ?_) | (refine at_o 55 rfl rfl rfl rfl (op_lenA rfl fu_Sapi_Step) ?_)
    simp only [List.length_map]
    refine at_c 56 rfl rfl rfl (.inl rfl) ?_
    refine at_end rfl ?_
    refine at_block [1, 1, 1, 1, 0, 1, 0, 0, 1, 0, 0, 1, 1, 1, 0, 1, 0] 2 rfl ?_
    refine at_loop [1, 1, 1, 1, 0, 1, 0, 0, 1, 0, 0, 1, 1, 1, 0, 1, 0, 0] rfl ?_
    try simp only [List.length_map, List.length_nil, Int.toNat_natCast]
    refine run_wk (.drop (.keep (.keep (.drop (.keep (.drop (.drop (.keep (.keep (.drop (.drop (.keep (.d16 (.d16 (.d4 (.d4 (.drop (.drop (.keep (.keep (.keep (.d16 (.d16 (.d4 (.d4 .nil))))))))))))))))))))))))) (bu_in _ _ m hm A at_ (stM m.rules 0 (s :: l)) hL hLl (inM (stM m.rules 0 (s :: l)) cs []) ?_ _ 0 cs [] rfl hcs (by simp) (by rw [List.drop_zero]))
    have hcs2 := inM_ok _ cs [] hcs hL
    generalize hX : inM (stM m.rules 0 (s :: l)) cs [] = X at hT hcs2 hln ⊢
    refine at_region rfl ?_
    first | (refine at_o 90 rfl rfl rfl rfl (op_fieldP rfl ffld1_api_Graph (by decide)) ?_) | (refine at_o 90 rfl rfl rfl rfl (op_fieldR rfl ffld1_api_Graph (by decide) (by decide) rfl) ?_)
    refine at_o 91 rfl rfl rfl rfl (op_loadP1 rfl fone__5b5d5b5d_api_Arc rfl rfl) ?_
    refine at_m 11 92 rfl rfl rfl (.inl rfl) rfl ?_
    refine at_o 93 rfl rfl rfl rfl (op_buildSlice rfl (by rfl) (by rfl) fsl__5b5d5b5d_api_Arc rfl rfl (by simp [V.size]) (by decide) (by decide) (by decide)) ?_
    refine at_opS (some 94) rfl rfl rfl rfl (op_append rfl fsl__5b5d5b5d_api_Arc rfl (by simp) (by simp [V.size]) (by simp; omega) (by simp; omega)) (by dsimp only [putD, List.set]) (by dsimp only [List.set, List.append, List.cons_append, List.nil_append, cellsD, List.map, repl, List.length, Nat.reduceAdd, if_true, ↓reduceIte]; first | done | rfl) ?_
    first | (refine at_o 95 rfl rfl rfl rfl (op_fieldP rfl ffld1_api_Graph (by decide)) ?_) | (refine at_o 95 rfl rfl rfl rfl (op_fieldR rfl ffld1_api_Graph (by decide) (by decide) rfl) ?_)
    refine at_st1 95 (.tmp 94) rfl rfl rfl rfl rfl (ev_tmp rfl) rfl fone__5b5d5b5d_api_Arc rfl (by first | decide | simp | (simp; omega)) (by dsimp only [List.set, List.append, List.cons_append, List.nil_append, cellsD, List.map, repl, List.length, Nat.reduceAdd, if_true, ↓reduceIte]; first | done | rfl) ?_
    refine at_end rfl ?_
    refine run_blk ?_
    refine at_region rfl ?_
    refine at_m 8 38 rfl rfl rfl (.inl rfl) rfl ?_
    refine at_o 39 rfl rfl rfl rfl (op_binI rfl rfl) ?_
    rw [wrap_succ (by omega)]
    refine at_m 39 8 rfl rfl rfl (.inr rfl) rfl ?_
    refine at_end rfl ?_
    refine run_wk (.drop (.keep (.keep (.drop (.keep (.drop (.drop (.keep (.keep (.d16 (.d16 (.d16 (.d16 (.d16 (.d4 (.d4 .nil)))))))))))))))) (run_drop 3 (by simp [D.noTag]) (fun i cs h => noTag_b h) ?_)
    simp only [List.filter_cons, List.filter_nil, bne_self_eq_false, Bool.false_eq_true, if_false]
    rw [show (A.map vArcs ++ [vArcs X.2]) = (A ++ [X.2]).map vArcs by simp]
    exact ih f' (by omega) f' (at_ + 1) X.1 (A ++ [X.2]) rfl (by omega) (by omega) (by simp; omega) hcs2 hT
  ·skip
   have hge : cs.length ≤ at_ := by simpa using hc1
   simp only [outM, List.getElem?_eq_none hge] at hT
   subst hT
   refine at_exit rfl rfl ?_
   refine at_seq [1, 1, 1, 1, 1, 0] [1, 1, 1, 1, 1, 1] rfl ?_
   refine at_region rfl ?_
   first | (refine at_o 96 rfl rfl rfl rfl (op_loadRA rfl fagg_api_Graph) ?_) | (refine at_o 96 rfl rfl rfl rfl (op_loadPA rfl fagg_api_Graph rfl (by first | decide | simp) rfl) ?_)
   refine at_stA 4 (.tmp 96) rfl rfl rfl rfl rfl (ev_tmp rfl) rfl fagg_api_Graph rfl rfl (by first | decide | simp | (simp; omega)) (by dsimp only [List.set, List.append, List.cons_append, List.nil_append, cellsD, List.map, repl, List.length, Nat.reduceAdd, if_true, ↓reduceIte]; first | done | rfl) ?_
   refine at_c 5 rfl rfl rfl (.inr rfl) ?_
   refine at_end rfl ?_
   exact at_ret rfl (res_ok (ds := [.v (vGC cs A), di 0]) (.cellA rfl rfl fagg_api_Graph (by simp) rfl (.tmp rfl .nil)) rfl 0 rfl (by simp) (fun i cs h => by simp at h) (List.nil_sublist _) rfl)
set_option maxRecDepth 20000 in
theorem build_spec (m : Md) (hm : MdS m) (hst : CfS m.ns m.np m.start) : FSpec PP 11 [.v (vMd m), di 128] σ0 (.tup [.v (vGC (outM m.rules 99 0 [m.start] []).1 (outM m.rules 99 0 [m.start] []).2), di 0]) σ0 := by
 have hp := hm.ok.p1
 refine spec_at cBuild Tryz.func11 rfl (by kernel_rfl) (by first | decide | simp) _ (by dsimp only [Tryz.f11, List.length, Nat.reduceAdd, Nat.reduceSub, List.replicate, List.cons_append, List.nil_append]) ?_
 refine at_seq [0] [1] rfl ?_
 refine at_region rfl ?_
 refine at_o 2 rfl rfl rfl rfl (op_boxI rfl rfl) ?_
 refine at_opS (some 4) rfl rfl rfl rfl (op_allocN rfl fzeroN_api_Graph) (by dsimp only [putD, List.set]) (by dsimp only [List.set, List.append, List.cons_append, List.nil_append, cellsD, List.map, repl, List.length, Nat.reduceAdd, if_true, ↓reduceIte]; first | done | rfl) ?_
 refine at_c 5 rfl rfl rfl (.inr rfl) ?_
 refine at_end rfl ?_
 refine at_seq [1, 0] [1, 1] rfl ?_
 refine at_seq [1, 0, 0] [1, 0, 1] rfl ?_
 refine at_region rfl ?_
 first | (refine at_o 15 rfl rfl rfl rfl (op_loadRA rfl fagg_api_Model) ?_) | (refine at_o 15 rfl rfl rfl rfl (op_loadPA rfl fagg_api_Model rfl (by first | decide | simp) rfl) ?_)
 refine at_o 16 rfl rfl rfl rfl (op_call0 rfl rfl rfl rfl (walks_spec m hm.ok)) ?_
 refine at_m 16 6 rfl rfl rfl (.inr rfl) rfl ?_
 refine at_end rfl ?_
 refine at_seq [1, 0, 1, 0] [1, 0, 1, 1] rfl ?_
 refine at_region rfl ?_
 refine at_m 6 17 rfl rfl rfl (.inl rfl) rfl ?_
 refine at_o 18 rfl rfl rfl rfl (op_binI rfl rfl) ?_
 refine at_end rfl ?_
 refine at_cond [1, 0, 1, 1, 0] [1, 0, 1, 1, 1] rfl rfl (fun hc1 => ?_) (fun hc1 => ?_)
 ·skip
  exact absurd hc1 (by simp)
 ·skip
  refine at_skip rfl ?_
  refine at_seq [1, 1, 0] [1, 1, 1] rfl ?_
  refine at_seq [1, 1, 0, 0] [1, 1, 0, 1] rfl ?_
  refine at_region rfl ?_
  refine at_m 1 21 rfl rfl rfl (.inl rfl) rfl ?_
  refine at_o 22 rfl rfl rfl rfl (op_binI rfl rfl) ?_
  refine at_m 22 23 rfl rfl rfl (.inl rfl) rfl ?_
  refine at_split 23 rfl (fun hb2 env' he => ?_) (fun hb2 env' he => ?_)
  ·dsimp only [List.set] at he; subst he
   exact absurd hb2 (by decide)
  ·dsimp only [List.set] at he; subst he
   refine at_m 1 24 rfl rfl rfl (.inl rfl) rfl ?_
   refine at_o 25 rfl rfl rfl rfl (op_binI rfl rfl) ?_
   refine at_pk false 23 25 26 rfl rfl rfl rfl rfl rfl rfl (by dsimp only [List.set]) ?_
   refine at_end rfl ?_
   refine at_cond [1, 1, 0, 1, 0] [1, 1, 0, 1, 1] rfl rfl (fun hc3 => ?_) (fun hc3 => ?_)
   ·skip
    exact absurd hc3 (by simp)
   ·skip
    refine at_skip rfl ?_
    refine at_seq [1, 1, 1, 0] [1, 1, 1, 1] rfl ?_
    refine at_region rfl ?_
    first | (refine at_o 28 rfl rfl rfl rfl (op_fieldP rfl ffld8_api_Model (by decide)) ?_) | (refine at_o 28 rfl rfl rfl rfl (op_fieldR rfl ffld8_api_Model (by decide) (by decide) rfl) ?_)
    first | (refine at_o 29 rfl rfl rfl rfl (op_loadRA rfl fagg_api_Value) ?_) | (refine at_o 29 rfl rfl rfl rfl (op_loadPA rfl fagg_api_Value rfl (by first | decide | simp) rfl) ?_)
    refine at_o 30 rfl rfl rfl rfl (op_call0 rfl rfl rfl rfl (own_spec m.start (hst.ok.len3 hp).2 (hst.ok.len3 hp).1)) ?_
    refine at_opS (some 31) rfl rfl rfl rfl (op_buildSliceA rfl (by rfl) (by rfl) fsl_Sapi_Value rfl rfl (by simp [V.size]) (by decide) (by decide) (by decide) 1 (by simp)) (by dsimp only [putD, List.set]) (by dsimp only [List.set, List.append, List.cons_append, List.nil_append, cellsD, List.map, repl, List.length, Nat.reduceAdd, if_true, ↓reduceIte]; first | done | rfl) ?_
    refine at_o 32 rfl rfl rfl rfl (op_buildG0 rfl) ?_
    try dsimp only [V.cellsV, List.take, List.drop, List.cons_append, List.nil_append, List.length]
    refine at_opS (some 7) rfl rfl rfl rfl (op_allocN rfl fzeroN_api_Graph) (by dsimp only [putD, List.set]) (by dsimp only [List.set, List.append, List.cons_append, List.nil_append, cellsD, List.map, repl, List.length, Nat.reduceAdd, if_true, ↓reduceIte]; first | done | rfl) ?_
    refine at_stA 7 (.tmp 32) rfl rfl rfl rfl rfl (ev_tmp rfl) rfl fagg_api_Graph rfl rfl (by first | decide | simp | (simp; omega)) (by dsimp only [List.set, List.append, List.cons_append, List.nil_append, cellsD, List.map, repl, List.length, Nat.reduceAdd, if_true, ↓reduceIte]; first | done | rfl) ?_
    refine at_end rfl ?_
    refine run_cv (cv_claim 1 1 2 1 (cs := [.acc 1 [vCf m.start], .v .nils]) rfl rfl (by simp) (by decide)) ?_
    simp only [List.set_cons_succ, List.set_cons_zero]
    refine at_seq [1, 1, 1, 1, 0] [1, 1, 1, 1, 1] rfl ?_
    refine at_seq [1, 1, 1, 1, 0, 0] [1, 1, 1, 1, 0, 1] rfl ?_
    refine at_region rfl ?_
    refine at_c 8 rfl rfl rfl (.inr rfl) ?_
    refine at_end rfl ?_
    refine at_block [1, 1, 1, 1, 0, 1, 0] 0 rfl ?_
    refine at_loop [1, 1, 1, 1, 0, 1, 0, 0] rfl ?_
    try simp only [List.length_map, List.length_nil, Int.toNat_natCast]
    exact run_wk (.drop (.keep (.keep (.drop (.keep (.drop (.drop (.keep (.keep (.d16 (.d16 (.d16 (.d16 (.d16 (.d4 (.d4 .nil)))))))))))))))) (bu_out m hm _ 99 99 0 [m.start] [] rfl rfl (by simp) rfl ⟨by simpa using hst, by simp⟩ rfl)
end Go.Proofs.YtmdipbhjhkckjaaGreat

namespace Go.Proofs.YtmdipbhjhkckjaaGreat
open Go.Dv
theorem idx_no {cs : List (List Int)} (h : cs.Nodup) {i : Nat} {c : List Int} (hc : cs[i]? = some c) : idxQ (fun d => decide (d = c)) (cs.take i) 0 = -1 := by
 rcases idxQ_spec (p := fun d => decide (d = c)) (cs.take i) 0 with ⟨h1, _⟩ | ⟨j, x, _, h2, h3⟩
 ·exact h1
 ·have e : x = c := by simpa using h3
  subst e
  rw [List.getElem?_take] at h2
  split at h2
  ·rename_i hj
   have := (List.getElem?_inj (List.getElem?_eq_some_iff.1 h2).1 h).1 (h2.trans hc.symm)
   omega
  ·simp at h2
noncomputable def cReachG : Code := Tryz.f38.body.getD .skip
set_option maxRecDepth 20000 in
theorem greach_inner (R : List D → St → Prop) (K : List KI) (n : Nat) (G : List (List Arc)) (hG : GOK n G) (cs : List (List Int)) (hcn : cs.length = n) (x : Nat) (row : List Arc) (hrow : ∀ a ∈ row, 0 ≤ a.2 ∧ a.2 < n) (hrl : row.length ≤ 100) (T : List Bool × List Nat) (hk : Run PP R K (.undef :: (di ↑x) :: (.v (.ref (vGC cs G))) :: .undef :: .undef :: (.arr 0 0 n) :: (.acc 1 (vns T.2)) :: .undef :: .undef :: .undef :: .undef :: .undef :: .undef :: .undef :: .undef :: .undef :: .undef :: .undef :: .undef :: .undef :: .undef :: .undef :: .undef :: .undef :: .undef :: .undef :: .undef :: .undef :: .undef :: .undef :: .undef :: .undef :: .undef :: .undef :: .undef :: .undef :: .undef :: .undef :: .undef :: .undef :: .undef :: .undef :: .undef :: .undef :: .undef :: .undef :: .undef :: .undef :: .undef :: .undef :: .undef :: .undef :: .undef :: .undef :: []) ⟨[some (dbl T.1)], [(1, 1, vns T.2)]⟩) (m : Nat) : ∀ (j : Nat) (out : List Bool) (todo : List Nat), row.length - j = m → out.length = n → todo.length + out.count false ≤ 1000 → T = stepM (row.drop j) out todo → Run PP R (.lp (sub cReachG [1, 1, 1, 0, 1, 0, 0, 1, 0, 1, 1, 1, 0, 0]) :: .blk 2 :: K) (.undef :: (di ↑x) :: (.v (.ref (vGC cs G))) :: .undef :: .undef :: (.arr 0 0 n) :: (.acc 1 (vns todo)) :: .undef :: .undef :: .undef :: .undef :: .undef :: .undef :: .undef :: .undef :: .undef :: .undef :: .undef :: .undef :: .undef :: .undef :: .undef :: .undef :: .undef :: .undef :: .undef :: .undef :: .undef :: .undef :: .undef :: .undef :: (.v (vArcs row)) :: (di ↑row.length) :: (di ↑j) :: .undef :: .undef :: .undef :: .undef :: .undef :: .undef :: .undef :: .undef :: .undef :: .undef :: .undef :: .undef :: .undef :: .undef :: .undef :: .undef :: .undef :: .undef :: .undef :: .undef :: []) ⟨[some (dbl out)], [(1, 1, vns todo)]⟩ := by
 induction m using Nat.strongRecOn with
 | _ m ih =>
  intro j out todo hm ho htl hT
  have hn := hG.le
  refine run_lp ?_
  refine at_seq [1, 1, 1, 0, 1, 0, 0, 1, 0, 1, 1, 1, 0, 0, 0] [1, 1, 1, 0, 1, 0, 0, 1, 0, 1, 1, 1, 0, 0, 1] rfl ?_
  refine at_region rfl ?_
  refine at_o 34 rfl rfl rfl rfl (op_binI rfl rfl) ?_
  refine at_end rfl ?_
  refine at_seq [1, 1, 1, 0, 1, 0, 0, 1, 0, 1, 1, 1, 0, 0, 1, 0] [1, 1, 1, 0, 1, 0, 0, 1, 0, 1, 1, 1, 0, 0, 1, 1] rfl ?_
  refine at_cond [1, 1, 1, 0, 1, 0, 0, 1, 0, 1, 1, 1, 0, 0, 1, 0, 0] [1, 1, 1, 0, 1, 0, 0, 1, 0, 1, 1, 1, 0, 0, 1, 0, 1] rfl rfl (fun hc1 => ?_) (fun hc1 => ?_)
  ·skip
   have hlt : j < row.length := by simpa using hc1
   obtain ⟨a, ha⟩ := get_ex hlt
   have ha2 := idx_some (f := vArc) ha
   obtain ⟨ha3, ha4⟩ := hrow a (List.mem_of_getElem? ha)
   rw [List.drop_eq_getElem_cons hlt, (List.getElem?_eq_some_iff.1 ha).2] at hT
   obtain ⟨b, hb⟩ := get_ex (a := out) (i := a.2.toNat) (by omega)
   have hb2 := dbl_get hb
   simp only [stepM] at hT
   refine at_skip rfl ?_
   refine at_seq [1, 1, 1, 0, 1, 0, 0, 1, 0, 1, 1, 1, 0, 0, 1, 1, 0] [1, 1, 1, 0, 1, 0, 0, 1, 0, 1, 1, 1, 0, 0, 1, 1, 1] rfl ?_
   refine at_block [1, 1, 1, 0, 1, 0, 0, 1, 0, 1, 1, 1, 0, 0, 1, 1, 0, 0] 3 rfl ?_
   refine at_seq [1, 1, 1, 0, 1, 0, 0, 1, 0, 1, 1, 1, 0, 0, 1, 1, 0, 0, 0] [1, 1, 1, 0, 1, 0, 0, 1, 0, 1, 1, 1, 0, 0, 1, 1, 0, 0, 1] rfl ?_
   refine at_region rfl ?_
   first | (refine at_o 35 rfl rfl rfl rfl (op_idxL rfl fsl_Sapi_Arc (by first | decide | omega) (by first | assumption | exact idx_some (by assumption) | rfl) (by first | rfl | (simp [V.size]; done))) ?_) | (refine at_o 35 rfl rfl rfl rfl (opOK_un (op_idxL rfl fsl_Sapi_Arc (by first | decide | omega) (by first | assumption | exact idx_some (by assumption) | rfl) (by first | rfl | (simp [V.size]; done)))) ?_) | (refine at_o 35 rfl rfl rfl rfl (op_idxA rfl fsl_Sapi_Arc (by first | decide | omega) (by first | decide | omega)) ?_)
   first | (refine at_o 36 rfl rfl rfl rfl (op_loadRA rfl fagg_api_Arc) ?_) | (refine at_o 36 rfl rfl rfl rfl (op_loadPA rfl fagg_api_Arc rfl (by first | decide | simp) rfl) ?_)
   refine at_new 36 9 rfl rfl rfl rfl fzero_api_Arc rfl rfl rfl rfl (by decide) rfl rfl fagg_api_Arc (by first | rfl | (simp [V.size]; done)) rfl (by simp only [List.length_cons]; omega) (by dsimp only [List.set]) ?_
   refine at_end rfl ?_
   refine at_seq [1, 1, 1, 0, 1, 0, 0, 1, 0, 1, 1, 1, 0, 0, 1, 1, 0, 0, 1, 0] [1, 1, 1, 0, 1, 0, 0, 1, 0, 1, 1, 1, 0, 0, 1, 1, 0, 0, 1, 1] rfl ?_
   refine at_region rfl ?_
   refine at_m 5 37 rfl rfl rfl (.inl rfl) rfl ?_
   first | (refine at_o 38 rfl rfl rfl rfl (op_fieldP rfl ffld1_api_Arc (by decide)) ?_) | (refine at_o 38 rfl rfl rfl rfl (op_fieldR rfl ffld1_api_Arc (by decide) (by decide) rfl) ?_)
   first | (refine at_o 39 rfl rfl rfl rfl (op_loadR1 rfl fone_int rfl) ?_) | (refine at_o 39 rfl rfl rfl rfl (op_loadP1 rfl fone_int rfl rfl) ?_)
   first | (refine at_o 40 rfl rfl rfl rfl (op_idxL rfl fsl_Sbool (by first | decide | omega) (by first | assumption | exact idx_some (by assumption) | rfl) (by first | rfl | (simp [V.size]; done))) ?_) | (refine at_o 40 rfl rfl rfl rfl (opOK_un (op_idxL rfl fsl_Sbool (by first | decide | omega) (by first | assumption | exact idx_some (by assumption) | rfl) (by first | rfl | (simp [V.size]; done)))) ?_) | (refine at_o 40 rfl rfl rfl rfl (op_idxA rfl fsl_Sbool (by first | decide | omega) (by first | decide | omega)) ?_)
   simp only [Nat.zero_add, Nat.mul_one]
   refine at_o 41 rfl rfl rfl rfl (op_loadP1 rfl fone_bool rfl hb2) ?_
   refine at_o 42 rfl rfl rfl rfl (op_un rfl rfl) ?_
   refine at_end rfl ?_
   refine at_cond [1, 1, 1, 0, 1, 0, 0, 1, 0, 1, 1, 1, 0, 0, 1, 1, 0, 0, 1, 1, 0] [1, 1, 1, 0, 1, 0, 0, 1, 0, 1, 1, 1, 0, 0, 1, 1, 0, 0, 1, 1, 1] rfl rfl (fun hc2 => ?_) (fun hc2 => ?_)
   ·skip
    have hbf : b = false := by simpa using hc2
    subst hbf
    rw [if_pos hb] at hT
    have hcs := count_set hb
    refine at_seq [1, 1, 1, 0, 1, 0, 0, 1, 0, 1, 1, 1, 0, 0, 1, 1, 0, 0, 1, 1, 0, 0] [1, 1, 1, 0, 1, 0, 0, 1, 0, 1, 1, 1, 0, 0, 1, 1, 0, 0, 1, 1, 0, 1] rfl ?_
    refine at_region rfl ?_
    refine at_m 5 43 rfl rfl rfl (.inl rfl) rfl ?_
    first | (refine at_o 44 rfl rfl rfl rfl (op_fieldP rfl ffld1_api_Arc (by decide)) ?_) | (refine at_o 44 rfl rfl rfl rfl (op_fieldR rfl ffld1_api_Arc (by decide) (by decide) rfl) ?_)
    first | (refine at_o 45 rfl rfl rfl rfl (op_loadR1 rfl fone_int rfl) ?_) | (refine at_o 45 rfl rfl rfl rfl (op_loadP1 rfl fone_int rfl rfl) ?_)
    first | (refine at_o 46 rfl rfl rfl rfl (op_idxL rfl fsl_Sbool (by first | decide | omega) (by first | assumption | exact idx_some (by assumption) | rfl) (by first | rfl | (simp [V.size]; done))) ?_) | (refine at_o 46 rfl rfl rfl rfl (opOK_un (op_idxL rfl fsl_Sbool (by first | decide | omega) (by first | assumption | exact idx_some (by assumption) | rfl) (by first | rfl | (simp [V.size]; done)))) ?_) | (refine at_o 46 rfl rfl rfl rfl (op_idxA rfl fsl_Sbool (by first | decide | omega) (by first | decide | omega)) ?_)
    simp only [Nat.zero_add, Nat.mul_one]
    refine at_st1 46 (.const _) rfl rfl rfl rfl rfl ((by dsimp only [evD, constD])) rfl fone_bool rfl (by simp; omega) (by dsimp only [List.set, List.append, List.cons_append, List.nil_append, cellsD, List.map, repl, List.length, Nat.reduceAdd, if_true, ↓reduceIte]; first | done | rfl) ?_
    rw [dbl_set]
    refine at_end rfl ?_
    refine at_region rfl ?_
    refine at_m 6 47 rfl rfl rfl (.inl rfl) rfl ?_
    first | (refine at_o 48 rfl rfl rfl rfl (op_fieldP rfl ffld1_api_Arc (by decide)) ?_) | (refine at_o 48 rfl rfl rfl rfl (op_fieldR rfl ffld1_api_Arc (by decide) (by decide) rfl) ?_)
    first | (refine at_o 49 rfl rfl rfl rfl (op_loadR1 rfl fone_int rfl) ?_) | (refine at_o 49 rfl rfl rfl rfl (op_loadP1 rfl fone_int rfl rfl) ?_)
    refine at_o 50 rfl rfl rfl rfl (op_buildSlice rfl (by rfl) (by rfl) fsl_Sint rfl rfl (by simp [V.size]) (by decide) (by decide) (by decide)) ?_
    refine at_opS (some 51) rfl rfl rfl rfl (op_append rfl fsl_Sint rfl (by simp) (by simp [V.size]) (by simp; omega) (by simp; omega)) (by dsimp only [putD, List.set]) (by dsimp only [List.set, List.append, List.cons_append, List.nil_append, cellsD, List.map, repl, List.length, Nat.reduceAdd, if_true, ↓reduceIte]; first | done | rfl) ?_
    refine at_m 51 6 rfl rfl rfl (.inr rfl) rfl ?_
    refine at_end rfl ?_
    rw [show (vns todo ++ [.int .i64 a.2]) = vns (todo ++ [a.2.toNat]) by simp [Int.toNat_of_nonneg ha3]]
    refine run_blk ?_
    refine at_region rfl ?_
    refine at_o 52 rfl rfl rfl rfl (op_binI rfl rfl) ?_
    rw [wrap_succ (by omega)]
    refine at_m 52 33 rfl rfl rfl (.inl rfl) rfl ?_
    refine at_end rfl ?_
    first | exact run_wk (.drop (.keep (.keep (.drop (.drop (.keep (.keep (.d16 (.d4 (.d4 (.keep (.keep (.keep (.d16 (.d4 .nil))))))))))))))) (ih _ (by omega) (j + 1) _ _ rfl (by simp; omega) (by simp; omega) hT) | exact run_wk (.drop (.keep (.keep (.drop (.drop (.keep (.keep (.d16 (.d4 (.d4 (.keep (.keep (.keep (.d16 (.d4 .nil))))))))))))))) (ih _ (by omega) (j + 1) _ _ rfl ho htl hT)
   ·skip
    have hbf : b = true := by simpa using hc2
    subst hbf
    rw [if_neg (by rw [hb]; simp)] at hT
    refine at_skip rfl ?_
    refine run_blk ?_
    refine at_region rfl ?_
    refine at_o 52 rfl rfl rfl rfl (op_binI rfl rfl) ?_
    rw [wrap_succ (by omega)]
    refine at_m 52 33 rfl rfl rfl (.inl rfl) rfl ?_
    refine at_end rfl ?_
    first | exact run_wk (.drop (.keep (.keep (.drop (.drop (.keep (.keep (.d16 (.d4 (.d4 (.keep (.keep (.keep (.d16 (.d4 .nil))))))))))))))) (ih _ (by omega) (j + 1) _ _ rfl (by simp; omega) (by simp; omega) hT) | exact run_wk (.drop (.keep (.keep (.drop (.drop (.keep (.keep (.d16 (.d4 (.d4 (.keep (.keep (.keep (.d16 (.d4 .nil))))))))))))))) (ih _ (by omega) (j + 1) _ _ rfl ho htl hT)
  ·skip
   have hge : row.length ≤ j := by simpa using hc1
   rw [List.drop_of_length_le hge] at hT
   simp only [stepM] at hT
   rw [hT] at hk
   refine at_exit rfl rfl ?_
   exact run_wk (.drop (.keep (.keep (.drop (.drop (.keep (.keep (.d16 (.d16 (.d4 (.d4 (.d4 (.drop (.drop (.drop .nil))))))))))))))) hk
set_option maxRecDepth 20000 in
theorem greach_outer (n : Nat) (G : List (List Arc)) (hG : GOK n G) (cs : List (List Int)) (hcn : cs.length = n) (x : Nat) (T : List Bool) (m : Nat) : ∀ (f : Nat) (out : List Bool) (todo : List Nat), f = m → out.length = n → todo.length + out.count false ≤ f → f ≤ 1000 → (∀ y ∈ todo, y < n) → T = bfsM G f out todo → Run PP (fun env σ1 => ResOK PP Tryz.f38 env σ1 (.v (.list (T.map vb))) σ0) [.lp (sub cReachG [1, 1, 1, 0, 1, 0, 0]), .blk 0, .code (sub cReachG [1, 1, 1, 1])] (.undef :: (di ↑x) :: (.v (.ref (vGC cs G))) :: .undef :: .undef :: (.arr 0 0 n) :: (.acc 1 (vns todo)) :: .undef :: .undef :: .undef :: .undef :: .undef :: .undef :: .undef :: .undef :: .undef :: .undef :: .undef :: .undef :: .undef :: .undef :: .undef :: .undef :: .undef :: .undef :: .undef :: .undef :: .undef :: .undef :: .undef :: .undef :: .undef :: .undef :: .undef :: .undef :: .undef :: .undef :: .undef :: .undef :: .undef :: .undef :: .undef :: .undef :: .undef :: .undef :: .undef :: .undef :: .undef :: .undef :: .undef :: .undef :: .undef :: .undef :: .undef :: []) ⟨[some (dbl out)], [(1, 1, vns todo)]⟩ := by
 induction m using Nat.strongRecOn with
 | _ m ih =>
  intro f out todo hm ho htl hf hlt hT
  have hn := hG.le
  refine run_lp ?_
  refine at_seq [1, 1, 1, 0, 1, 0, 0, 0] [1, 1, 1, 0, 1, 0, 0, 1] rfl ?_
  refine at_seq [1, 1, 1, 0, 1, 0, 0, 0, 0] [1, 1, 1, 0, 1, 0, 0, 0, 1] rfl ?_
  refine at_region rfl ?_
  refine at_m 6 19 rfl rfl rfl (.inl rfl) rfl ?_
  first | (refine at_o 20 rfl rfl rfl rfl (op_lenL rfl fu_Sint) ?_) | (refine at_o 20 rfl rfl rfl rfl (opOK_un (op_lenL rfl fu_Sint)) ?_) | (refine at_o 20 rfl rfl rfl rfl (op_lenA rfl fu_Sint) ?_)
  refine at_o 21 rfl rfl rfl rfl (op_binI rfl rfl) ?_
  refine at_end rfl ?_
  refine at_cond [1, 1, 1, 0, 1, 0, 0, 0, 1, 0] [1, 1, 1, 0, 1, 0, 0, 0, 1, 1] rfl rfl (fun hc1 => ?_) (fun hc1 => ?_)
  ·skip
   obtain ⟨x0, rest, rfl⟩ : ∃ x0 rest, todo = x0 :: rest := by cases todo with | nil => simp at hc1 | cons a l => exact ⟨a, l, rfl⟩
   have hx0 := hlt x0 (by simp)
   obtain ⟨f', rfl⟩ : ∃ f', f = f' + 1 := ⟨f - 1, by simp at htl; omega⟩
   obtain ⟨row, hr⟩ := get_ex (a := G) (i := x0) (by rw [hG.len]; exact hx0)
   have hr2 := idx_some (f := vArcs) hr
   obtain ⟨hrl, hrow⟩ := hG.row row (List.mem_of_getElem? hr)
   refine at_skip rfl ?_
   refine at_block [1, 1, 1, 0, 1, 0, 0, 1, 0] 1 rfl ?_
   refine at_seq [1, 1, 1, 0, 1, 0, 0, 1, 0, 0] [1, 1, 1, 0, 1, 0, 0, 1, 0, 1] rfl ?_
   refine at_region rfl ?_
   refine at_m 6 22 rfl rfl rfl (.inl rfl) rfl ?_
   first | (refine at_o 23 rfl rfl rfl rfl (op_idxL rfl fsl_Sint (by first | decide | omega) (by first | assumption | exact idx_some (by assumption) | rfl) (by first | rfl | (simp [V.size]; done))) ?_) | (refine at_o 23 rfl rfl rfl rfl (opOK_un (op_idxL rfl fsl_Sint (by first | decide | omega) (by first | assumption | exact idx_some (by assumption) | rfl) (by first | rfl | (simp [V.size]; done)))) ?_) | (refine at_o 23 rfl rfl rfl rfl (op_idxA rfl fsl_Sint (by first | decide | omega) (by first | decide | omega)) ?_)
   refine at_o 24 rfl rfl rfl rfl (op_loadR1 rfl fone_int rfl) ?_
   refine at_m 24 7 rfl rfl rfl (.inr rfl) rfl ?_
   refine at_end rfl ?_
   refine at_seq [1, 1, 1, 0, 1, 0, 0, 1, 0, 1, 0] [1, 1, 1, 0, 1, 0, 0, 1, 0, 1, 1] rfl ?_
   refine at_region rfl ?_
   refine at_m 6 25 rfl rfl rfl (.inl rfl) rfl ?_
   refine at_sliceA 25 26 1 1 rfl rfl rfl rfl rfl fsl_Sint rfl (by simp) (by simp) (.drop (.keep (.keep (.drop (.drop (.keep (.drop (.keep (.d16 (.d16 (.d4 (.d4 (.d4 (.drop (.drop .nil))))))))))))))) (by simp [D.noTag]) (fun i cs h => noTag_bools h) (by dsimp only [List.set]) ?_
   rw [show (vns (x0 :: rest)).drop 1 = vns rest from rfl, show List.map (repl 1 1 (vns rest)) [(1, 1, vns (x0 :: rest))] = [(1, 1, vns rest)] from rfl]
   refine at_m 26 6 rfl rfl rfl (.inr rfl) rfl ?_
   refine at_end rfl ?_
   refine at_seq [1, 1, 1, 0, 1, 0, 0, 1, 0, 1, 1, 0] [1, 1, 1, 0, 1, 0, 0, 1, 0, 1, 1, 1] rfl ?_
   refine at_region rfl ?_
   first | (refine at_o 27 rfl rfl rfl rfl (op_fieldP rfl ffld1_api_Graph (by decide)) ?_) | (refine at_o 27 rfl rfl rfl rfl (op_fieldR rfl ffld1_api_Graph (by decide) (by decide) rfl) ?_)
   first | (refine at_o 28 rfl rfl rfl rfl (op_loadR1 rfl fone__5b5d5b5d_api_Arc rfl) ?_) | (refine at_o 28 rfl rfl rfl rfl (op_loadP1 rfl fone__5b5d5b5d_api_Arc rfl rfl) ?_)
   refine at_m 7 29 rfl rfl rfl (.inl rfl) rfl ?_
   first | (refine at_o 30 rfl rfl rfl rfl (op_idxL rfl fsl__5b5d5b5d_api_Arc (by first | decide | omega) (by first | assumption | exact idx_some (by assumption) | rfl) (by first | rfl | (simp [V.size]; done))) ?_) | (refine at_o 30 rfl rfl rfl rfl (opOK_un (op_idxL rfl fsl__5b5d5b5d_api_Arc (by first | decide | omega) (by first | assumption | exact idx_some (by assumption) | rfl) (by first | rfl | (simp [V.size]; done)))) ?_) | (refine at_o 30 rfl rfl rfl rfl (op_idxA rfl fsl__5b5d5b5d_api_Arc (by first | decide | omega) (by first | decide | omega)) ?_)
   first | (refine at_o 31 rfl rfl rfl rfl (op_loadR1 rfl fone_Sapi_Arc rfl) ?_) | (refine at_o 31 rfl rfl rfl rfl (op_loadP1 rfl fone_Sapi_Arc rfl rfl) ?_)
   first | (refine at_o 32 rfl rfl rfl rfl (op_lenL rfl fu_Sapi_Arc) ?_) | (refine at_o 32 rfl rfl rfl rfl (opOK_un (op_lenL rfl fu_Sapi_Arc)) ?_) | (refine at_o 32 rfl rfl rfl rfl (op_lenA rfl fu_Sapi_Arc) ?_)
   refine at_c 33 rfl rfl rfl (.inl rfl) ?_
   refine at_end rfl ?_
   refine at_block [1, 1, 1, 0, 1, 0, 0, 1, 0, 1, 1, 1, 0] 2 rfl ?_
   refine at_loop [1, 1, 1, 0, 1, 0, 0, 1, 0, 1, 1, 1, 0, 0] rfl ?_
   try simp only [List.length_map, List.length_nil, Int.toNat_natCast]
   refine run_wk (.drop (.keep (.keep (.drop (.drop (.keep (.keep (.d16 (.d4 (.d4 (.keep (.keep (.keep (.d16 (.d4 .nil))))))))))))))) (greach_inner _ _ n G hG cs hcn x row hrow hrl (stepM row out rest) ?_ _ 0 out rest rfl ho (by simp at htl; omega) (by rw [List.drop_zero]))
   refine run_blk ?_
   exact run_wk (.drop (.keep (.keep (.drop (.drop (.keep (.keep (.d16 (.d16 (.d4 (.d4 (.d4 (.drop (.drop (.drop .nil))))))))))))))) (ih f' (by omega) f' _ _ rfl (by rw [stepM_length]; exact ho) (by rw [stepM_count]; simp at htl; omega) (by omega) (stepM_lt row out rest hrow (fun y hy => hlt y (by simp [hy]))) (by rw [hT]; simp only [bfsM]; rw [stepM_get hr]))
  ·skip
   have hnil : todo = [] := by cases todo with | nil => rfl | cons a l => first | (simp at hc1; done) | (simp at hc1; omega)
   subst hnil
   have hT2 : T = out := by rw [hT]; cases f <;> rfl
   subst hT2
   refine run_wk (.d4 (.drop (.keep (.d16 (.d16 (.d16 .nil)))))) ?_
   refine run_cv (cv_frz [0] (.keep (.keep (.keep (.keep (.keep (.view (lend_bools (out := T) rfl ho.symm) (.keep (.keep (.keep (.keep (.keep (.keep (.keep (.keep (.keep (.keep (.keep (.keep (.keep (.keep (.keep (.keep (.keep (.keep (.keep (.keep (.keep (.keep (.keep (.keep (.keep (.keep (.keep (.keep (.keep (.keep (.keep (.keep (.keep (.keep (.keep (.keep (.keep (.keep (.keep (.keep (.keep (.keep (.keep (.keep (.keep (.keep (.keep (.keep .nil))))))))))))))))))))))))))))))))))))))))))))))))))))))) ?_
   refine at_exit rfl rfl ?_
   refine at_seq [1, 1, 1, 1, 0] [1, 1, 1, 1, 1] rfl ?_
   refine at_region rfl ?_
   refine at_m 5 53 rfl rfl rfl (.inl rfl) rfl ?_
   refine at_m 53 4 rfl rfl rfl (.inr rfl) rfl ?_
   refine at_end rfl ?_
   refine at_ret rfl (ret_one (t := 4) rfl rfl ?_ rfl)
   rfl
set_option maxRecDepth 20000 in
theorem greach_spec (n : Nat) (G : List (List Arc)) (hG : GOK n G) (cs : List (List Int)) (hcn : cs.length = n) (x : Nat) (hx : x < n) : FSpec PP 38 [.v (vGC cs G), di ↑x] σ0 (.v (.list ((reachM G n x).map vb))) σ0 := by
 have hn := hG.le
 refine spec_at cReachG Tryz.func38 rfl (by kernel_rfl) (by first | decide | simp) _ (by dsimp only [Tryz.f38, List.length, Nat.reduceAdd, Nat.reduceSub, List.replicate, List.cons_append, List.nil_append]) ?_
 refine at_seq [0] [1] rfl ?_
 refine at_region rfl ?_
 refine at_o 2 rfl rfl rfl rfl (op_boxI rfl rfl) ?_
 refine at_c 4 rfl rfl rfl (.inr rfl) ?_
 refine at_end rfl ?_
 refine at_seq [1, 0] [1, 1] rfl ?_
 refine at_region rfl ?_
 first | (refine at_o 10 rfl rfl rfl rfl (op_fieldP rfl ffld0_api_Graph (by decide)) ?_) | (refine at_o 10 rfl rfl rfl rfl (op_fieldR rfl ffld0_api_Graph (by decide) (by decide) rfl) ?_)
 first | (refine at_o 11 rfl rfl rfl rfl (op_loadR1 rfl fone_Sapi_Value rfl) ?_) | (refine at_o 11 rfl rfl rfl rfl (op_loadP1 rfl fone_Sapi_Value rfl rfl) ?_)
 first | (refine at_o 12 rfl rfl rfl rfl (op_lenL rfl fu_Sapi_Value) ?_) | (refine at_o 12 rfl rfl rfl rfl (opOK_un (op_lenL rfl fu_Sapi_Value)) ?_) | (refine at_o 12 rfl rfl rfl rfl (op_lenA rfl fu_Sapi_Value) ?_)
 simp only [List.length_map, hcn]
 refine at_opS (some 13) rfl rfl rfl rfl (op_make rfl fsl_Sbool rfl (by omega) (by omega) (by omega)) (by dsimp only [putD, List.set]) (by dsimp only [List.set, List.append, List.cons_append, List.nil_append, cellsD, List.map, repl, List.length, Nat.reduceAdd, if_true, ↓reduceIte]; first | done | rfl) ?_
 rw [Int.toNat_natCast, bools_zero]
 refine at_m 13 5 rfl rfl rfl (.inr rfl) rfl ?_
 refine at_end rfl ?_
 refine at_seq [1, 1, 0] [1, 1, 1] rfl ?_
 refine at_region rfl ?_
 refine at_m 5 14 rfl rfl rfl (.inl rfl) rfl ?_
 refine at_m 1 15 rfl rfl rfl (.inl rfl) rfl ?_
 first | (refine at_o 16 rfl rfl rfl rfl (op_idxL rfl fsl_Sbool (by first | decide | omega) (by first | assumption | exact idx_some (by assumption) | rfl) (by first | rfl | (simp [V.size]; done))) ?_) | (refine at_o 16 rfl rfl rfl rfl (opOK_un (op_idxL rfl fsl_Sbool (by first | decide | omega) (by first | assumption | exact idx_some (by assumption) | rfl) (by first | rfl | (simp [V.size]; done)))) ?_) | (refine at_o 16 rfl rfl rfl rfl (op_idxA rfl fsl_Sbool (by first | decide | omega) (by first | decide | omega)) ?_)
 simp only [Nat.zero_add, Nat.mul_one, Int.toNat_natCast]
 refine at_st1 16 (.const _) rfl rfl rfl rfl rfl ((by dsimp only [evD, constD])) rfl fone_bool rfl (by simp; omega) (by dsimp only [List.set, List.append, List.cons_append, List.nil_append, cellsD, List.map, repl, List.length, Nat.reduceAdd, if_true, ↓reduceIte]; first | done | rfl) ?_
 rw [dbl_set]
 refine at_end rfl ?_
 refine at_seq [1, 1, 1, 0] [1, 1, 1, 1] rfl ?_
 refine at_seq [1, 1, 1, 0, 0] [1, 1, 1, 0, 1] rfl ?_
 refine at_region rfl ?_
 refine at_m 1 17 rfl rfl rfl (.inl rfl) rfl ?_
 refine at_opS (some 18) rfl rfl rfl rfl (op_buildSliceA rfl (by rfl) (by rfl) fsl_Sint rfl rfl (by simp [V.size]) (by decide) (by decide) (by decide) 1 (by simp)) (by dsimp only [putD, List.set]) (by dsimp only [List.set, List.append, List.cons_append, List.nil_append, cellsD, List.map, repl, List.length, Nat.reduceAdd, if_true, ↓reduceIte]; first | done | rfl) ?_
 refine at_m 18 6 rfl rfl rfl (.inr rfl) rfl ?_
 refine at_end rfl ?_
 refine at_block [1, 1, 1, 0, 1, 0] 0 rfl ?_
 refine at_loop [1, 1, 1, 0, 1, 0, 0] rfl ?_
 try simp only [List.length_map, List.length_nil, Int.toNat_natCast]
 refine run_wk (.drop (.keep (.keep (.drop (.drop (.keep (.keep (.d16 (.d16 (.d4 (.d4 (.d4 (.drop (.drop (.drop .nil))))))))))))))) (greach_outer n G hG cs hcn x _ (n + 1) (n + 1) _ [x] rfl (by simp) (by have := List.count_le_length (a := false) (l := (List.replicate n false).set x true); simp at this ⊢; omega) (by omega) (by simp; exact hx) rfl)
noncomputable def cCheckG : Code := Tryz.f12.body.getD .skip
set_option maxRecDepth 20000 in
theorem gcheck_loop (n : Nat) (G : List (List Arc)) (hG : GOK n G) (cs : List (List Int)) (hcn : cs.length = n) (hnd : cs.Nodup) (hcl : ∀ c ∈ cs, c.length ≤ 100) (m : Nat) : ∀ (i : Nat), n - i = m → i ≤ n → Run PP (fun env σ1 => ResOK PP Tryz.f12 env σ1 (di 0) σ0) [.lp (sub cCheckG [1, 1, 1, 0, 1, 0, 0]), .blk 0, .code (sub cCheckG [1, 1, 1, 1])] (.undef :: (.v (.ref (vGC cs G))) :: .undef :: (.v (.ref (vi ↑n))) :: .undef :: .undef :: .undef :: .undef :: .undef :: .undef :: .undef :: .undef :: .undef :: .undef :: .undef :: .undef :: .undef :: .undef :: .undef :: .undef :: .undef :: .undef :: .undef :: (.v (.list (cs.map vCf))) :: (di ↑n) :: (di ↑i) :: .undef :: .undef :: .undef :: .undef :: .undef :: .undef :: .undef :: .undef :: .undef :: .undef :: .undef :: .undef :: .undef :: .undef :: .undef :: .undef :: .undef :: .undef :: .undef :: []) σ0 := by
 induction m using Nat.strongRecOn with
 | _ m ih =>
  intro i hm hi
  have hle := hG.le
  refine run_lp ?_
  refine at_seq [1, 1, 1, 0, 1, 0, 0, 0] [1, 1, 1, 0, 1, 0, 0, 1] rfl ?_
  refine at_region rfl ?_
  refine at_o 26 rfl rfl rfl rfl (op_binI rfl rfl) ?_
  refine at_end rfl ?_
  refine at_seq [1, 1, 1, 0, 1, 0, 0, 1, 0] [1, 1, 1, 0, 1, 0, 0, 1, 1] rfl ?_
  refine at_cond [1, 1, 1, 0, 1, 0, 0, 1, 0, 0] [1, 1, 1, 0, 1, 0, 0, 1, 0, 1] rfl rfl (fun hc1 => ?_) (fun hc1 => ?_)
  ·skip
   have hlt : i < n := by simp at hc1; omega
   obtain ⟨c, hcc⟩ := get_ex (a := cs) (i := i) (by omega)
   have hc2 := idx_some (f := vCf) hcc
   obtain ⟨row, hr⟩ := get_ex (a := G) (i := i) (by rw [hG.len]; exact hlt)
   have hr2 := idx_some (f := vArcs) hr
   obtain ⟨hrl, hrow⟩ := hG.row row (List.mem_of_getElem? hr)
   have hix := shix_spec (cs.take i) c (by simp; omega) (fun d hd => hcl d (List.mem_of_mem_take hd)) (hcl c (List.mem_of_getElem? hcc))
   rw [idx_no hnd hcc] at hix
   refine at_skip rfl ?_
   refine at_seq [1, 1, 1, 0, 1, 0, 0, 1, 1, 0] [1, 1, 1, 0, 1, 0, 0, 1, 1, 1] rfl ?_
   refine at_block [1, 1, 1, 0, 1, 0, 0, 1, 1, 0, 0] 1 rfl ?_
   refine at_seq [1, 1, 1, 0, 1, 0, 0, 1, 1, 0, 0, 0] [1, 1, 1, 0, 1, 0, 0, 1, 1, 0, 0, 1] rfl ?_
   refine at_region rfl ?_
   refine at_m 25 27 rfl rfl rfl (.inl rfl) rfl ?_
   first | (refine at_o 28 rfl rfl rfl rfl (op_idxL rfl fsl_Sapi_Value (by first | decide | omega) (by first | assumption | exact idx_some (by assumption) | rfl) (by first | rfl | (simp [V.size]; done))) ?_) | (refine at_o 28 rfl rfl rfl rfl (opOK_un (op_idxL rfl fsl_Sapi_Value (by first | decide | omega) (by first | assumption | exact idx_some (by assumption) | rfl) (by first | rfl | (simp [V.size]; done)))) ?_) | (refine at_o 28 rfl rfl rfl rfl (op_idxA rfl fsl_Sapi_Value (by first | decide | omega) (by first | decide | omega)) ?_)
   first | (refine at_o 29 rfl rfl rfl rfl (op_loadRA rfl fagg_api_Value) ?_) | (refine at_o 29 rfl rfl rfl rfl (op_loadPA rfl fagg_api_Value rfl (by first | decide | simp) rfl) ?_)
   refine at_new1 29 5 27 4 rfl rfl rfl rfl fzero_api_Value rfl rfl rfl (.inr rfl) rfl (by decide) (by decide) (by decide) rfl rfl rfl rfl (by decide) rfl rfl fagg_api_Value (by first | rfl | (simp [V.size]; done)) rfl (by simp only [List.length_cons]; omega) (by dsimp only [List.set]) ?_
   refine at_end rfl ?_
   refine at_seq [1, 1, 1, 0, 1, 0, 0, 1, 1, 0, 0, 1, 0] [1, 1, 1, 0, 1, 0, 0, 1, 1, 0, 0, 1, 1] rfl ?_
   refine at_seq [1, 1, 1, 0, 1, 0, 0, 1, 1, 0, 0, 1, 0, 0] [1, 1, 1, 0, 1, 0, 0, 1, 1, 0, 0, 1, 0, 1] rfl ?_
   refine at_draw mixed rfl [σ0] rfl ?_
   first | (refine da_q 30 rfl rfl rfl rfl (fun s hs => op_fieldP rfl ffld0_api_Graph (by decide)) ?_) | (refine da_q 30 rfl rfl rfl rfl (fun s hs => op_fieldR rfl ffld0_api_Graph (by decide) (by decide) rfl) ?_)
   first | (refine da_q 31 rfl rfl rfl rfl (fun s hs => op_loadR1 rfl fone_Sapi_Value rfl) ?_) | (refine da_q 31 rfl rfl rfl rfl (by intro s hs; simp only [List.mem_cons, List.not_mem_nil, or_false] at hs; rcases hs with rfl <;> exact op_loadP1 rfl fone_Sapi_Value rfl rfl) ?_)
   refine da_m 4 32 rfl rfl rfl (.inl rfl) rfl ?_
   refine da_q 33 rfl rfl rfl rfl (fun s hs => op_sliceL rfl fsl_Sapi_Value (by simp [V.size]) (by decide) none (some (_, _)) rfl rfl (l' := 0) (h' := i) (by simp [sliceI]; omega)) ?_
   rw [List.drop_zero, ← List.map_take]
   first | (refine da_q 34 rfl rfl rfl rfl (fun s hs => op_loadRA rfl fagg_api_Value) ?_) | (refine da_q 34 rfl rfl rfl rfl (by intro s hs; simp only [List.mem_cons, List.not_mem_nil, or_false] at hs; rcases hs with rfl <;> exact op_loadPA rfl fagg_api_Value rfl (by first | decide | simp) rfl) ?_)
   refine da_q 35 rfl rfl rfl rfl (fun s hs => op_call0 rfl rfl rfl rfl (hix)) ?_
   refine da_q 36 rfl rfl rfl rfl (fun s hs => op_binI rfl rfl) ?_
   refine da_end rfl ⟨by decide +kernel, _, rfl, ?_⟩
   refine at_cond [1, 1, 1, 0, 1, 0, 0, 1, 1, 0, 0, 1, 0, 1, 0] [1, 1, 1, 0, 1, 0, 0, 1, 1, 0, 0, 1, 0, 1, 1] rfl rfl (fun hc2 => ?_) (fun hc2 => ?_)
   ·skip
    exact absurd hc2 (by decide)
   ·skip
    refine at_skip rfl ?_
    refine at_seq [1, 1, 1, 0, 1, 0, 0, 1, 1, 0, 0, 1, 1, 0] [1, 1, 1, 0, 1, 0, 0, 1, 1, 0, 0, 1, 1, 1] rfl ?_
    refine at_region rfl ?_
    first | (refine at_o 37 rfl rfl rfl rfl (op_fieldP rfl ffld1_api_Graph (by decide)) ?_) | (refine at_o 37 rfl rfl rfl rfl (op_fieldR rfl ffld1_api_Graph (by decide) (by decide) rfl) ?_)
    first | (refine at_o 38 rfl rfl rfl rfl (op_loadR1 rfl fone__5b5d5b5d_api_Arc rfl) ?_) | (refine at_o 38 rfl rfl rfl rfl (op_loadP1 rfl fone__5b5d5b5d_api_Arc rfl rfl) ?_)
    refine at_m 4 39 rfl rfl rfl (.inl rfl) rfl ?_
    first | (refine at_o 40 rfl rfl rfl rfl (op_idxL rfl fsl__5b5d5b5d_api_Arc (by first | decide | omega) (by first | assumption | exact idx_some (by assumption) | rfl) (by first | rfl | (simp [V.size]; done))) ?_) | (refine at_o 40 rfl rfl rfl rfl (opOK_un (op_idxL rfl fsl__5b5d5b5d_api_Arc (by first | decide | omega) (by first | assumption | exact idx_some (by assumption) | rfl) (by first | rfl | (simp [V.size]; done)))) ?_) | (refine at_o 40 rfl rfl rfl rfl (op_idxA rfl fsl__5b5d5b5d_api_Arc (by first | decide | omega) (by first | decide | omega)) ?_)
    first | (refine at_o 41 rfl rfl rfl rfl (op_loadR1 rfl fone_Sapi_Arc rfl) ?_) | (refine at_o 41 rfl rfl rfl rfl (op_loadP1 rfl fone_Sapi_Arc rfl rfl) ?_)
    refine at_o 42 rfl rfl rfl rfl (op_makeFunc0 rfl rfl rfl) ?_
    refine at_o 43 rfl rfl rfl rfl (op_call0 rfl rfl rfl rfl (containsFA_spec 31 [] [.ref (vi ↑n)] row (fun _ => false) (fun a ha => check1_spec a n (hrow a ha).1 (hrow a ha).2) (by omega))) ?_
    refine at_end rfl ?_
    refine at_cond [1, 1, 1, 0, 1, 0, 0, 1, 1, 0, 0, 1, 1, 1, 0] [1, 1, 1, 0, 1, 0, 0, 1, 1, 0, 0, 1, 1, 1, 1] rfl rfl (fun hc3 => ?_) (fun hc3 => ?_)
    ·skip
     exact absurd hc3 (by simp)
    ·skip
     refine at_skip rfl ?_
     refine run_blk ?_
     refine at_region rfl ?_
     refine at_o 44 rfl rfl rfl rfl (op_binI rfl rfl) ?_
     rw [wrap_succ (by omega)]
     refine at_m 44 25 rfl rfl rfl (.inl rfl) rfl ?_
     refine at_end rfl ?_
     exact run_wk (.drop (.keep (.drop (.keep (.d16 (.drop (.drop (.drop (.keep (.keep (.keep (.d16 (.drop (.drop (.drop .nil))))))))))))))) (ih _ (by omega) (i + 1) rfl (by omega))
  ·skip
   refine at_exit rfl rfl ?_
   refine at_seq [1, 1, 1, 1, 0] [1, 1, 1, 1, 1] rfl ?_
   refine at_region rfl ?_
   refine at_c 2 rfl rfl rfl (.inr rfl) ?_
   refine at_end rfl ?_
   refine at_ret rfl (ret_one (t := 2) rfl rfl ?_ rfl)
   rfl
set_option maxRecDepth 20000 in
theorem gcheck_spec (n : Nat) (G : List (List Arc)) (hG : GOK n G) (cs : List (List Int)) (hcn : cs.length = n) (hnd : cs.Nodup) (hcl : ∀ c ∈ cs, c.length ≤ 100) : FSpec PP 12 [.v (vGC cs G)] σ0 (di 0) σ0 := by
 have hp := hG.pos
 have hl := hG.len
 have hle := hG.le
 refine spec_at cCheckG Tryz.func12 rfl (by kernel_rfl) (by first | decide | simp) _ (by dsimp only [Tryz.f12, List.length, Nat.reduceAdd, Nat.reduceSub, List.replicate, List.cons_append, List.nil_append]) ?_
 refine at_seq [0] [1] rfl ?_
 refine at_region rfl ?_
 refine at_o 1 rfl rfl rfl rfl (op_boxI rfl rfl) ?_
 refine at_c 2 rfl rfl rfl (.inr rfl) ?_
 refine at_end rfl ?_
 refine at_seq [1, 0] [1, 1] rfl ?_
 refine at_region rfl ?_
 first | (refine at_o 6 rfl rfl rfl rfl (op_fieldP rfl ffld0_api_Graph (by decide)) ?_) | (refine at_o 6 rfl rfl rfl rfl (op_fieldR rfl ffld0_api_Graph (by decide) (by decide) rfl) ?_)
 first | (refine at_o 7 rfl rfl rfl rfl (op_loadR1 rfl fone_Sapi_Value rfl) ?_) | (refine at_o 7 rfl rfl rfl rfl (op_loadP1 rfl fone_Sapi_Value rfl rfl) ?_)
 first | (refine at_o 8 rfl rfl rfl rfl (op_lenL rfl fu_Sapi_Value) ?_) | (refine at_o 8 rfl rfl rfl rfl (opOK_un (op_lenL rfl fu_Sapi_Value)) ?_) | (refine at_o 8 rfl rfl rfl rfl (op_lenA rfl fu_Sapi_Value) ?_)
 simp only [List.length_map, hcn]
 refine at_new 8 3 rfl rfl rfl rfl fzero_int rfl rfl rfl rfl (by decide) rfl rfl fone_int (by first | rfl | (simp [V.size]; done)) rfl (by simp only [List.length_cons]; omega) (by dsimp only [List.set]) ?_
 refine at_end rfl ?_
 refine at_seq [1, 1, 0] [1, 1, 1] rfl ?_
 refine at_seq [1, 1, 0, 0] [1, 1, 0, 1] rfl ?_
 refine at_region rfl ?_
 first | (refine at_o 9 rfl rfl rfl rfl (op_loadR1 rfl fone_int rfl) ?_) | (refine at_o 9 rfl rfl rfl rfl (op_loadP1 rfl fone_int rfl rfl) ?_)
 refine at_o 10 rfl rfl rfl rfl (op_binI rfl rfl) ?_
 refine at_m 10 11 rfl rfl rfl (.inl rfl) rfl ?_
 refine at_split 11 rfl (fun hb1 env' he => ?_) (fun hb1 env' he => ?_)
 ·dsimp only [List.set] at he; subst he
  exact absurd hb1 (by simp; omega)
 ·dsimp only [List.set] at he; subst he
  first | (refine at_o 12 rfl rfl rfl rfl (op_loadR1 rfl fone_int rfl) ?_) | (refine at_o 12 rfl rfl rfl rfl (op_loadP1 rfl fone_int rfl rfl) ?_)
  refine at_o 13 rfl rfl rfl rfl (op_binI rfl rfl) ?_
  refine at_pk false 11 13 14 rfl rfl rfl rfl rfl rfl rfl (by dsimp only [List.set]) ?_
  refine at_m 14 15 rfl rfl rfl (.inl rfl) rfl ?_
  refine at_split 15 rfl (fun hb2 env' he => ?_) (fun hb2 env' he => ?_)
  ·dsimp only [List.set] at he; subst he
   exact absurd hb2 (by simp; omega)
  ·dsimp only [List.set] at he; subst he
   first | (refine at_o 16 rfl rfl rfl rfl (op_fieldP rfl ffld1_api_Graph (by decide)) ?_) | (refine at_o 16 rfl rfl rfl rfl (op_fieldR rfl ffld1_api_Graph (by decide) (by decide) rfl) ?_)
   first | (refine at_o 17 rfl rfl rfl rfl (op_loadR1 rfl fone__5b5d5b5d_api_Arc rfl) ?_) | (refine at_o 17 rfl rfl rfl rfl (op_loadP1 rfl fone__5b5d5b5d_api_Arc rfl rfl) ?_)
   first | (refine at_o 18 rfl rfl rfl rfl (op_lenL rfl fu__5b5d5b5d_api_Arc) ?_) | (refine at_o 18 rfl rfl rfl rfl (opOK_un (op_lenL rfl fu__5b5d5b5d_api_Arc)) ?_) | (refine at_o 18 rfl rfl rfl rfl (op_lenA rfl fu__5b5d5b5d_api_Arc) ?_)
   simp only [List.length_map, hl]
   first | (refine at_o 19 rfl rfl rfl rfl (op_loadR1 rfl fone_int rfl) ?_) | (refine at_o 19 rfl rfl rfl rfl (op_loadP1 rfl fone_int rfl rfl) ?_)
   refine at_o 20 rfl rfl rfl rfl (op_binI rfl rfl) ?_
   refine at_pk false 15 20 21 rfl rfl rfl rfl rfl rfl rfl (by dsimp only [List.set]) ?_
   refine at_end rfl ?_
   refine at_cond [1, 1, 0, 1, 0] [1, 1, 0, 1, 1] rfl rfl (fun hc3 => ?_) (fun hc3 => ?_)
   ·skip
    exact absurd hc3 (by simp)
   ·skip
    refine at_skip rfl ?_
    refine at_seq [1, 1, 1, 0] [1, 1, 1, 1] rfl ?_
    refine at_seq [1, 1, 1, 0, 0] [1, 1, 1, 0, 1] rfl ?_
    refine at_region rfl ?_
    first | (refine at_o 22 rfl rfl rfl rfl (op_fieldP rfl ffld0_api_Graph (by decide)) ?_) | (refine at_o 22 rfl rfl rfl rfl (op_fieldR rfl ffld0_api_Graph (by decide) (by decide) rfl) ?_)
    first | (refine at_o 23 rfl rfl rfl rfl (op_loadR1 rfl fone_Sapi_Value rfl) ?_) | (refine at_o 23 rfl rfl rfl rfl (op_loadP1 rfl fone_Sapi_Value rfl rfl) ?_)
    first | (refine at_o 24 rfl rfl rfl rfl (op_lenL rfl fu_Sapi_Value) ?_) | (refine at_o 24 rfl rfl rfl rfl (opOK_un (op_lenL rfl fu_Sapi_Value)) ?_) | (refine at_o 24 rfl rfl rfl rfl (op_lenA rfl fu_Sapi_Value) ?_)
    simp only [List.length_map, hcn]
    refine at_c 25 rfl rfl rfl (.inl rfl) ?_
    refine at_end rfl ?_
    refine at_block [1, 1, 1, 0, 1, 0] 0 rfl ?_
    refine at_loop [1, 1, 1, 0, 1, 0, 0] rfl ?_
    try simp only [List.length_map, List.length_nil, Int.toNat_natCast]
    exact run_wk (.drop (.keep (.drop (.keep (.d16 (.drop (.drop (.drop (.keep (.keep (.keep (.d16 (.drop (.drop (.drop .nil))))))))))))))) (gcheck_loop n G hG cs hcn hnd hcl _ 0 rfl (by omega))
noncomputable def cValidG1 : Code := Tryz.f72.body.getD .skip
set_option maxRecDepth 20000 in
theorem gvalid1_spec (x : Int) (n : Nat) (G : List (List Arc)) (cs : List (List Int)) (hcn : cs.length = n) (h0 : 0 ≤ x) (h1 : x < n) : FSpec PP 72 [di x, .v (.ref (vGC cs G))] σ0 (db false) σ0 := by
 refine spec_at cValidG1 Tryz.func72 rfl (by kernel_rfl) (by first | decide | simp) _ (by dsimp only [Tryz.f72, List.length, Nat.reduceAdd, Nat.reduceSub, List.replicate, List.cons_append, List.nil_append]) ?_
 refine at_seq [0] [1] rfl ?_
 refine at_region rfl ?_
 refine at_c 3 rfl rfl rfl (.inr rfl) ?_
 refine at_end rfl ?_
 refine at_seq [1, 0] [1, 1] rfl ?_
 refine at_region rfl ?_
 refine at_m 0 4 rfl rfl rfl (.inl rfl) rfl ?_
 refine at_o 5 rfl rfl rfl rfl (op_binI rfl rfl) ?_
 refine at_m 5 6 rfl rfl rfl (.inl rfl) rfl ?_
 refine at_split 6 rfl (fun hb1 env' he => ?_) (fun hb1 env' he => ?_)
 ·dsimp only [List.set] at he; subst he
  refine at_opN (some 7) rfl rfl rfl (by dsimp only [putD, List.set]) ?_
  refine at_opN (some 8) rfl rfl rfl (by dsimp only [putD, List.set]) ?_
  refine at_opN (some 9) rfl rfl rfl (by dsimp only [putD, List.set]) ?_
  refine at_opN (some 10) rfl rfl rfl (by dsimp only [putD, List.set]) ?_
  refine at_opN (some 11) rfl rfl rfl (by dsimp only [putD, List.set]) ?_
  refine at_pkc true 6 12 rfl rfl rfl rfl rfl rfl (by dsimp only [constD]) (by dsimp only [List.set]) ?_
  refine at_m 12 3 rfl rfl rfl (.inr rfl) rfl ?_
  refine at_end rfl ?_
  refine at_ret rfl (ret_one (t := 3) rfl rfl ?_ rfl)
  simp_all <;> omega
 ·dsimp only [List.set] at he; subst he
  refine at_m 0 7 rfl rfl rfl (.inl rfl) rfl ?_
  first | (refine at_o 8 rfl rfl rfl rfl (op_fieldP rfl ffld0_api_Graph (by decide)) ?_) | (refine at_o 8 rfl rfl rfl rfl (op_fieldR rfl ffld0_api_Graph (by decide) (by decide) rfl) ?_)
  first | (refine at_o 9 rfl rfl rfl rfl (op_loadR1 rfl fone_Sapi_Value rfl) ?_) | (refine at_o 9 rfl rfl rfl rfl (op_loadP1 rfl fone_Sapi_Value rfl rfl) ?_)
  first | (refine at_o 10 rfl rfl rfl rfl (op_lenL rfl fu_Sapi_Value) ?_) | (refine at_o 10 rfl rfl rfl rfl (opOK_un (op_lenL rfl fu_Sapi_Value)) ?_) | (refine at_o 10 rfl rfl rfl rfl (op_lenA rfl fu_Sapi_Value) ?_)
  simp only [List.length_map, hcn]
  refine at_o 11 rfl rfl rfl rfl (op_binI rfl rfl) ?_
  refine at_pk false 6 11 12 rfl rfl rfl rfl rfl rfl rfl (by dsimp only [List.set]) ?_
  refine at_m 12 3 rfl rfl rfl (.inr rfl) rfl ?_
  refine at_end rfl ?_
  refine at_ret rfl (ret_one (t := 3) rfl rfl ?_ rfl)
  simp_all <;> omega
noncomputable def cValidG : Code := Tryz.f37.body.getD .skip
set_option maxRecDepth 20000 in
theorem gvalid_spec (n : Nat) (G : List (List Arc)) (hG : GOK n G) (cs : List (List Int)) (hcn : cs.length = n) (hnd : cs.Nodup) (hcl : ∀ c ∈ cs, c.length ≤ 100) (xs : List Int) (hx : ∀ x ∈ xs, 0 ≤ x ∧ x < n) (hxl : xs.length ≤ 100) : FSpec PP 37 [.v (vGC cs G), dl xs] σ0 (db true) σ0 := by
 refine spec_at cValidG Tryz.func37 rfl (by kernel_rfl) (by first | decide | simp) _ (by dsimp only [Tryz.f37, List.length, Nat.reduceAdd, Nat.reduceSub, List.replicate, List.cons_append, List.nil_append]) ?_
 refine at_seq [0] [1] rfl ?_
 refine at_region rfl ?_
 refine at_o 2 rfl rfl rfl rfl (op_boxI rfl rfl) ?_
 refine at_c 4 rfl rfl rfl (.inr rfl) ?_
 refine at_end rfl ?_
 refine at_seq [1, 0] [1, 1] rfl ?_
 refine at_region rfl ?_
 first | (refine at_o 5 rfl rfl rfl rfl (op_loadRA rfl fagg_api_Graph) ?_) | (refine at_o 5 rfl rfl rfl rfl (op_loadPA rfl fagg_api_Graph rfl (by first | decide | simp) rfl) ?_)
 refine at_o 6 rfl rfl rfl rfl (op_call0 rfl rfl rfl rfl (gcheck_spec n G hG cs hcn hnd hcl)) ?_
 refine at_o 7 rfl rfl rfl rfl (op_binI rfl rfl) ?_
 refine at_m 7 8 rfl rfl rfl (.inl rfl) rfl ?_
 refine at_split 8 rfl (fun hb1 env' he => ?_) (fun hb1 env' he => ?_)
 ·dsimp only [List.set] at he; subst he
  refine at_m 1 9 rfl rfl rfl (.inl rfl) rfl ?_
  refine at_o 10 rfl rfl rfl rfl (op_makeFunc0 rfl rfl rfl) ?_
  refine at_o 11 rfl rfl rfl rfl (op_call0 rfl rfl rfl rfl (containsFI_spec 72 [] [.ref (vGC cs G)] xs (fun _ => false) (fun x hx2 => gvalid1_spec x n G cs hcn (hx x hx2).1 (hx x hx2).2) (by omega))) ?_
  refine at_o 12 rfl rfl rfl rfl (op_un rfl rfl) ?_
  refine at_pk true 8 12 13 rfl rfl rfl rfl rfl rfl rfl (by dsimp only [List.set]) ?_
  refine at_m 13 4 rfl rfl rfl (.inr rfl) rfl ?_
  refine at_end rfl ?_
  refine at_ret rfl (ret_one (t := 4) rfl rfl ?_ rfl)
  simp_all
 ·dsimp only [List.set] at he; subst he
  refine at_opN (some 9) rfl rfl rfl (by dsimp only [putD, List.set]) ?_
  refine at_opN (some 10) rfl rfl rfl (by dsimp only [putD, List.set]) ?_
  refine at_opN (some 11) rfl rfl rfl (by dsimp only [putD, List.set]) ?_
  refine at_opN (some 12) rfl rfl rfl (by dsimp only [putD, List.set]) ?_
  refine at_pkc false 8 13 rfl rfl rfl rfl rfl rfl (by dsimp only [constD]) (by dsimp only [List.set]) ?_
  refine at_m 13 4 rfl rfl rfl (.inr rfl) rfl ?_
  refine at_end rfl ?_
  refine at_ret rfl (ret_one (t := 4) rfl rfl ?_ rfl)
  simp_all
noncomputable def cReachPG : Code := Tryz.f16.body.getD .skip
set_option maxRecDepth 20000 in
theorem greachP_spec (n : Nat) (G : List (List Arc)) (hG : GOK n G) (cs : List (List Int)) (hcn : cs.length = n) (hnd : cs.Nodup) (hcl : ∀ c ∈ cs, c.length ≤ 100) (x : Nat) (hx : x < n) : FSpec PP 16 [.v (vGC cs G), di ↑x] σ0 (.v (.list (vns (reachL G n x)))) σ0 := by
 have hrl := reachM_length G n x
 have hle := hG.le
 refine spec_at cReachPG Tryz.func16 rfl (by kernel_rfl) (by first | decide | simp) _ (by dsimp only [Tryz.f16, List.length, Nat.reduceAdd, Nat.reduceSub, List.replicate, List.cons_append, List.nil_append]) ?_
 refine at_seq [0] [1] rfl ?_
 refine at_region rfl ?_
 refine at_o 2 rfl rfl rfl rfl (op_boxI rfl rfl) ?_
 refine at_c 4 rfl rfl rfl (.inr rfl) ?_
 refine at_end rfl ?_
 refine at_seq [1, 0] [1, 1] rfl ?_
 refine at_seq [1, 0, 0] [1, 0, 1] rfl ?_
 refine at_region rfl ?_
 first | (refine at_o 6 rfl rfl rfl rfl (op_loadRA rfl fagg_api_Graph) ?_) | (refine at_o 6 rfl rfl rfl rfl (op_loadPA rfl fagg_api_Graph rfl (by first | decide | simp) rfl) ?_)
 refine at_m 1 7 rfl rfl rfl (.inl rfl) rfl ?_
 refine at_o 8 rfl rfl rfl rfl (op_buildSlice rfl (by rfl) (by rfl) fsl_Sint rfl rfl (by simp [V.size]) (by decide) (by decide) (by decide)) ?_
 refine at_o 9 rfl rfl rfl rfl (op_call0 rfl rfl rfl rfl (gvalid_spec n G hG cs hcn hnd hcl [(x : Int)] (by simp; omega) (by simp))) ?_
 refine at_o 10 rfl rfl rfl rfl (op_un rfl rfl) ?_
 refine at_end rfl ?_
 refine at_cond [1, 0, 1, 0] [1, 0, 1, 1] rfl rfl (fun hc1 => ?_) (fun hc1 => ?_)
 ·skip
  exact absurd hc1 (by simp)
 ·skip
  refine at_skip rfl ?_
  refine at_seq [1, 1, 0] [1, 1, 1] rfl ?_
  refine at_region rfl ?_
  first | (refine at_o 11 rfl rfl rfl rfl (op_loadRA rfl fagg_api_Graph) ?_) | (refine at_o 11 rfl rfl rfl rfl (op_loadPA rfl fagg_api_Graph rfl (by first | decide | simp) rfl) ?_)
  refine at_m 1 12 rfl rfl rfl (.inl rfl) rfl ?_
  refine at_o 13 rfl rfl rfl rfl (op_call0 rfl rfl rfl rfl (greach_spec n G hG cs hcn x hx)) ?_
  refine at_new 13 5 rfl rfl rfl rfl fzero_Sbool rfl rfl rfl rfl (by decide) rfl rfl fone_Sbool (by first | rfl | (simp [V.size]; done)) rfl (by simp only [List.length_cons]; omega) (by dsimp only [List.set]) ?_
  refine at_end rfl ?_
  refine at_seq [1, 1, 1, 0] [1, 1, 1, 1] rfl ?_
  refine at_region rfl ?_
  first | (refine at_o 14 rfl rfl rfl rfl (op_loadR1 rfl fone_Sbool rfl) ?_) | (refine at_o 14 rfl rfl rfl rfl (op_loadP1 rfl fone_Sbool rfl rfl) ?_)
  first | (refine at_o 15 rfl rfl rfl rfl (op_lenL rfl fu_Sbool) ?_) | (refine at_o 15 rfl rfl rfl rfl (opOK_un (op_lenL rfl fu_Sbool)) ?_) | (refine at_o 15 rfl rfl rfl rfl (op_lenA rfl fu_Sbool) ?_)
  simp only [List.length_map, hrl]
  refine at_o 16 rfl rfl rfl rfl (op_makeFunc0 rfl rfl rfl) ?_
  refine at_o 17 rfl rfl rfl rfl (op_call0 rfl rfl rfl rfl (numbers_spec 40 [] [.ref (vbs (reachM G n x))] n (by omega) (gb (reachM G n x)) (fun i hi => reachC_spec _ i (by omega)))) ?_
  refine at_m 17 4 rfl rfl rfl (.inr rfl) rfl ?_
  refine at_end rfl ?_
  refine at_ret rfl (ret_one (t := 4) rfl rfl ?_ rfl)
  rfl
end Go.Proofs.YtmdipbhjhkckjaaGreat

namespace Go.Proofs.YtmdipbhjhkckjaaGreat
open Go.Dv
abbrev sbN (l n : List Int) : List Int := List.zipWith (fun x y => x - y) l n
abbrev adN (v g : List Int) : List Int := List.zipWith (fun x y => x + y) v g
theorem ad_sb : ∀ (g l n : List Int), adN (sbN l n) g = apN g l n
 | [], l, n => by simp [apN]
 | g :: gs, [], n => by simp [apN]
 | g :: gs, x :: xs, [] => by simp [apN]
 | g :: gs, x :: xs, n :: ns => by
                  have h := ad_sb gs xs ns
                  simp only [adN, sbN] at h
                  simp only [adN, sbN, List.zipWith_cons_cons, apN]; rw [h]; congr 1; omega
theorem zip_at {f : Int → Int → Int} {a b : List Int} {i : Nat} {x y : Int} (h1 : a[i]? = some x) (h2 : b[i]? = some y) : (List.zipWith f a b).drop i = f x y :: (List.zipWith f a b).drop (i + 1) := by
 have hl : i < (List.zipWith f a b).length := by
  have := (List.getElem?_eq_some_iff.1 h1).1
  have := (List.getElem?_eq_some_iff.1 h2).1
  simp; omega
 rw [List.drop_eq_getElem_cons hl]
 congr 1
 simp [(List.getElem?_eq_some_iff.1 h1).2, (List.getElem?_eq_some_iff.1 h2).2]
theorem ints_zero' (n : Nat) : List.replicate n (di 0) = dli (List.replicate n 0) := by simp
theorem kid_at {s : Int} {l : List Int} {i : Nat} {x : Int} (h : l[i]? = some x) : (List.map vN (s :: l))[((i + 1 : Nat) : Int).toNat]? = some (vN x) := by simp [h]
theorem one_add {i : Nat} (h : i ≤ 1000000000) : IntKind.i64.wrap (1 + (i : Int)) = ((i + 1 : Nat) : Int) := by rw [wrap_id (by omega) (by omega)]; omega
theorem sb_small : ∀ (l n : List Int), (∀ x ∈ l, 0 ≤ x ∧ x ≤ 1000) → (∀ x ∈ n, 0 ≤ x ∧ x ≤ 1000) → ∀ y ∈ sbN l n, -1000 ≤ y ∧ y ≤ 1000
 | x :: xs, n :: ns, h2, h3 => by
  intro y hy
  simp only [sbN, List.zipWith_cons_cons, List.mem_cons] at hy
  rcases hy with rfl | hy
  ·have b := h2 x (by simp)
   have c := h3 n (by simp)
   omega
  ·exact sb_small xs ns (fun z hz => h2 z (by simp [hz])) (fun z hz => h3 z (by simp [hz])) y hy
 | [], _, _, _ => by simp
 | _ :: _, [], _, _ => by simp
noncomputable def cRKind : Code := Tryz.f33.body.getD .skip
set_option maxRecDepth 20000 in
theorem rkind_spec (m : Md) (hm : MdOK m) : FSpec PP 33 [.v (vMd m)] σ0 (di 0) σ0 := by
 refine spec_at cRKind Tryz.func33 rfl (by kernel_rfl) (by first | decide | simp) _ (by dsimp only [Tryz.f33, List.length, Nat.reduceAdd, Nat.reduceSub, List.replicate, List.cons_append, List.nil_append]) ?_
 refine at_seq [0] [1] rfl ?_
 refine at_region rfl ?_
 refine at_o 1 rfl rfl rfl rfl (op_boxI rfl rfl) ?_
 refine at_c 2 rfl rfl rfl (.inr rfl) ?_
 refine at_end rfl ?_
 refine at_seq [1, 0] [1, 1] rfl ?_
 refine at_seq [1, 0, 0] [1, 0, 1] rfl ?_
 refine at_region rfl ?_
 first | (refine at_o 4 rfl rfl rfl rfl (op_loadRA rfl fagg_api_Model) ?_) | (refine at_o 4 rfl rfl rfl rfl (op_loadPA rfl fagg_api_Model rfl (by first | decide | simp) rfl) ?_)
 refine at_o 5 rfl rfl rfl rfl (op_call0 rfl rfl rfl rfl (mdRCheck hm)) ?_
 refine at_m 5 3 rfl rfl rfl (.inr rfl) rfl ?_
 refine at_end rfl ?_
 refine at_seq [1, 0, 1, 0] [1, 0, 1, 1] rfl ?_
 refine at_region rfl ?_
 refine at_m 3 6 rfl rfl rfl (.inl rfl) rfl ?_
 refine at_o 7 rfl rfl rfl rfl (op_binI rfl rfl) ?_
 refine at_end rfl ?_
 refine at_cond [1, 0, 1, 1, 0] [1, 0, 1, 1, 1] rfl rfl (fun hc1 => ?_) (fun hc1 => ?_)
 ·skip
  exact absurd hc1 (by simp)
 ·skip
  refine at_skip rfl ?_
  refine at_seq [1, 1, 0] [1, 1, 1] rfl ?_
  refine at_seq [1, 1, 0, 0] [1, 1, 0, 1] rfl ?_
  refine at_region rfl ?_
  first | (refine at_o 9 rfl rfl rfl rfl (op_fieldP rfl ffld0_api_Model (by decide)) ?_) | (refine at_o 9 rfl rfl rfl rfl (op_fieldR rfl ffld0_api_Model (by decide) (by decide) rfl) ?_)
  first | (refine at_o 10 rfl rfl rfl rfl (op_loadR1 rfl fone_int rfl) ?_) | (refine at_o 10 rfl rfl rfl rfl (op_loadP1 rfl fone_int rfl rfl) ?_)
  refine at_o 11 rfl rfl rfl rfl (op_binI rfl rfl) ?_
  refine at_end rfl ?_
  refine at_cond [1, 1, 0, 1, 0] [1, 1, 0, 1, 1] rfl rfl (fun hc2 => ?_) (fun hc2 => ?_)
  ·skip
   exact absurd hc2 (by simp)
  ·skip
   refine at_skip rfl ?_
   refine at_seq [1, 1, 1, 0] [1, 1, 1, 1] rfl ?_
   refine at_region rfl ?_
   refine at_c 2 rfl rfl rfl (.inr rfl) ?_
   refine at_end rfl ?_
   refine at_ret rfl (ret_one (t := 2) rfl rfl ?_ rfl)
   rfl
noncomputable def cRQuiet : Code := Tryz.f66.body.getD .skip
set_option maxRecDepth 20000 in
theorem rquiet_spec (m : Md) (hm : MdOK m) (c : List Int) (hc : CfOK m.ns m.np c) : FSpec PP 66 [.v (vMd m), .v (vCf c)] σ0 (.tup [.v (.list []), di 0]) σ0 := by
 refine spec_at cRQuiet Tryz.func66 rfl (by kernel_rfl) (by first | decide | simp) _ (by dsimp only [Tryz.f66, List.length, Nat.reduceAdd, Nat.reduceSub, List.replicate, List.cons_append, List.nil_append]) ?_
 refine at_seq [0] [1] rfl ?_
 refine at_region rfl ?_
 refine at_o 2 rfl rfl rfl rfl (op_boxI rfl rfl) ?_
 refine at_o 3 rfl rfl rfl rfl (op_boxI rfl rfl) ?_
 refine at_c 4 rfl rfl rfl (.inr rfl) ?_
 refine at_c 5 rfl rfl rfl (.inr rfl) ?_
 refine at_end rfl ?_
 refine at_seq [1, 0] [1, 1] rfl ?_
 refine at_seq [1, 0, 0] [1, 0, 1] rfl ?_
 refine at_region rfl ?_
 first | (refine at_o 9 rfl rfl rfl rfl (op_loadRA rfl fagg_api_Model) ?_) | (refine at_o 9 rfl rfl rfl rfl (op_loadPA rfl fagg_api_Model rfl (by first | decide | simp) rfl) ?_)
 refine at_o 10 rfl rfl rfl rfl (op_call0 rfl rfl rfl rfl (rkind_spec m hm)) ?_
 refine at_m 10 6 rfl rfl rfl (.inr rfl) rfl ?_
 refine at_end rfl ?_
 refine at_seq [1, 0, 1, 0] [1, 0, 1, 1] rfl ?_
 refine at_region rfl ?_
 refine at_m 6 11 rfl rfl rfl (.inl rfl) rfl ?_
 refine at_o 12 rfl rfl rfl rfl (op_binI rfl rfl) ?_
 refine at_end rfl ?_
 refine at_cond [1, 0, 1, 1, 0] [1, 0, 1, 1, 1] rfl rfl (fun hc1 => ?_) (fun hc1 => ?_)
 ·skip
  exact absurd hc1 (by simp)
 ·skip
  refine at_skip rfl ?_
  refine at_seq [1, 1, 0] [1, 1, 1] rfl ?_
  refine at_seq [1, 1, 0, 0] [1, 1, 0, 1] rfl ?_
  refine at_region rfl ?_
  first | (refine at_o 14 rfl rfl rfl rfl (op_loadRA rfl fagg_api_Model) ?_) | (refine at_o 14 rfl rfl rfl rfl (op_loadPA rfl fagg_api_Model rfl (by first | decide | simp) rfl) ?_)
  first | (refine at_o 15 rfl rfl rfl rfl (op_loadRA rfl fagg_api_Value) ?_) | (refine at_o 15 rfl rfl rfl rfl (op_loadPA rfl fagg_api_Value rfl (by first | decide | simp) rfl) ?_)
  refine at_o 16 rfl rfl rfl rfl (op_call0 rfl rfl rfl rfl (mdRValid hm hc)) ?_
  refine at_o 17 rfl rfl rfl rfl (op_un rfl rfl) ?_
  refine at_end rfl ?_
  refine at_cond [1, 1, 0, 1, 0] [1, 1, 0, 1, 1] rfl rfl (fun hc2 => ?_) (fun hc2 => ?_)
  ·skip
   exact absurd hc2 (by simp)
  ·skip
   refine at_skip rfl ?_
   refine at_seq [1, 1, 1, 0] [1, 1, 1, 1] rfl ?_
   refine at_seq [1, 1, 1, 0, 0] [1, 1, 1, 0, 1] rfl ?_
   refine at_region rfl ?_
   first | (refine at_o 18 rfl rfl rfl rfl (op_fieldP rfl ffld0_api_Model (by decide)) ?_) | (refine at_o 18 rfl rfl rfl rfl (op_fieldR rfl ffld0_api_Model (by decide) (by decide) rfl) ?_)
   first | (refine at_o 19 rfl rfl rfl rfl (op_loadR1 rfl fone_int rfl) ?_) | (refine at_o 19 rfl rfl rfl rfl (op_loadP1 rfl fone_int rfl rfl) ?_)
   refine at_end rfl ?_
   refine at_block [1, 1, 1, 0, 1, 0] 0 rfl ?_
   refine at_seq [1, 1, 1, 0, 1, 0, 0] [1, 1, 1, 0, 1, 0, 1] rfl ?_
   refine at_seq [1, 1, 1, 0, 1, 0, 0, 0] [1, 1, 1, 0, 1, 0, 0, 1] rfl ?_
   refine at_region rfl ?_
   refine at_o 21 rfl rfl rfl rfl (op_binI rfl rfl) ?_
   refine at_m 21 20 rfl rfl rfl (.inr rfl) rfl ?_
   refine at_end rfl ?_
   refine at_cond [1, 1, 1, 0, 1, 0, 0, 1, 0] [1, 1, 1, 0, 1, 0, 0, 1, 1] rfl rfl (fun hc3 => ?_) (fun hc3 => ?_)
   ·skip
    exact absurd hc3 (by simp)
   ·skip
    refine at_region rfl ?_
    refine at_o 22 rfl rfl rfl rfl (op_binI rfl rfl) ?_
    refine at_m 22 20 rfl rfl rfl (.inr rfl) rfl ?_
    refine at_end rfl ?_
    refine at_cond [1, 1, 1, 0, 1, 0, 1, 0] [1, 1, 1, 0, 1, 0, 1, 1] rfl rfl (fun hc4 => ?_) (fun hc4 => ?_)
    ·skip
     exact absurd hc4 (by simp)
    ·skip
     refine at_seq [1, 1, 1, 0, 1, 0, 1, 1, 0] [1, 1, 1, 0, 1, 0, 1, 1, 1] rfl ?_
     refine at_region rfl ?_
     refine at_o 29 rfl rfl rfl rfl (op_binI rfl rfl) ?_
     refine at_m 29 28 rfl rfl rfl (.inr rfl) rfl ?_
     refine at_end rfl ?_
     refine at_cond [1, 1, 1, 0, 1, 0, 1, 1, 1, 0] [1, 1, 1, 0, 1, 0, 1, 1, 1, 1] rfl rfl (fun hc5 => ?_) (fun hc5 => ?_)
     ·skip
      exact absurd hc5 (by simp)
     ·skip
      refine at_skip rfl ?_
      refine run_blk ?_
      refine at_seq [1, 1, 1, 1, 0] [1, 1, 1, 1, 1] rfl ?_
      refine at_region rfl ?_
      refine at_c 4 rfl rfl rfl (.inr rfl) ?_
      refine at_c 5 rfl rfl rfl (.inr rfl) ?_
      refine at_end rfl ?_
      refine at_ret rfl (ret_two (t := 4) (t2 := 5) rfl rfl rfl ?_ ?_ rfl rfl)
      all_goals (rfl)
noncomputable def cFault : Code := Tryz.f181.body.getD .skip
set_option maxRecDepth 20000 in
theorem fault_spec (m : Md) (hm : MdOK m) (k : Nat) (hk : k < m.rules.length) : FSpec PP 181 [.v (vMd m), di ↑k] σ0 (di 0) σ0 := by
 refine spec_at cFault Tryz.func181 rfl (by kernel_rfl) (by first | decide | simp) _ (by dsimp only [Tryz.f181, List.length, Nat.reduceAdd, Nat.reduceSub, List.replicate, List.cons_append, List.nil_append]) ?_
 refine at_seq [0] [1] rfl ?_
 refine at_region rfl ?_
 refine at_o 2 rfl rfl rfl rfl (op_boxI rfl rfl) ?_
 refine at_c 4 rfl rfl rfl (.inr rfl) ?_
 refine at_end rfl ?_
 refine at_seq [1, 0] [1, 1] rfl ?_
 refine at_seq [1, 0, 0] [1, 0, 1] rfl ?_
 refine at_region rfl ?_
 first | (refine at_o 6 rfl rfl rfl rfl (op_loadRA rfl fagg_api_Model) ?_) | (refine at_o 6 rfl rfl rfl rfl (op_loadPA rfl fagg_api_Model rfl (by first | decide | simp) rfl) ?_)
 refine at_o 7 rfl rfl rfl rfl (op_call0 rfl rfl rfl rfl (mdRCheck hm)) ?_
 refine at_m 7 5 rfl rfl rfl (.inr rfl) rfl ?_
 refine at_end rfl ?_
 refine at_seq [1, 0, 1, 0] [1, 0, 1, 1] rfl ?_
 refine at_region rfl ?_
 refine at_m 5 8 rfl rfl rfl (.inl rfl) rfl ?_
 refine at_o 9 rfl rfl rfl rfl (op_binI rfl rfl) ?_
 refine at_end rfl ?_
 refine at_cond [1, 0, 1, 1, 0] [1, 0, 1, 1, 1] rfl rfl (fun hc1 => ?_) (fun hc1 => ?_)
 ·skip
  exact absurd hc1 (by simp)
 ·skip
  refine at_skip rfl ?_
  refine at_seq [1, 1, 0] [1, 1, 1] rfl ?_
  refine at_seq [1, 1, 0, 0] [1, 1, 0, 1] rfl ?_
  refine at_region rfl ?_
  first | (refine at_o 11 rfl rfl rfl rfl (op_fieldP rfl ffld0_api_Model (by decide)) ?_) | (refine at_o 11 rfl rfl rfl rfl (op_fieldR rfl ffld0_api_Model (by decide) (by decide) rfl) ?_)
  first | (refine at_o 12 rfl rfl rfl rfl (op_loadR1 rfl fone_int rfl) ?_) | (refine at_o 12 rfl rfl rfl rfl (op_loadP1 rfl fone_int rfl rfl) ?_)
  refine at_o 13 rfl rfl rfl rfl (op_binI rfl rfl) ?_
  refine at_end rfl ?_
  refine at_cond [1, 1, 0, 1, 0] [1, 1, 0, 1, 1] rfl rfl (fun hc2 => ?_) (fun hc2 => ?_)
  ·skip
   exact absurd hc2 (by simp)
  ·skip
   refine at_skip rfl ?_
   refine at_seq [1, 1, 1, 0] [1, 1, 1, 1] rfl ?_
   refine at_seq [1, 1, 1, 0, 0] [1, 1, 1, 0, 1] rfl ?_
   refine at_region rfl ?_
   refine at_m 1 14 rfl rfl rfl (.inl rfl) rfl ?_
   refine at_o 15 rfl rfl rfl rfl (op_binI rfl rfl) ?_
   rw [show decide ((k : Int) < 0) = false by simp]
   refine at_m 15 16 rfl rfl rfl (.inl rfl) rfl ?_
   refine at_m 1 17 rfl rfl rfl (.inl rfl) rfl ?_
   first | (refine at_o 18 rfl rfl rfl rfl (op_fieldP rfl ffld7_api_Model (by decide)) ?_) | (refine at_o 18 rfl rfl rfl rfl (op_fieldR rfl ffld7_api_Model (by decide) (by decide) rfl) ?_)
   first | (refine at_o 19 rfl rfl rfl rfl (op_loadR1 rfl fone_Sapi_Rule rfl) ?_) | (refine at_o 19 rfl rfl rfl rfl (op_loadP1 rfl fone_Sapi_Rule rfl rfl) ?_)
   first | (refine at_o 20 rfl rfl rfl rfl (op_lenL rfl fu_Sapi_Rule) ?_) | (refine at_o 20 rfl rfl rfl rfl (opOK_un (op_lenL rfl fu_Sapi_Rule)) ?_) | (refine at_o 20 rfl rfl rfl rfl (op_lenA rfl fu_Sapi_Rule) ?_)
   simp only [List.length_map]
   refine at_o 21 rfl rfl rfl rfl (op_binI rfl rfl) ?_
   refine at_pk false 16 21 22 rfl rfl rfl rfl rfl rfl rfl (by dsimp only [List.set]) ?_
   refine at_end rfl ?_
   refine at_cond [1, 1, 1, 0, 1, 0] [1, 1, 1, 0, 1, 1] rfl rfl (fun hc3 => ?_) (fun hc3 => ?_)
   ·skip
    exact absurd hc3 (by first | (simp; done) | (simp; omega))
   ·skip
    refine at_skip rfl ?_
    refine at_seq [1, 1, 1, 1, 0] [1, 1, 1, 1, 1] rfl ?_
    refine at_region rfl ?_
    refine at_c 4 rfl rfl rfl (.inr rfl) ?_
    refine at_end rfl ?_
    refine at_ret rfl (ret_one (t := 4) rfl rfl ?_ rfl)
    rfl
noncomputable def cREn : Code := Tryz.f182.body.getD .skip
set_option maxRecDepth 20000 in
theorem ren_loop (r : Rl) (s : Int) (l : List Int) (hl : l.length = r.need.length) (hl2 : l.length ≤ 100) (T : Bool) (m : Nat) : ∀ (i : Nat), l.length - i = m → T = geQ (l.drop i) (r.need.drop i) → Run PP (fun env σ1 => ResOK PP Tryz.f182 env σ1 (db T) σ0) [.lp (sub cREn [1, 1, 0, 1, 0, 0]), .blk 0, .code (sub cREn [1, 1, 1])] (.undef :: .undef :: (.v (.ref (vRl r))) :: (.v (.ref (vCf (s :: l)))) :: .undef :: (di ↑i) :: .undef :: .undef :: .undef :: .undef :: .undef :: .undef :: .undef :: .undef :: .undef :: .undef :: .undef :: .undef :: .undef :: .undef :: .undef :: .undef :: .undef :: .undef :: .undef :: .undef :: .undef :: .undef :: .undef :: .undef :: .undef :: .undef :: .undef :: .undef :: []) σ0 := by
 induction m using Nat.strongRecOn with
 | _ m ih =>
  intro i hm hT
  refine run_lp ?_
  refine at_seq [1, 1, 0, 1, 0, 0, 0] [1, 1, 0, 1, 0, 0, 1] rfl ?_
  refine at_seq [1, 1, 0, 1, 0, 0, 0, 0] [1, 1, 0, 1, 0, 0, 0, 1] rfl ?_
  refine at_region rfl ?_
  refine at_m 5 14 rfl rfl rfl (.inl rfl) rfl ?_
  first | (refine at_o 15 rfl rfl rfl rfl (op_fieldP rfl ffld3_api_Rule (by decide)) ?_) | (refine at_o 15 rfl rfl rfl rfl (op_fieldR rfl ffld3_api_Rule (by decide) (by decide) rfl) ?_)
  first | (refine at_o 16 rfl rfl rfl rfl (op_loadR1 rfl fone_Sint rfl) ?_) | (refine at_o 16 rfl rfl rfl rfl (op_loadP1 rfl fone_Sint rfl rfl) ?_)
  first | (refine at_o 17 rfl rfl rfl rfl (op_lenL rfl fu_Sint) ?_) | (refine at_o 17 rfl rfl rfl rfl (opOK_un (op_lenL rfl fu_Sint)) ?_) | (refine at_o 17 rfl rfl rfl rfl (op_lenA rfl fu_Sint) ?_)
  simp only [List.length_map]
  refine at_o 18 rfl rfl rfl rfl (op_binI rfl rfl) ?_
  refine at_end rfl ?_
  refine at_cond [1, 1, 0, 1, 0, 0, 0, 1, 0] [1, 1, 0, 1, 0, 0, 0, 1, 1] rfl rfl (fun hc1 => ?_) (fun hc1 => ?_)
  ·skip
   have hlt : i < l.length := by simp at hc1; omega
   obtain ⟨x, hx⟩ := get_ex hlt
   obtain ⟨y, hy⟩ := get_ex (a := r.need) (i := i) (by omega)
   have hx2 := kid_at (s := s) hx
   have hy2 := idx_some (f := vi) hy
   rw [List.drop_eq_getElem_cons hlt, List.drop_eq_getElem_cons (show i < r.need.length by omega), (List.getElem?_eq_some_iff.1 hx).2, (List.getElem?_eq_some_iff.1 hy).2] at hT
   simp only [geQ, List.zip_cons_cons, List.all_cons] at hT
   refine at_skip rfl ?_
   refine at_seq [1, 1, 0, 1, 0, 0, 1, 0] [1, 1, 0, 1, 0, 0, 1, 1] rfl ?_
   refine at_block [1, 1, 0, 1, 0, 0, 1, 0, 0] 1 rfl ?_
   refine at_seq [1, 1, 0, 1, 0, 0, 1, 0, 0, 0] [1, 1, 0, 1, 0, 0, 1, 0, 0, 1] rfl ?_
   refine at_draw mixed rfl [σ0] rfl ?_
   first | (refine da_q 21 rfl rfl rfl rfl (fun s hs => op_fieldP rfl ffld1_api_Value (by decide)) ?_) | (refine da_q 21 rfl rfl rfl rfl (fun s hs => op_fieldR rfl ffld1_api_Value (by decide) (by decide) rfl) ?_)
   first | (refine da_q 22 rfl rfl rfl rfl (fun s hs => op_loadR1 rfl fone_Sapi_Value rfl) ?_) | (refine da_q 22 rfl rfl rfl rfl (by intro s hs; simp only [List.mem_cons, List.not_mem_nil, or_false] at hs; rcases hs with rfl <;> exact op_loadP1 rfl fone_Sapi_Value rfl rfl) ?_)
   refine da_m 5 23 rfl rfl rfl (.inl rfl) rfl ?_
   refine da_q 24 rfl rfl rfl rfl (fun s hs => op_binI rfl rfl) ?_
   rw [one_add (by omega)]
   first | (refine da_q 25 rfl rfl rfl rfl (fun s hs => op_idxL rfl fsl_Sapi_Value (by first | decide | omega) (by first | assumption | exact idx_some (by assumption) | rfl) (by first | rfl | (simp [V.size]; done))) ?_) | (refine da_q 25 rfl rfl rfl rfl (fun s hs => opOK_un (op_idxL rfl fsl_Sapi_Value (by first | decide | omega) (by first | assumption | exact idx_some (by assumption) | rfl) (by first | rfl | (simp [V.size]; done)))) ?_) | (refine da_q 25 rfl rfl rfl rfl (fun s hs => op_idxA rfl fsl_Sapi_Value (by first | decide | omega) (by first | decide | omega)) ?_)
   first | (refine da_q 26 rfl rfl rfl rfl (fun s hs => op_fieldP rfl ffld0_api_Value (by decide)) ?_) | (refine da_q 26 rfl rfl rfl rfl (fun s hs => op_fieldR rfl ffld0_api_Value (by decide) (by decide) rfl) ?_)
   first | (refine da_q 27 rfl rfl rfl rfl (fun s hs => op_loadR1 rfl fone_int rfl) ?_) | (refine da_q 27 rfl rfl rfl rfl (by intro s hs; simp only [List.mem_cons, List.not_mem_nil, or_false] at hs; rcases hs with rfl <;> exact op_loadP1 rfl fone_int rfl rfl) ?_)
   first | (refine da_q 28 rfl rfl rfl rfl (fun s hs => op_fieldP rfl ffld3_api_Rule (by decide)) ?_) | (refine da_q 28 rfl rfl rfl rfl (fun s hs => op_fieldR rfl ffld3_api_Rule (by decide) (by decide) rfl) ?_)
   first | (refine da_q 29 rfl rfl rfl rfl (fun s hs => op_loadR1 rfl fone_Sint rfl) ?_) | (refine da_q 29 rfl rfl rfl rfl (by intro s hs; simp only [List.mem_cons, List.not_mem_nil, or_false] at hs; rcases hs with rfl <;> exact op_loadP1 rfl fone_Sint rfl rfl) ?_)
   refine da_m 5 30 rfl rfl rfl (.inl rfl) rfl ?_
   first | (refine da_q 31 rfl rfl rfl rfl (fun s hs => op_idxL rfl fsl_Sint (by first | decide | omega) (by first | assumption | exact idx_some (by assumption) | rfl) (by first | rfl | (simp [V.size]; done))) ?_) | (refine da_q 31 rfl rfl rfl rfl (fun s hs => opOK_un (op_idxL rfl fsl_Sint (by first | decide | omega) (by first | assumption | exact idx_some (by assumption) | rfl) (by first | rfl | (simp [V.size]; done)))) ?_) | (refine da_q 31 rfl rfl rfl rfl (fun s hs => op_idxA rfl fsl_Sint (by first | decide | omega) (by first | decide | omega)) ?_)
   first | (refine da_q 32 rfl rfl rfl rfl (fun s hs => op_loadR1 rfl fone_int rfl) ?_) | (refine da_q 32 rfl rfl rfl rfl (by intro s hs; simp only [List.mem_cons, List.not_mem_nil, or_false] at hs; rcases hs with rfl <;> exact op_loadP1 rfl fone_int rfl rfl) ?_)
   refine da_q 33 rfl rfl rfl rfl (fun s hs => op_binI rfl rfl) ?_
   refine da_end rfl ⟨by decide +kernel, _, rfl, ?_⟩
   refine at_cond [1, 1, 0, 1, 0, 0, 1, 0, 0, 1, 0] [1, 1, 0, 1, 0, 0, 1, 0, 0, 1, 1] rfl rfl (fun hc2 => ?_) (fun hc2 => ?_)
   ·skip
    have hxy : x < y := by simpa using hc2
    rw [show decide (y ≤ x) = false by simp; omega, Bool.false_and] at hT
    refine at_seq [1, 1, 0, 1, 0, 0, 1, 0, 0, 1, 0, 0] [1, 1, 0, 1, 0, 0, 1, 0, 0, 1, 0, 1] rfl ?_
    refine at_region rfl ?_
    refine at_c 4 rfl rfl rfl (.inr rfl) ?_
    refine at_end rfl ?_
    refine at_ret rfl (ret_one (t := 4) rfl rfl ?_ rfl)
    rw [hT]; try rfl
   ·skip
    have hxy : ¬ x < y := by simpa using hc2
    rw [show decide (y ≤ x) = true by simp; omega, Bool.true_and] at hT
    refine at_skip rfl ?_
    refine run_blk ?_
    refine at_region rfl ?_
    refine at_m 5 19 rfl rfl rfl (.inl rfl) rfl ?_
    refine at_o 20 rfl rfl rfl rfl (op_binI rfl rfl) ?_
    rw [wrap_succ (by omega)]
    refine at_m 20 5 rfl rfl rfl (.inr rfl) rfl ?_
    refine at_end rfl ?_
    exact run_wk (.drop (.drop (.keep (.keep (.drop (.keep (.d16 (.d4 (.d4 (.d4 .nil)))))))))) (ih _ (by omega) (i + 1) rfl hT)
  ·skip
   have hge : l.length ≤ i := by simp at hc1; omega
   rw [List.drop_of_length_le hge] at hT
   simp only [geQ, List.zip_nil_left, List.all_nil] at hT
   refine at_exit rfl rfl ?_
   refine at_seq [1, 1, 1, 0] [1, 1, 1, 1] rfl ?_
   refine at_region rfl ?_
   refine at_c 4 rfl rfl rfl (.inr rfl) ?_
   refine at_end rfl ?_
   refine at_ret rfl (ret_one (t := 4) rfl rfl ?_ rfl)
   rw [hT]; try rfl
set_option maxRecDepth 20000 in
theorem ren_spec (r : Rl) (s : Int) (l : List Int) (hl : l.length = r.need.length) (hl2 : l.length ≤ 100) : FSpec PP 182 [.v (vRl r), .v (vCf (s :: l))] σ0 (db (enQ r (s :: l))) σ0 := by
 refine spec_at cREn Tryz.func182 rfl (by kernel_rfl) (by first | decide | simp) _ (by dsimp only [Tryz.f182, List.length, Nat.reduceAdd, Nat.reduceSub, List.replicate, List.cons_append, List.nil_append]) ?_
 refine at_seq [0] [1] rfl ?_
 refine at_region rfl ?_
 refine at_o 2 rfl rfl rfl rfl (op_boxI rfl rfl) ?_
 refine at_o 3 rfl rfl rfl rfl (op_boxI rfl rfl) ?_
 refine at_c 4 rfl rfl rfl (.inr rfl) ?_
 refine at_end rfl ?_
 refine at_seq [1, 0] [1, 1] rfl ?_
 refine at_seq [1, 0, 0] [1, 0, 1] rfl ?_
 refine at_draw mixed rfl [σ0] rfl ?_
 first | (refine da_q 6 rfl rfl rfl rfl (fun s hs => op_fieldP rfl ffld1_api_Value (by decide)) ?_) | (refine da_q 6 rfl rfl rfl rfl (fun s hs => op_fieldR rfl ffld1_api_Value (by decide) (by decide) rfl) ?_)
 first | (refine da_q 7 rfl rfl rfl rfl (fun s hs => op_loadR1 rfl fone_Sapi_Value rfl) ?_) | (refine da_q 7 rfl rfl rfl rfl (by intro s hs; simp only [List.mem_cons, List.not_mem_nil, or_false] at hs; rcases hs with rfl <;> exact op_loadP1 rfl fone_Sapi_Value rfl rfl) ?_)
 first | (refine da_q 8 rfl rfl rfl rfl (fun s hs => op_idxL rfl fsl_Sapi_Value (by first | decide | omega) (by first | assumption | exact idx_some (by assumption) | rfl) (by first | rfl | (simp [V.size]; done))) ?_) | (refine da_q 8 rfl rfl rfl rfl (fun s hs => opOK_un (op_idxL rfl fsl_Sapi_Value (by first | decide | omega) (by first | assumption | exact idx_some (by assumption) | rfl) (by first | rfl | (simp [V.size]; done)))) ?_) | (refine da_q 8 rfl rfl rfl rfl (fun s hs => op_idxA rfl fsl_Sapi_Value (by first | decide | omega) (by first | decide | omega)) ?_)
 first | (refine da_q 9 rfl rfl rfl rfl (fun s hs => op_fieldP rfl ffld0_api_Value (by decide)) ?_) | (refine da_q 9 rfl rfl rfl rfl (fun s hs => op_fieldR rfl ffld0_api_Value (by decide) (by decide) rfl) ?_)
 first | (refine da_q 10 rfl rfl rfl rfl (fun s hs => op_loadR1 rfl fone_int rfl) ?_) | (refine da_q 10 rfl rfl rfl rfl (by intro s hs; simp only [List.mem_cons, List.not_mem_nil, or_false] at hs; rcases hs with rfl <;> exact op_loadP1 rfl fone_int rfl rfl) ?_)
 first | (refine da_q 11 rfl rfl rfl rfl (fun s hs => op_fieldP rfl ffld1_api_Rule (by decide)) ?_) | (refine da_q 11 rfl rfl rfl rfl (fun s hs => op_fieldR rfl ffld1_api_Rule (by decide) (by decide) rfl) ?_)
 first | (refine da_q 12 rfl rfl rfl rfl (fun s hs => op_loadR1 rfl fone_int rfl) ?_) | (refine da_q 12 rfl rfl rfl rfl (by intro s hs; simp only [List.mem_cons, List.not_mem_nil, or_false] at hs; rcases hs with rfl <;> exact op_loadP1 rfl fone_int rfl rfl) ?_)
 refine da_q 13 rfl rfl rfl rfl (fun s hs => op_binI rfl rfl) ?_
 refine da_end rfl ⟨by decide +kernel, _, rfl, ?_⟩
 refine at_cond [1, 0, 1, 0] [1, 0, 1, 1] rfl rfl (fun hc1 => ?_) (fun hc1 => ?_)
 ·skip
  have hne : ¬ s = r.frm := by simpa using hc1
  rw [show enQ r (s :: l) = false by simp [enQ, hne]]
  refine at_seq [1, 0, 1, 0, 0] [1, 0, 1, 0, 1] rfl ?_
  refine at_region rfl ?_
  refine at_c 4 rfl rfl rfl (.inr rfl) ?_
  refine at_end rfl ?_
  refine at_ret rfl (ret_one (t := 4) rfl rfl ?_ rfl)
  rfl
 ·skip
  have he : s = r.frm := by simpa using hc1
  rw [show enQ r (s :: l) = geQ l r.need by simp [enQ, he]]
  refine at_skip rfl ?_
  refine at_seq [1, 1, 0] [1, 1, 1] rfl ?_
  refine at_seq [1, 1, 0, 0] [1, 1, 0, 1] rfl ?_
  refine at_region rfl ?_
  refine at_c 5 rfl rfl rfl (.inr rfl) ?_
  refine at_end rfl ?_
  refine at_block [1, 1, 0, 1, 0] 0 rfl ?_
  refine at_loop [1, 1, 0, 1, 0, 0] rfl ?_
  try simp only [List.length_map, List.length_nil, Int.toNat_natCast]
  exact run_wk (.drop (.drop (.keep (.keep (.drop (.keep (.d16 (.d4 (.d4 (.d4 .nil)))))))))) (ren_loop r s l hl hl2 _ _ 0 rfl (by simp))
noncomputable def cREnb : Code := Tryz.f112.body.getD .skip
set_option maxRecDepth 20000 in
theorem renb_spec (m : Md) (hm : MdOK m) (s : Int) (l : List Int) (hc : CfOK m.ns m.np (s :: l)) (k : Nat) (r : Rl) (hr : m.rules[k]? = some r) : FSpec PP 112 [.v (vMd m), di ↑k, .v (vCf (s :: l))] σ0 (.tup [db (enQ r (s :: l)), di 0]) σ0 := by
 have hro := hm.rl r (List.mem_of_getElem? hr)
 have hkl := (List.getElem?_eq_some_iff.1 hr).1
 have hr2 := idx_some (f := vRl) hr
 have h1 : l.length = m.np := by have := hc.len; simpa using this
 have h2 := hro.nl
 have h3 := hro.gl
 have h4 := hm.p0
 have h5 := hm.p1
 have hre := ren_spec r s l (by omega) (by omega)
 refine spec_at cREnb Tryz.func112 rfl (by kernel_rfl) (by first | decide | simp) _ (by dsimp only [Tryz.f112, List.length, Nat.reduceAdd, Nat.reduceSub, List.replicate, List.cons_append, List.nil_append]) ?_
 refine at_seq [0] [1] rfl ?_
 refine at_region rfl ?_
 refine at_o 3 rfl rfl rfl rfl (op_boxI rfl rfl) ?_
 refine at_o 5 rfl rfl rfl rfl (op_boxI rfl rfl) ?_
 refine at_c 6 rfl rfl rfl (.inr rfl) ?_
 refine at_c 7 rfl rfl rfl (.inr rfl) ?_
 refine at_end rfl ?_
 refine at_seq [1, 0] [1, 1] rfl ?_
 refine at_seq [1, 0, 0] [1, 0, 1] rfl ?_
 refine at_region rfl ?_
 first | (refine at_o 9 rfl rfl rfl rfl (op_loadRA rfl fagg_api_Model) ?_) | (refine at_o 9 rfl rfl rfl rfl (op_loadPA rfl fagg_api_Model rfl (by first | decide | simp) rfl) ?_)
 refine at_m 1 10 rfl rfl rfl (.inl rfl) rfl ?_
 refine at_o 11 rfl rfl rfl rfl (op_call0 rfl rfl rfl rfl (fault_spec m hm k hkl)) ?_
 refine at_m 11 8 rfl rfl rfl (.inr rfl) rfl ?_
 refine at_end rfl ?_
 refine at_seq [1, 0, 1, 0] [1, 0, 1, 1] rfl ?_
 refine at_region rfl ?_
 refine at_m 8 12 rfl rfl rfl (.inl rfl) rfl ?_
 refine at_o 13 rfl rfl rfl rfl (op_binI rfl rfl) ?_
 refine at_end rfl ?_
 refine at_cond [1, 0, 1, 1, 0] [1, 0, 1, 1, 1] rfl rfl (fun hc1 => ?_) (fun hc1 => ?_)
 ·skip
  exact absurd hc1 (by simp)
 ·skip
  refine at_skip rfl ?_
  refine at_seq [1, 1, 0] [1, 1, 1] rfl ?_
  refine at_seq [1, 1, 0, 0] [1, 1, 0, 1] rfl ?_
  refine at_region rfl ?_
  first | (refine at_o 15 rfl rfl rfl rfl (op_loadRA rfl fagg_api_Model) ?_) | (refine at_o 15 rfl rfl rfl rfl (op_loadPA rfl fagg_api_Model rfl (by first | decide | simp) rfl) ?_)
  first | (refine at_o 16 rfl rfl rfl rfl (op_loadRA rfl fagg_api_Value) ?_) | (refine at_o 16 rfl rfl rfl rfl (op_loadPA rfl fagg_api_Value rfl (by first | decide | simp) rfl) ?_)
  refine at_o 17 rfl rfl rfl rfl (op_call0 rfl rfl rfl rfl (mdRValid hm hc)) ?_
  refine at_o 18 rfl rfl rfl rfl (op_un rfl rfl) ?_
  refine at_end rfl ?_
  refine at_cond [1, 1, 0, 1, 0] [1, 1, 0, 1, 1] rfl rfl (fun hc2 => ?_) (fun hc2 => ?_)
  ·skip
   exact absurd hc2 (by simp)
  ·skip
   refine at_skip rfl ?_
   refine at_seq [1, 1, 1, 0] [1, 1, 1, 1] rfl ?_
   refine at_draw mixed rfl [σ0] rfl ?_
   first | (refine da_q 19 rfl rfl rfl rfl (fun s hs => op_fieldP rfl ffld7_api_Model (by decide)) ?_) | (refine da_q 19 rfl rfl rfl rfl (fun s hs => op_fieldR rfl ffld7_api_Model (by decide) (by decide) rfl) ?_)
   first | (refine da_q 20 rfl rfl rfl rfl (fun s hs => op_loadR1 rfl fone_Sapi_Rule rfl) ?_) | (refine da_q 20 rfl rfl rfl rfl (by intro s hs; simp only [List.mem_cons, List.not_mem_nil, or_false] at hs; rcases hs with rfl <;> exact op_loadP1 rfl fone_Sapi_Rule rfl rfl) ?_)
   refine da_m 1 21 rfl rfl rfl (.inl rfl) rfl ?_
   first | (refine da_q 22 rfl rfl rfl rfl (fun s hs => op_idxL rfl fsl_Sapi_Rule (by first | decide | omega) (by first | assumption | exact idx_some (by assumption) | rfl) (by first | rfl | (simp [V.size]; done))) ?_) | (refine da_q 22 rfl rfl rfl rfl (fun s hs => opOK_un (op_idxL rfl fsl_Sapi_Rule (by first | decide | omega) (by first | assumption | exact idx_some (by assumption) | rfl) (by first | rfl | (simp [V.size]; done)))) ?_) | (refine da_q 22 rfl rfl rfl rfl (fun s hs => op_idxA rfl fsl_Sapi_Rule (by first | decide | omega) (by first | decide | omega)) ?_)
   first | (refine da_q 23 rfl rfl rfl rfl (fun s hs => op_loadRA rfl fagg_api_Rule) ?_) | (refine da_q 23 rfl rfl rfl rfl (by intro s hs; simp only [List.mem_cons, List.not_mem_nil, or_false] at hs; rcases hs with rfl <;> exact op_loadPA rfl fagg_api_Rule rfl (by first | decide | simp) rfl) ?_)
   first | (refine da_q 24 rfl rfl rfl rfl (fun s hs => op_loadRA rfl fagg_api_Value) ?_) | (refine da_q 24 rfl rfl rfl rfl (by intro s hs; simp only [List.mem_cons, List.not_mem_nil, or_false] at hs; rcases hs with rfl <;> exact op_loadPA rfl fagg_api_Value rfl (by first | decide | simp) rfl) ?_)
   refine da_q 25 rfl rfl rfl rfl (fun s hs => op_call0 rfl rfl rfl rfl (hre)) ?_
   refine da_m 25 6 rfl rfl rfl (.inr rfl) rfl ?_
   refine da_mc 7 rfl rfl rfl (.inr rfl) (by dsimp only [constD]) (by dsimp only [List.set]) ?_
   refine da_end rfl ⟨by decide +kernel, _, rfl, ?_⟩
   refine at_ret rfl (ret_two (t := 6) (t2 := 7) rfl rfl rfl ?_ ?_ rfl rfl)
   all_goals (rfl)
noncomputable def cRApply : Code := Tryz.f69.body.getD .skip
set_option maxRecDepth 20000 in
theorem rap_l1 (R : List D → St → Prop) (K : List KI) (r : Rl) (s : Int) (l : List Int) (hnl : r.need.length = l.length) (hl : l.length ≤ 100) (hlb : ∀ x ∈ l, 0 ≤ x ∧ x ≤ 1000) (hnb : ∀ x ∈ r.need, 0 ≤ x ∧ x ≤ 1000) (T : List Int) (hk : Run PP R K (.undef :: .undef :: .undef :: .undef :: .undef :: (.v (.ref (vCf (s :: l)))) :: (.ptr 0 0) :: .undef :: .undef :: .undef :: (.v (.ref (vRl r))) :: (.arr 1 0 l.length) :: .undef :: .undef :: .undef :: .undef :: .undef :: .undef :: .undef :: .undef :: .undef :: .undef :: .undef :: .undef :: .undef :: .undef :: .undef :: .undef :: .undef :: .undef :: .undef :: .undef :: .undef :: .undef :: .undef :: .undef :: .undef :: .undef :: .undef :: .undef :: .undef :: .undef :: .undef :: .undef :: .undef :: .undef :: .undef :: .undef :: .undef :: .undef :: .undef :: .undef :: .undef :: .undef :: .undef :: .undef :: .undef :: .undef :: .undef :: .undef :: .undef :: .undef :: .undef :: .undef :: .undef :: .undef :: .undef :: .undef :: .undef :: .undef :: .undef :: .undef :: .undef :: .undef :: .undef :: .undef :: .undef :: .undef :: .undef :: .undef :: .undef :: .undef :: .undef :: .undef :: .undef :: .undef :: .undef :: .undef :: .undef :: .undef :: .undef :: .undef :: .undef :: .undef :: .undef :: .undef :: .undef :: .undef :: .undef :: .undef :: .undef :: .undef :: .undef :: .undef :: .undef :: .undef :: .undef :: .undef :: .undef :: .undef :: .undef :: .undef :: .undef :: .undef :: .undef :: .undef :: []) (stV T)) (m : Nat) : ∀ (i : Nat) (v : List Int), l.length - i = m → v.length = l.length → (∀ j, i ≤ j → j < v.length → v[j]? = some 0) → T = v.take i ++ (sbN l r.need).drop i → Run PP R (.lp (sub cRApply [1, 1, 1, 1, 1, 1, 0, 1, 0, 0]) :: .blk 0 :: K) (.undef :: .undef :: .undef :: .undef :: .undef :: (.v (.ref (vCf (s :: l)))) :: (.ptr 0 0) :: .undef :: .undef :: .undef :: (.v (.ref (vRl r))) :: (.arr 1 0 l.length) :: (di ↑i) :: .undef :: .undef :: .undef :: .undef :: .undef :: .undef :: .undef :: .undef :: .undef :: .undef :: .undef :: .undef :: .undef :: .undef :: .undef :: .undef :: .undef :: .undef :: .undef :: .undef :: .undef :: .undef :: .undef :: .undef :: .undef :: .undef :: .undef :: .undef :: .undef :: .undef :: .undef :: .undef :: .undef :: .undef :: .undef :: .undef :: .undef :: .undef :: .undef :: .undef :: .undef :: .undef :: .undef :: .undef :: .undef :: .undef :: .undef :: .undef :: .undef :: .undef :: .undef :: .undef :: .undef :: .undef :: .undef :: .undef :: .undef :: .undef :: .undef :: .undef :: .undef :: .undef :: .undef :: .undef :: .undef :: .undef :: .undef :: .undef :: .undef :: .undef :: .undef :: .undef :: .undef :: .undef :: .undef :: .undef :: .undef :: .undef :: .undef :: .undef :: .undef :: .undef :: .undef :: .undef :: .undef :: .undef :: .undef :: .undef :: .undef :: .undef :: .undef :: .undef :: .undef :: .undef :: .undef :: .undef :: .undef :: .undef :: .undef :: .undef :: .undef :: .undef :: .undef :: []) (stV v) := by
 induction m using Nat.strongRecOn with
 | _ m ih =>
  intro i v hm hvl hz hT
  refine run_lp ?_
  refine at_seq [1, 1, 1, 1, 1, 1, 0, 1, 0, 0, 0] [1, 1, 1, 1, 1, 1, 0, 1, 0, 0, 1] rfl ?_
  refine at_seq [1, 1, 1, 1, 1, 1, 0, 1, 0, 0, 0, 0] [1, 1, 1, 1, 1, 1, 0, 1, 0, 0, 0, 1] rfl ?_
  refine at_region rfl ?_
  refine at_m 12 39 rfl rfl rfl (.inl rfl) rfl ?_
  refine at_m 11 40 rfl rfl rfl (.inl rfl) rfl ?_
  first | (refine at_o 41 rfl rfl rfl rfl (op_lenL rfl fu_Sint) ?_) | (refine at_o 41 rfl rfl rfl rfl (opOK_un (op_lenL rfl fu_Sint)) ?_) | (refine at_o 41 rfl rfl rfl rfl (op_lenA rfl fu_Sint) ?_)
  refine at_o 42 rfl rfl rfl rfl (op_binI rfl rfl) ?_
  refine at_end rfl ?_
  refine at_cond [1, 1, 1, 1, 1, 1, 0, 1, 0, 0, 0, 1, 0] [1, 1, 1, 1, 1, 1, 0, 1, 0, 0, 0, 1, 1] rfl rfl (fun hc1 => ?_) (fun hc1 => ?_)
  ·skip
   have hlt : i < l.length := by simpa using hc1
   obtain ⟨x, hx⟩ := get_ex hlt
   obtain ⟨y, hy⟩ := get_ex (a := r.need) (i := i) (by omega)
   have hx2 := kid_at (s := s) hx
   have hy2 := idx_some (f := vi) hy
   have hv := hz i (Nat.le_refl _) (by omega)
   have hv2 := dli_get hv
   have bx := hlb x (List.mem_of_getElem? hx)
   have by_ := hnb y (List.mem_of_getElem? hy)
   rw [sbN, zip_at hx hy] at hT
   have hT2 : T = (v.set i (0 + (x - y))).take (i + 1) ++ (sbN l r.need).drop (i + 1) := by rw [hT, List.take_succ_eq_append_getElem (by simp; omega), List.getElem_set_self, List.take_set_of_le (Nat.le_refl _)]; simp
   have hz2 : ∀ j, i + 1 ≤ j → j < (v.set i (0 + (x - y))).length → (v.set i (0 + (x - y)))[j]? = some 0 := fun j h1 h2 => by rw [List.getElem?_set_ne (by omega)]; exact hz j (by omega) (by simpa using h2)
   refine at_skip rfl ?_
   refine at_seq [1, 1, 1, 1, 1, 1, 0, 1, 0, 0, 1, 0] [1, 1, 1, 1, 1, 1, 0, 1, 0, 0, 1, 1] rfl ?_
   refine at_block [1, 1, 1, 1, 1, 1, 0, 1, 0, 0, 1, 0, 0] 1 rfl ?_
   refine at_seq [1, 1, 1, 1, 1, 1, 0, 1, 0, 0, 1, 0, 0, 0] [1, 1, 1, 1, 1, 1, 0, 1, 0, 0, 1, 0, 0, 1] rfl ?_
   refine at_region rfl ?_
   refine at_m 12 45 rfl rfl rfl (.inl rfl) rfl ?_
   refine at_m 45 13 rfl rfl rfl (.inr rfl) rfl ?_
   refine at_end rfl ?_
   refine at_seq [1, 1, 1, 1, 1, 1, 0, 1, 0, 0, 1, 0, 0, 1, 0] [1, 1, 1, 1, 1, 1, 0, 1, 0, 0, 1, 0, 0, 1, 1] rfl ?_
   refine at_seq [1, 1, 1, 1, 1, 1, 0, 1, 0, 0, 1, 0, 0, 1, 0, 0] [1, 1, 1, 1, 1, 1, 0, 1, 0, 0, 1, 0, 0, 1, 0, 1] rfl ?_
   refine at_region rfl ?_
   first | (refine at_o 46 rfl rfl rfl rfl (op_fieldP rfl ffld5_api_Rule (by decide)) ?_) | (refine at_o 46 rfl rfl rfl rfl (op_fieldR rfl ffld5_api_Rule (by decide) (by decide) rfl) ?_)
   first | (refine at_o 47 rfl rfl rfl rfl (op_loadR1 rfl fone_Sint rfl) ?_) | (refine at_o 47 rfl rfl rfl rfl (op_loadP1 rfl fone_Sint rfl rfl) ?_)
   refine at_o 48 rfl rfl rfl rfl (opOK_see (.cons .nils .nil) (op_lenL rfl fu_Sint)) ?_
   refine at_o 49 rfl rfl rfl rfl (op_binI rfl rfl) ?_
   refine at_end rfl ?_
   refine at_cond [1, 1, 1, 1, 1, 1, 0, 1, 0, 0, 1, 0, 0, 1, 0, 1, 0] [1, 1, 1, 1, 1, 1, 0, 1, 0, 0, 1, 0, 0, 1, 0, 1, 1] rfl rfl (fun hc2 => ?_) (fun hc2 => ?_)
   ·skip
    exact absurd hc2 (by simp)
   ·skip
    refine at_skip rfl ?_
    refine at_seq [1, 1, 1, 1, 1, 1, 0, 1, 0, 0, 1, 0, 0, 1, 1, 0] [1, 1, 1, 1, 1, 1, 0, 1, 0, 0, 1, 0, 0, 1, 1, 1] rfl ?_
    refine at_region rfl ?_
    refine at_m 13 55 rfl rfl rfl (.inl rfl) rfl ?_
    refine at_o 56 rfl rfl rfl rfl (op_binI rfl rfl) ?_
    refine at_end rfl ?_
    refine at_cond [1, 1, 1, 1, 1, 1, 0, 1, 0, 0, 1, 0, 0, 1, 1, 1, 0] [1, 1, 1, 1, 1, 1, 0, 1, 0, 0, 1, 0, 0, 1, 1, 1, 1] rfl rfl (fun hc3 => ?_) (fun hc3 => ?_)
    ·skip
     refine at_draw mixed rfl [stV v, ⟨[some [di 0, .v .nils], some ((dli v).set i (di (0 + (x - y))))], []⟩] rfl ?_
     refine da_m 11 57 rfl rfl rfl (.inl rfl) rfl ?_
     refine da_m 13 58 rfl rfl rfl (.inl rfl) rfl ?_
     first | (refine da_q 59 rfl rfl rfl rfl (fun s hs => op_idxL rfl fsl_Sint (by first | decide | omega) (by first | assumption | exact idx_some (by assumption) | rfl) (by first | rfl | (simp [V.size]; done))) ?_) | (refine da_q 59 rfl rfl rfl rfl (fun s hs => opOK_un (op_idxL rfl fsl_Sint (by first | decide | omega) (by first | assumption | exact idx_some (by assumption) | rfl) (by first | rfl | (simp [V.size]; done)))) ?_) | (refine da_q 59 rfl rfl rfl rfl (fun s hs => op_idxA rfl fsl_Sint (by first | decide | omega) (by first | decide | omega)) ?_)
     simp only [Nat.zero_add, Nat.mul_one, Int.toNat_natCast]
     refine da_quietW 0 (some 60) rfl rfl rfl rfl (by intro s hs; simp only [List.take_succ_cons, List.take_zero, List.mem_cons, List.not_mem_nil, or_false] at hs; rcases hs with rfl <;> exact op_loadP1 rfl fone_int rfl hv2) (by dsimp only [putD, List.set]) ?_
     first | (refine da_q 61 rfl rfl rfl rfl (fun s hs => op_fieldP rfl ffld1_api_Value (by decide)) ?_) | (refine da_q 61 rfl rfl rfl rfl (fun s hs => op_fieldR rfl ffld1_api_Value (by decide) (by decide) rfl) ?_)
     first | (refine da_q 62 rfl rfl rfl rfl (fun s hs => op_loadR1 rfl fone_Sapi_Value rfl) ?_) | (refine da_q 62 rfl rfl rfl rfl (by intro s hs; simp only [List.mem_cons, List.not_mem_nil, or_false] at hs; rcases hs with rfl | rfl <;> exact op_loadP1 rfl fone_Sapi_Value rfl rfl) ?_)
     refine da_m 12 63 rfl rfl rfl (.inl rfl) rfl ?_
     refine da_q 64 rfl rfl rfl rfl (fun s hs => op_binI rfl rfl) ?_
     rw [one_add (by omega)]
     first | (refine da_q 65 rfl rfl rfl rfl (fun s hs => op_idxL rfl fsl_Sapi_Value (by first | decide | omega) (by first | assumption | exact idx_some (by assumption) | rfl) (by first | rfl | (simp [V.size]; done))) ?_) | (refine da_q 65 rfl rfl rfl rfl (fun s hs => opOK_un (op_idxL rfl fsl_Sapi_Value (by first | decide | omega) (by first | assumption | exact idx_some (by assumption) | rfl) (by first | rfl | (simp [V.size]; done)))) ?_) | (refine da_q 65 rfl rfl rfl rfl (fun s hs => op_idxA rfl fsl_Sapi_Value (by first | decide | omega) (by first | decide | omega)) ?_)
     first | (refine da_q 66 rfl rfl rfl rfl (fun s hs => op_fieldP rfl ffld0_api_Value (by decide)) ?_) | (refine da_q 66 rfl rfl rfl rfl (fun s hs => op_fieldR rfl ffld0_api_Value (by decide) (by decide) rfl) ?_)
     first | (refine da_q 67 rfl rfl rfl rfl (fun s hs => op_loadR1 rfl fone_int rfl) ?_) | (refine da_q 67 rfl rfl rfl rfl (by intro s hs; simp only [List.mem_cons, List.not_mem_nil, or_false] at hs; rcases hs with rfl | rfl <;> exact op_loadP1 rfl fone_int rfl rfl) ?_)
     first | (refine da_q 68 rfl rfl rfl rfl (fun s hs => op_fieldP rfl ffld3_api_Rule (by decide)) ?_) | (refine da_q 68 rfl rfl rfl rfl (fun s hs => op_fieldR rfl ffld3_api_Rule (by decide) (by decide) rfl) ?_)
     first | (refine da_q 69 rfl rfl rfl rfl (fun s hs => op_loadR1 rfl fone_Sint rfl) ?_) | (refine da_q 69 rfl rfl rfl rfl (by intro s hs; simp only [List.mem_cons, List.not_mem_nil, or_false] at hs; rcases hs with rfl | rfl <;> exact op_loadP1 rfl fone_Sint rfl rfl) ?_)
     refine da_m 12 70 rfl rfl rfl (.inl rfl) rfl ?_
     first | (refine da_q 71 rfl rfl rfl rfl (fun s hs => op_idxL rfl fsl_Sint (by first | decide | omega) (by first | assumption | exact idx_some (by assumption) | rfl) (by first | rfl | (simp [V.size]; done))) ?_) | (refine da_q 71 rfl rfl rfl rfl (fun s hs => opOK_un (op_idxL rfl fsl_Sint (by first | decide | omega) (by first | assumption | exact idx_some (by assumption) | rfl) (by first | rfl | (simp [V.size]; done)))) ?_) | (refine da_q 71 rfl rfl rfl rfl (fun s hs => op_idxA rfl fsl_Sint (by first | decide | omega) (by first | decide | omega)) ?_)
     first | (refine da_q 72 rfl rfl rfl rfl (fun s hs => op_loadR1 rfl fone_int rfl) ?_) | (refine da_q 72 rfl rfl rfl rfl (by intro s hs; simp only [List.mem_cons, List.not_mem_nil, or_false] at hs; rcases hs with rfl | rfl <;> exact op_loadP1 rfl fone_int rfl rfl) ?_)
     refine da_q 73 rfl rfl rfl rfl (fun s hs => op_binI rfl rfl) ?_
     rw [wrap_id (by omega) (by omega)]
     refine da_q 74 rfl rfl rfl rfl (fun s hs => op_binI rfl rfl) ?_
     rw [wrap_id (by omega) (by omega)]
     first | (refine da_q 75 rfl rfl rfl rfl (fun s hs => op_idxL rfl fsl_Sint (by first | decide | omega) (by first | assumption | exact idx_some (by assumption) | rfl) (by first | rfl | (simp [V.size]; done))) ?_) | (refine da_q 75 rfl rfl rfl rfl (fun s hs => opOK_un (op_idxL rfl fsl_Sint (by first | decide | omega) (by first | assumption | exact idx_some (by assumption) | rfl) (by first | rfl | (simp [V.size]; done)))) ?_) | (refine da_q 75 rfl rfl rfl rfl (fun s hs => op_idxA rfl fsl_Sint (by first | decide | omega) (by first | decide | omega)) ?_)
     simp only [Nat.zero_add, Nat.mul_one, Int.toNat_natCast]
     refine da_st1 75 (.tmp 74) rfl rfl rfl rfl rfl rfl rfl (ev_tmp rfl) rfl fone_int rfl (by simp; omega) (by first | rfl | (dsimp only [List.set, List.append, List.cons_append, List.nil_append, cellsD, List.map, repl, List.length, Nat.reduceAdd, if_true, ↓reduceIte]; first | done | rfl)) ?_
     refine da_end rfl ⟨by decide +kernel, _, rfl, ?_⟩
     rw [dli_set]
     refine run_blk ?_
     refine at_region rfl ?_
     refine at_m 12 43 rfl rfl rfl (.inl rfl) rfl ?_
     refine at_o 44 rfl rfl rfl rfl (op_binI rfl rfl) ?_
     rw [wrap_succ (by omega)]
     refine at_m 44 12 rfl rfl rfl (.inr rfl) rfl ?_
     refine at_end rfl ?_
     exact run_wk (.d4 (.drop (.keep (.keep (.drop (.drop (.drop (.keep (.keep (.keep (.d16 (.d16 (.d16 (.d16 (.d16 (.d16 (.d4 (.drop (.drop (.drop .nil)))))))))))))))))))) (ih _ (by omega) (i + 1) _ rfl (by simp [hvl]) hz2 hT2)
    ·skip
     exact absurd hc3 (by simp)
  ·skip
   have hge : l.length ≤ i := by simpa using hc1
   have hTv : T = v := by rw [hT, List.take_of_length_le (by omega), List.drop_of_length_le (by simp; omega)]; simp
   subst hTv
   refine at_exit rfl rfl ?_
   exact run_wk (.d4 (.drop (.keep (.keep (.drop (.drop (.drop (.keep (.keep (.d16 (.d16 (.d16 (.d16 (.d16 (.d16 (.d4 (.d4 .nil))))))))))))))))) hk
set_option maxRecDepth 20000 in
theorem rap_l2 (r : Rl) (v : List Int) (hg : r.give.length = v.length) (hv : v.length ≤ 100) (hvb : ∀ x ∈ v, -1000 ≤ x ∧ x ≤ 1000) (hgb : ∀ x ∈ r.give, 0 ≤ x ∧ x ≤ 1000) (T : List Int) (m : Nat) : ∀ (i : Nat) (acc : List Int), v.length - i = m → acc.length = i + 1 → T = acc ++ (adN v r.give).drop i → Run PP (fun env σ1 => ResOK PP Tryz.f69 env σ1 (.tup [.v (vCf T), di 0]) σ0) [.lp (sub cRApply [1, 1, 1, 1, 1, 1, 1, 1, 0, 1, 0, 0]), .blk 2, .code (sub cRApply [1, 1, 1, 1, 1, 1, 1, 1, 1])] (.undef :: .undef :: .undef :: .undef :: .undef :: .undef :: (.ptr 0 0) :: .undef :: .undef :: .undef :: (.v (.ref (vRl r))) :: (.arr 1 0 v.length) :: .undef :: .undef :: (.ptr 2 0) :: (di ↑i) :: .undef :: .undef :: .undef :: .undef :: .undef :: .undef :: .undef :: .undef :: .undef :: .undef :: .undef :: .undef :: .undef :: .undef :: .undef :: .undef :: .undef :: .undef :: .undef :: .undef :: .undef :: .undef :: .undef :: .undef :: .undef :: .undef :: .undef :: .undef :: .undef :: .undef :: .undef :: .undef :: .undef :: .undef :: .undef :: .undef :: .undef :: .undef :: .undef :: .undef :: .undef :: .undef :: .undef :: .undef :: .undef :: .undef :: .undef :: .undef :: .undef :: .undef :: .undef :: .undef :: .undef :: .undef :: .undef :: .undef :: .undef :: .undef :: .undef :: .undef :: .undef :: .undef :: .undef :: .undef :: .undef :: .undef :: .undef :: .undef :: .undef :: .undef :: .undef :: .undef :: .undef :: .undef :: .undef :: .undef :: .undef :: .undef :: .undef :: .undef :: .undef :: .undef :: .undef :: .undef :: .undef :: .undef :: .undef :: .undef :: .undef :: .undef :: .undef :: .undef :: .undef :: .undef :: .undef :: .undef :: .undef :: .undef :: .undef :: .undef :: []) (stK v acc) := by
 induction m using Nat.strongRecOn with
 | _ m ih =>
  intro i acc hm hal hT
  refine run_lp ?_
  refine at_seq [1, 1, 1, 1, 1, 1, 1, 1, 0, 1, 0, 0, 0] [1, 1, 1, 1, 1, 1, 1, 1, 0, 1, 0, 0, 1] rfl ?_
  refine at_seq [1, 1, 1, 1, 1, 1, 1, 1, 0, 1, 0, 0, 0, 0] [1, 1, 1, 1, 1, 1, 1, 1, 0, 1, 0, 0, 0, 1] rfl ?_
  refine at_region rfl ?_
  refine at_m 15 81 rfl rfl rfl (.inl rfl) rfl ?_
  refine at_m 11 82 rfl rfl rfl (.inl rfl) rfl ?_
  first | (refine at_o 83 rfl rfl rfl rfl (op_lenL rfl fu_Sint) ?_) | (refine at_o 83 rfl rfl rfl rfl (opOK_un (op_lenL rfl fu_Sint)) ?_) | (refine at_o 83 rfl rfl rfl rfl (op_lenA rfl fu_Sint) ?_)
  refine at_o 84 rfl rfl rfl rfl (op_binI rfl rfl) ?_
  refine at_end rfl ?_
  refine at_cond [1, 1, 1, 1, 1, 1, 1, 1, 0, 1, 0, 0, 0, 1, 0] [1, 1, 1, 1, 1, 1, 1, 1, 0, 1, 0, 0, 0, 1, 1] rfl rfl (fun hc1 => ?_) (fun hc1 => ?_)
  ·skip
   have hlt : i < v.length := by simpa using hc1
   obtain ⟨x, hx⟩ := get_ex hlt
   obtain ⟨y, hy⟩ := get_ex (a := r.give) (i := i) (by omega)
   have hx2 := dli_get hx
   have hy2 := idx_some (f := vi) hy
   have hxb := hvb x (List.mem_of_getElem? hx)
   have hyb := hgb y (List.mem_of_getElem? hy)
   rw [adN, zip_at hx hy] at hT
   refine at_skip rfl ?_
   refine at_seq [1, 1, 1, 1, 1, 1, 1, 1, 0, 1, 0, 0, 1, 0] [1, 1, 1, 1, 1, 1, 1, 1, 0, 1, 0, 0, 1, 1] rfl ?_
   refine at_block [1, 1, 1, 1, 1, 1, 1, 1, 0, 1, 0, 0, 1, 0, 0] 3 rfl ?_
   refine at_seq [1, 1, 1, 1, 1, 1, 1, 1, 0, 1, 0, 0, 1, 0, 0, 0] [1, 1, 1, 1, 1, 1, 1, 1, 0, 1, 0, 0, 1, 0, 0, 1] rfl ?_
   refine at_seq [1, 1, 1, 1, 1, 1, 1, 1, 0, 1, 0, 0, 1, 0, 0, 0, 0] [1, 1, 1, 1, 1, 1, 1, 1, 0, 1, 0, 0, 1, 0, 0, 0, 1] rfl ?_
   refine at_draw mixed rfl [stK v acc] rfl ?_
   refine da_m 11 87 rfl rfl rfl (.inl rfl) rfl ?_
   refine da_m 15 88 rfl rfl rfl (.inl rfl) rfl ?_
   first | (refine da_q 89 rfl rfl rfl rfl (fun s hs => op_idxL rfl fsl_Sint (by first | decide | omega) (by first | assumption | exact idx_some (by assumption) | rfl) (by first | rfl | (simp [V.size]; done))) ?_) | (refine da_q 89 rfl rfl rfl rfl (fun s hs => opOK_un (op_idxL rfl fsl_Sint (by first | decide | omega) (by first | assumption | exact idx_some (by assumption) | rfl) (by first | rfl | (simp [V.size]; done)))) ?_) | (refine da_q 89 rfl rfl rfl rfl (fun s hs => op_idxA rfl fsl_Sint (by first | decide | omega) (by first | decide | omega)) ?_)
   simp only [Nat.zero_add, Nat.mul_one, Int.toNat_natCast]
   refine da_q 90 rfl rfl rfl rfl (by intro s hs; simp only [List.mem_cons, List.not_mem_nil, or_false] at hs; rcases hs with rfl <;> exact op_loadP1 rfl fone_int rfl hx2) ?_
   first | (refine da_q 91 rfl rfl rfl rfl (fun s hs => op_fieldP rfl ffld4_api_Rule (by decide)) ?_) | (refine da_q 91 rfl rfl rfl rfl (fun s hs => op_fieldR rfl ffld4_api_Rule (by decide) (by decide) rfl) ?_)
   first | (refine da_q 92 rfl rfl rfl rfl (fun s hs => op_loadR1 rfl fone_Sint rfl) ?_) | (refine da_q 92 rfl rfl rfl rfl (by intro s hs; simp only [List.mem_cons, List.not_mem_nil, or_false] at hs; rcases hs with rfl <;> exact op_loadP1 rfl fone_Sint rfl rfl) ?_)
   refine da_m 15 93 rfl rfl rfl (.inl rfl) rfl ?_
   first | (refine da_q 94 rfl rfl rfl rfl (fun s hs => op_idxL rfl fsl_Sint (by first | decide | omega) (by first | assumption | exact idx_some (by assumption) | rfl) (by first | rfl | (simp [V.size]; done))) ?_) | (refine da_q 94 rfl rfl rfl rfl (fun s hs => opOK_un (op_idxL rfl fsl_Sint (by first | decide | omega) (by first | assumption | exact idx_some (by assumption) | rfl) (by first | rfl | (simp [V.size]; done)))) ?_) | (refine da_q 94 rfl rfl rfl rfl (fun s hs => op_idxA rfl fsl_Sint (by first | decide | omega) (by first | decide | omega)) ?_)
   first | (refine da_q 95 rfl rfl rfl rfl (fun s hs => op_loadR1 rfl fone_int rfl) ?_) | (refine da_q 95 rfl rfl rfl rfl (by intro s hs; simp only [List.mem_cons, List.not_mem_nil, or_false] at hs; rcases hs with rfl <;> exact op_loadP1 rfl fone_int rfl rfl) ?_)
   refine da_q 96 rfl rfl rfl rfl (fun s hs => op_binI rfl rfl) ?_
   rw [wrap_id (by omega) (by omega)]
   refine da_q 97 rfl rfl rfl rfl (fun s hs => op_binI rfl rfl) ?_
   refine da_end rfl ⟨by decide +kernel, _, rfl, ?_⟩
   refine at_cond [1, 1, 1, 1, 1, 1, 1, 1, 0, 1, 0, 0, 1, 0, 0, 0, 1, 0] [1, 1, 1, 1, 1, 1, 1, 1, 0, 1, 0, 0, 1, 0, 0, 0, 1, 1] rfl rfl (fun hc2 => ?_) (fun hc2 => ?_)
   ·skip
    exact absurd hc2 (by first | (simp; done) | (simp; omega))
   ·skip
    refine at_skip rfl ?_
    refine at_draw mixed rfl [stK v acc, ⟨[some [di 0, .v .nils], some (dli v), some [di 0, .acc 1 (acc.map vN)]], [(1, 2, (acc.map vN ++ [.agg [.int .i64 (x + y), .nils]]))]⟩, ⟨[some [di 0, .v .nils], some (dli v), some [di 0, .acc 1 (acc.map vN ++ [.agg [.int .i64 (x + y), .nils]])]], [(1, 2, (acc.map vN ++ [.agg [.int .i64 (x + y), .nils]]))]⟩] rfl ?_
    first | (refine da_q 99 rfl rfl rfl rfl (fun s hs => op_fieldP rfl ffld1_api_Value (by decide)) ?_) | (refine da_q 99 rfl rfl rfl rfl (fun s hs => op_fieldR rfl ffld1_api_Value (by decide) (by decide) rfl) ?_)
    refine da_quietW 0 (some 100) rfl rfl rfl rfl (by intro s hs; simp only [List.take_succ_cons, List.take_zero, List.mem_cons, List.not_mem_nil, or_false] at hs; rcases hs with rfl <;> exact op_loadP1 rfl fone_Sapi_Value rfl rfl) (by dsimp only [putD, List.set]) ?_
    refine da_m 11 101 rfl rfl rfl (.inl rfl) rfl ?_
    refine da_m 15 102 rfl rfl rfl (.inl rfl) rfl ?_
    first | (refine da_q 103 rfl rfl rfl rfl (fun s hs => op_idxL rfl fsl_Sint (by first | decide | omega) (by first | assumption | exact idx_some (by assumption) | rfl) (by first | rfl | (simp [V.size]; done))) ?_) | (refine da_q 103 rfl rfl rfl rfl (fun s hs => opOK_un (op_idxL rfl fsl_Sint (by first | decide | omega) (by first | assumption | exact idx_some (by assumption) | rfl) (by first | rfl | (simp [V.size]; done)))) ?_) | (refine da_q 103 rfl rfl rfl rfl (fun s hs => op_idxA rfl fsl_Sint (by first | decide | omega) (by first | decide | omega)) ?_)
    simp only [Nat.zero_add, Nat.mul_one, Int.toNat_natCast]
    refine da_q 104 rfl rfl rfl rfl (by intro s hs; simp only [List.mem_cons, List.not_mem_nil, or_false] at hs; rcases hs with rfl | rfl | rfl <;> exact op_loadP1 rfl fone_int rfl hx2) ?_
    first | (refine da_q 105 rfl rfl rfl rfl (fun s hs => op_fieldP rfl ffld4_api_Rule (by decide)) ?_) | (refine da_q 105 rfl rfl rfl rfl (fun s hs => op_fieldR rfl ffld4_api_Rule (by decide) (by decide) rfl) ?_)
    first | (refine da_q 106 rfl rfl rfl rfl (fun s hs => op_loadR1 rfl fone_Sint rfl) ?_) | (refine da_q 106 rfl rfl rfl rfl (by intro s hs; simp only [List.mem_cons, List.not_mem_nil, or_false] at hs; rcases hs with rfl | rfl | rfl <;> exact op_loadP1 rfl fone_Sint rfl rfl) ?_)
    refine da_m 15 107 rfl rfl rfl (.inl rfl) rfl ?_
    first | (refine da_q 108 rfl rfl rfl rfl (fun s hs => op_idxL rfl fsl_Sint (by first | decide | omega) (by first | assumption | exact idx_some (by assumption) | rfl) (by first | rfl | (simp [V.size]; done))) ?_) | (refine da_q 108 rfl rfl rfl rfl (fun s hs => opOK_un (op_idxL rfl fsl_Sint (by first | decide | omega) (by first | assumption | exact idx_some (by assumption) | rfl) (by first | rfl | (simp [V.size]; done)))) ?_) | (refine da_q 108 rfl rfl rfl rfl (fun s hs => op_idxA rfl fsl_Sint (by first | decide | omega) (by first | decide | omega)) ?_)
    first | (refine da_q 109 rfl rfl rfl rfl (fun s hs => op_loadR1 rfl fone_int rfl) ?_) | (refine da_q 109 rfl rfl rfl rfl (by intro s hs; simp only [List.mem_cons, List.not_mem_nil, or_false] at hs; rcases hs with rfl | rfl | rfl <;> exact op_loadP1 rfl fone_int rfl rfl) ?_)
    refine da_q 110 rfl rfl rfl rfl (fun s hs => op_binI rfl rfl) ?_
    rw [wrap_id (by omega) (by omega)]
    refine da_q 111 rfl rfl rfl rfl (fun s hs => op_buildN rfl fbldN_api_Value rfl rfl) ?_
    try dsimp only [V.cellsV, List.take, List.drop, List.cons_append, List.nil_append, List.length]
    refine da_q 112 rfl rfl rfl rfl (fun s hs => op_buildSlice rfl (by rfl) (by rfl) fsl_Sapi_Value rfl rfl (by simp [V.size]) (by decide) (by decide) (by decide)) ?_
    refine da_eff (some 113) rfl rfl rfl rfl rfl rfl (op_append rfl fsl_Sapi_Value rfl (by simp) (by simp [V.size]) (by simp; omega) (by simp; omega)) (by dsimp only [putD, List.set]) ?_
    first | (refine da_q 114 rfl rfl rfl rfl (fun s hs => op_fieldP rfl ffld1_api_Value (by decide)) ?_) | (refine da_q 114 rfl rfl rfl rfl (fun s hs => op_fieldR rfl ffld1_api_Value (by decide) (by decide) rfl) ?_)
    refine da_st1 114 (.tmp 113) rfl rfl rfl rfl rfl rfl rfl (ev_tmp rfl) rfl fone_Sapi_Value rfl (by first | decide | simp | (simp; omega)) (by first | rfl | (dsimp only [List.set, List.append, List.cons_append, List.nil_append, cellsD, List.map, repl, List.length, Nat.reduceAdd, if_true, ↓reduceIte]; first | done | rfl)) ?_
    refine da_end rfl ⟨by decide +kernel, _, rfl, ?_⟩
    rw [show (acc.map vN ++ [.agg [.int .i64 (x + y), .nils]]) = (acc ++ [x + y]).map vN by simp]
    refine run_blk ?_
    refine at_region rfl ?_
    refine at_m 15 85 rfl rfl rfl (.inl rfl) rfl ?_
    refine at_o 86 rfl rfl rfl rfl (op_binI rfl rfl) ?_
    rw [wrap_succ (by omega)]
    refine at_m 86 15 rfl rfl rfl (.inr rfl) rfl ?_
    refine at_end rfl ?_
    exact run_wk (.d4 (.drop (.drop (.keep (.drop (.drop (.drop (.keep (.keep (.drop (.drop (.keep (.keep (.d16 (.d16 (.d16 (.d16 (.d16 (.d16 (.d4 .nil)))))))))))))))))))) (ih _ (by omega) (i + 1) (acc ++ [x + y]) rfl (by simp; omega) (by rw [hT]; simp))
  ·skip
   have hge : v.length ≤ i := by simpa using hc1
   rw [List.drop_of_length_le (by simp; omega), List.append_nil] at hT
   subst hT
   refine at_exit rfl rfl ?_
   refine at_seq [1, 1, 1, 1, 1, 1, 1, 1, 1, 0] [1, 1, 1, 1, 1, 1, 1, 1, 1, 1] rfl ?_
   refine at_region rfl ?_
   first | (refine at_o 115 rfl rfl rfl rfl (op_loadRA rfl fagg_api_Value) ?_) | (refine at_o 115 rfl rfl rfl rfl (op_loadPA rfl fagg_api_Value rfl (by first | decide | simp) rfl) ?_)
   refine at_stA 6 (.tmp 115) rfl rfl rfl rfl rfl (ev_tmp rfl) rfl fagg_api_Value rfl rfl (by first | decide | simp | (simp; omega)) (by dsimp only [List.set, List.append, List.cons_append, List.nil_append, cellsD, List.map, repl, List.length, Nat.reduceAdd, if_true, ↓reduceIte]; first | done | rfl) ?_
   refine at_c 7 rfl rfl rfl (.inr rfl) ?_
   refine at_end rfl ?_
   exact at_ret rfl (res_ok (ds := [.v (vCf T), di 0]) (.cellA rfl rfl fagg_api_Value (by simp) rfl (.tmp rfl .nil)) rfl 0 rfl (by simp) (fun i cs h => by simp at h) (List.nil_sublist _) rfl)
set_option maxRecDepth 20000 in
theorem rapply_no (m : Md) (hm : MdOK m) (s : Int) (l : List Int) (hc : CfOK m.ns m.np (s :: l)) (k : Nat) (r : Rl) (hr : m.rules[k]? = some r) (hen : enQ r (s :: l) = false) : FSpec PP 69 [.v (vMd m), di ↑k, .v (vCf (s :: l))] σ0 (.tup [.v (.agg [.int .i64 0, .nils]), di 18]) σ0 := by
 have hro := hm.rl r (List.mem_of_getElem? hr)
 have hkl := (List.getElem?_eq_some_iff.1 hr).1
 have hr2 := idx_some (f := vRl) hr
 have h1 : l.length = m.np := by have := hc.len; simpa using this
 have h2 := hro.nl
 have h3 := hro.gl
 have h4 := hm.p0
 have h5 := hm.p1
 refine spec_at cRApply Tryz.func69 rfl (by kernel_rfl) (by first | decide | simp) _ (by dsimp only [Tryz.f69, List.length, Nat.reduceAdd, Nat.reduceSub, List.replicate, List.cons_append, List.nil_append]) ?_
 refine at_seq [0] [1] rfl ?_
 refine at_region rfl ?_
 refine at_o 3 rfl rfl rfl rfl (op_boxI rfl rfl) ?_
 refine at_o 5 rfl rfl rfl rfl (op_boxI rfl rfl) ?_
 refine at_opS (some 6) rfl rfl rfl rfl (op_allocN rfl fzeroN_api_Value) (by dsimp only [putD, List.set]) (by dsimp only [List.set, List.append, List.cons_append, List.nil_append, cellsD, List.map, repl, List.length, Nat.reduceAdd, if_true, ↓reduceIte]; first | done | rfl) ?_
 refine at_c 7 rfl rfl rfl (.inr rfl) ?_
 refine at_end rfl ?_
 refine at_seq [1, 0] [1, 1] rfl ?_
 refine at_region rfl ?_
 first | (refine at_o 17 rfl rfl rfl rfl (op_loadRA rfl fagg_api_Model) ?_) | (refine at_o 17 rfl rfl rfl rfl (op_loadPA rfl fagg_api_Model rfl (by first | decide | simp) rfl) ?_)
 refine at_m 1 18 rfl rfl rfl (.inl rfl) rfl ?_
 first | (refine at_o 19 rfl rfl rfl rfl (op_loadRA rfl fagg_api_Value) ?_) | (refine at_o 19 rfl rfl rfl rfl (op_loadPA rfl fagg_api_Value rfl (by first | decide | simp) rfl) ?_)
 refine at_o 20 rfl rfl rfl rfl (op_call0 rfl rfl rfl rfl (renb_spec m hm s l hc k r hr)) ?_
 refine at_m 20 16 rfl rfl rfl (.inl rfl) rfl ?_
 refine at_o 21 rfl rfl rfl rfl (op_extract rfl rfl) ?_
 refine at_o 22 rfl rfl rfl rfl (op_extract rfl rfl) ?_
 refine at_m 21 8 rfl rfl rfl (.inr rfl) rfl ?_
 refine at_m 22 9 rfl rfl rfl (.inr rfl) rfl ?_
 refine at_end rfl ?_
 refine at_seq [1, 1, 0] [1, 1, 1] rfl ?_
 refine at_seq [1, 1, 0, 0] [1, 1, 0, 1] rfl ?_
 refine at_region rfl ?_
 refine at_m 9 23 rfl rfl rfl (.inl rfl) rfl ?_
 refine at_o 24 rfl rfl rfl rfl (op_binI rfl rfl) ?_
 refine at_end rfl ?_
 refine at_cond [1, 1, 0, 1, 0] [1, 1, 0, 1, 1] rfl rfl (fun hc1 => ?_) (fun hc1 => ?_)
 ·skip
  exact absurd hc1 (by simp)
 ·skip
  refine at_skip rfl ?_
  refine at_seq [1, 1, 1, 0] [1, 1, 1, 1] rfl ?_
  refine at_seq [1, 1, 1, 0, 0] [1, 1, 1, 0, 1] rfl ?_
  refine at_region rfl ?_
  refine at_m 8 27 rfl rfl rfl (.inl rfl) rfl ?_
  refine at_o 28 rfl rfl rfl rfl (op_un rfl rfl) ?_
  refine at_end rfl ?_
  refine at_cond [1, 1, 1, 0, 1, 0] [1, 1, 1, 0, 1, 1] rfl rfl (fun hc2 => ?_) (fun hc2 => ?_)
  ·skip
   refine at_seq [1, 1, 1, 0, 1, 0, 0] [1, 1, 1, 0, 1, 0, 1] rfl ?_
   refine at_region rfl ?_
   refine at_o 29 rfl rfl rfl rfl (op_buildN rfl fbldN_api_Value rfl rfl) ?_
   try dsimp only [V.cellsV, List.take, List.drop, List.cons_append, List.nil_append, List.length]
   refine at_stA 6 (.tmp 29) rfl rfl rfl rfl rfl (ev_tmp rfl) rfl fagg_api_Value rfl rfl (by first | decide | simp | (simp; omega)) (by dsimp only [List.set, List.append, List.cons_append, List.nil_append, cellsD, List.map, repl, List.length, Nat.reduceAdd, if_true, ↓reduceIte]; first | done | rfl) ?_
   refine at_c 7 rfl rfl rfl (.inr rfl) ?_
   refine at_end rfl ?_
   exact at_ret rfl (res_ok (ds := [.v (.agg [.int .i64 0, .nils]), di 18]) (.cellA rfl rfl fagg_api_Value (by simp) rfl (.tmp rfl .nil)) rfl 0 rfl (by simp) (fun i cs h => by simp at h) (List.nil_sublist _) rfl)
  ·skip
   exact absurd hc2 (by rw [hen]; simp)
set_option maxRecDepth 20000 in
theorem rapply_yes (m : Md) (hm : MdOK m) (s : Int) (l : List Int) (hc : CfOK m.ns m.np (s :: l)) (k : Nat) (r : Rl) (hr : m.rules[k]? = some r) (hen : enQ r (s :: l) = true) : FSpec PP 69 [.v (vMd m), di ↑k, .v (vCf (s :: l))] σ0 (.tup [.v (vCf (apM r (s :: l))), di 0]) σ0 := by
 have hro := hm.rl r (List.mem_of_getElem? hr)
 have hkl := (List.getElem?_eq_some_iff.1 hr).1
 have hr2 := idx_some (f := vRl) hr
 have h1 : l.length = m.np := by have := hc.len; simpa using this
 have h2 := hro.nl
 have h3 := hro.gl
 have h4 := hm.p0
 have h5 := hm.p1
 have hXl : (sbN l r.need).length = l.length := by simp [sbN]; omega
 have hlb : ∀ x ∈ l, 0 ≤ x ∧ x ≤ 1000 := fun x hx => by have := hc.num x (by simpa using hx); omega
 have hgb : ∀ x ∈ r.give, 0 ≤ x ∧ x ≤ 1000 := fun x hx => by have := hro.g x hx; omega
 have hnb : ∀ x ∈ r.need, 0 ≤ x ∧ x ≤ 1000 := fun x hx => by have := hro.n x hx; omega
 have hXb := sb_small l r.need hlb hnb
 refine spec_at cRApply Tryz.func69 rfl (by kernel_rfl) (by first | decide | simp) _ (by dsimp only [Tryz.f69, List.length, Nat.reduceAdd, Nat.reduceSub, List.replicate, List.cons_append, List.nil_append]) ?_
 refine at_seq [0] [1] rfl ?_
 refine at_region rfl ?_
 refine at_o 3 rfl rfl rfl rfl (op_boxI rfl rfl) ?_
 refine at_o 5 rfl rfl rfl rfl (op_boxI rfl rfl) ?_
 refine at_opS (some 6) rfl rfl rfl rfl (op_allocN rfl fzeroN_api_Value) (by dsimp only [putD, List.set]) (by dsimp only [List.set, List.append, List.cons_append, List.nil_append, cellsD, List.map, repl, List.length, Nat.reduceAdd, if_true, ↓reduceIte]; first | done | rfl) ?_
 refine at_c 7 rfl rfl rfl (.inr rfl) ?_
 refine at_end rfl ?_
 refine at_seq [1, 0] [1, 1] rfl ?_
 refine at_region rfl ?_
 first | (refine at_o 17 rfl rfl rfl rfl (op_loadRA rfl fagg_api_Model) ?_) | (refine at_o 17 rfl rfl rfl rfl (op_loadPA rfl fagg_api_Model rfl (by first | decide | simp) rfl) ?_)
 refine at_m 1 18 rfl rfl rfl (.inl rfl) rfl ?_
 first | (refine at_o 19 rfl rfl rfl rfl (op_loadRA rfl fagg_api_Value) ?_) | (refine at_o 19 rfl rfl rfl rfl (op_loadPA rfl fagg_api_Value rfl (by first | decide | simp) rfl) ?_)
 refine at_o 20 rfl rfl rfl rfl (op_call0 rfl rfl rfl rfl (renb_spec m hm s l hc k r hr)) ?_
 refine at_m 20 16 rfl rfl rfl (.inl rfl) rfl ?_
 refine at_o 21 rfl rfl rfl rfl (op_extract rfl rfl) ?_
 refine at_o 22 rfl rfl rfl rfl (op_extract rfl rfl) ?_
 refine at_m 21 8 rfl rfl rfl (.inr rfl) rfl ?_
 refine at_m 22 9 rfl rfl rfl (.inr rfl) rfl ?_
 refine at_end rfl ?_
 refine at_seq [1, 1, 0] [1, 1, 1] rfl ?_
 refine at_seq [1, 1, 0, 0] [1, 1, 0, 1] rfl ?_
 refine at_region rfl ?_
 refine at_m 9 23 rfl rfl rfl (.inl rfl) rfl ?_
 refine at_o 24 rfl rfl rfl rfl (op_binI rfl rfl) ?_
 refine at_end rfl ?_
 refine at_cond [1, 1, 0, 1, 0] [1, 1, 0, 1, 1] rfl rfl (fun hc1 => ?_) (fun hc1 => ?_)
 ·skip
  exact absurd hc1 (by simp)
 ·skip
  refine at_skip rfl ?_
  refine at_seq [1, 1, 1, 0] [1, 1, 1, 1] rfl ?_
  refine at_seq [1, 1, 1, 0, 0] [1, 1, 1, 0, 1] rfl ?_
  refine at_region rfl ?_
  refine at_m 8 27 rfl rfl rfl (.inl rfl) rfl ?_
  refine at_o 28 rfl rfl rfl rfl (op_un rfl rfl) ?_
  refine at_end rfl ?_
  refine at_cond [1, 1, 1, 0, 1, 0] [1, 1, 1, 0, 1, 1] rfl rfl (fun hc2 => ?_) (fun hc2 => ?_)
  ·skip
   exact absurd hc2 (by rw [hen]; simp)
  ·skip
   refine at_skip rfl ?_
   refine at_seq [1, 1, 1, 1, 0] [1, 1, 1, 1, 1] rfl ?_
   refine at_region rfl ?_
   first | (refine at_o 30 rfl rfl rfl rfl (op_fieldP rfl ffld7_api_Model (by decide)) ?_) | (refine at_o 30 rfl rfl rfl rfl (op_fieldR rfl ffld7_api_Model (by decide) (by decide) rfl) ?_)
   first | (refine at_o 31 rfl rfl rfl rfl (op_loadR1 rfl fone_Sapi_Rule rfl) ?_) | (refine at_o 31 rfl rfl rfl rfl (op_loadP1 rfl fone_Sapi_Rule rfl rfl) ?_)
   refine at_m 1 32 rfl rfl rfl (.inl rfl) rfl ?_
   first | (refine at_o 33 rfl rfl rfl rfl (op_idxL rfl fsl_Sapi_Rule (by first | decide | omega) (by first | assumption | exact idx_some (by assumption) | rfl) (by first | rfl | (simp [V.size]; done))) ?_) | (refine at_o 33 rfl rfl rfl rfl (opOK_un (op_idxL rfl fsl_Sapi_Rule (by first | decide | omega) (by first | assumption | exact idx_some (by assumption) | rfl) (by first | rfl | (simp [V.size]; done)))) ?_) | (refine at_o 33 rfl rfl rfl rfl (op_idxA rfl fsl_Sapi_Rule (by first | decide | omega) (by first | decide | omega)) ?_)
   first | (refine at_o 34 rfl rfl rfl rfl (op_loadRA rfl fagg_api_Rule) ?_) | (refine at_o 34 rfl rfl rfl rfl (op_loadPA rfl fagg_api_Rule rfl (by first | decide | simp) rfl) ?_)
   refine at_new 34 10 rfl rfl rfl rfl fzero_api_Rule rfl rfl rfl rfl (by decide) rfl rfl fagg_api_Rule (by first | rfl | (simp [V.size]; done)) rfl (by simp only [List.length_cons]; omega) (by dsimp only [List.set]) ?_
   refine at_end rfl ?_
   refine at_seq [1, 1, 1, 1, 1, 0] [1, 1, 1, 1, 1, 1] rfl ?_
   refine at_region rfl ?_
   first | (refine at_o 35 rfl rfl rfl rfl (op_fieldP rfl ffld3_api_Rule (by decide)) ?_) | (refine at_o 35 rfl rfl rfl rfl (op_fieldR rfl ffld3_api_Rule (by decide) (by decide) rfl) ?_)
   first | (refine at_o 36 rfl rfl rfl rfl (op_loadR1 rfl fone_Sint rfl) ?_) | (refine at_o 36 rfl rfl rfl rfl (op_loadP1 rfl fone_Sint rfl rfl) ?_)
   first | (refine at_o 37 rfl rfl rfl rfl (op_lenL rfl fu_Sint) ?_) | (refine at_o 37 rfl rfl rfl rfl (opOK_un (op_lenL rfl fu_Sint)) ?_) | (refine at_o 37 rfl rfl rfl rfl (op_lenA rfl fu_Sint) ?_)
   simp only [List.length_map]
   rw [show r.need.length = l.length by omega]
   refine at_opS (some 38) rfl rfl rfl rfl (op_make rfl fsl_Sint rfl (by omega) (by omega) (by omega)) (by dsimp only [putD, List.set]) (by dsimp only [List.set, List.append, List.cons_append, List.nil_append, cellsD, List.map, repl, List.length, Nat.reduceAdd, if_true, ↓reduceIte]; first | done | rfl) ?_
   rw [Int.toNat_natCast, ints_zero']
   refine at_m 38 11 rfl rfl rfl (.inr rfl) rfl ?_
   refine at_end rfl ?_
   refine at_seq [1, 1, 1, 1, 1, 1, 0] [1, 1, 1, 1, 1, 1, 1] rfl ?_
   refine at_seq [1, 1, 1, 1, 1, 1, 0, 0] [1, 1, 1, 1, 1, 1, 0, 1] rfl ?_
   refine at_region rfl ?_
   refine at_c 12 rfl rfl rfl (.inr rfl) ?_
   refine at_end rfl ?_
   refine at_block [1, 1, 1, 1, 1, 1, 0, 1, 0] 0 rfl ?_
   refine at_loop [1, 1, 1, 1, 1, 1, 0, 1, 0, 0] rfl ?_
   try simp only [List.length_map, List.length_nil, Int.toNat_natCast]
   refine run_wk (.d4 (.drop (.keep (.keep (.drop (.drop (.drop (.keep (.keep (.keep (.d16 (.d16 (.d16 (.d16 (.d16 (.d16 (.d4 (.drop (.drop (.drop .nil)))))))))))))))))))) (rap_l1 _ _ r s l (by omega) (by omega) hlb hnb (sbN l r.need) ?_ _ 0 (List.replicate l.length 0) rfl (by simp) (fun j _ hj => by simp at hj; simp [hj]) (by simp))
   generalize hX : sbN l r.need = X at hXl hXb ⊢
   rw [show l.length = X.length by omega]
   refine at_seq [1, 1, 1, 1, 1, 1, 1, 0] [1, 1, 1, 1, 1, 1, 1, 1] rfl ?_
   refine at_region rfl ?_
   first | (refine at_o 76 rfl rfl rfl rfl (op_fieldP rfl ffld2_api_Rule (by decide)) ?_) | (refine at_o 76 rfl rfl rfl rfl (op_fieldR rfl ffld2_api_Rule (by decide) (by decide) rfl) ?_)
   first | (refine at_o 77 rfl rfl rfl rfl (op_loadR1 rfl fone_int rfl) ?_) | (refine at_o 77 rfl rfl rfl rfl (op_loadP1 rfl fone_int rfl rfl) ?_)
   refine at_o 78 rfl rfl rfl rfl (op_buildN rfl fbldN_api_Value rfl rfl) ?_
   try dsimp only [V.cellsV, List.take, List.drop, List.cons_append, List.nil_append, List.length]
   refine at_opS (some 79) rfl rfl rfl rfl (op_buildSliceA rfl (by rfl) (by rfl) fsl_Sapi_Value rfl rfl (by simp [V.size]) (by decide) (by decide) (by decide) 1 (by simp)) (by dsimp only [putD, List.set]) (by dsimp only [List.set, List.append, List.cons_append, List.nil_append, cellsD, List.map, repl, List.length, Nat.reduceAdd, if_true, ↓reduceIte]; first | done | rfl) ?_
   refine at_o 80 rfl rfl rfl rfl (op_buildKids rfl) ?_
   try dsimp only [V.cellsV, List.take, List.drop, List.cons_append, List.nil_append, List.length]
   refine at_opS (some 14) rfl rfl rfl rfl (op_allocN rfl fzeroN_api_Value) (by dsimp only [putD, List.set]) (by dsimp only [List.set, List.append, List.cons_append, List.nil_append, cellsD, List.map, repl, List.length, Nat.reduceAdd, if_true, ↓reduceIte]; first | done | rfl) ?_
   refine at_stA 14 (.tmp 80) rfl rfl rfl rfl rfl (ev_tmp rfl) rfl fagg_api_Value rfl rfl (by first | decide | simp | (simp; omega)) (by dsimp only [List.set, List.append, List.cons_append, List.nil_append, cellsD, List.map, repl, List.length, Nat.reduceAdd, if_true, ↓reduceIte]; first | done | rfl) ?_
   refine at_end rfl ?_
   refine at_seq [1, 1, 1, 1, 1, 1, 1, 1, 0] [1, 1, 1, 1, 1, 1, 1, 1, 1] rfl ?_
   refine at_seq [1, 1, 1, 1, 1, 1, 1, 1, 0, 0] [1, 1, 1, 1, 1, 1, 1, 1, 0, 1] rfl ?_
   refine at_region rfl ?_
   refine at_c 15 rfl rfl rfl (.inr rfl) ?_
   refine at_end rfl ?_
   refine at_block [1, 1, 1, 1, 1, 1, 1, 1, 0, 1, 0] 2 rfl ?_
   refine at_loop [1, 1, 1, 1, 1, 1, 1, 1, 0, 1, 0, 0] rfl ?_
   try simp only [List.length_map, List.length_nil, Int.toNat_natCast]
   exact run_wk (.d4 (.drop (.drop (.keep (.drop (.drop (.drop (.keep (.keep (.drop (.drop (.keep (.keep (.d16 (.d16 (.d16 (.d16 (.d16 (.d16 (.d4 .nil)))))))))))))))))))) (rap_l2 r X (by omega) (by omega) hXb hgb _ _ 0 [r.to] rfl rfl (by rw [List.drop_zero, ← hX, ad_sb]; rfl))
noncomputable def cRAp2 : Code := Tryz.f35.body.getD .skip
set_option maxRecDepth 20000 in
theorem rap2_q (m : Md) (hm : MdOK m) (s : Int) (l : List Int) (hc : CfOK m.ns m.np (s :: l)) : FSpec PP 35 [.v (vMd m), di (-1), .v (vCf (s :: l))] σ0 (.tup [.v (.list []), di 0]) σ0 := by
 refine spec_at cRAp2 Tryz.func35 rfl (by kernel_rfl) (by first | decide | simp) _ (by dsimp only [Tryz.f35, List.length, Nat.reduceAdd, Nat.reduceSub, List.replicate, List.cons_append, List.nil_append]) ?_
 refine at_seq [0] [1] rfl ?_
 refine at_region rfl ?_
 refine at_o 3 rfl rfl rfl rfl (op_boxI rfl rfl) ?_
 refine at_o 5 rfl rfl rfl rfl (op_boxI rfl rfl) ?_
 refine at_c 6 rfl rfl rfl (.inr rfl) ?_
 refine at_c 7 rfl rfl rfl (.inr rfl) ?_
 refine at_end rfl ?_
 refine at_seq [1, 0] [1, 1] rfl ?_
 refine at_seq [1, 0, 0] [1, 0, 1] rfl ?_
 refine at_region rfl ?_
 first | (refine at_o 11 rfl rfl rfl rfl (op_loadRA rfl fagg_api_Model) ?_) | (refine at_o 11 rfl rfl rfl rfl (op_loadPA rfl fagg_api_Model rfl (by first | decide | simp) rfl) ?_)
 refine at_o 12 rfl rfl rfl rfl (op_call0 rfl rfl rfl rfl (rkind_spec m hm)) ?_
 refine at_m 12 8 rfl rfl rfl (.inr rfl) rfl ?_
 refine at_end rfl ?_
 refine at_seq [1, 0, 1, 0] [1, 0, 1, 1] rfl ?_
 refine at_region rfl ?_
 refine at_m 8 13 rfl rfl rfl (.inl rfl) rfl ?_
 refine at_o 14 rfl rfl rfl rfl (op_binI rfl rfl) ?_
 refine at_end rfl ?_
 refine at_cond [1, 0, 1, 1, 0] [1, 0, 1, 1, 1] rfl rfl (fun hc1 => ?_) (fun hc1 => ?_)
 ·skip
  exact absurd hc1 (by simp)
 ·skip
  refine at_skip rfl ?_
  refine at_seq [1, 1, 0] [1, 1, 1] rfl ?_
  refine at_seq [1, 1, 0, 0] [1, 1, 0, 1] rfl ?_
  refine at_region rfl ?_
  refine at_m 1 16 rfl rfl rfl (.inl rfl) rfl ?_
  refine at_o 17 rfl rfl rfl rfl (op_binI rfl rfl) ?_
  rw [show decide ((-1 : Int) < -1) = false from rfl]
  refine at_m 17 18 rfl rfl rfl (.inl rfl) rfl ?_
  refine at_m 1 19 rfl rfl rfl (.inl rfl) rfl ?_
  first | (refine at_o 20 rfl rfl rfl rfl (op_fieldP rfl ffld7_api_Model (by decide)) ?_) | (refine at_o 20 rfl rfl rfl rfl (op_fieldR rfl ffld7_api_Model (by decide) (by decide) rfl) ?_)
  first | (refine at_o 21 rfl rfl rfl rfl (op_loadR1 rfl fone_Sapi_Rule rfl) ?_) | (refine at_o 21 rfl rfl rfl rfl (op_loadP1 rfl fone_Sapi_Rule rfl rfl) ?_)
  first | (refine at_o 22 rfl rfl rfl rfl (op_lenL rfl fu_Sapi_Rule) ?_) | (refine at_o 22 rfl rfl rfl rfl (opOK_un (op_lenL rfl fu_Sapi_Rule)) ?_) | (refine at_o 22 rfl rfl rfl rfl (op_lenA rfl fu_Sapi_Rule) ?_)
  simp only [List.length_map]
  refine at_o 23 rfl rfl rfl rfl (op_binI rfl rfl) ?_
  refine at_pk false 18 23 24 rfl rfl rfl rfl rfl rfl rfl (by dsimp only [List.set]) ?_
  refine at_end rfl ?_
  refine at_cond [1, 1, 0, 1, 0] [1, 1, 0, 1, 1] rfl rfl (fun hc2 => ?_) (fun hc2 => ?_)
  ·skip
   exact absurd hc2 (by first | (simp; done) | (simp; omega))
  ·skip
   refine at_skip rfl ?_
   refine at_seq [1, 1, 1, 0] [1, 1, 1, 1] rfl ?_
   refine at_seq [1, 1, 1, 0, 0] [1, 1, 1, 0, 1] rfl ?_
   refine at_region rfl ?_
   first | (refine at_o 25 rfl rfl rfl rfl (op_loadRA rfl fagg_api_Model) ?_) | (refine at_o 25 rfl rfl rfl rfl (op_loadPA rfl fagg_api_Model rfl (by first | decide | simp) rfl) ?_)
   first | (refine at_o 26 rfl rfl rfl rfl (op_loadRA rfl fagg_api_Value) ?_) | (refine at_o 26 rfl rfl rfl rfl (op_loadPA rfl fagg_api_Value rfl (by first | decide | simp) rfl) ?_)
   refine at_o 27 rfl rfl rfl rfl (op_call0 rfl rfl rfl rfl (mdRValid hm hc)) ?_
   refine at_o 28 rfl rfl rfl rfl (op_un rfl rfl) ?_
   refine at_end rfl ?_
   refine at_cond [1, 1, 1, 0, 1, 0] [1, 1, 1, 0, 1, 1] rfl rfl (fun hc3 => ?_) (fun hc3 => ?_)
   ·skip
    exact absurd hc3 (by simp)
   ·skip
    refine at_skip rfl ?_
    refine at_seq [1, 1, 1, 1, 0] [1, 1, 1, 1, 1] rfl ?_
    refine at_seq [1, 1, 1, 1, 0, 0] [1, 1, 1, 1, 0, 1] rfl ?_
    refine at_region rfl ?_
    refine at_m 1 29 rfl rfl rfl (.inl rfl) rfl ?_
    refine at_o 30 rfl rfl rfl rfl (op_binI rfl rfl) ?_
    refine at_end rfl ?_
    refine at_cond [1, 1, 1, 1, 0, 1, 0] [1, 1, 1, 1, 0, 1, 1] rfl rfl (fun hc4 => ?_) (fun hc4 => ?_)
    ·skip
     refine at_seq [1, 1, 1, 1, 0, 1, 0, 0] [1, 1, 1, 1, 0, 1, 0, 1] rfl ?_
     refine at_region rfl ?_
     first | (refine at_o 31 rfl rfl rfl rfl (op_loadRA rfl fagg_api_Model) ?_) | (refine at_o 31 rfl rfl rfl rfl (op_loadPA rfl fagg_api_Model rfl (by first | decide | simp) rfl) ?_)
     first | (refine at_o 32 rfl rfl rfl rfl (op_loadRA rfl fagg_api_Value) ?_) | (refine at_o 32 rfl rfl rfl rfl (op_loadPA rfl fagg_api_Value rfl (by first | decide | simp) rfl) ?_)
     refine at_o 33 rfl rfl rfl rfl (op_call0 rfl rfl rfl rfl (rquiet_spec m hm (s :: l) hc)) ?_
     refine at_o 34 rfl rfl rfl rfl (op_extract rfl rfl) ?_
     refine at_o 35 rfl rfl rfl rfl (op_extract rfl rfl) ?_
     refine at_m 34 6 rfl rfl rfl (.inr rfl) rfl ?_
     refine at_m 35 7 rfl rfl rfl (.inr rfl) rfl ?_
     refine at_end rfl ?_
     refine at_ret rfl (ret_two (t := 6) (t2 := 7) rfl rfl rfl ?_ ?_ rfl rfl)
     all_goals (rfl)
    ·skip
     exact absurd hc4 (by simp)
set_option maxRecDepth 20000 in
theorem rap2_yes (m : Md) (hm : MdOK m) (s : Int) (l : List Int) (hc : CfOK m.ns m.np (s :: l)) (k : Nat) (r : Rl) (hr : m.rules[k]? = some r) (hen : enQ r (s :: l) = true) : FSpec PP 35 [.v (vMd m), di ↑k, .v (vCf (s :: l))] σ0 (.tup [.v (.list [vCf (apM r (s :: l))]), di 0]) σ0 := by
 have hkl := (List.getElem?_eq_some_iff.1 hr).1
 refine spec_at cRAp2 Tryz.func35 rfl (by kernel_rfl) (by first | decide | simp) _ (by dsimp only [Tryz.f35, List.length, Nat.reduceAdd, Nat.reduceSub, List.replicate, List.cons_append, List.nil_append]) ?_
 refine at_seq [0] [1] rfl ?_
 refine at_region rfl ?_
 refine at_o 3 rfl rfl rfl rfl (op_boxI rfl rfl) ?_
 refine at_o 5 rfl rfl rfl rfl (op_boxI rfl rfl) ?_
 refine at_c 6 rfl rfl rfl (.inr rfl) ?_
 refine at_c 7 rfl rfl rfl (.inr rfl) ?_
 refine at_end rfl ?_
 refine at_seq [1, 0] [1, 1] rfl ?_
 refine at_seq [1, 0, 0] [1, 0, 1] rfl ?_
 refine at_region rfl ?_
 first | (refine at_o 11 rfl rfl rfl rfl (op_loadRA rfl fagg_api_Model) ?_) | (refine at_o 11 rfl rfl rfl rfl (op_loadPA rfl fagg_api_Model rfl (by first | decide | simp) rfl) ?_)
 refine at_o 12 rfl rfl rfl rfl (op_call0 rfl rfl rfl rfl (rkind_spec m hm)) ?_
 refine at_m 12 8 rfl rfl rfl (.inr rfl) rfl ?_
 refine at_end rfl ?_
 refine at_seq [1, 0, 1, 0] [1, 0, 1, 1] rfl ?_
 refine at_region rfl ?_
 refine at_m 8 13 rfl rfl rfl (.inl rfl) rfl ?_
 refine at_o 14 rfl rfl rfl rfl (op_binI rfl rfl) ?_
 refine at_end rfl ?_
 refine at_cond [1, 0, 1, 1, 0] [1, 0, 1, 1, 1] rfl rfl (fun hc1 => ?_) (fun hc1 => ?_)
 ·skip
  exact absurd hc1 (by simp)
 ·skip
  refine at_skip rfl ?_
  refine at_seq [1, 1, 0] [1, 1, 1] rfl ?_
  refine at_seq [1, 1, 0, 0] [1, 1, 0, 1] rfl ?_
  refine at_region rfl ?_
  refine at_m 1 16 rfl rfl rfl (.inl rfl) rfl ?_
  refine at_o 17 rfl rfl rfl rfl (op_binI rfl rfl) ?_
  rw [show decide ((k : Int) < -1) = false by simp only [decide_eq_false_iff_not]; omega]
  refine at_m 17 18 rfl rfl rfl (.inl rfl) rfl ?_
  refine at_m 1 19 rfl rfl rfl (.inl rfl) rfl ?_
  first | (refine at_o 20 rfl rfl rfl rfl (op_fieldP rfl ffld7_api_Model (by decide)) ?_) | (refine at_o 20 rfl rfl rfl rfl (op_fieldR rfl ffld7_api_Model (by decide) (by decide) rfl) ?_)
  first | (refine at_o 21 rfl rfl rfl rfl (op_loadR1 rfl fone_Sapi_Rule rfl) ?_) | (refine at_o 21 rfl rfl rfl rfl (op_loadP1 rfl fone_Sapi_Rule rfl rfl) ?_)
  first | (refine at_o 22 rfl rfl rfl rfl (op_lenL rfl fu_Sapi_Rule) ?_) | (refine at_o 22 rfl rfl rfl rfl (opOK_un (op_lenL rfl fu_Sapi_Rule)) ?_) | (refine at_o 22 rfl rfl rfl rfl (op_lenA rfl fu_Sapi_Rule) ?_)
  simp only [List.length_map]
  refine at_o 23 rfl rfl rfl rfl (op_binI rfl rfl) ?_
  refine at_pk false 18 23 24 rfl rfl rfl rfl rfl rfl rfl (by dsimp only [List.set]) ?_
  refine at_end rfl ?_
  refine at_cond [1, 1, 0, 1, 0] [1, 1, 0, 1, 1] rfl rfl (fun hc2 => ?_) (fun hc2 => ?_)
  ·skip
   exact absurd hc2 (by first | (simp; done) | (simp; omega))
  ·skip
   refine at_skip rfl ?_
   refine at_seq [1, 1, 1, 0] [1, 1, 1, 1] rfl ?_
   refine at_seq [1, 1, 1, 0, 0] [1, 1, 1, 0, 1] rfl ?_
   refine at_region rfl ?_
   first | (refine at_o 25 rfl rfl rfl rfl (op_loadRA rfl fagg_api_Model) ?_) | (refine at_o 25 rfl rfl rfl rfl (op_loadPA rfl fagg_api_Model rfl (by first | decide | simp) rfl) ?_)
   first | (refine at_o 26 rfl rfl rfl rfl (op_loadRA rfl fagg_api_Value) ?_) | (refine at_o 26 rfl rfl rfl rfl (op_loadPA rfl fagg_api_Value rfl (by first | decide | simp) rfl) ?_)
   refine at_o 27 rfl rfl rfl rfl (op_call0 rfl rfl rfl rfl (mdRValid hm hc)) ?_
   refine at_o 28 rfl rfl rfl rfl (op_un rfl rfl) ?_
   refine at_end rfl ?_
   refine at_cond [1, 1, 1, 0, 1, 0] [1, 1, 1, 0, 1, 1] rfl rfl (fun hc3 => ?_) (fun hc3 => ?_)
   ·skip
    exact absurd hc3 (by simp)
   ·skip
    refine at_skip rfl ?_
    refine at_seq [1, 1, 1, 1, 0] [1, 1, 1, 1, 1] rfl ?_
    refine at_seq [1, 1, 1, 1, 0, 0] [1, 1, 1, 1, 0, 1] rfl ?_
    refine at_region rfl ?_
    refine at_m 1 29 rfl rfl rfl (.inl rfl) rfl ?_
    refine at_o 30 rfl rfl rfl rfl (op_binI rfl rfl) ?_
    refine at_end rfl ?_
    refine at_cond [1, 1, 1, 1, 0, 1, 0] [1, 1, 1, 1, 0, 1, 1] rfl rfl (fun hc4 => ?_) (fun hc4 => ?_)
    ·skip
     exact absurd hc4 (by first | (simp; done) | (simp; omega))
    ·skip
     refine at_skip rfl ?_
     refine at_seq [1, 1, 1, 1, 1, 0] [1, 1, 1, 1, 1, 1] rfl ?_
     refine at_seq [1, 1, 1, 1, 1, 0, 0] [1, 1, 1, 1, 1, 0, 1] rfl ?_
     refine at_region rfl ?_
     first | (refine at_o 36 rfl rfl rfl rfl (op_fieldP rfl ffld0_api_Model (by decide)) ?_) | (refine at_o 36 rfl rfl rfl rfl (op_fieldR rfl ffld0_api_Model (by decide) (by decide) rfl) ?_)
     first | (refine at_o 37 rfl rfl rfl rfl (op_loadR1 rfl fone_int rfl) ?_) | (refine at_o 37 rfl rfl rfl rfl (op_loadP1 rfl fone_int rfl rfl) ?_)
     refine at_end rfl ?_
     refine at_block [1, 1, 1, 1, 1, 0, 1, 0] 0 rfl ?_
     refine at_seq [1, 1, 1, 1, 1, 0, 1, 0, 0] [1, 1, 1, 1, 1, 0, 1, 0, 1] rfl ?_
     refine at_region rfl ?_
     refine at_o 39 rfl rfl rfl rfl (op_binI rfl rfl) ?_
     refine at_m 39 38 rfl rfl rfl (.inr rfl) rfl ?_
     refine at_end rfl ?_
     refine at_cond [1, 1, 1, 1, 1, 0, 1, 0, 1, 0] [1, 1, 1, 1, 1, 0, 1, 0, 1, 1] rfl rfl (fun hc5 => ?_) (fun hc5 => ?_)
     ·skip
      exact absurd hc5 (by simp)
     ·skip
      refine at_seq [1, 1, 1, 1, 1, 0, 1, 0, 1, 1, 0] [1, 1, 1, 1, 1, 0, 1, 0, 1, 1, 1] rfl ?_
      refine at_region rfl ?_
      refine at_o 47 rfl rfl rfl rfl (op_binI rfl rfl) ?_
      refine at_m 47 46 rfl rfl rfl (.inr rfl) rfl ?_
      refine at_end rfl ?_
      refine at_cond [1, 1, 1, 1, 1, 0, 1, 0, 1, 1, 1, 0] [1, 1, 1, 1, 1, 0, 1, 0, 1, 1, 1, 1] rfl rfl (fun hc6 => ?_) (fun hc6 => ?_)
      ·skip
       exact absurd hc6 (by simp)
      ·skip
       refine at_skip rfl ?_
       refine run_blk ?_
       refine at_seq [1, 1, 1, 1, 1, 1, 0] [1, 1, 1, 1, 1, 1, 1] rfl ?_
       refine at_region rfl ?_
       first | (refine at_o 55 rfl rfl rfl rfl (op_loadRA rfl fagg_api_Model) ?_) | (refine at_o 55 rfl rfl rfl rfl (op_loadPA rfl fagg_api_Model rfl (by first | decide | simp) rfl) ?_)
       refine at_m 1 56 rfl rfl rfl (.inl rfl) rfl ?_
       first | (refine at_o 57 rfl rfl rfl rfl (op_loadRA rfl fagg_api_Value) ?_) | (refine at_o 57 rfl rfl rfl rfl (op_loadPA rfl fagg_api_Value rfl (by first | decide | simp) rfl) ?_)
       refine at_o 58 rfl rfl rfl rfl (op_call0 rfl rfl rfl rfl (rapply_yes m hm s l hc k r hr hen)) ?_
       refine at_m 58 54 rfl rfl rfl (.inl rfl) rfl ?_
       refine at_o 59 rfl rfl rfl rfl (op_extract rfl rfl) ?_
       refine at_o 60 rfl rfl rfl rfl (op_extract rfl rfl) ?_
       refine at_opS (some 9) rfl rfl rfl rfl (op_allocN rfl fzeroN_api_Value) (by dsimp only [putD, List.set]) (by dsimp only [List.set, List.append, List.cons_append, List.nil_append, cellsD, List.map, repl, List.length, Nat.reduceAdd, if_true, ↓reduceIte]; first | done | rfl) ?_
       refine at_stA 9 (.tmp 59) rfl rfl rfl rfl rfl (ev_tmp rfl) rfl fagg_api_Value rfl rfl (by first | decide | simp | (simp; omega)) (by dsimp only [List.set, List.append, List.cons_append, List.nil_append, cellsD, List.map, repl, List.length, Nat.reduceAdd, if_true, ↓reduceIte]; first | done | rfl) ?_
       refine at_m 60 10 rfl rfl rfl (.inr rfl) rfl ?_
       refine at_end rfl ?_
       refine at_seq [1, 1, 1, 1, 1, 1, 1, 0] [1, 1, 1, 1, 1, 1, 1, 1] rfl ?_
       refine at_seq [1, 1, 1, 1, 1, 1, 1, 0, 0] [1, 1, 1, 1, 1, 1, 1, 0, 1] rfl ?_
       refine at_region rfl ?_
       first | (refine at_o 61 rfl rfl rfl rfl (op_fieldP rfl ffld0_api_Model (by decide)) ?_) | (refine at_o 61 rfl rfl rfl rfl (op_fieldR rfl ffld0_api_Model (by decide) (by decide) rfl) ?_)
       first | (refine at_o 62 rfl rfl rfl rfl (op_loadR1 rfl fone_int rfl) ?_) | (refine at_o 62 rfl rfl rfl rfl (op_loadP1 rfl fone_int rfl rfl) ?_)
       refine at_o 63 rfl rfl rfl rfl (op_binI rfl rfl) ?_
       refine at_end rfl ?_
       refine at_cond [1, 1, 1, 1, 1, 1, 1, 0, 1, 0] [1, 1, 1, 1, 1, 1, 1, 0, 1, 1] rfl rfl (fun hc7 => ?_) (fun hc7 => ?_)
       ·skip
        exact absurd hc7 (by simp)
       ·skip
        refine at_skip rfl ?_
        refine at_seq [1, 1, 1, 1, 1, 1, 1, 1, 0] [1, 1, 1, 1, 1, 1, 1, 1, 1] rfl ?_
        refine at_seq [1, 1, 1, 1, 1, 1, 1, 1, 0, 0] [1, 1, 1, 1, 1, 1, 1, 1, 0, 1] rfl ?_
        refine at_region rfl ?_
        refine at_m 10 71 rfl rfl rfl (.inl rfl) rfl ?_
        refine at_o 72 rfl rfl rfl rfl (op_binI rfl rfl) ?_
        refine at_end rfl ?_
        refine at_cond [1, 1, 1, 1, 1, 1, 1, 1, 0, 1, 0] [1, 1, 1, 1, 1, 1, 1, 1, 0, 1, 1] rfl rfl (fun hc8 => ?_) (fun hc8 => ?_)
        ·skip
         exact absurd hc8 (by simp)
        ·skip
         refine at_skip rfl ?_
         refine at_seq [1, 1, 1, 1, 1, 1, 1, 1, 1, 0] [1, 1, 1, 1, 1, 1, 1, 1, 1, 1] rfl ?_
         refine at_seq [1, 1, 1, 1, 1, 1, 1, 1, 1, 0, 0] [1, 1, 1, 1, 1, 1, 1, 1, 1, 0, 1] rfl ?_
         refine at_region rfl ?_
         refine at_m 10 73 rfl rfl rfl (.inl rfl) rfl ?_
         refine at_o 74 rfl rfl rfl rfl (op_binI rfl rfl) ?_
         refine at_end rfl ?_
         refine at_cond [1, 1, 1, 1, 1, 1, 1, 1, 1, 0, 1, 0] [1, 1, 1, 1, 1, 1, 1, 1, 1, 0, 1, 1] rfl rfl (fun hc9 => ?_) (fun hc9 => ?_)
         ·skip
          exact absurd hc9 (by simp)
         ·skip
          refine at_skip rfl ?_
          refine at_seq [1, 1, 1, 1, 1, 1, 1, 1, 1, 1, 0] [1, 1, 1, 1, 1, 1, 1, 1, 1, 1, 1] rfl ?_
          refine at_region rfl ?_
          first | (refine at_o 76 rfl rfl rfl rfl (op_loadRA rfl fagg_api_Value) ?_) | (refine at_o 76 rfl rfl rfl rfl (op_loadPA rfl fagg_api_Value rfl (by first | decide | simp) rfl) ?_)
          refine at_o 77 rfl rfl rfl rfl (op_buildSlice rfl (by rfl) (by rfl) fsl_Sapi_Value rfl rfl (by simp [V.size]) (by decide) (by decide) (by decide)) ?_
          refine at_m 77 6 rfl rfl rfl (.inr rfl) rfl ?_
          refine at_c 7 rfl rfl rfl (.inr rfl) ?_
          refine at_end rfl ?_
          refine at_ret rfl (ret_two (t := 6) (t2 := 7) rfl rfl rfl ?_ ?_ rfl rfl)
          all_goals (rfl)
set_option maxRecDepth 20000 in
theorem rap2_no (m : Md) (hm : MdOK m) (s : Int) (l : List Int) (hc : CfOK m.ns m.np (s :: l)) (k : Nat) (r : Rl) (hr : m.rules[k]? = some r) (hen : enQ r (s :: l) = false) : FSpec PP 35 [.v (vMd m), di ↑k, .v (vCf (s :: l))] σ0 (.tup [.v (.list []), di 0]) σ0 := by
 have hkl := (List.getElem?_eq_some_iff.1 hr).1
 refine spec_at cRAp2 Tryz.func35 rfl (by kernel_rfl) (by first | decide | simp) _ (by dsimp only [Tryz.f35, List.length, Nat.reduceAdd, Nat.reduceSub, List.replicate, List.cons_append, List.nil_append]) ?_
 refine at_seq [0] [1] rfl ?_
 refine at_region rfl ?_
 refine at_o 3 rfl rfl rfl rfl (op_boxI rfl rfl) ?_
 refine at_o 5 rfl rfl rfl rfl (op_boxI rfl rfl) ?_
 refine at_c 6 rfl rfl rfl (.inr rfl) ?_
 refine at_c 7 rfl rfl rfl (.inr rfl) ?_
 refine at_end rfl ?_
 refine at_seq [1, 0] [1, 1] rfl ?_
 refine at_seq [1, 0, 0] [1, 0, 1] rfl ?_
 refine at_region rfl ?_
 first | (refine at_o 11 rfl rfl rfl rfl (op_loadRA rfl fagg_api_Model) ?_) | (refine at_o 11 rfl rfl rfl rfl (op_loadPA rfl fagg_api_Model rfl (by first | decide | simp) rfl) ?_)
 refine at_o 12 rfl rfl rfl rfl (op_call0 rfl rfl rfl rfl (rkind_spec m hm)) ?_
 refine at_m 12 8 rfl rfl rfl (.inr rfl) rfl ?_
 refine at_end rfl ?_
 refine at_seq [1, 0, 1, 0] [1, 0, 1, 1] rfl ?_
 refine at_region rfl ?_
 refine at_m 8 13 rfl rfl rfl (.inl rfl) rfl ?_
 refine at_o 14 rfl rfl rfl rfl (op_binI rfl rfl) ?_
 refine at_end rfl ?_
 refine at_cond [1, 0, 1, 1, 0] [1, 0, 1, 1, 1] rfl rfl (fun hc1 => ?_) (fun hc1 => ?_)
 ·skip
  exact absurd hc1 (by simp)
 ·skip
  refine at_skip rfl ?_
  refine at_seq [1, 1, 0] [1, 1, 1] rfl ?_
  refine at_seq [1, 1, 0, 0] [1, 1, 0, 1] rfl ?_
  refine at_region rfl ?_
  refine at_m 1 16 rfl rfl rfl (.inl rfl) rfl ?_
  refine at_o 17 rfl rfl rfl rfl (op_binI rfl rfl) ?_
  rw [show decide ((k : Int) < -1) = false by simp only [decide_eq_false_iff_not]; omega]
  refine at_m 17 18 rfl rfl rfl (.inl rfl) rfl ?_
  refine at_m 1 19 rfl rfl rfl (.inl rfl) rfl ?_
  first | (refine at_o 20 rfl rfl rfl rfl (op_fieldP rfl ffld7_api_Model (by decide)) ?_) | (refine at_o 20 rfl rfl rfl rfl (op_fieldR rfl ffld7_api_Model (by decide) (by decide) rfl) ?_)
  first | (refine at_o 21 rfl rfl rfl rfl (op_loadR1 rfl fone_Sapi_Rule rfl) ?_) | (refine at_o 21 rfl rfl rfl rfl (op_loadP1 rfl fone_Sapi_Rule rfl rfl) ?_)
  first | (refine at_o 22 rfl rfl rfl rfl (op_lenL rfl fu_Sapi_Rule) ?_) | (refine at_o 22 rfl rfl rfl rfl (opOK_un (op_lenL rfl fu_Sapi_Rule)) ?_) | (refine at_o 22 rfl rfl rfl rfl (op_lenA rfl fu_Sapi_Rule) ?_)
  simp only [List.length_map]
  refine at_o 23 rfl rfl rfl rfl (op_binI rfl rfl) ?_
  refine at_pk false 18 23 24 rfl rfl rfl rfl rfl rfl rfl (by dsimp only [List.set]) ?_
  refine at_end rfl ?_
  refine at_cond [1, 1, 0, 1, 0] [1, 1, 0, 1, 1] rfl rfl (fun hc2 => ?_) (fun hc2 => ?_)
  ·skip
   exact absurd hc2 (by first | (simp; done) | (simp; omega))
  ·skip
   refine at_skip rfl ?_
   refine at_seq [1, 1, 1, 0] [1, 1, 1, 1] rfl ?_
   refine at_seq [1, 1, 1, 0, 0] [1, 1, 1, 0, 1] rfl ?_
   refine at_region rfl ?_
   first | (refine at_o 25 rfl rfl rfl rfl (op_loadRA rfl fagg_api_Model) ?_) | (refine at_o 25 rfl rfl rfl rfl (op_loadPA rfl fagg_api_Model rfl (by first | decide | simp) rfl) ?_)
   first | (refine at_o 26 rfl rfl rfl rfl (op_loadRA rfl fagg_api_Value) ?_) | (refine at_o 26 rfl rfl rfl rfl (op_loadPA rfl fagg_api_Value rfl (by first | decide | simp) rfl) ?_)
   refine at_o 27 rfl rfl rfl rfl (op_call0 rfl rfl rfl rfl (mdRValid hm hc)) ?_
   refine at_o 28 rfl rfl rfl rfl (op_un rfl rfl) ?_
   refine at_end rfl ?_
   refine at_cond [1, 1, 1, 0, 1, 0] [1, 1, 1, 0, 1, 1] rfl rfl (fun hc3 => ?_) (fun hc3 => ?_)
   ·skip
    exact absurd hc3 (by simp)
   ·skip
    refine at_skip rfl ?_
    refine at_seq [1, 1, 1, 1, 0] [1, 1, 1, 1, 1] rfl ?_
    refine at_seq [1, 1, 1, 1, 0, 0] [1, 1, 1, 1, 0, 1] rfl ?_
    refine at_region rfl ?_
    refine at_m 1 29 rfl rfl rfl (.inl rfl) rfl ?_
    refine at_o 30 rfl rfl rfl rfl (op_binI rfl rfl) ?_
    refine at_end rfl ?_
    refine at_cond [1, 1, 1, 1, 0, 1, 0] [1, 1, 1, 1, 0, 1, 1] rfl rfl (fun hc4 => ?_) (fun hc4 => ?_)
    ·skip
     exact absurd hc4 (by first | (simp; done) | (simp; omega))
    ·skip
     refine at_skip rfl ?_
     refine at_seq [1, 1, 1, 1, 1, 0] [1, 1, 1, 1, 1, 1] rfl ?_
     refine at_seq [1, 1, 1, 1, 1, 0, 0] [1, 1, 1, 1, 1, 0, 1] rfl ?_
     refine at_region rfl ?_
     first | (refine at_o 36 rfl rfl rfl rfl (op_fieldP rfl ffld0_api_Model (by decide)) ?_) | (refine at_o 36 rfl rfl rfl rfl (op_fieldR rfl ffld0_api_Model (by decide) (by decide) rfl) ?_)
     first | (refine at_o 37 rfl rfl rfl rfl (op_loadR1 rfl fone_int rfl) ?_) | (refine at_o 37 rfl rfl rfl rfl (op_loadP1 rfl fone_int rfl rfl) ?_)
     refine at_end rfl ?_
     refine at_block [1, 1, 1, 1, 1, 0, 1, 0] 0 rfl ?_
     refine at_seq [1, 1, 1, 1, 1, 0, 1, 0, 0] [1, 1, 1, 1, 1, 0, 1, 0, 1] rfl ?_
     refine at_region rfl ?_
     refine at_o 39 rfl rfl rfl rfl (op_binI rfl rfl) ?_
     refine at_m 39 38 rfl rfl rfl (.inr rfl) rfl ?_
     refine at_end rfl ?_
     refine at_cond [1, 1, 1, 1, 1, 0, 1, 0, 1, 0] [1, 1, 1, 1, 1, 0, 1, 0, 1, 1] rfl rfl (fun hc5 => ?_) (fun hc5 => ?_)
     ·skip
      exact absurd hc5 (by simp)
     ·skip
      refine at_seq [1, 1, 1, 1, 1, 0, 1, 0, 1, 1, 0] [1, 1, 1, 1, 1, 0, 1, 0, 1, 1, 1] rfl ?_
      refine at_region rfl ?_
      refine at_o 47 rfl rfl rfl rfl (op_binI rfl rfl) ?_
      refine at_m 47 46 rfl rfl rfl (.inr rfl) rfl ?_
      refine at_end rfl ?_
      refine at_cond [1, 1, 1, 1, 1, 0, 1, 0, 1, 1, 1, 0] [1, 1, 1, 1, 1, 0, 1, 0, 1, 1, 1, 1] rfl rfl (fun hc6 => ?_) (fun hc6 => ?_)
      ·skip
       exact absurd hc6 (by simp)
      ·skip
       refine at_skip rfl ?_
       refine run_blk ?_
       refine at_seq [1, 1, 1, 1, 1, 1, 0] [1, 1, 1, 1, 1, 1, 1] rfl ?_
       refine at_region rfl ?_
       first | (refine at_o 55 rfl rfl rfl rfl (op_loadRA rfl fagg_api_Model) ?_) | (refine at_o 55 rfl rfl rfl rfl (op_loadPA rfl fagg_api_Model rfl (by first | decide | simp) rfl) ?_)
       refine at_m 1 56 rfl rfl rfl (.inl rfl) rfl ?_
       first | (refine at_o 57 rfl rfl rfl rfl (op_loadRA rfl fagg_api_Value) ?_) | (refine at_o 57 rfl rfl rfl rfl (op_loadPA rfl fagg_api_Value rfl (by first | decide | simp) rfl) ?_)
       refine at_o 58 rfl rfl rfl rfl (op_call0 rfl rfl rfl rfl (rapply_no m hm s l hc k r hr hen)) ?_
       refine at_m 58 54 rfl rfl rfl (.inl rfl) rfl ?_
       refine at_o 59 rfl rfl rfl rfl (op_extract rfl rfl) ?_
       refine at_o 60 rfl rfl rfl rfl (op_extract rfl rfl) ?_
       refine at_opS (some 9) rfl rfl rfl rfl (op_allocN rfl fzeroN_api_Value) (by dsimp only [putD, List.set]) (by dsimp only [List.set, List.append, List.cons_append, List.nil_append, cellsD, List.map, repl, List.length, Nat.reduceAdd, if_true, ↓reduceIte]; first | done | rfl) ?_
       refine at_stA 9 (.tmp 59) rfl rfl rfl rfl rfl (ev_tmp rfl) rfl fagg_api_Value rfl rfl (by first | decide | simp | (simp; omega)) (by dsimp only [List.set, List.append, List.cons_append, List.nil_append, cellsD, List.map, repl, List.length, Nat.reduceAdd, if_true, ↓reduceIte]; first | done | rfl) ?_
       refine at_m 60 10 rfl rfl rfl (.inr rfl) rfl ?_
       refine at_end rfl ?_
       refine at_seq [1, 1, 1, 1, 1, 1, 1, 0] [1, 1, 1, 1, 1, 1, 1, 1] rfl ?_
       refine at_seq [1, 1, 1, 1, 1, 1, 1, 0, 0] [1, 1, 1, 1, 1, 1, 1, 0, 1] rfl ?_
       refine at_region rfl ?_
       first | (refine at_o 61 rfl rfl rfl rfl (op_fieldP rfl ffld0_api_Model (by decide)) ?_) | (refine at_o 61 rfl rfl rfl rfl (op_fieldR rfl ffld0_api_Model (by decide) (by decide) rfl) ?_)
       first | (refine at_o 62 rfl rfl rfl rfl (op_loadR1 rfl fone_int rfl) ?_) | (refine at_o 62 rfl rfl rfl rfl (op_loadP1 rfl fone_int rfl rfl) ?_)
       refine at_o 63 rfl rfl rfl rfl (op_binI rfl rfl) ?_
       refine at_end rfl ?_
       refine at_cond [1, 1, 1, 1, 1, 1, 1, 0, 1, 0] [1, 1, 1, 1, 1, 1, 1, 0, 1, 1] rfl rfl (fun hc7 => ?_) (fun hc7 => ?_)
       ·skip
        exact absurd hc7 (by simp)
       ·skip
        refine at_skip rfl ?_
        refine at_seq [1, 1, 1, 1, 1, 1, 1, 1, 0] [1, 1, 1, 1, 1, 1, 1, 1, 1] rfl ?_
        refine at_seq [1, 1, 1, 1, 1, 1, 1, 1, 0, 0] [1, 1, 1, 1, 1, 1, 1, 1, 0, 1] rfl ?_
        refine at_region rfl ?_
        refine at_m 10 71 rfl rfl rfl (.inl rfl) rfl ?_
        refine at_o 72 rfl rfl rfl rfl (op_binI rfl rfl) ?_
        refine at_end rfl ?_
        refine at_cond [1, 1, 1, 1, 1, 1, 1, 1, 0, 1, 0] [1, 1, 1, 1, 1, 1, 1, 1, 0, 1, 1] rfl rfl (fun hc8 => ?_) (fun hc8 => ?_)
        ·skip
         refine at_seq [1, 1, 1, 1, 1, 1, 1, 1, 0, 1, 0, 0] [1, 1, 1, 1, 1, 1, 1, 1, 0, 1, 0, 1] rfl ?_
         refine at_region rfl ?_
         refine at_c 6 rfl rfl rfl (.inr rfl) ?_
         refine at_c 7 rfl rfl rfl (.inr rfl) ?_
         refine at_end rfl ?_
         refine at_ret rfl (ret_two (t := 6) (t2 := 7) rfl rfl rfl ?_ ?_ rfl rfl)
         all_goals (rfl)
        ·skip
         exact absurd hc8 (by simp)
theorem rap2_spec (m : Md) (hm : MdOK m) (s : Int) (l : List Int) (hc : CfOK m.ns m.np (s :: l)) (k : Nat) (r : Rl) (hr : m.rules[k]? = some r) : FSpec PP 35 [.v (vMd m), di ↑k, .v (vCf (s :: l))] σ0 (.tup [.v (.list ((bhM r (s :: l)).map vCf)), di 0]) σ0 := by
 cases hen : enQ r (s :: l) with
 | true => rw [show bhM r (s :: l) = [apM r (s :: l)] by simp [bhM, hen]]; exact rap2_yes m hm s l hc k r hr hen
 | false => rw [show bhM r (s :: l) = [] by simp [bhM, hen]]; exact rap2_no m hm s l hc k r hr hen
noncomputable def cRAll : Code := Tryz.f14.body.getD .skip
set_option maxRecDepth 20000 in
theorem rall_in (R : List D → St → Prop) (K : List KI) (m : Md) (c : List Int) (k : Int) (ls : List (List Int)) (hl : ls.length ≤ 100) (T : List Stp) (hk : Run PP R K (.undef :: .undef :: (.v (.ref (vMd m))) :: (.v (.ref (vCf c))) :: .undef :: .undef :: .undef :: (.acc 1 (T.map vStp)) :: (di k) :: .undef :: .undef :: .undef :: .undef :: .undef :: .undef :: .undef :: .undef :: .undef :: .undef :: .undef :: .undef :: .undef :: .undef :: .undef :: .undef :: .undef :: .undef :: .undef :: .undef :: .undef :: .undef :: .undef :: .undef :: .undef :: .undef :: .undef :: .undef :: .undef :: .undef :: .undef :: .undef :: .undef :: .undef :: .undef :: .undef :: .undef :: .undef :: .undef :: .undef :: .undef :: .undef :: .undef :: .undef :: .undef :: .undef :: .undef :: .undef :: []) ⟨[], [(1, 3, T.map vStp)]⟩) (n : Nat) : ∀ (i : Nat) (acc : List Stp), ls.length - i = n → acc.length ≤ 1000 + i → T = acc ++ (ls.drop i).map (fun d => (k, d)) → Run PP R (.lp (sub cRAll [1, 1, 1, 1, 0, 1, 0, 0, 1, 0, 0, 1, 1, 1, 0, 0]) :: .blk 2 :: K) (.undef :: .undef :: (.v (.ref (vMd m))) :: (.v (.ref (vCf c))) :: .undef :: .undef :: .undef :: (.acc 1 (acc.map vStp)) :: (di k) :: (.v (.list (ls.map vCf))) :: .undef :: (di ↑i) :: .undef :: .undef :: .undef :: .undef :: .undef :: .undef :: .undef :: .undef :: .undef :: .undef :: .undef :: .undef :: .undef :: .undef :: .undef :: .undef :: .undef :: .undef :: .undef :: .undef :: .undef :: .undef :: .undef :: .undef :: .undef :: .undef :: .undef :: .undef :: .undef :: .undef :: .undef :: .undef :: .undef :: .undef :: .undef :: .undef :: .undef :: .undef :: .undef :: .undef :: .undef :: .undef :: .undef :: .undef :: .undef :: []) ⟨[], [(1, 3, acc.map vStp)]⟩ := by
 induction n using Nat.strongRecOn with
 | _ n ih =>
  intro i acc hm hal hT
  refine run_lp ?_
  refine at_seq [1, 1, 1, 1, 0, 1, 0, 0, 1, 0, 0, 1, 1, 1, 0, 0, 0] [1, 1, 1, 1, 0, 1, 0, 0, 1, 0, 0, 1, 1, 1, 0, 0, 1] rfl ?_
  refine at_seq [1, 1, 1, 1, 0, 1, 0, 0, 1, 0, 0, 1, 1, 1, 0, 0, 0, 0] [1, 1, 1, 1, 0, 1, 0, 0, 1, 0, 0, 1, 1, 1, 0, 0, 0, 1] rfl ?_
  refine at_region rfl ?_
  refine at_m 11 38 rfl rfl rfl (.inl rfl) rfl ?_
  refine at_m 9 39 rfl rfl rfl (.inl rfl) rfl ?_
  first | (refine at_o 40 rfl rfl rfl rfl (op_lenL rfl fu_Sapi_Value) ?_) | (refine at_o 40 rfl rfl rfl rfl (opOK_un (op_lenL rfl fu_Sapi_Value)) ?_) | (refine at_o 40 rfl rfl rfl rfl (op_lenA rfl fu_Sapi_Value) ?_)
  simp only [List.length_map]
  refine at_o 41 rfl rfl rfl rfl (op_binI rfl rfl) ?_
  refine at_end rfl ?_
  refine at_cond [1, 1, 1, 1, 0, 1, 0, 0, 1, 0, 0, 1, 1, 1, 0, 0, 0, 1, 0] [1, 1, 1, 1, 0, 1, 0, 0, 1, 0, 0, 1, 1, 1, 0, 0, 0, 1, 1] rfl rfl (fun hc1 => ?_) (fun hc1 => ?_)
  ·skip
   have hlt : i < ls.length := by simpa using hc1
   obtain ⟨x, hx⟩ := get_ex hlt
   have hx2 := idx_some (f := vCf) hx
   rw [List.drop_eq_getElem_cons hlt, (List.getElem?_eq_some_iff.1 hx).2] at hT
   refine at_skip rfl ?_
   refine at_seq [1, 1, 1, 1, 0, 1, 0, 0, 1, 0, 0, 1, 1, 1, 0, 0, 1, 0] [1, 1, 1, 1, 0, 1, 0, 0, 1, 0, 0, 1, 1, 1, 0, 0, 1, 1] rfl ?_
   refine at_block [1, 1, 1, 1, 0, 1, 0, 0, 1, 0, 0, 1, 1, 1, 0, 0, 1, 0, 0] 3 rfl ?_
   refine at_region rfl ?_
   refine at_m 7 44 rfl rfl rfl (.inl rfl) rfl ?_
   refine at_m 8 45 rfl rfl rfl (.inl rfl) rfl ?_
   refine at_m 9 46 rfl rfl rfl (.inl rfl) rfl ?_
   refine at_m 11 47 rfl rfl rfl (.inl rfl) rfl ?_
   first | (refine at_o 48 rfl rfl rfl rfl (op_idxL rfl fsl_Sapi_Value (by first | decide | omega) (by first | assumption | exact idx_some (by assumption) | rfl) (by first | rfl | (simp [V.size]; done))) ?_) | (refine at_o 48 rfl rfl rfl rfl (opOK_un (op_idxL rfl fsl_Sapi_Value (by first | decide | omega) (by first | assumption | exact idx_some (by assumption) | rfl) (by first | rfl | (simp [V.size]; done)))) ?_) | (refine at_o 48 rfl rfl rfl rfl (op_idxA rfl fsl_Sapi_Value (by first | decide | omega) (by first | decide | omega)) ?_)
   first | (refine at_o 49 rfl rfl rfl rfl (op_loadRA rfl fagg_api_Value) ?_) | (refine at_o 49 rfl rfl rfl rfl (op_loadPA rfl fagg_api_Value rfl (by first | decide | simp) rfl) ?_)
   refine at_o 50 rfl rfl rfl rfl (op_buildN rfl fbldN_api_Step rfl rfl) ?_
   try dsimp only [V.cellsV, List.take, List.drop, List.cons_append, List.nil_append, List.length]
   refine at_o 51 rfl rfl rfl rfl (op_buildSlice rfl (by rfl) (by rfl) fsl_Sapi_Step rfl rfl (by simp [V.size]) (by decide) (by decide) (by decide)) ?_
   refine at_opS (some 52) rfl rfl rfl rfl (op_append rfl fsl_Sapi_Step rfl (by simp) (by simp [V.size]) (by simp; omega) (by simp; omega)) (by dsimp only [putD, List.set]) (by dsimp only [List.set, List.append, List.cons_append, List.nil_append, cellsD, List.map, repl, List.length, Nat.reduceAdd, if_true, ↓reduceIte]; first | done | rfl) ?_
   refine at_m 52 7 rfl rfl rfl (.inr rfl) rfl ?_
   refine at_end rfl ?_
   rw [show (acc.map vStp ++ [.agg [.int .i64 k, .int .i64 0, vK x]]) = (acc ++ [(k, x)]).map vStp by simp]
   refine run_blk ?_
   refine at_region rfl ?_
   refine at_m 11 42 rfl rfl rfl (.inl rfl) rfl ?_
   refine at_o 43 rfl rfl rfl rfl (op_binI rfl rfl) ?_
   rw [wrap_succ (by omega)]
   refine at_m 43 11 rfl rfl rfl (.inr rfl) rfl ?_
   refine at_end rfl ?_
   exact run_wk (.drop (.drop (.keep (.keep (.drop (.drop (.drop (.keep (.keep (.keep (.drop (.keep (.d16 (.d16 (.d4 (.d4 (.d4 (.drop .nil)))))))))))))))))) (ih _ (by omega) (i + 1) (acc ++ [(k, x)]) rfl (by simp; omega) (by rw [hT]; simp))
  ·skip
   have hge : ls.length ≤ i := by simpa using hc1
   rw [List.drop_of_length_le hge, List.map_nil, List.append_nil] at hT
   subst hT
   refine at_exit rfl rfl ?_
   exact run_wk (.drop (.drop (.keep (.keep (.drop (.drop (.drop (.keep (.keep (.d16 (.d16 (.d16 .nil)))))))))))) hk
set_option maxRecDepth 20000 in
theorem rall_out (m : Md) (hm : MdOK m) (s : Int) (l : List Int) (hc : CfOK m.ns m.np (s :: l)) (T : List Stp) (n : Nat) : ∀ (k : Nat) (acc : List Stp), m.rules.length - k = n → acc.length ≤ k → k ≤ m.rules.length → T = acc ++ stM (m.rules.drop k) k (s :: l) → Run PP (fun env σ1 => ResOK PP Tryz.f14 env σ1 (.tup [.v (vStps T), di 0]) σ0) [.lp (sub cRAll [1, 1, 1, 1, 0, 1, 0, 0]), .blk 0, .code (sub cRAll [1, 1, 1, 1, 1])] (.undef :: .undef :: (.v (.ref (vMd m))) :: (.v (.ref (vCf (s :: l)))) :: .undef :: .undef :: .undef :: (.acc 1 (acc.map vStp)) :: (di ↑k) :: .undef :: .undef :: .undef :: .undef :: .undef :: .undef :: .undef :: .undef :: .undef :: .undef :: .undef :: .undef :: .undef :: .undef :: .undef :: .undef :: .undef :: .undef :: .undef :: .undef :: .undef :: .undef :: .undef :: .undef :: .undef :: .undef :: .undef :: .undef :: .undef :: .undef :: .undef :: .undef :: .undef :: .undef :: .undef :: .undef :: .undef :: .undef :: .undef :: .undef :: .undef :: .undef :: .undef :: .undef :: .undef :: .undef :: .undef :: .undef :: []) ⟨[], [(1, 3, acc.map vStp)]⟩ := by
 induction n using Nat.strongRecOn with
 | _ n ih =>
  intro k acc hn hal hkl hT
  have h3 := hm.k1
  refine run_lp ?_
  refine at_seq [1, 1, 1, 1, 0, 1, 0, 0, 0] [1, 1, 1, 1, 0, 1, 0, 0, 1] rfl ?_
  refine at_seq [1, 1, 1, 1, 0, 1, 0, 0, 0, 0] [1, 1, 1, 1, 0, 1, 0, 0, 0, 1] rfl ?_
  refine at_region rfl ?_
  refine at_m 8 21 rfl rfl rfl (.inl rfl) rfl ?_
  first | (refine at_o 22 rfl rfl rfl rfl (op_fieldP rfl ffld7_api_Model (by decide)) ?_) | (refine at_o 22 rfl rfl rfl rfl (op_fieldR rfl ffld7_api_Model (by decide) (by decide) rfl) ?_)
  first | (refine at_o 23 rfl rfl rfl rfl (op_loadR1 rfl fone_Sapi_Rule rfl) ?_) | (refine at_o 23 rfl rfl rfl rfl (op_loadP1 rfl fone_Sapi_Rule rfl rfl) ?_)
  first | (refine at_o 24 rfl rfl rfl rfl (op_lenL rfl fu_Sapi_Rule) ?_) | (refine at_o 24 rfl rfl rfl rfl (opOK_un (op_lenL rfl fu_Sapi_Rule)) ?_) | (refine at_o 24 rfl rfl rfl rfl (op_lenA rfl fu_Sapi_Rule) ?_)
  simp only [List.length_map]
  refine at_o 25 rfl rfl rfl rfl (op_binI rfl rfl) ?_
  refine at_end rfl ?_
  refine at_cond [1, 1, 1, 1, 0, 1, 0, 0, 0, 1, 0] [1, 1, 1, 1, 0, 1, 0, 0, 0, 1, 1] rfl rfl (fun hc1 => ?_) (fun hc1 => ?_)
  ·skip
   have hlt : k < m.rules.length := by simpa using hc1
   obtain ⟨r, hr⟩ := get_ex hlt
   have hb1 := bhM_le r (s :: l)
   rw [List.drop_eq_getElem_cons hlt, (List.getElem?_eq_some_iff.1 hr).2] at hT
   simp only [stM] at hT
   refine at_skip rfl ?_
   refine at_seq [1, 1, 1, 1, 0, 1, 0, 0, 1, 0] [1, 1, 1, 1, 0, 1, 0, 0, 1, 1] rfl ?_
   refine at_block [1, 1, 1, 1, 0, 1, 0, 0, 1, 0, 0] 1 rfl ?_
   refine at_seq [1, 1, 1, 1, 0, 1, 0, 0, 1, 0, 0, 0] [1, 1, 1, 1, 0, 1, 0, 0, 1, 0, 0, 1] rfl ?_
   refine at_region rfl ?_
   first | (refine at_o 29 rfl rfl rfl rfl (op_loadRA rfl fagg_api_Model) ?_) | (refine at_o 29 rfl rfl rfl rfl (op_loadPA rfl fagg_api_Model rfl (by first | decide | simp) rfl) ?_)
   refine at_m 8 30 rfl rfl rfl (.inl rfl) rfl ?_
   first | (refine at_o 31 rfl rfl rfl rfl (op_loadRA rfl fagg_api_Value) ?_) | (refine at_o 31 rfl rfl rfl rfl (op_loadPA rfl fagg_api_Value rfl (by first | decide | simp) rfl) ?_)
   refine at_o 32 rfl rfl rfl rfl (op_call0 rfl rfl rfl rfl (rap2_spec m hm s l hc k r hr)) ?_
   refine at_m 32 28 rfl rfl rfl (.inl rfl) rfl ?_
   refine at_o 33 rfl rfl rfl rfl (op_extract rfl rfl) ?_
   refine at_o 34 rfl rfl rfl rfl (op_extract rfl rfl) ?_
   refine at_m 33 9 rfl rfl rfl (.inr rfl) rfl ?_
   refine at_m 34 10 rfl rfl rfl (.inr rfl) rfl ?_
   refine at_end rfl ?_
   refine at_seq [1, 1, 1, 1, 0, 1, 0, 0, 1, 0, 0, 1, 0] [1, 1, 1, 1, 0, 1, 0, 0, 1, 0, 0, 1, 1] rfl ?_
   refine at_seq [1, 1, 1, 1, 0, 1, 0, 0, 1, 0, 0, 1, 0, 0] [1, 1, 1, 1, 0, 1, 0, 0, 1, 0, 0, 1, 0, 1] rfl ?_
   refine at_region rfl ?_
   refine at_m 10 35 rfl rfl rfl (.inl rfl) rfl ?_
   refine at_o 36 rfl rfl rfl rfl (op_binI rfl rfl) ?_
   refine at_end rfl ?_
   refine at_cond [1, 1, 1, 1, 0, 1, 0, 0, 1, 0, 0, 1, 0, 1, 0] [1, 1, 1, 1, 0, 1, 0, 0, 1, 0, 0, 1, 0, 1, 1] rfl rfl (fun hc2 => ?_) (fun hc2 => ?_)
   ·skip
    exact absurd hc2 (by simp)
   ·skip
    refine at_skip rfl ?_
    refine at_seq [1, 1, 1, 1, 0, 1, 0, 0, 1, 0, 0, 1, 1, 0] [1, 1, 1, 1, 0, 1, 0, 0, 1, 0, 0, 1, 1, 1] rfl ?_
    refine at_region rfl ?_
    refine at_c 11 rfl rfl rfl (.inr rfl) ?_
    refine at_end rfl ?_
    refine at_block [1, 1, 1, 1, 0, 1, 0, 0, 1, 0, 0, 1, 1, 1, 0] 2 rfl ?_
    refine at_loop [1, 1, 1, 1, 0, 1, 0, 0, 1, 0, 0, 1, 1, 1, 0, 0] rfl ?_
    try simp only [List.length_map, List.length_nil, Int.toNat_natCast]
    refine run_wk (.drop (.drop (.keep (.keep (.drop (.drop (.drop (.keep (.keep (.keep (.drop (.keep (.d16 (.d16 (.d4 (.d4 (.d4 (.drop .nil)))))))))))))))))) (rall_in _ _ m (s :: l) ↑k (bhM r (s :: l)) (by omega) (acc ++ (bhM r (s :: l)).map (fun d => ((k : Int), d))) ?_ _ 0 acc rfl (by omega) (by rw [List.drop_zero]))
    refine run_blk ?_
    refine at_region rfl ?_
    refine at_m 8 26 rfl rfl rfl (.inl rfl) rfl ?_
    refine at_o 27 rfl rfl rfl rfl (op_binI rfl rfl) ?_
    rw [wrap_succ (by omega)]
    refine at_m 27 8 rfl rfl rfl (.inr rfl) rfl ?_
    refine at_end rfl ?_
    exact run_wk (.drop (.drop (.keep (.keep (.drop (.drop (.drop (.keep (.keep (.d16 (.d16 (.d16 .nil)))))))))))) (ih _ (by omega) (k + 1) _ rfl (by simp; omega) (by omega) (by rw [hT]; simp))
  ·skip
   have hge : m.rules.length ≤ k := by simpa using hc1
   rw [List.drop_of_length_le hge] at hT
   simp only [stM, List.append_nil] at hT
   subst hT
   refine at_exit rfl rfl ?_
   refine at_seq [1, 1, 1, 1, 1, 0] [1, 1, 1, 1, 1, 1] rfl ?_
   refine at_seq [1, 1, 1, 1, 1, 0, 0] [1, 1, 1, 1, 1, 0, 1] rfl ?_
   refine at_region rfl ?_
   refine at_m 7 53 rfl rfl rfl (.inl rfl) rfl ?_
   first | (refine at_o 54 rfl rfl rfl rfl (op_lenL rfl fu_Sapi_Step) ?_) | (refine at_o 54 rfl rfl rfl rfl (opOK_un (op_lenL rfl fu_Sapi_Step)) ?_) | (refine at_o 54 rfl rfl rfl rfl (op_lenA rfl fu_Sapi_Step) ?_)
   simp only [List.length_map]
   refine at_o 55 rfl rfl rfl rfl (op_binI rfl rfl) ?_
   refine at_end rfl ?_
   refine at_cond [1, 1, 1, 1, 1, 0, 1, 0] [1, 1, 1, 1, 1, 0, 1, 1] rfl rfl (fun hc3 => ?_) (fun hc3 => ?_)
   ·skip
    exact absurd hc3 (by first | (simp; done) | (simp; omega))
   ·skip
    refine at_skip rfl ?_
    refine at_seq [1, 1, 1, 1, 1, 1, 0] [1, 1, 1, 1, 1, 1, 1] rfl ?_
    refine at_region rfl ?_
    refine at_m 7 56 rfl rfl rfl (.inl rfl) rfl ?_
    refine at_m 56 4 rfl rfl rfl (.inr rfl) rfl ?_
    refine at_c 5 rfl rfl rfl (.inr rfl) ?_
    refine at_end rfl ?_
    refine at_ret rfl (ret_two (t := 4) (t2 := 5) rfl rfl rfl ?_ ?_ rfl rfl)
    all_goals (rfl)
set_option maxRecDepth 20000 in
theorem rall_spec (m : Md) (hm : MdOK m) (s : Int) (l : List Int) (hc : CfOK m.ns m.np (s :: l)) : FSpec PP 14 [.v (vMd m), .v (vCf (s :: l))] σ0 (.tup [.v (vStps (stM m.rules 0 (s :: l))), di 0]) σ0 := by
 have h3 := hm.k1
 have h4 := hm.k0
 refine spec_at cRAll Tryz.func14 rfl (by kernel_rfl) (by first | decide | simp) _ (by dsimp only [Tryz.f14, List.length, Nat.reduceAdd, Nat.reduceSub, List.replicate, List.cons_append, List.nil_append]) ?_
 refine at_seq [0] [1] rfl ?_
 refine at_region rfl ?_
 refine at_o 2 rfl rfl rfl rfl (op_boxI rfl rfl) ?_
 refine at_o 3 rfl rfl rfl rfl (op_boxI rfl rfl) ?_
 refine at_c 4 rfl rfl rfl (.inr rfl) ?_
 refine at_c 5 rfl rfl rfl (.inr rfl) ?_
 refine at_end rfl ?_
 refine at_seq [1, 0] [1, 1] rfl ?_
 refine at_seq [1, 0, 0] [1, 0, 1] rfl ?_
 refine at_region rfl ?_
 first | (refine at_o 12 rfl rfl rfl rfl (op_loadRA rfl fagg_api_Model) ?_) | (refine at_o 12 rfl rfl rfl rfl (op_loadPA rfl fagg_api_Model rfl (by first | decide | simp) rfl) ?_)
 refine at_o 13 rfl rfl rfl rfl (op_call0 rfl rfl rfl rfl (rkind_spec m hm)) ?_
 refine at_m 13 6 rfl rfl rfl (.inr rfl) rfl ?_
 refine at_end rfl ?_
 refine at_seq [1, 0, 1, 0] [1, 0, 1, 1] rfl ?_
 refine at_region rfl ?_
 refine at_m 6 14 rfl rfl rfl (.inl rfl) rfl ?_
 refine at_o 15 rfl rfl rfl rfl (op_binI rfl rfl) ?_
 refine at_end rfl ?_
 refine at_cond [1, 0, 1, 1, 0] [1, 0, 1, 1, 1] rfl rfl (fun hc1 => ?_) (fun hc1 => ?_)
 ·skip
  exact absurd hc1 (by simp)
 ·skip
  refine at_skip rfl ?_
  refine at_seq [1, 1, 0] [1, 1, 1] rfl ?_
  refine at_seq [1, 1, 0, 0] [1, 1, 0, 1] rfl ?_
  refine at_region rfl ?_
  first | (refine at_o 17 rfl rfl rfl rfl (op_loadRA rfl fagg_api_Model) ?_) | (refine at_o 17 rfl rfl rfl rfl (op_loadPA rfl fagg_api_Model rfl (by first | decide | simp) rfl) ?_)
  first | (refine at_o 18 rfl rfl rfl rfl (op_loadRA rfl fagg_api_Value) ?_) | (refine at_o 18 rfl rfl rfl rfl (op_loadPA rfl fagg_api_Value rfl (by first | decide | simp) rfl) ?_)
  refine at_o 19 rfl rfl rfl rfl (op_call0 rfl rfl rfl rfl (mdRValid hm hc)) ?_
  refine at_o 20 rfl rfl rfl rfl (op_un rfl rfl) ?_
  refine at_end rfl ?_
  refine at_cond [1, 1, 0, 1, 0] [1, 1, 0, 1, 1] rfl rfl (fun hc2 => ?_) (fun hc2 => ?_)
  ·skip
   exact absurd hc2 (by simp)
  ·skip
   refine at_skip rfl ?_
   refine at_seq [1, 1, 1, 0] [1, 1, 1, 1] rfl ?_
   refine at_region rfl ?_
   refine at_opS (some 7) rfl rfl rfl rfl (op_nilOwn (.inl rfl) 1 3 (by simp) (by decide)) (by dsimp only [putD, List.set]) (by dsimp only [List.set, List.append, List.cons_append, List.nil_append, cellsD, List.map, repl, List.length, Nat.reduceAdd, if_true, ↓reduceIte]; first | done | rfl) ?_
   refine at_end rfl ?_
   refine at_seq [1, 1, 1, 1, 0] [1, 1, 1, 1, 1] rfl ?_
   refine at_seq [1, 1, 1, 1, 0, 0] [1, 1, 1, 1, 0, 1] rfl ?_
   refine at_region rfl ?_
   refine at_c 8 rfl rfl rfl (.inr rfl) ?_
   refine at_end rfl ?_
   refine at_block [1, 1, 1, 1, 0, 1, 0] 0 rfl ?_
   refine at_loop [1, 1, 1, 1, 0, 1, 0, 0] rfl ?_
   try simp only [List.length_map, List.length_nil, Int.toNat_natCast]
   refine run_lp ?_
   refine at_seq [1, 1, 1, 1, 0, 1, 0, 0, 0] [1, 1, 1, 1, 0, 1, 0, 0, 1] rfl ?_
   refine at_seq [1, 1, 1, 1, 0, 1, 0, 0, 0, 0] [1, 1, 1, 1, 0, 1, 0, 0, 0, 1] rfl ?_
   refine at_region rfl ?_
   refine at_m 8 21 rfl rfl rfl (.inl rfl) rfl ?_
   first | (refine at_o 22 rfl rfl rfl rfl (op_fieldP rfl ffld7_api_Model (by decide)) ?_) | (refine at_o 22 rfl rfl rfl rfl (op_fieldR rfl ffld7_api_Model (by decide) (by decide) rfl) ?_)
   first | (refine at_o 23 rfl rfl rfl rfl (op_loadR1 rfl fone_Sapi_Rule rfl) ?_) | (refine at_o 23 rfl rfl rfl rfl (op_loadP1 rfl fone_Sapi_Rule rfl rfl) ?_)
   first | (refine at_o 24 rfl rfl rfl rfl (op_lenL rfl fu_Sapi_Rule) ?_) | (refine at_o 24 rfl rfl rfl rfl (opOK_un (op_lenL rfl fu_Sapi_Rule)) ?_) | (refine at_o 24 rfl rfl rfl rfl (op_lenA rfl fu_Sapi_Rule) ?_)
   simp only [List.length_map]
   refine at_o 25 rfl rfl rfl rfl (op_binI rfl rfl) ?_
   refine at_end rfl ?_
   refine at_cond [1, 1, 1, 1, 0, 1, 0, 0, 0, 1, 0] [1, 1, 1, 1, 0, 1, 0, 0, 0, 1, 1] rfl rfl (fun hc3 => ?_) (fun hc3 => ?_)
   ·skip
    refine at_skip rfl ?_
    refine at_seq [1, 1, 1, 1, 0, 1, 0, 0, 1, 0] [1, 1, 1, 1, 0, 1, 0, 0, 1, 1] rfl ?_
    refine at_block [1, 1, 1, 1, 0, 1, 0, 0, 1, 0, 0] 1 rfl ?_
    refine at_seq [1, 1, 1, 1, 0, 1, 0, 0, 1, 0, 0, 0] [1, 1, 1, 1, 0, 1, 0, 0, 1, 0, 0, 1] rfl ?_
    refine at_region rfl ?_
    first | (refine at_o 29 rfl rfl rfl rfl (op_loadRA rfl fagg_api_Model) ?_) | (refine at_o 29 rfl rfl rfl rfl (op_loadPA rfl fagg_api_Model rfl (by first | decide | simp) rfl) ?_)
    refine at_m 8 30 rfl rfl rfl (.inl rfl) rfl ?_
    first | (refine at_o 31 rfl rfl rfl rfl (op_loadRA rfl fagg_api_Value) ?_) | (refine at_o 31 rfl rfl rfl rfl (op_loadPA rfl fagg_api_Value rfl (by first | decide | simp) rfl) ?_)
    refine at_o 32 rfl rfl rfl rfl (op_call0 rfl rfl rfl rfl (rap2_q m hm s l hc)) ?_
    refine at_m 32 28 rfl rfl rfl (.inl rfl) rfl ?_
    refine at_o 33 rfl rfl rfl rfl (op_extract rfl rfl) ?_
    refine at_o 34 rfl rfl rfl rfl (op_extract rfl rfl) ?_
    refine at_m 33 9 rfl rfl rfl (.inr rfl) rfl ?_
    refine at_m 34 10 rfl rfl rfl (.inr rfl) rfl ?_
    refine at_end rfl ?_
    refine at_seq [1, 1, 1, 1, 0, 1, 0, 0, 1, 0, 0, 1, 0] [1, 1, 1, 1, 0, 1, 0, 0, 1, 0, 0, 1, 1] rfl ?_
    refine at_seq [1, 1, 1, 1, 0, 1, 0, 0, 1, 0, 0, 1, 0, 0] [1, 1, 1, 1, 0, 1, 0, 0, 1, 0, 0, 1, 0, 1] rfl ?_
    refine at_region rfl ?_
    refine at_m 10 35 rfl rfl rfl (.inl rfl) rfl ?_
    refine at_o 36 rfl rfl rfl rfl (op_binI rfl rfl) ?_
    refine at_end rfl ?_
    refine at_cond [1, 1, 1, 1, 0, 1, 0, 0, 1, 0, 0, 1, 0, 1, 0] [1, 1, 1, 1, 0, 1, 0, 0, 1, 0, 0, 1, 0, 1, 1] rfl rfl (fun hc4 => ?_) (fun hc4 => ?_)
    ·skip
     exact absurd hc4 (by simp)
    ·skip
     refine at_skip rfl ?_
     refine at_seq [1, 1, 1, 1, 0, 1, 0, 0, 1, 0, 0, 1, 1, 0] [1, 1, 1, 1, 0, 1, 0, 0, 1, 0, 0, 1, 1, 1] rfl ?_
     refine at_region rfl ?_
     refine at_c 11 rfl rfl rfl (.inr rfl) ?_
     refine at_end rfl ?_
     refine at_block [1, 1, 1, 1, 0, 1, 0, 0, 1, 0, 0, 1, 1, 1, 0] 2 rfl ?_
     refine at_loop [1, 1, 1, 1, 0, 1, 0, 0, 1, 0, 0, 1, 1, 1, 0, 0] rfl ?_
     try simp only [List.length_map, List.length_nil, Int.toNat_natCast]
     refine run_lp ?_
     refine at_seq [1, 1, 1, 1, 0, 1, 0, 0, 1, 0, 0, 1, 1, 1, 0, 0, 0] [1, 1, 1, 1, 0, 1, 0, 0, 1, 0, 0, 1, 1, 1, 0, 0, 1] rfl ?_
     refine at_seq [1, 1, 1, 1, 0, 1, 0, 0, 1, 0, 0, 1, 1, 1, 0, 0, 0, 0] [1, 1, 1, 1, 0, 1, 0, 0, 1, 0, 0, 1, 1, 1, 0, 0, 0, 1] rfl ?_
     refine at_region rfl ?_
     refine at_m 11 38 rfl rfl rfl (.inl rfl) rfl ?_
     refine at_m 9 39 rfl rfl rfl (.inl rfl) rfl ?_
     first | (refine at_o 40 rfl rfl rfl rfl (op_lenL rfl fu_Sapi_Value) ?_) | (refine at_o 40 rfl rfl rfl rfl (opOK_un (op_lenL rfl fu_Sapi_Value)) ?_) | (refine at_o 40 rfl rfl rfl rfl (op_lenA rfl fu_Sapi_Value) ?_)
     refine at_o 41 rfl rfl rfl rfl (op_binI rfl rfl) ?_
     refine at_end rfl ?_
     refine at_cond [1, 1, 1, 1, 0, 1, 0, 0, 1, 0, 0, 1, 1, 1, 0, 0, 0, 1, 0] [1, 1, 1, 1, 0, 1, 0, 0, 1, 0, 0, 1, 1, 1, 0, 0, 0, 1, 1] rfl rfl (fun hc5 => ?_) (fun hc5 => ?_)
     ·skip
      exact absurd hc5 (by simp)
     ·skip
      refine at_exit rfl rfl ?_
      refine run_blk ?_
      refine at_region rfl ?_
      refine at_m 8 26 rfl rfl rfl (.inl rfl) rfl ?_
      refine at_o 27 rfl rfl rfl rfl (op_binI rfl rfl) ?_
      rw [show IntKind.i64.wrap (-1 + 1) = ((0 : Nat) : Int) from by rw [wrap_id (by omega) (by omega)]; rfl]
      refine at_m 27 8 rfl rfl rfl (.inr rfl) rfl ?_
      refine at_end rfl ?_
      exact run_wk (.drop (.drop (.keep (.keep (.drop (.drop (.drop (.keep (.keep (.d16 (.d16 (.d16 .nil)))))))))))) (rall_out m hm s l hc _ _ 0 [] rfl (by simp) (by omega) (by simp))
   ·skip
    exact absurd hc3 (by first | (simp; done) | (simp; omega))
end Go.Proofs.YtmdipbhjhkckjaaGreat
