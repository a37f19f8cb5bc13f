/-
  A reckoned walk: what a function's code asks for, as one proposition that the kernel works out. Scripts, slots, what operations on data ask for. No program is named here.
-/
import Derived.Test.YtaceggcohmmfhaaDc
import Derived.Lib.AppendZeros
namespace Go.Nv
open Go.Dv

abbrev vi (n : Int) : V := .int .i64 n
abbrev di (n : Int) : D := .v (.int .i64 n)
abbrev db (b : Bool) : D := .v (.bool b)
abbrev vb (c : UInt8) : V := .int .u8 c.toNat
abbrev ds (s : List UInt8) : D := .v (.str s)
abbrev nV : List V := []
/- SCRIPTS: what the walk is told, in the order in which it needs it -/
inductive Hint where
  | x (v : V)                                  -- the element of a list
  | xs (v : V)                                 -- the same, of a size to be shown
  | y (c : UInt8)                              -- a byte of a string
  | c (d : D)                                  -- what a call returns (data)
  | ca (xs : List V) (d : D)                   -- the same; the arguments as the contract has them
  | c1 (os : List D) (d : D)                   -- a call that is handed one object: its cells behind
  | c1k (k k' sz : Nat) (os : List D) (xs : List V)  -- the same; it returns an owned list
  | ck (k k' sz : Nat) (xs : List V)           -- a call that returns an owned list
  | ckn (k k' sz : Nat) (xs : List V)          -- the same, handed nil
  | k                                          -- a truth value that is known
  | t
  | f
  | l (sl : List (Nat × Option D)) (σ : Option St)   -- a loop's head: what is known there
  | lo (sl : List (Nat × Option D)) (σ : St)   -- the same, with open cells
  | n                                          -- into a loop
  | m (d : D)                                  -- a cell
  | w                                          -- a write to an open place
  | ww                                         -- the same, of a struct
  | cs (σ : St)                                -- the state, seen otherwise
  | ct (t : Nat) (d : D) (σ : St)              -- a slot and the state, seen otherwise
  | oc (d : D) (σ : St)                        -- any call
  | gx (cs : List D) (H : List (Option (List D)))  -- a growing list is appended to, in a state that is not known whole
  | o (d : D) (σ : St)                         -- any operation
  | p (d : D)                                  -- any operation that leaves the state as it is
  | g                                          -- an empty literal that grows
  | ga (s : Nat)                               -- a list that grew, as an array
  | cj (j : Nat) (H : List (Option (List D))) (os : List D) (len : Nat)   -- a call that returns a new array
  | un (s : Nat)                               -- a slot's list is appended to no longer
  | dr (k : Nat)                               -- a list's right to be appended to is given up
  | fa (q : Nat) (ss : List Nat)               -- a struct or array becomes data, seen from some slots
  | f1 (q : Nat) (ss : List Nat)               -- a variable of one cell becomes data
  | fl (q s : Nat) (xs : List V)               -- a list of one-cell elements becomes data
  | q (r i : Nat)                              -- nothing before operation i of region r
  | cl (q j k sz : Nat)                        -- a cell's nil may be appended to
  | nw (s k sz : Nat)                          -- a slot's nil may be appended to
  | a (k : Nat)                                -- a list that is made may be appended to
  | s (sl : List (Nat × Option D))             -- the walk stops ahead of an operation
  | r
  | rn
  | ro
  | rd                                         -- a return of structs with lists of their own
inductive Sc : Type 1 where
  | z
  | e {A : Type} (f : A → Sc)
  | b (s t : Sc)
  | h (i : Hint) (s : Sc)
namespace Sc
abbrev x (v : V) (s : Sc) : Sc := .h (.x v) s
abbrev y (c : UInt8) (s : Sc) : Sc := .h (.y c) s
abbrev c (d : D) (s : Sc) : Sc := .h (.c d) s
abbrev ca (xs : List V) (d : D) (s : Sc) : Sc := .h (.ca xs d) s
abbrev c1 (os : List D) (d : D) (s : Sc) : Sc := .h (.c1 os d) s
abbrev k (s : Sc) : Sc := .h .k s
abbrev t (s : Sc) : Sc := .h .t s
abbrev f (s : Sc) : Sc := .h .f s
abbrev a (k : Nat) (s : Sc) : Sc := .h (.a k) s
abbrev n (s : Sc) : Sc := .h .n s
abbrev m (d : D) (s : Sc) : Sc := .h (.m d) s
abbrev w (s : Sc) : Sc := .h .w s
abbrev q (r i : Nat) (h : Hint) (s : Sc) : Sc := .h (.q r i) (.h h s)
abbrev r : Sc := .h .r .z
abbrev rn : Sc := .h .rn .z
abbrev ro : Sc := .h .ro .z
abbrev rd : Sc := .h .rd .z
abbrev lo (sl : List (Nat × Option D)) (σ : St) : Sc := .h (.lo sl σ) .z
abbrev l (sl : List (Nat × Option D)) : Sc := .h (.l sl none) .z
abbrev ls (sl : List (Nat × Option D)) (σ : St) : Sc := .h (.l sl (some σ)) .z
end Sc

/- LISTS, FORCED -/
noncomputable def forceK {α β : Type} (l : List α) (k : List α → β) : β :=
  List.rec (motive := fun _ => (List α → β) → β) (fun k => k []) (fun a _ ih k => ih fun r => k (a :: r)) l k
theorem forceK_eq {α β : Type} : ∀ (l : List α) (k : List α → β), forceK l k = k l
  | [], _ => rfl
  | a :: l, k => by
    have h : forceK (a :: l) k = forceK l fun r => k (a :: r) := rfl
    rw [h, forceK_eq l]
noncomputable def setK {α β : Type} (l : List α) (i : Nat) (x : α) (k : List α → β) : β :=
  List.rec (motive := fun _ => Nat → (List α → β) → β) (fun _ k => k []) (fun a as ih i k => Nat.rec (motive := fun _ => β) (k (x :: as)) (fun j _ => ih j fun r => k (a :: r)) i) l i k
theorem setK_eq {α β : Type} (x : α) : ∀ (l : List α) (i : Nat) (k : List α → β), setK l i x k = k (l.set i x)
  | [], _, _ => rfl
  | a :: l, 0, k => rfl
  | a :: l, i + 1, k => by
    have h : setK (a :: l) (i + 1) x k = setK l i x fun r => k (a :: r) := rfl
    rw [h, setK_eq x l]; rfl
noncomputable def putK {β : Type} (env : List D) (t : Option Tmp) (d : D) (k : List D → β) : β := match t with
  | some t => setK env t d k
  | none => k env
theorem putK_eq {β : Type} (env : List D) (t : Option Tmp) (d : D) (k : List D → β) : putK env t d k = k (putD env t d) := by
  cases t with
  | none => rfl
  | some t => exact setK_eq d env t k
noncomputable def snocK {α β : Type} (l : List α) (x : α) (k : List α → β) : β :=
  List.rec (motive := fun _ => (List α → β) → β) (fun k => k [x]) (fun a _ ih k => ih fun r => k (a :: r)) l k
theorem snocK_eq {α β : Type} (x : α) : ∀ (l : List α) (k : List α → β), snocK l x k = k (l ++ [x])
  | [], _ => rfl
  | a :: l, k => by
    have h : snocK (a :: l) x k = snocK l x fun r => k (a :: r) := rfl
    rw [h, snocK_eq x l]; rfl

/-- slots by number -/
noncomputable def mkE (n : Nat) (L : List (Nat × D)) : List D := L.foldl (fun e p => e.set p.1 p.2) (List.replicate n .undef)

/- OPERANDS -/
def nilC : Value → D
  | .slice none 0 0 => .v .nils
  | u => constD u
noncomputable def evN (env : List D) : Operand → D
  | .tmp t => env.getD t .undef
  | .const u => nilC u
  | .global n => globD n
  | .func f => .v (.fn f [] [])
theorem nilC_sub {g : Gh} {u : Value} : repD g (nilC u) u := by
  unfold nilC
  split
  · simp [repD]
  · exact repD_const g u
theorem repD_evN {g : Gh} {env : List D} {a : Act} (hG : GlobOK g.M) (h : repDs g env a.tmps.toList) (x : Operand) : repD g (evN env x) (a.eval x) := by
  cases x with
  | tmp t => exact repD_tmp h t
  | const u => exact nilC_sub
  | global n => exact repD_ev hG h (.global n)
  | func f => exact repD_ev hG h (.func f)
theorem repDs_evN {g : Gh} {env : List D} {a : Act} (hG : GlobOK g.M) (h : repDs g env a.tmps.toList) : ∀ (l : List Operand), repDs g (l.map (evN env)) (l.map a.eval)
  | [] => by simp [repDs]
  | x :: l => by simp only [List.map_cons, repDs]; exact ⟨_, _, rfl, repD_evN hG h x, repDs_evN hG h l⟩

/- WHAT OPERATIONS ON DATA ASK FOR: `K` is asked of the outcome -/
def kq (a b : IntKind) : Bool := decide (a = b)
noncomputable def vBin (P : Program) (op : BinOp) (t : TypeId) (x y : V) (K : V → Prop) : Prop :=
  match x, y with
  | .int kd a, .int kd' b =>
    match op with
    | .quo => cond (kq kd kd') (b ≠ 0 ∧ K (.int kd (kd.wrap (a.tdiv b)))) False
    | .rem => cond (kq kd kd') (b ≠ 0 ∧ K (.int kd (a.tmod b))) False
    | .shl => 0 ≤ b ∧ K (.int kd (kd.wrap (a * 2 ^ (min b.toNat kd.bits))))
    | .shr => 0 ≤ b ∧ K (.int kd (a.fdiv (2 ^ (min b.toNat kd.bits))))
    | op => cond (kq kd kd') (match binI op kd a b with | some z => K z | none => False) False
  | .str a, .str b =>
    match op with
    | .add => a.length + b.length ≤ 9223372036854775807 ∧ K (.str (a ++ b))
    | op => match binS op a b with | some z => K z | none => False
  | .bool a, .bool b => match P.underlying t with
    | some .bool => match op with
      | .eql => K (.bool (a == b))
      | .neq => K (.bool (a != b))
      | _ => False
    | _ => False
  | _, _ => False
theorem cond_iff {b : Bool} {x : Prop} (h : cond b x False) : b = true ∧ x := by cases b <;> simp_all
theorem vBin_ok {P : Program} {op : BinOp} {t ty : TypeId} {x y : V} {K : V → Prop} (h : vBin P op t x y K) {o : Oper} {a b : Operand} (ho : o.op = .binOp op t a b ty) :
    ∃ z, K z ∧ ∀ σ, OpOK P o [.v x, .v y] σ (.v z) σ := by
  unfold vBin at h
  split at h
  · rename_i kd a kd' b
    split at h
    · obtain ⟨e, hb, h'⟩ := cond_iff h
      have e := of_decide_eq_true e; subst e
      exact ⟨_, h', fun σ => op_quoI ho rfl hb⟩
    · obtain ⟨e, hb, h'⟩ := cond_iff h
      have e := of_decide_eq_true e; subst e
      exact ⟨_, h', fun σ => op_quoI ho rfl hb⟩
    · exact ⟨_, h.2, fun σ => op_shI ho rfl h.1⟩
    · exact ⟨_, h.2, fun σ => op_shI ho rfl h.1⟩
    · obtain ⟨e, h'⟩ := cond_iff h
      have e := of_decide_eq_true e; subst e
      split at h'
      · rename_i z hz; exact ⟨z, h', fun σ => op_binI ho hz⟩
      · exact h'.elim
  · split at h
    · exact ⟨_, h.2, fun σ => op_concat ho h.1⟩
    · split at h
      · rename_i z hz; exact ⟨z, h, fun σ => op_binS ho hz⟩
      · exact h.elim
  · rename_i a b
    split at h
    · rename_i hu
      split at h
      · exact ⟨_, h, fun σ => by have := op_eqlB (P := P) (σ := σ) ho hu (a := a) (b := b) (.inl rfl); simpa using this⟩
      · exact ⟨_, h, fun σ => by have := op_eqlB (P := P) (σ := σ) ho hu (a := a) (b := b) (.inr rfl); simpa using this⟩
      · exact h.elim
    · exact h.elim
  · exact h.elim

noncomputable def toVsN : List D → Option (List V)
  | [] => some []
  | .v x :: ds => match toVsN ds with
    | some xs => some (x :: xs)
    | none => none
  | .acc _ xs :: ds => match toVsN ds with
    | some ys => some (.list xs :: ys)
    | none => none
  | _ :: _ => none
theorem toVsN_eq : ∀ {ds : List D} {xs : List V}, toVsN ds = some xs → toVs ds = some xs
  | [], xs, h => by simpa [toVsN, toVs] using h
  | d :: ds, xs, h => by
    cases d <;> simp only [toVsN] at h <;> first | (split at h <;> first | (rename_i h1; simp at h; subst h; simp [toVs, D.toV, toVsN_eq h1]) | simp at h) | simp at h
noncomputable def zipN : List (Nat × Operand) → List D → Option (List (Nat × V))
  | [], [] => some []
  | p :: ps, .v x :: ds => match zipN ps ds with
    | some xs => some ((p.1, x) :: xs)
    | none => none
  | p :: ps, .acc _ l :: ds => match zipN ps ds with
    | some xs => some ((p.1, .list l) :: xs)
    | none => none
  | _, _ => none
theorem zipN_eq : ∀ {ps : List (Nat × Operand)} {ds : List D} {xs : List (Nat × V)}, zipN ps ds = some xs → zipParts ps ds = some xs
  | [], [], xs, h => by simpa [zipN, zipParts] using h
  | [], _ :: _, xs, h => by simp [zipN] at h
  | _ :: _, [], xs, h => by simp [zipN] at h
  | p :: ps, d :: ds, xs, h => by
    obtain ⟨i, q⟩ := p
    cases d <;> simp only [zipN] at h <;> first | (split at h <;> first | (rename_i h1; simp at h; subst h; simp [zipParts, D.toV, zipN_eq h1]) | simp at h) | simp at h
/-- are the parts numbered in a row? -/
def rowQ : List (Nat × Operand) → Nat → Bool
  | [], _ => true
  | p :: ps, i => Nat.beq p.1 i && rowQ ps (Nat.succ i)
theorem rowQ_ok : ∀ {ps : List (Nat × Operand)} {i : Nat}, rowQ ps i = true → ps = ((ps.map (·.2)).zipIdx i).map fun x => (x.2, x.1)
  | [], i, _ => rfl
  | p :: ps, i, h => by
    simp only [rowQ, Bool.and_eq_true] at h
    have h1 := Nat.eq_of_beq_eq_true h.1
    simp only [List.map_cons, List.zipIdx_cons]
    rw [← rowQ_ok h.2]
    cases p; simp_all
noncomputable def allSz (sz : Nat) (xs : List V) : Bool := xs.all fun x => Nat.beq x.size sz
theorem allSz_ok {sz : Nat} {xs : List V} (h : allSz sz xs = true) : ∀ x ∈ xs, x.size = sz := fun x hx => Nat.eq_of_beq_eq_true (List.all_eq_true.1 h x hx)

/-- a part of a struct or array, asked for -/
noncomputable def vPart (cs : List V) (fo n : Nat) (b : Bool) (K : V → Prop) : Prop := match b with
  | true => cond (Nat.ble (fo + n) cs.length) (K (.agg ((cs.drop fo).take n))) False
  | false => match cs[fo]? with
    | some y => K y
    | none => False
theorem vPart_ok {cs : List V} {fo n : Nat} {b : Bool} {K : V → Prop} (h : vPart cs fo n b K) : ∃ y, K y ∧ partV cs fo n b = some y := by
  unfold vPart at h
  split at h
  · obtain ⟨h1, h2⟩ := cond_iff h
    refine ⟨_, h2, ?_⟩
    simp [partV, Nat.le_of_ble_eq_true h1]
  · split at h
    · rename_i y hy; exact ⟨y, h, by simp [partV, hy]⟩
    · exact h.elim
noncomputable def vFld (P : Program) (s : TypeId) (f : Nat) (cs : List V) (K : V → Prop) : Prop := match fldTy P s f with
  | some (fo, 1, false) => vPart cs fo 1 false K
  | some (fo, n + 1, true) => vPart cs fo (n + 1) true K
  | _ => False
noncomputable def vIdx (P : Program) (t : TypeId) (cs : List V) (i : Int) (K : V → Prop) : Prop := match arTy P t with
  | some (len, 1, false) => 0 ≤ i ∧ i < len ∧ vPart cs (i.toNat * 1) 1 false K
  | some (len, n, true) => 0 ≤ i ∧ i < len ∧ vPart cs (i.toNat * n) n true K
  | _ => False
theorem vIdx_ok {P : Program} {t : TypeId} {cs : List V} {i : Int} {K : V → Prop} (h : vIdx P t cs i K) :
    ∃ y len sz b, K y ∧ arTy P t = some (len, sz, b) ∧ (b = false → sz = 1) ∧ 0 ≤ i ∧ i < len ∧ partV cs (i.toNat * sz) sz b = some y := by
  unfold vIdx at h
  split at h
  · rename_i len ht
    obtain ⟨y, h3, h4⟩ := vPart_ok h.2.2
    exact ⟨y, len, 1, false, h3, ht, fun _ => rfl, h.1, h.2.1, h4⟩
  · rename_i len n ht
    obtain ⟨y, h3, h4⟩ := vPart_ok h.2.2
    exact ⟨y, len, n, true, h3, ht, fun h => by simp at h, h.1, h.2.1, h4⟩
  · exact h.elim
/-- a part of a list or string -/
noncomputable def vSl (n : Nat) (l h : Option Int) (K : Nat → Nat → Prop) : Prop := match l, h with
  | none, none => K 0 n
  | some l, none => 0 ≤ l ∧ l ≤ n ∧ K l.toNat n
  | none, some h => 0 ≤ h ∧ h ≤ n ∧ K 0 h.toNat
  | some l, some h => 0 ≤ l ∧ l ≤ h ∧ h ≤ n ∧ K l.toNat h.toNat
theorem vSl_ok {n : Nat} {l h : Option Int} {K : Nat → Nat → Prop} (hh : vSl n l h K) : ∃ a b, K a b ∧ sliceI n l h = some (a, b) := by
  unfold vSl at hh
  split at hh
  · exact ⟨_, _, hh, by simp [sliceI]⟩
  · exact ⟨_, _, hh.2.2, by simp only [sliceI, Option.getD]; rw [if_pos (by omega)]; simp⟩
  · exact ⟨_, _, hh.2.2, by simp only [sliceI, Option.getD]; rw [if_pos (by omega)]; simp⟩
  · exact ⟨_, _, hh.2.2.2, by simp only [sliceI, Option.getD]; rw [if_pos (by omega)]⟩
end Go.Nv

namespace Go.Nv
open Go.Dv

/-- what such an operation does -/
def PureOK (P : Program) (o : Oper) (ds : List D) (K : Sc → D → Prop) : Prop := ∃ s d, K s d ∧ ∀ σ, OpOK P o ds σ d σ
theorem PureOK.v {P : Program} {o : Oper} {ds : List D} {K : Sc → D → Prop} {s : Sc} {z : V} (hk : K s (.v z)) (h : ∀ σ, OpOK P o ds σ (.v z) σ) : PureOK P o ds K := ⟨s, _, hk, h⟩

def isNil : Operand → Bool
  | .const (.slice none 0 0) => true
  | _ => false
theorem isNil_eq {x : Operand} (h : isNil x = true) : x = .const (.slice none 0 0) := by
  unfold isNil at h
  split at h
  · rfl
  · simp at h
/-- compared with nil -/
noncomputable def vNil (P : Program) (op : BinOp) (t : TypeId) (b : Operand) (x : V) (K : V → Prop) : Prop := cond (isNil b) (match P.underlying t with
  | some (.slice _) => match op, x with
    | .eql, .list xs => xs ≠ [] ∧ K (.bool false)
    | .neq, .list xs => xs ≠ [] ∧ K (.bool true)
    | .eql, .nils => K (.bool true)
    | .neq, .nils => K (.bool false)
    | _, _ => False
  | _ => False) False
theorem op_nilV {P : Program} {o : Oper} {op : BinOp} {t ty e : TypeId} {a : Operand} (ho : o.op = .binOp op t a (.const (.slice none 0 0)) ty) (hu : P.underlying t = some (.slice e)) (hop : op = .eql ∨ op = .neq) {x : V} {isn : Bool}
    (hx : ∀ M u, repV M x u → ∃ ad len cap, u = .slice ad len cap ∧ ad.isNone = isn) (σ : St) : OpOK P o [.v x, .v .nils] σ (.v (.bool (if op = .eql then isn else !isn))) σ := by
  intro E g ac w K Q hw hds hK
  simp only [ho, Op.operands] at hds
  obtain ⟨u, v, eq, h1, h2⟩ := repDs_two.1 hds
  simp only [List.map_cons, List.map_nil, List.cons.injEq, and_true] at eq
  simp only [repD] at h1
  obtain ⟨ad, len, cap, rfl, rfl⟩ := hx _ _ h1
  have hrun := run_eqNil (P := P) ho hu hop ac.eval w eq.1 rfl
  have := hK g w (.bool (if op = .eql then ad.isNone else !ad.isNone)) hw g.le_refl (by simp [repD])
  unfold Oper.wp
  rw [hrun]
  exact this
theorem nil_list {xs : List V} (hx : xs ≠ []) (M : Mem) (u : Value) (h : repV M (.list xs) u) : ∃ ad len cap, u = .slice ad len cap ∧ ad.isNone = false := by
  obtain ⟨ad, cap, rfl, _, hor⟩ := repV_list.1 h
  rcases hor with h | ⟨b, off, sz, us, rfl, _⟩
  · exact absurd h hx
  · exact ⟨_, _, _, rfl, rfl⟩
theorem nil_nils (M : Mem) (u : Value) (h : repV M .nils u) : ∃ ad len cap, u = .slice ad len cap ∧ ad.isNone = true := by
  rw [repV_nils] at h; exact ⟨_, _, _, h, rfl⟩
theorem vNil_ok {P : Program} {op : BinOp} {t ty : TypeId} {x : V} {a b : Operand} {K : V → Prop} (h : vNil P op t b x K) {o : Oper} (ho : o.op = .binOp op t a b ty) : ∃ z, K z ∧ ∀ σ, OpOK P o [.v x, .v .nils] σ (.v z) σ := by
  unfold vNil at h
  obtain ⟨h1, h2⟩ := cond_iff h
  have hb := isNil_eq h1; subst hb
  split at h2
  · rename_i e hu
    split at h2
    · exact ⟨_, h2.2, fun σ => op_nilV ho hu (.inl rfl) (nil_list h2.1) σ⟩
    · exact ⟨_, h2.2, fun σ => op_nilV ho hu (.inr rfl) (nil_list h2.1) σ⟩
    · exact ⟨_, h2, fun σ => op_nilV ho hu (.inl rfl) nil_nils σ⟩
    · exact ⟨_, h2, fun σ => op_nilV ho hu (.inr rfl) nil_nils σ⟩
    · exact h2.elim
  · exact h2.elim

/-- a list of which it is known whether it is nil -/
noncomputable def vNot (P : Program) (op : BinOp) (t : TypeId) (b : Operand) (isn : Bool) (K : V → Prop) : Prop := cond (isNil b) (match P.underlying t with
  | some (.slice _) => (match op with
    | .eql => K (.bool isn)
    | .neq => K (.bool !isn)
    | _ => False)
  | _ => False) False
theorem vNot_ok {P : Program} {op : BinOp} {t ty : TypeId} {y : V} {ad : Option Addr} {len cap : Nat} {a b : Operand} {K : V → Prop} (h : vNot P op t b ad.isNone K) {o : Oper} (ho : o.op = .binOp op t a b ty) : ∃ z, K z ∧ ∀ σ, OpOK P o [.rv y (.slice ad len cap), .v .nils] σ (.v z) σ := by
  unfold vNot at h
  obtain ⟨h1, h2⟩ := cond_iff h
  have hb := isNil_eq h1; subst hb
  have main : ∀ {e : TypeId}, P.underlying t = some (.slice e) → op = .eql ∨ op = .neq → ∀ σ, OpOK P o [.rv y (.slice ad len cap), .v .nils] σ (.v (.bool (if op = .eql then ad.isNone else !ad.isNone))) σ := by
    intro e hu hop σ E g ac w K Q hw hds hK
    simp only [ho, Op.operands] at hds
    obtain ⟨u, v, eq, h1, h2⟩ := repDs_two.1 hds
    simp only [List.map_cons, List.map_nil, List.cons.injEq, and_true] at eq
    simp only [repD] at h1
    obtain ⟨rfl, _⟩ := h1
    have hrun := run_eqNil (P := P) ho hu hop ac.eval w eq.1 rfl
    have := hK g w (.bool (if op = .eql then ad.isNone else !ad.isNone)) hw g.le_refl (by simp [repD])
    unfold Oper.wp
    rw [hrun]
    exact this
  split at h2
  · rename_i e hu
    split at h2
    · exact ⟨_, h2, fun σ => main hu (.inl rfl) σ⟩
    · exact ⟨_, h2, fun σ => main hu (.inr rfl) σ⟩
    · exact h2.elim
  · exact h2.elim
/-- nil and owned lists, seen as lists -/
noncomputable def toVsC : List D → Option (List V)
  | [] => some []
  | .v .nils :: ds => match toVsC ds with
    | some xs => some (.list [] :: xs)
    | none => none
  | .v x :: ds => match toVsC ds with
    | some xs => some (x :: xs)
    | none => none
  | .acc _ xs :: ds => match toVsC ds with
    | some ys => some (.list xs :: ys)
    | none => none
  | _ :: _ => none
theorem see_nilsD {g : Gh} {u : Value} (h : repD g (.v .nils) u) : repD g (.v (.list [])) u := by
  simp only [repD, repV_nils] at h ⊢
  subst h; exact repV_nil _
theorem toVsC_rep {g : Gh} : ∀ {ds : List D} {xs : List V} {us : List Value}, toVsC ds = some xs → repDs g ds us → repDs g (xs.map .v) us
  | [], xs, us, h, hr => by simp [toVsC] at h; subst h; simpa using hr
  | d :: ds, xs, us, h, hr => by
    simp only [repDs] at hr
    obtain ⟨u, us', rfl, h1, h2⟩ := hr
    unfold toVsC at h
    split at h
    · rename_i e; simp at e
    · rename_i ds' e; simp only [List.cons.injEq] at e; obtain ⟨rfl, rfl⟩ := e
      split at h
      · rename_i ys hy; simp at h; subst h
        simp only [List.map_cons, repDs]; exact ⟨_, _, rfl, see_nilsD h1, toVsC_rep hy h2⟩
      · simp at h
    · rename_i x ds' e; simp only [List.cons.injEq] at e; obtain ⟨rfl, rfl⟩ := e
      split at h
      · rename_i ys hy; simp at h; subst h
        simp only [List.map_cons, repDs]; exact ⟨_, _, rfl, h1, toVsC_rep hy h2⟩
      · simp at h
    · rename_i k l ds' e; simp only [List.cons.injEq] at e; obtain ⟨rfl, rfl⟩ := e
      split at h
      · rename_i ys hy; simp at h; subst h
        simp only [List.map_cons, repDs]; exact ⟨_, _, rfl, repD_un h1, toVsC_rep hy h2⟩
      · simp at h
    · simp at h
theorem toVsN_rep {g : Gh} {ds : List D} {xs : List V} {us : List Value} (h : toVsN ds = some xs) (hr : repDs g ds us) : repDs g (xs.map .v) us :=
  repDs_of_L (repL_of (toVsN_eq h) hr)

/-- a call with data, with a contract -/
noncomputable def vCall (P : Program) (f : FuncId) (fs cs : List V) (ds : List D) (s : Sc) (K : Sc → D → Prop) : Prop := match s with
  | .h (.c d) s => cond d.pl (match toVsC ds with
    | some xs => FSpec P f ((fs ++ xs ++ cs).map .v) ⟨[], []⟩ d ⟨[], []⟩ ∧ K s d
    | none => False) False
  | .h (.ca ys d) s => cond d.pl (match toVsN ds with
    | some xs => VSL (fs ++ xs ++ cs) ys ∧ FSpec P f (ys.map .v) ⟨[], []⟩ d ⟨[], []⟩ ∧ K s d
    | none => False) False
  | _ => False
theorem dslOf : ∀ {xs ys : List V}, VSL xs ys → Dv.DSL (xs.map .v) (ys.map .v)
  | _, _, .nil => .nil
  | _, _, .cons h hs => .cons (.v h) (dslOf hs)
theorem vCall_ok {P : Program} {f : FuncId} {fs cs : List V} {ds : List D} {s : Sc} {K : Sc → D → Prop} (h : vCall P f fs cs ds s K) {o : Oper} {c : Call} {fo : Operand} (ho : o.op = .call c) (hc : c.callee = .value fo) :
    PureOK P o (.v (.fn f fs cs) :: ds) K := by
  unfold vCall at h
  split at h
  · rename_i d s
    obtain ⟨h1, h2⟩ := cond_iff h
    split at h2
    · rename_i xs hx
      refine ⟨_, _, h2.2, fun σ => opOK_sub (fun g us hr => ?_) (op_call0 (d := d) (ds := xs.map .v) ho hc (pls_map xs) h1 (by simpa [List.map_append] using h2.1))⟩
      simp only [repDs] at hr ⊢
      obtain ⟨u, us', e, h3, h4⟩ := hr
      exact ⟨u, us', e, h3, toVsC_rep hx h4⟩
    · exact h2.elim
  · rename_i ys d s
    obtain ⟨h1, h2⟩ := cond_iff h
    split at h2
    · rename_i xs hx
      obtain ⟨h3, h4, h5⟩ := h2
      have h4' := h4.sub (e := d) (by simpa using dslOf h3) (.same d)
      refine ⟨_, _, h5, fun σ => opOK_sub (fun g us hr => ?_) (op_call0 (d := d) (ds := xs.map .v) ho hc (pls_map xs) h1 (by simpa [List.map_append] using h4'))⟩
      simp only [repDs] at hr ⊢
      obtain ⟨u, us', e, h3, h4⟩ := hr
      exact ⟨u, us', e, h3, toVsN_rep hx h4⟩
    · exact h2.elim
  · exact h.elim

noncomputable def vBuiltin (P : Program) (c : Call) (ds : List D) (K : V → Prop) : Prop := match c.callee, ds with
  | .builtin .len, [.v (.list xs)] => match c.args.toList, c.argTypes.toList with
    | [_], [t] => match P.underlying t with
      | some (.slice _) => K (.int .i64 xs.length)
      | _ => False
    | _, _ => False
  | .builtin .len, [.v .nils] => match c.args.toList, c.argTypes.toList with
    | [_], [t] => match P.underlying t with
      | some (.slice _) => K (.int .i64 0)
      | _ => False
    | _, _ => False
  | .builtin .len, [.arr _ _ n] => match c.args.toList, c.argTypes.toList with
    | [_], [t] => match P.underlying t with
      | some (.slice _) => K (.int .i64 n)
      | _ => False
    | _, _ => False
  | .builtin .len, [.v (.str s)] => match c.args.toList, c.argTypes.toList with
    | [_], [t] => match P.underlying t with
      | some .string => K (.int .i64 s.length)
      | _ => False
    | _, _ => False
  | .builtin .max, [.v (.int kd a), .v (.int ke b)] => match c.args.toList with
    | [_, _] => cond (kq kd ke) (K (.int kd (if b > a then b else a))) False
    | _ => False
  | .builtin .min, [.v (.int kd a), .v (.int ke b)] => match c.args.toList with
    | [_, _] => cond (kq kd ke) (K (.int kd (if b < a then b else a))) False
    | _ => False
  | _, _ => False
theorem vBuiltin_ok {P : Program} {c : Call} {ds : List D} {K : V → Prop} (h : vBuiltin P c ds K) {o : Oper} (ho : o.op = .call c) : ∃ z, K z ∧ ∀ σ, OpOK P o ds σ (.v z) σ := by
  have mk1 : ∀ {b : Builtin} {x : Operand} {t : TypeId}, c.callee = .builtin b → c.args.toList = [x] → c.argTypes.toList = [t] → o.op = .call { callee := .builtin b, args := #[x], argTypes := #[t] } := by
    intro b x t hc h1 h2
    rw [ho]; cases c; simp only at hc h1 h2; subst hc
    congr 2
    · apply Array.ext'; simpa using h1
    · apply Array.ext'; simpa using h2
  have mk2 : ∀ {b : Builtin} {x y : Operand}, c.callee = .builtin b → c.args.toList = [x, y] → o.op = .call { callee := .builtin b, args := #[x, y], argTypes := c.argTypes } := by
    intro b x y hc h1
    rw [ho]; cases c; simp only at hc h1; subst hc
    congr 2
    apply Array.ext'; simpa using h1
  unfold vBuiltin at h
  split at h
  · rename_i xs hc
    split at h
    · rename_i x t h1 h2
      split at h
      · rename_i e hu; exact ⟨_, h, fun σ => op_lenL (mk1 hc h1 h2) hu⟩
      · exact h.elim
    · exact h.elim
  · rename_i hc
    split at h
    · rename_i x t h1 h2
      split at h
      · rename_i e hu
        refine ⟨_, h, fun σ => opOK_sub (fun g us hr => ?_) (op_lenL (xs := []) (mk1 hc h1 h2) hu)⟩
        rw [repDs_one] at hr ⊢
        obtain ⟨u, e, hr⟩ := hr
        exact ⟨u, e, see_nilsD hr⟩
      · exact h.elim
    · exact h.elim
  · rename_i q off n hc
    split at h
    · rename_i x t h1 h2
      split at h
      · rename_i e hu; exact ⟨_, h, fun σ => op_lenA (mk1 hc h1 h2) hu⟩
      · exact h.elim
    · exact h.elim
  · rename_i xs hc
    split at h
    · rename_i x t h1 h2
      split at h
      · rename_i hu; exact ⟨_, h, fun σ => op_lenS (mk1 hc h1 h2) hu⟩
      · exact h.elim
    · exact h.elim
  · rename_i kd a ke b hc
    split at h
    · rename_i x y h1
      obtain ⟨e, h2⟩ := cond_iff h
      have e := of_decide_eq_true e; subst e
      exact ⟨_, h2, fun σ => op_max (mk2 hc h1)⟩
    · exact h.elim
  · rename_i kd a ke b hc
    split at h
    · rename_i x y h1
      obtain ⟨e, h2⟩ := cond_iff h
      have e := of_decide_eq_true e; subst e
      exact ⟨_, h2, fun σ => op_min (mk2 hc h1)⟩
    · exact h.elim
  · exact h.elim

noncomputable def vBuild (P : Program) (t : TypeId) (ps : List (Nat × Operand)) (ds : List D) (s : Sc) (K : Sc → V → Prop) : Prop := match s with
  | .h .rn s => (match bldN P t, zipN ps ds with
    | some (z, places), some xs => (match fillV (places[·]?) z xs with
      | some out => forceK out fun out => K s (.agg out)
      | none => False)
    | _, _ => False)
  | s => (match bldTy P t, zipN ps ds with
    | some (z, places), some xs => (match fillV (places[·]?) z xs with
      | some out => forceK out fun out => K s (.agg out)
      | none => False)
    | _, _ => False)
noncomputable def vBuildSl (P : Program) (t : TypeId) (len : Nat) (ps : List (Nat × Operand)) (ds : List D) (K : List V → Prop) : Prop := match slTy P t with
  | some (_, sz, _, z) => match len with
    | 0 => match ps, ds with
      | [], [] => K []
      | _, _ => False
    | len + 1 => match toVsN ds with
      | some xs => cond (rowQ ps 0 && Nat.beq ps.length (len + 1) && z.isSome && Nat.blt 0 sz && Nat.ble ((len + 1) * sz) 1000 && allSz sz xs) (K xs) False
      | none => False
  | none => False
theorem vBuildSl_ok {P : Program} {t : TypeId} {len : Nat} {ps : Array (Nat × Operand)} {ds : List D} {K : List V → Prop} (h : vBuildSl P t len ps.toList ds K) {o : Oper} (ho : o.op = .buildSlice t len ps) : ∃ xs, K xs ∧ ∀ σ, OpOK P o ds σ (.v (.list xs)) σ := by
  unfold vBuildSl at h
  split at h
  · rename_i e sz by' z hs
    split at h
    · split at h
      · rename_i hps
        exact ⟨_, h, fun σ => op_buildSlice0 ho (by apply Array.ext'; simpa using hps) hs⟩
      · exact h.elim
    · rename_i len
      split at h
      · rename_i xs hx
        obtain ⟨h1, h2⟩ := cond_iff h
        simp only [Bool.and_eq_true] at h1
        obtain ⟨⟨⟨⟨⟨g1, g2⟩, g3⟩, g4⟩, g5⟩, g6⟩ := h1
        have hl : ps.size = len + 1 := by have := Nat.eq_of_beq_eq_true g2; simpa using this
        exact ⟨_, h2, fun σ => op_buildSlice ho (rowQ_ok g1) hl hs g3 (toVsN_eq hx) (allSz_ok g6) (by omega) (Nat.le_of_ble_eq_true g4) (by simpa using g5)⟩
      · exact h.elim
  · exact h.elim
noncomputable def vSlice1 (P : Program) (t : TypeId) (x : D) (l h : Option (IntKind × Int)) (K : V → Prop) : Prop := match x with
  | .v (.str s) => match P.underlying t with
    | some .string => vSl s.length (l.map (·.2)) (h.map (·.2)) fun a b => K (.str ((s.take b).drop a))
    | _ => False
  | .v (.list xs) => match slTy P t with
    | some (_, sz, _, _) => cond (Nat.blt 0 sz) ((∀ x ∈ xs, x.size = sz) ∧ vSl xs.length (l.map (·.2)) (h.map (·.2)) fun a b => K (.list ((xs.take b).drop a))) False
    | none => False
  | _ => False
noncomputable def vSlice (P : Program) (t : TypeId) (lo hi : Bool) (ds : List D) (K : V → Prop) : Prop := match lo, hi, ds with
  | false, false, [x] => vSlice1 P t x none none K
  | true, false, [x, .v (.int kd i)] => vSlice1 P t x (some (kd, i)) none K
  | false, true, [x, .v (.int kd i)] => vSlice1 P t x none (some (kd, i)) K
  | true, true, [x, .v (.int kd i), .v (.int ke j)] => vSlice1 P t x (some (kd, i)) (some (ke, j)) K
  | _, _, _ => False
theorem vSlice1_ok {P : Program} {t : TypeId} {x : D} {l h' : Option (IntKind × Int)} {K : V → Prop} (h : vSlice1 P t x l h' K) {o : Oper} {xo : Operand} {lo hi : Option Operand} (ho : o.op = .slice t xo lo hi none) (h1 : lo.isSome = l.isSome) (h2 : hi.isSome = h'.isSome) :
    ∃ y, K y ∧ ∀ σ, OpOK P o (x :: (bndD l ++ bndD h')) σ (.v y) σ := by
  unfold vSlice1 at h
  split at h
  · split at h
    · rename_i hu
      obtain ⟨a, b, h3, hp⟩ := vSl_ok h
      exact ⟨_, h3, fun σ => op_sliceS ho hu l h' h1 h2 hp⟩
    · exact h.elim
  · split at h
    · rename_i e sz by' z hs
      obtain ⟨g1, g2, g3⟩ := cond_iff h
      obtain ⟨a, b, h3, hp⟩ := vSl_ok g3
      exact ⟨_, h3, fun σ => op_sliceL ho hs g2 (Nat.le_of_ble_eq_true g1) l h' h1 h2 hp⟩
    · exact h.elim
  · exact h.elim
theorem vSlice_ok {P : Program} {t : TypeId} {lo hi : Option Operand} {ds : List D} {K : V → Prop} (h : vSlice P t lo.isSome hi.isSome ds K) {o : Oper} {xo : Operand} (ho : o.op = .slice t xo lo hi none) :
    ∃ y, K y ∧ ∀ σ, OpOK P o ds σ (.v y) σ := by
  unfold vSlice at h
  split at h
  · rename_i e1 e2; exact vSlice1_ok h ho e1 e2
  · rename_i e1 e2; exact vSlice1_ok h ho e1 e2
  · rename_i e1 e2; exact vSlice1_ok h ho e1 e2
  · rename_i e1 e2; exact vSlice1_ok h ho e1 e2
  · exact h.elim
/-- an element of a list -/
noncomputable def vEl (xs : List V) (i : Int) (sz : Nat) (s : Sc) (K : Sc → V → Prop) : Prop := match s with
  | .h (.x y) s => cond (Nat.beq y.size sz) (0 ≤ i ∧ xs[i.toNat]? = some y ∧ K s y) False
  | .h (.xs y) s => y.size = sz ∧ 0 ≤ i ∧ xs[i.toNat]? = some y ∧ K s y
  | _ => False

/-- a load of data -/
noncomputable def vLoadR (P : Program) (t : TypeId) (x : V) (k : Prop) : Prop := match szAgg P t, x with
  | some (1, false), .agg _ => False
  | some (1, false), _ => k
  | some (n, true), .agg cs => cond (Nat.beq cs.length n) k False
  | _, _ => False
theorem notAgg {x : V} (h : ∀ cs, x = .agg cs → False) : x.isAgg = false := by cases x <;> first | rfl | exact (h _ rfl).elim
theorem vLoadR_ok {P : Program} {t : TypeId} {x : V} {k : Prop} (h : vLoadR P t x k) {o : Oper} {a : Operand} (ho : o.op = .load t a) : k ∧ ∀ σ, OpOK P o [.v (.ref x)] σ (.v x) σ := by
  unfold vLoadR at h
  split at h
  · exact h.elim
  · rename_i ht hx; exact ⟨h, fun σ => op_loadR1 ho ht (notAgg hx)⟩
  · rename_i n cs ht
    obtain ⟨h1, h2⟩ := cond_iff h
    have := Nat.eq_of_beq_eq_true h1; subst this
    exact ⟨h2, fun σ => op_loadRA ho ht⟩
  · exact h.elim
/-- an operation that holds in every state; owned lists are seen as lists -/
noncomputable def vPure (P : Program) (o : Oper) (ds : List D) (s : Sc) (K : Sc → D → Prop) : Prop :=
  match o.op, ds with
  | .binOp op t a b _, [.v x, .v .nils] => vNil P op t b x fun z => K s (.v z)
  | .binOp op t _ b _, [.rv _ (.slice ad _ _), .v .nils] => vNot P op t b ad.isNone fun z => K s (.v z)
  | .binOp op t _ _ _, [.v x, .v y] => vBin P op t x y fun z => K s (.v z)
  | .unOp op _ _, [.v x] => match unI op x with
    | some z => K s (.v z)
    | none => False
  | .convert st t _, [.v (.int _ n)] => match P.underlying st, P.underlying t with
    | some _, some (.int kd) => K s (.v (.int kd (kd.wrap n)))
    | _, _ => False
  | .extract _ i, [.tup xs] => match xs[i]? with
    | some d => K s d
    | none => False
  | .nilCheck _, [.ptr q f] => K s (.ptr q f)
  | .nilCheck _, [.v (.ref x)] => K s (.v (.ref x))
  | .field st _ f, [.v (.agg cs)] => vFld P st f cs fun y => K s (.v y)
  | .fieldAddr st _ f, [.ptr q off] => match fldTy P st f with
    | some (fo, _ + 1, _) => K s (.ptr q (Nat.add off fo))
    | _ => False
  | .fieldAddr st _ f, [.v (.ref (.agg cs))] => vFld P st f cs fun y => K s (.v (.ref y))
  | .indexAddr t _ _, [.v (.list xs), .v (.int _ i)] => match slTy P t with
    | some (_, sz, _, _) => vEl xs i sz s fun s y => K s (.v (.ref y))
    | none => False
  | .indexAddr t _ _, [.arr q off len, .v (.int _ i)] => match slTy P t with
    | some (_, sz, _, _) => 0 ≤ i ∧ i < len ∧ K s (.ptr q (off + i.toNat * sz))
    | none => False
  | .indexAddr t _ _, [.ptr q off, .v (.int _ i)] => match arTy P t with
    | some (len, sz, _) => 0 ≤ i ∧ i < len ∧ K s (.ptr q (off + i.toNat * sz))
    | none => False
  | .indexAddr t _ _, [.v (.ref (.agg cs)), .v (.int _ i)] => vIdx P t cs i fun y => K s (.v (.ref y))
  | .index t _ _, [.v (.str l), .v (.int _ i)] => match P.underlying t with
    | some .string => (match s with
      | .h (.y c) s => 0 ≤ i ∧ l[i.toNat]? = some c ∧ K s (.v (vb c))
      | s => ∃ c : UInt8, 0 ≤ i ∧ l[i.toNat]? = some c ∧ K s (.v (vb c)))
    | _ => False
  | .index t _ _, [.v (.agg cs), .v (.int _ i)] => vIdx P t cs i fun y => K s (.v y)
  | .load t _, [.v (.ref x)] => vLoadR P t x (K s (.v x))
  | .build t ps, ds => vBuild P t ps.toList ds s fun s x => K s (.v x)
  | .buildSlice t len ps, ds => vBuildSl P t len ps.toList ds fun xs => K s (.v (.list xs))
  | .makeFunc (.func f) fs _, ds => match toVsN ds with
    | some xs => cond (Nat.ble fs.size xs.length) (K s (.v (.fn f (xs.take fs.size) (xs.drop fs.size)))) False
    | none => False
  | .slice t _ lo hi none, ds => vSlice P t lo.isSome hi.isSome ds fun x => K s (.v x)
  | .call c, .v (.fn f fs cs) :: ds => match c.callee with
    | .value _ => vCall P f fs cs ds s K
    | _ => False
  | .call c, ds => vBuiltin P c ds fun x => K s (.v x)
  | _, _ => False

theorem vFld_ok {P : Program} {st : TypeId} {f : Nat} {cs : List V} {K : V → Prop} (h : vFld P st f cs K) : ∃ y fo n b, K y ∧ fldTy P st f = some (fo, n, b) ∧ n ≠ 0 ∧ (b = false → n = 1) ∧ partV cs fo n b = some y := by
  unfold vFld at h
  split at h
  · rename_i fo hf; obtain ⟨y, h1, h2⟩ := vPart_ok h; exact ⟨y, fo, 1, false, h1, hf, by simp, by simp, h2⟩
  · rename_i fo n hf; obtain ⟨y, h1, h2⟩ := vPart_ok h; exact ⟨y, fo, n + 1, true, h1, hf, by simp, by simp, h2⟩
  · exact h.elim
theorem vEl_ok {xs : List V} {i : Int} {sz : Nat} {s : Sc} {K : Sc → V → Prop} (h : vEl xs i sz s K) : ∃ y s', K s' y ∧ y.size = sz ∧ 0 ≤ i ∧ xs[i.toNat]? = some y := by
  unfold vEl at h
  split at h
  · obtain ⟨h1, h2, h3, h4⟩ := cond_iff h
    exact ⟨_, _, h4, Nat.eq_of_beq_eq_true h1, h2, h3⟩
  · exact ⟨_, _, h.2.2.2, h.1, h.2.1, h.2.2.1⟩
  · exact h.elim

theorem vPure_ok {P : Program} {o : Oper} {ds : List D} {s : Sc} {K : Sc → D → Prop} (h : vPure P o ds s K) : PureOK P o ds K := by
  unfold vPure at h
  split at h
  · rename_i op t a b ty x ho
    obtain ⟨z, h1, h2⟩ := vNil_ok h ho
    exact .v h1 h2
  · rename_i op t a b ty x ad l c ho
    obtain ⟨z, h1, h2⟩ := vNot_ok h ho
    exact .v h1 h2
  · rename_i op t a b ty x y _ ho
    obtain ⟨z, h1, h2⟩ := vBin_ok h ho
    exact .v h1 h2
  · rename_i op t a x ho
    split at h
    · rename_i z hz; exact .v h fun σ => op_un ho hz
    · exact h.elim
  · rename_i st t a kd n ho
    split at h
    · rename_i d kd' h1 h2; exact .v h fun σ => op_convI ho h1 h2
    · exact h.elim
  · rename_i a i xs ho
    split at h
    · rename_i d hd; exact ⟨_, _, h, fun σ => op_extract ho hd⟩
    · exact h.elim
  · rename_i a q f ho; exact ⟨_, _, h, fun σ => op_nilCheck_ptr ho⟩
  · rename_i a x ho; exact .v h fun σ => op_nilCheck_ref ho
  · rename_i st a f cs ho
    obtain ⟨y, fo, n, b, h1, h2, h3, h4, h5⟩ := vFld_ok h
    exact .v h1 fun σ => op_field ho h2 h4 h5
  · rename_i st a f q off ho
    split at h
    · rename_i fo n b hf; exact ⟨_, _, h, fun σ => op_fieldP ho hf (by simp)⟩
    · exact h.elim
  · rename_i st a f cs ho
    obtain ⟨y, fo, n, b, h1, h2, h3, h4, h5⟩ := vFld_ok h
    exact .v h1 fun σ => op_fieldR ho h2 h3 h4 h5
  · rename_i t a b xs kd i ho
    split at h
    · rename_i e sz by' z hs
      obtain ⟨y, s', h1, h2, h3, h4⟩ := vEl_ok h
      exact .v h1 fun σ => op_idxL ho hs h3 h4 h2
    · exact h.elim
  · rename_i t a b q off len kd i ho
    split at h
    · rename_i e sz by' z hs; exact ⟨_, _, h.2.2, fun σ => op_idxA ho hs h.1 h.2.1⟩
    · exact h.elim
  · rename_i t a b q off kd i ho
    split at h
    · rename_i len sz bb hs; exact ⟨_, _, h.2.2, fun σ => op_idxAP ho hs h.1 h.2.1⟩
    · exact h.elim
  · rename_i t a b cs kd i ho
    obtain ⟨y, len, sz, bb, h1, h2, h3, h4, h5, h6⟩ := vIdx_ok h
    exact .v h1 fun σ => op_idxAR ho h2 h3 h4 h5 h6
  · rename_i t a b l kd i ho
    split at h
    · rename_i hu
      split at h
      · exact .v h.2.2 fun σ => op_idxS ho hu h.1 h.2.1
      · obtain ⟨c, h0, h1, h2⟩ := h
        exact .v h2 fun σ => op_idxS ho hu h0 h1
    · exact h.elim
  · rename_i t a b cs kd i ho
    obtain ⟨y, len, sz, bb, h1, h2, h3, h4, h5, h6⟩ := vIdx_ok h
    exact .v h1 fun σ => op_idxV ho h2 h3 h4 h5 h6
  · rename_i t a x ho
    obtain ⟨h1, h2⟩ := vLoadR_ok h ho
    exact .v h1 h2
  · rename_i t ps ho
    unfold vBuild at h
    split at h
    · split at h
      · rename_i z places xs hb hx
        split at h
        · rename_i out hf
          rw [forceK_eq] at h
          exact .v h fun σ => op_buildN ho hb (zipN_eq hx) hf
        · exact h.elim
      · exact h.elim
    · split at h
      · rename_i z places xs hb hx
        split at h
        · rename_i out hf
          rw [forceK_eq] at h
          exact .v h fun σ => op_build ho hb (zipN_eq hx) hf
        · exact h.elim
      · exact h.elim
  · rename_i t len ps ho
    obtain ⟨y, h1, h2⟩ := vBuildSl_ok h ho
    exact .v h1 h2
  · rename_i f fs cap ho
    split at h
    · rename_i xs hx
      obtain ⟨h1, h2⟩ := cond_iff h
      have hl : fs.size ≤ xs.length := by simpa using h1
      refine .v h2 fun σ => opOK_sub (fun g us hr => toVsN_rep hx hr) ?_
      have := op_makeFunc (P := P) (σ := σ) ho (fs := (xs.take fs.size).map .v) (cs := (xs.drop fs.size).map .v) (by simp; omega) (toVs_map _) (toVs_map _)
      rw [← List.map_append, List.take_append_drop] at this
      exact this
    · exact h.elim
  · rename_i t a lo hi ho
    obtain ⟨y, h1, h2⟩ := vSlice_ok h ho
    exact .v h1 h2
  · rename_i c f fs cs ds ho
    split at h
    · rename_i fo hc; exact vCall_ok h ho hc
    · exact h.elim
  · rename_i c ho _
    obtain ⟨y, h1, h2⟩ := vBuiltin_ok h ho
    exact .v h1 h2
  · exact h.elim
end Go.Nv

namespace Go.Dv
/-- a new owned list, in a block that the call may write -/
theorem WI.addOwnP {E : Ent} {g : Gh} {σ : St} {w : World} (hw : WI E g σ w) {k sz : Nat} {xs : List V} {u : Value} (hk : ∀ x ∈ σ.own, x.1 ≠ k) (hsz : 0 < sz ∧ ∀ x ∈ xs, x.size = sz) (hr : repV g.M (.list xs) u) (hp : Perm g.M w sz u)
    (hb : ∀ b, ownB u = some b → (E.w.heap.size ≤ b ∨ E.priv b) ∧ (∀ i cs, σ.H[i]? = some (some cs) → g.β i ≠ b) ∧ ∀ x ∈ σ.own, ∀ u', g.ι x.1 x.2.2.length = some u' → ownB u' ≠ some b) :
    WI E { g with ι := fun k' m => if k' = k then (if m = xs.length then some u else none) else g.ι k' m } ⟨σ.H, (k, sz, xs) :: σ.own⟩ w ∧
    g.le { g with ι := fun k' m => if k' = k then (if m = xs.length then some u else none) else g.ι k' m } := by
  have hle : g.le { g with ι := fun k' m => if k' = k then (if m = xs.length then some u else none) else g.ι k' m } := by
    refine ⟨Mem.le_refl _, Nat.le_refl _, fun _ _ => rfl, fun k' m u' h => ?_, fun _ _ => rfl⟩
    by_cases e : k' = k
    · subst e; rw [hw.rep.fresh k' hk m] at h; simp at h
    · simp only [if_neg e]; exact h
  have hold : ∀ x ∈ σ.own, (if x.1 = k then (if x.2.2.length = xs.length then some u else none) else g.ι x.1 x.2.2.length) = g.ι x.1 x.2.2.length := fun x hx => if_neg (hk x hx)
  refine ⟨hw.update (fun _ => False) (fun _ h => h.elim) (fun _ _ _ => ⟨rfl, fun _ => rfl⟩) (Mem.le_refl _) (Nat.le_refl _) (fun _ _ => rfl) (fun _ _ => rfl) (Nat.le_refl _) rfl rfl rfl ?_ hw.objs ?_, hle⟩
  · refine ⟨hw.rep.n, hw.rep.mem, fun i cs hi => ?_, hw.rep.inj, fun k' sz' xs' hx => ?_, ?_, fun x hx y hy hne u1 u2 h1 h2 b hb1 => ?_, fun x hx u1 h1 b hb1 i cs hi => ?_, fun k' hk' m => ?_, hw.rep.gl, hw.rep.gw⟩
    · obtain ⟨us, rest, e, h2, h3, h4, h5⟩ := hw.rep.obj i cs hi
      exact ⟨us, rest, e, h2, repDs.mono hle _ _ h3, h4, h5⟩
    · rcases List.mem_cons.1 hx with e | hx
      · simp only [Prod.mk.injEq] at e
        obtain ⟨rfl, rfl, rfl⟩ := e
        refine ⟨hsz, u, by simp, hr, hp, fun m hm => ?_⟩
        simp only [if_true]; exact if_neg (by omega)
      · obtain ⟨h0, u', hu, h3, h4, h5⟩ := hw.rep.own k' sz' xs' hx
        have hne : ¬ k' = k := hk _ hx
        refine ⟨h0, u', by simp only [if_neg hne]; exact hu, h3, h4, fun m hm => by simp only [if_neg hne]; exact h5 m hm⟩
    · simp only [List.map_cons, List.nodup_cons]
      refine ⟨fun h => ?_, hw.rep.tags⟩
      obtain ⟨x, hx, e⟩ := List.mem_map.1 h
      exact hk x hx e
    · rcases List.mem_cons.1 hx with rfl | hx <;> rcases List.mem_cons.1 hy with rfl | hy
      · exact absurd rfl hne
      · simp at h1; subst h1
        have h2' : g.ι y.1 y.2.2.length = some u2 := (hold y hy).symm.trans h2
        exact (hb b hb1).2.2 y hy u2 h2'
      · simp at h2; subst h2
        have h1' : g.ι x.1 x.2.2.length = some u1 := (hold x hx).symm.trans h1
        intro hb2
        exact (hb b hb2).2.2 x hx u1 h1' hb1
      · exact hw.rep.sep x hx y hy hne u1 u2 ((hold x hx).symm.trans h1) ((hold y hy).symm.trans h2) b hb1
    · rcases List.mem_cons.1 hx with rfl | hx
      · simp at h1; subst h1
        exact (hb b hb1).2.1 i cs hi
      · exact hw.rep.ownObj x hx u1 ((hold x hx).symm.trans h1) b hb1 i cs hi
    · have hne : ¬ k' = k := fun e => hk' (k, sz, xs) (by simp) e.symm
      simp only [if_neg hne]
      exact hw.rep.fresh k' (fun x hx => hk' x (by simp [hx])) m
  · intro x hx u1 h1 b hb1
    rcases List.mem_cons.1 hx with rfl | hx
    · simp at h1; subst h1
      exact (hb b hb1).1
    · exact hw.owns x hx u1 ((hold x hx).symm.trans h1) b hb1

end Go.Dv
namespace Go.Nv
open Go.Dv
section
variable {P : Program} {o : Oper} {σ : St}
/-- append([]T(nil), make([]T, n)...) -/
theorem op_appendZ {x y : Operand} {t tn : TypeId} (ho : o.op = .call { callee := .builtin .append, args := #[x, y], argTypes := #[t, tn] }) {e : TypeId} {sz by' : Nat} {z : Value} (hs : slTy P t = some (e, sz, by', some z)) (hzc : z.cells.size = sz) (h0 : 0 < sz) {kn : IntKind} (htn : P.underlying tn = some (.int kn))
    {kd : IntKind} {n : Int} (hn : 0 < n) (hlen : n.toNat * by' ≤ 140737488355328) (hlen2 : n.toNat ≤ 140737488355328) :
    OpOK P o [.v .nils, .v (.int kd n)] σ (.gro σ.H.length n.toNat sz) ⟨σ.H ++ [some []], σ.own⟩ := by
  intro E g a w K Q hw hds hK
  simp only [ho, Op.operands, Call.operands] at hds
  obtain ⟨u, v, eq, hu, hv⟩ := repDs_two.1 (by simpa using hds)
  simp only [List.cons.injEq, and_true] at eq
  simp only [repD, repV_nils, repV_int] at hu hv
  subst hu hv
  obtain ⟨m, rfl⟩ : ∃ m : Nat, n = m := ⟨n.toNat, by omega⟩
  simp only [Int.toNat_natCast] at hlen hlen2 hK ⊢
  obtain ⟨i, ht, hi, hisz, hib, hiz⟩ := slTy_parts hs
  have hrun := Lib.run_append_nil_zeros (P := P) w t tn o.type e i z kd kn ht htn hi hiz m (by omega) (by omega) (by omega) (by rw [hib]; omega)
  have hge := grownCap_ge w m 0 e
  generalize hcs : Builtin.zeroCells z.cells m ++ Builtin.zeroCells z.cells (grownCap w m 0 e - m) = cs at hrun
  have hsize : cs.size = grownCap w m 0 e * sz := by
    rw [← hcs]
    simp only [Array.size_append, size_zeroCells, hzc, ← Nat.add_mul]
    congr 1; omega
  obtain ⟨g', h3, h4, h5', h6', h7⟩ := hw.drew.newObjR (us := []) (rest := cs.toList) (cs := []) e (by simp [repDs]) (by simp)
  have hd : repD g' (.gro σ.H.length m sz) (.slice (some ⟨w.heap.size, 0, none⟩) m (grownCap w m 0 e)) := by
    simp only [repD]
    refine ⟨by omega, _, hge, ?_, by rw [h5']; rfl⟩
    rw [h6']; simp [hsize]
  have hcell : (([] : List Value) ++ cs.toList).toArray = cs := by simp
  rw [hcell] at h3
  have := hK g' _ _ h3 h4 hd
  unfold Oper.wp execOp
  simp only [ho, resolve, invoke, builtin, Sem.run_bind, Sem.run_pure, Result.andThen_ok, List.map_toArray, List.map_cons, List.map_nil, eq.1, eq.2, hrun]
  exact this
/-- x[:0] of a list that fills its block from the start: it may be appended to -/
theorem op_sliceG0 {t : TypeId} {x hx : Operand} (ho : o.op = .slice t x none (some hx) none) {e : TypeId} {sz by' : Nat} {z : Option Value} (hs : slTy P t = some (e, sz, by', z)) (h0 : 0 < sz) {q len : Nat} {cs : List D} (hq : σ.H[q]? = some (some cs)) {kd : IntKind} (k : Nat) (hk : ∀ x ∈ σ.own, x.1 ≠ k) :
    OpOK P o [.gro q len sz, .v (.int kd 0)] σ (.acc k []) ⟨σ.H.set q none, (k, sz, []) :: σ.own⟩ := by
  intro E g a w K Q hw hds hK
  simp only [ho, Op.operands] at hds
  obtain ⟨u, v, eq, h1, h2⟩ := repDs_two.1 (by simpa using hds)
  simp only [List.cons.injEq, and_true] at eq
  simp only [repD, repV_int] at h1 h2
  subst h2
  obtain ⟨hqn, cap, hcap, hκ, rfl⟩ := h1
  obtain ⟨i, hu, hi', hsz, _, _⟩ := slTy_parts hs
  obtain ⟨us, rest, et, hb, hr, hone, hM, hkk⟩ := hw.rep.obj q cs hq
  have hrep : repV g.M (.list []) (.slice (some ⟨g.β q, 0, none⟩) 0 cap) := by rw [repV_list]; exact ⟨_, cap, rfl, Nat.zero_le _, .inl rfl⟩
  obtain ⟨hw2, hle⟩ := (hw.kill hq).addOwnP (k := k) (sz := sz) (xs := []) (u := .slice (some ⟨g.β q, 0, none⟩) 0 cap) hk ⟨h0, by simp⟩ hrep
    (.inr ⟨g.β q, 0, 0, cap, _, et, rfl, hb, Nat.zero_le _, by rw [Nat.zero_add]; simp only [List.size_toArray]; rw [hkk, ← hκ]; exact Nat.le_refl _, fun o _ => hM o, hw.rep.obj_ng hq⟩) (fun b hb' => by
      simp only [ownB] at hb'
      split at hb'
      · simp at hb'
      · simp at hb'; subst hb'
        refine ⟨hw.objs q cs hq, fun i c hi => ?_, fun x hx u' hu' hb2 => hw.rep.ownObj x hx u' hu' _ hb2 q cs hq rfl⟩
        obtain ⟨hne, hi2⟩ := set_none_get hi
        exact fun e => hne (hw.rep.inj i q _ _ hi2 hq e))
  have := hK _ _ (.slice (some ⟨g.β q, 0, none⟩) 0 cap) hw2 hle (by simp only [repD]; exact ⟨hrep, by simp⟩)
  have hbr := run_bounds (P := P) w true len cap hcap none (some (kd, 0)) (l' := 0) (h' := 0) (by simp [sliceI])
  unfold Oper.wp execOp
  simp only [ho, eq.1, eq.2, Option.map_none, Option.map_some, Instr.sliceAt, Instr.slice, Sem.run_bind, run_underlying hu, Result.andThen_ok]
  simp only [Option.map_none, Option.map_some] at hbr
  rw [hbr]
  simp only [Result.andThen_ok, sizeOf, typeInfo, hi', Sem.run_pure, Sem.run_bind]
  by_cases hc0 : cap = 0
  · subst hc0; simpa [Addr.add_lit, Oper.upon, hi'] using this
  · simpa [hc0, Addr.add_lit, Oper.upon, hi', show ¬ 0 = cap by omega] using this
theorem op_capNils {x : Operand} {t : TypeId} (ho : o.op = .call { callee := .builtin .cap, args := #[x], argTypes := #[t] }) {e : TypeId} (ht : P.underlying t = some (.slice e)) : OpOK P o [.v .nils] σ (.v (.int .i64 0)) σ := by
  refine opOK_run fun E g ρ w hw hds => ?_
  simp only [ho, Op.operands, Call.operands, repDs_one] at hds
  obtain ⟨u, e, h1⟩ := hds
  simp at e
  simp only [repD, repV_nils] at h1
  subst h1
  exact ⟨_, by simp [execOp, ho, e, resolve, invoke, builtin, Builtin.cap_, run_underlying ht, goInt]; rfl, by simp [repD]⟩
theorem op_sliceNils {t : TypeId} {x hx : Operand} (ho : o.op = .slice t x none (some hx) none) {e : TypeId} (hu : P.underlying t = some (.slice e)) {inf : TypeInfo} (hi : P.info? e = some inf) {kd : IntKind} : OpOK P o [.v .nils, .v (.int kd 0)] σ (.v .nils) σ := by
  refine opOK_run fun E g ρ w hw hds => ?_
  simp only [ho, Op.operands] at hds
  obtain ⟨u, v, eq, h1, h2⟩ := repDs_two.1 (by simpa using hds)
  simp only [List.cons.injEq, and_true] at eq
  simp only [repD, repV_int, repV_nils] at h1 h2
  subst h1 h2
  have hbr := run_bounds (P := P) w true 0 0 (Nat.le_refl _) none (some (kd, 0)) (l' := 0) (h' := 0) (by simp [sliceI])
  simp only [Option.map_none, Option.map_some] at hbr
  refine ⟨.slice none 0 0, ?_, by simp [repD]⟩
  simp only [execOp, ho, eq.1, eq.2, Option.map_none, Option.map_some, Instr.sliceAt, Instr.slice, Sem.run_bind, run_underlying hu, Result.andThen_ok]
  rw [hbr]
  simp [sizeOf, typeInfo, hi]
end
/- A STRUCT WHOSE PARTS NEED NOT BE DATA -/
def zipD : List (Nat × Operand) → List D → Option (List (Nat × D))
  | [], [] => some []
  | p :: ps, d :: ds => match zipD ps ds with
    | some xs => some ((p.1, d) :: xs)
    | none => none
  | _, _ => none
def fillD (places : List (Nat × Nat)) : List D → List (Nat × D) → Option (List D)
  | cells, [] => some cells
  | cells, p :: xs => match places[p.1]? with
    | some (off, size) => cond (p.2.sto && Nat.beq (cellsD p.2).length size && Nat.ble (off + size) cells.length) (fillD places (cells.take off ++ cellsD p.2 ++ cells.drop (off + size)) xs) none
    | none => none
theorem repDs_length' {g : Gh} : ∀ {ds : List D} {us : List Value}, repDs g ds us → us.length = ds.length
  | [], us, h => by simp only [repDs] at h; simp [h]
  | d :: ds, us, h => by
    simp only [repDs] at h
    obtain ⟨u, us', rfl, _, h⟩ := h
    simp [repDs_length' h]
theorem repDs_app {g : Gh} : ∀ {ds es : List D} {us vs : List Value}, repDs g ds us → repDs g es vs → repDs g (ds ++ es) (us ++ vs)
  | [], es, us, vs, h, h2 => by simp only [repDs] at h; subst h; exact h2
  | d :: ds, es, us, vs, h, h2 => by
    simp only [repDs] at h
    obtain ⟨u, us', rfl, h1, h⟩ := h
    simp only [List.cons_append, repDs]
    exact ⟨u, us' ++ vs, rfl, h1, repDs_app h h2⟩
theorem repDs_tk {g : Gh} : ∀ {ds : List D} {us : List Value} (n : Nat), repDs g ds us → repDs g (ds.take n) (us.take n)
  | ds, us, 0, _ => by simp [repDs]
  | [], us, n + 1, h => by simp only [repDs] at h; subst h; simp [repDs]
  | d :: ds, us, n + 1, h => by
    simp only [repDs] at h
    obtain ⟨u, us', rfl, h1, h⟩ := h
    simp only [List.take_succ_cons, repDs]
    exact ⟨u, us'.take n, rfl, h1, repDs_tk n h⟩
theorem repDs_dr {g : Gh} : ∀ {ds : List D} {us : List Value} (n : Nat), repDs g ds us → repDs g (ds.drop n) (us.drop n)
  | ds, us, 0, h => by simpa using h
  | [], us, n + 1, h => by simp only [repDs] at h; subst h; simp [repDs]
  | d :: ds, us, n + 1, h => by
    simp only [repDs] at h
    obtain ⟨u, us', rfl, h1, h⟩ := h
    simp only [List.drop_succ_cons]
    exact repDs_dr n h
theorem fillD_rep {g : Gh} {a : Act} {places : List (Nat × Nat)} : ∀ {ps : List (Nat × Operand)} {ds : List D} {xs : List (Nat × D)} {cells out : List D} {cu : Array Value}, zipD ps ds = some xs → repDs g ds (ps.map fun p => a.eval p.2) → repDs g cells cu.toList → fillD places cells xs = some out →
    ∃ U, Instr.fill (places[·]?) cu (ps.map fun p => (p.1, a.eval p.2)) = some U ∧ repDs g out U.toList
  | [], [], xs, cells, out, cu, hx, _, hc, hf => by
    simp [zipD] at hx; subst hx
    simp [fillD] at hf; subst hf
    exact ⟨cu, rfl, hc⟩
  | [], _ :: _, xs, cells, out, cu, hx, _, hc, hf => by simp [zipD] at hx
  | _ :: _, [], xs, cells, out, cu, hx, _, hc, hf => by simp [zipD] at hx
  | p :: ps, d :: ds, xs, cells, out, cu, hx, hds, hc, hf => by
    simp only [zipD] at hx
    split at hx
    · rename_i ys hys
      simp at hx; subst hx
      simp only [List.map_cons, repDs] at hds
      obtain ⟨u, us', e, h1, h2⟩ := hds
      simp at e
      obtain ⟨rfl, rfl⟩ := e
      simp only [fillD] at hf
      split at hf
      · rename_i off size hp
        cases hcd : (d.sto && Nat.beq (cellsD d).length size && Nat.ble (off + size) cells.length) with
        | false => rw [hcd] at hf; simp at hf
        | true =>
          rw [hcd] at hf
          simp only [cond_true] at hf
          simp only [Bool.and_eq_true] at hcd
          obtain ⟨⟨c1, c2⟩, c3⟩ := hcd
          have c2 := Nat.eq_of_beq_eq_true c2
          have c3 := Nat.le_of_ble_eq_true c3
          obtain ⟨r1, r2, r3⟩ := cells_rep c1 h1
          have hl : cu.size = cells.length := by rw [← Array.length_toList]; exact repDs_length' hc
          have hs : (a.eval p.2).cells.size = size := by rw [← Array.length_toList, repDs_length' r1, c2]
          have hsp := splice off (a.eval p.2).cells.toList cu (by simp only [Array.length_toList]; omega)
          simp only [Array.length_toList, hs] at hsp
          have hc' : repDs g (cells.take off ++ cellsD d ++ cells.drop (off + size)) (((a.eval p.2).cells.toList.zipIdx 0).foldl (fun cs (x : Value × Nat) => cs.setIfInBounds (off + x.2) x.1) cu).toList := by
            rw [hsp]
            exact repDs_app (repDs_app (repDs_tk off hc) r1) (repDs_dr (off + size) hc)
          obtain ⟨U, hU, hrU⟩ := fillD_rep hys h2 hc' hf
          refine ⟨U, ?_, hrU⟩
          simp only [List.map_cons]
          unfold Instr.fill
          simp only [hp, hs]
          rw [if_neg (by simp; omega), ← hU]
          congr 1
          rw [← Array.foldl_toList, Array.toList_zipIdx]
      · simp at hf
    · simp at hx
section
variable {P : Program} {o : Oper} {σ : St}
def isStruct (P : Program) (t : TypeId) : Bool := match P.underlying t with
  | some (.struct _) => true
  | _ => false
theorem op_buildD {t : TypeId} {parts : Array (Nat × Operand)} (ho : o.op = .build t parts) {z : List V} {places : List (Nat × Nat)} (hst : isStruct P t = true) (hb : bldTy P t = some (z, places)) {ds : List D} {xs : List (Nat × D)} {out : List D}
    (hx : zipD parts.toList ds = some xs) (hf : fillD places (z.map .v) xs = some out) : OpOK P o ds σ (.dagg out) σ := by
  intro E g a w K Q hw hds hK
  simp only [ho, Op.operands] at hds
  unfold bldTy at hb
  unfold isStruct at hst
  have key : ∃ U, P.built t (parts.toList.map fun p => (p.1, a.eval p.2)) = some U ∧ repDs g out U.toList := by
    cases hz : zeroV P t with
    | none => simp [hz] at hb
    | some z0 =>
      obtain ⟨i, zv, hi, hz1, hcv⟩ := zeroV_parts hz
      cases hu : P.underlying t with
      | none => simp [hz, hu] at hb
      | some dd =>
        cases dd <;> simp only [hz, hu, reduceCtorEq] at hb hst
        case struct fs =>
          cases hp : fs.toList.mapM (fun f => (P.info? f.type).map fun i => (f.offset, i.size)) with
          | none => simp [hp] at hb
          | some pl =>
            simp [hp] at hb
            obtain ⟨rfl, rfl⟩ := hb
            obtain ⟨U, hU, hrU⟩ := fillD_rep (a := a) hx (by simpa [Function.comp_def] using hds) (repA_repDs (constVs_rep (M := g.M) hcv)).1 hf
            exact ⟨U, by simpa [Program.built, hi, hu, hz1, hp] using hU, hrU⟩
  obtain ⟨U, hU, hrU⟩ := key
  have := hK g w (.agg U) hw g.le_refl (by simp only [repD]; exact ⟨U.toList, by simp, hrU⟩)
  have hrun := run_build (P := P) w t (parts.map fun p => (p.1, a.eval p.2)) U (by simpa using hU)
  unfold Oper.wp execOp
  simp only [ho]
  simp only [Sem.run_bind]
  rw [show (parts.map fun (x : Nat × Operand) => match x with | (i, x) => (i, a.eval x)) = parts.map fun p => (p.1, a.eval p.2) from rfl, hrun]
  exact this
end
end Go.Nv

namespace Go.Dv
theorem flatten_get {α : Type} (l : List α) : ∀ (n i : Nat), i < n * l.length → (List.replicate n l).flatten[i]? = l[i % l.length]?
  | 0, i, h => by simp at h
  | n + 1, i, h => by
    rw [List.replicate_succ, List.flatten_cons]
    by_cases hi : i < l.length
    · rw [List.getElem?_append_left hi, Nat.mod_eq_of_lt hi]
    · rw [List.getElem?_append_right (by omega), flatten_get l n (i - l.length) (by rw [Nat.add_mul] at h; omega), Nat.mod_eq_sub_mod (a := i) (by omega)]
theorem flatten_len {α : Type} (l : List α) : ∀ n : Nat, (List.replicate n l).flatten.length = n * l.length
  | 0 => by simp
  | n + 1 => by rw [List.replicate_succ, List.flatten_cons, List.length_append, flatten_len l n, Nat.add_mul]; omega
theorem madeCells_eq (z : Array Value) (n : Nat) : madeCells z (n * z.size) = (List.replicate n z.toList).flatten.toArray := by
  apply Array.ext_getElem?
  intro i
  by_cases hi : i < n * z.size
  · have hz : 0 < z.size := by
      rcases Nat.eq_zero_or_pos z.size with h | h
      · rw [h] at hi; simp at hi
      · exact h
    have hm := Nat.mod_lt i hz
    have h1 := flatten_get z.toList n i (by rw [Array.length_toList]; exact hi)
    have h2 : (List.replicate n z.toList).flatten.toArray[i]? = (List.replicate n z.toList).flatten[i]? := by simp
    rw [h2, h1, Array.length_toList, Array.getElem?_toList, Array.getElem?_eq_getElem hm]
    simp [madeCells, hi, hm]
  · rw [Array.getElem?_eq_none (by rw [size_madeCells]; omega), Array.getElem?_eq_none (by simp only [List.size_toArray, flatten_len, Array.length_toList]; omega)]
section
variable {P : Program} {o : Oper} {σ : St} {d : D}
theorem op_makeZ {t : TypeId} {x y : Operand} (ho : o.op = .makeSlice t x y) {e : TypeId} {sz by' : Nat} {z : Value} (hs : slTy P t = some (e, sz, by', some z)) {zs : List V} (hz : constNs z.cells.toList = some zs) (hzc : z.cells.size = sz) {k1 k2 : IntKind} {n : Int} (h0 : 0 ≤ n) (hn : (by' : Int) * n ≤ 281474976710656) (hn2 : n ≤ 9223372036854775807) :
    OpOK P o [.v (.int k1 0), .v (.int k2 n)] σ (.gro σ.H.length 0 sz) ⟨σ.H ++ [some ((List.replicate n.toNat zs).flatten.map .v)], σ.own⟩ := by
  intro E g a w K Q hw hds hK
  simp only [ho, Op.operands, repDs_two] at hds
  obtain ⟨u, v, eq, h1', h2⟩ := hds
  simp only [List.map_cons, List.map_nil, List.cons.injEq, and_true] at eq
  obtain ⟨e1, e2⟩ := eq
  simp only [repD, repV_int] at h1' h2
  subst h1' h2
  obtain ⟨i, hu, hi, hsz, hby, hzz⟩ := slTy_parts hs
  have hrun := run_make (P := P) w t e i z hu hi hzz k1 k2 0 n (Int.le_refl _) h0 (by rw [hby]; exact hn) hn2
  rw [hsz, ← hzc, madeCells_eq] at hrun
  obtain ⟨hr1, ho1⟩ := repA_repDs (g := g) (constNs_rep (M := g.M) hz)
  have hr : ∀ m, repDs g ((List.replicate m zs).flatten.map .v) (List.replicate m z.cells.toList).flatten ∧ ∀ c ∈ (List.replicate m zs).flatten.map D.v, c.one = true := by
    intro m
    induction m with
    | zero => simp [repDs]
    | succ m ih =>
      simp only [List.replicate_succ, List.flatten_cons, List.map_append]
      refine ⟨repDs_append hr1 ih.1, fun c hc => ?_⟩
      rcases List.mem_append.1 hc with h | h
      · exact ho1 c h
      · exact ih.2 c h
  obtain ⟨g', hw', hle, hβ, hκ, hn'⟩ := hw.newObjR (us := (List.replicate n.toNat z.cells.toList).flatten) (rest := []) e (hr n.toNat).1 (hr n.toNat).2
  rw [List.append_nil] at hw' hκ
  have := hK g' _ (.slice (some ⟨w.heap.size, 0, none⟩) 0 n.toNat) hw' hle (by
    simp only [repD]
    exact ⟨by omega, n.toNat, Nat.zero_le _, by rw [hκ, flatten_len, Array.length_toList, hzc], by rw [hβ]⟩)
  unfold Oper.wp execOp
  simp only [ho, e1, e2, Sem.run_bind, hrun, Result.andThen_ok]
  exact this
theorem op_appendGI {x y : Operand} {t : TypeId} (ho : o.op = .call { callee := .builtin .append, args := #[x, y], argTypes := #[t, t] }) {e : TypeId} {sz by' : Nat} {z : Option Value} (hs : slTy P t = some (e, sz, by', z)) (hsz : 0 < sz)
    {q len : Nat} {cs : List D} {ys : List V} (hq : σ.H[q]? = some (some cs)) (hroom : (len + ys.length) * sz ≤ cs.length) (hys : ∀ y ∈ ys, y.size = sz) (hpos : ys ≠ []) :
    OpOK P o [.gro q len sz, .v (.list ys)] σ (.gro q (len + ys.length) sz) ⟨σ.H.set q (some (cs.take (len * sz) ++ flatV ys ++ cs.drop (len * sz + (flatV ys).length))), σ.own⟩ := by
  intro E g a w K Q hw hds hK
  simp only [ho, Op.operands, Call.operands] at hds
  obtain ⟨u, v, eq, hu, hv⟩ := repDs_two.1 (by simpa using hds)
  simp only [List.cons.injEq, and_true] at eq
  simp only [repD] at hu hv
  obtain ⟨hqn, cap, hcap, hκ, rfl⟩ := hu
  obtain ⟨ad, cap2, rfl, hc2, hor⟩ := repV_list_cells hv hys hsz
  rcases hor with h | ⟨b, off, vs, rfl, hin, hE⟩
  · exact absurd h hpos
  obtain ⟨h5, h6⟩ := repE_repDs hE
  obtain ⟨i, ht, hi, hisz, hib, hiz⟩ := slTy_parts hs
  obtain ⟨us, rest, et, hb, hr, h1, hM, hκ1⟩ := hw.rep.obj q cs hq
  have hul : us.length = cs.length := repDs_length hr
  have hvl0 : vs.length = ys.length * sz := repE_length hE
  have hvl : vs.length = ys.length * i.size := by rw [hvl0, hisz]
  have hfl : (flatV ys).length = vs.length := (repDs_length h5).symm
  rw [Nat.add_mul] at hroom
  have hroom' : len + ys.length ≤ cap := by
    have : (len + ys.length) * sz ≤ cap * sz := by rw [hκ, ← hκ1, List.length_append, Nat.add_mul]; omega
    exact Nat.le_of_mul_le_mul_right this hsz
  have hone : ∀ u ∈ vs, u.oneCell' = true := repDs_oneCells h6 h5
  have hfit : len * i.size + vs.length ≤ (us ++ rest).toArray.size := by
    rw [List.size_toArray, List.length_append, hisz]; omega
  have hrun := run_append_room' (P := P) w t o.type e et i ht hi (g.β q) len cap (us ++ rest).toArray hb ⟨b, off, none⟩ ys.length cap2 vs hvl (mem_cells hw hin) hone hroom' hfit
  have hrow : (us ++ rest).toArray.toList.take (len * i.size) ++ vs ++ (us ++ rest).toArray.toList.drop (len * i.size + vs.length) = (us.take (len * sz) ++ vs ++ us.drop (len * sz + vs.length)) ++ rest := by
    simp only [hisz]
    rw [List.take_append_of_le_length (by omega), List.drop_append_of_le_length (by omega)]
    simp
  rw [hrow] at hrun
  have hw1 := hw.setObj (cs' := cs.take (len * sz) ++ flatV ys ++ cs.drop (len * sz + (flatV ys).length)) (w' := w.setRow (g.β q) ((us.take (len * sz) ++ vs ++ us.drop (len * sz + vs.length)) ++ rest).toArray) hq (us := us.take (len * sz) ++ vs ++ us.drop (len * sz + vs.length)) (rest := rest) (e := et) (setRow_heap w _ _ _ et _ hb)
    (by rw [← hκ1]; simp only [List.length_append, List.length_take, List.length_drop]; omega)
    (repDs_append (repDs_append (repDs_take hr _) h5) (by rw [hfl]; exact repDs_drop hr _))
    (fun c hc => by
      rcases List.mem_append.1 hc with h | h
      · rcases List.mem_append.1 h with h | h
        · exact h1 c (List.mem_of_mem_take h)
        · exact h6 c h
      · exact h1 c (List.mem_of_mem_drop h)) (fun b hb => setRow_other w _ _ _ hb) (by simp) rfl rfl rfl
  have := hK g _ (.slice (some ⟨g.β q, 0, none⟩) (len + ys.length) cap) hw1 (Gh.le_refl g) (by simp only [repD]; exact ⟨hqn, cap, hroom', hκ, rfl⟩)
  unfold Oper.wp execOp
  simp only [ho, resolve, invoke, builtin, Sem.run_bind, Sem.run_pure, Result.andThen_ok, List.map_toArray, List.map_cons, List.map_nil, eq.1, eq.2, hrun]
  exact this
end
end Go.Dv

namespace Go.Nv
open Go.Dv

/-- holds it in every state, as long as some cells stay, or in one alone? -/
inductive Kd where
  | pure
  | load (q off n : Nat)
  | eff
noncomputable def cellsAt (τ : St) (q off n : Nat) : Option (List D) := match τ.H[q]? with
  | some (some cs) => cond (Nat.ble (off + n) cs.length) (some ((cs.drop off).take n)) none
  | _ => none
theorem cellsAt_some {τ : St} {q off n : Nat} {l : List D} (h : cellsAt τ q off n = some l) : ∃ cs, τ.H[q]? = some (some cs) ∧ off + n ≤ cs.length ∧ (cs.drop off).take n = l := by
  unfold cellsAt at h
  split at h
  · rename_i cs hcs
    cases hb : Nat.ble (off + n) cs.length with
    | false => rw [hb] at h; simp at h
    | true => rw [hb] at h; simp at h; exact ⟨cs, hcs, Nat.le_of_ble_eq_true hb, h⟩
  · simp at h
theorem cellsAt_of {τ : St} {q off n : Nat} {cs : List D} (h : τ.H[q]? = some (some cs)) (hl : off + n ≤ cs.length) : cellsAt τ q off n = some ((cs.drop off).take n) := by
  unfold cellsAt
  rw [h]
  simp only [Nat.ble_eq_true_of_le hl, cond_true]
def KdOK (P : Program) (o : Oper) (ds : List D) (σ : St) (d : D) (σ' : St) : Kd → Prop
  | .pure => σ' = σ ∧ ∀ τ, OpOK P o ds τ d τ
  | .load q off n => σ' = σ ∧ (cellsAt σ q off n).isSome = true ∧ ∀ τ, cellsAt τ q off n = cellsAt σ q off n → OpOK P o ds τ d τ
  | .eff => OpOK P o ds σ d σ'
theorem KdOK.op {P : Program} {o : Oper} {ds : List D} {σ σ' : St} {d : D} {kd : Kd} (h : KdOK P o ds σ d σ' kd) : OpOK P o ds σ d σ' := by
  cases kd with
  | pure => obtain ⟨rfl, h⟩ := h; exact h _
  | load q off n => obtain ⟨rfl, _, h⟩ := h; exact h _ rfl
  | eff => exact h

abbrev KO := Sc → D → St → Kd → Prop
def VOK (P : Program) (o : Oper) (ds : List D) (σ : St) (K : KO) : Prop := ∃ s d σ' kd, K s d σ' kd ∧ KdOK P o ds σ d σ' kd

def memQ (l : List Nat) (t : Nat) : Bool := l.any (Nat.beq t)
noncomputable def freshQ (own : List (Nat × Nat × List V)) (k : Nat) : Bool := own.all fun x => !Nat.beq x.1 k
theorem freshQ_ok {own : List (Nat × Nat × List V)} {k : Nat} (h : freshQ own k = true) : ∀ x ∈ own, x.1 ≠ k := fun x hx e => by
  have := List.all_eq_true.1 h x hx
  rw [e, Nat.beq_refl] at this; simp at this
noncomputable def ownK {β : Type} (own : List (Nat × Nat × List V)) (k sz : Nat) (zs : List V) (K : List (Nat × Nat × List V) → β) : β :=
  List.rec (motive := fun _ => (List (Nat × Nat × List V) → β) → β) (fun K => K []) (fun x _ ih K => ih fun r => Bool.rec (K (x :: r)) (K ((k, sz, zs) :: r)) (Nat.beq x.1 k)) own K
theorem ownK_eq {β : Type} (k sz : Nat) (zs : List V) : ∀ (own : List (Nat × Nat × List V)) (K : List (Nat × Nat × List V) → β), ownK own k sz zs K = K (own.map (repl k sz zs))
  | [], _ => rfl
  | x :: own, K => by
    have h : ownK (x :: own) k sz zs K = ownK own k sz zs fun r => Bool.rec (K (x :: r)) (K ((k, sz, zs) :: r)) (Nat.beq x.1 k) := rfl
    rw [h, ownK_eq k sz zs own]
    simp only [List.map_cons, repl]
    by_cases e : x.1 = k
    · rw [if_pos e, e, Nat.beq_refl]
    · rw [if_neg e, show Nat.beq x.1 k = false from by cases h : Nat.beq x.1 k with | false => rfl | true => exact absurd (Nat.eq_of_beq_eq_true h) e]
noncomputable def ownGet (own : List (Nat × Nat × List V)) (k : Nat) : Option (Nat × List V) :=
  List.rec none (fun x _ ih => Bool.rec ih (some x.2) (Nat.beq x.1 k)) own
theorem ownGet_mem {k : Nat} {p : Nat × List V} : ∀ {own : List (Nat × Nat × List V)}, ownGet own k = some p → (k, p.1, p.2) ∈ own
  | [], h => by have : ownGet [] k = none := rfl; rw [this] at h; simp at h
  | x :: l, h => by
    have e : ownGet (x :: l) k = Bool.rec (ownGet l k) (some x.2) (Nat.beq x.1 k) := rfl
    rw [e] at h
    cases hb : Nat.beq x.1 k with
    | false => rw [hb] at h; exact List.mem_cons_of_mem _ (ownGet_mem h)
    | true =>
      rw [hb] at h
      have := Nat.eq_of_beq_eq_true hb; subst this
      simp at h; subst h; simp
/-- a list of so many elements of so many bytes can be made -/
abbrev LenOK (n by' : Nat) : Prop := n * by' ≤ 140737488355328 ∧ n ≤ 140737488355328

section
variable {P : Program} {o : Oper} {σ : St}
theorem op_appendNils {x y : Operand} {t : TypeId} (ho : o.op = .call { callee := .builtin .append, args := #[x, y], argTypes := #[t, t] }) {e : TypeId} {sz by' : Nat} {z : Value} (hs : slTy P t = some (e, sz, by', some z)) (hzc : z.cells.size = sz)
    (k : Nat) (hk : ∀ x ∈ σ.own, x.1 ≠ k) (h0 : 0 < sz) {ys : List V} (hsy : ∀ y ∈ ys, y.size = sz) (hlen : ys.length * by' ≤ 140737488355328) (hlen2 : ys.length ≤ 140737488355328) :
    OpOK P o [.v .nils, .v (.list ys)] σ (.acc k ys) ⟨σ.H, (k, sz, ys) :: σ.own⟩ := by
  intro E g a w K Q hw hds hK
  simp only [ho, Op.operands, Call.operands] at hds
  obtain ⟨u, v, eq, h1, h2⟩ := repDs_two.1 (by simpa using hds)
  simp only [List.cons.injEq, and_true] at eq
  simp only [repD, repV_nils] at h1 h2
  subst h1
  obtain ⟨hw1, hle1⟩ := hw.addOwn (k := k) (sz := sz) (xs := []) (u := .slice none 0 0) hk ⟨h0, by simp⟩ (repV_nil _) (.inl ⟨none, rfl⟩) (fun b hb => by simp [ownB] at hb)
  obtain ⟨u', w', g', hrun, hw', hle, hr⟩ := append_core (P := P) (ty := o.type) hw1 hs hzc (k := k) (xs := []) (by simp) hsy (by simpa using hlen) (by simpa using hlen2) (u := .slice none 0 0) (by simp) (h2.mono hle1.M)
  have hown : σ.own.map (repl k sz ys) = σ.own := by
    conv => rhs; rw [← List.map_id σ.own]
    exact List.map_congr_left fun x hx => by simp [repl, hk x hx]
  simp only [List.nil_append, List.map_cons, hown] at hw' hr
  have e1 : repl k sz ys (k, sz, []) = (k, sz, ys) := by simp [repl]
  rw [e1] at hw'
  have := hK g' w' u' hw' (Gh.le_trans hle1 hle) hr
  unfold Oper.wp execOp
  simp only [ho, resolve, invoke, builtin, Sem.run_bind, Sem.run_pure, Result.andThen_ok, List.map_toArray, List.map_cons, List.map_nil, eq.1, eq.2, hrun]
  exact this
/-- an empty literal that may be appended to -/
theorem op_buildSlice0A {t : TypeId} {parts : Array (Nat × Operand)} (ho : o.op = .buildSlice t 0 parts) (hp : parts = #[]) {e : TypeId} {sz by' : Nat} {z : Option Value} (hs : slTy P t = some (e, sz, by', z)) (hsz : 0 < sz) (k : Nat) (hk : ∀ x ∈ σ.own, x.1 ≠ k) :
    OpOK P o [] σ (.acc k []) ⟨σ.H, (k, sz, []) :: σ.own⟩ := by
  intro E g a w K Q hw hds hK
  obtain ⟨i, hu, hi, rfl, rfl, rfl⟩ := slTy_parts hs
  subst hp
  have hw1 := hw.alloc (.cells #[] e (0, 0))
  obtain ⟨hw2, hle2⟩ := hw1.addOwn (k := k) (sz := i.size) (xs := []) (u := .slice (some ⟨w.heap.size, 0, none⟩) 0 0) hk ⟨hsz, by simp⟩ (by rw [repV_list]; exact ⟨_, 0, rfl, Nat.le_refl _, .inl rfl⟩) (.inl ⟨_, rfl⟩) (fun b hb => by simp [ownB] at hb)
  have := hK _ _ (.slice (some ⟨w.heap.size, 0, none⟩) 0 0) hw2 hle2 (by simp only [repD]; exact ⟨by rw [repV_list]; exact ⟨_, 0, rfl, Nat.le_refl _, .inl rfl⟩, by simp⟩)
  unfold Oper.wp execOp
  simpa [ho, Instr.buildSlice, run_underlying hu, sizeOf, typeInfo, hi, Instr.fill, newRow, Oper.upon, show Array.range 0 = #[] from rfl] using this
end

noncomputable def vLoad (P : Program) (t : TypeId) (q off : Nat) (σ : St) (s : Sc) (K : KO) : Prop := match szAgg P t with
  | some (1, false) => (match s with
    | .h (.m d) s => (match σ.H[q]? with
      | some (some cs) => cs[off]? = some d ∧ K s d σ (.load q off 1)
      | _ => False)
    | s => (match σ.H[q]? with
      | some (some cs) => (match cs[off]? with
        | some d => K s d σ (.load q off 1)
        | none => False)
      | _ => False))
  | some (n, true) => (match s with
    | .h (.m (.dagg ds)) s => (match σ.H[q]? with
      | some (some cs) => off + n ≤ cs.length ∧ (cs.drop off).take n = ds ∧ K s (.dagg ds) σ (.load q off n)
      | _ => False)
    | .h (.m (.v (.agg xs))) s => (match σ.H[q]? with
      | some (some cs) => off + n ≤ cs.length ∧ (cs.drop off).take n = xs.map .v ∧ K s (.v (.agg xs)) σ (.load q off n)
      | _ => False)
    | s => match σ.H[q]? with
    | some (some cs) => cond (Nat.ble (off + n) cs.length) (match toVsN ((cs.drop off).take n) with
      | some xs => K s (.v (.agg xs)) σ (.load q off n)
      | none => False) False
    | _ => False)
  | _ => False
theorem drop_take_one {cs : List D} {off : Nat} {d : D} (h : cs[off]? = some d) : off + 1 ≤ cs.length ∧ (cs.drop off).take 1 = [d] := by
  have hlt := (List.getElem?_eq_some_iff.1 h).1
  refine ⟨hlt, ?_⟩
  rw [List.drop_eq_getElem_cons hlt, List.take_succ_cons, List.take_zero, (List.getElem?_eq_some_iff.1 h).2]
theorem load1_ok {P : Program} {o : Oper} {σ : St} {t : TypeId} {a : Operand} (ho : o.op = .load t a) (ht : szAgg P t = some (1, false)) {q off : Nat} {cs : List D} {d : D} (hq : σ.H[q]? = some (some cs)) (hd : cs[off]? = some d) :
    KdOK P o [.ptr q off] σ d σ (.load q off 1) := by
  obtain ⟨h1, h2⟩ := drop_take_one hd
  have hc := cellsAt_of hq h1
  refine ⟨rfl, by rw [hc]; rfl, fun τ hτ => ?_⟩
  rw [hc, h2] at hτ
  obtain ⟨cs', h3, h4, h5⟩ := cellsAt_some hτ
  refine op_loadP1 ho ht h3 ?_
  have : ((cs'.drop off).take 1)[0]? = some d := by rw [h5]; rfl
  simpa using this
theorem vLoad_ok {P : Program} {t : TypeId} {q off : Nat} {σ : St} {s : Sc} {K : KO} (h : vLoad P t q off σ s K) {o : Oper} {a : Operand} (ho : o.op = .load t a) : VOK P o [.ptr q off] σ K := by
  unfold vLoad at h
  split at h
  · rename_i ht
    split at h
    · split at h
      · rename_i cs hq; exact ⟨_, _, _, _, h.2, load1_ok ho ht hq h.1⟩
      · exact h.elim
    · split at h
      · rename_i cs hq
        split at h
        · rename_i d hd; exact ⟨_, _, _, _, h, load1_ok ho ht hq hd⟩
        · exact h.elim
      · exact h.elim
  · rename_i n ht
    split at h
    · split at h
      · rename_i cs hq
        obtain ⟨hl, hd, h2⟩ := h
        have hc := cellsAt_of hq hl
        refine ⟨_, _, _, _, h2, rfl, by rw [hc]; rfl, fun τ hτ => ?_⟩
        rw [hc] at hτ
        obtain ⟨cs', h3, h4, h5⟩ := cellsAt_some hτ
        exact op_loadPD ho ht h3 h4 (by rw [h5]; exact hd)
      · exact h.elim
    · split at h
      · rename_i cs hq
        obtain ⟨hl, hd, h2⟩ := h
        have hc := cellsAt_of hq hl
        refine ⟨_, _, _, _, h2, rfl, by rw [hc]; rfl, fun τ hτ => ?_⟩
        rw [hc] at hτ
        obtain ⟨cs', h3, h4, h5⟩ := cellsAt_some hτ
        exact op_loadPA ho ht h3 h4 (by rw [h5, hd]; exact toVs_map _)
      · exact h.elim
    split at h
    · rename_i cs hq
      obtain ⟨h1, h2⟩ := cond_iff h
      split at h2
      · rename_i xs hx
        have hl := Nat.le_of_ble_eq_true h1
        have hc := cellsAt_of hq hl
        refine ⟨_, _, _, _, h2, rfl, by rw [hc]; rfl, fun τ hτ => ?_⟩
        rw [hc] at hτ
        obtain ⟨cs', h3, h4, h5⟩ := cellsAt_some hτ
        exact op_loadPA ho ht h3 h4 (by rw [h5]; exact toVsN_eq hx)
      · exact h2.elim
    · exact h.elim
  · exact h.elim

noncomputable def vStore (P : Program) (t : TypeId) (q off : Nat) (d : D) (σ : St) (s : Sc) (K : KO) : Prop := match szAgg P t with
  | some (1, false) => (match σ.H[q]? with
    | some (some cs) => cond d.one (match s with
      | .h .w s => off < cs.length ∧ setK σ.H q (some (cs.set off d)) fun H => K s .undef ⟨H, σ.own⟩ .eff
      | s => cond (Nat.blt off cs.length) (setK cs off d fun cs => setK σ.H q (some cs) fun H => K s .undef ⟨H, σ.own⟩ .eff) False) False
    | _ => False)
  | some (n, true) => (match σ.H[q]? with
    | some (some cs) => (match s with
      | .h .ww s => cond (d.sto && Nat.beq (cellsD d).length n) (off + n ≤ cs.length ∧ setK σ.H q (some (cs.take off ++ cellsD d ++ cs.drop (off + n))) fun H => K s .undef ⟨H, σ.own⟩ .eff) False
      | s => cond (d.sto && Nat.beq (cellsD d).length n && Nat.ble (off + n) cs.length) (forceK (cs.take off ++ cellsD d ++ cs.drop (off + n)) fun cs => setK σ.H q (some cs) fun H => K s .undef ⟨H, σ.own⟩ .eff) False)
    | _ => False)
  | _ => False
theorem vStore_ok {P : Program} {t : TypeId} {q off : Nat} {d : D} {σ : St} {s : Sc} {K : KO} (h : vStore P t q off d σ s K) {o : Oper} {a b : Operand} (ho : o.op = .store t a b) : VOK P o [.ptr q off, d] σ K := by
  unfold vStore at h
  split at h
  · rename_i ht
    split at h
    · rename_i cs hq
      obtain ⟨h1, h2⟩ := cond_iff h
      split at h2
      · rw [setK_eq] at h2
        exact ⟨_, _, _, _, h2.2, op_store1 ho h1 ht hq h2.1⟩
      · obtain ⟨h3, h4⟩ := cond_iff h2
        rw [setK_eq, setK_eq] at h4
        exact ⟨_, _, _, _, h4, op_store1 ho h1 ht hq (Nat.le_of_ble_eq_true h3)⟩
    · exact h.elim
  · rename_i n ht
    split at h
    · rename_i cs hq
      split at h
      · obtain ⟨h1, h2, h3⟩ := cond_iff h
        simp only [Bool.and_eq_true] at h1
        rw [setK_eq] at h3
        exact ⟨_, _, _, _, h3, op_store ho h1.1 ht (Nat.eq_of_beq_eq_true h1.2) hq h2⟩
      obtain ⟨h1, h2⟩ := cond_iff h
      simp only [Bool.and_eq_true] at h1
      rw [forceK_eq, setK_eq] at h2
      exact ⟨_, _, _, _, h2, op_store ho h1.1.1 ht (Nat.eq_of_beq_eq_true h1.1.2) hq (Nat.le_of_ble_eq_true h1.2)⟩
    · exact h.elim
  · exact h.elim

/-- an object has moved to the end, with new cells -/
structure GxOK (H H' : List (Option (List D))) (q : Nat) (l : List D) : Prop where
  eq : H' = H.set q none ++ [some l]
noncomputable def vApp (P : Program) (t : TypeId) (x y : D) (σ : St) (s : Sc) (K : KO) : Prop := match slTy P t, y with
  | some (_, sz, by', some z), .v (.list ys) => cond (Nat.beq z.cells.size sz && Nat.blt 0 sz) (match x with
    | .acc k xs => (match ownGet σ.own k with
      | some (sz', xs') => cond (Nat.beq sz' sz) (xs' = xs ∧ LenOK (xs.length + ys.length) by' ∧ (match s with
        | .h .w s => (∀ y ∈ ys, y.size = sz) ∧ ownK σ.own k sz (xs ++ ys) fun own => K s (.acc k (xs ++ ys)) ⟨σ.H, own⟩ .eff
        | s => cond (allSz sz ys) (ownK σ.own k sz (xs ++ ys) fun own => K s (.acc k (xs ++ ys)) ⟨σ.H, own⟩ .eff) False)) False
      | none => False)
    | .v .nils => (match s with
      | .h (.a k) (.h .w s) => cond (freshQ σ.own k) (LenOK ys.length by' ∧ (∀ y ∈ ys, y.size = sz) ∧ K s (.acc k ys) ⟨σ.H, (k, sz, ys) :: σ.own⟩ .eff) False
      | .h (.a k) s => cond (freshQ σ.own k && allSz sz ys) (LenOK ys.length by' ∧ K s (.acc k ys) ⟨σ.H, (k, sz, ys) :: σ.own⟩ .eff) False
      | .h (.gx _ H') s => ys ≠ [] ∧ (∀ y ∈ ys, y.size = sz) ∧ LenOK ys.length by' ∧ H' = σ.H ++ [some (flatV ys)] ∧ K s (.gro σ.H.length ys.length sz) ⟨H', σ.own⟩ .eff
      | .h .g s => ys ≠ [] ∧ (∀ y ∈ ys, y.size = sz) ∧ LenOK ys.length by' ∧ snocK σ.H (some (flatV ys)) fun H => K s (.gro σ.H.length ys.length sz) ⟨H, σ.own⟩ .eff
      | _ => False)
    | .gro q len sz' => (match s with
      | .h (.gx cs H') s => cond (Nat.beq sz' sz) (σ.H[q]? = some (some cs) ∧ cs.length = len * sz ∧ ys ≠ [] ∧ (∀ y ∈ ys, y.size = sz) ∧ LenOK (len + ys.length) by' ∧ GxOK σ.H H' q (cs ++ flatV ys) ∧ K s (.gro σ.H.length (len + ys.length) sz) ⟨H', σ.own⟩ .eff) False
      | .h .w s => (match σ.H[q]? with
        | some (some cs) => cond (Nat.beq sz' sz) ((len + ys.length) * sz ≤ cs.length ∧ ys ≠ [] ∧ (∀ y ∈ ys, y.size = sz) ∧ setK σ.H q (some (cs.take (len * sz) ++ flatV ys ++ cs.drop (len * sz + (flatV ys).length))) fun H => K s (.gro q (len + ys.length) sz) ⟨H, σ.own⟩ .eff) False
        | _ => False)
      | s => match σ.H[q]? with
      | some (some cs) => cond (Nat.beq sz' sz) (cs.length = len * sz ∧ ys ≠ [] ∧ (∀ y ∈ ys, y.size = sz) ∧ LenOK (len + ys.length) by' ∧ setK σ.H q none fun H => snocK H (some (cs ++ flatV ys)) fun H => K s (.gro σ.H.length (len + ys.length) sz) ⟨H, σ.own⟩ .eff) False
      | _ => False)
    | _ => False) False
  | _, _ => False
theorem vApp_ok {P : Program} {t : TypeId} {x y : D} {σ : St} {s : Sc} {K : KO} (h : vApp P t x y σ s K) {o : Oper} {a b : Operand} (ho : o.op = .call { callee := .builtin .append, args := #[a, b], argTypes := #[t, t] }) : VOK P o [x, y] σ K := by
  unfold vApp at h
  split at h
  · rename_i e sz by' z ys hs
    obtain ⟨h1, h2⟩ := cond_iff h
    simp only [Bool.and_eq_true] at h1
    have hz := Nat.eq_of_beq_eq_true h1.1
    have hp := Nat.le_of_ble_eq_true h1.2
    split at h2
    · rename_i k xs
      split at h2
      · rename_i sz' xs' hg
        obtain ⟨h3, rfl, h4, h5⟩ := cond_iff h2
        have := Nat.eq_of_beq_eq_true h3; subst this
        have hm := ownGet_mem hg
        split at h5
        · rw [ownK_eq] at h5
          exact ⟨_, _, _, _, h5.2, op_append ho hs hz hm h5.1 h4.1 h4.2⟩
        · obtain ⟨h6, h7⟩ := cond_iff h5
          rw [ownK_eq] at h7
          exact ⟨_, _, _, _, h7, op_append ho hs hz hm (allSz_ok h6) h4.1 h4.2⟩
      · exact h2.elim
    · split at h2
      · obtain ⟨h3, h4, h5, h6⟩ := cond_iff h2
        exact ⟨_, _, _, _, h6, op_appendNils ho hs hz _ (freshQ_ok h3) hp h5 h4.1 h4.2⟩
      · obtain ⟨h3, h4, h5⟩ := cond_iff h2
        rw [Bool.and_eq_true] at h3
        exact ⟨_, _, _, _, h5, op_appendNils ho hs hz _ (freshQ_ok h3.1) hp (allSz_ok h3.2) h4.1 h4.2⟩
      · obtain ⟨h3, h4, h5, rfl, h6⟩ := h2
        exact ⟨_, _, _, _, h6, op_appendG0V ho hs hz hp h4 h3 h5.1 h5.2⟩
      · obtain ⟨h3, h4, h5, h6⟩ := h2
        rw [snocK_eq] at h6
        exact ⟨_, _, _, _, h6, op_appendG0V ho hs hz hp h4 h3 h5.1 h5.2⟩
      · exact h2.elim
    · rename_i q len sz'
      split at h2
      · obtain ⟨h3, hq, h4, h5, h6, h7, h9, h8⟩ := cond_iff h2
        have := Nat.eq_of_beq_eq_true h3; subst this
        have e := h9.eq; subst e
        exact ⟨_, _, _, _, h8, op_appendGV ho hs hz hp hq h4 h6 h5 h7.1 h7.2⟩
      · split at h2
        · rename_i cs hq
          obtain ⟨h3, h4, h5, h6, h7⟩ := cond_iff h2
          have := Nat.eq_of_beq_eq_true h3; subst this
          rw [setK_eq] at h7
          exact ⟨_, _, _, _, h7, op_appendGI ho hs hp hq h4 h6 h5⟩
        · exact h2.elim
      split at h2
      · rename_i cs hq
        obtain ⟨h3, h4, h5, h6, h7, h8⟩ := cond_iff h2
        have := Nat.eq_of_beq_eq_true h3; subst this
        rw [setK_eq, snocK_eq] at h8
        exact ⟨_, _, _, _, h8, op_appendGV ho hs hz hp hq h4 h6 h5 h7.1 h7.2⟩
      · exact h2.elim
    · exact h2.elim
  · exact h.elim

noncomputable def vMake (P : Program) (t : TypeId) (k1 k2 : IntKind) (a b : Int) (σ : St) (s : Sc) (K : KO) : Prop := match slTy P t with
  | some (_, sz, by', some z) => (match s with
    | .h (.a k) s => cond (Nat.blt 0 sz && freshQ σ.own k) (a = 0 ∧ 0 ≤ b ∧ (by' : Int) * b ≤ 281474976710656 ∧ b ≤ 9223372036854775807 ∧ K s (.acc k []) ⟨σ.H, (k, sz, []) :: σ.own⟩ .eff) False
    | .h .g s => (match constNs z.cells.toList with
      | some zs => cond (Nat.beq z.cells.size sz) (a = 0 ∧ 0 ≤ b ∧ (by' : Int) * b ≤ 281474976710656 ∧ b ≤ 9223372036854775807 ∧ snocK σ.H (some ((List.replicate b.toNat zs).flatten.map .v)) fun H => K s (.gro σ.H.length 0 sz) ⟨H, σ.own⟩ .eff) False
      | none => False)
    | s => (match constN z with
      | some zv => cond (Nat.beq sz 1) (a = b ∧ 0 ≤ b ∧ (by' : Int) * b ≤ 281474976710656 ∧ b ≤ 9223372036854775807 ∧ snocK σ.H (some (List.replicate b.toNat (.v zv))) fun H => K s (.arr σ.H.length 0 b.toNat) ⟨H, σ.own⟩ .eff) False
      | none => False))
  | _ => False
theorem vMake_ok {P : Program} {t : TypeId} {k1 k2 : IntKind} {a b : Int} {σ : St} {s : Sc} {K : KO} (h : vMake P t k1 k2 a b σ s K) {o : Oper} {x y : Operand} (ho : o.op = .makeSlice t x y) : VOK P o [.v (.int k1 a), .v (.int k2 b)] σ K := by
  unfold vMake at h
  split at h
  · rename_i e sz by' z hs
    split at h
    · obtain ⟨h1, rfl, h2, h3, h4, h5⟩ := cond_iff h
      rw [Bool.and_eq_true] at h1
      exact ⟨_, _, _, _, h5, op_make0 ho hs (Nat.le_of_ble_eq_true h1.1) _ (freshQ_ok h1.2) h2 h3 h4⟩
    · split at h
      · rename_i zs hzs
        obtain ⟨h1, rfl, h2, h3, h4, h5⟩ := cond_iff h
        rw [snocK_eq] at h5
        exact ⟨_, _, _, _, h5, op_makeZ ho hs hzs (Nat.eq_of_beq_eq_true h1) h2 h3 h4⟩
      · exact h.elim
    · split at h
      · rename_i zv hzv
        obtain ⟨h1, rfl, h2, h3, h4, h5⟩ := cond_iff h
        have := Nat.eq_of_beq_eq_true h1; subst this
        rw [snocK_eq] at h5
        exact ⟨_, _, _, _, h5, op_makeN ho hs hzv h2 h3 h4⟩
      · exact h.elim
  · exact h.elim

/-- the object that a call is handed -/
def qOf : List D → Option Nat
  | [] => none
  | .ptr q _ :: _ => some q
  | .arr q _ _ :: _ => some q
  | _ :: ds => qOf ds
noncomputable def c1Map (q : Nat) : List D → Option (List D)
  | [] => some []
  | .ptr q' off :: ds => cond (Nat.beq q' q) (match c1Map q ds with
    | some dc => some (.ptr 0 off :: dc)
    | none => none) none
  | .arr q' off len :: ds => cond (Nat.beq q' q) (match c1Map q ds with
    | some dc => some (.arr 0 off len :: dc)
    | none => none) none
  | d :: ds => cond d.pl (match c1Map q ds with
    | some dc => some (d :: dc)
    | none => none) none
theorem cond_some {α : Type} {b : Bool} {x : Option α} {r : α} (h : cond b x none = some r) : b = true ∧ x = some r := by cases b <;> simp_all
theorem c1Map_ok {q : Nat} : ∀ {ds dc : List D}, c1Map q ds = some dc → Args1 q ds dc
  | [], dc, h => by simp [c1Map] at h; subst h; exact .nil
  | d :: ds, dc, h => by
    unfold c1Map at h
    split at h
    · rename_i e; simp at e
    · rename_i q' off ds' e; simp only [List.cons.injEq] at e; obtain ⟨rfl, rfl⟩ := e
      obtain ⟨h1, h2⟩ := cond_some h
      have := Nat.eq_of_beq_eq_true h1; subst this
      split at h2
      · rename_i dc' hd; simp at h2; subst h2; exact .ptr (c1Map_ok hd)
      · simp at h2
    · rename_i q' off len ds' e; simp only [List.cons.injEq] at e; obtain ⟨rfl, rfl⟩ := e
      obtain ⟨h1, h2⟩ := cond_some h
      have := Nat.eq_of_beq_eq_true h1; subst this
      split at h2
      · rename_i dc' hd; simp at h2; subst h2; exact .arr (c1Map_ok hd)
      · simp at h2
    · rename_i d' ds' _ _ e; simp only [List.cons.injEq] at e; obtain ⟨rfl, rfl⟩ := e
      obtain ⟨h1, h2⟩ := cond_some h
      split at h2
      · rename_i dc' hd; simp at h2; subst h2; exact .pl h1 (c1Map_ok hd)
      · simp at h2
noncomputable def vCallE (P : Program) (f : FuncId) (fs cs : List V) (ds : List D) (σ : St) (s : Sc) (K : KO) : Prop := match s with
  | .h (.ck k k' sz xs) s => cond (freshQ σ.own k) (match toVsC ds with
    | some ys => FSpec P f ((fs ++ ys ++ cs).map .v) ⟨[], []⟩ (.acc k' xs) ⟨[], [(k', sz, xs)]⟩ ∧ K s (.acc k xs) ⟨σ.H, (k, sz, xs) :: σ.own⟩ .eff
    | none => False) False
  | .h (.ckn k k' sz xs) s => cond (freshQ σ.own k) (match toVsN ds with
    | some ys => FSpec P f ((fs ++ ys ++ cs).map .v) ⟨[], []⟩ (.acc k' xs) ⟨[], [(k', sz, xs)]⟩ ∧ K s (.acc k xs) ⟨σ.H, (k, sz, xs) :: σ.own⟩ .eff
    | none => False) False
  | .h (.cj j Hc os len) s => (match toVsC ds, Hc[j]? with
    | some ys, some (some os') => cond (D.pls os') (os = os' ∧ FSpec P f ((fs ++ ys ++ cs).map .v) ⟨[], []⟩ (.arr j 0 len) ⟨Hc, []⟩ ∧ snocK σ.H (some os') fun H => K s (.arr σ.H.length 0 len) ⟨H, σ.own⟩ .eff) False
    | _, _ => False)
  | .h (.c1 os' d) s => (match qOf ds with
    | some q => (match σ.H[q]?, c1Map q (ds.map D.un) with
      | some (some os), some dc => cond (D.pls os && D.pls os' && d.pl) (FSpec P f (fs.map .v ++ dc ++ cs.map .v) ⟨[some os], []⟩ d ⟨[some os'], []⟩ ∧ setK σ.H q (some os') fun H => K s d ⟨H, σ.own⟩ .eff) False
      | _, _ => False)
    | none => False)
  | .h (.c1k k k' sz os' xs) s => (match qOf ds with
    | some q => (match σ.H[q]?, c1Map q (ds.map D.un) with
      | some (some os), some dc => cond (D.pls os && D.pls os' && freshQ σ.own k) (FSpec P f (fs.map .v ++ dc ++ cs.map .v) ⟨[some os], []⟩ (.acc k' xs) ⟨[some os'], [(k', sz, xs)]⟩ ∧ setK σ.H q (some os') fun H => K s (.acc k xs) ⟨H, (k, sz, xs) :: σ.own⟩ .eff) False
      | _, _ => False)
    | none => False)
  | s => vPure P { (default : Oper) with op := .call { callee := .value (.func f), args := #[], argTypes := #[] } } (.v (.fn f fs cs) :: ds.map D.un) s fun s d => K s d σ .pure
theorem vCallE_ok {P : Program} {f : FuncId} {fs cs : List V} {ds : List D} {σ : St} {s : Sc} {K : KO} (h : vCallE P f fs cs ds σ s K) {o : Oper} {c : Call} {fo : Operand} (ho : o.op = .call c) (hc : c.callee = .value fo) : VOK P o (.v (.fn f fs cs) :: ds) σ K := by
  unfold vCallE at h
  split at h
  · obtain ⟨h1, h2⟩ := cond_iff h
    split at h2
    · rename_i ys hy
      refine ⟨_, _, _, _, h2.2, opOK_sub (fun g us hr => ?_) (op_call0_own (ds := ys.map .v) ho hc (pls_map ys) _ (freshQ_ok h1) (by simpa [List.map_append] using h2.1))⟩
      simp only [repDs] at hr ⊢
      obtain ⟨u, us', e, h3, h4⟩ := hr
      exact ⟨u, us', e, h3, toVsC_rep hy h4⟩
    · exact h2.elim
  · obtain ⟨h1, h2⟩ := cond_iff h
    split at h2
    · rename_i ys hy
      refine ⟨_, _, _, _, h2.2, opOK_sub (fun g us hr => ?_) (op_call0_own (ds := ys.map .v) ho hc (pls_map ys) _ (freshQ_ok h1) (by simpa [List.map_append] using h2.1))⟩
      simp only [repDs] at hr ⊢
      obtain ⟨u, us', e, h3, h4⟩ := hr
      exact ⟨u, us', e, h3, toVsN_rep hy h4⟩
    · exact h2.elim
  · split at h
    · rename_i ys os' hy hj
      obtain ⟨h1, _, h2, h3⟩ := cond_iff h
      rw [snocK_eq] at h3
      refine ⟨_, _, _, _, h3, opOK_sub (fun g us hr => ?_) (op_call0_arrJ (ds := ys.map .v) ho hc (pls_map ys) hj h1 (by simpa [List.map_append] using h2))⟩
      simp only [repDs] at hr ⊢
      obtain ⟨u, us', e, h3, h4⟩ := hr
      exact ⟨u, us', e, h3, toVsC_rep hy h4⟩
    · exact h.elim
  · split at h
    · rename_i q hq
      split at h
      · rename_i os dc hos hdc
        obtain ⟨h1, h2, h3⟩ := cond_iff h
        simp only [Bool.and_eq_true] at h1
        rw [setK_eq] at h3
        refine ⟨_, _, _, _, h3, opOK_sub (fun g us hr => ?_) (op_call1 (ds := ds.map D.un) ho hc hos h1.1.1 h1.1.2 (c1Map_ok hdc) h1.2 h2)⟩
        simp only [repDs] at hr ⊢
        obtain ⟨u, us', e, h3, h4⟩ := hr
        exact ⟨u, us', e, h3, repDs_un h4⟩
      · exact h.elim
    · exact h.elim
  · split at h
    · rename_i q hq
      split at h
      · rename_i os dc hos hdc
        obtain ⟨h1, h2, h3⟩ := cond_iff h
        simp only [Bool.and_eq_true] at h1
        rw [setK_eq] at h3
        refine ⟨_, _, _, _, h3, opOK_sub (fun g us hr => ?_) (op_call1_own (ds := ds.map D.un) ho hc hos h1.1.1 h1.1.2 (c1Map_ok hdc) _ (freshQ_ok h1.2) h2)⟩
        simp only [repDs] at hr ⊢
        obtain ⟨u, us', e, h3, h4⟩ := hr
        exact ⟨u, us', e, h3, repDs_un h4⟩
      · exact h.elim
    · exact h.elim
  · have h' : vCall P f fs cs (ds.map D.un) _ (fun s d => K s d σ .pure) := h
    obtain ⟨s', d, h1, h2⟩ := vCall_ok h' ho hc
    refine ⟨_, _, _, _, h1, rfl, fun τ => opOK_sub (fun g us hr => ?_) (h2 τ)⟩
    simp only [repDs] at hr ⊢
    obtain ⟨u, us', e, h3, h4⟩ := hr
    exact ⟨u, us', e, h3, repDs_un h4⟩

noncomputable def vBuildA (P : Program) (t : TypeId) (len : Nat) (ps : List (Nat × Operand)) (ds : List D) (k : Nat) (σ : St) (s : Sc) (K : KO) : Prop := match slTy P t with
  | some (_, sz, _, z) => cond (freshQ σ.own k && Nat.blt 0 sz) (match len with
    | 0 => (match ps, ds with
      | [], [] => K s (.acc k []) ⟨σ.H, (k, sz, []) :: σ.own⟩ .eff
      | _, _ => False)
    | len + 1 => (match toVsN ds with
      | some xs => cond (rowQ ps 0 && Nat.beq ps.length (len + 1) && z.isSome && Nat.ble ((len + 1) * sz) 1000 && allSz sz xs) (K s (.acc k xs) ⟨σ.H, (k, sz, xs) :: σ.own⟩ .eff) False
      | none => False)) False
  | none => False
theorem vBuildA_ok {P : Program} {t : TypeId} {len : Nat} {ps : Array (Nat × Operand)} {ds : List D} {k : Nat} {σ : St} {s : Sc} {K : KO} (h : vBuildA P t len ps.toList ds k σ s K) {o : Oper} (ho : o.op = .buildSlice t len ps) : VOK P o ds σ K := by
  unfold vBuildA at h
  split at h
  · rename_i e sz by' z hs
    obtain ⟨h1, h2⟩ := cond_iff h
    rw [Bool.and_eq_true] at h1
    have hp := Nat.le_of_ble_eq_true h1.2
    split at h2
    · split at h2
      · rename_i hps
        exact ⟨_, _, _, _, h2, op_buildSlice0A ho (by apply Array.ext'; simpa using hps) hs hp _ (freshQ_ok h1.1)⟩
      · exact h2.elim
    · rename_i len
      split at h2
      · rename_i xs hx
        obtain ⟨h3, h4⟩ := cond_iff h2
        simp only [Bool.and_eq_true] at h3
        obtain ⟨⟨⟨⟨g1, g2⟩, g3⟩, g5⟩, g6⟩ := h3
        have hl : ps.size = len + 1 := by have := Nat.eq_of_beq_eq_true g2; simpa using this
        exact ⟨_, _, _, _, h4, op_buildSliceA ho (rowQ_ok g1) hl hs g3 (toVsN_eq hx) (allSz_ok g6) (by omega) hp (by simpa using g5) _ (freshQ_ok h1.1)⟩
      · exact h2.elim
  · exact h.elim

noncomputable def vP (P : Program) (o : Oper) (ds : List D) (σ : St) (s : Sc) (K : KO) : Prop := vPure P o (ds.map D.un) s fun s d => K s d σ .pure
theorem vP_ok {P : Program} {o : Oper} {ds : List D} {σ : St} {s : Sc} {K : KO} (h : vP P o ds σ s K) : VOK P o ds σ K := by
  obtain ⟨s', d, h1, h2⟩ := vPure_ok h
  exact ⟨_, _, _, _, h1, rfl, fun τ => opOK_un (h2 τ)⟩

/-- append([]T(nil), make([]T, n)...) -/
noncomputable def vAppZ (P : Program) (t tn : TypeId) (n : Int) (σ : St) (s : Sc) (K : KO) : Prop := match slTy P t, P.underlying tn with
  | some (_, sz, by', some z), some (.int _) => cond (Nat.beq z.cells.size sz && Nat.blt 0 sz) (0 < n ∧ LenOK n.toNat by' ∧ snocK σ.H (some []) fun H => K s (.gro σ.H.length n.toNat sz) ⟨H, σ.own⟩ .eff) False
  | _, _ => False
theorem vAppZ_ok {P : Program} {t tn : TypeId} {kd : IntKind} {n : Int} {σ : St} {s : Sc} {K : KO} (h : vAppZ P t tn n σ s K) {o : Oper} {a b : Operand} (ho : o.op = .call { callee := .builtin .append, args := #[a, b], argTypes := #[t, tn] }) : VOK P o [.v .nils, .v (.int kd n)] σ K := by
  unfold vAppZ at h
  split at h
  · rename_i e sz by' z k hs hu
    obtain ⟨h1, h2, h3, h4⟩ := cond_iff h
    rw [Bool.and_eq_true] at h1
    rw [snocK_eq] at h4
    exact ⟨_, _, _, _, h4, op_appendZ ho hs (Nat.eq_of_beq_eq_true h1.1) (Nat.le_of_ble_eq_true h1.2) hu h2 h3.1 h3.2⟩
  · exact h.elim
noncomputable def vCap (P : Program) (t : TypeId) (s : Sc) (σ : St) (K : KO) : Prop := match P.underlying t with
  | some (.slice _) => K s (.v (.int .i64 0)) σ .pure
  | _ => False
/-- x[:0] -/
noncomputable def vSl0 (P : Program) (t : TypeId) (x : D) (i : Int) (σ : St) (s : Sc) (K : KO) : Prop := match x with
  | .v .nils => (match P.underlying t with
    | some (.slice e) => (match P.info? e with
      | some _ => i = 0 ∧ K s (.v .nils) σ .pure
      | none => False)
    | _ => False)
  | .gro q _ sz => (match s, slTy P t, σ.H[q]? with
    | .h (.a k) s, some (_, sz', _, _), some (some _) => cond (Nat.beq sz' sz && Nat.blt 0 sz && freshQ σ.own k) (i = 0 ∧ setK σ.H q none fun H => K s (.acc k []) ⟨H, (k, sz, []) :: σ.own⟩ .eff) False
    | _, _, _ => False)
  | _ => False
theorem vSl0_ok {P : Program} {t : TypeId} {x : D} {kd : IntKind} {i : Int} {σ : St} {s : Sc} {K : KO} (h : vSl0 P t x i σ s K) {o : Oper} {a b : Operand} (ho : o.op = .slice t a none (some b) none) : VOK P o [x, .v (.int kd i)] σ K := by
  unfold vSl0 at h
  split at h
  · split at h
    · rename_i e hu
      split at h
      · rename_i inf hi
        obtain ⟨rfl, h⟩ := h
        exact ⟨_, _, _, _, h, rfl, fun τ => op_sliceNils ho hu hi⟩
      · exact h.elim
    · exact h.elim
  · rename_i q len sz
    split at h
    · rename_i k s' e sz' by' z cs hs hq
      obtain ⟨h1, rfl, h2⟩ := cond_iff h
      simp only [Bool.and_eq_true] at h1
      have := Nat.eq_of_beq_eq_true h1.1.1; subst this
      rw [setK_eq] at h2
      exact ⟨_, _, _, _, h2, op_sliceG0 ho hs (Nat.le_of_ble_eq_true h1.1.2) hq _ (freshQ_ok h1.2)⟩
    · exact h.elim
  · exact h.elim

/-- ANY OPERATION. `im`: the variables that are written once -/
noncomputable def vOpD (P : Program) (im : List Nat) (o : Oper) (ds : List D) (σ : St) (s : Sc) (K : KO) : Prop := match s with
  | .h (.o d σ') s => OpOK P o ds σ d σ' ∧ K s d σ' .eff
  | .h (.p d) s => (∀ τ, OpOK P o ds τ d τ) ∧ K s d σ .pure
  | s => match o.op with
    | .move _ => (match ds with
      | [d] => K s d σ .pure
      | _ => False)
    | .assign _ => (match ds with
      | [d] => K s d σ .pure
      | _ => False)
    | .pick _ _ _ => (match ds with
      | [.v (.bool b), d1, d2] => Bool.rec (K s d2 σ .pure) (K s d1 σ .pure) b
      | _ => False)
    | .box _ _ => (match ds, o.dst with
      | [d], some t => Bool.rec (cond d.sto (forceK (cellsD d) fun cs => snocK σ.H (some cs) fun H => K s (.ptr σ.H.length 0) ⟨H, σ.own⟩ .eff) False) (match d.toV with
        | some y => K s (.v (.ref y)) σ .pure
        | none => False) (memQ im t)
      | _, _ => False)
    | .alloc e => (match ds, zeroN P e with
      | [], some xs => forceK (xs.map .v) fun cs => snocK σ.H (some cs) fun H => K s (.ptr σ.H.length 0) ⟨H, σ.own⟩ .eff
      | _, _ => False)
    | .store t _ _ => (match ds with
      | [.ptr q off, d] => vStore P t q off d σ s K
      | _ => False)
    | .load t _ => (match ds with
      | [.ptr q off] => vLoad P t q off σ s K
      | ds => vP P o ds σ s K)
    | .makeSlice t _ _ => (match ds with
      | [.v (.int k1 a), .v (.int k2 b)] => vMake P t k1 k2 a b σ s K
      | _ => False)
    | .build t ps => (match s with
      | .h .g s => cond (isStruct P t) (match bldTy P t, zipD ps.toList ds with
        | some (z, places), some xs => (match fillD places (z.map .v) xs with
          | some out => forceK out fun out => K s (.dagg out) σ .pure
          | none => False)
        | _, _ => False) False
      | s => vP P o ds σ s K)
    | .buildSlice t len ps => (match s with
      | .h (.a k) s => vBuildA P t len ps.toList ds k σ s K
      | .h .g s => (match len, ps.toList, ds, slTy P t with
        | 0, [], [], some (_, sz, _, _) => snocK σ.H (some []) fun H => K s (.gro σ.H.length 0 sz) ⟨H, σ.own⟩ .eff
        | _, _, _, _ => False)
      | s => vP P o ds σ s K)
    | .slice t _ none (some _) none => (match ds with
      | [.v .nils, .v (.int _ i)] => vSl0 P t (.v .nils) i σ s K
      | [.gro q n sz, .v (.int _ i)] => vSl0 P t (.gro q n sz) i σ s K
      | ds => vP P o ds σ s K)
    | .call c => (match c.callee, ds with
      | .builtin .append, [.v .nils, .v (.int _ n)] => (match c.args.toList, c.argTypes.toList with
        | [_, _], [t, t'] => vAppZ P t t' n σ s K
        | _, _ => False)
      | .builtin .append, [x, y] => (match c.args.toList, c.argTypes.toList with
        | [_, _], [t, t'] => cond (Nat.beq t t') (vApp P t x y.un σ s K) False
        | _, _ => False)
      | .builtin .cap, [.v .nils] => (match c.args.toList, c.argTypes.toList with
        | [_], [t] => vCap P t s σ K
        | _, _ => False)
      | .value _, .v (.fn f fs cs) :: ds => vCallE P f fs cs ds σ s K
      | _, ds => vP P o ds σ s K)
    | _ => vP P o ds σ s K
theorem vOpD_ok {P : Program} {im : List Nat} {o : Oper} {ds : List D} {σ : St} {s : Sc} {K : KO} (h : vOpD P im o ds σ s K) : VOK P o ds σ K := by
  unfold vOpD at h
  split at h
  · exact ⟨_, _, _, _, h.2, h.1⟩
  · exact ⟨_, _, _, _, h.2, rfl, h.1⟩
  · split at h
    · rename_i x ho
      split at h
      · exact ⟨_, _, _, _, h, rfl, fun τ => op_move ho⟩
      · exact h.elim
    · rename_i x ho
      split at h
      · exact ⟨_, _, _, _, h, rfl, fun τ => op_assign ho⟩
      · exact h.elim
    · rename_i x y z ho
      split at h
      · rename_i b d1 d2
        cases b
        · exact ⟨_, _, _, _, h, rfl, fun τ => op_pick ho (b := false)⟩
        · exact ⟨_, _, _, _, h, rfl, fun τ => op_pick ho (b := true)⟩
      · exact h.elim
    · rename_i e x ho
      split at h
      · rename_i d t _
        cases hm : memQ im t with
        | false =>
          rw [hm] at h
          obtain ⟨h1, h2⟩ := cond_iff h
          rw [forceK_eq, snocK_eq] at h2
          exact ⟨_, _, _, _, h2, op_box ho h1⟩
        | true =>
          rw [hm] at h
          simp only at h
          split at h
          · rename_i y hy; exact ⟨_, _, _, _, h, rfl, fun τ => op_boxI ho hy⟩
          · exact h.elim
      · exact h.elim
    · rename_i e ho
      split at h
      · rename_i xs hz
        rw [forceK_eq, snocK_eq] at h
        exact ⟨_, _, _, _, h, op_allocN ho hz⟩
      · exact h.elim
    · rename_i t x y ho
      split at h
      · exact vStore_ok h ho
      · exact h.elim
    · rename_i t x ho
      split at h
      · exact vLoad_ok h ho
      · exact vP_ok h
    · rename_i t x y ho
      split at h
      · exact vMake_ok h ho
      · exact h.elim
    · rename_i t ps ho
      split at h
      · obtain ⟨hst, h⟩ := cond_iff h
        split at h
        · rename_i z places xs hb hx
          split at h
          · rename_i out hf
            rw [forceK_eq] at h
            exact ⟨_, _, _, _, h, rfl, fun τ => op_buildD ho hst hb hx hf⟩
          · exact h.elim
        · exact h.elim
      · exact vP_ok h
    · rename_i t len ps ho
      split at h
      · exact vBuildA_ok h ho
      · split at h
        · have hps : ps.toList = [] := by assumption
          have hs := (by assumption : slTy P t = _)
          rw [snocK_eq] at h
          exact ⟨_, _, _, _, h, op_buildSlice0G ho (by apply Array.ext'; simpa using hps) hs⟩
        · exact h.elim
      · exact vP_ok h
    · rename_i t a b ho
      split at h
      · exact vSl0_ok h ho
      · exact vSl0_ok h ho
      · exact vP_ok h
    · rename_i c ho
      have mk2 : ∀ {b : Builtin} {x y : Operand} {t t' : TypeId}, c.callee = .builtin b → c.args.toList = [x, y] → c.argTypes.toList = [t, t'] → o.op = .call { callee := .builtin b, args := #[x, y], argTypes := #[t, t'] } := by
        intro b x y t t' hc h1 h2
        rw [ho]; cases c; simp only at hc h1 h2; subst hc
        congr 2
        · apply Array.ext'; simpa using h1
        · apply Array.ext'; simpa using h2
      split at h
      · rename_i kd n hc
        split at h
        · rename_i a b t t' h1 h2; exact vAppZ_ok h (mk2 hc h1 h2)
        · exact h.elim
      · rename_i x y _ hc
        split at h
        · rename_i a b t t' h1 h2
          obtain ⟨h3, h4⟩ := cond_iff h
          have := Nat.eq_of_beq_eq_true h3; subst this
          have hoo : o.op = .call { callee := .builtin .append, args := #[a, b], argTypes := #[t, t] } := by
            rw [ho]; cases c; simp only at hc h1 h2; subst hc
            congr 2
            · apply Array.ext'; simpa using h1
            · apply Array.ext'; simpa using h2
          obtain ⟨s', d, σ', kd, h5, h6⟩ := vApp_ok h4 hoo
          have hsub : ∀ g us, repDs g [x, y] us → repDs g [x, y.un] us := fun g us hr => by
            rw [repDs_two] at hr ⊢
            obtain ⟨u, v, e, h1, h2⟩ := hr
            exact ⟨u, v, e, h1, repD_un h2⟩
          refine ⟨s', d, σ', kd, h5, ?_⟩
          cases kd with
          | pure => exact ⟨h6.1, fun τ => opOK_sub hsub (h6.2 τ)⟩
          | load q off n => exact ⟨h6.1, h6.2.1, fun τ hτ => opOK_sub hsub (h6.2.2 τ hτ)⟩
          | eff => exact opOK_sub hsub h6
        · exact h.elim
      · rename_i hc
        split at h
        · rename_i x t h1 h2
          unfold vCap at h
          split at h
          · rename_i e hu
            refine ⟨_, _, _, _, h, rfl, fun τ => op_capNils (x := x) (t := t) ?_ hu⟩
            rw [ho]; cases c; simp only at hc h1 h2; subst hc
            congr 2
            · apply Array.ext'; simpa using h1
            · apply Array.ext'; simpa using h2
          · exact h.elim
        · exact h.elim
      · rename_i fo f fs cs ds hc; exact vCallE_ok h ho hc
      · exact vP_ok h
    · exact vP_ok h
/-- is it a call of a function value? -/
def ocQ : Op → Bool
  | .call c => (match c.callee with | .value _ => true | _ => false)
  | _ => false
theorem ocQ_ok {o : Op} (h : ocQ o = true) : ∃ (c : Call) (fo : Operand), o = .call c ∧ c.callee = .value fo := by
  cases o <;> simp only [ocQ] at h <;> try (simp at h; done)
  rename_i c
  split at h
  · rename_i fo hc; exact ⟨c, fo, rfl, hc⟩
  · simp at h
noncomputable def vOp (P : Program) (im : List Nat) (o : Oper) (ds : List D) (σ : St) (s : Sc) (K : KO) : Prop := match s with
  | .h (.oc d σ') s' => Bool.rec (vOpD P im o ds σ (.h (.oc d σ') s') K) ((∀ (o : Oper) (c : Call) (fo : Operand), o.op = .call c → c.callee = .value fo → OpOK P o ds σ d σ') ∧ K s' d σ' .eff) (ocQ o.op)
  | s => vOpD P im o ds σ s K
theorem vOp_ok {P : Program} {im : List Nat} {o : Oper} {ds : List D} {σ : St} {s : Sc} {K : KO} (h : vOp P im o ds σ s K) : VOK P o ds σ K := by
  unfold vOp at h
  split at h
  · rename_i d σ' s'
    cases hq : ocQ o.op with
    | true =>
      rw [hq] at h
      obtain ⟨h1, h2⟩ := (h : (∀ (o : Oper) (c : Call) (fo : Operand), o.op = .call c → c.callee = .value fo → OpOK P o ds σ d σ') ∧ K s' d σ' .eff)
      obtain ⟨c, fo, e1, e2⟩ := ocQ_ok hq
      exact ⟨_, _, _, _, h2, h1 _ _ _ e1 e2⟩
    | false =>
      rw [hq] at h
      exact vOpD_ok h
  · exact vOpD_ok h
end Go.Nv

namespace Go.Nv
open Go.Dv

/- OBJECTS AND LISTS THAT ARE NO LONGER WANTED -/
abbrev shG (g : Gh) (m : Nat) (ts : List Nat) : Gh := { g with n := m, ι := fun k j => if ts.contains k then g.ι k j else none }
mutual
theorem repD_sh {g : Gh} {m : Nat} {ts : List Nat} : ∀ (d : D) (u : Value), d.okN m ts = true → repD g d u → repD (shG g m ts) d u
  | .v x, u, _, h => by simpa only [repD] using h
  | .acc k xs, u, hk, h => by
    simp only [D.okN] at hk
    simp only [repD] at h ⊢
    exact ⟨h.1, by rw [if_pos hk]; exact h.2⟩
  | .ptr o f, u, hk, h => by
    simp only [D.okN, decide_eq_true_eq] at hk
    simp only [repD] at h ⊢
    exact ⟨hk, h.2⟩
  | .arr o f l, u, hk, h => by
    simp only [D.okN, decide_eq_true_eq] at hk
    simp only [repD] at h ⊢
    exact ⟨hk, h.2⟩
  | .gro o f l, u, hk, h => by
    simp only [D.okN, decide_eq_true_eq] at hk
    simp only [repD] at h ⊢
    exact ⟨hk, h.2⟩
  | .raw x, u, _, h => by simpa only [repD] using h
  | .err, u, _, h => by simpa only [repD] using h
  | .rv x u0, u, _, h => by simpa only [repD] using h
  | .dagg cs, u, hk, h => by
    simp only [D.okN] at hk
    simp only [repD] at h ⊢
    obtain ⟨us, e, h1⟩ := h
    exact ⟨us, e, repDs_sh cs us hk h1⟩
  | .dfn f fs cs, u, hk, h => by
    simp only [D.okN, Bool.and_eq_true] at hk
    simp only [repD] at h ⊢
    obtain ⟨us, vs, e, h1, h2⟩ := h
    exact ⟨us, vs, e, repDs_sh fs us hk.1 h1, repDs_sh cs vs hk.2 h2⟩
  | .tup ds, u, hk, h => by
    simp only [D.okN] at hk
    simp only [repD] at h ⊢
    obtain ⟨us, e, h1⟩ := h
    exact ⟨us, e, repDs_sh ds us hk h1⟩
  | .undef, u, _, _ => by simp only [repD]
theorem repDs_sh {g : Gh} {m : Nat} {ts : List Nat} : ∀ (ds : List D) (us : List Value), D.okNs m ts ds = true → repDs g ds us → repDs (shG g m ts) ds us
  | [], us, _, h => by simpa only [repDs] using h
  | d :: ds, us, hk, h => by
    simp only [D.okNs, Bool.and_eq_true] at hk
    simp only [repDs] at h ⊢
    obtain ⟨u, us', e, h1, h2⟩ := h
    exact ⟨u, us', e, repD_sh d u hk.1 h1, repDs_sh ds us' hk.2 h2⟩
end
theorem wi_sh {E : Ent} {g : Gh} {σ σ' : St} {w : World} (hw : WI E g σ w) {m : Nat} (hH : σ'.H = σ.H.take m) (hm : m ≤ σ.H.length) (hE : E.g.n ≤ m) (hc : okH m (σ'.own.map (·.1)) σ'.H = true) (hown : σ'.own.Sublist σ.own) :
    WI E (shG g m (σ'.own.map (·.1))) σ' w := by
  have get : ∀ (i : Nat) (cs : List D), σ'.H[i]? = some (some cs) → σ.H[i]? = some (some cs) ∧ i < m := by
    intro i cs hi
    rw [hH, List.getElem?_take] at hi
    split at hi
    · exact ⟨hi, by assumption⟩
    · simp at hi
  have hι : ∀ x ∈ σ'.own, (if (σ'.own.map (·.1)).contains x.1 then g.ι x.1 x.2.2.length else none) = g.ι x.1 x.2.2.length := fun x hx => if_pos (by rw [List.contains_iff_mem]; exact List.mem_map.2 ⟨x, hx, rfl⟩)
  refine { rep := ⟨?_, hw.rep.mem, fun i cs hi => ?_, fun i j cs ds hi hj => hw.rep.inj i j cs ds (get i cs hi).1 (get j ds hj).1, fun k sz xs hx => ?_, ?_, fun x hx y hy hne u u' hu hu' b hb => ?_, fun x hx u hu b hb i cs hi => ?_, fun k hk j => ?_, hw.rep.gl, hw.rep.gw⟩, M := hw.M, size := hw.size, keep := hw.keep, os := hw.os, tape := hw.tape, output := hw.output, nE := hE, βE := fun o ho => hw.βE o ho, κE := fun o ho => hw.κE o ho, objs := fun i cs hi => hw.objs i cs (get i cs hi).1, owns := fun x hx u hu b hb => ?_, drawn := hw.drawn }
  · simp [hH]; omega
  · obtain ⟨us, rest, e, h1, h2, h3, h4⟩ := hw.rep.obj i cs (get i cs hi).1
    exact ⟨us, rest, e, h1, repDs_sh cs us (okH_get hc hi) h2, h3, h4⟩
  · obtain ⟨h0, u, hu, h1, h2, h3⟩ := hw.rep.own k sz xs (hown.subset hx)
    refine ⟨h0, u, (hι _ hx).trans hu, h1, h2, fun j hj => ?_⟩
    simp only
    split
    · exact h3 j hj
    · rfl
  · exact (hown.map _).nodup hw.rep.tags
  · exact hw.rep.sep x (hown.subset hx) y (hown.subset hy) hne u u' ((hι x hx).symm.trans hu) ((hι y hy).symm.trans hu') b hb
  · exact hw.rep.ownObj x (hown.subset hx) u ((hι x hx).symm.trans hu) b hb i cs (get i cs hi).1
  · simp only
    rw [if_neg]
    intro h
    rw [List.contains_iff_mem] at h
    obtain ⟨x, hx, e⟩ := List.mem_map.1 h
    exact hk x hx e
  · exact hw.owns x (hown.subset hx) u ((hι x hx).symm.trans hu) b hb

/-- the call began with m objects at most -/
abbrev CN (m : Nat) (E0 E : Ent) : Prop := E0 = E ∧ E.g.n ≤ m
theorem linkN (m : Nat) : LinkC (CN m) := ⟨fun h _ _ _ hw => by rw [h.1]; exact hw⟩

section
variable {P : Program} {R : List D → St → Prop} {k : List KI} {env : List D} {σ : St}
theorem run_sh {C : Ent → Ent → Prop} {m : Nat} (hCm : ∀ E0 E, C E0 E → E.g.n ≤ m) {σ' : St} {h : Nat} (hH : σ'.H = σ.H.take h) (hh : h ≤ σ.H.length) (hm : m ≤ h) (he : D.okNs h (σ'.own.map (·.1)) env = true) (hc : okH h (σ'.own.map (·.1)) σ'.H = true) (hown : σ'.own.Sublist σ.own) (hr : RunC C P R k env σ') : RunC C P R k env σ := fun E0 E g a w B hC hf hB =>
  hr E0 E _ a w B hC ⟨wi_sh hf.wi hH hh (Nat.le_trans (hCm _ _ hC) hm) hc hown, repDs_sh _ _ he hf.env, hf.defers⟩ hB
end

/- SLOTS SEEN OTHERWISE -/
noncomputable def getK {β : Type} (l : List D) (i : Nat) (k : D → β) : β :=
  List.rec (motive := fun _ => Nat → (D → β) → β) (fun _ k => k .undef) (fun a _ ih i k => Nat.rec (motive := fun _ => β) (k a) (fun j _ => ih j k) i) l i k
theorem getK_eq {β : Type} : ∀ (l : List D) (i : Nat) (k : D → β), getK l i k = k (l.getD i .undef)
  | [], _, _ => rfl
  | a :: l, 0, k => rfl
  | a :: l, i + 1, k => by
    have h : getK (a :: l) (i + 1) k = getK l i k := rfl
    rw [h, getK_eq l]; simp
noncomputable def evK {β : Type} (env : List D) (x : Operand) (K : D → β) : β := match x with
  | .tmp t => getK env t K
  | x => K (evN env x)
theorem evK_eq {β : Type} (env : List D) (x : Operand) (K : D → β) : evK env x K = K (evN env x) := by
  cases x <;> simp [evK, getK_eq, evN]
noncomputable def evsK {β : Type} (env : List D) (l : List Operand) (K : List D → β) : β :=
  List.rec (motive := fun _ => (List D → β) → β) (fun K => K []) (fun x _ ih K => evK env x fun d => ih fun ds => K (d :: ds)) l K
theorem evsK_eq {β : Type} (env : List D) : ∀ (l : List Operand) (K : List D → β), evsK env l K = K (l.map (evN env))
  | [], _ => rfl
  | x :: l, K => by
    have h : evsK env (x :: l) K = evK env x fun d => evsK env l fun ds => K (d :: ds) := rfl
    rw [h, evK_eq, evsK_eq env l]; rfl
theorem getD_some {env : List D} {t : Nat} {d : D} (h : env.getD t .undef = d) (hd : d ≠ .undef) : env[t]? = some d := by
  rw [List.getD_eq_getElem?_getD] at h
  cases e : env[t]? with
  | none => rw [e] at h; exact absurd h.symm hd
  | some x => rw [e] at h; simpa using h

theorem DSL.refl : ∀ l : List D, DSL l l
  | [] => .nil
  | d :: l => .cons (.same d) (DSL.refl l)
theorem DSL.set {l : List D} {t : Nat} {d e : D} (h : l[t]? = some d) (hs : DS d e) : DSL l (l.set t e) := by
  induction l generalizing t with
  | nil => simp at h
  | cons a l ih =>
    cases t with
    | zero => simp at h; subst h; exact .cons hs (DSL.refl l)
    | succ t => exact .cons (.same a) (ih (by simpa using h))
theorem cv_self {env : List D} {σ : St} : Cv env σ env σ := fun E g a w hf => ⟨g, hf⟩
theorem fz_set {L : Nat → Option (List D)} : ∀ {ds ds' : List D} {s n : Nat} {d : D} {x : V}, Fz L ds ds' → ds[s]? = some d → lends L n d x → Fz L ds (ds'.set s (.v x))
  | _, _, s, n, d, x, .nil, h, hl => by simp at h
  | _, _, 0, n, d, x, .keep hs, h, hl => by simp at h; subst h; exact .view hl hs
  | _, _, 0, n, d, x, .view _ hs, h, hl => by simp at h; subst h; exact .view hl hs
  | _, _, s + 1, n, d, x, .keep hs, h, hl => by simp only [List.set_cons_succ]; exact .keep (fz_set hs (by simpa using h) hl)
  | _, _, s + 1, n, d, x, .view h' hs, h, hl => by simp only [List.set_cons_succ]; exact .view h' (fz_set hs (by simpa using h) hl)
theorem Fz.refl {L : Nat → Option (List D)} : ∀ l : List D, Fz L l l
  | [] => .nil
  | _ :: l => .keep (Fz.refl l)
theorem toVsN_get : ∀ {cs : List D} {xs : List V}, toVsN cs = some xs → ∀ {j : Nat} {y : V}, xs[j]? = some y → ∃ c, cs[j]? = some c ∧ c.toV = some y
  | [], xs, h, j, y, hy => by simp [toVsN] at h; subst h; simp at hy
  | c :: cs, xs, h, j, y, hy => by
    cases c <;> simp only [toVsN] at h <;> first | (split at h <;> first | (rename_i ys h1; simp at h; subst h; cases j with | zero => (simp at hy; subst hy; exact ⟨_, rfl, rfl⟩) | succ j => (obtain ⟨c, h2, h3⟩ := toVsN_get h1 (j := j) (by simpa using hy); exact ⟨c, by simpa using h2, h3⟩)) | simp at h) | simp at h
theorem lend_agg {H : List (Option (List D))} {q : Nat} {cs : List D} {xs : List V} (hq : H[q]? = some (some cs)) (hx : toVsN cs = some xs) (ha : xs.all (fun x => !x.isAgg) = true) : lends (lentIn [q] H) 1 (.ptr q 0) (.ref (.agg xs)) := by
  refine .inr (.inl ⟨q, 0, cs, .agg xs, rfl, rfl, by simp [lentIn, hq], fun j y hy => ?_⟩)
  have hm := List.mem_of_getElem? (show xs[j]? = some y from hy)
  obtain ⟨c, h1, h2⟩ := toVsN_get hx (show xs[j]? = some y from hy)
  exact ⟨by simpa using List.all_eq_true.1 ha y hm, c, by rw [Nat.zero_add]; exact h1, c, .same, h2⟩
theorem lend_one {H : List (Option (List D))} {q : Nat} {c : D} {x : V} (hq : H[q]? = some (some [c])) (hx : c.toV = some x) (ha : x.isAgg = false) : lends (lentIn [q] H) 1 (.ptr q 0) (.ref x) := by
  refine .inr (.inl ⟨q, 0, [c], x, rfl, rfl, by simp [lentIn, hq], fun j y hy => ?_⟩)
  have hc : x.cellsV = [x] := by cases x <;> simp_all [V.cellsV, V.isAgg]
  rw [hc] at hy
  cases j with
  | zero => simp at hy; subst hy; exact ⟨ha, c, rfl, c, .same, hx⟩
  | succ j => simp at hy
/-- slots that hold a pointer to an object, from now on to data -/
noncomputable def seeSl (q : Nat) (x : V) (ss : List Nat) (env : List D) (K : List D → Prop) : Prop :=
  List.rec (motive := fun _ => List D → Prop) (fun env => K env) (fun s _ ih env => getK env s fun d => match d with
    | .ptr q' 0 => cond (Nat.beq q' q) (setK env s (.v (.ref x)) ih) False
    | _ => False) ss env
theorem seeSl_ok {L : Nat → Option (List D)} {q : Nat} {x : V} (hl : lends L 1 (.ptr q 0) (.ref x)) {K : List D → Prop} {env0 : List D} : ∀ {ss : List Nat} {env : List D}, Fz L env0 env → (∀ t : Nat, env[t]? = env0[t]? ∨ env[t]? = some (D.v (.ref x))) → seeSl q x ss env K → ∃ env', K env' ∧ Fz L env0 env'
  | [], env, hz, _, h => ⟨env, h, hz⟩
  | s :: ss, env, hz, hi, h => by
    have e : seeSl q x (s :: ss) env K = getK env s fun d => match d with
      | .ptr q' 0 => cond (Nat.beq q' q) (setK env s (.v (.ref x)) fun env => seeSl q x ss env K) False
      | _ => False := rfl
    rw [e, getK_eq] at h
    split at h
    · rename_i q' hd
      obtain ⟨h1, h2⟩ := cond_iff h
      have := Nat.eq_of_beq_eq_true h1; subst this
      rw [setK_eq] at h2
      have hs := getD_some hd (by simp)
      have hs0 : env0[s]? = some (.ptr q' 0) := by
        rcases hi s with h3 | h3
        · rw [← h3]; exact hs
        · rw [hs] at h3; simp at h3
      refine seeSl_ok hl (fz_set hz hs0 hl) (fun t => ?_) h2
      rw [List.getElem?_set]
      split
      · rename_i e; subst e
        rw [if_pos (List.getElem?_eq_some_iff.1 hs).1]; exact .inr rfl
      · exact hi t
    · exact h.elim

/-- what is seen otherwise, before operation i of region r -/
noncomputable def pre (r i : Nat) (s : Sc) (env : List D) (σ : St) (K : Sc → List D → St → Prop) : Prop :=
  Sc.rec (motive := fun _ => List D → St → Prop)
    (fun env σ => K .z env σ)
    (fun _ ih env σ => ∃ a, ih a env σ)
    (fun s t _ _ env σ => K (.b s t) env σ)
    (fun h s ih env σ => match h with
      | .q r' i' => cond (Nat.beq r r' && Nat.beq i i') (ih env σ) (K (.h (.q r' i') s) env σ)
      | .un t => getK env t fun d => match d with
        | .acc _ xs => setK env t (.v (.list xs)) fun env => ih env σ
        | .rv x _ => setK env t (.v x) fun env => ih env σ
        | _ => False
      | .ga t => getK env t fun d => match d with
        | .gro q n _ => setK env t (.arr q 0 n) fun env => ih env σ
        | _ => False
      | .fa q ss => match σ.H[q]? with
        | some (some cs) => (match toVsN cs with
          | some xs => cond (xs.all fun x => !x.isAgg) (seeSl q (.agg xs) ss env fun env => setK σ.H q none fun H => ih env ⟨H, σ.own⟩) False
          | none => False)
        | _ => False
      | .f1 q ss => match σ.H[q]? with
        | some (some [c]) => (match c.toV with
          | some x => cond (!x.isAgg) (seeSl q x ss env fun env => setK σ.H q none fun H => ih env ⟨H, σ.own⟩) False
          | none => False)
        | _ => False
      | .fl q t xs => match σ.H[q]? with
        | some (some cs) => getK env t fun d => match d with
          | .arr q' 0 n => cond (Nat.beq q' q) (cs = xs.map .v ∧ n = xs.length ∧ setK env t (.v (.list xs)) fun env => setK σ.H q none fun H => ih env ⟨H, σ.own⟩) False
          | _ => False
        | _ => False
      | .cl q j k sz => match σ.H[q]? with
        | some (some cs) => (match cs[j]? with
          | some (.v .nils) => cond (freshQ σ.own k && Nat.blt 0 sz) (setK cs j (.acc k []) fun cs => setK σ.H q (some cs) fun H => ih env ⟨H, (k, sz, []) :: σ.own⟩) False
          | _ => False)
        | _ => False
      | .nw t k sz => getK env t fun d => match d with
        | .v .nils => cond (freshQ σ.own k && Nat.blt 0 sz) (setK env t (.acc k []) fun env => ih env ⟨σ.H, (k, sz, []) :: σ.own⟩) False
        | _ => False
      | .cs σ' => (forceK σ.H fun H => forceK σ.own fun own => ∀ e : List D, Cv e ⟨H, own⟩ e σ') ∧ ih env σ'
      | .ct t d σ' => getK env t fun d0 => match d0 with
        | .undef => False
        | d0 => (∀ e : List D, e[t]? = some d0 → Cv e σ (e.set t d) σ') ∧ setK env t d fun env => ih env σ'
      | h => K (.h h s) env σ) s env σ
theorem cv_rv {env : List D} {σ : St} {t : Nat} {x : V} {u : Value} (ht : env[t]? = some (.rv x u)) : Cv env σ (env.set t (.v x)) σ := fun E g a w hf => by
  obtain ⟨v, hv, hr⟩ := repDs_get hf.env ht
  simp only [repD] at hr
  refine ⟨g, hf.wi, ?_, hf.defers⟩
  have := repDs_set hf.env t (d := .v x) (u := v) (by simp only [repD]; rw [hr.1]; exact hr.2)
  rwa [set_self hv] at this
theorem cv_nw {env : List D} {σ : St} {t k sz : Nat} (ht : env[t]? = some (.v .nils)) (hk : ∀ x ∈ σ.own, x.1 ≠ k) (hsz : 0 < sz) : Cv env σ (env.set t (.acc k [])) ⟨σ.H, (k, sz, []) :: σ.own⟩ := fun E g a w hf => by
  obtain ⟨hw1, hle1⟩ := hf.wi.addOwn (k := k) (sz := sz) (xs := []) (u := .slice none 0 0) hk ⟨hsz, by simp⟩ (repV_nil _) (.inl ⟨none, rfl⟩) (fun b hb => by simp [ownB] at hb)
  obtain ⟨u, hu, hr⟩ := repDs_get hf.env ht
  simp only [repD, repV_nils] at hr
  subst hr
  refine ⟨_, hw1, ?_, hf.defers⟩
  have := repDs_set (repDs.mono hle1 _ _ hf.env) t (d := .acc k []) (u := .slice none 0 0) (by simp only [repD]; exact ⟨repV_nil _, by simp⟩)
  rwa [set_self hu] at this
theorem cv_fl {env : List D} {σ : St} {q t : Nat} {xs : List V} (hq : σ.H[q]? = some (some (xs.map .v))) (ht : env[t]? = some (.arr q 0 xs.length)) : Cv env σ (env.set t (.v (.list xs))) ⟨σ.H.set q none, σ.own⟩ := fun E g a w hf => by
  have hone : ∀ x ∈ xs, x.isAgg = false := fun x hx => by
    obtain ⟨_, _, _, _, _, h1, _⟩ := hf.wi.rep.obj q _ hq
    have := h1 (.v x) (List.mem_map.2 ⟨x, hx, rfl⟩)
    simpa [D.one] using this
  have hfl : xs.flatMap V.cellsV = xs := by
    clear hq ht hf
    induction xs with
    | nil => rfl
    | cons x xs ih =>
      have hx := hone x (by simp)
      have hc : x.cellsV = [x] := by cases x <;> simp_all [V.cellsV, V.isAgg]
      rw [List.flatMap_cons, hc, ih fun y hy => hone y (by simp [hy])]; rfl
  have hz : Fz (lentIn [q] σ.H) env (env.set t (.v (.list xs))) := by
    refine fz_set (n := 1) (Fz.refl env) ht (.inr (.inr ⟨q, 0, 1, xs.map .v, xs, .inl rfl, rfl, by omega, fun y hy => ?_, by simp [lentIn, hq], fun j y hy => ?_⟩))
    · have := hone y hy; cases y <;> simp_all [V.size, V.isAgg]
    · rw [hfl] at hy
      exact ⟨hone y (List.mem_of_getElem? hy), .v y, by rw [Nat.zero_add, List.getElem?_map, hy]; rfl, .v y, .same, rfl⟩
  obtain ⟨g', hf'⟩ := cv_frz [q] hz E g a w hf
  exact ⟨g', by simpa [killH] using hf'⟩
theorem pre_ok {r i : Nat} {K : Sc → List D → St → Prop} : ∀ {s : Sc} {env : List D} {σ : St}, pre r i s env σ K → ∃ s' env' σ', K s' env' σ' ∧ Cv env σ env' σ' ∧ env'.length = env.length
  | .z, env, σ, h => ⟨_, _, _, h, cv_self, rfl⟩
  | .e f, env, σ, h => by
    obtain ⟨a, h⟩ := (h : ∃ a, pre r i (f a) env σ K)
    exact pre_ok h
  | .b s t, env, σ, h => ⟨_, _, _, h, cv_self, rfl⟩
  | .h hh s, env, σ, h => by
    have tr : ∀ {env1 : List D} {σ1 : St}, Cv env σ env1 σ1 → env1.length = env.length → pre r i s env1 σ1 K → ∃ s' env' σ', K s' env' σ' ∧ Cv env σ env' σ' ∧ env'.length = env.length := by
      intro env1 σ1 hc hl hp
      obtain ⟨s', env', σ', h1, h2, h3⟩ := pre_ok hp
      exact ⟨s', env', σ', h1, fun E g a w hf => by obtain ⟨g1, hf1⟩ := hc E g a w hf; exact h2 E g1 a w hf1, h3.trans hl⟩
    cases hh with
    | q r' i' =>
      have h' : cond (Nat.beq r r' && Nat.beq i i') (pre r i s env σ K) (K (.h (.q r' i') s) env σ) := h
      cases hb : (Nat.beq r r' && Nat.beq i i') with
      | true => rw [hb] at h'; exact tr cv_self rfl h'
      | false => rw [hb] at h'; exact ⟨_, _, _, h', cv_self, rfl⟩
    | un t =>
      have h' : getK env t fun d => match d with
        | .acc _ xs => setK env t (.v (.list xs)) fun env => pre r i s env σ K
        | .rv x _ => setK env t (.v x) fun env => pre r i s env σ K
        | _ => False := h
      rw [getK_eq] at h'
      split at h'
      · rename_i k xs hd
        rw [setK_eq] at h'
        exact tr (cv_sub (DSL.set (getD_some hd (by simp)) .acc)) (by simp) h'
      · rename_i x u hd
        rw [setK_eq] at h'
        exact tr (cv_rv (getD_some hd (by simp))) (by simp) h'
      · exact h'.elim
    | ga t =>
      have h' : getK env t fun d => match d with
        | .gro q n _ => setK env t (.arr q 0 n) fun env => pre r i s env σ K
        | _ => False := h
      rw [getK_eq] at h'
      split at h'
      · rename_i q n sz hd
        rw [setK_eq] at h'
        exact tr (cv_sub (DSL.set (getD_some hd (by simp)) .gro)) (by simp) h'
      · exact h'.elim
    | fa q ss =>
      have h' : match σ.H[q]? with
        | some (some cs) => (match toVsN cs with
          | some xs => cond (xs.all fun x => !x.isAgg) (seeSl q (.agg xs) ss env fun env => setK σ.H q none fun H => pre r i s env ⟨H, σ.own⟩ K) False
          | none => False)
        | _ => False := h
      split at h'
      · rename_i cs hq
        split at h'
        · rename_i xs hx
          obtain ⟨h1, h2⟩ := cond_iff h'
          obtain ⟨env', h3, h4⟩ := seeSl_ok (env0 := env) (lend_agg hq hx h1) (Fz.refl env) (fun t => .inl rfl) h2
          rw [setK_eq] at h3
          have hl : env'.length = env.length := by
            have : ∀ {a b : List D} {L}, Fz L a b → b.length = a.length := by
              intro a b L hz; induction hz <;> simp_all
            exact this h4
          exact tr (by have := cv_frz [q] h4; simpa [killH] using this) hl h3
        · exact h'.elim
      · exact h'.elim
    | f1 q ss =>
      have h' : match σ.H[q]? with
        | some (some [c]) => (match c.toV with
          | some x => cond (!x.isAgg) (seeSl q x ss env fun env => setK σ.H q none fun H => pre r i s env ⟨H, σ.own⟩ K) False
          | none => False)
        | _ => False := h
      split at h'
      · rename_i c hq
        split at h'
        · rename_i x hx
          obtain ⟨h1, h2⟩ := cond_iff h'
          obtain ⟨env', h3, h4⟩ := seeSl_ok (env0 := env) (lend_one hq hx (by simpa using h1)) (Fz.refl env) (fun t => .inl rfl) h2
          rw [setK_eq] at h3
          have hl : env'.length = env.length := by
            have : ∀ {a b : List D} {L}, Fz L a b → b.length = a.length := by
              intro a b L hz; induction hz <;> simp_all
            exact this h4
          exact tr (by have := cv_frz [q] h4; simpa [killH] using this) hl h3
        · exact h'.elim
      · exact h'.elim
    | fl q t xs =>
      have h' : match σ.H[q]? with
        | some (some cs) => getK env t fun d => match d with
          | .arr q' 0 n => cond (Nat.beq q' q) (cs = xs.map .v ∧ n = xs.length ∧ setK env t (.v (.list xs)) fun env => setK σ.H q none fun H => pre r i s env ⟨H, σ.own⟩ K) False
          | _ => False
        | _ => False := h
      split at h'
      · rename_i cs hq
        rw [getK_eq] at h'
        split at h'
        · rename_i q' n hd
          obtain ⟨h1, rfl, rfl, h2⟩ := cond_iff h'
          have := Nat.eq_of_beq_eq_true h1; subst this
          rw [setK_eq, setK_eq] at h2
          exact tr (cv_fl hq (getD_some hd (by simp))) (by simp) h2
        · exact h'.elim
      · exact h'.elim
    | cl q j k sz =>
      have h' : match σ.H[q]? with
        | some (some cs) => (match cs[j]? with
          | some (.v .nils) => cond (freshQ σ.own k && Nat.blt 0 sz) (setK cs j (.acc k []) fun cs => setK σ.H q (some cs) fun H => pre r i s env ⟨H, (k, sz, []) :: σ.own⟩ K) False
          | _ => False)
        | _ => False := h
      split at h'
      · rename_i cs hq
        split at h'
        · rename_i hj
          obtain ⟨h1, h2⟩ := cond_iff h'
          rw [Bool.and_eq_true] at h1
          rw [setK_eq, setK_eq] at h2
          exact tr (cv_claim q j k sz hq hj (freshQ_ok h1.1) (Nat.le_of_ble_eq_true h1.2)) rfl h2
        · exact h'.elim
      · exact h'.elim
    | nw t k sz =>
      have h' : getK env t fun d => match d with
        | .v .nils => cond (freshQ σ.own k && Nat.blt 0 sz) (setK env t (.acc k []) fun env => pre r i s env ⟨σ.H, (k, sz, []) :: σ.own⟩ K) False
        | _ => False := h
      rw [getK_eq] at h'
      split at h'
      · rename_i hd
        obtain ⟨h1, h2⟩ := cond_iff h'
        rw [Bool.and_eq_true] at h1
        rw [setK_eq] at h2
        exact tr (cv_nw (getD_some hd (by simp)) (freshQ_ok h1.1) (Nat.le_of_ble_eq_true h1.2)) (by simp) h2
      · exact h'.elim
    | cs σ' =>
      obtain ⟨h1, h2⟩ := (h : (forceK σ.H fun H => forceK σ.own fun own => ∀ e : List D, Cv e ⟨H, own⟩ e σ') ∧ pre r i s env σ' K)
      rw [forceK_eq, forceK_eq] at h1
      exact tr (h1 env) rfl h2
    | ct t d σ' =>
      have h' : getK env t fun d0 => match d0 with
        | .undef => False
        | d0 => (∀ e : List D, e[t]? = some d0 → Cv e σ (e.set t d) σ') ∧ setK env t d fun env => pre r i s env σ' K := h
      rw [getK_eq] at h'
      split at h'
      · exact h'.elim
      · rename_i hne
        rw [setK_eq] at h'
        exact tr (h'.1 env (getD_some rfl (fun e => hne e))) (by simp) h'.2
    | _ => exact ⟨_, _, _, h, cv_self, rfl⟩

/- TRUTH VALUES -/
noncomputable def upd (env : List D) (t : Option Nat) (b : Bool) (K : List D → Prop) : Prop := match t with
  | some t => setK env t (.v (.bool b)) K
  | none => K env
noncomputable def vBool (s : Sc) (b : Bool) (t : Option Nat) (env : List D) (K : Bool → Sc → List D → Prop) : Prop := match s with
  | .b s1 s2 => (b = true → upd env t true fun env => K true s1 env) ∧ (b = false → upd env t false fun env => K false s2 env)
  | .h .t s => b = true ∧ upd env t true fun env => K true s env
  | .h .f s => b = false ∧ upd env t false fun env => K false s env
  | .h .k s => K b s env
  | s => K b s env
theorem set_same {env : List D} {t : Nat} {b : Bool} (h : env[t]? = some (.v (.bool b))) : env.set t (.v (.bool b)) = env := set_self h
theorem vBool_ok {s : Sc} {b : Bool} {t : Option Nat} {env : List D} {K : Bool → Sc → List D → Prop} (h : vBool s b t env K) (ht : ∀ t', t = some t' → env[t']? = some (.v (.bool b))) : ∃ s', K b s' env := by
  have up : ∀ {b' : Bool} {K' : List D → Prop}, b = b' → upd env t b' K' → K' env := by
    intro b' K' e hu
    subst e
    cases t with
    | none => exact hu
    | some t => simp only [upd, setK_eq] at hu; rwa [set_same (ht t rfl)] at hu
  unfold vBool at h
  split at h
  · cases b with
    | true => exact ⟨_, up rfl (h.1 rfl)⟩
    | false => exact ⟨_, up rfl (h.2 rfl)⟩
  · obtain ⟨rfl, h⟩ := h; exact ⟨_, up rfl h⟩
  · obtain ⟨rfl, h⟩ := h; exact ⟨_, up rfl h⟩
  · exact ⟨_, h⟩
  · exact ⟨_, h⟩

/-- was a guard asked for before? -/
noncomputable def seenG (ops : Array Oper) (i j : Nat) : Bool := (ops.toList.take i).any fun o => match o.guard with
  | some (j', _) => Nat.beq j' j
  | none => false
/-- is a guarded operation run? -/
noncomputable def vGuard (ops : Array Oper) (i : Nat) (o : Oper) (s : Sc) (env : List D) (K : Bool → Sc → List D → Prop) : Prop := match o.guard with
  | none => K true s env
  | some (j, want) => match (ops[j]?).bind (·.dst) with
    | some t => getK env t fun d => match d with
      | .v (.bool b) => Bool.rec (vBool s b (some t) env fun b s env => K (b == want) s env) (K (b == want) s env) (seenG ops i j)
      | .tup _ => K false s env
      | _ => False
    | none => False
theorem vGuard_ok {ops : Array Oper} {i : Nat} {o : Oper} {s : Sc} {env : List D} {K : Bool → Sc → List D → Prop} (h : vGuard ops i o s env K) : ∃ b s', K b s' env ∧ wantD env ops o = some b := by
  unfold vGuard at h
  unfold wantD
  split at h
  · rename_i hg; exact ⟨true, s, h, by simp [hg]⟩
  · rename_i j want hg
    split at h
    · rename_i t hj
      rw [getK_eq] at h
      split at h
      · rename_i b hd
        have ht := getD_some hd (by simp)
        cases hs : seenG ops i j with
        | true => rw [hs] at h; exact ⟨_, s, h, by simp [hg, hj, ht]⟩
        | false =>
          rw [hs] at h
          obtain ⟨s', h1⟩ := vBool_ok h (fun t' e => by simp at e; subst e; exact ht)
          exact ⟨_, s', h1, by simp [hg, hj, ht]⟩
      · rename_i ds hd
        have ht := getD_some hd (by simp)
        exact ⟨false, s, h, by simp [hg, hj, ht]⟩
      · exact h.elim
    · exact h.elim

/-- slots that are kept, or seen as equal data -/
noncomputable def vPick (env : List D) (sl : List (Nat × Option D)) (K : List (Nat × D) → Prop) : Prop :=
  List.rec (motive := fun _ => (List (Nat × D) → Prop) → Prop) (fun K => K []) (fun p _ ih K => getK env p.1 fun d0 => match p.2 with
    | none => ih fun L => K ((p.1, d0) :: L)
    | some d => d0 = d ∧ ih fun L => K ((p.1, d) :: L)) sl K
theorem vPick_ok {env : List D} : ∀ {sl : List (Nat × Option D)} {K : List (Nat × D) → Prop}, vPick env sl K → ∃ L, K L ∧ ∀ p ∈ L, env.getD p.1 .undef = p.2
  | [], K, h => ⟨[], h, by simp⟩
  | (t, o) :: sl, K, h => by
    have h' : getK env t fun d0 => match (generalizing := false) o with
      | none => vPick env sl fun L => K ((t, d0) :: L)
      | some d => d0 = d ∧ vPick env sl fun L => K ((t, d) :: L) := h
    rw [getK_eq] at h'
    cases o with
    | none =>
      obtain ⟨L, h1, h2⟩ := vPick_ok h'
      refine ⟨_, h1, fun p hp => ?_⟩
      rcases List.mem_cons.1 hp with rfl | hp
      · rfl
      · exact h2 p hp
    | some d =>
      obtain ⟨L, h1, h2⟩ := vPick_ok h'.2
      refine ⟨_, h1, fun p hp => ?_⟩
      rcases List.mem_cons.1 hp with rfl | hp
      · exact h'.1
      · exact h2 p hp
theorem mkE_length : ∀ (L : List (Nat × D)) (e : List D), (L.foldl (fun e p => e.set p.1 p.2) e).length = e.length
  | [], e => rfl
  | p :: L, e => by rw [List.foldl_cons, mkE_length L]; simp
theorem mkE_get {env : List D} : ∀ {L : List (Nat × D)} {e : List D}, (∀ p ∈ L, env.getD p.1 .undef = p.2) → e.length = env.length → (∀ (i : Nat) (d : D), e[i]? = some d → d = .undef ∨ env[i]? = some d) → ∀ (i : Nat) (d : D), (L.foldl (fun e p => e.set p.1 p.2) e)[i]? = some d → d = .undef ∨ env[i]? = some d
  | [], e, _, _, h, i, d, hd => h i d hd
  | p :: L, e, hL, hl, h, i, d, hd => by
    refine mkE_get (L := L) (e := e.set p.1 p.2) (fun q hq => hL q (List.mem_cons_of_mem _ hq)) (by simp [hl]) (fun i d hd => ?_) i d hd
    rw [List.getElem?_set] at hd
    split at hd
    · rename_i e1; subst e1
      split at hd
      · rename_i hlt
        simp at hd; subst hd
        refine .inr ?_
        have := hL p (List.mem_cons_self)
        rw [List.getD_eq_getElem?_getD] at this
        rw [List.getElem?_eq_getElem (by omega)] at this ⊢
        simpa using this
      · simp at hd
    · exact h i d hd
theorem mkE_forget {env : List D} {nt : Nat} {L : List (Nat × D)} (hn : env.length = nt) (h2 : ∀ p ∈ L, env.getD p.1 .undef = p.2) : (mkE nt L).length = env.length ∧ ∀ (i : Nat) (d : D), (mkE nt L)[i]? = some d → d = .undef ∨ env[i]? = some d :=
  ⟨by simp [mkE, mkE_length, hn], mkE_get h2 (by simp [hn]) (fun i d hd => by
    rw [List.getElem?_replicate] at hd
    split at hd
    · simp at hd; exact .inl hd.symm
    · simp at hd)⟩

/- OPERATIONS IN THE ORDER OF THE TEXT; `Z` is asked for where the walk stops -/
noncomputable def vOps (P : Program) (im : List Nat) (r : Nat) (ops : Array Oper) (Z : List Oper → List (Nat × D) → St → Prop) (L : List Oper) (i : Nat) (s : Sc) (env : List D) (σ : St) (K : Sc → List D → St → Prop) : Prop :=
  List.rec (motive := fun _ => Nat → Sc → List D → St → Prop) (fun i s env σ => pre r i s env σ K)
    (fun o L ih i s env σ => pre r i s env σ fun s env σ => match s with
      | .h (.s sl) _ => vPick env sl fun sl => Z (o :: L) sl σ
      | s => vGuard ops i o s env fun b s env =>
        Bool.rec (putK env o.dst (.tup []) fun env => ih (Nat.succ i) s env σ)
          (evsK env o.op.operands.toList fun ds => vOp P im o ds σ s fun s d σ _ => putK env o.dst d fun env => ih (Nat.succ i) s env σ) b) L i s env σ

/-- what is left of a region -/
def RunO (C : Ent → Ent → Prop) (P : Program) (R : List D → St → Prop) (k : List KI) (ops : Array Oper) (L : List Oper) (env : List D) (σ : St) : Prop :=
  ∀ (E0 E : Ent) (g : Gh) (a : Act) (w : World) (B : Exit → Act → World → Prop), C E0 E → FI E g σ env a w →
    (∀ g' env' σ' a' w', FI E0 g' σ' env' a' w' → R env' σ' → B .ret a' w' ∧ B .normal a' w') → wpList P ops (KQ P B k) L a w
section
variable {C : Ent → Ent → Prop} {P : Program} {R : List D → St → Prop} {k : List KI}
theorem RunO.cv {ops : Array Oper} {L : List Oper} {env env' : List D} {σ σ' : St} (h : Cv env σ env' σ') (hk : RunO C P R k ops L env' σ') : RunO C P R k ops L env σ := fun E0 E g a w B hC hf hB => by
  obtain ⟨g', hf'⟩ := h E g a w hf
  exact hk E0 E g' a w B hC hf' hB
theorem RunO.forget {ops : Array Oper} {L : List Oper} {env env' : List D} {σ : St} (h : env'.length = env.length ∧ ∀ (i : Nat) (d : D), env'[i]? = some d → d = .undef ∨ env[i]? = some d) (hk : RunO C P R k ops L env' σ) : RunO C P R k ops L env σ := fun E0 E g a w B hC hf hB =>
  hk E0 E g a w B hC ⟨hf.wi, repDs_weaken hf.env h.1 h.2, hf.defers⟩ hB
theorem RunO.op {ops : Array Oper} {L : List Oper} {o : Oper} {env : List D} {σ σ' : St} {d : D} (hg : wantD env ops o = some true) (h : OpOK P o (o.op.operands.toList.map (evN env)) σ d σ') (hk : RunO C P R k ops L (putD env o.dst d) σ') : RunO C P R k ops (o :: L) env σ := fun E0 E g a w B hC hf hB => by
  unfold wpList
  rw [if_pos (wanted_of hf.env hg)]
  refine .inl (h E g a w _ _ hf.wi (repDs_evN hf.wi.rep.gl hf.env _) fun g' w' u hw' hg' hd => ?_)
  exact hk E0 E g' _ _ B hC (hf.put hw' hg' hd o.dst) hB
theorem RunO.skip {ops : Array Oper} {L : List Oper} {o : Oper} {env : List D} {σ : St} (hg : wantD env ops o = some false) (hk : RunO C P R k ops L (putD env o.dst (.tup [])) σ) : RunO C P R k ops (o :: L) env σ := fun E0 E g a w B hC hf hB => by
  unfold wpList
  rw [if_neg (by rw [wanted_of hf.env hg]; simp)]
  exact hk E0 E g _ _ B hC (hf.put hf.wi g.le_refl (repD_undef g) o.dst) hB
theorem vOps_ok {im : List Nat} {r : Nat} {ops : Array Oper} {Z : List Oper → List (Nat × D) → St → Prop} {K : Sc → List D → St → Prop} {n : Nat} (hZ : ∀ L sl σ, Z L sl σ → RunO C P R k ops L (mkE n sl) σ) (hK : ∀ s env σ, env.length = n → K s env σ → RunC C P R k env σ) : ∀ {L : List Oper} {i : Nat} {s : Sc} {env : List D} {σ : St}, env.length = n → vOps P im r ops Z L i s env σ K → RunO C P R k ops L env σ
  | [], i, s, env, σ, hl, h => by
    obtain ⟨s1, env1, σ1, h1, h2, h3⟩ := pre_ok (show pre r i s env σ K from h)
    exact RunO.cv h2 fun E0 E g a w B hC hf hB => by
      unfold wpList; exact hK _ _ _ (h3.trans hl) h1 E0 E g a w B hC hf hB
  | o :: L, i, s, env, σ, hl, h => by
    have h' : pre r i s env σ fun s env σ => match s with
      | .h (.s sl) _ => vPick env sl fun sl => Z (o :: L) sl σ
      | s => vGuard ops i o s env fun b s env =>
        Bool.rec (putK env o.dst (.tup []) fun env => vOps P im r ops Z L (Nat.succ i) s env σ K)
          (evsK env o.op.operands.toList fun ds => vOp P im o ds σ s fun s d σ _ => putK env o.dst d fun env => vOps P im r ops Z L (Nat.succ i) s env σ K) b := h
    obtain ⟨s1, env1, σ1, h1, h2, h3⟩ := pre_ok h'
    refine RunO.cv h2 ?_
    have main : (vGuard ops i o s1 env1 fun b s env =>
        Bool.rec (putK env o.dst (.tup []) fun env => vOps P im r ops Z L (Nat.succ i) s env σ1 K)
          (evsK env o.op.operands.toList fun ds => vOp P im o ds σ1 s fun s d σ _ => putK env o.dst d fun env => vOps P im r ops Z L (Nat.succ i) s env σ K) b) → RunO C P R k ops (o :: L) env1 σ1 := by
      intro h1
      obtain ⟨b, s2, h4, h5⟩ := vGuard_ok h1
      cases b with
      | false =>
        have h6 : putK env1 o.dst (.tup []) fun env => vOps P im r ops Z L (Nat.succ i) s2 env σ1 K := h4
        rw [putK_eq] at h6
        refine RunO.skip h5 (vOps_ok hZ hK ?_ h6)
        cases o.dst <;> simp [putD, h3, hl]
      | true =>
        have h6 : evsK env1 o.op.operands.toList fun ds => vOp P im o ds σ1 s2 fun s d σ _ => putK env1 o.dst d fun env => vOps P im r ops Z L (Nat.succ i) s env σ K := h4
        rw [evsK_eq] at h6
        obtain ⟨s3, d, σ3, kd, h7, h8⟩ := vOp_ok h6
        rw [putK_eq] at h7
        refine RunO.op h5 h8.op (vOps_ok hZ hK ?_ h7)
        cases o.dst <;> simp [putD, h3, hl]
    split at h1
    · obtain ⟨sl, h4, h5⟩ := vPick_ok h1
      exact RunO.forget (mkE_forget (h3.trans hl) h5) (hZ _ _ _ h4)
    · exact main h1
end
end Go.Nv
