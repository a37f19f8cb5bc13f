/-
  Operations that read memory or compute, and leave the world as it is. No program is named here.
-/
import Derived.Test.YtoofgniepbidnaaDvB
import Derived.Laws.Strings
namespace Go.Dv

/- FACTS ON TYPES, closed for each program -/
def szAgg (P : Program) (t : TypeId) : Option (Nat × Bool) :=
  match P.info? t, P.underlying t with
  | some i, some d => some (i.size, match d with | .struct _ | .array _ _ => true | _ => false)
  | _, _ => none
/-- a type of one cell -/
def OneTy (P : Program) (t : TypeId) : Prop := szAgg P t = some (1, false)
/-- a struct or array of n cells -/
def AggTy (P : Program) (t : TypeId) (n : Nat) : Prop := szAgg P t = some (n, true)

def slTy (P : Program) (t : TypeId) : Option (TypeId × Nat × Nat × Option Value) :=
  match P.underlying t with
  | some (.slice e) => (P.info? e).map fun i => (e, i.size, i.bytes, i.zero)
  | _ => none

def fldTy (P : Program) (s : TypeId) (f : Nat) : Option (Nat × Nat × Bool) :=
  match P.underlying s with
  | some (.struct fs) => (fs[f]?).bind fun x => (szAgg P x.type).map fun p => (x.offset, p.1, p.2)
  | _ => none

def arTy (P : Program) (t : TypeId) : Option (Nat × Nat × Bool) :=
  match P.underlying t with
  | some (.array n e) => (szAgg P e).map fun p => (n, p.1, p.2)
  | _ => none

theorem szAgg_parts {P : Program} {t : TypeId} {n : Nat} {b : Bool} (h : szAgg P t = some (n, b)) :
    ∃ i d, P.info? t = some i ∧ P.underlying t = some d ∧ i.size = n ∧ (match d with | .struct _ | .array _ _ => true | _ => false) = b := by
  unfold szAgg at h
  split at h
  · rename_i i d hi hd
    simp at h
    exact ⟨i, d, hi, hd, h.1, h.2⟩
  · simp at h

theorem run_isAgg {P : Program} {t : TypeId} {n : Nat} {b : Bool} (h : szAgg P t = some (n, b)) (w : World) : (isAgg t).run P w = .ok b w := by
  obtain ⟨i, d, hi, hd, _, hb⟩ := szAgg_parts h
  unfold isAgg
  rw [Sem.run_bind, run_underlying hd w]
  subst hb
  cases d <;> simp

theorem run_sizeOf' {P : Program} {t : TypeId} {n : Nat} {b : Bool} (h : szAgg P t = some (n, b)) (w : World) : (sizeOf t).run P w = .ok n w := by
  obtain ⟨i, d, hi, hd, hn, _⟩ := szAgg_parts h
  simp [sizeOf, typeInfo, hi, hn]

theorem slTy_parts {P : Program} {t e : TypeId} {sz by' : Nat} {z : Option Value} (h : slTy P t = some (e, sz, by', z)) :
    ∃ i, P.underlying t = some (.slice e) ∧ P.info? e = some i ∧ i.size = sz ∧ i.bytes = by' ∧ i.zero = z := by
  unfold slTy at h
  split at h
  · rename_i e' he
    cases hi : P.info? e' with
    | none => simp [hi] at h
    | some i =>
      simp [hi] at h
      obtain ⟨rfl, h1, h2, h3⟩ := h
      exact ⟨i, he, hi, h1, h2, h3⟩
  · simp at h

theorem fldTy_parts {P : Program} {s : TypeId} {f off n : Nat} {b : Bool} (h : fldTy P s f = some (off, n, b)) :
    ∃ fs x, P.underlying s = some (.struct fs) ∧ fs[f]? = some x ∧ x.offset = off ∧ szAgg P x.type = some (n, b) := by
  unfold fldTy at h
  split at h
  · rename_i fs hs
    cases hx : fs[f]? with
    | none => simp [hx] at h
    | some x =>
      simp only [hx, Option.bind_some] at h
      cases hz : szAgg P x.type with
      | none => simp [hz] at h
      | some p =>
        simp [hz] at h
        obtain ⟨h1, h2⟩ := h
        exact ⟨fs, x, hs, hx, h1, by rw [hz]; cases p; simp_all⟩
  · simp at h

theorem arTy_parts {P : Program} {t : TypeId} {len n : Nat} {b : Bool} (h : arTy P t = some (len, n, b)) :
    ∃ e, P.underlying t = some (.array len e) ∧ szAgg P e = some (n, b) := by
  unfold arTy at h
  split at h
  · rename_i l e he
    cases hz : szAgg P e with
    | none => simp [hz] at h
    | some p =>
      simp [hz] at h
      obtain ⟨rfl, h2⟩ := h
      exact ⟨e, he, by rw [hz]; cases p; simp_all⟩
  · simp at h

section
variable {P : Program} {o : Oper} {ds : List D} {σ σ' : St} {d : D}

/-- an operation that leaves the world as it is -/
theorem opOK_run (h : ∀ E g (ρ : Operand → Value) w, WI E g σ w → repDs g ds (o.op.operands.toList.map ρ) → ∃ u, (execOp ρ o).run P w = .ok (.value u) w ∧ repD g d u) : OpOK P o ds σ d σ := by
  intro E g a w K Q hw hds hK
  obtain ⟨u, hr, hd⟩ := h E g a.eval w hw hds
  unfold Oper.wp
  rw [hr]
  exact hK g w u hw g.le_refl hd

/-- less may be known of the operands -/
theorem opOK_sub {ds' : List D} (hs : ∀ g us, repDs g ds us → repDs g ds' us) (h : OpOK P o ds' σ d σ') : OpOK P o ds σ d σ' :=
  fun E g a w K Q hw hds hK => h E g a w K Q hw (hs g _ hds) hK

theorem opOK_post {d' : D} (hs : ∀ g u, repD g d u → repD g d' u) (h : OpOK P o ds σ d σ') : OpOK P o ds σ d' σ' :=
  fun E g a w K Q hw hds hK => h E g a w K Q hw hds fun g' w' u h1 h2 h3 => hK g' w' u h1 h2 (hs _ _ h3)

def D.un : D → D
  | .acc _ xs => .v (.list xs)
  | d => d

theorem repD_un {g : Gh} {d : D} {u : Value} (h : repD g d u) : repD g d.un u := by
  cases d <;> simp only [D.un] <;> first | exact h | (simp only [repD] at h ⊢; exact h.1)

theorem repDs_un {g : Gh} : ∀ {ds : List D} {us : List Value}, repDs g ds us → repDs g (ds.map D.un) us
  | [], us, h => by simpa using h
  | d :: ds, us, h => by
    simp only [repDs, List.map_cons] at h ⊢
    obtain ⟨u, us', e, h1, h2⟩ := h
    exact ⟨u, us', e, repD_un h1, repDs_un h2⟩

theorem opOK_un (h : OpOK P o (ds.map D.un) σ d σ') : OpOK P o ds σ d σ' := opOK_sub (fun _ _ => repDs_un) h

theorem repDs_one {g : Gh} {d : D} {us : List Value} : repDs g [d] us ↔ ∃ u, us = [u] ∧ repD g d u := by
  simp only [repDs]
  constructor
  · rintro ⟨u, us', rfl, h, rfl⟩; exact ⟨u, rfl, h⟩
  · rintro ⟨u, rfl, h⟩; exact ⟨u, [], rfl, h, rfl⟩
theorem repDs_two {g : Gh} {d e : D} {us : List Value} : repDs g [d, e] us ↔ ∃ u v, us = [u, v] ∧ repD g d u ∧ repD g e v := by
  simp only [repDs]
  constructor
  · rintro ⟨u, us', rfl, h, v, us'', rfl, h', rfl⟩; exact ⟨u, v, rfl, h, h'⟩
  · rintro ⟨u, v, rfl, h, h'⟩; exact ⟨u, [v], rfl, h, v, [], rfl, h', rfl⟩
theorem repDs_three {g : Gh} {d e f : D} {us : List Value} : repDs g [d, e, f] us ↔ ∃ u v x, us = [u, v, x] ∧ repD g d u ∧ repD g e v ∧ repD g f x := by
  constructor
  · intro h
    simp only [repDs] at h
    obtain ⟨u, us', rfl, h, v, us'', rfl, h', x, us3, rfl, h'', rfl⟩ := h
    exact ⟨u, v, x, rfl, h, h', h''⟩
  · rintro ⟨u, v, x, rfl, h, h', h''⟩
    simp only [repDs]
    exact ⟨u, [v, x], rfl, h, v, [x], rfl, h', x, [], rfl, h'', rfl⟩

theorem op_move {x : Operand} (ho : o.op = .move x) : OpOK P o [d] σ d σ := by
  refine opOK_run fun E g ρ w hw hds => ?_
  simp only [ho, Op.operands, repDs_one] at hds
  obtain ⟨u, e, hd⟩ := hds
  simp at e
  exact ⟨u, by simp [execOp, ho, e], hd⟩

theorem op_assign {x : Operand} (ho : o.op = .assign x) : OpOK P o [d] σ d σ := by
  refine opOK_run fun E g ρ w hw hds => ?_
  simp only [ho, Op.operands, repDs_one] at hds
  obtain ⟨u, e, hd⟩ := hds
  simp at e
  exact ⟨u, by simp [execOp, ho, e], hd⟩

theorem op_pick {c x y : Operand} (ho : o.op = .pick c x y) {b : Bool} {d1 d2 : D} : OpOK P o [.v (.bool b), d1, d2] σ (if b then d1 else d2) σ := by
  refine opOK_run fun E g ρ w hw hds => ?_
  simp only [ho, Op.operands, repDs_three] at hds
  obtain ⟨u, v, z, e, h1, h2, h3⟩ := hds
  simp only [List.map_cons, List.map_nil, List.cons.injEq, and_true] at e
  obtain ⟨e1, e2, e3⟩ := e
  simp only [repD, repV_bool] at h1
  refine ⟨if b then v else z, ?_, ?_⟩
  · simp only [execOp, ho, e1, h1, e2, e3]
    cases b <;> simp [asBool]
  · cases b <;> simp [h2, h3]

def binI (op : BinOp) (k : IntKind) (a b : Int) : Option V :=
  match op with
  | .add => some (.int k (k.wrap (a + b)))
  | .sub => some (.int k (k.wrap (a - b)))
  | .mul => some (.int k (k.wrap (a * b)))
  | .and => some (.int k (k.wrap (BitVec.ofInt k.bits a &&& BitVec.ofInt k.bits b).toNat))
  | .or => some (.int k (k.wrap (BitVec.ofInt k.bits a ||| BitVec.ofInt k.bits b).toNat))
  | .xor => some (.int k (k.wrap (BitVec.ofInt k.bits a ^^^ BitVec.ofInt k.bits b).toNat))
  | .andNot => some (.int k (k.wrap (BitVec.ofInt k.bits a &&& ~~~BitVec.ofInt k.bits b).toNat))
  | .eql => some (.bool (a == b))
  | .neq => some (.bool (a != b))
  | .lss => some (.bool (a < b))
  | .leq => some (.bool (a ≤ b))
  | .gtr => some (.bool (a > b))
  | .geq => some (.bool (a ≥ b))
  | _ => none

theorem op_binI {op : BinOp} {t ty : TypeId} {x y : Operand} (ho : o.op = .binOp op t x y ty) {k : IntKind} {a b : Int} {r : V} (hr : binI op k a b = some r) :
    OpOK P o [.v (.int k a), .v (.int k b)] σ (.v r) σ := by
  refine opOK_run fun E g ρ w hw hds => ?_
  simp only [ho, Op.operands, repDs_two] at hds
  obtain ⟨u, v, e, h1, h2⟩ := hds
  simp only [List.map_cons, List.map_nil, List.cons.injEq, and_true] at e
  obtain ⟨e1, e2⟩ := e
  simp only [repD, repV_int] at h1 h2
  subst h1 h2
  cases op <;> simp only [binI, Option.some.injEq, reduceCtorEq] at hr <;> subst hr <;>
    simp [execOp, ho, e1, e2, eqGuard, binOp, Op.intArith, Op.intBits, Op.intCmp, repD]

def quoI (op : BinOp) (k : IntKind) (a b : Int) : Option V :=
  match op with
  | .quo => some (.int k (k.wrap (a.tdiv b)))
  | .rem => some (.int k (a.tmod b))
  | _ => none

theorem op_quoI {op : BinOp} {t ty : TypeId} {x y : Operand} (ho : o.op = .binOp op t x y ty) {k : IntKind} {a b : Int} {r : V} (hr : quoI op k a b = some r) (hb : b ≠ 0) :
    OpOK P o [.v (.int k a), .v (.int k b)] σ (.v r) σ := by
  refine opOK_run fun E g ρ w hw hds => ?_
  simp only [ho, Op.operands, repDs_two] at hds
  obtain ⟨u, v, e, h1, h2⟩ := hds
  simp only [List.map_cons, List.map_nil, List.cons.injEq, and_true] at e
  obtain ⟨e1, e2⟩ := e
  simp only [repD, repV_int] at h1 h2
  subst h1 h2
  cases op <;> simp only [quoI, Option.some.injEq, reduceCtorEq] at hr <;> subst hr <;>
    simp [execOp, ho, e1, e2, eqGuard, binOp, Op.intDiv, hb, repD]

def shI (op : BinOp) (k : IntKind) (a b : Int) : Option V :=
  match op with
  | .shl => some (.int k (k.wrap (a * 2 ^ (min b.toNat k.bits))))
  | .shr => some (.int k (a.fdiv (2 ^ (min b.toNat k.bits))))
  | _ => none

theorem op_shI {op : BinOp} {t ty : TypeId} {x y : Operand} (ho : o.op = .binOp op t x y ty) {k k' : IntKind} {a b : Int} {r : V} (hr : shI op k a b = some r) (hb : 0 ≤ b) :
    OpOK P o [.v (.int k a), .v (.int k' b)] σ (.v r) σ := by
  refine opOK_run fun E g ρ w hw hds => ?_
  simp only [ho, Op.operands, repDs_two] at hds
  obtain ⟨u, v, e, h1, h2⟩ := hds
  simp only [List.map_cons, List.map_nil, List.cons.injEq, and_true] at e
  obtain ⟨e1, e2⟩ := e
  simp only [repD, repV_int] at h1 h2
  subst h1 h2
  have hb' : ¬ b < 0 := by omega
  cases op <;> simp only [shI, Option.some.injEq, reduceCtorEq] at hr <;> subst hr <;>
    simp [execOp, ho, e1, e2, eqGuard, binOp, Op.shift, hb', repD]

def binS (op : BinOp) (a b : List UInt8) : Option V :=
  match op with
  | .eql => some (.bool (a == b))
  | .neq => some (.bool !(a == b))
  | .lss => some (.bool (Op.bytesLess a b))
  | .leq => some (.bool (Op.bytesLess a b || a == b))
  | .gtr => some (.bool !(Op.bytesLess a b || a == b))
  | .geq => some (.bool !(Op.bytesLess a b))
  | _ => none

theorem size_mk (l : List UInt8) : ByteArray.size ⟨l.toArray⟩ = l.length := by simp [ByteArray.size]
theorem toList_mk (l : List UInt8) : ByteArray.toList ⟨l.toArray⟩ = l := by
  rw [ByteArray.toList_eq]

theorem op_binS {op : BinOp} {t ty : TypeId} {x y : Operand} (ho : o.op = .binOp op t x y ty) {a b : List UInt8} {r : V} (hr : binS op a b = some r) :
    OpOK P o [.v (.str a), .v (.str b)] σ (.v r) σ := by
  refine opOK_run fun E g ρ w hw hds => ?_
  simp only [ho, Op.operands, repDs_two] at hds
  obtain ⟨u, v, e, h1, h2⟩ := hds
  simp only [List.map_cons, List.map_nil, List.cons.injEq, and_true] at e
  obtain ⟨e1, e2⟩ := e
  simp only [repD, repV_str] at h1 h2
  subst h1 h2
  cases op <;> simp only [binS, Option.some.injEq, reduceCtorEq] at hr <;> subst hr <;>
    simp [execOp, ho, e1, e2, eqGuard, binOp, Op.stringOp, repD]

/-- '+' on strings -/
theorem op_concat {t ty : TypeId} {x y : Operand} (ho : o.op = .binOp .add t x y ty) {a b : List UInt8} (hl : a.length + b.length ≤ 9223372036854775807) :
    OpOK P o [.v (.str a), .v (.str b)] σ (.v (.str (a ++ b))) σ := by
  refine opOK_run fun E g ρ w hw hds => ?_
  simp only [ho, Op.operands, repDs_two] at hds
  obtain ⟨u, v, e, h1, h2⟩ := hds
  simp only [List.map_cons, List.map_nil, List.cons.injEq, and_true] at e
  obtain ⟨e1, e2⟩ := e
  simp only [repD, repV_str] at h1 h2
  subst h1 h2
  have hs : ∀ l : List UInt8, ByteArray.size ⟨l.toArray⟩ = l.length := fun l => by simp [ByteArray.size]
  have hn : ¬ (((a.length + b.length : Nat) : Int) > IntKind.i64.max) := by
    have : IntKind.i64.max = 9223372036854775807 := by decide
    rw [this]; omega
  refine ⟨.string ⟨(a ++ b).toArray⟩, ?_, by simp [repD]⟩
  have hap : (⟨a.toArray⟩ : ByteArray) ++ ⟨b.toArray⟩ = ⟨(a ++ b).toArray⟩ := by
    apply ByteArray.ext
    simp [ByteArray.data_append]
  simp only [execOp, ho, e1, e2, binOp, Op.stringOp, hs, hn, if_false, hap]
  simp [eqGuard]

/-- '==', '!=' on bools -/
theorem op_eqlB {op : BinOp} {t ty : TypeId} {x y : Operand} (ho : o.op = .binOp op t x y ty) (hu : P.underlying t = some .bool) {a b : Bool} (hop : op = .eql ∨ op = .neq) :
    OpOK P o [.v (.bool a), .v (.bool b)] σ (.v (.bool (if op = .eql then a == b else a != b))) σ := by
  refine opOK_run fun E g ρ w hw hds => ?_
  simp only [ho, Op.operands, repDs_two] at hds
  obtain ⟨u, v, e, h1, h2⟩ := hds
  simp only [List.map_cons, List.map_nil, List.cons.injEq, and_true] at e
  obtain ⟨e1, e2⟩ := e
  simp only [repD, repV_bool] at h1 h2
  subst h1 h2
  have heq : (Op.equal t (.bool a) (.bool b)).run P w = .ok (a == b) w := by
    have gen : ∀ d, (Op.equalIn (d + 1) t (.bool a) (.bool b)).run P w = .ok (a == b) w := fun d => by
      simp only [Op.equalIn, Sem.run_bind, run_underlying hu, Result.andThen_ok]
      rfl
    exact gen 9999
  refine ⟨.bool (if op = .eql then a == b else a != b), ?_, by simp [repD]⟩
  rcases hop with rfl | rfl <;>
    simp [execOp, ho, e1, e2, eqGuard, binOp, heq, bne]

def unI (op : UnOp) (x : V) : Option V :=
  match op, x with
  | .not, .bool b => some (.bool !b)
  | .neg, .int k n => some (.int k (k.wrap (0 - n)))
  | _, _ => none

theorem op_un {op : UnOp} {t : TypeId} {x : Operand} (ho : o.op = .unOp op t x) {a r : V} (hr : unI op a = some r) : OpOK P o [.v a] σ (.v r) σ := by
  refine opOK_run fun E g ρ w hw hds => ?_
  simp only [ho, Op.operands, repDs_one] at hds
  obtain ⟨u, e, h1⟩ := hds
  simp at e
  unfold unI at hr
  split at hr
  · simp at hr; subst hr
    simp only [repD, repV_bool] at h1
    exact ⟨_, by simp [execOp, ho, e, h1, Op.unary]; rfl, by simp [repD]⟩
  · simp only [Option.some.injEq] at hr; subst hr
    simp only [repD, repV_int] at h1
    exact ⟨_, by simp only [execOp, ho, e, h1, Op.unary, Op.intArith]; rfl, by simp [repD]⟩
  · simp at hr

/-- between integer kinds -/
theorem op_convI {src dst : TypeId} {x : Operand} (ho : o.op = .convert src dst x) {k k' : IntKind} {n : Int} {ds' : TypeDesc} (hs : P.underlying src = some ds') (hd : P.underlying dst = some (.int k')) :
    OpOK P o [.v (.int k n)] σ (.v (.int k' (k'.wrap n))) σ := by
  refine opOK_run fun E g ρ w hw hds => ?_
  simp only [ho, Op.operands, repDs_one] at hds
  obtain ⟨u, e, h1⟩ := hds
  simp at e
  simp only [repD, repV_int] at h1
  refine ⟨.int k' (k'.wrap n), ?_, by simp [repD]⟩
  simp only [execOp, ho, e, h1, convert, Sem.run_bind, run_underlying hs, run_underlying hd, Result.andThen_ok, Conv.intToInt]
  rfl

theorem op_extract {x : Operand} {i : Nat} (ho : o.op = .extract x i) {ds : List D} (hd : ds[i]? = some d) : OpOK P o [.tup ds] σ d σ := by
  refine opOK_run fun E g ρ w hw hds => ?_
  simp only [ho, Op.operands, repDs_one] at hds
  obtain ⟨u, e, h1⟩ := hds
  simp at e
  simp only [repD] at h1
  obtain ⟨us, rfl, h2⟩ := h1
  obtain ⟨u, hu, h3⟩ := repDs_get h2 hd
  exact ⟨u, by simp [execOp, ho, e, Instr.extract, hu], h3⟩

theorem op_nilCheck_ptr {x : Operand} (ho : o.op = .nilCheck x) {q off : Nat} : OpOK P o [.ptr q off] σ (.ptr q off) σ := by
  refine opOK_run fun E g ρ w hw hds => ?_
  simp only [ho, Op.operands, repDs_one] at hds
  obtain ⟨u, e, h1⟩ := hds
  simp at e
  refine ⟨u, ?_, h1⟩
  simp only [repD] at h1
  simp [execOp, ho, e, h1.2]

theorem op_nilCheck_ref {x : Operand} (ho : o.op = .nilCheck x) {y : V} : OpOK P o [.v (.ref y)] σ (.v (.ref y)) σ := by
  refine opOK_run fun E g ρ w hw hds => ?_
  simp only [ho, Op.operands, repDs_one] at hds
  obtain ⟨u, e, h1⟩ := hds
  simp at e
  refine ⟨u, ?_, h1⟩
  simp only [repD, repV_ref] at h1
  obtain ⟨b, off, us, rfl, _⟩ := h1
  simp [execOp, ho, e]

/-- len -/
theorem op_lenL {x : Operand} {t : TypeId} (ho : o.op = .call { callee := .builtin .len, args := #[x], argTypes := #[t] }) {e : TypeId} (ht : P.underlying t = some (.slice e)) {xs : List V} :
    OpOK P o [.v (.list xs)] σ (.v (.int .i64 xs.length)) σ := by
  refine opOK_run fun E g ρ w hw hds => ?_
  simp only [ho, Op.operands, Call.operands, repDs_one] at hds
  obtain ⟨u, e, h1⟩ := hds
  simp at e
  simp only [repD, repV_list] at h1
  obtain ⟨a, cap, rfl, _⟩ := h1
  exact ⟨_, by simp [execOp, ho, e, resolve, invoke, builtin, Builtin.len_, run_underlying ht, goInt]; rfl, by simp [repD]⟩

theorem op_lenA {x : Operand} {t : TypeId} (ho : o.op = .call { callee := .builtin .len, args := #[x], argTypes := #[t] }) {e : TypeId} (ht : P.underlying t = some (.slice e)) {q off len : Nat} :
    OpOK P o [.arr q off len] σ (.v (.int .i64 len)) σ := by
  refine opOK_run fun E g ρ w hw hds => ?_
  simp only [ho, Op.operands, Call.operands, repDs_one] at hds
  obtain ⟨u, e, h1⟩ := hds
  simp at e
  simp only [repD] at h1
  obtain ⟨_, cap, _, rfl⟩ := h1
  exact ⟨_, by simp [execOp, ho, e, resolve, invoke, builtin, Builtin.len_, run_underlying ht, goInt]; rfl, by simp [repD]⟩

theorem op_lenS {x : Operand} {t : TypeId} (ho : o.op = .call { callee := .builtin .len, args := #[x], argTypes := #[t] }) (ht : P.underlying t = some .string) {s : List UInt8} :
    OpOK P o [.v (.str s)] σ (.v (.int .i64 s.length)) σ := by
  refine opOK_run fun E g ρ w hw hds => ?_
  simp only [ho, Op.operands, Call.operands, repDs_one] at hds
  obtain ⟨u, e, h1⟩ := hds
  simp at e
  simp only [repD, repV_str] at h1
  subst h1
  exact ⟨_, by simp [execOp, ho, e, resolve, invoke, builtin, Builtin.len_, run_underlying ht, goInt, size_mk]; rfl, by simp [repD]⟩

theorem op_max {x y : Operand} {ts : Array TypeId} (ho : o.op = .call { callee := .builtin .max, args := #[x, y], argTypes := ts }) {k : IntKind} {a b : Int} :
    OpOK P o [.v (.int k a), .v (.int k b)] σ (.v (.int k (if b > a then b else a))) σ := by
  refine opOK_run fun E g ρ w hw hds => ?_
  simp only [ho, Op.operands, Call.operands] at hds
  have hds' := repDs_two.1 (by simpa using hds)
  obtain ⟨u, v, e, h1, h2⟩ := hds'
  simp only [List.cons.injEq, and_true] at e
  simp only [repD, repV_int] at h1 h2
  exact ⟨_, by simp [execOp, ho, e.1, e.2, h1, h2, resolve, invoke, builtin, Builtin.max_, Builtin.max2]; rfl, by simp [repD]⟩

theorem op_min {x y : Operand} {ts : Array TypeId} (ho : o.op = .call { callee := .builtin .min, args := #[x, y], argTypes := ts }) {k : IntKind} {a b : Int} :
    OpOK P o [.v (.int k a), .v (.int k b)] σ (.v (.int k (if b < a then b else a))) σ := by
  refine opOK_run fun E g ρ w hw hds => ?_
  simp only [ho, Op.operands, Call.operands] at hds
  have hds' := repDs_two.1 (by simpa using hds)
  obtain ⟨u, v, e, h1, h2⟩ := hds'
  simp only [List.cons.injEq, and_true] at e
  simp only [repD, repV_int] at h1 h2
  exact ⟨_, by simp [execOp, ho, e.1, e.2, h1, h2, resolve, invoke, builtin, Builtin.min_, Builtin.min2]; rfl, by simp [repD]⟩

end
end Go.Dv
