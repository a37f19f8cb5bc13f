/-
  Operations that read memory: loads, addresses of fields and elements, parts of lists and strings. No program is named here.
-/
import Derived.Test.YtoofgniepbidnaaDvC
namespace Go.Dv

section
variable {M : Mem}

theorem repA_get : ∀ {cs : List V} {us : List Value}, repA M cs us → ∀ {i : Nat} {c : V}, cs[i]? = some c → ∃ u, us[i]? = some u ∧ c.isAgg = false ∧ repC M c [u]
  | [], us, h, i, c, hc => by simp at hc
  | c0 :: cs, us, h, i, c, hc => by
    simp only [repA] at h
    obtain ⟨u, us', rfl, ha, h1, h2⟩ := h
    cases i with
    | zero => simp at hc; subst hc; exact ⟨u, by simp, ha, h1⟩
    | succ i => simp at hc; obtain ⟨u', e, h3⟩ := repA_get h2 hc; exact ⟨u', by simpa using e, h3⟩

theorem repA_drop : ∀ {cs : List V} {us : List Value}, repA M cs us → ∀ (n : Nat), repA M (cs.drop n) (us.drop n)
  | [], us, h, n => by simp only [repA] at h; simp [h, repA]
  | c0 :: cs, us, h, n => by
    cases n with
    | zero => simpa using h
    | succ n =>
      simp only [repA] at h
      obtain ⟨u, us', rfl, ha, h1, h2⟩ := h
      simpa using repA_drop h2 n

theorem repA_take : ∀ {cs : List V} {us : List Value}, repA M cs us → ∀ (n : Nat), repA M (cs.take n) (us.take n)
  | [], us, h, n => by simp only [repA] at h; simp [h, repA]
  | c0 :: cs, us, h, n => by
    cases n with
    | zero => simp [repA]
    | succ n =>
      simp only [repA] at h
      obtain ⟨u, us', rfl, ha, h1, h2⟩ := h
      simp only [List.take_succ_cons, repA]
      exact ⟨u, _, rfl, ha, h1, repA_take h2 n⟩

theorem repE_length {sz : Nat} : ∀ {xs : List V} {us : List Value}, repE M sz xs us → us.length = xs.length * sz
  | [], us, h => by simp only [repE] at h; simp [h]
  | x :: xs, us, h => by
    simp only [repE] at h
    obtain ⟨u1, u2, rfl, hl, h1, h2⟩ := h
    simp [repE_length h2, hl, Nat.add_mul, Nat.add_comm]

theorem repE_get {sz : Nat} : ∀ {xs : List V} {us : List Value}, repE M sz xs us → ∀ {i : Nat} {x : V}, xs[i]? = some x →
    ∃ u1, repC M x u1 ∧ u1.length = sz ∧ ∀ j v, u1[j]? = some v → us[i * sz + j]? = some v
  | [], us, h, i, c, hc => by simp at hc
  | x0 :: xs, us, h, i, x, hc => by
    simp only [repE] at h
    obtain ⟨u1, u2, rfl, hl, h1, h2⟩ := h
    cases i with
    | zero =>
      simp at hc; subst hc
      refine ⟨u1, h1, hl, fun j v hj => ?_⟩
      have : j < u1.length := (List.getElem?_eq_some_iff.1 hj).1
      rw [Nat.zero_mul, Nat.zero_add, List.getElem?_append_left this]; exact hj
    | succ i =>
      simp at hc
      obtain ⟨u', hr, hl', hg⟩ := repE_get h2 hc
      refine ⟨u', hr, hl', fun j v hj => ?_⟩
      have e : (i + 1) * sz + j = u1.length + (i * sz + j) := by rw [hl, Nat.add_mul]; omega
      rw [e, List.getElem?_append_right (by omega)]
      have : u1.length + (i * sz + j) - u1.length = i * sz + j := by omega
      rw [this]; exact hg j v hj

theorem repE_drop {sz : Nat} : ∀ {xs : List V} {us : List Value}, repE M sz xs us → ∀ (n : Nat), repE M sz (xs.drop n) (us.drop (n * sz))
  | [], us, h, n => by simp only [repE] at h; simp [h, repE]
  | x :: xs, us, h, n => by
    cases n with
    | zero => simpa using h
    | succ n =>
      simp only [repE] at h
      obtain ⟨u1, u2, rfl, hl, h1, h2⟩ := h
      have := repE_drop h2 n
      have e : (n + 1) * sz = u1.length + n * sz := by rw [hl, Nat.add_mul]; omega
      have e2 : (u1 ++ u2).drop (u1.length + n * sz) = u2.drop (n * sz) := by
        rw [List.drop_append, List.drop_of_length_le (Nat.le_add_right u1.length (n * sz)), List.nil_append, Nat.add_sub_cancel_left]
      rw [e, e2]
      exact this

theorem repE_take {sz : Nat} : ∀ {xs : List V} {us : List Value}, repE M sz xs us → ∀ (n : Nat), repE M sz (xs.take n) (us.take (n * sz))
  | [], us, h, n => by simp only [repE] at h; simp [h, repE]
  | x :: xs, us, h, n => by
    cases n with
    | zero => simp [repE]
    | succ n =>
      simp only [repE] at h
      obtain ⟨u1, u2, rfl, hl, h1, h2⟩ := h
      simp only [List.take_succ_cons, repE]
      have e : (n + 1) * sz = u1.length + n * sz := by rw [hl, Nat.add_mul]; omega
      refine ⟨u1, u2.take (n * sz), ?_, hl, h1, repE_take h2 n⟩
      rw [e, List.take_append, List.take_of_length_le (Nat.le_add_right _ _), Nat.add_sub_cancel_left]

theorem inM_drop {b off : Nat} {us : List Value} (h : inM M b off us) (n : Nat) : inM M b (off + n) (us.drop n) := fun j v hj => by
  rw [List.getElem?_drop] at hj
  rw [Nat.add_assoc]; exact h _ v hj
theorem inM_take {b off : Nat} {us : List Value} (h : inM M b off us) (n : Nat) : inM M b off (us.take n) := fun j v hj => by
  rw [List.getElem?_take] at hj
  split at hj
  · exact h j v hj
  · simp at hj
end

/-- a part of a struct or array -/
def partV (cs : List V) (fo n : Nat) (b : Bool) : Option V := if b then (if fo + n ≤ cs.length then some (.agg ((cs.drop fo).take n)) else none) else cs[fo]?

theorem partV_rep {M : Mem} {cs : List V} {us : List Value} {fo n : Nat} {b : Bool} {x : V} (h : partV cs fo n b = some x) (hr : repA M cs us) (hn : b = false → n = 1) :
    repC M x ((us.drop fo).take n) ∧ x.isAgg = b ∧ ((us.drop fo).take n).length = n := by
  have hl := repA_length hr
  unfold partV at h
  cases b with
  | true =>
    simp only [if_true] at h
    split at h
    · simp at h; subst h
      refine ⟨?_, rfl, by simp; omega⟩
      simp only [repC]
      exact repA_take (repA_drop hr fo) n
    · simp at h
  | false =>
    simp only [Bool.false_eq_true, if_false] at h
    obtain ⟨u, hu, ha, hc⟩ := repA_get hr h
    obtain rfl := hn rfl
    have : (us.drop fo).take 1 = [u] := by
      have hlt : fo < us.length := (List.getElem?_eq_some_iff.1 hu).1
      rw [List.drop_eq_getElem_cons hlt, List.take_succ_cons, List.take_zero]
      rw [(List.getElem?_eq_some_iff.1 hu).2]
    rw [this]
    exact ⟨hc, ha, rfl⟩

def D.toV : D → Option V
  | .v x => some x
  | .acc _ xs => some (.list xs)
  | _ => none

def toVs : List D → Option (List V)
  | [] => some []
  | d :: ds => match d.toV, toVs ds with
    | some x, some xs => some (x :: xs)
    | _, _ => none

theorem toV_rep {g : Gh} {d : D} {x : V} {u : Value} (h : d.toV = some x) (hr : repD g d u) : repV g.M x u := by
  cases d <;> simp [D.toV] at h <;> subst h
  · simpa [repD] using hr
  · simp only [repD] at hr; exact hr.1

theorem toVs_rep {g : Gh} : ∀ {ds : List D} {xs : List V} {us : List Value}, toVs ds = some xs → repDs g ds us → (∀ c ∈ ds, c.one = true) → repA g.M xs us
  | [], xs, us, h, hr, _ => by simp [toVs] at h; subst h; simpa [repDs, repA] using hr
  | d :: ds, xs, us, h, hr, h1 => by
    simp only [toVs] at h
    split at h
    · rename_i x xs' hx hxs
      simp at h; subst h
      simp only [repDs] at hr
      obtain ⟨u, us', rfl, h2, h3⟩ := hr
      simp only [repA]
      have hxa : x.isAgg = false := by
        have := h1 d (by simp)
        cases d <;> simp [D.toV] at hx <;> subst hx <;> simp_all [D.one, V.isAgg]
      exact ⟨u, us', rfl, hxa, (repV_one hxa).1 (toV_rep hx h2), toVs_rep hxs h3 (fun c hc => h1 c (by simp [hc]))⟩
    · simp at h

section
variable {P : Program} {o : Oper} {σ : St} {d : D}

theorem mem_cells {E : Ent} {g : Gh} {w : World} (hw : WI E g σ w) {b off : Nat} {us : List Value} (h : inM g.M b off us) : ∀ j v, us[j]? = some v → w.cell? ((⟨b, off, none⟩ : Addr).add j) = some v := fun j v hj => by
  rw [Addr.add_lit]; exact hw.rep.mem _ _ _ (h j v hj)

theorem op_loadR1 {t : TypeId} {a : Operand} (ho : o.op = .load t a) (ht : OneTy P t) {x : V} (hx : x.isAgg = false) : OpOK P o [.v (.ref x)] σ (.v x) σ := by
  refine opOK_run fun E g ρ w hw hds => ?_
  simp only [ho, Op.operands, repDs_one] at hds
  obtain ⟨u, e, h1⟩ := hds
  simp at e
  simp only [repD, repV_ref] at h1
  obtain ⟨b, off, us, rfl, hi, hr⟩ := h1
  obtain ⟨u', rfl, hm, _⟩ := repC_one hx hr
  have hc : w.cell? ⟨b, off, none⟩ = some u' := by have := hw.rep.mem _ _ _ (hi 0 u' (by simp)); simpa using this
  refine ⟨u', ?_, by simp only [repD]; exact (repV_one hx).2 hr⟩
  simp [execOp, ho, e, Instr.loadAt, Instr.sureAddr, loadVar, run_isAgg ht, hc]

theorem op_loadRA {t : TypeId} {a : Operand} (ho : o.op = .load t a) {cs : List V} (ht : AggTy P t cs.length) : OpOK P o [.v (.ref (.agg cs))] σ (.v (.agg cs)) σ := by
  refine opOK_run fun E g ρ w hw hds => ?_
  simp only [ho, Op.operands, repDs_one] at hds
  obtain ⟨u, e, h1⟩ := hds
  simp at e
  simp only [repD, repV_ref] at h1
  obtain ⟨b, off, us, rfl, hi, hr⟩ := h1
  simp only [repC] at hr
  have hl := repA_length hr
  have hld := run_loadCells_list (P := P) w ⟨b, off, none⟩ us (mem_cells hw hi)
  rw [hl] at hld
  refine ⟨.agg us.toArray, ?_, by simp only [repD, repV_agg]; exact ⟨us, hr, rfl⟩⟩
  simp [execOp, ho, e, Instr.loadAt, Instr.sureAddr, loadVar, run_isAgg ht, run_sizeOf' ht, hld]

theorem op_loadP1 {t : TypeId} {a : Operand} (ho : o.op = .load t a) (ht : OneTy P t) {q off : Nat} {cs : List D} (hH : σ.H[q]? = some (some cs)) (hc : cs[off]? = some d) : OpOK P o [.ptr q off] σ d σ := by
  refine opOK_run fun E g ρ w hw hds => ?_
  simp only [ho, Op.operands, repDs_one] at hds
  obtain ⟨u, e, h1⟩ := hds
  simp at e
  simp only [repD] at h1
  obtain ⟨_, rfl⟩ := h1
  obtain ⟨us, rest, et, hb, hr, _, _⟩ := hw.rep.obj q cs hH
  obtain ⟨u', hu, hd⟩ := repDs_get hr hc
  have hcell : w.cell? ⟨g.β q, off, none⟩ = some u' := by simp only [World.cell?, hb, List.getElem?_toArray]; exact get_app hu
  refine ⟨u', ?_, hd⟩
  simp [execOp, ho, e, Instr.loadAt, Instr.sureAddr, loadVar, run_isAgg ht, hcell]

theorem repDs_drop {g : Gh} : ∀ {cs : List D} {us : List Value}, repDs g cs us → ∀ (n : Nat), repDs g (cs.drop n) (us.drop n)
  | [], us, h, n => by simp only [repDs] at h; simp [h, repDs]
  | c0 :: cs, us, h, n => by
    cases n with
    | zero => simpa using h
    | succ n =>
      simp only [repDs] at h
      obtain ⟨u, us', rfl, h1, h2⟩ := h
      simpa using repDs_drop h2 n

theorem repDs_take {g : Gh} : ∀ {cs : List D} {us : List Value}, repDs g cs us → ∀ (n : Nat), repDs g (cs.take n) (us.take n)
  | [], us, h, n => by simp only [repDs] at h; simp [h, repDs]
  | c0 :: cs, us, h, n => by
    cases n with
    | zero => simp [repDs]
    | succ n =>
      simp only [repDs] at h
      obtain ⟨u, us', rfl, h1, h2⟩ := h
      simp only [List.take_succ_cons, repDs]
      exact ⟨u, _, rfl, h1, repDs_take h2 n⟩

theorem op_loadPA {t : TypeId} {a : Operand} (ho : o.op = .load t a) {n : Nat} (ht : AggTy P t n) {q off : Nat} {cs : List D} (hH : σ.H[q]? = some (some cs)) {xs : List V}
    (hn : off + n ≤ cs.length) (hc : toVs ((cs.drop off).take n) = some xs) : OpOK P o [.ptr q off] σ (.v (.agg xs)) σ := by
  refine opOK_run fun E g ρ w hw hds => ?_
  simp only [ho, Op.operands, repDs_one] at hds
  obtain ⟨u, e, h1⟩ := hds
  simp at e
  simp only [repD] at h1
  obtain ⟨_, rfl⟩ := h1
  obtain ⟨us, rest, et, hb, hr, h1, _⟩ := hw.rep.obj q cs hH
  have hra := toVs_rep hc (repDs_take (repDs_drop hr off) n) (fun c hc' => h1 c (List.mem_of_mem_drop (List.mem_of_mem_take hc')))
  have hl : us.length = cs.length := repDs_length hr
  have hld := run_loadCells_list (P := P) w ⟨g.β q, off, none⟩ ((us.drop off).take n) (fun j v hj => by
    rw [List.getElem?_take] at hj
    split at hj
    · rw [List.getElem?_drop] at hj
      rw [Addr.add_lit]
      simp only [World.cell?, hb, List.getElem?_toArray]; exact get_app hj
    · simp at hj)
  have hlen : ((us.drop off).take n).length = n := by simp; omega
  rw [hlen] at hld
  refine ⟨.agg ((us.drop off).take n).toArray, ?_, by simp only [repD, repV_agg]; exact ⟨_, hra, rfl⟩⟩
  simp only [execOp, ho, e, Instr.loadAt, Instr.sureAddr, loadVar, Sem.run_bind, Sem.run_pure, Result.andThen_ok, run_isAgg ht, run_sizeOf' ht, hld, if_true]

theorem op_fieldP {s : TypeId} {x : Operand} {f : Nat} (ho : o.op = .fieldAddr s x f) {fo n : Nat} {b : Bool} (hf : fldTy P s f = some (fo, n, b)) (hn : n ≠ 0) {q off : Nat} : OpOK P o [.ptr q off] σ (.ptr q (off + fo)) σ := by
  refine opOK_run fun E g ρ w hw hds => ?_
  simp only [ho, Op.operands, repDs_one] at hds
  obtain ⟨u, e, h1⟩ := hds
  simp at e
  simp only [repD] at h1
  obtain ⟨hq, rfl⟩ := h1
  obtain ⟨fs, y, hs, hy, hoff, hz⟩ := fldTy_parts hf
  refine ⟨.pointer (some ⟨g.β q, off + fo, none⟩), ?_, by simp [repD, hq]⟩
  simp [execOp, ho, e, Instr.fieldAt, run_underlying hs, hy, Instr.sureAddr, fieldPlace, run_sizeOf' hz, hn, Addr.add_lit, hoff]

theorem op_fieldR {s : TypeId} {x : Operand} {f : Nat} (ho : o.op = .fieldAddr s x f) {fo n : Nat} {b : Bool} (hf : fldTy P s f = some (fo, n, b)) (hn : n ≠ 0) (hn1 : b = false → n = 1) {cs : List V} {y : V} (hp : partV cs fo n b = some y) :
    OpOK P o [.v (.ref (.agg cs))] σ (.v (.ref y)) σ := by
  refine opOK_run fun E g ρ w hw hds => ?_
  simp only [ho, Op.operands, repDs_one] at hds
  obtain ⟨u, e, h1⟩ := hds
  simp at e
  simp only [repD, repV_ref] at h1
  obtain ⟨bb, off, us, rfl, hi, hr⟩ := h1
  obtain ⟨fs, z, hs, hy, hoff, hz⟩ := fldTy_parts hf
  simp only [repC] at hr
  obtain ⟨h3, _, _⟩ := partV_rep hp hr hn1
  refine ⟨.pointer (some ⟨bb, off + fo, none⟩), ?_, by simp only [repD, repV_ref]; exact ⟨bb, off + fo, _, rfl, inM_take (inM_drop hi fo) n, h3⟩⟩
  simp [execOp, ho, e, Instr.fieldAt, run_underlying hs, hy, Instr.sureAddr, fieldPlace, run_sizeOf' hz, hn, Addr.add_lit, hoff]

theorem run_part {M : Mem} {t : TypeId} {n : Nat} {b : Bool} (hz : szAgg P t = some (n, b)) {cs : List V} {us : List Value} {fo : Nat} {y : V} (hp : partV cs fo n b = some y) (hr : repA M cs us) (hn1 : b = false → n = 1) (w : World) :
    ∃ u, (part t us.toArray fo).run P w = .ok u w ∧ repV M y u := by
  obtain ⟨h3, ha, hl⟩ := partV_rep hp hr hn1
  cases b with
  | true =>
    refine ⟨.agg ((us.drop fo).take n).toArray, ?_, ?_⟩
    · simp only [part, Sem.run_bind, run_isAgg hz, run_sizeOf' hz, Result.andThen_ok, if_true, Sem.run_pure]
      congr 2
      apply Array.ext'
      simp [List.extract_eq_take_drop]
    · cases y with
      | agg cs' => simp only [repV_agg]; exact ⟨_, by simpa only [repC] using h3, rfl⟩
      | _ => simp [V.isAgg] at ha
  | false =>
    obtain ⟨u, e1, _, _⟩ := repC_one ha h3
    obtain rfl := hn1 rfl
    have hu : us[fo]? = some u := by
      have : ((us.drop fo).take 1)[0]? = some u := by rw [e1]; rfl
      simpa using this
    refine ⟨u, ?_, (repV_one ha).2 (by rw [← e1]; exact h3)⟩
    simp [part, run_isAgg hz, hu]

theorem op_field {s : TypeId} {x : Operand} {f : Nat} (ho : o.op = .field s x f) {fo n : Nat} {b : Bool} (hf : fldTy P s f = some (fo, n, b)) (hn1 : b = false → n = 1) {cs : List V} {y : V} (hp : partV cs fo n b = some y) :
    OpOK P o [.v (.agg cs)] σ (.v y) σ := by
  refine opOK_run fun E g ρ w hw hds => ?_
  simp only [ho, Op.operands, repDs_one] at hds
  obtain ⟨u, e, h1⟩ := hds
  simp at e
  simp only [repD, repV_agg] at h1
  obtain ⟨us, hr, rfl⟩ := h1
  obtain ⟨fs, z, hs, hy, hoff, hz⟩ := fldTy_parts hf
  obtain ⟨v, hrun, hv⟩ := run_part hz hp hr hn1 w
  refine ⟨v, ?_, by simpa only [repD] using hv⟩
  simp only [execOp, ho, e, Instr.field, Sem.run_bind, run_underlying hs, Result.andThen_ok, hy, asAgg, Sem.run_pure, hoff, hrun]

theorem op_idxL {t : TypeId} {x ix : Operand} (ho : o.op = .indexAddr t x ix) {e : TypeId} {sz by' : Nat} {z : Option Value} (hs : slTy P t = some (e, sz, by', z)) {xs : List V} {y : V} {k : IntKind} {i : Int} (h0 : 0 ≤ i)
    (hx : xs[i.toNat]? = some y) (hy : y.size = sz) : OpOK P o [.v (.list xs), .v (.int k i)] σ (.v (.ref y)) σ := by
  refine opOK_run fun E g ρ w hw hds => ?_
  simp only [ho, Op.operands, repDs_two] at hds
  obtain ⟨u, v, eq, h1, h2⟩ := hds
  simp only [List.map_cons, List.map_nil, List.cons.injEq, and_true] at eq
  obtain ⟨e1, e2⟩ := eq
  simp only [repD, repV_int, repV_list] at h1 h2
  subst h2
  obtain ⟨a, cap, rfl, hc, h1⟩ := h1
  have hlt : i.toNat < xs.length := (List.getElem?_eq_some_iff.1 hx).1
  rcases h1 with rfl | ⟨b, off, sz', us, rfl, hsz, hi, hr⟩
  · simp at hlt
  obtain ⟨inf, hu, hinf, hsize, _, _⟩ := slTy_parts hs
  obtain ⟨u1, hc1, hl1, hg⟩ := repE_get hr hx
  have hss : sz' = sz := by rw [← hl1, repC_length hc1, hy]
  subst hss
  refine ⟨.pointer (some ⟨b, off + i.toNat * sz', none⟩), ?_, ?_⟩
  · have hlt' : i < (xs.length : Int) := by omega
    simp [execOp, ho, e1, e2, Instr.indexAt, asIntOf, run_underlying hu, h0, hlt', sizeOf, typeInfo, hinf, hsize, Addr.add_lit]
  · simp only [repD, repV_ref]
    refine ⟨b, _, u1, rfl, fun j v hj => ?_, hc1⟩
    have := hi _ v (hg j v hj)
    rw [Nat.add_assoc]; exact this

theorem op_idxA {t : TypeId} {x ix : Operand} (ho : o.op = .indexAddr t x ix) {e : TypeId} {sz by' : Nat} {z : Option Value} (hs : slTy P t = some (e, sz, by', z)) {q off len : Nat} {k : IntKind} {i : Int} (h0 : 0 ≤ i) (h1 : i < len) :
    OpOK P o [.arr q off len, .v (.int k i)] σ (.ptr q (off + i.toNat * sz)) σ := by
  refine opOK_run fun E g ρ w hw hds => ?_
  simp only [ho, Op.operands, repDs_two] at hds
  obtain ⟨u, v, eq, h1', h2⟩ := hds
  simp only [List.map_cons, List.map_nil, List.cons.injEq, and_true] at eq
  obtain ⟨e1, e2⟩ := eq
  simp only [repD, repV_int] at h1' h2
  subst h2
  obtain ⟨hq, cap, hc, rfl⟩ := h1'
  obtain ⟨inf, hu, hinf, hsize, _, _⟩ := slTy_parts hs
  refine ⟨.pointer (some ⟨g.β q, off + i.toNat * sz, none⟩), ?_, by simp [repD, hq]⟩
  simp [execOp, ho, e1, e2, Instr.indexAt, asIntOf, run_underlying hu, h0, h1, sizeOf, typeInfo, hinf, hsize, Addr.add_lit]

theorem op_idxAP {t : TypeId} {x ix : Operand} (ho : o.op = .indexAddr t x ix) {len sz : Nat} {b : Bool} (hs : arTy P t = some (len, sz, b)) {q off : Nat} {k : IntKind} {i : Int} (h0 : 0 ≤ i) (h1 : i < len) :
    OpOK P o [.ptr q off, .v (.int k i)] σ (.ptr q (off + i.toNat * sz)) σ := by
  refine opOK_run fun E g ρ w hw hds => ?_
  simp only [ho, Op.operands, repDs_two] at hds
  obtain ⟨u, v, eq, h1', h2⟩ := hds
  simp only [List.map_cons, List.map_nil, List.cons.injEq, and_true] at eq
  obtain ⟨e1, e2⟩ := eq
  simp only [repD, repV_int] at h1' h2
  subst h2
  obtain ⟨hq, rfl⟩ := h1'
  obtain ⟨e, hu, hz⟩ := arTy_parts hs
  refine ⟨.pointer (some ⟨g.β q, off + i.toNat * sz, none⟩), ?_, by simp [repD, hq]⟩
  simp [execOp, ho, e1, e2, Instr.indexAt, asIntOf, run_underlying hu, h0, h1, run_sizeOf' hz, Addr.add_lit, Instr.sureAddr]

theorem op_idxAR {t : TypeId} {x ix : Operand} (ho : o.op = .indexAddr t x ix) {len sz : Nat} {b : Bool} (hs : arTy P t = some (len, sz, b)) (hn1 : b = false → sz = 1) {cs : List V} {y : V} {k : IntKind} {i : Int} (h0 : 0 ≤ i) (h1 : i < len)
    (hp : partV cs (i.toNat * sz) sz b = some y) : OpOK P o [.v (.ref (.agg cs)), .v (.int k i)] σ (.v (.ref y)) σ := by
  refine opOK_run fun E g ρ w hw hds => ?_
  simp only [ho, Op.operands, repDs_two] at hds
  obtain ⟨u, v, eq, h1', h2⟩ := hds
  simp only [List.map_cons, List.map_nil, List.cons.injEq, and_true] at eq
  obtain ⟨e1, e2⟩ := eq
  simp only [repD, repV_int, repV_ref] at h1' h2
  subst h2
  obtain ⟨bb, off, us, rfl, hi, hr⟩ := h1'
  obtain ⟨e, hu, hz⟩ := arTy_parts hs
  simp only [repC] at hr
  obtain ⟨h3, _, _⟩ := partV_rep hp hr hn1
  refine ⟨.pointer (some ⟨bb, off + i.toNat * sz, none⟩), ?_, by simp only [repD, repV_ref]; exact ⟨bb, _, _, rfl, inM_take (inM_drop hi _) sz, h3⟩⟩
  simp [execOp, ho, e1, e2, Instr.indexAt, asIntOf, run_underlying hu, h0, h1, run_sizeOf' hz, Addr.add_lit, Instr.sureAddr]

theorem op_idxS {t : TypeId} {x ix : Operand} (ho : o.op = .index t x ix) (ht : P.underlying t = some .string) {s : List UInt8} {k : IntKind} {i : Int} {c : UInt8} (h0 : 0 ≤ i) (hc : s[i.toNat]? = some c) :
    OpOK P o [.v (.str s), .v (.int k i)] σ (.v (.int .u8 c.toNat)) σ := by
  refine opOK_run fun E g ρ w hw hds => ?_
  simp only [ho, Op.operands, repDs_two] at hds
  obtain ⟨u, v, eq, h1', h2⟩ := hds
  simp only [List.map_cons, List.map_nil, List.cons.injEq, and_true] at eq
  obtain ⟨e1, e2⟩ := eq
  simp only [repD, repV_int, repV_str] at h1' h2
  subst h1' h2
  refine ⟨.int .u8 c.toNat, ?_, by simp [repD]⟩
  have hlt : i.toNat < s.length := (List.getElem?_eq_some_iff.1 hc).1
  have hb : (⟨s.toArray⟩ : ByteArray)[i.toNat]? = some c := by
    rw [getElem?_pos _ _ (by rw [size_mk]; exact hlt)]
    have := (List.getElem?_eq_some_iff.1 hc).2
    simp only [Option.some.injEq]
    rw [← this]; rfl
  simp [execOp, ho, e1, e2, Instr.index, asIntOf, run_underlying ht, h0, hb]

theorem op_idxV {t : TypeId} {x ix : Operand} (ho : o.op = .index t x ix) {len sz : Nat} {b : Bool} (hs : arTy P t = some (len, sz, b)) (hn1 : b = false → sz = 1) {cs : List V} {y : V} {k : IntKind} {i : Int} (h0 : 0 ≤ i) (h1 : i < len)
    (hp : partV cs (i.toNat * sz) sz b = some y) : OpOK P o [.v (.agg cs), .v (.int k i)] σ (.v y) σ := by
  refine opOK_run fun E g ρ w hw hds => ?_
  simp only [ho, Op.operands, repDs_two] at hds
  obtain ⟨u, v, eq, h1', h2⟩ := hds
  simp only [List.map_cons, List.map_nil, List.cons.injEq, and_true] at eq
  obtain ⟨e1, e2⟩ := eq
  simp only [repD, repV_int, repV_agg] at h1' h2
  subst h2
  obtain ⟨us, hr, rfl⟩ := h1'
  obtain ⟨e, hu, hz⟩ := arTy_parts hs
  obtain ⟨v, hrun, hv⟩ := run_part hz hp hr hn1 w
  refine ⟨v, ?_, by simpa only [repD] using hv⟩
  simp [execOp, ho, e1, e2, Instr.index, asIntOf, run_underlying hu, h0, h1, run_sizeOf' hz, hrun]

end
end Go.Dv
