/-
 An interpreter for closed calls: maps; all operations together. No program is named here.
-/
import Derived.Test.YtmdipbhjhkckjaaGreatCx
namespace Go.Ci
open Go.Dv (szAgg slTy fldTy arTy run_isAgg run_sizeOf' szAgg_parts slTy_parts fldTy_parts arTy_parts heap_lt Callable)
section
variable {E : CE} {g : CG} {m : CMem} {w w' : World}
theorem CW.newMap (h : CW E g m w) (hw : w'.heap = w.heap.push (.map #[] 0)) (ho : w'.os = w.os) (ht : w'.tape = w.tape) (hp : w'.output = w.output) : CW E (g.put m.n (w.heap.size, 0, 0)) m.newMap w' := by
 have h1 := h.alloc (w' := w') hw ho ht hp
 have hle : CG.le g (g.put m.n (w.heap.size, 0, 0)) := CG.le_put h.new_none _
 have hget : ∀ i, (m.newMap).o.get i = if i = m.n then some (.map []) else m.o.get i := fun i => T.get_set _ _ _ _
 have hgn : ∀ i, i ≠ m.n → (g.put m.n (w.heap.size, 0, 0)) i = g i := fun i hi => CG.put_ne g hi _
 have hcell : ∀ i c st ln cs, m.newMap.o.get i = some (.cells c st ln cs) → i ≠ m.n ∧ m.o.get i = some (.cells c st ln cs) := fun i c st ln cs hi => by
  rw [hget] at hi
  split at hi
  ·simp at hi
  ·rename_i e; exact ⟨e, hi⟩
 refine ⟨h1.keep, h1.prlt, h1.size, h1.os, h1.tape, h1.output, fun i x hx => ?_, fun i c st ln cs hi => ?_, fun i cs hi => ?_, fun i es hi => ?_, ?_, ?_, ?_, fun i c st ln cs hi => h1.mem _ _ _ _ _ (hcell _ _ _ _ _ hi).2, fun i o hi => ?_, fun c js hc => Nat.lt_succ_of_lt (h1.cls c js hc)⟩
 ·show i < m.n + 1
  by_cases e : i = m.n
  ·omega
  ·rw [hgn i e] at hx; exact Nat.lt_succ_of_lt (h.dom _ _ hx)
 ·obtain ⟨b, γ, κ, arr, e, us, h2, h3⟩ := h1.obj _ _ _ _ _ (hcell _ _ _ _ _ hi).2
  exact ⟨b, γ, κ, arr, e, us, h2.mono hle rfl, h3⟩
 ·rw [hget] at hi
  split at hi
  ·simp at hi
  ·obtain ⟨b, γ, κ, us, h2, h3, h4, h5⟩ := h1.ro _ _ hi
   exact ⟨b, γ, κ, us, hle _ _ h2, h3, reps.mono hle _ _ h4, h5⟩
 ·rw [hget] at hi
  split at hi
  ·rename_i e; subst e
   simp at hi; subst hi
   exact ⟨w.heap.size, 0, 0, #[], 0, CG.put_self _ _ _, by rw [hw]; simp, by simp [repK], fun hb => by have := h.prlt _ hb; have := h.size; omega⟩
  ·obtain ⟨b, γ, κ, l, cl, h2, h3, h4, h5⟩ := h1.map _ _ hi
   exact ⟨b, γ, κ, l, cl, hle _ _ h2, h3, repK.mono hle h4, h5⟩
 ·intro i j c st ln cs c' st' ln' cs' x y hi hj hx hy hne
  obtain ⟨e1, h2⟩ := hcell _ _ _ _ _ hi
  obtain ⟨e2, h3⟩ := hcell _ _ _ _ _ hj
  rw [hgn i e1] at hx; rw [hgn j e2] at hy
  exact h1.sep _ _ _ _ _ _ _ _ _ _ _ _ h2 h3 hx hy hne
 ·intro i j es es' x y hi hj hx hy hne
  have hblt : ∀ i es x, m.o.get i = some (.map es) → g i = some x → x.1 < w.heap.size := fun i es x hi hx => by
   obtain ⟨b, γ, κ, l, cl, h2, h3, _⟩ := h.map _ _ hi
   rw [h2] at hx; simp at hx; subst hx
   exact heap_lt h3
  rw [hget] at hi hj
  by_cases ei : i = m.n
  ·by_cases ej : j = m.n
   ·omega
   ·rw [if_neg ej] at hj
    rw [hgn j ej] at hy
    rw [ei, CG.put_self] at hx; simp at hx; subst hx
    have := hblt _ _ _ hj hy
    simp only; omega
  ·rw [if_neg ei] at hi
   rw [hgn i ei] at hx
   by_cases ej : j = m.n
   ·rw [ej, CG.put_self] at hy; simp at hy; subst hy
    have := hblt _ _ _ hi hx
    simp only; omega
   ·rw [if_neg ej] at hj
    rw [hgn j ej] at hy
    exact h1.sepM _ _ _ _ _ _ hi hj hx hy hne
 ·intro i j c st ln cs st' ln' cs' x y hi hj hx hy hb
  obtain ⟨e1, h2⟩ := hcell _ _ _ _ _ hi
  obtain ⟨e2, h3⟩ := hcell _ _ _ _ _ hj
  rw [hgn i e1] at hx; rw [hgn j e2] at hy
  exact h1.align _ _ _ _ _ _ _ _ _ _ _ h2 h3 hx hy hb
 ·rw [hget] at hi
  show i < m.n + 1
  split at hi
  ·omega
  ·exact Nat.lt_succ_of_lt (h.alive _ _ hi)
theorem CW.setMap (h : CW E g m w) {q : Nat} {es es' : List (CV × CV)} (hq : m.o.get q = some (.map es)) {b γ κ : Nat} (hg : g q = some (b, γ, κ)) {l' : Array MapEntry} {cl' : Nat} (hr : repK g es' l'.toList) :
  CW E g ⟨m.n, m.o.set q (some (.map es')), m.c⟩ { w with heap := w.heap.setIfInBounds b (.map l' cl') } := by
 obtain ⟨b0, γ0, κ0, l0, cl0, hg0, hb0, _, hp0⟩ := h.map _ _ hq
 rw [hg] at hg0; simp at hg0; obtain ⟨rfl, rfl, rfl⟩ := hg0
 have hlt := heap_lt hb0
 have hoth : ∀ b', b' ≠ b → (w.heap.setIfInBounds b (.map l' cl'))[b']? = w.heap[b']? := fun b' hb => by simp [Ne.symm hb]
 have hget : ∀ i, (m.o.set q (some (.map es'))).get i = if i = q then some (.map es') else m.o.get i := fun i => T.get_set _ _ _ _
 have hcell : ∀ i c st ln cs, (m.o.set q (some (.map es'))).get i = some (.cells c st ln cs) → m.o.get i = some (.cells c st ln cs) := fun i c st ln cs hi => by
  rw [hget] at hi
  split at hi
  ·simp at hi
  ·exact hi
 have hmap : ∀ i es, (m.o.set q (some (.map es'))).get i = some (.map es) → ∃ es0, m.o.get i = some (.map es0) := fun i es hi => by
  rw [hget] at hi
  split at hi
  ·rename_i e; subst e; exact ⟨_, hq⟩
  ·exact ⟨_, hi⟩
 refine ⟨fun b' hb => (hoth b' (fun e => hp0 (e ▸ hb))).trans (h.keep b' hb), h.prlt, by simpa using h.size, h.os, h.tape, h.output, h.dom, fun i c st ln cs hi => ?_, fun i cs hi => ?_, fun i es hi => ?_, ?_, ?_, ?_, fun i c st ln cs hi => h.mem _ _ _ _ _ (hcell _ _ _ _ _ hi), fun i o hi => ?_, h.cls⟩
 ·obtain ⟨b2, γ2, κ2, arr, e, us, h2, h3⟩ := h.obj _ _ _ _ _ (hcell _ _ _ _ _ hi)
  exact ⟨b2, γ2, κ2, arr, e, us, h2.mono (CG.le_refl g) (hoth b2 (fun e => by subst e; have := h2.row; rw [hb0] at this; simp at this)), h3⟩
 ·dsimp only at hi
  rw [hget] at hi
  split at hi
  ·simp at hi
  ·exact h.ro _ _ hi
 ·dsimp only at hi
  rw [hget] at hi
  split at hi
  ·rename_i e; subst e
   simp at hi; subst hi
   exact ⟨b, γ, κ, l', cl', hg, by simp [hlt], hr, hp0⟩
  ·rename_i ne
   obtain ⟨b2, γ2, κ2, l, cl, h2, h3, h4, h5⟩ := h.map _ _ hi
   exact ⟨b2, γ2, κ2, l, cl, h2, (hoth b2 (h.sepM _ _ _ _ _ _ hi hq h2 hg ne)).trans h3, h4, h5⟩
 ·intro i j c st ln cs c' st' ln' cs' x y hi hj hx hy hne
  exact h.sep _ _ _ _ _ _ _ _ _ _ _ _ (hcell _ _ _ _ _ hi) (hcell _ _ _ _ _ hj) hx hy hne
 ·intro i j es1 es2 x y hi hj hx hy hne
  obtain ⟨_, h1⟩ := hmap _ _ hi
  obtain ⟨_, h2⟩ := hmap _ _ hj
  exact h.sepM _ _ _ _ _ _ h1 h2 hx hy hne
 ·intro i j c st ln cs st' ln' cs' x y hi hj hx hy hb
  exact h.align _ _ _ _ _ _ _ _ _ _ _ (hcell _ _ _ _ _ hi) (hcell _ _ _ _ _ hj) hx hy hb
 ·dsimp only at hi ⊢
  rw [hget] at hi
  split at hi
  ·rename_i e; subst e; exact h.alive _ _ hq
  ·exact h.alive _ _ hi
end
theorem bytes_beq (a b : List UInt8) : ((⟨a.toArray⟩ : ByteArray) == ⟨b.toArray⟩) = (a == b) := by
 have : ((⟨a.toArray⟩ : ByteArray) == ⟨b.toArray⟩) = (a.toArray == b.toArray) := rfl
 rw [this]; simp
theorem sameK_eq {g : CG} {kd : TypeDesc} {a b : CV} {r : Bool} (h : sameK kd a b = some r) {u v : Value} (hu : rep g a u) (hv : rep g b v) : Instr.sameNow kd u v = some r := by
 unfold sameK at h
 split at h
 ·split at h
  ·rename_i hk; subst hk
   simp only [Option.some.injEq] at h; subst h
   simp only [rep] at hu hv
   subst hu hv
   simp only [Instr.sameNow, if_true]
   congr 1
  ·simp at h
 ·simp only [Option.some.injEq] at h; subst h
  simp only [rep] at hu hv
  obtain ⟨h1, rfl⟩ := hu
  obtain ⟨h2, rfl⟩ := hv
  simp only [Instr.sameNow, bytes_beq, beq_ofNat h1 h2]
 ·simp only [Option.some.injEq] at h; subst h
  simp only [rep] at hu hv
  subst hu hv
  rfl
 ·simp at h
theorem findC_eq {g : CG} {kd : TypeDesc} {k : CV} {u : Value} (hu : rep g k u) : ∀ {es : List (CV × CV)} {l : List MapEntry} {i : Nat} {r : Option (Nat × CV)}, repK g es l → findC kd k es i = some r →
  (r = none ∧ Instr.findNow kd u l i = some none) ∨ ∃ j v x, r = some (i + j, v) ∧ es[j]? = some x ∧ x.2 = v ∧ ∃ e, l[j]? = some e ∧ rep g v e.val ∧ sameK kd k x.1 = some true ∧ rep g x.1 e.key ∧ Instr.findNow kd u l i = some (some (i + j, e.val))
 | [], l, i, r, hr, h => by
  simp only [repK] at hr; subst hr
  simp [findC] at h; subst h
  exact .inl ⟨rfl, rfl⟩
 | x :: es, l, i, r, hr, h => by
  simp only [repK] at hr
  obtain ⟨e, l', rfl, h1, h2, h3⟩ := hr
  simp only [findC] at h
  split at h
  ·rename_i hs
   simp only [Option.some.injEq] at h; subst h
   refine .inr ⟨0, x.2, x, by simp, by simp, rfl, e, by simp, h2, hs, h1, ?_⟩
   simp [Instr.findNow, sameK_eq hs hu h1]
  ·rename_i hs
   have hn : Instr.findNow kd u (e :: l') i = Instr.findNow kd u l' (i + 1) := by simp [Instr.findNow, sameK_eq hs hu h1]
   rcases findC_eq hu h3 h with ⟨h4, h5⟩ | ⟨j, v, y, h4, h5, h6, e', h7, h8, h9, h10, h11⟩
   ·exact .inl ⟨h4, hn.trans h5⟩
   ·refine .inr ⟨j + 1, v, y, by rw [h4]; congr 2; omega, by simpa using h5, h6, e', by simpa using h7, h8, h9, h10, ?_⟩
    rw [hn, h11]; congr 3; omega
  ·simp at h
section
variable {P : Program} {o : Oper} {vs : List CV} {m m' : CMem} {d : CV}
theorem mapTy_parts {t : TypeId} {kd : TypeDesc} {e : TypeId} (h : mapTy P t = some (kd, e)) : ∃ k, P.underlying t = some (.map k e) ∧ P.underlying k = some kd := by
 unfold mapTy at h
 split at h
 ·rename_i k e' hu
  split at h
  ·rename_i dd hk
   simp only [Option.some.injEq, Prod.mk.injEq] at h
   obtain ⟨rfl, rfl⟩ := h
   exact ⟨k, hu, hk⟩
  ·simp at h
 ·simp at h
theorem run_checkKey {kt : TypeId} {kd : TypeDesc} (hk : P.underlying kt = some kd) {k : CV} (h : keyOK kd k = true) {g : CG} {u : Value} (hu : rep g k u) (b : Bool) (w : World) : (Instr.checkKey b 10000 kt u).run P w = .ok () w := by
 rw [show (10000 : Nat) = 9999 + 1 from rfl]
 unfold Instr.checkKey
 unfold keyOK at h
 split at h
 ·simp only [rep] at hu; subst hu; simp [run_underlying hk]
 ·simp only [rep] at hu; obtain ⟨_, rfl⟩ := hu; simp [run_underlying hk]
 ·simp only [rep] at hu; subst hu; simp [run_underlying hk]
 ·simp at h
theorem zero1_run {t : TypeId} {z : CV} (h : zero1 P t = some z) (g : CG) (w : World) : ∃ u, (zeroValue t).run P w = .ok u w ∧ rep g z u := by
 unfold zero1 at h
 cases hi : P.info? t with
 | none => simp [hi] at h
 | some i =>
  cases hz : i.zero with
  | none => simp [hi, hz] at h
  | some zv =>
   refine ⟨zv, by simp [zeroValue, typeInfo, hi, hz], ?_⟩
   simp only [hi, Option.bind_some, hz] at h
   split at h
   ·rename_i cs e
    simp only [Option.some.injEq] at e; subst e
    split at h
    ·rename_i l hl
     simp only [Option.some.injEq] at h; subst h
     obtain ⟨h1, h2⟩ := constCs_rep g hl
     simp only [rep]
     exact ⟨cs.toList, by simp, h1, h2⟩
    ·simp at h
   ·rename_i z' hne e
    simp only [Option.some.injEq] at e; subst e
    split at h
    ·simp only [Option.some.injEq] at h; subst h; exact rep_const g _
    ·simp at h
   ·rename_i e; simp at e
theorem cop_makeMap {t : TypeId} (ho : o.op = .makeMap t none) : COp P o [] m (.map m.n) m.newMap := by
 intro E g a w K Q hw hds hK
 have := hK _ _ (.map (some w.heap.size)) (hw.newMap (w' := w.alloc (.map #[] 0)) rfl rfl rfl rfl) (CG.le_put hw.new_none _) (by simp only [rep]; exact ⟨_, _, _, CG.put_self _ _ _, rfl⟩)
 unfold Oper.wp execOp
 simpa [ho, Instr.makeMap, Oper.upon] using this
theorem cop_lookup {t : TypeId} {x ix : Operand} {ok : Bool} (ho : o.op = .lookup t x ix ok) {d1 d2 : CV} (h : lookupC P t ok m d1 d2 = some d) : COp P o [d1, d2] m d m := by
 refine cop_run fun E g ρ w hw hds => ?_
 simp only [ho, Op.operands, reps_two] at hds
 obtain ⟨u, v, eq, h1, h2⟩ := hds
 simp only [List.map_cons, List.map_nil, List.cons.injEq, and_true] at eq
 obtain ⟨e1, e2⟩ := eq
 unfold lookupC at h
 split at h
 ·rename_i q kd e ht
  obtain ⟨kt, hu, hk⟩ := mapTy_parts ht
  simp only [rep] at h1
  obtain ⟨b, γ, κ, hg, rfl⟩ := h1
  split at h
  ·rename_i es z hq hz
   obtain ⟨b', γ', κ', l, cl, hg', hb, hr, _⟩ := hw.map _ _ hq
   rw [hg] at hg'; simp at hg'; obtain ⟨rfl, rfl, rfl⟩ := hg'
   split at h
   ·rename_i hkey
    have hck := fun bb => run_checkKey (P := P) hk hkey h2 bb w
    have hget : (getObj b).run P w = .ok (.map l cl) w := by simp [getObj, Sem.run, hb]
    obtain ⟨zu, hzr, hzu⟩ := zero1_run (P := P) hz g w
    split at h
    ·rename_i j vv hf
     simp only [Option.some.injEq] at h
     rcases findC_eq h2 hr hf with ⟨h3, _⟩ | ⟨j', v', x', h3, h4, h5, e', h6, h7, _, _, h8⟩
     ·simp at h3
     ·simp only [Option.some.injEq, Prod.mk.injEq] at h3
      obtain ⟨_, rfl⟩ := h3
      have hfk : (Instr.findKey kt v l.toList).run P w = .ok (some (0 + j', e'.val)) w := by simp only [Instr.findKey, Sem.run_bind, run_underlying hk, Result.andThen_ok, h8, Sem.run_pure]
      refine ⟨if ok then .tuple #[e'.val, .bool true] else e'.val, ?_, ?_⟩
      ·simp only [execOp, ho, e1, e2, Sem.run_bind, Instr.lookup, run_underlying hu, Result.andThen_ok, hget, Sem.run_pure, hck, hfk]
      ·subst h
       cases ok
       ·exact h7
       ·simp only [if_true, rep]
        exact ⟨[e'.val, .bool true], rfl, reps_two.2 ⟨_, _, rfl, h7, by simp [rep]⟩⟩
    ·rename_i hf
     simp only [Option.some.injEq] at h
     rcases findC_eq h2 hr hf with ⟨_, h8⟩ | ⟨j', v', x', h3, _⟩
     ·have hfk : (Instr.findKey kt v l.toList).run P w = .ok none w := by simp only [Instr.findKey, Sem.run_bind, run_underlying hk, Result.andThen_ok, h8, Sem.run_pure]
      refine ⟨if ok then .tuple #[zu, .bool false] else zu, ?_, ?_⟩
      ·simp only [execOp, ho, e1, e2, Sem.run_bind, Instr.lookup, run_underlying hu, Result.andThen_ok, hget, Sem.run_pure, hck, hfk, hzr]
      ·subst h
       cases ok
       ·exact hzu
       ·simp only [if_true, rep]
        exact ⟨[zu, .bool false], rfl, reps_two.2 ⟨_, _, rfl, hzu, by simp [rep]⟩⟩
     ·simp at h3
    ·simp at h
   ·simp at h
  ·simp at h
 ·simp at h
theorem repK_append {g : CG} : ∀ {es : List (CV × CV)} {l : List MapEntry} {k v : CV} {e : MapEntry}, repK g es l → rep g k e.key → rep g v e.val → repK g (es ++ [(k, v)]) (l ++ [e])
 | [], l, k, v, e, h, h1, h2 => by simp only [repK] at h; subst h; simp only [List.nil_append, repK]; exact ⟨e, [], rfl, h1, h2, rfl⟩
 | x :: es, l, k, v, e, h, h1, h2 => by
  simp only [repK] at h
  obtain ⟨y, l', rfl, h3, h4, h5⟩ := h
  simp only [List.cons_append, repK]
  exact ⟨y, _, rfl, h3, h4, repK_append h5 h1 h2⟩
theorem repK_set {g : CG} : ∀ {es : List (CV × CV)} {l : List MapEntry} (i : Nat) {k v : CV} {e : MapEntry}, repK g es l → rep g k e.key → rep g v e.val → repK g (es.set i (k, v)) (l.set i e)
 | [], l, i, k, v, e, h, h1, h2 => by simp only [repK] at h; subst h; simp [repK]
 | x :: es, l, i, k, v, e, h, h1, h2 => by
  simp only [repK] at h
  obtain ⟨y, l', rfl, h3, h4, h5⟩ := h
  cases i with
  | zero => simp only [List.set_cons_zero, repK]; exact ⟨e, _, rfl, h1, h2, h5⟩
  | succ i => simp only [List.set_cons_succ, repK]; exact ⟨y, _, rfl, h3, h4, repK_set i h5 h1 h2⟩
theorem sameBits_of {g : CG} {kd : TypeDesc} {a b : CV} (h : sameK kd a b = some true) {u v : Value} (hu : rep g a u) (hv : rep g b v) : Instr.sameBits 10000 v u = true := by
 unfold sameK at h
 split at h
 ·split at h
  ·rename_i hk; subst hk
   simp only [Option.some.injEq, decide_eq_true_eq] at h; subst h
   simp only [rep] at hu hv
   subst hu hv
   simp [Instr.sameBits]
  ·simp at h
 ·simp only [Option.some.injEq] at h
  have := (eqB_eq _ _).1 h
  subst this
  simp only [rep] at hu hv
  obtain ⟨h1, rfl⟩ := hu
  obtain ⟨h2, rfl⟩ := hv
  simp [Instr.sameBits, bytes_beq]
 ·simp only [Option.some.injEq] at h
  have := beq_iff_eq.1 h
  subst this
  simp only [rep] at hu hv
  subst hu hv
  simp [Instr.sameBits]
 ·simp at h
theorem cop_mapSet {t : TypeId} {x k y : Operand} (ho : o.op = .mapUpdate t x k y) {d1 d2 d3 : CV} (h : mapSetC P t m d1 d2 d3 = some m') : COp P o [d1, d2, d3] m .undef m' := by
 intro E g a w K Q hw hds hK
 simp only [ho, Op.operands, reps_three] at hds
 obtain ⟨u, v, y', eq, h1, h2, h3⟩ := hds
 simp only [List.map_cons, List.map_nil, List.cons.injEq, and_true] at eq
 obtain ⟨e1, e2, e3⟩ := eq
 unfold mapSetC at h
 split at h
 ·rename_i q kd e ht
  obtain ⟨kt, hu, hk⟩ := mapTy_parts ht
  simp only [rep] at h1
  obtain ⟨b, γ, κ, hg, rfl⟩ := h1
  split at h
  ·rename_i es hq
   obtain ⟨b', γ', κ', l, cl, hg', hb, hr, _⟩ := hw.map _ _ hq
   rw [hg] at hg'; simp at hg'; obtain ⟨rfl, rfl, rfl⟩ := hg'
   split at h
   ·rename_i hkey
    have hck := fun bb => run_checkKey (P := P) hk hkey h2 bb w
    have hget : (getObj b).run P w = .ok (.map l cl) w := by simp [getObj, Sem.run, hb]
    have hset : ∀ ob, (setObj b ob).run P w = .ok () { w with heap := w.heap.setIfInBounds b ob } := fun ob => by simp [setObj, Sem.run, hb]
    split at h
    ·rename_i j vv hf
     rw [T.setK_eq] at h
     simp only [Option.some.injEq] at h
     subst h
     rcases findC_eq h2 hr hf with ⟨h4, _⟩ | ⟨j', v', x', h4, h5, h6, e', h7, h8, h9, h10, h11⟩
     ·simp at h4
     ·simp only [Option.some.injEq, Prod.mk.injEq, Nat.zero_add] at h4
      obtain ⟨rfl, rfl⟩ := h4
      have hfk : (Instr.findKey kt v l.toList).run P w = .ok (some (0 + j, e'.val)) w := by simp only [Instr.findKey, Sem.run_bind, run_underlying hk, Result.andThen_ok, h11, Sem.run_pure]
      have hgj : l[j]? = some e' := by simpa using h7
      have hks : (Instr.keyThatStays e'.key v).run P w = .ok v w := by simp [Instr.keyThatStays, sameBits_of h9 h2 h10]
      have hmod : (l.modify j fun e => { e with key := v, val := y' }).toList = l.toList.set j { e' with key := v, val := y' } := by
       apply List.ext_getElem?
       intro i
       rw [Array.getElem?_toList, Array.getElem?_modify, List.getElem?_set]
       by_cases e : j = i
       ·subst e
        have hlt := (Array.getElem?_eq_some_iff.1 hgj).1
        rw [if_pos rfl, if_pos rfl, hgj]
        simp [hlt]
       ·rw [if_neg e, if_neg e]; simp
      have hw' := hw.setMap (l' := l.modify j fun e => { e with key := v, val := y' }) (cl' := cl) hq hg (by rw [hmod]; exact repK_set j hr h2 h3)
      have := hK g _ undef hw' (CG.le_refl g) (by simp only [rep])
      unfold Oper.wp execOp
      simp only [ho, e1, e2, e3, Sem.run_bind, Instr.mapUpdate, run_underlying hu, Result.andThen_ok, hget, hck, hfk, Nat.zero_add, hgj, Option.map_some, Option.getD_some, hks, hset, Sem.run_pure]
      exact this
    ·rename_i hf
     rw [T.setK_eq] at h
     simp only [Option.some.injEq] at h
     subst h
     rcases findC_eq h2 hr hf with ⟨_, h8⟩ | ⟨j', v', x', h4, _⟩
     ·have hfk : (Instr.findKey kt v l.toList).run P w = .ok none w := by simp only [Instr.findKey, Sem.run_bind, run_underlying hk, Result.andThen_ok, h8, Sem.run_pure]
      have hw' := hw.setMap (l' := l.push { key := v, val := y', born := cl }) (cl' := cl + 1) hq hg (by rw [Array.toList_push]; exact repK_append hr h2 h3)
      have := hK g _ undef hw' (CG.le_refl g) (by simp only [rep])
      unfold Oper.wp execOp
      simp only [ho, e1, e2, e3, Sem.run_bind, Instr.mapUpdate, run_underlying hu, Result.andThen_ok, hget, hck, hfk, hset, Sem.run_pure]
      exact this
     ·simp at h4
    ·simp at h
   ·simp at h
  ·simp at h
 ·simp at h
theorem evalOp_sound {call : CallF} (hcall : CallOK P call) (h : evalOp P call o vs m = some (d, m')) : COp P o vs m d m' := by
 have ret : ∀ {x : Option CV}, (match x with | some d => some (d, m) | none => none) = some (d, m') → x = some d ∧ m' = m := by
  intro x hx
  cases x with
  | none => simp at hx
  | some y => simp only [Option.some.injEq, Prod.mk.injEq] at hx; exact ⟨by rw [hx.1], hx.2.symm⟩
 have retM : ∀ {x : Option CMem}, (match x with | some m => some (CV.undef, m) | none => none) = some (d, m') → x = some m' ∧ d = .undef := by
  intro x hx
  cases x with
  | none => simp at hx
  | some y => simp only [Option.some.injEq, Prod.mk.injEq] at hx; exact ⟨by rw [hx.2], hx.1.symm⟩
 have retF : ∀ {x : Option CV}, (match x with | some d => frc d fun d => some (d, m) | none => none) = some (d, m') → x = some d ∧ m' = m := by
  intro x hx
  cases x with
  | none => simp at hx
  | some y => simp only [frc_eq, Option.some.injEq, Prod.mk.injEq] at hx; exact ⟨by rw [hx.1], hx.2.symm⟩
 have retN : ∀ {x : Option Nat}, (match x with | some n => frcNat n fun n => some (CV.int .i64 (.ofNat n), m) | none => none) = some (d, m') → ∃ n, x = some n ∧ d = .int .i64 (.ofNat n) ∧ m' = m := by
  intro x hx
  cases x with
  | none => simp at hx
  | some y => simp only [frcNat_eq, Option.some.injEq, Prod.mk.injEq] at hx; exact ⟨y, rfl, hx.1.symm, hx.2.symm⟩
 unfold evalOp at h
 split at h
 ·rename_i ho; simp only [Option.some.injEq, Prod.mk.injEq] at h; obtain ⟨rfl, rfl⟩ := h; exact cop_move ho
 ·rename_i ho; simp only [Option.some.injEq, Prod.mk.injEq] at h; obtain ⟨rfl, rfl⟩ := h; exact cop_assign ho
 ·rename_i ho; simp only [Option.some.injEq, Prod.mk.injEq] at h; obtain ⟨rfl, rfl⟩ := h; exact cop_pick ho
 ·-- alloc
  rename_i ho
  split at h
  ·rename_i z hz
   rw [frcNat_eq, CMem.newK_eq] at h
   simp only [Option.some.injEq, Prod.mk.injEq] at h; obtain ⟨rfl, rfl⟩ := h
   exact cop_alloc ho hz
  ·simp at h
 ·-- box
  rename_i ho
  split at h
  ·split at h
   ·rename_i hl
    rw [CMem.newK_eq] at h
    simp only [Option.some.injEq, Prod.mk.injEq] at h; obtain ⟨rfl, rfl⟩ := h
    exact cop_boxA ho hl
   ·simp at h
  ·split at h
   ·rename_i hl
    rw [CMem.newK_eq] at h
    simp only [Option.some.injEq, Prod.mk.injEq] at h; obtain ⟨rfl, rfl⟩ := h
    exact cop_box1 ho hl
   ·simp at h
  ·simp at h
 ·rename_i ho; obtain ⟨h1, rfl⟩ := ret h; exact cop_build ho h1
 ·rename_i ho; exact cop_buildSlice ho h
 ·rename_i ho; obtain ⟨h1, rfl⟩ := ret h; exact cop_load ho h1
 ·rename_i ho; obtain ⟨h1, rfl⟩ := retM h; exact cop_store ho h1
 ·-- nilCheck
  rename_i ho
  split at h
  ·simp only [Option.some.injEq, Prod.mk.injEq] at h; obtain ⟨rfl, rfl⟩ := h; exact cop_nilCheck ho
  ·simp at h
 ·rename_i ho; obtain ⟨h1, rfl⟩ := retF h; exact cop_bin ho h1
 ·rename_i ho; obtain ⟨h1, rfl⟩ := retF h; exact cop_un ho h1
 ·rename_i ho; obtain ⟨h1, rfl⟩ := retF h; exact cop_conv ho h1
 ·rename_i ho; simp only [Option.some.injEq, Prod.mk.injEq] at h; obtain ⟨rfl, rfl⟩ := h; exact cop_makeFunc ho
 ·rename_i ho; exact cop_makeSlice ho h
 ·-- makeMap
  rename_i ho
  rw [T.setK_eq, frcNat_eq] at h
  simp only [Option.some.injEq, Prod.mk.injEq] at h; obtain ⟨rfl, rfl⟩ := h
  exact cop_makeMap ho
 ·rename_i ho; obtain ⟨h1, rfl⟩ := ret h; exact cop_lookup ho h1
 ·rename_i ho; obtain ⟨h1, rfl⟩ := retM h; exact cop_mapSet ho h1
 ·rename_i ho; obtain ⟨h1, rfl⟩ := ret h; exact cop_slice ho rfl rfl rfl h1
 ·rename_i ho; obtain ⟨h1, rfl⟩ := ret h; exact cop_fldAddr ho h1
 ·rename_i ho; obtain ⟨h1, rfl⟩ := ret h; exact cop_field ho h1
 ·rename_i ho; obtain ⟨h1, rfl⟩ := ret h; exact cop_idxAddr ho h1
 ·rename_i ho; obtain ⟨h1, rfl⟩ := ret h; exact cop_idx ho h1
 ·rename_i ho; obtain ⟨h1, rfl⟩ := ret h; exact cop_extract ho h1
 ·-- calls
  rename_i c ho
  split at h
  ·rename_i fo f fs cs args hc
   exact cop_call ho hc (hcall _ _ _ _ _ h)
  ·-- len
   rename_i d1 hc
   split at h
   ·rename_i t ht
    obtain ⟨n, h1, rfl, rfl⟩ := retN h
    exact cop_len ho hc ht h1
   ·simp at h
  ·-- cap
   rename_i d1 hc
   split at h
   ·rename_i t ht
    obtain ⟨n, h1, rfl, rfl⟩ := retN h
    exact cop_cap ho hc ht h1
   ·simp at h
  ·-- append
   rename_i d1 d2 hc
   split at h
   ·rename_i t t1 ht
    unfold appendC at h
    split at h
    ·rename_i e sz by' zz hs
     split at h
     ·rename_i z hz
      split at h
      ·rename_i htt; subst htt
       split at h
       ·rename_i ns hsrc
        split at h
        ·simp only [Option.some.injEq, Prod.mk.injEq] at h; obtain ⟨rfl, rfl⟩ := h
         exact (cop_append (d := .nils) (m' := m) ho hc ht hs hz).1 ns hsrc (.inl rfl)
        ·simp only [Option.some.injEq, Prod.mk.injEq] at h; obtain ⟨rfl, rfl⟩ := h
         exact (cop_append (d := .nils) (m' := m) ho hc ht hs hz).1 ns hsrc (.inr ⟨_, _, _, _, _, rfl⟩)
        ·simp at h
       ·rename_i n ns hsrc
        exact (cop_append ho hc ht hs hz).2 n ns hsrc h
       ·simp at h
      ·split at h
       ·rename_i n hu
        split at h
        ·rename_i hb
         rw [CMem.newK_eq] at h
         simp only [Option.some.injEq, Prod.mk.injEq] at h; obtain ⟨rfl, rfl⟩ := h
         exact cop_zeros ho hc ht hs hz hu (by omega) hb.1 hb.2
        ·simp at h
       ·simp at h
     ·simp at h
    ·simp at h
   ·simp at h
  ·-- copy
   rename_i d1 d2 hc
   split at h
   ·rename_i t t1 ht
    by_cases htt : t1 = t
    ·subst htt; exact cop_copy ho hc ht h
    ·unfold copyC at h
     split at h
     ·rw [if_neg htt] at h; simp at h
     ·simp at h
   ·simp at h
  ·rename_i k a k' b hc
   split at h
   ·rename_i hk; subst hk
    simp only [Option.some.injEq, Prod.mk.injEq] at h; obtain ⟨rfl, rfl⟩ := h
    exact cop_max ho hc
   ·simp at h
  ·rename_i k a k' b hc
   split at h
   ·rename_i hk; subst hk
    simp only [Option.some.injEq, Prod.mk.injEq] at h; obtain ⟨rfl, rfl⟩ := h
    exact cop_min ho hc
   ·simp at h
  ·simp at h
 ·simp at h
end
end Go.Ci

namespace Go.Ci
open Go.Dv (szAgg run_isAgg run_sizeOf' Callable lpwp resF results_eq)
structure CFI (E : CE) (g : CG) (m : CMem) (nt : Nat) (env : T CV) (a : Act) (w : World) : Prop where
 wi : CW E g m w
 env : ∀ t d, env.get t = some d → ∃ u, a.tmps[t]? = some u ∧ rep g d u
 size : a.tmps.size = nt
 defers : a.defers = []
section
variable {E : CE} {g : CG} {m : CMem} {nt : Nat} {env : T CV} {a : Act} {w : World}
theorem CFI.ev (h : CFI E g m nt env a w) (x : Operand) : rep g (evC env x) (a.eval x) := by
 cases x with
 | tmp t =>
  simp only [evC, Act.eval]
  cases hd : env.get t with
  | none => simp only [rep]
  | some d =>
   obtain ⟨u, hu, hr⟩ := h.env t d hd
   have : a.tmps.getD t undef = u := by rw [Array.getD_eq_getD_getElem?, hu]; rfl
   rw [this]; exact hr
 | const u => exact rep_const g u
 | global n => simp only [evC, rep]
 | func f => simp only [evC, rep, Act.eval]; exact ⟨[], [], rfl, by simp [reps], by simp [reps]⟩
theorem CFI.evs (h : CFI E g m nt env a w) : ∀ (l : List Operand), reps g (l.map (evC env)) (l.map a.eval)
 | [] => by simp [reps]
 | x :: l => by simp only [List.map_cons, reps]; exact ⟨_, _, rfl, h.ev x, h.evs l⟩
theorem CFI.opers (h : CFI E g m nt env a w) (o : Oper) : reps g (evCs env o) (o.op.operands.toList.map a.eval) := by
 unfold evCs
 rw [Op.opers_eq]
 exact h.evs _
theorem CFI.put (h : CFI E g m nt env a w) {g' : CG} {m' : CMem} {w' : World} (hw : CW E g' m' w') (hg : CG.le g g') {u : Value} {d : CV} (hd : rep g' d u) {t : Tmp} (ht : t < nt) : CFI E g' m' nt (env.set t (some d)) (a.put (some t) u) w' := by
 refine ⟨hw, fun s d' hs => ?_, ?_, h.defers⟩
 ·simp only [Act.put]
  rw [T.get_set] at hs
  split at hs
  ·rename_i e; subst e
   simp only [Option.some.injEq] at hs; subst hs
   exact ⟨u, by simp [h.size, ht], hd⟩
  ·rename_i ne
   obtain ⟨v, hv, hr⟩ := h.env s d' hs
   exact ⟨v, by rw [Array.getElem?_setIfInBounds_ne (fun e => ne e.symm)]; exact hv, rep.mono hg _ _ hr⟩
 ·simp [Act.put, h.size]
theorem CFI.putN (h : CFI E g m nt env a w) {g' : CG} {m' : CMem} {w' : World} (hw : CW E g' m' w') (hg : CG.le g g') (u : Value) : CFI E g' m' nt env (a.put none u) w' :=
 ⟨hw, fun s d hs => by obtain ⟨v, hv, hr⟩ := h.env s d hs; exact ⟨v, hv, rep.mono hg _ _ hr⟩, h.size, h.defers⟩
noncomputable def setD (env : T CV) : Option Tmp → CV → T CV
 | some t, d => env.set t (some d)
 | none, _ => env
theorem putK_ok {β : Type} {dst : Option Tmp} {d : CV} {k : T CV → Option β} {r : β} (h : putK nt env dst d k = some r) :
  ∃ env', k env' = some r ∧ env' = setD env dst d ∧ ∀ t, dst = some t → t < nt := by
 cases dst with
 | none => exact ⟨env, h, rfl, fun t ht => by simp at ht⟩
 | some t =>
  have h : (Bool.rec none (env.setK t (some d) k) (Nat.ble (Nat.succ t) nt) : Option β) = some r := h
  cases hb : Nat.ble (Nat.succ t) nt with
  | false => rw [hb] at h; simp at h
  | true =>
   rw [hb] at h
   have h : env.setK t (some d) k = some r := h
   rw [T.setK_eq] at h
   exact ⟨_, h, rfl, fun t' ht => by simp at ht; subst ht; exact Nat.le_of_ble_eq_true hb⟩
theorem CFI.putD (h : CFI E g m nt env a w) {g' : CG} {m' : CMem} {w' : World} (hw : CW E g' m' w') (hg : CG.le g g') {u : Value} {d : CV} (hd : rep g' d u) {dst : Option Tmp} (ht : ∀ t, dst = some t → t < nt) {env' : T CV} (he : env' = setD env dst d) :
  CFI E g' m' nt env' (a.put dst u) w' := by
 subst he
 cases dst with
 | none => exact h.putN hw hg u
 | some t => exact h.put hw hg hd (ht t rfl)
theorem CFI.wanted (h : CFI E g m nt env a w) {ops : Array Oper} {o : Oper} {b : Bool} (hw : wantC env ops o = some b) : Region.wanted o (yielded ops a.tmps) = b := by
 unfold wantC at hw
 unfold Region.wanted
 cases hg : o.guard with
 | none => simp [hg] at hw ⊢; exact hw
 | some p =>
  obtain ⟨j, want⟩ := p
  simp only [hg] at hw ⊢
  cases hj : (ops[j]?).bind (·.dst) with
  | none => simp [hj] at hw
  | some t =>
   simp only [hj, Option.bind_some] at hw
   cases he : env.get t with
   | none => simp [he] at hw
   | some d =>
    simp only [he] at hw
    obtain ⟨u, hu, hr⟩ := h.env t d he
    split at hw
    ·rename_i b' e
     simp only [Option.some.injEq] at e
     subst e
     simp only [rep] at hr
     subst hr
     simp only [yielded, hj, Option.bind_some, hu]
     simp at hw
     rw [← hw]
     cases b' <;> cases want <;> rfl
    ·rename_i ds e
     simp only [Option.some.injEq] at e
     subst e
     simp only [rep] at hr
     obtain ⟨us, rfl, _⟩ := hr
     simp only [yielded, hj, Option.bind_some, hu]
     simp at hw
     subst hw
     rfl
    ·simp at hw
end
section
variable {P : Program} {call : CallF} {nt : Nat}
theorem rep_undef (g : CG) : rep g (.tup []) undef := by simp only [rep]; exact ⟨[], rfl, by simp [reps]⟩
theorem evalOps_sound (hcall : CallOK P call) {ops : Array Oper} {r : CEx × T CV × CMem} : ∀ {L : List Oper} {env : T CV} {m : CMem} {k : T CV → CMem → Option (CEx × T CV × CMem)}, evalOps P call nt ops L env m k = some r →
  ∃ env' m', k env' m' = some r ∧ ∀ (E : CE) (g : CG) (a : Act) (w : World) (Q : Exit → Act → World → Prop), CFI E g m nt env a w → (∀ g' a' w', CG.le g g' → CFI E g' m' nt env' a' w' → Q .normal a' w') → wpList P ops Q L a w
 | [], env, m, k, h => by
  have h : k env m = some r := h
  exact ⟨env, m, h, fun E g a w Q hf hQ => hQ g a w (CG.le_refl g) hf⟩
 | o :: L, env, m, k, h => by
  have h : (match wantC env ops o with
   | some true => match evalOpF P call o (evCs env o) m with
    | some (d, m') => putK nt env o.dst d fun env => evalOps P call nt ops L env m' k
    | none => none
   | some false => putK nt env o.dst (.tup []) fun env => evalOps P call nt ops L env m k
   | none => none) = some r := h
  rw [evalOpF_eq] at h
  split at h
  ·rename_i hwant
   split at h
   ·rename_i d m1 hop
    obtain ⟨env1, h1, he, ht⟩ := putK_ok h
    obtain ⟨env', m', h2, h3⟩ := evalOps_sound hcall h1
    refine ⟨env', m', h2, fun E g a w Q hf hQ => ?_⟩
    unfold wpList
    rw [if_pos (hf.wanted hwant)]
    refine .inl (evalOp_sound hcall hop E g a w _ _ hf.wi (hf.opers o) fun g' w' u hw' hg hd => ?_)
    exact h3 E g' _ _ Q (hf.putD hw' hg hd ht he) fun g2 a2 w2 hg2 hf2 => hQ g2 a2 w2 (CG.le_trans hg hg2) hf2
   ·simp at h
  ·rename_i hwant
   obtain ⟨env1, h1, he, ht⟩ := putK_ok h
   obtain ⟨env', m', h2, h3⟩ := evalOps_sound hcall h1
   refine ⟨env', m', h2, fun E g a w Q hf hQ => ?_⟩
   unfold wpList
   rw [if_neg (by rw [hf.wanted hwant]; simp)]
   exact h3 E g _ _ Q (hf.putD hf.wi (CG.le_refl g) (rep_undef g) ht he) hQ
  ·simp at h
def CEx.toExit : CEx → Exit
 | .normal => .normal
 | .exit id => .exit id
 | .ret => .ret
def DrawOK (P : Program) (call : CallF) : Prop := ∀ nt ops env m env' m', evalDraw P call nt ops env m = some (env', m') →
 ∀ (E : CE) (g : CG) (a : Act) (w : World) (Q : Exit → Act → World → Prop) (id : Nat), CFI E g m nt env a w → (∀ g' a' w', CG.le g g' → CFI E g' m' nt env' a' w' → Q .normal a' w') → (Code.region id ops true).wp P Q a w
theorem loop_of_lp {x : Code} {Q : Exit → Act → World → Prop} {a : Act} {w : World} (h : lpwp P x Q a w) : (Code.loop x).wp P Q a w := fun b k cs => by
 obtain ⟨e, a', w', hq, harr⟩ := h b k cs
 exact ⟨e, a', w', hq, .of_steps (.one step_loop) harr⟩
theorem lp_of {x : Code} {Q : Exit → Act → World → Prop} {a : Act} {w : World} (h : x.wp P (Exit.then (lpwp P x Q) Q) a w) : lpwp P x Q a w := fun b k cs => by
 obtain ⟨e, a₁, w₁, hq, harr⟩ := h b (.inLoop x :: k) cs
 cases e with
 | normal =>
  obtain ⟨e₂, a₂, w₂, hq₂, harr₂⟩ := hq b k cs
  exact ⟨e₂, a₂, w₂, hq₂, .of_steps (Steps.trans harr (.one step_inLoop)) harr₂⟩
 | exit id => exact ⟨_, a₁, w₁, hq, .pass (x := .inLoop x) rfl (fun _ _ => .inl (by simp)) harr⟩
 | goto l => exact ⟨_, a₁, w₁, hq, .pass (x := .inLoop x) rfl (fun _ _ => .inl (by simp)) harr⟩
 | ret => exact ⟨_, a₁, w₁, hq, .pass (x := .inLoop x) rfl (fun _ _ => .inl (by simp)) harr⟩
 | panic ch => exact ⟨_, a₁, w₁, hq, .pass (x := .inLoop x) rfl (fun _ _ => .inl (by simp)) harr⟩
 | outgrown => exact ⟨_, a₁, w₁, hq, .pass (x := .inLoop x) rfl (fun _ _ => .inl (by simp)) harr⟩
def CodeOK (P : Program) (nt : Nat) (c : Code) (env : T CV) (m : CMem) (e : CEx) (env' : T CV) (m' : CMem) : Prop :=
 ∀ (E : CE) (g : CG) (a : Act) (w : World) (Q : Exit → Act → World → Prop), CFI E g m nt env a w → (∀ g' a' w', CG.le g g' → CFI E g' m' nt env' a' w' → Q e.toExit a' w') → c.wp P Q a w ∧ ∀ x, c = .loop x → lpwp P x Q a w
theorem evalC_sound (hcall : CallOK P call) (hdraw : DrawOK P call) : ∀ (n : Nat) {c : Code} {env : T CV} {m : CMem} {e : CEx} {env' : T CV} {m' : CMem}, evalC P call nt n c env m = some (e, env', m') → CodeOK P nt c env m e env' m'
 | 0, c, env, m, e, env', m', h => by
  have h : (none : Option (CEx × T CV × CMem)) = some (e, env', m') := h
  simp at h
 | n + 1, c, env, m, e, env', m', h => by
  have ih := @evalC_sound hcall hdraw n
  replace h : stepC P call nt (evalC P call nt n) c env m = some (e, env', m') := h
  unfold stepC at h
  intro E g a w Q hf hQ
  split at h
  ·simp only [Option.some.injEq, Prod.mk.injEq] at h; obtain ⟨rfl, rfl, rfl⟩ := h
   exact ⟨wp_skip (hQ g a w (CG.le_refl g) hf), by simp⟩
  ·simp only [Option.some.injEq, Prod.mk.injEq] at h; obtain ⟨rfl, rfl, rfl⟩ := h
   exact ⟨wp_label (hQ g a w (CG.le_refl g) hf), by simp⟩
  ·simp only [Option.some.injEq, Prod.mk.injEq] at h; obtain ⟨rfl, rfl, rfl⟩ := h
   exact ⟨wp_ret (hQ g a w (CG.le_refl g) hf), by simp⟩
  ·simp only [Option.some.injEq, Prod.mk.injEq] at h; obtain ⟨rfl, rfl, rfl⟩ := h
   exact ⟨wp_exit (hQ g a w (CG.le_refl g) hf), by simp⟩
  ·-- seq
   rename_i x y
   refine ⟨wp_seq ?_, by simp⟩
   split at h
   ·rename_i env1 m1 hx
    refine (ih hx E g a w _ hf fun g1 a1 w1 hg1 hf1 => ?_).1
    exact (ih h E g1 a1 w1 Q hf1 fun g2 a2 w2 hg2 hf2 => hQ g2 a2 w2 (CG.le_trans hg1 hg2) hf2).1
   ·rename_i hne
    refine (ih h E g a w _ hf fun g1 a1 w1 hg1 hf1 => ?_).1
    have := hQ g1 a1 w1 hg1 hf1
    cases e with
    | normal => exact absurd h (hne _ _)
    | exit id => exact this
    | ret => exact this
  ·-- cond
   rename_i c0 x y
   split at h
   ·rename_i hc
    have hr := hf.ev c0
    rw [hc] at hr
    simp only [rep] at hr
    exact ⟨wp_cond_split hr (fun _ => (ih h E g a w Q hf hQ).1) (fun h => by simp at h), by simp⟩
   ·rename_i hc
    have hr := hf.ev c0
    rw [hc] at hr
    simp only [rep] at hr
    exact ⟨wp_cond_split hr (fun h => by simp at h) (fun _ => (ih h E g a w Q hf hQ).1), by simp⟩
   ·simp at h
  ·-- block
   rename_i id x
   refine ⟨wp_block ?_, by simp⟩
   split at h
   ·rename_i i env1 m1 hx
    refine (ih hx E g a w _ hf fun g1 a1 w1 hg1 hf1 => ?_).1
    simp only [CEx.toExit, Exit.inBlock]
    cases hb : Nat.beq i id with
    | true =>
     rw [hb] at h
     have h : some (CEx.normal, env1, m1) = some (e, env', m') := h
     simp only [Option.some.injEq, Prod.mk.injEq] at h; obtain ⟨rfl, rfl, rfl⟩ := h
     have := Nat.eq_of_beq_eq_true hb
     subst this
     simpa [CEx.toExit] using hQ g1 a1 w1 hg1 hf1
    | false =>
     rw [hb] at h
     have h : some (CEx.exit i, env1, m1) = some (e, env', m') := h
     simp only [Option.some.injEq, Prod.mk.injEq] at h; obtain ⟨rfl, rfl, rfl⟩ := h
     have hne : i ≠ id := fun e => by rw [e, Nat.beq_refl] at hb; simp at hb
     simpa [CEx.toExit, hne] using hQ g1 a1 w1 hg1 hf1
   ·rename_i hne
    refine (ih h E g a w _ hf fun g1 a1 w1 hg1 hf1 => ?_).1
    have := hQ g1 a1 w1 hg1 hf1
    cases e with
    | normal => simpa [CEx.toExit, Exit.inBlock] using this
    | exit id => exact absurd h (hne _ _ _)
    | ret => simpa [CEx.toExit, Exit.inBlock] using this
  ·-- loop
   rename_i x
   suffices hl : lpwp P x Q a w from ⟨loop_of_lp hl, fun y hy => by simp at hy; subst hy; exact hl⟩
   refine lp_of ?_
   split at h
   ·rename_i env1 m1 hx
    refine (ih hx E g a w _ hf fun g1 a1 w1 hg1 hf1 => ?_).1
    exact (ih h E g1 a1 w1 Q hf1 fun g2 a2 w2 hg2 hf2 => hQ g2 a2 w2 (CG.le_trans hg1 hg2) hf2).2 x rfl
   ·rename_i hne
    refine (ih h E g a w _ hf fun g1 a1 w1 hg1 hf1 => ?_).1
    have := hQ g1 a1 w1 hg1 hf1
    cases e with
    | normal => exact absurd h (hne _ _)
    | exit id => exact this
    | ret => exact this
  ·-- a region
   obtain ⟨env1, m1, h1, h2⟩ := evalOps_sound hcall h
   simp only [Option.some.injEq, Prod.mk.injEq] at h1; obtain ⟨rfl, rfl, rfl⟩ := h1
   exact ⟨wp_region_list (h2 E g a w Q hf hQ), by simp⟩
  ·-- a region that draws its order
   split at h
   ·rename_i env1 m1 hd
    simp only [Option.some.injEq, Prod.mk.injEq] at h; obtain ⟨rfl, rfl, rfl⟩ := h
    exact ⟨hdraw _ _ _ _ _ _ hd E g a w Q _ hf hQ, by simp⟩
   ·simp at h
  ·simp at h
theorem resC_run {E : CE} {g : CG} {m : CMem} {env : T CV} {a : Act} {w : World} (hf : CFI E g m nt env a w) : ∀ {rs : List ResultVar} {ds : List CV}, resC P env m rs = some ds → ∃ us, (rs.mapM (resF a.tmps)).run P w = .ok us w ∧ reps g ds us
 | [], ds, h => by simp [resC] at h; subst h; exact ⟨[], by simp, by simp [reps]⟩
 | .tmp t :: rs, ds, h => by
  simp only [resC] at h
  split at h
  ·rename_i d ds' hd hds
   simp only [Option.some.injEq] at h; subst h
   obtain ⟨us, h1, h2⟩ := resC_run hf hds
   obtain ⟨u, hu, hr⟩ := hf.env t d hd
   have hg : a.tmps.getD t undef = u := by rw [Array.getD_eq_getD_getElem?, hu]; rfl
   refine ⟨u :: us, ?_, by simp only [reps]; exact ⟨u, us, rfl, hr, h2⟩⟩
   simp [resF, hg, h1]
  ·simp at h
 | .cell p t :: rs, ds, h => by
  simp only [resC] at h
  split at h
  ·rename_i pd ds' hd hds
   split at h
   ·rename_i d hl
    simp only [Option.some.injEq] at h; subst h
    obtain ⟨us, h1, h2⟩ := resC_run hf hds
    obtain ⟨u, hu, hr⟩ := hf.env p pd hd
    have hg : a.tmps.getD p undef = u := by rw [Array.getD_eq_getD_getElem?, hu]; rfl
    have hld : ∃ v, (do loadVar t (← asAddr u) : Sem Value).run P w = .ok v w ∧ rep g d v := by
     unfold loadC at hl
     split at hl
     ·rename_i q off n b hz
      simp only [rep] at hr
      obtain ⟨bl, γ, κ, hgq, rfl⟩ := hr
      split at hl
      ·rename_i cs hc
       obtain ⟨bl', γ', κ', us', hg', hr', h1', hll, hcell⟩ := hf.wi.cells hc
       rw [hgq] at hg'
       simp only [Option.some.injEq, Prod.mk.injEq] at hg'
       obtain ⟨rfl, rfl, rfl⟩ := hg'
       have hul := reps_length hr'
       cases b with
       | true =>
        simp only [if_true, Option.some.injEq] at hl; subst hl
        have hld := run_loadCells_list (P := P) w ⟨bl, γ + off, none⟩ us' (fun j v hj => by rw [Addr.add_lit]; exact hcell j v hj)
        rw [hul, hll] at hld
        refine ⟨.agg us'.toArray, ?_, by simp only [rep]; exact ⟨us', rfl, hr', h1'⟩⟩
        simp [asAddr, loadVar, run_isAgg hz, run_sizeOf' hz, hld]
       | false =>
        simp only [Bool.false_eq_true, if_false] at hl
        split at hl
        ·rename_i c
         simp only [Option.some.injEq] at hl; subst hl
         obtain ⟨u', rfl, hru⟩ := reps_one.1 hr'
         have hcl : w.cell? ⟨bl, γ + off, none⟩ = some u' := by have := hcell 0 u' (by simp); simpa using this
         exact ⟨u', by simp [asAddr, loadVar, run_isAgg hz, hcl], hru⟩
        ·simp at hl
      ·simp at hl
     ·simp at hl
    obtain ⟨v, hv1, hv2⟩ := hld
    refine ⟨v :: us, ?_, by simp only [reps]; exact ⟨v, us, rfl, hv2, h2⟩⟩
    have hv1' : (resF a.tmps (.cell p t)).run P w = .ok v w := by simp only [resF, hg]; exact hv1
    rw [List.mapM_cons]
    simp only [Sem.run_bind, hv1', Result.andThen_ok, h1, Sem.run_pure]
   ·simp at h
  ·simp at h
noncomputable def argsT : List CV → Nat → T CV → T CV
 | [], _, env => env
 | d :: args, i, env => argsT args (i + 1) (env.set i (some d))
theorem argsK_eq {β : Type} (k : T CV → β) : ∀ (args : List CV) (i : Nat) (env : T CV), argsK k args i env = k (argsT args i env)
 | [], i, env => rfl
 | d :: args, i, env => by
  have h : argsK k (d :: args) i env = env.setK i (some d) fun env => argsK k args (i + 1) env := rfl
  rw [h, T.setK_eq, argsK_eq]
  rfl
theorem argsT_get : ∀ (args : List CV) (i : Nat) (env : T CV) (t : Nat), (argsT args i env).get t = if i ≤ t ∧ t < i + args.length then args[t - i]? else env.get t
 | [], i, env, t => by rw [if_neg (by simp)]; rfl
 | d :: args, i, env, t => by
  simp only [argsT]
  rw [argsT_get, T.get_set]
  by_cases e : t = i
  ·subst e
   rw [if_neg (by omega), if_pos rfl, if_pos (by simp)]
   simp
  ·rw [if_neg e]
   by_cases h3 : i + 1 ≤ t ∧ t < i + 1 + args.length
   ·rw [if_pos h3, if_pos (by simp; omega), show t - i = (t - (i + 1)) + 1 by omega]
    simp
   ·rw [if_neg h3, if_neg (by simp; omega)]
end
def TSpec (P : Program) (f : FuncId) (xs : List Dv.V) (d : CV) : Prop :=
 Callable P f ∧ ∀ (w : World) (us : List Value), Dv.repDs ⟨fun b o => w.cell? ⟨b, o, none⟩, fun _ => 0, 0, fun _ _ => none, fun _ => 0⟩ (xs.map .v) us →
  Calls P f us.toArray w fun e w' => ∃ u, e = .returned u ∧ rep (fun _ => none) d u ∧ (∀ b, b < w.heap.size → w'.heap[b]? = w.heap[b]?) ∧ w.heap.size ≤ w'.heap.size ∧ w'.os = w.os ∧ w'.tape = w.tape ∧ w'.output = w.output
def TabOK (P : Program) (tab : Tab) : Prop := ∀ f F xs d, tab f = some F → F xs = some d → TSpec P f xs d
section
variable {E : CE} {g : CG} {m : CMem} {w : World}
abbrev memOf (w : World) : Dv.Mem := fun b o => w.cell? ⟨b, o, none⟩
theorem viewS_rep {c : CV} {u : Value} {x : Dv.V} (h : viewS c = some x) (hr : rep g c u) (M : Dv.Mem) : Dv.repV M x u ∧ x.isAgg = false := by
 unfold viewS at h
 split at h <;> simp only [Option.some.injEq, reduceCtorEq] at h <;> subst h <;> simp only [rep] at hr
 ·exact ⟨by simpa using hr, rfl⟩
 ·exact ⟨by simpa using hr, rfl⟩
 ·exact ⟨by simpa using hr.2, rfl⟩
 ·exact ⟨by simpa using hr, rfl⟩
 ·exact ⟨by simpa using hr, rfl⟩
 ·exact ⟨by simpa using hr, rfl⟩
theorem viewL_reps {v : CV → Option Dv.V} {M : Dv.Mem} (hv : ∀ c u x, v c = some x → c.one = true → rep g c u → Dv.repV M x u ∧ x.isAgg = false) : ∀ {cs : List CV} {us : List Value} {xs : List Dv.V}, viewL v cs = some xs → reps g cs us → (∀ c ∈ cs, c.one = true) → Dv.repA M xs us
 | [], us, xs, h, hr, _ => by simp [viewL] at h; subst h; simpa [reps, Dv.repA] using hr
 | c :: cs, us, xs, h, hr, h1 => by
  simp only [viewL] at h
  split at h
  ·rename_i x hx
   split at h
   ·rename_i xs' hxs
    simp only [Option.some.injEq] at h; subst h
    simp only [reps] at hr
    obtain ⟨u, us', rfl, h2, h3⟩ := hr
    obtain ⟨h4, h5⟩ := hv c u x hx (h1 c (by simp)) h2
    simp only [Dv.repA]
    exact ⟨u, us', rfl, h5, (Dv.repV_one h5).1 h4, viewL_reps hv hxs h3 (fun c hc => h1 c (by simp [hc]))⟩
   ·simp at h
  ·simp at h
theorem repA_E1 {M : Dv.Mem} : ∀ {xs : List Dv.V} {us : List Value}, Dv.repA M xs us → Dv.repE M 1 xs us
 | [], us, h => by simpa [Dv.repA, Dv.repE] using h
 | x :: xs, us, h => by
  simp only [Dv.repA] at h
  obtain ⟨u, us', rfl, h1, h2, h3⟩ := h
  simp only [Dv.repE]
  exact ⟨[u], us', rfl, rfl, h2, repA_E1 h3⟩
theorem groups_rep {M : Dv.Mem} {sz : Nat} : ∀ {n : Nat} {l ys : List Dv.V} {us : List Value}, groups sz n l = some ys → Dv.repA M l us → Dv.repE M sz ys us ∧ ys.length = n
 | 0, [], ys, us, h, hr => by simp [groups] at h; subst h; simpa [Dv.repA, Dv.repE] using hr
 | 0, _ :: _, ys, us, h, hr => by simp [groups] at h
 | n + 1, l, ys, us, h, hr => by
  simp only [groups] at h
  split at h
  ·rename_i a r ha hr'
   obtain ⟨h1, rfl⟩ := takeT_eq _ _ ha
   obtain ⟨h2, rfl⟩ := dropT_eq _ _ hr'
   split at h
   ·rename_i xs hx
    simp only [Option.some.injEq] at h; subst h
    have hl := Dv.repA_length hr
    obtain ⟨h3, h4⟩ := groups_rep hx (Dv.repA_drop hr sz)
    refine ⟨?_, by simp [h4]⟩
    simp only [Dv.repE]
    exact ⟨us.take sz, us.drop sz, (List.take_append_drop _ _).symm, by simp; omega, by simp only [Dv.repC]; exact Dv.repA_take hr sz, h3⟩
   ·simp at h
  ·simp at h
theorem viewV_rep (hw : CW E g m w) : ∀ (n : Nat) {c : CV} {u : Value} {x : Dv.V}, viewV m n c = some x → rep g c u → Dv.repV (memOf w) x u ∧ (c.one = true → x.isAgg = false)
 | 0, c, u, x, h, _ => by simp [viewV] at h
 | n + 1, c, u, x, h, hr => by
  simp only [viewV] at h
  split at h
  ·rename_i y hy
   simp only [Option.some.injEq] at h; subst h
   obtain ⟨h1, h2⟩ := viewS_rep hy hr (memOf w)
   exact ⟨h1, fun _ => h2⟩
  ·rename_i hvs
   clear hvs
   split at h
   ·rename_i cs
    split at h
    ·rename_i xs hxs
     simp only [Option.some.injEq] at h; subst h
     simp only [rep] at hr
     obtain ⟨us, rfl, hr, h1⟩ := hr
     refine ⟨?_, fun h => by simp [CV.one] at h⟩
     rw [Dv.repV_agg]
     refine ⟨us, viewL_reps (fun c u x hc hone hr => ?_) hxs hr h1, rfl⟩
     rw [if_pos hone] at hc
     obtain ⟨h2, h3⟩ := viewV_rep hw n hc hr
     exact ⟨h2, h3 hone⟩
    ·simp at h
   ·rename_i q off len cap sz
    split at h
    ·rename_i cs hc
     split at h
     ·rename_i xs hxs
      simp only [rep] at hr
      obtain ⟨b, γ, κ, a, cc, hg, rfl, _, hlc, _, ha⟩ := hr
      obtain ⟨b', γ', κ', us, hg', hr', h1, hl, hcell⟩ := hw.cells hc
      rw [hg] at hg'
      simp only [Option.some.injEq, Prod.mk.injEq] at hg'
      obtain ⟨rfl, rfl, rfl⟩ := hg'
      rcases ha with ha | rfl
      ·omega
      have hA := viewL_reps (M := memOf w) (fun c u x hc hone hr => by obtain ⟨h2, h3⟩ := viewV_rep hw n hc hr; exact ⟨h2, h3 hone⟩) hxs hr' h1
      have hin : Dv.inM (memOf w) b (γ + off) us := fun j v hj => hcell j v hj
      have hxl := Dv.repA_length hA
      have hul := reps_length hr'
      split at h
      ·rename_i hsz; subst hsz
       simp only [Option.some.injEq] at h; subst h
       refine ⟨?_, fun _ => rfl⟩
       rw [Dv.repV_list]
       have : xs.length = len + 1 := by omega
       exact ⟨some ⟨b, γ + off, none⟩, cc, by rw [this], by omega, .inr ⟨b, γ + off, 1, us, rfl, by omega, hin, repA_E1 hA⟩⟩
      ·split at h
       ·simp at h
       ·rename_i hsz0
        split at h
        ·rename_i ys hys
         simp only [Option.some.injEq] at h; subst h
         obtain ⟨h5, h6⟩ := groups_rep hys hA
         refine ⟨?_, fun _ => rfl⟩
         rw [Dv.repV_list]
         exact ⟨some ⟨b, γ + off, none⟩, cc, by rw [h6], by omega, .inr ⟨b, γ + off, sz, us, rfl, by omega, hin, h5⟩⟩
        ·simp at h
     ·simp at h
    ·simp at h
   ·simp at h
theorem viewL_args (hw : CW E g m w) {G : Dv.Gh} (hG : G.M = memOf w) : ∀ {cs : List CV} {us : List Value} {xs : List Dv.V}, viewL (viewV m 30) cs = some xs → reps g cs us → Dv.repDs G (xs.map .v) us
 | [], us, xs, h, hr => by simp [viewL] at h; subst h; simpa [reps, Dv.repDs] using hr
 | c :: cs, us, xs, h, hr => by
  simp only [viewL] at h
  split at h
  ·rename_i x hx
   split at h
   ·rename_i xs' hxs
    simp only [Option.some.injEq] at h; subst h
    simp only [reps] at hr
    obtain ⟨u, us', rfl, h2, h3⟩ := hr
    simp only [List.map_cons, Dv.repDs, Dv.repD]
    exact ⟨u, us', rfl, by rw [hG]; exact (viewV_rep hw 30 hx h2).1, viewL_args hw hG hxs h3⟩
   ·simp at h
  ·simp at h
theorem CW.kept (h : CW E g m w) {w' : World} (hk : ∀ b, b < w.heap.size → w'.heap[b]? = w.heap[b]?) (hs : w.heap.size ≤ w'.heap.size) (ho : w'.os = w.os) (ht : w'.tape = w.tape) (hp : w'.output = w.output) : CW E g m w' := by
 refine ⟨fun b hb => (hk b (Nat.lt_of_lt_of_le (h.prlt b hb) h.size)).trans (h.keep b hb), h.prlt, Nat.le_trans h.size hs, ho.trans h.os, ht.trans h.tape, hp.trans h.output, h.dom, fun i c st ln cs hi => ?_, h.ro, fun i es hi => ?_, h.sep, h.sepM, h.align, h.mem, h.alive, h.cls⟩
 ·obtain ⟨b, γ, κ, arr, e, us, h2, h3⟩ := h.obj _ _ _ _ _ hi
  exact ⟨b, γ, κ, arr, e, us, h2.mono (CG.le_refl g) (hk b (Dv.heap_lt h2.row)), h3⟩
 ·obtain ⟨b, γ, κ, l, cl, h2, h3, h4, h5⟩ := h.map _ _ hi
  exact ⟨b, γ, κ, l, cl, h2, (hk b (Dv.heap_lt h3)).trans h3, h4, h5⟩
end
theorem tabC_sound {P : Program} {tab : Tab} (ht : TabOK P tab) {f : FuncId} {args : List CV} {m : CMem} {d : CV} (h : tabC tab f args m = some d) : CSpec P f args m d m := by
 unfold tabC at h
 split at h
 ·simp at h
 ·rename_i F hF
  split at h
  ·rename_i xs hxs
   obtain ⟨hc, hs⟩ := ht f F xs d hF h
   refine ⟨hc, fun E g w us hw hargs => ?_⟩
   refine Calls.mono (hs w us (viewL_args hw rfl hxs hargs)) ?_
   rintro e w' ⟨u, rfl, hr, h1, h2, h3, h4, h5⟩
   exact ⟨u, g, rfl, hw.kept h1 h2 h3 h4 h5, CG.le_refl g, rep.mono (fun i x hx => by simp at hx) _ _ hr⟩
  ·simp at h
theorem evalF_sound {P : Program} {tab : Tab} (htab : TabOK P tab) (hdraw : ∀ call, CallOK P call → DrawOK P call) : ∀ n, CallOK P (evalF P tab n)
 | 0 => fun f args m v m' h => by simp [evalF] at h
 | n + 1 => fun f args m v m' h => by
  have hcall := evalF_sound htab hdraw n
  simp only [evalF] at h
  split at h
  ·rename_i d hd
   simp only [Option.some.injEq, Prod.mk.injEq] at h
   obtain ⟨rfl, rfl⟩ := h
   exact tabC_sound htab hd
  ·split at h
   ·rename_i fn hfn
    split at h
    ·rename_i c hb hn hlen
     have hlen := Nat.le_of_ble_eq_true hlen
     rw [argsK_eq] at h
     have hget := argsT_get args 0 .leaf
     generalize argsT args 0 .leaf = env0 at h hget
     split at h
     ·simp at h
     ·rename_i e env1 m1 hne hc
      split at h
      ·rename_i ds hres
       simp only [Option.some.injEq, Prod.mk.injEq] at h
       obtain ⟨rfl, rfl⟩ := h
       refine ⟨⟨fn, hfn, hn, by simp [hb]⟩, fun E g w us hw hargs => ?_⟩
       refine calls_of_wp hfn hb ?_
       have hul := reps_length hargs
       have hfi : CFI E g m fn.ntmps env0 { tmps := us.toArray ++ Array.replicate (fn.ntmps - us.toArray.size) undef, defers := [] } w := by
        refine ⟨hw, fun t d ht => ?_, by simp; omega, rfl⟩
        rw [hget] at ht
        split at ht
        ·rename_i hlt
         simp only [Nat.sub_zero] at ht
         obtain ⟨u, hu, hr⟩ := reps_get hargs ht
         exact ⟨u, by rw [Array.getElem?_append_left (by simpa using (List.getElem?_eq_some_iff.1 hu).1)]; simpa using hu, hr⟩
        ·rw [T.get_leaf] at ht; simp at ht
       refine (evalC_sound hcall (hdraw _ hcall) _ hc E g _ w _ hfi fun g' a' w' hg' hf' => ?_).1
       obtain ⟨rs, hr1, hr2⟩ := resC_run (P := P) hf' hres
       have hrun : (results fn a'.tmps).run P w' = .ok (if h : rs.length = 1 then rs[0] else .tuple rs.toArray) w' := by
        rw [results_eq, Array.mapM_eq_mapM_toList]
        simp only [Sem.run_bind, Sem.run_map, hr1, Result.andThen_ok]
        by_cases h : rs.length = 1 <;> simp [h]
       have base : rep g' (packC ds) (if h : rs.length = 1 then rs[0] else .tuple rs.toArray) := by
        have hl := reps_length hr2
        unfold packC
        split
        ·obtain ⟨u, rfl, h3⟩ := reps_one.1 hr2
         simpa using h3
        ·rename_i hne'
         have : rs.length ≠ 1 := by
          rw [hl]
          intro h
          match ds, h with
          | [d0], _ => exact hne' d0 rfl
         rw [dif_neg this]
         simp only [rep]
         exact ⟨rs, rfl, hr2⟩
       have fin : a'.defers = [] ∧ ∃ v, (results fn a'.tmps).run P w' = .ok v w' ∧ ∃ u g2, Ending.returned v = .returned u ∧ CW E g2 m1 w' ∧ CG.le g g2 ∧ rep g2 (packC ds) u :=
        ⟨hf'.defers, _, hrun, _, g', rfl, hf'.wi, hg', base⟩
       cases e with
       | normal => exact fin
       | ret => exact fin
       | exit id => exact (hne id rfl).elim
      ·simp at h
     ·simp at h
    ·simp at h
   ·simp at h
end Go.Ci

namespace Go.Ci
open Go.Dv (regOK regOK_edge regOK_ord readsOf confl DC ready_before listed_before befGo)
abbrev Sl := Nat → Option CV
def putF (f : Sl) : Option Tmp → CV → Sl
 | some t, d => fun s => if s = t then some d else f s
 | none, _ => f
theorem setD_get (env : T CV) (dst : Option Tmp) (d : CV) : (setD env dst d).get = putF env.get dst d := by
 cases dst with
 | none => rfl
 | some t => funext s; simp only [setD, putF]; exact T.get_set _ _ _ _
noncomputable def evF (f : Sl) : Operand → CV
 | .tmp t => match f t with
  | some d => d
  | none => .undef
 | .const u => constC u
 | .global _ => .undef
 | .func f => .fn f [] []
theorem evF_eq (env : T CV) (x : Operand) : evC env x = evF env.get x := by cases x <;> rfl
noncomputable def evFs (f : Sl) (o : Oper) : List CV := (Op.opers o.op).map (evF f)
theorem evFs_eq (env : T CV) (o : Oper) : evCs env o = evFs env.get o := by
 unfold evCs evFs
 exact List.map_congr_left fun x _ => evF_eq env x
def wantF (f : Sl) (ops : Array Oper) (o : Oper) : Option Bool :=
 match o.guard with
 | none => some true
 | some (j, want) => match ((ops[j]?).bind (·.dst)).bind f with
  | some (.bool b) => some (b == want)
  | some (.tup _) => some false
  | _ => none
structure CFF (E : CE) (g : CG) (m : CMem) (nt : Nat) (f : Sl) (a : Act) (w : World) : Prop where
 wi : CW E g m w
 env : ∀ t d, f t = some d → ∃ u, a.tmps[t]? = some u ∧ rep g d u
 size : a.tmps.size = nt
 defers : a.defers = []
theorem CFF.fi {E : CE} {g : CG} {m : CMem} {nt : Nat} {env : T CV} {a : Act} {w : World} (h : CFF E g m nt env.get a w) : CFI E g m nt env a w := ⟨h.wi, h.env, h.size, h.defers⟩
section
variable {E : CE} {g : CG} {m : CMem} {nt : Nat} {f : Sl} {a : Act} {w : World}
theorem CFF.ev (h : CFF E g m nt f a w) (x : Operand) : rep g (evF f x) (a.eval x) := by
 cases x with
 | tmp t =>
  simp only [evF, Act.eval]
  cases hd : f t with
  | none => simp only [rep]
  | some d =>
   obtain ⟨u, hu, hr⟩ := h.env t d hd
   have : a.tmps.getD t undef = u := by rw [Array.getD_eq_getD_getElem?, hu]; rfl
   rw [this]; exact hr
 | const u => exact rep_const g u
 | global n => simp only [evF, rep]
 | func f => simp only [evF, rep, Act.eval]; exact ⟨[], [], rfl, by simp [reps], by simp [reps]⟩
theorem CFF.evs (h : CFF E g m nt f a w) : ∀ (l : List Operand), reps g (l.map (evF f)) (l.map a.eval)
 | [] => by simp [reps]
 | x :: l => by simp only [List.map_cons, reps]; exact ⟨_, _, rfl, h.ev x, h.evs l⟩
theorem CFF.opers (h : CFF E g m nt f a w) (o : Oper) : reps g (evFs f o) (o.op.operands.toList.map a.eval) := by
 unfold evFs
 rw [Op.opers_eq]
 exact h.evs _
theorem CFF.put (h : CFF E g m nt f a w) {g' : CG} {m' : CMem} {w' : World} (hw : CW E g' m' w') (hg : CG.le g g') {u : Value} {d : CV} (hd : rep g' d u) {dst : Option Tmp} (ht : ∀ t, dst = some t → t < nt) : CFF E g' m' nt (putF f dst d) (a.put dst u) w' := by
 cases dst with
 | none => exact ⟨hw, fun s d hs => by obtain ⟨v, hv, hr⟩ := h.env s d hs; exact ⟨v, hv, rep.mono hg _ _ hr⟩, h.size, h.defers⟩
 | some t =>
  refine ⟨hw, fun s d' hs => ?_, ?_, h.defers⟩
  ·simp only [Act.put]
   simp only [putF] at hs
   split at hs
   ·rename_i e; subst e
    simp only [Option.some.injEq] at hs; subst hs
    exact ⟨u, by simp [h.size, ht s rfl], hd⟩
   ·rename_i ne
    obtain ⟨v, hv, hr⟩ := h.env s d' hs
    exact ⟨v, by rw [Array.getElem?_setIfInBounds_ne (fun e => ne e.symm)]; exact hv, rep.mono hg _ _ hr⟩
  ·simp [Act.put, h.size]
theorem CFF.wanted (h : CFF E g m nt f a w) {ops : Array Oper} {o : Oper} {b : Bool} (hw : wantF f ops o = some b) : Region.wanted o (yielded ops a.tmps) = b := by
 unfold wantF at hw
 unfold Region.wanted
 cases hg : o.guard with
 | none => simp [hg] at hw ⊢; exact hw
 | some p =>
  obtain ⟨j, want⟩ := p
  simp only [hg] at hw ⊢
  cases hj : (ops[j]?).bind (·.dst) with
  | none => simp [hj] at hw
  | some t =>
   simp only [hj, Option.bind_some] at hw
   cases he : f t with
   | none => simp [he] at hw
   | some d =>
    simp only [he] at hw
    obtain ⟨u, hu, hr⟩ := h.env t d he
    split at hw
    ·rename_i b' e
     simp only [Option.some.injEq] at e
     subst e
     simp only [rep] at hr
     subst hr
     simp only [yielded, hj, Option.bind_some, hu]
     simp at hw
     rw [← hw]
     cases b' <;> cases want <;> rfl
    ·rename_i ds e
     simp only [Option.some.injEq] at e
     subst e
     simp only [rep] at hr
     obtain ⟨us, rfl, _⟩ := hr
     simp only [yielded, hj, Option.bind_some, hu]
     simp at hw
     subst hw
     rfl
    ·simp at hw
end
theorem evFs_congr {ops : Array Oper} {o : Oper} {f f' : Sl} (h : ∀ t ∈ readsOf ops o, f t = f' t) : evFs f o = evFs f' o := by
 unfold evFs
 rw [Op.opers_eq]
 refine List.map_congr_left fun x hx => ?_
 cases x with
 | tmp t =>
  have := h t (by
   unfold readsOf
   exact List.mem_append.2 (.inl (List.mem_filterMap.2 ⟨.tmp t, hx, rfl⟩)))
  simp [evF, this]
 | _ => rfl
theorem wantF_congr {ops : Array Oper} {o : Oper} {f f' : Sl} (h : ∀ t ∈ readsOf ops o, f t = f' t) : wantF f ops o = wantF f' ops o := by
 unfold wantF
 cases hg : o.guard with
 | none => rfl
 | some p =>
  obtain ⟨j, want⟩ := p
  simp only
  cases hj : (ops[j]?).bind (·.dst) with
  | none => rfl
  | some t =>
   have := h t (by unfold readsOf; rw [hg]; simp [hj])
   simp [this]
abbrev It := Option Tmp × CV × Bool
def stepE (S : Nat → Bool) (e : Sl) (x : It × Nat) : Sl := if S x.2 then putF e x.1.1 x.1.2.1 else e
def envS (items : List It) (S : Nat → Bool) (f0 : Sl) : Sl := (items.zipIdx 0).foldl (stepE S) f0
def stepC' (S : Nat → Bool) (c : Nat) (x : It × Nat) : Nat := if S x.2 && x.1.2.2 then c + 1 else c
def cntS (items : List It) (S : Nat → Bool) : Nat := (items.zipIdx 0).foldl (stepC' S) 0
theorem mem_zipIdx {items : List It} {x : It × Nat} (h : x ∈ items.zipIdx 0) : items[x.2]? = some x.1 := by
 have := List.mem_zipIdx h
 simp only [Nat.zero_add, Nat.sub_zero, Nat.zero_le, true_and] at this
 obtain ⟨h1, h2⟩ := this
 rw [List.getElem?_eq_getElem h1, h2]
theorem foldE_agree {S S' : Nat → Bool} {t : Tmp} : ∀ (l : List (It × Nat)) (e e' : Sl), (∀ x ∈ l, x.1.1 = some t → S x.2 = S' x.2) → e t = e' t → (l.foldl (stepE S) e) t = (l.foldl (stepE S') e') t
 | [], e, e', _, h => h
 | x :: l, e, e', hl, h => by
  simp only [List.foldl_cons]
  refine foldE_agree l _ _ (fun y hy => hl y (by simp [hy])) ?_
  by_cases hx : x.1.1 = some t
  ·have := hl x (by simp) hx
   unfold stepE
   rw [this]
   split
   ·simp [putF, hx]
   ·exact h
  ·unfold stepE
   have hp : ∀ e : Sl, (putF e x.1.1 x.1.2.1) t = e t := fun e => by
    cases h1 : x.1.1 with
    | none => rfl
    | some s => simp only [putF]; rw [if_neg]; intro e; subst e; exact hx h1
   split <;> split <;> simp [hp, h]
theorem foldC_agree {S S' : Nat → Bool} : ∀ (l : List (It × Nat)) (c : Nat), (∀ x ∈ l, x.1.2.2 = true → S x.2 = S' x.2) → l.foldl (stepC' S) c = l.foldl (stepC' S') c
 | [], c, _ => rfl
 | x :: l, c, hl => by
  simp only [List.foldl_cons]
  have : stepC' S c x = stepC' S' c x := by
   unfold stepC'
   cases hx : x.1.2.2 with
   | false => simp
   | true => rw [hl x (by simp) hx]
  rw [this]
  exact foldC_agree l _ (fun y hy => hl y (by simp [hy]))
theorem zip_split {items : List It} {j : Nat} {it : It} (hj : items[j]? = some it) : items.zipIdx 0 = (items.take j).zipIdx 0 ++ (it, j) :: (items.drop (j + 1)).zipIdx (j + 1) := by
 have hjl : j < items.length := (List.getElem?_eq_some_iff.1 hj).1
 have hsplit : items = items.take j ++ it :: items.drop (j + 1) := by
  have : items.drop j = it :: items.drop (j + 1) := by
   rw [List.drop_eq_getElem_cons hjl]
   congr 1
   exact (List.getElem?_eq_some_iff.1 hj).2
  rw [← this, List.take_append_drop]
 have hlen : (items.take j).length = j := by simp; omega
 conv => lhs; rw [hsplit]
 rw [List.zipIdx_append, List.zipIdx_cons, hlen]
 simp
theorem putF_comm {f : Sl} {a b : Option Tmp} {d d' : CV} (h : b = none ∨ a ≠ b) : putF (putF f b d') a d = putF (putF f a d) b d' := by
 cases b with
 | none => rfl
 | some t =>
  cases a with
  | none => rfl
  | some s =>
   have hne : s ≠ t := by
    rcases h with h | h
    ·simp at h
    ·exact fun e => h (by rw [e])
   funext x
   simp only [putF]
   by_cases h1 : x = s
   ·subst h1; simp [hne]
   ·simp [h1]
theorem envS_add {items : List It} {S : Nat → Bool} {f0 : Sl} {j : Nat} {it : It} (hj : items[j]? = some it) (hS : S j = false) (hlast : ∀ (i : Nat) (x : It), items[i]? = some x → S i = true → j < i → it.1 = none ∨ x.1 ≠ it.1) :
  envS items (fun i => S i || i == j) f0 = putF (envS items S f0) it.1 it.2.1 := by
 have hz := zip_split hj
 unfold envS
 rw [hz, List.foldl_append, List.foldl_append, List.foldl_cons, List.foldl_cons]
 have e1 : (items.take j).zipIdx.foldl (stepE fun i => S i || i == j) f0 = (items.take j).zipIdx.foldl (stepE S) f0 := by
  have : ∀ (l : List (It × Nat)) (e : Sl), (∀ x ∈ l, x.2 ≠ j) → l.foldl (stepE fun i => S i || i == j) e = l.foldl (stepE S) e := by
   intro l
   induction l with
   | nil => intro e _; rfl
   | cons x l ih =>
    intro e hl
    simp only [List.foldl_cons]
    have hx := hl x (by simp)
    have : stepE (fun i => S i || i == j) e x = stepE S e x := by unfold stepE; simp [hx]
    rw [this]; exact ih _ (fun y hy => hl y (by simp [hy]))
  refine this _ _ (fun x hx => ?_)
  have := (List.mem_zipIdx hx).2.1
  have := List.length_take_le j items
  omega
 rw [e1]
 generalize (items.take j).zipIdx.foldl (stepE S) f0 = F
 have s1 : stepE (fun i => S i || i == j) F (it, j) = putF F it.1 it.2.1 := by simp [stepE]
 have s2 : stepE S F (it, j) = F := by simp [stepE, hS]
 rw [s1, s2]
 have later : ∀ (l : List (It × Nat)) (e : Sl), (∀ x ∈ l, x.2 ≠ j ∧ (S x.2 = true → it.1 = none ∨ x.1.1 ≠ it.1)) → l.foldl (stepE fun i => S i || i == j) (putF e it.1 it.2.1) = putF (l.foldl (stepE S) e) it.1 it.2.1 := by
  intro l
  induction l with
  | nil => intro e _; rfl
  | cons x l ih =>
   intro e hl
   simp only [List.foldl_cons]
   obtain ⟨hx, hd⟩ := hl x (by simp)
   have hh : stepE (fun i => S i || i == j) (putF e it.1 it.2.1) x = putF (stepE S e x) it.1 it.2.1 := by
    unfold stepE
    have hxj : (x.2 == j) = false := by simpa using hx
    simp only [hxj, Bool.or_false]
    split
    ·rename_i hs; exact putF_comm (hd hs)
    ·rfl
   rw [hh]
   exact ih _ (fun y hy => hl y (by simp [hy]))
 refine later _ _ (fun x hx => ?_)
 have hm := List.mem_zipIdx hx
 refine ⟨by omega, fun hs => hlast x.2 x.1 ?_ hs (by omega)⟩
 have h3 := hm.2.2
 have h4 := hm.2.1
 have h5 := hm.1
 rw [h3, List.getElem_drop]
 rw [List.getElem?_eq_getElem (by simp at h4; omega)]
 congr 2
 omega
theorem cntS_add {items : List It} {S : Nat → Bool} {j : Nat} {it : It} (hj : items[j]? = some it) (hS : S j = false) : cntS items (fun i => S i || i == j) = cntS items S + (if it.2.2 then 1 else 0) := by
 have hz := zip_split hj
 have same : ∀ (l : List (It × Nat)) (c : Nat), (∀ x ∈ l, x.2 ≠ j) → l.foldl (stepC' fun i => S i || i == j) c = l.foldl (stepC' S) c := by
  intro l
  induction l with
  | nil => intro c _; rfl
  | cons x l ih =>
   intro c hl
   simp only [List.foldl_cons]
   have hx := hl x (by simp)
   have : stepC' (fun i => S i || i == j) c x = stepC' S c x := by unfold stepC'; simp [hx]
   rw [this]; exact ih _ (fun y hy => hl y (by simp [hy]))
 have shift : ∀ (l : List (It × Nat)) (c d : Nat), l.foldl (stepC' S) (c + d) = l.foldl (stepC' S) c + d := by
  intro l
  induction l with
  | nil => intro c d; rfl
  | cons x l ih =>
   intro c d
   simp only [List.foldl_cons]
   have : stepC' S (c + d) x = stepC' S c x + d := by unfold stepC'; split <;> omega
   rw [this, ih]
 unfold cntS
 rw [hz, List.foldl_append, List.foldl_append, List.foldl_cons, List.foldl_cons]
 rw [same (items.take j).zipIdx 0 (fun x hx => by have := (List.mem_zipIdx hx).2.1; have := List.length_take_le j items; omega)]
 generalize (items.take j).zipIdx.foldl (stepC' S) 0 = c
 have s1 : stepC' (fun i => S i || i == j) c (it, j) = c + (if it.2.2 then 1 else 0) := by
  unfold stepC'; simp; split <;> rfl
 have s2 : stepC' S c (it, j) = c := by simp [stepC', hS]
 rw [s1, s2, same _ _ (fun x hx => by have := (List.mem_zipIdx hx).1; omega), shift]
theorem cntS_le {items : List It} {S S' : Nat → Bool} (h : ∀ (k : Nat) (x : It), items[k]? = some x → x.2.2 = true → S k = true → S' k = true) : cntS items S ≤ cntS items S' := by
 have gen : ∀ (l : List (It × Nat)) (c c' : Nat), (∀ x ∈ l, x.1.2.2 = true → S x.2 = true → S' x.2 = true) → c ≤ c' → l.foldl (stepC' S) c ≤ l.foldl (stepC' S') c' := by
  intro l
  induction l with
  | nil => intro c c' _ hc; exact hc
  | cons x l ih =>
   intro c c' hl hc
   simp only [List.foldl_cons]
   refine ih _ _ (fun y hy => hl y (List.mem_cons_of_mem _ hy)) ?_
   have := hl x List.mem_cons_self
   unfold stepC'
   cases hx : x.1.2.2 <;> cases hs : S x.2 <;> cases hs' : S' x.2 <;> simp_all <;> omega
 exact gen _ 0 0 (fun x hx => h x.2 x.1 (mem_zipIdx hx)) (Nat.le_refl _)
theorem wpAny_gen {P : Program} {ops : Array Oper} {effs : List Bool} {Q : Exit → Act → World → Prop} {I : (Nat → Bool) → Act → World → Prop} (hreg : regOK ops effs = true)
  (hfin : ∀ S a w, (∀ i, i < ops.size → S i = true) → I S a w → Q .normal a w)
  (hstep : ∀ (S : Nat → Bool) (i : Nat) (o : Oper), ops[i]? = some o → S i = false → DC ops S → (∀ e ∈ o.after, Region.binds .any e = true → S e.on = true) → ∀ (a : Act) (w : World) (K : Act → World → Prop), I S a w → (∀ a' w', I (fun k => S k || k == i) a' w' → K a' w') → wpOp P ops Q i K a w) :
  ∀ (fuel : Nat) (listed : Array Bool) (a : Act) (w : World), listed.size = ops.size → DC ops (fun i => listed.getD i false) →
   ((List.range ops.size).filter fun i => !listed.getD i false).length = fuel → I (fun i => listed.getD i false) a w → wpAny P .any ops Q fuel listed a w := by
 have done_ : ∀ (listed : Array Bool), listed.size = ops.size → Region.ready .any ops listed = [] → ∀ i, i < ops.size → listed.getD i false = true := by
  intro listed hsz hr i
  induction i using Nat.strongRecOn with
  | _ i ih =>
   intro hi
   cases hl : listed.getD i false with
   | true => rfl
   | false =>
    exfalso
    have hmem : i ∈ Region.ready .any ops listed := by
     unfold Region.ready
     rw [List.mem_filter]
     refine ⟨by simpa using hi, ?_⟩
     have ho : ops[i]? = some ops[i] := by simp [hi]
     have hl' : listed.getD i true = false := by
      rw [Array.getD_eq_getD_getElem?] at hl ⊢
      have : listed[i]? = some listed[i] := by simp [hsz, hi]
      rw [this] at hl ⊢; exact hl
     rw [ho]
     simp only [hl', Bool.not_false, Bool.true_and, Option.map_some, Option.getD_some]
     rw [Array.all_eq_true_iff_forall_mem]
     intro e he
     cases hb : Region.binds .any e with
     | false => simp
     | true =>
      have hlt := regOK_edge hreg ho e he hb
      simp [ih e.on hlt (by omega)]
    rw [hr] at hmem
    simp at hmem
 intro fuel
 induction fuel with
 | zero =>
  intro listed a w hsz hdc hcount hI
  have hall : ∀ i, i < ops.size → listed.getD i false = true := by
   intro i hi
   cases hl : listed.getD i false with
   | true => rfl
   | false =>
    have hm : i ∈ (List.range ops.size).filter fun i => !listed.getD i false := List.mem_filter.2 ⟨by simpa using hi, by simp [hl]⟩
    have hnil := List.eq_nil_of_length_eq_zero hcount
    rw [hnil] at hm
    simp at hm
  refine ⟨?_, hfin _ a w hall hI⟩
  unfold Region.ready
  rw [List.filter_eq_nil_iff]
  intro i hi
  have hi' : i < ops.size := by simpa using hi
  have := hall i hi'
  have ht : listed.getD i true = true := by
   rw [Array.getD_eq_getD_getElem?] at this ⊢
   have h' : listed[i]? = some listed[i] := by simp [hsz, hi']
   rw [h'] at this ⊢; exact this
  simp [ht]
 | succ fuel ih =>
  intro listed a w hsz hdc hcount hI
  refine ⟨fun hr => hfin _ a w (done_ listed hsz hr) hI, fun i hi => ?_⟩
  unfold Region.ready at hi
  rw [List.mem_filter] at hi
  obtain ⟨hi1, hi2⟩ := hi
  have hi' : i < ops.size := by simpa using hi1
  have ho : ops[i]? = some ops[i] := by simp [hi']
  generalize hoo : ops[i] = o at ho
  rw [ho] at hi2
  simp only [Bool.and_eq_true, Bool.not_eq_true', Option.map_some, Option.getD_some] at hi2
  obtain ⟨hnl, hall⟩ := hi2
  have hnl' : listed.getD i false = false := by
   rw [Array.getD_eq_getD_getElem?] at hnl ⊢
   have h' : listed[i]? = some listed[i] := by simp [hsz, hi']
   rw [h'] at hnl ⊢; exact hnl
  have hready : ∀ e ∈ o.after, Region.binds .any e = true → listed.getD e.on false = true := by
   intro e he hb
   have := Array.all_eq_true_iff_forall_mem.1 hall e he
   simpa [hb] using this
  have hS' : (fun k => (listed.setIfInBounds i true).getD k false) = fun k => listed.getD k false || k == i := by
   funext k
   simp only [Array.getD_eq_getD_getElem?, Array.getElem?_setIfInBounds]
   by_cases hk : i = k
   ·subst hk; simp [hsz, hi']
   ·simp [hk, Ne.symm hk]
  have hcnt' : ((List.range ops.size).filter fun k => !(listed.setIfInBounds i true).getD k false).length = fuel := by
   have e1 : (List.range ops.size).filter (fun k => !(listed.setIfInBounds i true).getD k false) = ((List.range ops.size).filter fun k => !listed.getD k false).filter (fun k => k != i) := by
    rw [List.filter_filter]
    refine List.filter_congr fun k _ => ?_
    have := congrFun hS' k
    rw [this]
    cases listed.getD k false <;> cases hk : (k == i) <;> simp_all
   rw [e1]
   have hnd : ((List.range ops.size).filter fun k => !listed.getD k false).Nodup := List.filter_sublist.nodup List.nodup_range
   have hm : i ∈ (List.range ops.size).filter fun k => !listed.getD k false := List.mem_filter.2 ⟨hi1, by simp [hnl']⟩
   have hf1 := hnd.erase_eq_filter i
   rw [← hf1, List.length_erase_of_mem hm, hcount]; rfl
  have hdc' : DC ops (fun k => (listed.setIfInBounds i true).getD k false) := by
   rw [hS']
   intro k ok hk hsk e he hb
   simp only [Bool.or_eq_true, beq_iff_eq] at hsk ⊢
   rcases hsk with hsk | rfl
   ·exact .inl (hdc k ok hk hsk e he hb)
   ·rw [ho] at hk; simp at hk; subst hk
    exact .inl (hready e he hb)
  refine hstep _ i o ho hnl' hdc hready a w _ hI fun a' w' hI' => ?_
  refine ih _ a' w' (by simp [hsz]) hdc' hcnt' ?_
  rw [hS']; exact hI'
end Go.Ci

namespace Go.Ci
open Go.Dv (regOK regOK_edge regOK_ord readsOf confl DC ready_before listed_before befGo)
section
variable {P : Program} {call : CallF} {nt : Nat}
def envT (items : List It) (i : Nat) (f0 : Sl) : Sl := envS items (fun k => decide (k < i)) f0
def cntT (items : List It) (i : Nat) : Nat := cntS items (fun k => decide (k < i))
def Fact (P : Program) (nt : Nat) (ops : Array Oper) (sts : List CMem) (items : List It) (f0 : Sl) (i : Nat) (o : Oper) : Prop :=
 ∃ d b, items[i]? = some (o.dst, d, b) ∧ (∀ t, o.dst = some t → t < nt) ∧
  ((wantF (envT items i f0) ops o = some false ∧ d = .tup [] ∧ (b = true → ∀ s, sts[cntT items i]? = some s → sts[cntT items i + 1]? = some s)) ∨
   (wantF (envT items i f0) ops o = some true ∧ b = false ∧ ∀ (c : Nat) (s : CMem), sts[c]? = some s → lowOf (befGo [] ops.toList) (items.map (·.2.2)) i ≤ c → c ≤ highOf (befGo [] ops.toList) (items.map (·.2.2)) i → COp P o (evFs (envT items i f0) o) s d s) ∨
   (wantF (envT items i f0) ops o = some true ∧ b = true ∧ ∀ s, sts[cntT items i]? = some s → ∃ s', sts[cntT items i + 1]? = some s' ∧ COp P o (evFs (envT items i f0) o) s d s'))
theorem rank_eq (items : List It) (e : Nat) : rank (items.map (·.2.2)) e = cntT items e := by
 unfold rank cntT cntS
 have gen : ∀ (l : List It) (s c : Nat), (l.zipIdx s).foldl (stepC' fun k => decide (k < e)) c = c + (((l.take (e - s)).map (·.2.2)).filter id).length := by
  intro l
  induction l with
  | nil => intro s c; simp
  | cons x l ih =>
   intro s c
   simp only [List.zipIdx_cons, List.foldl_cons]
   rw [ih]
   by_cases h : s < e
   ·rw [show e - s = (e - (s + 1)) + 1 by omega, List.take_succ_cons]
    simp only [stepC', h, decide_true, Bool.true_and, List.map_cons, List.filter_cons, id]
    cases x.2.2 <;> simp <;> omega
   ·rw [show e - s = 0 by omega, show e - (s + 1) = 0 by omega]
    simp [stepC', h]
 have := gen items 0 0
 simp only [Nat.sub_zero, Nat.zero_add] at this
 rw [this, ← List.map_take]
theorem lowOf_spec (b : List Nat) (effs : List Bool) (i : Nat) : lowOf b effs i = 0 ∨ ∃ e, e < effs.length ∧ effs.getD e false = true ∧ (b.getD i 0).testBit e = true ∧ lowOf b effs i = rank effs e + 1 := by
 unfold lowOf
 have gen : ∀ (l : List Nat) (c : Nat), (∀ e ∈ l, e < effs.length) → (c = 0 ∨ ∃ e, e < effs.length ∧ effs.getD e false = true ∧ (b.getD i 0).testBit e = true ∧ c = rank effs e + 1) →
   (l.foldl (fun c e => if effs.getD e false && (b.getD i 0).testBit e then rank effs e + 1 else c) c = 0 ∨ ∃ e, e < effs.length ∧ effs.getD e false = true ∧ (b.getD i 0).testBit e = true ∧ l.foldl (fun c e => if effs.getD e false && (b.getD i 0).testBit e then rank effs e + 1 else c) c = rank effs e + 1) := by
  intro l
  induction l with
  | nil => intro c _ h; exact h
  | cons x l ih =>
   intro c hl h
   simp only [List.foldl_cons]
   refine ih _ (fun e he => hl e (List.mem_cons_of_mem _ he)) ?_
   split
   ·rename_i hx
    rw [Bool.and_eq_true] at hx
    exact .inr ⟨x, hl x List.mem_cons_self, hx.1, hx.2, rfl⟩
   ·exact h
 exact gen _ 0 (fun e he => by simpa using he) (.inl rfl)
theorem highOf_spec (b : List Nat) (effs : List Bool) (i : Nat) : highOf b effs i = rank effs effs.length ∨ ∃ e, e < effs.length ∧ effs.getD e false = true ∧ (b.getD e 0).testBit i = true ∧ highOf b effs i = rank effs e := by
 unfold highOf
 split
 ·rename_i e he
  have h1 := List.find?_some he
  have h2 := List.mem_of_find?_eq_some he
  rw [Bool.and_eq_true] at h1
  exact .inr ⟨e, by simpa using h2, h1.1, h1.2, rfl⟩
 ·exact .inl rfl
theorem draw_ok {ops : Array Oper} {items : List It} {sts : List CMem} {f0 : Sl} {E : CE} {g0 : CG} {Q : Exit → Act → World → Prop} (hreg : regOK ops (items.map (·.2.2)) = true) (hlen : items.length = ops.size)
  (hfact : ∀ i o, ops[i]? = some o → Fact P nt ops sts items f0 i o) {m' : CMem} (hm' : sts[cntT items ops.size]? = some m')
  (hfin : ∀ g' a' w', CG.le g0 g' → CFF E g' m' nt (envT items ops.size f0) a' w' → Q .normal a' w') {m : CMem} (hm : sts[0]? = some m) {a : Act} {w : World} (hf : CFF E g0 m nt f0 a w) :
  wpAny P .any ops Q ops.size (Array.replicate ops.size false) a w := by
 have hS0 : (fun i => (Array.replicate ops.size false).getD i false) = fun _ => false := by
  funext i
  simp only [Array.getD_eq_getD_getElem?, Array.getElem?_replicate]
  split <;> rfl
 have hE0 : envS items (fun _ => false) f0 = f0 := by
  unfold envS
  generalize items.zipIdx 0 = l
  have : ∀ (l : List (It × Nat)) (f : Sl), l.foldl (stepE fun _ => false) f = f := by
   intro l
   induction l with
   | nil => intro f; rfl
   | cons x l ih => intro f; simp only [List.foldl_cons]; rw [show stepE (fun _ => false) f x = f by simp [stepE]]; exact ih f
  exact this l f0
 have hC0 : cntS items (fun _ => false) = 0 := by
  unfold cntS
  generalize items.zipIdx 0 = l
  have : ∀ (l : List (It × Nat)) (c : Nat), l.foldl (stepC' fun _ => false) c = c := by
   intro l
   induction l with
   | nil => intro f; rfl
   | cons x l ih => intro c; simp only [List.foldl_cons]; rw [show stepC' (fun _ => false) c x = c by simp [stepC']]; exact ih c
  exact this l 0
 obtain ⟨es, hes⟩ : ∃ es, es = items.map (·.2.2) := ⟨_, rfl⟩
 have hreg' : regOK ops es = true := by rw [hes]; exact hreg
 have gen := wpAny_gen (P := P) (Q := Q) (effs := es) (I := fun S a w => ∃ g s, CG.le g0 g ∧ sts[cntS items S]? = some s ∧ CFF E g s nt (envS items S f0) a w) hreg'
 refine gen (fun S a w hall hI => ?_) (fun S i o ho hnS hdc hready a w K hI hK => ?_) ops.size _ a w Array.size_replicate ?_ ?_ ?_
 ·obtain ⟨g, s, hg, hs, hf⟩ := hI
  have e2 : cntS items S = cntT items ops.size := by
   refine foldC_agree _ _ (fun x hx _ => ?_)
   have hx2 := (List.getElem?_eq_some_iff.1 (mem_zipIdx hx)).1
   rw [hall x.2 (by omega)]; simp; omega
  have e1 : envS items S f0 = envT items ops.size f0 := by
   funext t
   refine foldE_agree _ _ _ (fun x hx _ => ?_) rfl
   have hx2 := (List.getElem?_eq_some_iff.1 (mem_zipIdx hx)).1
   rw [hall x.2 (by omega)]; simp; omega
  rw [e2, hm'] at hs
  simp only [Option.some.injEq] at hs; subst hs
  rw [e1] at hf
  exact hfin g a w hg hf
 ·obtain ⟨g, s, hg, hs, hf⟩ := hI
  have hi' : i < ops.size := (Array.getElem?_eq_some_iff.1 ho).1
  have hpre := ready_before hdc ho hready
  have hpost := fun (j : Nat) (hs : S j = true) => listed_before (S := S) hdc hs
  obtain ⟨d, b, hit, hdst, hcase⟩ := hfact i o ho
  have hil : i < items.length := by omega
  have opAt : ∀ (k : Nat) (x : It), items[k]? = some x → ∃ ok, ops[k]? = some ok ∧ x.1 = ok.dst := by
   intro k x hk
   have hkl : k < ops.size := by have := (List.getElem?_eq_some_iff.1 hk).1; omega
   have hok : ops[k]? = some ops[k] := by simp [hkl]
   obtain ⟨d', b', h1, _⟩ := hfact k _ hok
   rw [hk] at h1
   simp at h1
   exact ⟨_, hok, by rw [h1]⟩
  have effAt : ∀ (k : Nat) (x : It), items[k]? = some x → (items.map (·.2.2)).getD k false = x.2.2 := by
   intro k x hk
   rw [List.getD_eq_getElem?_getD, List.getElem?_map, hk]; rfl
  have lt_listed : ∀ (k : Nat) (ok : Oper), ops[k]? = some ok → k < i → (confl ops ok o = true ∨ ((items.map (·.2.2)).getD k false = true ∧ (items.map (·.2.2)).getD i false = true)) → S k = true :=
   fun k ok hk hlt hc => hpre k (regOK_ord hreg hk ho hlt hc)
  have gt_not : ∀ (k : Nat) (ok : Oper), ops[k]? = some ok → i < k → (confl ops o ok = true ∨ ((items.map (·.2.2)).getD i false = true ∧ (items.map (·.2.2)).getD k false = true)) → S k = false := by
   intro k ok hk hlt hc
   cases hl : S k with
   | false => rfl
   | true =>
    have := hpost k hl i (regOK_ord hreg ho hk hlt hc)
    rw [hnS] at this
    exact absurd this (by simp)
  have agree : ∀ t ∈ readsOf ops o, envS items S f0 t = envT items i f0 t := by
   intro t ht
   refine foldE_agree _ _ _ (fun x hx hxt => ?_) rfl
   have hx2 := mem_zipIdx hx
   obtain ⟨ok, hok, hdst⟩ := opAt x.2 x.1 hx2
   rw [hdst] at hxt
   rcases Nat.lt_trichotomy x.2 i with h | h | h
   ·rw [lt_listed x.2 ok hok h (.inl (by unfold confl; simp [hxt, ht]))]; simp [h]
   ·rw [h, hnS]; simp
   ·rw [gt_not x.2 ok hok h (.inl (by unfold confl; simp [hxt, ht]))]; simp; omega
  have hlast : ∀ (k : Nat) (x : It), items[k]? = some x → S k = true → i < k → o.dst = none ∨ x.1 ≠ o.dst := by
   intro k x hk hl hlt
   cases hd : o.dst with
   | none => exact .inl rfl
   | some t =>
    refine .inr fun e => ?_
    obtain ⟨ok, hok, hdst⟩ := opAt k x hk
    have := gt_not k ok hok hlt (.inl (by unfold confl; simp [hd, ← hdst, e]))
    rw [this] at hl
    simp at hl
  have hadd := envS_add (S := S) (f0 := f0) hit hnS hlast
  have hcadd := cntS_add (S := S) hit hnS
  simp only at hadd hcadd
  -- effects that are listed are a beginning of all
  have effAll : ∀ (e k : Nat) (x y : It), items[e]? = some x → items[k]? = some y → x.2.2 = true → y.2.2 = true → k < e → S e = true → S k = true := by
   intro e k x y he hk hx hy hlt hS
   obtain ⟨oe, hoe, _⟩ := opAt e x he
   obtain ⟨ok, hok, _⟩ := opAt k y hk
   exact hpost e hS k (regOK_ord hreg hok hoe hlt (.inr ⟨by rw [effAt k y hk]; exact hy, by rw [effAt e x he]; exact hx⟩))
  have hcb : b = true → cntS items S = cntT items i := by
   intro hbt
   have hei : (items.map (·.2.2)).getD i false = true := by rw [effAt i _ hit]; exact hbt
   refine foldC_agree _ _ (fun x hx hxb => ?_)
   have hx2 := mem_zipIdx hx
   obtain ⟨ok, hok, _⟩ := opAt x.2 x.1 hx2
   have hex : (items.map (·.2.2)).getD x.2 false = true := by rw [effAt x.2 x.1 hx2]; exact hxb
   rcases Nat.lt_trichotomy x.2 i with h | h | h
   ·rw [lt_listed x.2 ok hok h (.inr ⟨hex, hei⟩)]; simp [h]
   ·rw [h, hnS]; simp
   ·rw [gt_not x.2 ok hok h (.inr ⟨hei, hex⟩)]; simp; omega
  have hw := wantF_congr agree
  have hev := evFs_congr agree
  have itemAt : ∀ e, e < (items.map (·.2.2)).length → ∃ x, items[e]? = some x := fun e he => ⟨items[e]'(by simpa using he), by simp⟩
  unfold wpOp
  rw [ho]
  simp only
  rcases hcase with ⟨hwant, rfl, hst⟩ | ⟨hwant, rfl, hop⟩ | ⟨hwant, rfl, hop⟩
  ·rw [if_neg (by rw [hf.wanted (hw.trans hwant)]; simp)]
   refine hK _ _ ⟨g, s, hg, ?_, ?_⟩
   ·rw [hcadd]
    cases b with
    | false => simpa using hs
    | true =>
     rw [hcb rfl] at hs
     simpa [hcb rfl] using hst rfl s hs
   ·rw [hadd]; exact hf.put hf.wi (CG.le_refl g) (rep_undef g) hdst
  ·rw [if_pos (hf.wanted (hw.trans hwant))]
   refine .inl ?_
   have hlow : lowOf (befGo [] ops.toList) (items.map (·.2.2)) i ≤ cntS items S := by
    rcases lowOf_spec (befGo [] ops.toList) (items.map (·.2.2)) i with h | ⟨e, he, h1, h2, h3⟩
    ·omega
    ·rw [h3, rank_eq]
     obtain ⟨x, hx⟩ := itemAt e he
     have hSe := hpre e h2
     have hxe : x.2.2 = true := by rw [← effAt e x hx]; exact h1
     have : cntT items e + 1 = cntS items (fun k => decide (k < e) || k == e) := by
      have := cntS_add (S := fun k => decide (k < e)) hx (by simp)
      rw [this, hxe]; rfl
     rw [this]
     refine cntS_le fun k y hk hy hS => ?_
     simp only [Bool.or_eq_true, decide_eq_true_eq, beq_iff_eq] at hS
     rcases hS with hS | rfl
     ·exact effAll e k x y hx hk hxe hy hS hSe
     ·exact hSe
   have hhigh : cntS items S ≤ highOf (befGo [] ops.toList) (items.map (·.2.2)) i := by
    rcases highOf_spec (befGo [] ops.toList) (items.map (·.2.2)) i with h | ⟨e, he, h1, h2, h3⟩
    ·rw [h, rank_eq]
     refine cntS_le fun k y hk hy hS => ?_
     have := (List.getElem?_eq_some_iff.1 hk).1
     simpa using this
    ·rw [h3, rank_eq]
     obtain ⟨x, hx⟩ := itemAt e he
     have hxe : x.2.2 = true := by rw [← effAt e x hx]; exact h1
     have hnSe : S e = false := by
      cases hl : S e with
      | false => rfl
      | true => have := hpost e hl i h2; rw [hnS] at this; exact absurd this (by simp)
     refine cntS_le fun k y hk hy hS => ?_
     simp only [decide_eq_true_eq]
     rcases Nat.lt_trichotomy k e with h | h | h
     ·exact h
     ·subst h; rw [hnSe] at hS; exact absurd hS (by simp)
     ·have := effAll k e y x hk hx hy hxe h hS
      rw [hnSe] at this; exact absurd this (by simp)
   rw [← hev] at hop
   refine hop _ s hs hlow hhigh E g a w _ _ hf.wi (hf.opers o) fun g' w' u h1 h2 h3 => ?_
   refine hK _ _ ⟨g', s, CG.le_trans hg h2, ?_, ?_⟩
   ·rw [hcadd]; simpa using hs
   ·rw [hadd]; exact hf.put h1 h2 h3 hdst
  ·rw [if_pos (hf.wanted (hw.trans hwant))]
   refine .inl ?_
   rw [hcb rfl] at hs
   rw [← hev] at hop
   obtain ⟨s2, hs2, hop2⟩ := hop s hs
   refine hop2 E g a w _ _ hf.wi (hf.opers o) fun g' w' u h1 h2 h3 => ?_
   refine hK _ _ ⟨g', s2, CG.le_trans hg h2, ?_, ?_⟩
   ·rw [hcadd, hcb rfl]; simpa using hs2
   ·rw [hadd]; exact hf.put h1 h2 h3 hdst
 ·rw [hS0]; intro i o _ h; simp at h
 ·have : (List.range ops.size).filter (fun i => !(Array.replicate ops.size false).getD i false) = List.range ops.size := by
   rw [List.filter_eq_self]
   intro i _
   have := congrFun hS0 i
   rw [this]; rfl
  rw [this, List.length_range]
 ·rw [hS0]
  exact ⟨g0, m, CG.le_refl g0, by rw [hC0]; exact hm, by rw [hE0]; exact hf⟩
end
end Go.Ci

namespace Go.Ci
open Go.Dv (regOK befGo)
mutual
theorem eqV_eq : ∀ (a b : CV), eqV a b = true → a = b
 | .int k a, b, h => by
  cases b <;> simp [eqV] at h
  obtain ⟨rfl, rfl⟩ := h; rfl
 | .bool a, b, h => by cases b <;> simp [eqV] at h; rw [h]
 | .str a, b, h => by
  cases b <;> simp [eqV] at h
  rw [(eqB_eq _ _).1 h]
 | .nilp, b, h => by cases b <;> simp [eqV] at h; rfl
 | .nils, b, h => by cases b <;> simp [eqV] at h; rfl
 | .nilfn, b, h => by cases b <;> simp [eqV] at h; rfl
 | .ptr a c, b, h => by cases b <;> simp [eqV] at h; obtain ⟨rfl, rfl⟩ := h; rfl
 | .sl a c d e f, b, h => by cases b <;> simp [eqV] at h; obtain ⟨⟨⟨⟨rfl, rfl⟩, rfl⟩, rfl⟩, rfl⟩ := h; rfl
 | .map a, b, h => by cases b <;> simp [eqV] at h; rw [h]
 | .fn f fs cs, b, h => by
  cases b <;> simp [eqV] at h
  obtain ⟨⟨rfl, h1⟩, h2⟩ := h
  rw [eqVs_eq _ _ h1, eqVs_eq _ _ h2]
 | .agg cs, b, h => by
  cases b <;> simp [eqV] at h
  rw [eqVs_eq _ _ h]
 | .tup cs, b, h => by
  cases b <;> simp [eqV] at h
  rw [eqVs_eq _ _ h]
 | .undef, b, h => by cases b <;> simp [eqV] at h
 | .sym a c d, b, h => by cases b <;> simp [eqV] at h; obtain ⟨rfl, rfl, rfl⟩ := h; rfl
theorem eqVs_eq : ∀ (a b : List CV), eqVs a b = true → a = b
 | [], [], _ => rfl
 | [], _ :: _, h => by simp [eqVs] at h
 | _ :: _, [], h => by simp [eqVs] at h
 | a :: as, b :: bs, h => by
  simp only [eqVs, Bool.and_eq_true] at h
  rw [eqV_eq a b h.1, eqVs_eq as bs h.2]
end
section
variable {P : Program} {call : CallF} {nt : Nat} {o : Oper} {vs : List CV} {m m' : CMem} {d : CV}
theorem quiet_same (he : isEff o.op = false) (h : evalOp P call o vs m = some (d, m')) : m' = m := by
 have ret : ∀ {x : Option CV}, (match x with | some d => some (d, m) | none => none) = some (d, m') → m' = m := by
  intro x hx; cases x <;> simp at hx; exact hx.2.symm
 have retF : ∀ {x : Option CV}, (match x with | some d => frc d fun d => some (d, m) | none => none) = some (d, m') → m' = m := by
  intro x hx; cases x <;> simp [frc_eq] at hx; exact hx.2.symm
 have retN : ∀ {x : Option Nat}, (match x with | some n => frcNat n fun n => some (CV.int .i64 (.ofNat n), m) | none => none) = some (d, m') → m' = m := by
  intro x hx; cases x <;> simp [frcNat_eq] at hx; exact hx.2.symm
 unfold evalOp at h
 split at h <;> rename_i ho <;> first
  | (rw [ho] at he; simp [isEff] at he; done)
  | exact ret h
  | exact retF h
  | (simp only [Option.some.injEq, Prod.mk.injEq] at h; exact h.2.symm)
  | (simp at h; done)
  | skip
 ·split at h
  ·simp only [Option.some.injEq, Prod.mk.injEq] at h; exact h.2.symm
  ·simp at h
 ·rw [ho] at he
  split at h <;> rename_i hc
  ·simp [isEff, hc] at he
  ·split at h
   ·exact retN h
   ·simp at h
  ·split at h
   ·exact retN h
   ·simp at h
  ·simp [isEff, hc] at he
  ·simp [isEff, hc] at he
  ·split at h
   ·simp only [Option.some.injEq, Prod.mk.injEq] at h; exact h.2.symm
   ·simp at h
  ·split at h
   ·simp only [Option.some.injEq, Prod.mk.injEq] at h; exact h.2.symm
   ·simp at h
  ·simp at h
theorem pure_any (he : isEff o.op = false) (hr : isRead o.op = false) (h : evalOp P call o vs m = some (d, m')) (s : CMem) : evalOp P call o vs s = some (d, s) := by
 have ret : ∀ {x : Option CV}, (match x with | some d => some (d, m) | none => none) = some (d, m') → (match x with | some d => some (d, s) | none => none) = some (d, s) := by
  intro x hx; cases x <;> simp at hx ⊢; exact hx.1
 have retF : ∀ {x : Option CV}, (match x with | some d => frc d fun d => some (d, m) | none => none) = some (d, m') → (match x with | some d => frc d fun d => some (d, s) | none => none) = some (d, s) := by
  intro x hx; cases x <;> simp [frc_eq] at hx ⊢; exact hx.1
 have retN : ∀ {x : Option Nat}, (match x with | some n => frcNat n fun n => some (CV.int .i64 (.ofNat n), m) | none => none) = some (d, m') → (match x with | some n => frcNat n fun n => some (CV.int .i64 (.ofNat n), s) | none => none) = some (d, s) := by
  intro x hx; cases x <;> simp [frcNat_eq] at hx ⊢; exact hx.1
 unfold evalOp at h ⊢
 split at h <;> rename_i ho <;> first
  | (rw [ho] at he; simp [isEff] at he; done)
  | (rw [ho] at hr; simp [isRead] at hr; done)
  | exact ret h
  | exact retF h
  | (simp only [Option.some.injEq, Prod.mk.injEq] at h; rw [h.1])
  | (simp at h; done)
  | skip
 ·split at h
  ·simp only [Option.some.injEq, Prod.mk.injEq] at h; rw [h.1]
  ·simp at h
 ·rw [ho] at he
  split at h <;> rename_i hc
  ·simp [isEff, hc] at he
  ·split at h
   ·exact retN h
   ·simp at h
  ·split at h
   ·exact retN h
   ·simp at h
  ·simp [isEff, hc] at he
  ·simp [isEff, hc] at he
  ·split at h
   ·rename_i hk; simp only [Option.some.injEq, Prod.mk.injEq] at h; rw [h.1, if_pos hk]
   ·simp at h
  ·split at h
   ·rename_i hk; simp only [Option.some.injEq, Prod.mk.injEq] at h; rw [h.1, if_pos hk]
   ·simp at h
  ·simp at h
inductive DGo (P : Program) (call : CallF) (nt : Nat) (ops : Array Oper) : List Oper → Sl → CMem → List DI → List CMem → Sl → Prop
 | nil {f : Sl} {m : CMem} : DGo P call nt ops [] f m [] [] f
 | skip {o : Oper} {L : List Oper} {f f' : Sl} {m : CMem} {is : List DI} {ms : List CMem} (hw : wantF f ops o = some false) (ht : ∀ t, o.dst = some t → t < nt) (h : DGo P call nt ops L (putF f o.dst (.tup [])) m is ms f') :
   DGo P call nt ops (o :: L) f m (⟨o, [], .tup [], false⟩ :: is) ((if isEff o.op then [m] else []) ++ ms) f'
 | quiet {o : Oper} {L : List Oper} {f f' : Sl} {m m1 : CMem} {d : CV} {is : List DI} {ms : List CMem} (hw : wantF f ops o = some true) (ho : evalOp P call o (evFs f o) m = some (d, m1)) (he : isEff o.op = false) (ht : ∀ t, o.dst = some t → t < nt) (h : DGo P call nt ops L (putF f o.dst d) m is ms f') :
   DGo P call nt ops (o :: L) f m (⟨o, evFs f o, d, true⟩ :: is) ms f'
 | eff {o : Oper} {L : List Oper} {f f' : Sl} {m m1 : CMem} {d : CV} {is : List DI} {ms : List CMem} (hw : wantF f ops o = some true) (ho : evalOp P call o (evFs f o) m = some (d, m1)) (he : isEff o.op = true) (ht : ∀ t, o.dst = some t → t < nt) (h : DGo P call nt ops L (putF f o.dst d) m1 is ms f') :
   DGo P call nt ops (o :: L) f m (⟨o, evFs f o, d, true⟩ :: is) (m1 :: ms) f'
theorem drawGo_spec {ops : Array Oper} : ∀ {L : List Oper} {env : T CV} {m : CMem} {is : List DI} {ms : List CMem} {r1 : List DI} {r2 : List CMem} {env' : T CV}, drawGo P call nt ops L env m is ms = some (r1, r2, env') →
  ∃ is' ms', r1 = is.reverse ++ is' ∧ r2 = ms.reverse ++ ms' ∧ DGo P call nt ops L env.get m is' ms' env'.get
 | [], env, m, is, ms, r1, r2, env', h => by
  simp only [drawGo, Option.some.injEq, Prod.mk.injEq] at h
  obtain ⟨rfl, rfl, rfl⟩ := h
  exact ⟨[], [], by simp, by simp, .nil⟩
 | o :: L, env, m, is, ms, r1, r2, env', h => by
  simp only [drawGo, evalOpF_eq] at h
  split at h
  ·rename_i hw
   split at h
   ·rename_i d m1 hop
    obtain ⟨env1, h1, he, ht⟩ := putK_ok h
    have hg : env1.get = putF env.get o.dst d := by rw [he]; exact setD_get _ _ _
    split at h1
    ·rename_i heff
     obtain ⟨is', ms', rfl, rfl, h2⟩ := drawGo_spec h1
     rw [hg] at h2
     refine ⟨⟨o, evCs env o, d, true⟩ :: is', m1 :: ms', by simp, by simp, ?_⟩
     rw [evFs_eq] at hop ⊢
     exact .eff hw hop heff ht h2
    ·rename_i heff
     obtain ⟨is', ms', rfl, rfl, h2⟩ := drawGo_spec h1
     rw [hg] at h2
     refine ⟨⟨o, evCs env o, d, true⟩ :: is', ms', by simp, rfl, ?_⟩
     rw [evFs_eq] at hop ⊢
     exact .quiet hw hop (by simpa using heff) ht h2
   ·simp at h
  ·rename_i hw
   obtain ⟨env1, h1, he, ht⟩ := putK_ok h
   have hg : env1.get = putF env.get o.dst (.tup []) := by rw [he]; exact setD_get _ _ _
   obtain ⟨is', ms', rfl, rfl, h2⟩ := drawGo_spec h1
   rw [hg] at h2
   refine ⟨⟨o, [], .tup [], false⟩ :: is', (if isEff o.op then [m] else []) ++ ms', by simp, ?_, .skip hw ht h2⟩
   split <;> simp
  ·simp at h
noncomputable def itOf (i : DI) : It := (i.o.dst, i.d, isEff i.o.op)
def envA (items : List It) (f : Sl) : Sl := items.foldl (fun f it => putF f it.1 it.2.1) f
def cntA (items : List It) : Nat := (items.filter (·.2.2)).length
theorem envT_eq (items : List It) (i : Nat) (f0 : Sl) : envT items i f0 = envA (items.take i) f0 := by
 have gen : ∀ (l : List It) (s : Nat) (e : Sl), (l.zipIdx s).foldl (stepE fun k => decide (k < i)) e = (l.take (i - s)).foldl (fun f it => putF f it.1 it.2.1) e := by
  intro l
  induction l with
  | nil => intro s e; simp
  | cons x l ih =>
   intro s e
   simp only [List.zipIdx_cons, List.foldl_cons]
   rw [ih]
   by_cases h : s < i
   ·rw [show i - s = (i - (s + 1)) + 1 by omega, List.take_succ_cons, List.foldl_cons]
    simp [stepE, h]
   ·rw [show i - s = 0 by omega, show i - (s + 1) = 0 by omega]
    simp [stepE, h]
 simpa [envT, envS, envA] using gen items 0 f0
theorem cntT_eq (items : List It) (i : Nat) : cntT items i = cntA (items.take i) := by
 rw [← rank_eq]
 unfold rank cntA
 rw [← List.map_take, List.filter_map, List.length_map]
 rfl
theorem envA_snoc (items : List It) (it : It) (f : Sl) : envA (items ++ [it]) f = putF (envA items f) it.1 it.2.1 := by simp [envA]
theorem cntA_snoc (items : List It) (it : It) : cntA (items ++ [it]) = cntA items + if it.2.2 then 1 else 0 := by
 simp only [cntA, List.filter_append, List.length_append]
 cases h : it.2.2 <;> simp [h]
def Fact1 (P : Program) (call : CallF) (nt : Nat) (ops : Array Oper) (sts : List CMem) (items : List It) (f0 : Sl) (i : Nat) (o : Oper) (x : DI) : Prop :=
 items[i]? = some (o.dst, x.d, isEff o.op) ∧ x.o = o ∧ (∀ t, o.dst = some t → t < nt) ∧
  ((wantF (envA (items.take i) f0) ops o = some false ∧ (x.d = .tup [] ∧ x.ran = false) ∧ (isEff o.op = true → ∀ s, sts[cntA (items.take i)]? = some s → sts[cntA (items.take i) + 1]? = some s)) ∨
   (wantF (envA (items.take i) f0) ops o = some true ∧ isEff o.op = false ∧ x.ran = true ∧ x.vs = evFs (envA (items.take i) f0) o ∧ ∃ s m1, evalOp P call o (evFs (envA (items.take i) f0) o) s = some (x.d, m1)) ∨
   (wantF (envA (items.take i) f0) ops o = some true ∧ isEff o.op = true ∧ (x.ran = true ∧ x.vs = evFs (envA (items.take i) f0) o) ∧ ∀ s, sts[cntA (items.take i)]? = some s → ∃ s', sts[cntA (items.take i) + 1]? = some s' ∧ evalOp P call o (evFs (envA (items.take i) f0) o) s = some (x.d, s')))
theorem DGo.facts {ops : Array Oper} {L : List Oper} {f f' : Sl} {m : CMem} {is : List DI} {ms : List CMem} (h : DGo P call nt ops L f m is ms f') : ∀ (pre : List It) (pst : List CMem) (f0 : Sl), f = envA pre f0 → pst.length = cntA pre + 1 → pst[cntA pre]? = some m →
  is.length = L.length ∧ f' = envA (pre ++ is.map itOf) f0 ∧ (pst ++ ms).length = cntA (pre ++ is.map itOf) + 1 ∧ ∀ k o, L[k]? = some o → ∃ x, is[k]? = some x ∧ Fact1 P call nt ops (pst ++ ms) (pre ++ is.map itOf) f0 (pre.length + k) o x := by
 induction h with
 | nil => intro pre pst f0 hf hl hm; exact ⟨rfl, by simpa using hf, by simpa using hl, fun k o hk => by simp at hk⟩
 | @skip o L f f' m is ms hw ht h ih =>
  intro pre pst f0 hf hl hm
  have hpost : (pst ++ if isEff o.op then [m] else []).length = cntA (pre ++ [(o.dst, CV.tup [], isEff o.op)]) + 1 ∧ (pst ++ if isEff o.op then [m] else [])[cntA (pre ++ [(o.dst, CV.tup [], isEff o.op)])]? = some m := by
   rw [cntA_snoc]
   cases he : isEff o.op with
   | true =>
    simp only [if_true, List.length_append, List.length_singleton, hl, true_and]
    rw [List.getElem?_append_right (by omega)]
    simp [hl]
   | false => simpa [hl] using hm
  obtain ⟨h1, h2, h3, h4⟩ := ih (pre ++ [(o.dst, CV.tup [], isEff o.op)]) (pst ++ if isEff o.op then [m] else []) f0 (by rw [envA_snoc, hf]) hpost.1 hpost.2
  have hap : pre ++ [(o.dst, CV.tup [], isEff o.op)] ++ is.map itOf = pre ++ (⟨o, [], .tup [], false⟩ :: is).map itOf := by simp [itOf]
  have hap2 : (pst ++ if isEff o.op then [m] else []) ++ ms = pst ++ ((if isEff o.op then [m] else []) ++ ms) := by simp
  rw [hap] at h2 h3 h4
  rw [hap2] at h3 h4
  refine ⟨by simp [h1], h2, h3, fun k o' hk => ?_⟩
  cases k with
  | zero =>
   simp at hk; subst hk
   refine ⟨_, rfl, ?_, rfl, ht, .inl ⟨?_, ⟨rfl, rfl⟩, fun he s hs => ?_⟩⟩
   ·simp [itOf]
   ·simp only [Nat.add_zero, List.take_left, ← hf]; exact hw
   ·simp only [Nat.add_zero, List.take_left] at hs ⊢
    rw [List.getElem?_append_left (by omega), hm] at hs
    simp only [Option.some.injEq] at hs; subst hs
    rw [he, List.getElem?_append_right (by omega)]
    simp [hl]
  | succ k =>
   obtain ⟨x, hx1, hx2⟩ := h4 k o' (by simpa using hk)
   simp only [List.length_append, List.length_singleton] at hx2
   exact ⟨x, by simpa using hx1, by rw [show pre.length + (k + 1) = pre.length + 1 + k by omega]; exact hx2⟩
 | @quiet o L f f' m m1 d is ms hw ho he ht h ih =>
  intro pre pst f0 hf hl hm
  obtain ⟨h1, h2, h3, h4⟩ := ih (pre ++ [(o.dst, d, isEff o.op)]) pst f0 (by rw [envA_snoc, hf]) (by rw [cntA_snoc, he]; simpa using hl) (by rw [cntA_snoc, he]; simpa using hm)
  have hap : pre ++ [(o.dst, d, isEff o.op)] ++ is.map itOf = pre ++ (⟨o, evFs f o, d, true⟩ :: is).map itOf := by simp [itOf]
  rw [hap] at h2 h3 h4
  refine ⟨by simp [h1], h2, h3, fun k o' hk => ?_⟩
  cases k with
  | zero =>
   simp at hk; subst hk
   refine ⟨_, rfl, ?_, rfl, ht, .inr (.inl ⟨?_, he, rfl, ?_, ?_⟩)⟩
   ·simp [itOf]
   ·simp only [Nat.add_zero, List.take_left, ← hf]; exact hw
   ·simp only [Nat.add_zero, List.take_left, ← hf]
   ·simp only [Nat.add_zero, List.take_left, ← hf]; exact ⟨m, m1, ho⟩
  | succ k =>
   obtain ⟨x, hx1, hx2⟩ := h4 k o' (by simpa using hk)
   simp only [List.length_append, List.length_singleton] at hx2
   exact ⟨x, by simpa using hx1, by rw [show pre.length + (k + 1) = pre.length + 1 + k by omega]; exact hx2⟩
 | @eff o L f f' m m1 d is ms hw ho he ht h ih =>
  intro pre pst f0 hf hl hm
  obtain ⟨h1, h2, h3, h4⟩ := ih (pre ++ [(o.dst, d, isEff o.op)]) (pst ++ [m1]) f0 (by rw [envA_snoc, hf]) (by rw [cntA_snoc, he]; simp [hl]) (by rw [cntA_snoc, he]; simp [hl])
  have hap : pre ++ [(o.dst, d, isEff o.op)] ++ is.map itOf = pre ++ (⟨o, evFs f o, d, true⟩ :: is).map itOf := by simp [itOf]
  have hap2 : (pst ++ [m1]) ++ ms = pst ++ (m1 :: ms) := by simp
  rw [hap] at h2 h3 h4
  rw [hap2] at h3 h4
  refine ⟨by simp [h1], h2, h3, fun k o' hk => ?_⟩
  cases k with
  | zero =>
   simp at hk; subst hk
   refine ⟨_, rfl, ?_, rfl, ht, .inr (.inr ⟨?_, he, ⟨rfl, ?_⟩, fun s hs => ⟨m1, ?_, ?_⟩⟩)⟩
   ·simp [itOf]
   ·simp only [Nat.add_zero, List.take_left, ← hf]; exact hw
   ·simp only [Nat.add_zero, List.take_left, ← hf]
   ·simp only [Nat.add_zero, List.take_left]
    rw [List.getElem?_append_right (by omega)]
    simp [hl]
   ·simp only [Nat.add_zero, List.take_left] at hs ⊢
    rw [List.getElem?_append_left (by omega), hm] at hs
    simp only [Option.some.injEq] at hs; subst hs
    rw [← hf]; exact ho
  | succ k =>
   obtain ⟨x, hx1, hx2⟩ := h4 k o' (by simpa using hk)
   simp only [List.length_append, List.length_singleton] at hx2
   exact ⟨x, by simpa using hx1, by rw [show pre.length + (k + 1) = pre.length + 1 + k by omega]; exact hx2⟩
theorem readsOK_spec {sts : List CMem} : ∀ {is : List DI} {ws : List (Nat × Nat)}, readsOK P call sts is ws = true → ∀ (k : Nat) (x : DI) (w : Nat × Nat), is[k]? = some x → ws[k]? = some w → x.ran = true → isRead x.o.op = true → ∀ (c : Nat) (s : CMem), w.1 ≤ c → c ≤ w.2 → sts[c]? = some s →
  ∃ d m1, evalOp P call x.o x.vs s = some (d, m1) ∧ eqV d x.d = true
 | [], ws, h, k, x, w, hx, _, _, _, _, _, _, _, _ => by simp at hx
 | i :: is, [], h, k, x, w, _, hw, _, _, _, _, _, _, _ => by simp at hw
 | i :: is, w0 :: ws, h, k, x, w, hx, hw, hran, hrd, c, s, h1, h2, hs => by
  simp only [readsOK, Bool.and_eq_true] at h
  cases k with
  | succ k => exact readsOK_spec h.2 k x w (by simpa using hx) (by simpa using hw) hran hrd c s h1 h2 hs
  | zero =>
   simp at hx hw
   subst hx hw
   have hh := h.1
   rw [if_pos ⟨hran, hrd⟩] at hh
   split at hh
   ·rename_i r hr
    split at hh
    ·rename_i l hl
     obtain ⟨h3, rfl⟩ := dropT_eq _ _ hr
     obtain ⟨h4, rfl⟩ := takeT_eq _ _ hl
     have hm : s ∈ (sts.drop w0.1).take (w0.2 + 1 - w0.1) := by
      refine List.mem_of_getElem? (i := c - w0.1) ?_
      rw [List.getElem?_take, if_pos (by omega), List.getElem?_drop, show w0.1 + (c - w0.1) = c by omega]; exact hs
     have := List.all_eq_true.1 hh s hm
     split at this
     ·rename_i d m1 hop; exact ⟨d, m1, hop, this⟩
     ·simp at this
    ·simp at hh
   ·simp at hh
theorem draw1_sound (hm : P.follows .mixedOrders = true) (hcall : CallOK P call) {ops : Array Oper} {env env' : T CV} {m m' : CMem} {is : List DI} {sts : List CMem} (hreg : regOK ops (effsOf ops) = true)
  (h : drawGo P call nt ops ops.toList env m [] [m] = some (is, sts, env')) (hrd : readsOK P call sts is (winsOf ops) = true) (hl : sts.getLast? = some m') (E : CE) (g : CG) (a : Act) (w : World) (Q : Exit → Act → World → Prop) (id : Nat) (hf : CFI E g m nt env a w)
  (hQ : ∀ g' a' w', CG.le g g' → CFI E g' m' nt env' a' w' → Q .normal a' w') : (Code.region id ops true).wp P Q a w := by
 obtain ⟨is', ms', his, rfl, hgo⟩ := drawGo_spec h
 simp only [List.reverse_nil, List.nil_append, List.reverse_cons] at hl hrd his
 subst his
 obtain ⟨h1, h2, h3, h4⟩ := hgo.facts [] [m] env.get (by simp [envA]) (by simp [cntA]) (by simp [cntA])
 simp only [List.nil_append, List.length_nil, Nat.zero_add] at h2 h3 h4
 have hsz : (is.map itOf).length = ops.size := by simp [h1]
 have hef : (is.map itOf).map (·.2.2) = effsOf ops := by
  unfold effsOf
  apply List.ext_getElem?
  intro k
  rw [List.getElem?_map (f := fun x : It => x.2.2), List.getElem?_map (f := fun o : Oper => isEff o.op)]
  cases hk : ops.toList[k]? with
  | none =>
   have : (is.map itOf)[k]? = none := by
    rw [List.getElem?_eq_none_iff] at hk ⊢
    simp only [Array.length_toList] at hk; omega
   rw [this]; rfl
  | some o =>
   obtain ⟨x, _, hx2⟩ := h4 k o hk
   rw [hx2.1]; rfl
 refine wp_region_any hm ?_
 have hfw : CFF E g m nt env.get a { w with drawn := w.drawn + 1 } := ⟨hf.wi.drew, hf.env, hf.size, hf.defers⟩
 refine draw_ok (items := is.map itOf) (sts := [m] ++ ms') (by rw [hef]; exact hreg) hsz (fun i o ho => ?_) (m' := m') ?_ (fun g' a' w' hg' hf' => ?_) (m := m) (by simp) hfw
 ·obtain ⟨x, hx, hit, hxo, ht, hc⟩ := h4 i o (by rw [Array.getElem?_toList]; exact ho)
  refine ⟨x.d, isEff o.op, hit, ht, ?_⟩
  rw [envT_eq, cntT_eq, hef]
  rcases hc with ⟨c1, c2, c3⟩ | ⟨c1, c2, c3, c4, s0, m1, c5⟩ | ⟨c1, c2, _, c3⟩
  ·exact .inl ⟨c1, c2.1, c3⟩
  ·refine .inr (.inl ⟨c1, c2, fun c s hs hlo hhi => ?_⟩)
   have hev : evalOp P call o (evFs (envA ((is.map itOf).take i) env.get) o) s = some (x.d, s) := by
    cases hr : isRead o.op with
    | false => exact pure_any c2 hr c5 s
    | true =>
     have hi' : i < ops.size := (Array.getElem?_eq_some_iff.1 ho).1
     obtain ⟨d, m2, h5, h6⟩ := readsOK_spec hrd i x (lowOf (befGo [] ops.toList) (effsOf ops) i, highOf (befGo [] ops.toList) (effsOf ops) i) hx (by simp [winsOf, hi']) c3 (by rw [hxo]; exact hr) c s hlo hhi (by simpa using hs)
     rw [hxo, c4] at h5
     have := quiet_same c2 h5
     subst this
     rw [h5, eqV_eq _ _ h6]
   exact evalOp_sound hcall hev
  ·exact .inr (.inr ⟨c1, c2, fun s hs => by obtain ⟨s', h5, h6⟩ := c3 s hs; exact ⟨s', h5, evalOp_sound hcall h6⟩⟩)
 ·rw [cntT_eq, List.take_of_length_le (by omega)]
  rw [List.getLast?_eq_getElem?] at hl
  rw [← hl]
  congr 1
  simp only [List.singleton_append, List.length_cons] at h3 ⊢
  omega
 ·rw [envT_eq, List.take_of_length_le (by omega), ← h2] at hf'
  exact hQ g' a' w' hg' hf'.fi
end
end Go.Ci

namespace Go.Ci
open Go.Dv (regOK regOK_edge regOK_ord readsOf confl DC ready_before listed_before befGo)
abbrev XS := CG → World → Prop
def XOp (P : Program) (o : Oper) (vs : List CV) (X : XS) (d : CV) (X' : XS) : Prop :=
 ∀ (g : CG) (a : Act) (w : World) (K : Act → World → Prop) (Q : Exit → Act → World → Prop), X g w →
  reps g vs (o.op.operands.toList.map a.eval) →
  (∀ g' w' u, X' g' w' → CG.le g g' → rep g' d u → K (a.put o.dst u) w') → o.wp P a w K Q
structure CFX (X : XS) (g : CG) (nt : Nat) (f : Sl) (a : Act) (w : World) : Prop where
 wi : X g w
 env : ∀ t d, f t = some d → ∃ u, a.tmps[t]? = some u ∧ rep g d u
 size : a.tmps.size = nt
 defers : a.defers = []
section
variable {X X' : XS} {g : CG} {nt : Nat} {f : Sl} {a : Act} {w : World}
theorem CFX.ev (h : CFX X g nt f a w) (x : Operand) : rep g (evF f x) (a.eval x) := by
 cases x with
 | tmp t =>
  simp only [evF, Act.eval]
  cases hd : f t with
  | none => simp only [rep]
  | some d =>
   obtain ⟨u, hu, hr⟩ := h.env t d hd
   have : a.tmps.getD t undef = u := by rw [Array.getD_eq_getD_getElem?, hu]; rfl
   rw [this]; exact hr
 | const u => exact rep_const g u
 | global n => simp only [evF, rep]
 | func f => simp only [evF, rep, Act.eval]; exact ⟨[], [], rfl, by simp [reps], by simp [reps]⟩
theorem CFX.evs (h : CFX X g nt f a w) : ∀ (l : List Operand), reps g (l.map (evF f)) (l.map a.eval)
 | [] => by simp [reps]
 | x :: l => by simp only [List.map_cons, reps]; exact ⟨_, _, rfl, h.ev x, h.evs l⟩
theorem CFX.opers (h : CFX X g nt f a w) (o : Oper) : reps g (evFs f o) (o.op.operands.toList.map a.eval) := by
 unfold evFs
 rw [Op.opers_eq]
 exact h.evs _
theorem CFX.put (h : CFX X g nt f a w) {g' : CG} {w' : World} (hw : X' g' w') (hg : CG.le g g') {u : Value} {d : CV} (hd : rep g' d u) {dst : Option Tmp} (ht : ∀ t, dst = some t → t < nt) : CFX X' g' nt (putF f dst d) (a.put dst u) w' := by
 cases dst with
 | none => exact ⟨hw, fun s d hs => by obtain ⟨v, hv, hr⟩ := h.env s d hs; exact ⟨v, hv, rep.mono hg _ _ hr⟩, h.size, h.defers⟩
 | some t =>
  refine ⟨hw, fun s d' hs => ?_, ?_, h.defers⟩
  ·simp only [Act.put]
   simp only [putF] at hs
   split at hs
   ·rename_i e; subst e
    simp only [Option.some.injEq] at hs; subst hs
    exact ⟨u, by simp [h.size, ht s rfl], hd⟩
   ·rename_i ne
    obtain ⟨v, hv, hr⟩ := h.env s d' hs
    exact ⟨v, by rw [Array.getElem?_setIfInBounds_ne (fun e => ne e.symm)]; exact hv, rep.mono hg _ _ hr⟩
  ·simp [Act.put, h.size]
theorem CFX.wanted (h : CFX X g nt f a w) {ops : Array Oper} {o : Oper} {b : Bool} (hw : wantF f ops o = some b) : Region.wanted o (yielded ops a.tmps) = b := by
 unfold wantF at hw
 unfold Region.wanted
 cases hg : o.guard with
 | none => simp [hg] at hw ⊢; exact hw
 | some p =>
  obtain ⟨j, want⟩ := p
  simp only [hg] at hw ⊢
  cases hj : (ops[j]?).bind (·.dst) with
  | none => simp [hj] at hw
  | some t =>
   simp only [hj, Option.bind_some] at hw
   cases he : f t with
   | none => simp [he] at hw
   | some d =>
    simp only [he] at hw
    obtain ⟨u, hu, hr⟩ := h.env t d he
    split at hw
    ·rename_i b' e
     simp only [Option.some.injEq] at e
     subst e
     simp only [rep] at hr
     subst hr
     simp only [yielded, hj, Option.bind_some, hu]
     simp at hw
     rw [← hw]
     cases b' <;> cases want <;> rfl
    ·rename_i ds e
     simp only [Option.some.injEq] at e
     subst e
     simp only [rep] at hr
     obtain ⟨us, rfl, _⟩ := hr
     simp only [yielded, hj, Option.bind_some, hu]
     simp at hw
     subst hw
     rfl
    ·simp at hw
end
section
variable {P : Program} {call : CallF} {nt : Nat}
def needs (ops : Array Oper) (i f : Nat) : Bool := ((befGo [] ops.toList).getD i 0).testBit f
def FactX (P : Program) (nt : Nat) (ops : Array Oper) (sts : Bool → List XS) (fr : Nat) (items : List It) (f0 : Sl) (i : Nat) (o : Oper) : Prop :=
 ∃ d b, items[i]? = some (o.dst, d, b) ∧ (∀ t, o.dst = some t → t < nt) ∧
  ((wantF (envT items i f0) ops o = some false ∧ d = .tup [] ∧ i ≠ fr ∧ (b = true → ∀ bb X, (sts bb)[cntT items i]? = some X → (bb = false → needs ops i fr = false) → ∃ X', (sts bb)[cntT items i + 1]? = some X' ∧ ∀ g w, X g w → X' g w)) ∨
   (wantF (envT items i f0) ops o = some true ∧ b = false ∧ i ≠ fr ∧ ∀ (bb : Bool) (c : Nat) (X : XS), (sts bb)[c]? = some X → (bb = false → needs ops i fr = false) → lowOf (befGo [] ops.toList) (items.map (·.2.2)) i ≤ c → c ≤ highOf (befGo [] ops.toList) (items.map (·.2.2)) i → XOp P o (evFs (envT items i f0) o) X d X) ∨
   (wantF (envT items i f0) ops o = some true ∧ b = true ∧ i ≠ fr ∧ ∀ bb X, (sts bb)[cntT items i]? = some X → (bb = false → needs ops i fr = false) → ∃ X', (sts bb)[cntT items i + 1]? = some X' ∧ XOp P o (evFs (envT items i f0) o) X d X') ∨
   (wantF (envT items i f0) ops o = some true ∧ b = false ∧ i = fr ∧ ∀ (c : Nat) (X : XS), (sts false)[c]? = some X → ∃ X', (sts true)[c]? = some X' ∧ XOp P o (evFs (envT items i f0) o) X d X'))
theorem draw_okX {ops : Array Oper} {items : List It} {sts : Bool → List XS} {fr : Nat} {f0 : Sl} {g0 : CG} {Q : Exit → Act → World → Prop} (hreg : regOK ops (items.map (·.2.2)) = true) (hlen : items.length = ops.size) (hirr : fr ≥ ops.size → ∀ b, sts b = sts (decide (fr < ops.size)))
  (hfact : ∀ i o, ops[i]? = some o → FactX P nt ops sts fr items f0 i o) {X1 : XS} (hm' : (sts (decide (fr < ops.size)))[cntT items ops.size]? = some X1)
  (hfin : ∀ g' a' w', CG.le g0 g' → CFX X1 g' nt (envT items ops.size f0) a' w' → Q .normal a' w') {X0 : XS} (hm : (sts false)[0]? = some X0) {a : Act} {w : World} (hf : CFX X0 g0 nt f0 a w) :
  wpAny P .any ops Q ops.size (Array.replicate ops.size false) a w := by
 have hS0 : (fun i => (Array.replicate ops.size false).getD i false) = fun _ => false := by
  funext i
  simp only [Array.getD_eq_getD_getElem?, Array.getElem?_replicate]
  split <;> rfl
 have hE0 : envS items (fun _ => false) f0 = f0 := by
  unfold envS
  generalize items.zipIdx 0 = l
  have : ∀ (l : List (It × Nat)) (f : Sl), l.foldl (stepE fun _ => false) f = f := by
   intro l
   induction l with
   | nil => intro f; rfl
   | cons x l ih => intro f; simp only [List.foldl_cons]; rw [show stepE (fun _ => false) f x = f by simp [stepE]]; exact ih f
  exact this l f0
 have hC0 : cntS items (fun _ => false) = 0 := by
  unfold cntS
  generalize items.zipIdx 0 = l
  have : ∀ (l : List (It × Nat)) (c : Nat), l.foldl (stepC' fun _ => false) c = c := by
   intro l
   induction l with
   | nil => intro f; rfl
   | cons x l ih => intro c; simp only [List.foldl_cons]; rw [show stepC' (fun _ => false) c x = c by simp [stepC']]; exact ih c
  exact this l 0
 obtain ⟨es, hes⟩ : ∃ es, es = items.map (·.2.2) := ⟨_, rfl⟩
 have hreg' : regOK ops es = true := by rw [hes]; exact hreg
 have gen := wpAny_gen (P := P) (Q := Q) (effs := es) (I := fun S a w => ∃ g s, CG.le g0 g ∧ (sts (S fr))[cntS items S]? = some s ∧ CFX s g nt (envS items S f0) a w) hreg'
 refine gen (fun S a w hall hI => ?_) (fun S i o ho hnS hdc hready a w K hI hK => ?_) ops.size _ a w Array.size_replicate ?_ ?_ ?_
 ·obtain ⟨g, s, hg, hs, hf⟩ := hI
  have e2 : cntS items S = cntT items ops.size := by
   refine foldC_agree _ _ (fun x hx _ => ?_)
   have hx2 := (List.getElem?_eq_some_iff.1 (mem_zipIdx hx)).1
   rw [hall x.2 (by omega)]; simp; omega
  have e1 : envS items S f0 = envT items ops.size f0 := by
   funext t
   refine foldE_agree _ _ _ (fun x hx _ => ?_) rfl
   have hx2 := (List.getElem?_eq_some_iff.1 (mem_zipIdx hx)).1
   rw [hall x.2 (by omega)]; simp; omega
  have e3 : S fr = decide (fr < ops.size) ∨ fr ≥ ops.size := by
   by_cases hfr : fr < ops.size
   ·exact .inl (by rw [hall fr hfr]; simp [hfr])
   ·exact .inr (by omega)
  have e4 : sts (S fr) = sts (decide (fr < ops.size)) := by
   rcases e3 with e3 | e3
   ·rw [e3]
   ·exact hirr e3 (S fr)
  rw [e2, e4, hm'] at hs
  simp only [Option.some.injEq] at hs; subst hs
  rw [e1] at hf
  exact hfin g a w hg hf
 ·obtain ⟨g, s, hg, hs, hf⟩ := hI
  have hi' : i < ops.size := (Array.getElem?_eq_some_iff.1 ho).1
  have hpre := ready_before hdc ho hready
  have hpost := fun (j : Nat) (hs : S j = true) => listed_before (S := S) hdc hs
  obtain ⟨d, b, hit, hdst, hcase⟩ := hfact i o ho
  have hil : i < items.length := by omega
  have opAt : ∀ (k : Nat) (x : It), items[k]? = some x → ∃ ok, ops[k]? = some ok ∧ x.1 = ok.dst := by
   intro k x hk
   have hkl : k < ops.size := by have := (List.getElem?_eq_some_iff.1 hk).1; omega
   have hok : ops[k]? = some ops[k] := by simp [hkl]
   obtain ⟨d', b', h1, _⟩ := hfact k _ hok
   rw [hk] at h1
   simp at h1
   exact ⟨_, hok, by rw [h1]⟩
  have effAt : ∀ (k : Nat) (x : It), items[k]? = some x → (items.map (·.2.2)).getD k false = x.2.2 := by
   intro k x hk
   rw [List.getD_eq_getElem?_getD, List.getElem?_map, hk]; rfl
  have lt_listed : ∀ (k : Nat) (ok : Oper), ops[k]? = some ok → k < i → (confl ops ok o = true ∨ ((items.map (·.2.2)).getD k false = true ∧ (items.map (·.2.2)).getD i false = true)) → S k = true :=
   fun k ok hk hlt hc => hpre k (regOK_ord hreg hk ho hlt hc)
  have gt_not : ∀ (k : Nat) (ok : Oper), ops[k]? = some ok → i < k → (confl ops o ok = true ∨ ((items.map (·.2.2)).getD i false = true ∧ (items.map (·.2.2)).getD k false = true)) → S k = false := by
   intro k ok hk hlt hc
   cases hl : S k with
   | false => rfl
   | true =>
    have := hpost k hl i (regOK_ord hreg ho hk hlt hc)
    rw [hnS] at this
    exact absurd this (by simp)
  have agree : ∀ t ∈ readsOf ops o, envS items S f0 t = envT items i f0 t := by
   intro t ht
   refine foldE_agree _ _ _ (fun x hx hxt => ?_) rfl
   have hx2 := mem_zipIdx hx
   obtain ⟨ok, hok, hdst⟩ := opAt x.2 x.1 hx2
   rw [hdst] at hxt
   rcases Nat.lt_trichotomy x.2 i with h | h | h
   ·rw [lt_listed x.2 ok hok h (.inl (by unfold confl; simp [hxt, ht]))]; simp [h]
   ·rw [h, hnS]; simp
   ·rw [gt_not x.2 ok hok h (.inl (by unfold confl; simp [hxt, ht]))]; simp; omega
  have hlast : ∀ (k : Nat) (x : It), items[k]? = some x → S k = true → i < k → o.dst = none ∨ x.1 ≠ o.dst := by
   intro k x hk hl hlt
   cases hd : o.dst with
   | none => exact .inl rfl
   | some t =>
    refine .inr fun e => ?_
    obtain ⟨ok, hok, hdst⟩ := opAt k x hk
    have := gt_not k ok hok hlt (.inl (by unfold confl; simp [hd, ← hdst, e]))
    rw [this] at hl
    simp at hl
  have hadd := envS_add (S := S) (f0 := f0) hit hnS hlast
  have hcadd := cntS_add (S := S) hit hnS
  simp only at hadd hcadd
  -- effects that are listed are a beginning of all
  have effAll : ∀ (e k : Nat) (x y : It), items[e]? = some x → items[k]? = some y → x.2.2 = true → y.2.2 = true → k < e → S e = true → S k = true := by
   intro e k x y he hk hx hy hlt hS
   obtain ⟨oe, hoe, _⟩ := opAt e x he
   obtain ⟨ok, hok, _⟩ := opAt k y hk
   exact hpost e hS k (regOK_ord hreg hok hoe hlt (.inr ⟨by rw [effAt k y hk]; exact hy, by rw [effAt e x he]; exact hx⟩))
  have hcb : b = true → cntS items S = cntT items i := by
   intro hbt
   have hei : (items.map (·.2.2)).getD i false = true := by rw [effAt i _ hit]; exact hbt
   refine foldC_agree _ _ (fun x hx hxb => ?_)
   have hx2 := mem_zipIdx hx
   obtain ⟨ok, hok, _⟩ := opAt x.2 x.1 hx2
   have hex : (items.map (·.2.2)).getD x.2 false = true := by rw [effAt x.2 x.1 hx2]; exact hxb
   rcases Nat.lt_trichotomy x.2 i with h | h | h
   ·rw [lt_listed x.2 ok hok h (.inr ⟨hex, hei⟩)]; simp [h]
   ·rw [h, hnS]; simp
   ·rw [gt_not x.2 ok hok h (.inr ⟨hei, hex⟩)]; simp; omega
  have hw := wantF_congr agree
  have hev := evFs_congr agree
  have itemAt : ∀ e, e < (items.map (·.2.2)).length → ∃ x, items[e]? = some x := fun e he => ⟨items[e]'(by simpa using he), by simp⟩
  unfold wpOp
  rw [ho]
  simp only
  have hneed : S fr = false → needs ops i fr = false := fun hb => by
   cases hn : needs ops i fr with
   | false => rfl
   | true => have := hpre fr hn; rw [hb] at this; exact absurd this (by simp)
  have hflag : i ≠ fr → (fun k => S k || k == i) fr = S fr := fun hne => by
   have : (fr == i) = false := by simpa using Ne.symm hne
   simp only [this, Bool.or_false]
  rcases hcase with ⟨hwant, rfl, hne, hst⟩ | ⟨hwant, rfl, hne, hop⟩ | ⟨hwant, rfl, hne, hop⟩ | ⟨hwant, rfl, hfr, hop⟩
  ·rw [if_neg (by rw [hf.wanted (hw.trans hwant)]; simp)]
   cases b with
   | false =>
    refine hK _ _ ⟨g, s, hg, ?_, ?_⟩
    ·rw [hflag hne, hcadd]; simpa using hs
    ·rw [hadd]; exact hf.put hf.wi (CG.le_refl g) (rep_undef g) hdst
   | true =>
    rw [hcb rfl] at hs
    obtain ⟨s2, hs2, himp⟩ := hst rfl (S fr) s hs hneed
    refine hK _ _ ⟨g, s2, hg, ?_, ?_⟩
    ·rw [hflag hne, hcadd]; simpa [hcb rfl] using hs2
    ·rw [hadd]; exact hf.put (himp _ _ hf.wi) (CG.le_refl g) (rep_undef g) hdst
  ·rw [if_pos (hf.wanted (hw.trans hwant))]
   refine .inl ?_
   have hlow : lowOf (befGo [] ops.toList) (items.map (·.2.2)) i ≤ cntS items S := by
    rcases lowOf_spec (befGo [] ops.toList) (items.map (·.2.2)) i with h | ⟨e, he, h1, h2, h3⟩
    ·omega
    ·rw [h3, rank_eq]
     obtain ⟨x, hx⟩ := itemAt e he
     have hSe := hpre e h2
     have hxe : x.2.2 = true := by rw [← effAt e x hx]; exact h1
     have : cntT items e + 1 = cntS items (fun k => decide (k < e) || k == e) := by
      have := cntS_add (S := fun k => decide (k < e)) hx (by simp)
      rw [this, hxe]; rfl
     rw [this]
     refine cntS_le fun k y hk hy hS => ?_
     simp only [Bool.or_eq_true, decide_eq_true_eq, beq_iff_eq] at hS
     rcases hS with hS | rfl
     ·exact effAll e k x y hx hk hxe hy hS hSe
     ·exact hSe
   have hhigh : cntS items S ≤ highOf (befGo [] ops.toList) (items.map (·.2.2)) i := by
    rcases highOf_spec (befGo [] ops.toList) (items.map (·.2.2)) i with h | ⟨e, he, h1, h2, h3⟩
    ·rw [h, rank_eq]
     refine cntS_le fun k y hk hy hS => ?_
     have := (List.getElem?_eq_some_iff.1 hk).1
     simpa using this
    ·rw [h3, rank_eq]
     obtain ⟨x, hx⟩ := itemAt e he
     have hxe : x.2.2 = true := by rw [← effAt e x hx]; exact h1
     have hnSe : S e = false := by
      cases hl : S e with
      | false => rfl
      | true => have := hpost e hl i h2; rw [hnS] at this; exact absurd this (by simp)
     refine cntS_le fun k y hk hy hS => ?_
     simp only [decide_eq_true_eq]
     rcases Nat.lt_trichotomy k e with h | h | h
     ·exact h
     ·subst h; rw [hnSe] at hS; exact absurd hS (by simp)
     ·have := effAll k e y x hk hx hy hxe h hS
      rw [hnSe] at this; exact absurd this (by simp)
   rw [← hev] at hop
   refine hop (S fr) _ s hs hneed hlow hhigh g a w _ _ hf.wi (hf.opers o) fun g' w' u h1 h2 h3 => ?_
   refine hK _ _ ⟨g', s, CG.le_trans hg h2, ?_, ?_⟩
   ·rw [hflag hne, hcadd]; simpa using hs
   ·rw [hadd]; exact hf.put h1 h2 h3 hdst
  ·rw [if_pos (hf.wanted (hw.trans hwant))]
   refine .inl ?_
   rw [hcb rfl] at hs
   rw [← hev] at hop
   obtain ⟨s2, hs2, hop2⟩ := hop (S fr) s hs hneed
   refine hop2 g a w _ _ hf.wi (hf.opers o) fun g' w' u h1 h2 h3 => ?_
   refine hK _ _ ⟨g', s2, CG.le_trans hg h2, ?_, ?_⟩
   ·rw [hflag hne, hcadd, hcb rfl]; simpa using hs2
   ·rw [hadd]; exact hf.put h1 h2 h3 hdst
  ·rw [if_pos (hf.wanted (hw.trans hwant))]
   refine .inl ?_
   rw [← hfr, hnS] at hs
   rw [← hev] at hop
   obtain ⟨s2, hs2, hop2⟩ := hop _ s hs
   refine hop2 g a w _ _ hf.wi (hf.opers o) fun g' w' u h1 h2 h3 => ?_
   refine hK _ _ ⟨g', s2, CG.le_trans hg h2, ?_, ?_⟩
   ·have : (fun k => S k || k == i) fr = true := by rw [← hfr]; simp
    rw [this, hcadd]; simpa using hs2
   ·rw [hadd]; exact hf.put h1 h2 h3 hdst
 ·rw [hS0]; intro i o _ h; simp at h
 ·have : (List.range ops.size).filter (fun i => !(Array.replicate ops.size false).getD i false) = List.range ops.size := by
   rw [List.filter_eq_self]
   intro i _
   have := congrFun hS0 i
   rw [this]; rfl
  rw [this, List.length_range]
 ·rw [hS0]
  exact ⟨g0, X0, CG.le_refl g0, by rw [hC0]; exact hm, by rw [hE0]; exact hf⟩
end
end Go.Ci

namespace Go.Ci
open Go.Dv (regOK befGo heap_lt)
mutual
theorem rep_unput {g : CG} {r : Nat} {x : Nat × Nat × Nat} : ∀ (v : CV) (u : Value), noR r v = true → rep (g.put r x) v u → rep g v u
 | .int .., _, _, h => by simpa only [rep] using h
 | .bool _, _, _, h => by simpa only [rep] using h
 | .str _, _, _, h => by simpa only [rep] using h
 | .nilp, _, _, h => by simpa only [rep] using h
 | .nils, _, _, h => by simpa only [rep] using h
 | .nilfn, _, _, h => by simpa only [rep] using h
 | .ptr .., _, hn, h => by
  simp only [rep] at h ⊢; simp [noR] at hn
  rw [CG.put_ne g hn] at h; exact h
 | .sl .., _, hn, h => by
  simp only [rep] at h ⊢; simp [noR] at hn
  rw [CG.put_ne g hn] at h; exact h
 | .map _, _, hn, h => by
  simp only [rep] at h ⊢; simp [noR] at hn
  rw [CG.put_ne g hn] at h; exact h
 | .fn f fs cs, _, hn, h => by
  simp only [rep] at h ⊢; simp [noR] at hn
  obtain ⟨us, vs, h1, h2, h3⟩ := h; exact ⟨us, vs, h1, reps_unput _ _ hn.1 h2, reps_unput _ _ hn.2 h3⟩
 | .agg cs, _, hn, h => by
  simp only [rep] at h ⊢; simp [noR] at hn
  obtain ⟨us, h1, h2, h3⟩ := h; exact ⟨us, h1, reps_unput _ _ hn h2, h3⟩
 | .tup vs, _, hn, h => by
  simp only [rep] at h ⊢; simp [noR] at hn
  obtain ⟨us, h1, h2⟩ := h; exact ⟨us, h1, reps_unput _ _ hn h2⟩
 | .undef, _, _, _ => by simp only [rep]
 | .sym .., _, hn, h => by
  simp only [rep] at h ⊢; simp [noR] at hn
  rw [CG.put_ne g hn] at h; exact h
theorem reps_unput {g : CG} {r : Nat} {x : Nat × Nat × Nat} : ∀ (vs : List CV) (us : List Value), noRs r vs = true → reps (g.put r x) vs us → reps g vs us
 | [], _, _, h => by simpa only [reps] using h
 | d :: ds, _, hn, h => by
  simp only [reps] at h ⊢; simp [noRs] at hn
  obtain ⟨u, us', h1, h2, h3⟩ := h; exact ⟨u, us', h1, rep_unput _ _ hn.1 h2, reps_unput _ _ hn.2 h3⟩
end
def CE.plus (E : CE) (wA : World) (b0 : Nat) : CE := ⟨wA, fun b => E.pr b ∨ b = b0, E.ro, fun b h => .inl (E.sub b h)⟩
structure Pend (E : CE) (s : CMem) (r : Nat) (zc : List CV) (gp : CG) (w : World) : Prop where
 ex : ∃ (g : CG) (b0 : Nat) (wA : World) (zs : List Value) (te : TypeId), gp = g.put r (b0, 0, zs.length) ∧ g r = none ∧ CW (E.plus wA b0) g s w ∧ wA.heap[b0]? = some (.cells zs.toArray te (0, 0)) ∧ (∀ g, reps g zc zs) ∧
  (∀ b, E.pr b → wA.heap[b]? = E.w.heap[b]?) ∧ (∀ b, E.pr b → b < E.w.heap.size) ∧ E.w.heap.size ≤ wA.heap.size ∧ wA.os = E.w.os ∧ wA.tape = E.w.tape ∧ wA.output = E.w.output ∧ ¬ E.pr b0
section
variable {E : CE} {g : CG} {m s s' : CMem} {w w' wA : World} {r b0 : Nat} {zc : List CV}
theorem CW.plus (h : CW E g s wA) (hlt : b0 < wA.heap.size) (hno : ∀ i c st ln cs x, s.o.get i = some (.cells c st ln cs) → g i = some x → x.1 ≠ b0) (hnm : ∀ i es x, s.o.get i = some (.map es) → g i = some x → x.1 ≠ b0) : CW (E.plus wA b0) g s wA := by
 refine ⟨fun b hb => rfl, fun b hb => ?_, Nat.le_refl _, rfl, rfl, rfl, h.dom, fun i c st ln cs hi => ?_, fun i cs hi => ?_, fun i es hi => ?_, h.sep, h.sepM, h.align, h.mem, h.alive, h.cls⟩
 ·rcases hb with hb | rfl
  ·have := h.prlt b hb; have := h.size; exact Nat.lt_of_lt_of_le (h.prlt b hb) h.size
  ·exact hlt
 ·obtain ⟨b, γ, κ, arr, e, us, h2, h3⟩ := h.obj _ _ _ _ _ hi
  refine ⟨b, γ, κ, arr, e, us, h2, ?_⟩
  rintro (hb | rfl)
  ·exact h3 hb
  ·exact hno _ _ _ _ _ _ hi h2.at_ rfl
 ·obtain ⟨b, γ, κ, us, h2, h3, h4, h5, h6⟩ := h.ro _ _ hi
  refine ⟨b, γ, κ, us, h2, h3, h4, h5, fun j u hj => ?_⟩
  have := h6 j u hj
  simpa only [CE.plus, World.cell?, h.keep b (E.sub b h3)] using this
 ·obtain ⟨b, γ, κ, l, cl, h2, h3, h4, h5⟩ := h.map _ _ hi
  refine ⟨b, γ, κ, l, cl, h2, h3, h4, ?_⟩
  rintro (hb | rfl)
  ·exact h5 hb
  ·exact hnm _ _ _ hi h2 rfl
theorem CW.unplus (h : CW (E.plus wA b0) g s w) (hk : ∀ b, E.pr b → wA.heap[b]? = E.w.heap[b]?) (hlt : ∀ b, E.pr b → b < E.w.heap.size) (hsz : E.w.heap.size ≤ wA.heap.size) (ho : wA.os = E.w.os) (ht : wA.tape = E.w.tape) (hp : wA.output = E.w.output) : CW E g s w := by
 refine ⟨fun b hb => (h.keep b (.inl hb)).trans (hk b hb), hlt, Nat.le_trans hsz h.size, h.os.trans ho, h.tape.trans ht, h.output.trans hp, h.dom, fun i c st ln cs hi => ?_, fun i cs hi => ?_, fun i es hi => ?_, h.sep, h.sepM, h.align, h.mem, h.alive, h.cls⟩
 ·obtain ⟨b, γ, κ, arr, e, us, h2, h3⟩ := h.obj _ _ _ _ _ hi
  exact ⟨b, γ, κ, arr, e, us, h2, fun hb => h3 (.inl hb)⟩
 ·obtain ⟨b, γ, κ, us, h2, h3, h4, h5, h6⟩ := h.ro _ _ hi
  refine ⟨b, γ, κ, us, h2, h3, h4, h5, fun j u hj => ?_⟩
  have := h6 j u hj
  simpa only [CE.plus, World.cell?, hk b (E.sub b h3)] using this
 ·obtain ⟨b, γ, κ, l, cl, h2, h3, h4, h5⟩ := h.map _ _ hi
  exact ⟨b, γ, κ, l, cl, h2, h3, h4, fun hb => h5 (.inl hb)⟩
theorem CW.addNew (h : CW E g m w) {ln : Nat} {cs : List CV} {us : List Value} {arr : Array Value} {e : TypeId} (hrow : w.heap[b0]? = some (.cells arr e (0, 0))) (hp : ¬ E.pr b0) (hno : ∀ i c st ln cs x, m.o.get i = some (.cells c st ln cs) → g i = some x → x.1 ≠ b0)
  (hr : reps g cs us) (h1 : ∀ c ∈ cs, c.one = true) (hl : cs.length = ln) (hh : rowHas arr 0 us) : CW E (g.put m.n (b0, 0, arr.size)) (m.new ln cs) w := by
 have hle : CG.le g (g.put m.n (b0, 0, arr.size)) := CG.le_put h.new_none _
 have hget : ∀ i, (m.new ln cs).o.get i = if i = m.n then some (.cells m.n 0 ln cs) else m.o.get i := fun i => T.get_set _ _ _ _
 have hgc : ∀ i, (m.new ln cs).c.get i = if i = m.n then some [m.n] else m.c.get i := fun i => T.get_set _ _ _ _
 have hgn : ∀ i, i ≠ m.n → (g.put m.n (b0, 0, arr.size)) i = g i := fun i hi => CG.put_ne g hi _
 have hclt : ∀ i c st ln cs, m.o.get i = some (.cells c st ln cs) → c < m.n := fun i c st ln cs hi => by
  obtain ⟨js, h2, _⟩ := h.mem _ _ _ _ _ hi
  exact h.cls _ _ h2
 refine ⟨h.keep, h.prlt, h.size, h.os, h.tape, h.output, fun i x hx => ?_, fun i c st ln' cs' hi => ?_, fun i cs' hi => ?_, fun i es hi => ?_, ?_, ?_, ?_, fun i c st ln' cs' hi => ?_, fun i o hi => ?_, fun c js hc => ?_⟩
 ·simp only [CMem.new]
  by_cases e : i = m.n
  ·omega
  ·rw [hgn i e] at hx; exact Nat.lt_succ_of_lt (h.dom _ _ hx)
 ·rw [hget] at hi
  split at hi
  ·rename_i e'; subst e'
   simp at hi; obtain ⟨rfl, rfl, rfl, rfl⟩ := hi
   exact ⟨b0, 0, arr.size, arr, e, us, ⟨CG.put_self _ _ _, hrow, by omega, reps.mono hle _ _ hr, h1, hl, hh, by rw [← reps_length hr]; exact rowHas_le hh⟩, hp⟩
  ·obtain ⟨b, γ, κ, arr', e', us', h2, h3⟩ := h.obj _ _ _ _ _ hi
   exact ⟨b, γ, κ, arr', e', us', h2.mono hle rfl, h3⟩
 ·rw [hget] at hi
  split at hi
  ·simp at hi
  ·obtain ⟨b, γ, κ, us', h2, h3, h4, h5⟩ := h.ro _ _ hi
   exact ⟨b, γ, κ, us', hle _ _ h2, h3, reps.mono hle _ _ h4, h5⟩
 ·rw [hget] at hi
  split at hi
  ·simp at hi
  ·obtain ⟨b, γ, κ, l, cl, h2, h3, h4, h5⟩ := h.map _ _ hi
   exact ⟨b, γ, κ, l, cl, hle _ _ h2, h3, repK.mono hle h4, h5⟩
 ·intro i j c st ln1 cs1 c' st' ln2 cs2 x y hi hj hx hy hne
  rw [hget] at hi hj
  by_cases ei : i = m.n
  ·rw [if_pos ei] at hi
   simp at hi; obtain ⟨rfl, rfl, rfl, rfl⟩ := hi
   subst ei
   rw [CG.put_self] at hx; simp at hx; subst hx
   by_cases ej : j = m.n
   ·rw [if_pos ej] at hj; simp at hj; exact absurd hj.1 hne
   ·rw [if_neg ej] at hj; rw [hgn j ej] at hy
    exact fun e => hno _ _ _ _ _ _ hj hy e.symm
  ·rw [if_neg ei] at hi; rw [hgn i ei] at hx
   by_cases ej : j = m.n
   ·rw [if_pos ej] at hj
    subst ej
    rw [CG.put_self] at hy; simp at hy; subst hy
    exact hno _ _ _ _ _ _ hi hx
   ·rw [if_neg ej] at hj; rw [hgn j ej] at hy
    exact h.sep _ _ _ _ _ _ _ _ _ _ _ _ hi hj hx hy hne
 ·intro i j es es' x y hi hj hx hy hne
  rw [hget] at hi hj
  split at hi
  ·simp at hi
  ·rename_i ei
   split at hj
   ·simp at hj
   ·rename_i ej
    rw [hgn i ei] at hx; rw [hgn j ej] at hy
    exact h.sepM _ _ _ _ _ _ hi hj hx hy hne
 ·intro i j c st ln1 cs1 st' ln2 cs2 x y hi hj hx hy hb
  rw [hget] at hi hj
  by_cases ei : i = m.n
  ·rw [if_pos ei] at hi
   simp at hi; obtain ⟨rfl, rfl, rfl, rfl⟩ := hi
   by_cases ej : j = m.n
   ·rw [if_pos ej] at hj
    simp at hj; obtain ⟨rfl, rfl, rfl⟩ := hj
    rw [ei] at hx; rw [ej] at hy
    rw [hx] at hy; simp at hy; subst hy; rfl
   ·rw [if_neg ej] at hj
    exact absurd (hclt _ _ _ _ _ hj) (Nat.lt_irrefl _)
  ·rw [if_neg ei] at hi
   by_cases ej : j = m.n
   ·rw [if_pos ej] at hj
    simp at hj; obtain ⟨rfl, rfl, rfl, rfl⟩ := hj
    exact absurd (hclt _ _ _ _ _ hi) (Nat.lt_irrefl _)
   ·rw [if_neg ej] at hj
    rw [hgn i ei] at hx; rw [hgn j ej] at hy
    exact h.align _ _ _ _ _ _ _ _ _ _ _ hi hj hx hy hb
 ·rw [hget] at hi
  split at hi
  ·rename_i ei
   simp at hi; obtain ⟨rfl, rfl, rfl, rfl⟩ := hi
   exact ⟨[m.n], by rw [hgc, if_pos rfl], by simp [ei]⟩
  ·obtain ⟨js, h2, h3⟩ := h.mem _ _ _ _ _ hi
   refine ⟨js, ?_, h3⟩
   rw [hgc, if_neg (fun e => by subst e; exact absurd (h.cls _ _ h2) (Nat.lt_irrefl _))]; exact h2
 ·rw [hget] at hi
  simp only [CMem.new]
  split at hi
  ·omega
  ·exact Nat.lt_succ_of_lt (h.alive _ _ hi)
 ·rw [hgc] at hc
  simp only [CMem.new]
  split at hc
  ·omega
  ·exact Nat.lt_succ_of_lt (h.cls _ _ hc)
theorem Pend.bind {gp : CG} (h : Pend E s r zc gp w) (hr : s.n = r) (h1 : ∀ c ∈ zc, c.one = true) : CW E gp (s.new zc.length zc) w := by
 obtain ⟨g, b0, wA, zs, te, rfl, hgr, hw, hrow, hz, a1, a2, a3, a4, a5, a6, hp⟩ := h.ex
 have hw' := hw.unplus a1 a2 a3 a4 a5 a6
 have hrow' : w.heap[b0]? = some (.cells zs.toArray te (0, 0)) := (hw.keep b0 (.inr rfl)).trans hrow
 subst hr
 have := hw'.addNew (ln := zc.length) (cs := zc) (us := zs) hrow' hp (fun i c st ln cs x hi hx e => by
  obtain ⟨b, γ, κ, arr, e', us, h2, h3⟩ := hw.obj _ _ _ _ _ hi
  rw [h2.at_] at hx; simp at hx; subst hx
  exact h3 (.inr e)) (hz _) h1 rfl (fun j x hj => by simpa using hj)
 simpa using this
variable {P : Program} {o : Oper} {vs : List CV} {d : CV}
theorem Pend.step (h : COp P o vs s d s') (hn : noRs r vs = true) (hr : s'.n ≤ r) : XOp P o vs (Pend E s r zc) d (Pend E s' r zc) := by
 intro gp a w K Q hX hds hK
 obtain ⟨g, b0, wA, zs, te, rfl, hgr, hw, hrow, hz, a1, a2, a3, a4, a5, a6, hp⟩ := hX.ex
 refine h _ g a w K Q hw (reps_unput _ _ hn hds) fun g' w' u hw' hle hd => ?_
 have hgr' : g' r = none := by
  cases e : g' r with
  | none => rfl
  | some x => have := hw'.dom _ _ e; omega
 have hle' : CG.le (g.put r (b0, 0, zs.length)) (g'.put r (b0, 0, zs.length)) := fun i x hx => by
  unfold CG.put at hx ⊢
  split at hx
  ·rename_i e; rw [if_pos e]; exact hx
  ·rename_i e; rw [if_neg e]; exact hle _ _ hx
 exact hK _ w' u ⟨⟨g', b0, wA, zs, te, rfl, hgr', hw', hrow, hz, a1, a2, a3, a4, a5, a6, hp⟩⟩ hle' (rep.mono (CG.le_put hgr' _) _ _ hd)
theorem Pend.alloc {e : TypeId} (ho : o.op = .alloc e) {z : List CV} (hz : zeroC P e = some z) (hr : s.n ≤ r) : XOp P o vs (fun g w => CW E g s w) (.ptr r 0) (Pend E s r z) := by
 intro g a w K Q hw hds hK
 obtain ⟨i, zv, hi, hz1, hcv⟩ := zeroC_parts hz
 have hgr : g r = none := by
  cases e : g r with
  | none => rfl
  | some x => have := hw.dom _ _ e; omega
 have hwA := hw.alloc (w' := w.alloc (.cells zv.cells e)) rfl rfl rfl rfl
 have hsz : (w.alloc (.cells zv.cells e)).heap.size = w.heap.size + 1 := by simp
 have hpl := hwA.plus (b0 := w.heap.size) (by omega) (fun i c st ln cs x hi hx => by
  obtain ⟨b, γ, κ, arr, e', us, h2, _⟩ := hw.obj _ _ _ _ _ hi
  rw [h2.at_] at hx; simp at hx; subst hx
  exact Nat.ne_of_lt (heap_lt h2.row)) (fun i es x hi hx => by
  obtain ⟨b, γ, κ, l, cl, h2, h3, _⟩ := hw.map _ _ hi
  rw [h2] at hx; simp at hx; subst hx
  exact Nat.ne_of_lt (heap_lt h3))
 have hP : Pend E s r z (g.put r (w.heap.size, 0, zv.cells.toList.length)) (w.alloc (.cells zv.cells e)) :=
  ⟨⟨g, w.heap.size, w.alloc (.cells zv.cells e), zv.cells.toList, e, rfl, hgr, hpl, by simpa using heap_alloc_new w (.cells zv.cells e), fun g => (constCs_rep g hcv).1, hwA.keep, hwA.prlt, hwA.size, hwA.os, hwA.tape, hwA.output, fun hb => by have := hw.prlt _ hb; have := hw.size; omega⟩⟩
 have := hK _ _ (.pointer (some ⟨w.heap.size, 0, none⟩)) hP (CG.le_put hgr _) (by simp only [rep]; exact ⟨_, _, _, CG.put_self _ _ _, rfl⟩)
 unfold Oper.wp execOp
 simpa [ho, Instr.alloc, zeroValue, typeInfo, hi, hz1, newVar, newRow, Oper.upon] using this
theorem COp.x (h : COp P o vs s d s') : XOp P o vs (fun g w => CW E g s w) d (fun g w => CW E g s' w) := fun g a w K Q hX hds hK => h E g a w K Q hX hds hK
theorem XOp.post {X X1 X2 : XS} (h : XOp P o vs X d X1) (hx : ∀ g w, X1 g w → X2 g w) : XOp P o vs X d X2 := fun g a w K Q hX hds hK => h g a w K Q hX hds fun g' w' u h1 h2 h3 => hK g' w' u (hx _ _ h1) h2 h3
end
end Go.Ci

namespace Go.Ci
open Go.Dv (regOK befGo heap_lt)
section
variable {P : Program} {call : CallF} {nt : Nat}
theorem cnt_unset {items : List It} {fr : Nat} {it : It} (hit : items[fr]? = some it) (he : it.2.2 = true) (i : Nat) :
  cntA ((items.set fr (it.1, it.2.1, false)).take i) + (if fr < i then 1 else 0) = cntA (items.take i) := by
 have hlt : fr < items.length := (List.getElem?_eq_some_iff.1 hit).1
 by_cases h : fr < i
 ·rw [if_pos h]
  have hs : items.take i = items.take fr ++ it :: (items.take i).drop (fr + 1) := by
   have hl : fr < (items.take i).length := by simp; omega
   have h1 : (items.take i)[fr]? = some it := by rw [List.getElem?_take, if_pos h]; exact hit
   conv => lhs; rw [← List.take_append_drop fr (items.take i)]
   rw [List.take_take, Nat.min_eq_left (by omega), List.drop_eq_getElem_cons hl]
   congr 2
   exact (List.getElem?_eq_some_iff.1 h1).2
  have hs' : (items.set fr (it.1, it.2.1, false)).take i = items.take fr ++ (it.1, it.2.1, false) :: (items.take i).drop (fr + 1) := by
   rw [List.take_set]
   conv => lhs; rw [hs]
   rw [List.set_append_right _ _ (by simp; omega)]
   have : fr - (items.take fr).length = 0 := by simp; omega
   rw [this]; rfl
  rw [hs, hs']
  simp [cntA, he]
  omega
 ·rw [if_neg h, List.take_set, List.set_eq_of_length_le (by simp; omega)]
  rfl
theorem envA_unset {items : List It} {fr : Nat} {it : It} (hit : items[fr]? = some it) (i : Nat) (f : Sl) : envA ((items.set fr (it.1, it.2.1, false)).take i) f = envA (items.take i) f := by
 have gen : ∀ (l : List It) (n : Nat) (f : Sl), l[n]? = some it → envA (l.set n (it.1, it.2.1, false)) f = envA l f := by
  intro l
  induction l with
  | nil => intro n f h; simp at h
  | cons x l ih =>
   intro n f h
   cases n with
   | zero => simp at h; subst h; rfl
   | succ n => simp only [List.set_cons_succ, envA, List.foldl_cons]; exact ih n _ (by simpa using h)
 rw [List.take_set]
 by_cases h : fr < i
 ·exact gen _ _ _ (by rw [List.getElem?_take, if_pos h]; exact hit)
 ·rw [List.set_eq_of_length_le (by simp; omega)]
theorem draw2_sound (hm : P.follows .mixedOrders = true) (hcall : CallOK P call) {ops : Array Oper} {fr : Nat} {env env' : T CV} {m m' : CMem} {is : List DI} {sts : List CMem} (hfree : freeOK ops fr = true)
  (h : drawGo P call nt ops ops.toList env m [] [m] = some (is, sts, env')) {sk : CMem} {tl : List CMem} (hd : dropT sts (rank (effsOf ops) fr) = some (sk :: tl)) (hl : sts.getLast? = some m')
  (hn : (sts.take (rank (effsOf ops) fr)).all (fun s => Nat.ble s.n sk.n) = true)
  (hno : (is.zipIdx 0).all (fun x => !x.1.ran || (Nat.beq x.2 fr) || (isEff x.1.o.op && Nat.ble (fr + 1) x.2) || noRs sk.n x.1.vs) = true) (hran : (is[fr]?.map (·.ran)).getD false = true)
  (hrd : readsOK P call sts is (winsF ops fr (rank (effsOf ops) fr)) = true) (E : CE) (g : CG) (a : Act) (w : World) (Q : Exit → Act → World → Prop) (id : Nat) (hf : CFI E g m nt env a w)
  (hQ : ∀ g' a' w', CG.le g g' → CFI E g' m' nt env' a' w' → Q .normal a' w') : (Code.region id ops true).wp P Q a w := by
 obtain ⟨is', ms', his, hsts, hgo⟩ := drawGo_spec h
 simp only [List.reverse_nil, List.nil_append, List.reverse_cons] at his hsts
 subst his
 obtain ⟨h1, h2, h3, h4⟩ := hgo.facts [] [m] env.get (by simp [envA]) (by simp [cntA]) (by simp [cntA])
 simp only [List.nil_append, List.length_nil, Nat.zero_add] at h2 h3 h4
 rw [← hsts] at h3 h4
 have hsz : (is.map itOf).length = ops.size := by simp [h1]
 have hef : (is.map itOf).map (·.2.2) = effsOf ops := by
  unfold effsOf
  apply List.ext_getElem?
  intro k
  rw [List.getElem?_map (f := fun x : It => x.2.2), List.getElem?_map (f := fun o : Oper => isEff o.op)]
  cases hk : ops.toList[k]? with
  | none =>
   have : (is.map itOf)[k]? = none := by
    rw [List.getElem?_eq_none_iff] at hk ⊢
    simp only [Array.length_toList] at hk; omega
   rw [this]; rfl
  | some o =>
   obtain ⟨x, _, hx2⟩ := h4 k o hk
   rw [hx2.1]; rfl
 -- the free operation
 unfold freeOK at hfree
 simp only [Bool.and_eq_true, decide_eq_true_eq] at hfree
 obtain ⟨⟨⟨hreg, hfr⟩, hal⟩, hafter⟩ := hfree
 have hofr : ops[fr]? = some ops[fr] := by simp [hfr]
 generalize hofe : ops[fr] = ofr at hofr
 obtain ⟨e, hoal⟩ : ∃ e, ofr.op = .alloc e := by
  rw [hofr] at hal
  simp only [Option.map_some] at hal
  split at hal
  ·rename_i e he; exact ⟨e, by simpa using he⟩
  ·simp at hal
 have heffr : isEff ofr.op = true := by rw [hoal]; rfl
 obtain ⟨xf, hxf, hitf, hxfo, htf, hcf⟩ := h4 fr ofr (by rw [Array.getElem?_toList]; exact hofr)
 have hwantf : wantF (envA ((is.map itOf).take fr) env.get) ops ofr = some true ∧ ∀ s, sts[cntA ((is.map itOf).take fr)]? = some s → ∃ s', sts[cntA ((is.map itOf).take fr) + 1]? = some s' ∧ evalOp P call ofr (evFs (envA ((is.map itOf).take fr) env.get) ofr) s = some (xf.d, s') := by
  rcases hcf with ⟨c1, c2, c3⟩ | ⟨c1, c2, _⟩ | ⟨c1, c2, _, c3⟩
  ·exfalso
   rw [hxf] at hran
   simp only [Option.map_some, Option.getD_some] at hran
   rw [c2.2] at hran; simp at hran
  ·rw [heffr] at c2; simp at c2
  ·exact ⟨c1, c3⟩
 have hk : rank (effsOf ops) fr = cntA ((is.map itOf).take fr) := by rw [← hef, rank_eq, cntT_eq]
 rw [hk] at hd hn hrd
 obtain ⟨k, hkk⟩ : ∃ k, k = cntA ((is.map itOf).take fr) := ⟨_, rfl⟩
 rw [← hkk] at hd hn hrd
 obtain ⟨hkl, hdrop⟩ := dropT_eq _ _ hd
 have hsk : sts[k]? = some sk := by
  have : (sts.drop k)[0]? = some sk := by rw [← hdrop]; rfl
  rw [List.getElem?_drop] at this; simpa using this
 have hklt : k < sts.length := (List.getElem?_eq_some_iff.1 hsk).1
 obtain ⟨hw1, hw2⟩ := hwantf
 rw [← hkk] at hw2
 obtain ⟨sk1, hsk1, hopf⟩ := hw2 sk hsk
 obtain ⟨z, hz, hdz, hs1⟩ : ∃ z, zeroC P e = some z ∧ xf.d = .ptr sk.n 0 ∧ sk1 = sk.new z.length z := by
  have hev : evFs (envA ((is.map itOf).take fr) env.get) ofr = [] := by
   unfold evFs; rw [Op.opers_eq, hoal]; rfl
  rw [hev] at hopf
  unfold evalOp at hopf
  rw [hoal] at hopf
  dsimp only at hopf
  split at hopf
  ·rename_i z hz
   rw [frcNat_eq, CMem.newK_eq] at hopf
   simp only [Option.some.injEq, Prod.mk.injEq] at hopf
   exact ⟨z, hz, hopf.1.symm, hopf.2.symm⟩
  ·simp at hopf
 have hz1 : ∀ c ∈ z, c.one = true := by
  obtain ⟨i, zv, _, _, hcv⟩ := zeroC_parts hz
  exact (constCs_rep (fun _ => none) hcv).2
 -- the two chains
 obtain ⟨C, hC⟩ : ∃ C : CMem → XS, C = fun s => fun g w => CW E g s w := ⟨_, rfl⟩
 obtain ⟨F, hF⟩ : ∃ F, F = (sts.take (k + 1)).map C := ⟨_, rfl⟩
 obtain ⟨G, hG⟩ : ∃ G, G = (sts.take k).map (fun s => Pend E s sk.n z) ++ (sts.drop (k + 1)).map C := ⟨_, rfl⟩
 have fF : ∀ c X, F[c]? = some X → c ≤ k ∧ ∃ s, sts[c]? = some s ∧ X = C s := by
  intro c X hc
  rw [hF, List.getElem?_map] at hc
  simp only [Option.map_eq_some_iff] at hc
  obtain ⟨s, hs, rfl⟩ := hc
  rw [List.getElem?_take] at hs
  split at hs
  ·exact ⟨by omega, s, hs, rfl⟩
  ·simp at hs
 have tF : ∀ c s, sts[c]? = some s → c ≤ k → F[c]? = some (C s) := by
  intro c s hs hc
  rw [hF, List.getElem?_map, List.getElem?_take, if_pos (by omega), hs]; rfl
 have hGl : ((sts.take k).map (fun s => Pend E s sk.n z)).length = k := by simp; omega
 have fG : ∀ c X, G[c]? = some X → (c < k ∧ ∃ s, sts[c]? = some s ∧ X = Pend E s sk.n z) ∨ (k ≤ c ∧ ∃ s, sts[c + 1]? = some s ∧ X = C s) := by
  intro c X hc
  rw [hG] at hc
  by_cases hlt : c < k
  ·rw [List.getElem?_append_left (by omega), List.getElem?_map] at hc
   simp only [Option.map_eq_some_iff] at hc
   obtain ⟨s, hs, rfl⟩ := hc
   rw [List.getElem?_take, if_pos hlt] at hs
   exact .inl ⟨hlt, s, hs, rfl⟩
  ·rw [List.getElem?_append_right (by omega), hGl, List.getElem?_map] at hc
   simp only [Option.map_eq_some_iff] at hc
   obtain ⟨s, hs, rfl⟩ := hc
   rw [List.getElem?_drop, show k + 1 + (c - k) = c + 1 by omega] at hs
   exact .inr ⟨by omega, s, hs, rfl⟩
 have tG1 : ∀ c s, sts[c]? = some s → c < k → G[c]? = some (Pend E s sk.n z) := by
  intro c s hs hc
  rw [hG, List.getElem?_append_left (by omega), List.getElem?_map, List.getElem?_take, if_pos hc, hs]; rfl
 have tG2 : ∀ c s, sts[c + 1]? = some s → k ≤ c → G[c]? = some (C s) := by
  intro c s hs hc
  rw [hG, List.getElem?_append_right (by omega), hGl, List.getElem?_map, List.getElem?_drop, show k + 1 + (c - k) = c + 1 by omega, hs]; rfl
 have hnle : ∀ c s, sts[c]? = some s → c ≤ k → s.n ≤ sk.n := by
  intro c s hs hc
  rcases Nat.lt_or_ge c k with h | h
  ·refine Nat.le_of_ble_eq_true (List.all_eq_true.1 hn s ?_)
   exact List.mem_of_getElem? (i := c) (by rw [List.getElem?_take, if_pos h]; exact hs)
  ·obtain rfl : c = k := by omega
   rw [hsk] at hs; simp at hs; subst hs; exact Nat.le_refl _
 obtain ⟨items, hitems⟩ : ∃ items, items = is.map itOf := ⟨_, rfl⟩
 rw [← hitems] at hsz hef h2 h3 h4 hitf hw1 hkk
 obtain ⟨items', hitems'⟩ : ∃ items', items' = items.set fr (ofr.dst, xf.d, false) := ⟨_, rfl⟩
 have hsz' : items'.length = ops.size := by rw [hitems']; simp [hsz]
 have hcnt : ∀ i, cntA (items'.take i) + (if fr < i then 1 else 0) = cntA (items.take i) := fun i => by rw [hitems']; exact cnt_unset hitf heffr i
 have henv : ∀ i, envA (items'.take i) env.get = envA (items.take i) env.get := fun i => by rw [hitems']; exact envA_unset hitf i env.get
 have hef' : items'.map (·.2.2) = effsF ops fr := by rw [hitems', List.map_set, hef]; rfl
 have hmono : ∀ i j, i ≤ j → cntA (items.take i) ≤ cntA (items.take j) := fun i j hij => by
  unfold cntA
  exact List.Sublist.length_le ((List.take_sublist_take_left hij).filter _)
 have hsucc : ∀ i o, ops[i]? = some o → isEff o.op = true → ∀ j, i < j → cntA (items.take i) + 1 ≤ cntA (items.take j) := by
  intro i o ho he j hij
  obtain ⟨x, _, hit, _⟩ := h4 i o (by rw [Array.getElem?_toList]; exact ho)
  have hl1 : i < items.length := (List.getElem?_eq_some_iff.1 hit).1
  have : items.take (i + 1) = items.take i ++ [(o.dst, x.d, isEff o.op)] := by
   rw [List.take_add_one, hit]; rfl
  have h5 : cntA (items.take (i + 1)) = cntA (items.take i) + 1 := by rw [this, cntA_snoc, he]; rfl
  have := hmono (i + 1) j hij
  omega
 have hneed : ∀ i o, ops[i]? = some o → isEff o.op = true → fr < i → needs ops i fr = true := by
  intro i o ho he hlt
  have hi' : i < ops.size := (Array.getElem?_eq_some_iff.1 ho).1
  have := List.all_eq_true.1 hafter i (by simpa using hi')
  have hee : (effsOf ops).getD i false = true := by
   unfold effsOf
   rw [List.getD_eq_getElem?_getD, List.getElem?_map, Array.getElem?_toList, ho]; simpa using he
  simp only [hee, Bool.not_true, Bool.or_false, Bool.or_eq_true, decide_eq_true_eq] at this
  rcases this with h | h
  ·omega
  ·exact h
 have hnoR : ∀ i x, is[i]? = some x → x.ran = true → i ≠ fr → (isEff x.o.op = false ∨ i < fr) → noRs sk.n x.vs = true := by
  intro i x hx hr hne hc
  have := List.all_eq_true.1 hno (x, i) (by
   rw [List.mem_iff_getElem?]
   exact ⟨i, by simp [hx]⟩)
  simp only [hr, Bool.not_true, Bool.false_or, Bool.or_eq_true, Bool.and_eq_true] at this
  rcases this with (h | h) | h
  ·exact absurd (Nat.eq_of_beq_eq_true h) hne
  ·have := Nat.le_of_ble_eq_true h.2
   rcases hc with hc | hc
   ·rw [hc] at h; simp at h
   ·omega
  ·exact h
 have bindC : ∀ gp w, Pend E sk sk.n z gp w → C sk1 gp w := fun gp w hp => by rw [hC, hs1]; exact hp.bind rfl hz1
 refine wp_region_any hm ?_
 have hfw : CFX (C m) g nt env.get a { w with drawn := w.drawn + 1 } := ⟨by rw [hC]; exact hf.wi.drew, hf.env, hf.size, hf.defers⟩
 have hst0 : sts[0]? = some m := by rw [hsts]; rfl
 have hlast : sts[cntA items]? = some m' := by
  rw [List.getLast?_eq_getElem?] at hl
  rw [← hl]; congr 1; omega
 have hcntfull : cntA items' + 1 = cntA items := by
  have := hcnt ops.size
  rw [if_pos hfr, List.take_of_length_le (by omega), List.take_of_length_le (by omega)] at this
  exact this
 have hkfull : k + 1 ≤ cntA items := by
  have h5 := hsucc fr ofr hofr heffr ops.size hfr
  have h6 : items.take ops.size = items := List.take_of_length_le (by omega)
  rw [h6] at h5
  rw [hkk]; exact h5
 refine draw_okX (items := items') (sts := fun b => if b then G else F) (fr := fr) (by rw [hef']; exact hreg) hsz' (fun hge => by omega) (fun i o ho => ?_) (X1 := C m') ?_ (fun g' a' w' hg' hf' => ?_) (X0 := C m) (by simpa using tF 0 m hst0 (by omega)) hfw
 ·have hi' : i < ops.size := (Array.getElem?_eq_some_iff.1 ho).1
  obtain ⟨x, hx, hit, hxo, ht, hc⟩ := h4 i o (by rw [Array.getElem?_toList]; exact ho)
  unfold FactX
  simp only [envT_eq, cntT_eq, henv]
  by_cases hifr : i = fr
  ·-- the free one
   subst hifr
   rw [hofr] at ho; simp at ho; subst ho
   rw [hxf] at hx; simp at hx; subst hx
   refine ⟨xf.d, false, by rw [hitems']; simp [hsz, hfr], ht, .inr (.inr (.inr ⟨hw1, rfl, rfl, fun c X hX => ?_⟩))⟩
   simp only [Bool.false_eq_true, if_false] at hX
   obtain ⟨hck, s, hs, rfl⟩ := fF c X hX
   rw [hdz, hC]
   rcases Nat.lt_or_ge c k with h | h
   ·exact ⟨_, tG1 c s hs h, Pend.alloc hoal hz (hnle c s hs hck)⟩
   ·obtain rfl : c = k := by omega
    rw [hsk] at hs; simp at hs; subst hs
    refine ⟨_, tG2 c sk1 hsk1 (Nat.le_refl _), ?_⟩
    have := (Pend.alloc (E := E) (vs := evFs (envA (items.take i) env.get) ofr) hoal hz (hnle c sk hsk hck)).post bindC
    exact this
  ·have hit' : items'[i]? = some (o.dst, x.d, isEff o.op) := by rw [hitems', List.getElem?_set_ne (fun e => hifr e.symm)]; exact hit
   refine ⟨x.d, isEff o.op, hit', ht, ?_⟩
   have hci := hcnt i
   rcases hc with ⟨c1, c2, c3⟩ | ⟨c1, c2, c3, c4, s0, m1, c5⟩ | ⟨c1, c2, hran', c3⟩
   ·refine .inl ⟨c1, c2.1, hifr, fun he bb X hX hnd => ?_⟩
    rcases Nat.lt_or_ge fr i with hlt | hge
    ·-- behind it
     have hnn := hneed i o ho he hlt
     cases bb with
     | false => have := hnd rfl; rw [hnn] at this; simp at this
     | true =>
      simp only [if_true] at hX ⊢
      rw [if_pos hlt] at hci
      have hkc : k ≤ cntA (items'.take i) := by have := hsucc fr ofr hofr heffr i hlt; omega
      rcases fG _ X hX with ⟨h5, _⟩ | ⟨_, s, hs, rfl⟩
      ·omega
      ·rw [hci] at hs
       have hs' := c3 he s hs
       exact ⟨C s, tG2 _ s (by rw [hci]; exact hs') (by omega), fun g w h => h⟩
    ·rw [if_neg (by omega), Nat.add_zero] at hci
     rw [hci] at hX ⊢
     have hkc : cntA (items.take i) + 1 ≤ k := by have := hsucc i o ho he fr (by omega); omega
     cases bb with
     | false =>
      simp only [Bool.false_eq_true, if_false] at hX ⊢
      obtain ⟨_, s, hs, rfl⟩ := fF _ X hX
      exact ⟨C s, tF _ s (c3 he s hs) hkc, fun g w h => h⟩
     | true =>
      simp only [if_true] at hX ⊢
      rcases fG _ X hX with ⟨_, s, hs, rfl⟩ | ⟨h5, _⟩
      ·have hs' := c3 he s hs
       rcases Nat.lt_or_ge (cntA (items.take i) + 1) k with h6 | h6
       ·exact ⟨_, tG1 _ s hs' h6, fun g w h => h⟩
       ·have h7 : cntA (items.take i) + 1 = k := by omega
        rw [h7] at hs' ⊢
        rw [hsk] at hs'; simp at hs'; subst hs'
        exact ⟨_, tG2 k sk1 hsk1 (Nat.le_refl _), bindC⟩
      ·omega
   ·-- quiet
    refine .inr (.inl ⟨c1, c2, hifr, fun bb c X hX hnd hlo hhi => ?_⟩)
    rw [hef'] at hlo hhi
    have hnr : noRs sk.n (evFs (envA (items.take i) env.get) o) = true := by
     have := hnoR i x hx c3 hifr (.inl (by rw [hxo]; exact c2))
     rw [c4] at this; exact this
    have hat : ∀ j s, sts[j]? = some s → (if lowOf (befGo [] ops.toList) (effsF ops fr) i ≤ k then lowOf (befGo [] ops.toList) (effsF ops fr) i else lowOf (befGo [] ops.toList) (effsF ops fr) i + 1) ≤ j → j ≤ (if highOf (befGo [] ops.toList) (effsF ops fr) i < k then highOf (befGo [] ops.toList) (effsF ops fr) i else highOf (befGo [] ops.toList) (effsF ops fr) i + 1) → COp P o (evFs (envA (items.take i) env.get) o) s x.d s := by
     intro j s hs h5 h6
     have hev : evalOp P call o (evFs (envA (items.take i) env.get) o) s = some (x.d, s) := by
      cases hr : isRead o.op with
      | false => exact pure_any c2 hr c5 s
      | true =>
       obtain ⟨d, m2, h7, h8⟩ := readsOK_spec hrd i x _ hx (by simp only [winsF]; rw [List.getElem?_map, List.getElem?_range hi']; rfl) c3 (by rw [hxo]; exact hr) j s h5 h6 hs
       rw [hxo, c4] at h7
       have := quiet_same c2 h7
       subst this
       rw [h7, eqV_eq _ _ h8]
     exact evalOp_sound hcall hev
    cases bb with
    | false =>
     simp only [Bool.false_eq_true, if_false] at hX
     obtain ⟨hck, s, hs, rfl⟩ := fF _ X hX
     rw [hC]
     refine (hat c s hs ?_ ?_).x
     ·split <;> omega
     ·split <;> omega
    | true =>
     simp only [if_true] at hX
     rcases fG _ X hX with ⟨h5, s, hs, rfl⟩ | ⟨h5, s, hs, rfl⟩
     ·refine Pend.step (hat c s hs ?_ ?_) hnr (hnle c s hs (by omega))
      ·split <;> omega
      ·split <;> omega
     ·rw [hC]
      refine (hat (c + 1) s hs ?_ ?_).x
      ·split <;> omega
      ·split <;> omega
   ·-- effects
    refine .inr (.inr (.inl ⟨c1, c2, hifr, fun bb X hX hnd => ?_⟩))
    rcases Nat.lt_or_ge fr i with hlt | hge
    ·have hnn := hneed i o ho c2 hlt
     cases bb with
     | false => have := hnd rfl; rw [hnn] at this; simp at this
     | true =>
      simp only [if_true] at hX ⊢
      rw [if_pos hlt] at hci
      have hkc : k ≤ cntA (items'.take i) := by have := hsucc fr ofr hofr heffr i hlt; omega
      rcases fG _ X hX with ⟨h5, _⟩ | ⟨_, s, hs, rfl⟩
      ·omega
      ·rw [hci] at hs
       obtain ⟨s', hs', hop⟩ := c3 s hs
       refine ⟨C s', tG2 _ s' (by rw [hci]; exact hs') (by omega), ?_⟩
       rw [hC]; exact (evalOp_sound hcall hop).x
    ·rw [if_neg (by omega), Nat.add_zero] at hci
     rw [hci] at hX ⊢
     have hkc : cntA (items.take i) + 1 ≤ k := by have := hsucc i o ho c2 fr (by omega); omega
     have hnr : noRs sk.n (evFs (envA (items.take i) env.get) o) = true := by
      have := hnoR i x hx hran'.1 hifr (.inr (by omega))
      rw [hran'.2] at this; exact this
     cases bb with
     | false =>
      simp only [Bool.false_eq_true, if_false] at hX ⊢
      obtain ⟨_, s, hs, rfl⟩ := fF _ X hX
      obtain ⟨s', hs', hop⟩ := c3 s hs
      refine ⟨C s', tF _ s' hs' hkc, ?_⟩
      rw [hC]; exact (evalOp_sound hcall hop).x
     | true =>
      simp only [if_true] at hX ⊢
      rcases fG _ X hX with ⟨_, s, hs, rfl⟩ | ⟨h5, _⟩
      ·obtain ⟨s', hs', hop⟩ := c3 s hs
       have hstep := Pend.step (E := E) (r := sk.n) (zc := z) (evalOp_sound hcall hop) hnr (hnle _ s' hs' hkc)
       rcases Nat.lt_or_ge (cntA (items.take i) + 1) k with h6 | h6
       ·exact ⟨_, tG1 _ s' hs' h6, hstep⟩
       ·have h7 : cntA (items.take i) + 1 = k := by omega
        rw [h7] at hs' ⊢
        rw [hsk] at hs'; simp at hs'; subst hs'
        exact ⟨_, tG2 k sk1 hsk1 (Nat.le_refl _), hstep.post bindC⟩
      ·omega
 ·simp only [hfr, decide_true, if_true]
  rw [cntT_eq, List.take_of_length_le (by omega)]
  exact tG2 _ m' (by rw [hcntfull]; exact hlast) (by omega)
 ·rw [envT_eq, henv, List.take_of_length_le (by omega), ← h2] at hf'
  refine hQ g' a' w' hg' ⟨?_, hf'.env, hf'.size, hf'.defers⟩
  have := hf'.wi
  rw [hC] at this; exact this
theorem drawOK (hm : P.follows .mixedOrders = true) (hcall : CallOK P call) : DrawOK P call := by
 intro nt ops env m env' m' h E g a w Q id hf hQ
 unfold evalDraw at h
 split at h
 ·split at h
  ·rename_i hreg
   split at h
   ·rename_i is sts env1 hgo
    split at h
    ·rename_i hrd
     split at h
     ·rename_i m1 hl
      simp only [Option.some.injEq, Prod.mk.injEq] at h
      obtain ⟨rfl, rfl⟩ := h
      exact draw1_sound hm hcall hreg hgo hrd hl E g a w Q id hf hQ
     ·simp at h
    ·simp at h
   ·simp at h
  ·simp at h
 ·rename_i fr hfr
  split at h
  ·rename_i hfree
   split at h
   ·rename_i is sts env1 hgo
    dsimp only at h
    split at h
    ·rename_i sk tl m1 hd hl
     split at h
     ·rename_i hcnd
      simp only [Option.some.injEq, Prod.mk.injEq] at h
      obtain ⟨rfl, rfl⟩ := h
      simp only [Bool.and_eq_true] at hcnd
      obtain ⟨⟨⟨q1, q2⟩, q3⟩, q4⟩ := hcnd
      exact draw2_sound hm hcall hfree hgo hd hl q1 q2 q3 q4 E g a w Q id hf hQ
     ·simp at h
    ·simp at h
   ·simp at h
  ·simp at h
theorem evalF_ok {P : Program} {tab : Tab} (htab : TabOK P tab) (hm : P.follows .mixedOrders = true) (n : Nat) : CallOK P (evalF P tab n) := evalF_sound htab (fun _ h => drawOK hm h) n
end
end Go.Ci

namespace Go.Ci
open Go.Dv (Callable)
noncomputable def roL (f : Dv.V → CMem → Option (CV × CMem)) : List Dv.V → CMem → Option (List CV × CMem)
 | [], m => some ([], m)
 | x :: xs, m => match f x m with
  | some (c, m) => match roL f xs m with
   | some (cs, m) => some (c :: cs, m)
   | none => none
  | none => none
noncomputable def roV : Nat → Dv.V → CMem → Option (CV × CMem)
 | 0, _, _ => none
 | n + 1, x, m => match x with
  | .int k a => some (.int k a, m)
  | .bool b => some (.bool b, m)
  | .str s => some (.str (s.map UInt8.toNat), m)
  | .nils => some (.nils, m)
  | .nilp => some (.nilp, m)
  | .nilfn => some (.nilfn, m)
  | .agg cs => match roL (roV n) cs m with
   | some (ds, m) => some (.agg ds, m)
   | none => none
  | .list (y :: ys) =>
   if 0 < y.size ∧ (ys.all fun z => Nat.beq z.size y.size) = true then
    match roL (roV n) ((y :: ys).flatMap Dv.V.cellsV) m with
    | some (ds, m) => some (.sl m.n 0 (ys.length + 1) none y.size, ⟨m.n + 1, m.o.set m.n (some (.ro ds)), m.c⟩)
    | none => none
   else none
  | _ => none
section
variable {E : CE} {g : CG} {m m' : CMem} {w : World}
theorem CW.addRo (h : CW E g m w) {ds : List CV} {us : List Value} {b γ κ : Nat} (hro : E.ro b) (hr : reps g ds us) (h1 : ∀ c ∈ ds, c.one = true) (hc : ∀ j u, us[j]? = some u → E.w.cell? ⟨b, γ + j, none⟩ = some u) :
  CW E (g.put m.n (b, γ, κ)) ⟨m.n + 1, m.o.set m.n (some (.ro ds)), m.c⟩ w := by
 have hle : CG.le g (g.put m.n (b, γ, κ)) := CG.le_put h.new_none _
 have hget : ∀ i, (m.o.set m.n (some (.ro ds))).get i = if i = m.n then some (.ro ds) else m.o.get i := fun i => T.get_set _ _ _ _
 have hgn : ∀ i, i ≠ m.n → (g.put m.n (b, γ, κ)) i = g i := fun i hi => CG.put_ne g hi _
 have hcell : ∀ i c st ln cs, (m.o.set m.n (some (.ro ds))).get i = some (.cells c st ln cs) → i ≠ m.n ∧ m.o.get i = some (.cells c st ln cs) := fun i c st ln cs hi => by
  rw [hget] at hi
  split at hi
  ·simp at hi
  ·rename_i e; exact ⟨e, hi⟩
 have hmap : ∀ i es, (m.o.set m.n (some (.ro ds))).get i = some (.map es) → i ≠ m.n ∧ m.o.get i = some (.map es) := fun i es hi => by
  rw [hget] at hi
  split at hi
  ·simp at hi
  ·rename_i e; exact ⟨e, hi⟩
 refine ⟨h.keep, h.prlt, h.size, h.os, h.tape, h.output, fun i x hx => ?_, fun i c st ln cs hi => ?_, fun i cs hi => ?_, fun i es hi => ?_, ?_, ?_, ?_, fun i c st ln cs hi => h.mem _ _ _ _ _ (hcell _ _ _ _ _ hi).2, fun i o hi => ?_, fun c js hc => Nat.lt_succ_of_lt (h.cls c js hc)⟩
 ·show i < m.n + 1
  by_cases e : i = m.n
  ·omega
  ·rw [hgn i e] at hx; exact Nat.lt_succ_of_lt (h.dom _ _ hx)
 ·obtain ⟨b, γ, κ, arr, e, us, h2, h3⟩ := h.obj _ _ _ _ _ (hcell _ _ _ _ _ hi).2
  exact ⟨b, γ, κ, arr, e, us, h2.mono hle rfl, h3⟩
 ·dsimp only at hi
  rw [hget] at hi
  split at hi
  ·rename_i e; subst e
   simp at hi; subst hi
   exact ⟨b, γ, κ, us, CG.put_self _ _ _, hro, reps.mono hle _ _ hr, h1, hc⟩
  ·obtain ⟨b, γ, κ, us, h2, h3, h4, h5⟩ := h.ro _ _ hi
   exact ⟨b, γ, κ, us, hle _ _ h2, h3, reps.mono hle _ _ h4, h5⟩
 ·obtain ⟨b, γ, κ, l, cl, h2, h3, h4, h5⟩ := h.map _ _ (hmap _ _ hi).2
  exact ⟨b, γ, κ, l, cl, hle _ _ h2, h3, repK.mono hle h4, h5⟩
 ·intro i j c st ln cs c' st' ln' cs' x y hi hj hx hy hne
  obtain ⟨e1, h2⟩ := hcell _ _ _ _ _ hi
  obtain ⟨e2, h3⟩ := hcell _ _ _ _ _ hj
  rw [hgn i e1] at hx; rw [hgn j e2] at hy
  exact h.sep _ _ _ _ _ _ _ _ _ _ _ _ h2 h3 hx hy hne
 ·intro i j es es' x y hi hj hx hy hne
  obtain ⟨e1, h2⟩ := hmap _ _ hi
  obtain ⟨e2, h3⟩ := hmap _ _ hj
  rw [hgn i e1] at hx; rw [hgn j e2] at hy
  exact h.sepM _ _ _ _ _ _ h2 h3 hx hy hne
 ·intro i j c st ln cs st' ln' cs' x y hi hj hx hy hb
  obtain ⟨e1, h2⟩ := hcell _ _ _ _ _ hi
  obtain ⟨e2, h3⟩ := hcell _ _ _ _ _ hj
  rw [hgn i e1] at hx; rw [hgn j e2] at hy
  exact h.align _ _ _ _ _ _ _ _ _ _ _ h2 h3 hx hy hb
 ·dsimp only at hi ⊢
  rw [hget] at hi
  split at hi
  ·omega
  ·exact Nat.lt_succ_of_lt (h.alive _ _ hi)
theorem repC_cells {M : Dv.Mem} {x : Dv.V} {us : List Value} (h : Dv.repC M x us) : Dv.repA M x.cellsV us := by
 cases hx : x.isAgg with
 | true =>
  cases x with
  | agg cs => simpa only [Dv.V.cellsV, Dv.repC] using h
  | _ => simp [Dv.V.isAgg] at hx
 | false =>
  have e : x.cellsV = [x] := by cases x <;> simp_all [Dv.V.cellsV, Dv.V.isAgg]
  obtain ⟨u, rfl, _, _⟩ := Dv.repC_one hx h
  rw [e]
  simp only [Dv.repA]
  exact ⟨u, [], rfl, hx, h, rfl⟩
theorem repE_flat {M : Dv.Mem} {sz : Nat} : ∀ {xs : List Dv.V} {us : List Value}, Dv.repE M sz xs us → Dv.repA M (xs.flatMap Dv.V.cellsV) us
 | [], us, h => by simpa [Dv.repE, Dv.repA] using h
 | x :: xs, us, h => by
  simp only [Dv.repE] at h
  obtain ⟨u1, u2, rfl, _, h1, h2⟩ := h
  rw [List.flatMap_cons]
  exact Dv.repA_append (repC_cells h1) (repE_flat h2)
def RoOK (E : CE) (M : Dv.Mem) : Prop := ∀ b o v, M b o = some v → E.ro b ∧ E.w.cell? ⟨b, o, none⟩ = some v
theorem bytes_back (s : List UInt8) : (∀ b ∈ s.map UInt8.toNat, b < 256) ∧ (s.map UInt8.toNat).map UInt8.ofNat = s := by
 refine ⟨fun b hb => ?_, ?_⟩
 ·obtain ⟨x, _, rfl⟩ := List.mem_map.1 hb; exact x.toNat_lt
 ·rw [List.map_map]
  conv => rhs; rw [← List.map_id s]
  exact List.map_congr_left fun x _ => by simp
theorem roL_ok {M : Dv.Mem} {f : Dv.V → CMem → Option (CV × CMem)} (hf : ∀ x m c m' u g, f x m = some (c, m') → Dv.repV M x u → CW E g m w → ∃ g', CG.le g g' ∧ CW E g' m' w ∧ rep g' c u ∧ (x.isAgg = false → c.one = true)) :
  ∀ {xs : List Dv.V} {m m' : CMem} {cs : List CV} {us : List Value} {g : CG}, roL f xs m = some (cs, m') → Dv.repA M xs us → CW E g m w → ∃ g', CG.le g g' ∧ CW E g' m' w ∧ reps g' cs us ∧ ∀ c ∈ cs, c.one = true
 | [], m, m', cs, us, g, h, hr, hw => by
  simp only [roL, Option.some.injEq, Prod.mk.injEq] at h
  obtain ⟨rfl, rfl⟩ := h
  exact ⟨g, CG.le_refl g, hw, by simpa [Dv.repA, reps] using hr, by simp⟩
 | x :: xs, m, m', cs, us, g, h, hr, hw => by
  simp only [roL] at h
  split at h
  ·rename_i c m1 hx
   split at h
   ·rename_i cs' m2 hxs
    simp only [Option.some.injEq, Prod.mk.injEq] at h
    obtain ⟨rfl, rfl⟩ := h
    simp only [Dv.repA] at hr
    obtain ⟨u, us', rfl, ha, h1, h2⟩ := hr
    obtain ⟨g1, hg1, hw1, hr1, ho1⟩ := hf x m c m1 u g hx ((Dv.repV_one ha).2 h1) hw
    obtain ⟨g2, hg2, hw2, hr2, ho2⟩ := roL_ok hf hxs h2 hw1
    refine ⟨g2, CG.le_trans hg1 hg2, hw2, by simp only [reps]; exact ⟨u, us', rfl, rep.mono hg2 _ _ hr1, hr2⟩, fun c' hc => ?_⟩
    rcases List.mem_cons.1 hc with rfl | hc
    ·exact ho1 ha
    ·exact ho2 c' hc
   ·simp at h
  ·simp at h
theorem roV_ok {M : Dv.Mem} (hM : RoOK E M) : ∀ (n : Nat) (x : Dv.V) (m : CMem) (c : CV) (m' : CMem) (u : Value) (g : CG), roV n x m = some (c, m') → Dv.repV M x u → CW E g m w → ∃ g', CG.le g g' ∧ CW E g' m' w ∧ rep g' c u ∧ (x.isAgg = false → c.one = true)
 | 0, x, m, c, m', u, g, h, _, _ => by simp [roV] at h
 | n + 1, x, m, c, m', u, g, h, hr, hw => by
  simp only [roV] at h
  split at h
  ·simp only [Option.some.injEq, Prod.mk.injEq] at h; obtain ⟨rfl, rfl⟩ := h
   exact ⟨g, CG.le_refl g, hw, by simpa [rep] using hr, fun _ => rfl⟩
  ·simp only [Option.some.injEq, Prod.mk.injEq] at h; obtain ⟨rfl, rfl⟩ := h
   exact ⟨g, CG.le_refl g, hw, by simpa [rep] using hr, fun _ => rfl⟩
  ·rename_i s
   simp only [Option.some.injEq, Prod.mk.injEq] at h; obtain ⟨rfl, rfl⟩ := h
   rw [Dv.repV_str] at hr
   refine ⟨g, CG.le_refl g, hw, ?_, fun _ => rfl⟩
   simp only [rep]
   exact ⟨(bytes_back s).1, by rw [(bytes_back s).2]; exact hr⟩
  ·simp only [Option.some.injEq, Prod.mk.injEq] at h; obtain ⟨rfl, rfl⟩ := h
   exact ⟨g, CG.le_refl g, hw, by simpa [rep] using hr, fun _ => rfl⟩
  ·simp only [Option.some.injEq, Prod.mk.injEq] at h; obtain ⟨rfl, rfl⟩ := h
   exact ⟨g, CG.le_refl g, hw, by simpa [rep] using hr, fun _ => rfl⟩
  ·simp only [Option.some.injEq, Prod.mk.injEq] at h; obtain ⟨rfl, rfl⟩ := h
   exact ⟨g, CG.le_refl g, hw, by simpa [rep] using hr, fun _ => rfl⟩
  ·split at h
   ·rename_i ds m1 hl
    simp only [Option.some.injEq, Prod.mk.injEq] at h; obtain ⟨rfl, rfl⟩ := h
    rw [Dv.repV_agg] at hr
    obtain ⟨us, hA, rfl⟩ := hr
    obtain ⟨g1, hg1, hw1, hr1, ho1⟩ := roL_ok (fun x m c m' u g => roV_ok hM n x m c m' u g) hl hA hw
    exact ⟨g1, hg1, hw1, by simp only [rep]; exact ⟨us, rfl, hr1, ho1⟩, fun h => by simp [Dv.V.isAgg] at h⟩
   ·simp at h
  ·rename_i y ys
   split at h
   ·rename_i hcnd
    split at h
    ·rename_i ds m1 hl
     simp only [Option.some.injEq, Prod.mk.injEq] at h; obtain ⟨rfl, rfl⟩ := h
     have hsz : ∀ z ∈ y :: ys, z.size = y.size := fun z hz => by
      rcases List.mem_cons.1 hz with rfl | hz
      ·rfl
      ·exact Nat.eq_of_beq_eq_true (List.all_eq_true.1 hcnd.2 z hz)
     obtain ⟨a, cap, rfl, hc, hor⟩ := Dv.repV_list_cells hr hsz hcnd.1
     rcases hor with h | ⟨b, off, us, rfl, hin, hE⟩
     ·simp at h
     obtain ⟨g1, hg1, hw1, hr1, ho1⟩ := roL_ok (fun x m c m' u g => roV_ok hM n x m c m' u g) hl (repE_flat hE) hw
     have hul := Dv.repE_length hE
     have hpos : 0 < us.length := by rw [hul]; exact Nat.mul_pos (by simp) hcnd.1
     have hro : E.ro b := (hM _ _ _ (hin 0 us[0] (by simp))).1
     have hadd := hw1.addRo (κ := cap * y.size) hro hr1 ho1 (fun j u hj => (hM _ _ _ (hin j u hj)).2)
     refine ⟨_, CG.le_trans hg1 (CG.le_put hw1.new_none _), hadd, ?_, fun _ => rfl⟩
     exact rep_sl (CG.put_self _ _ _) (.inl rfl) (by simpa using hc) (by omega) (.inr rfl)
    ·simp at h
   ·simp at h
  ·simp at h
end
noncomputable def m00 : CMem := ⟨0, .leaf, .leaf⟩
theorem CW.start (w : World) : CW ⟨w, fun b => b < w.heap.size, fun b => b < w.heap.size, fun _ h => h⟩ (fun _ => none) m00 w where
 keep := fun _ _ => rfl
 prlt := fun _ h => h
 size := Nat.le_refl _
 os := rfl
 tape := rfl
 output := rfl
 dom := fun i x hx => by simp at hx
 obj := fun i c st ln cs h => by simp [m00, T.get_leaf] at h
 ro := fun i cs h => by simp [m00, T.get_leaf] at h
 map := fun i es h => by simp [m00, T.get_leaf] at h
 sep := fun i j c st ln cs c' st' ln' cs' x y h => by simp [m00, T.get_leaf] at h
 sepM := fun i j es es' x y h => by simp [m00, T.get_leaf] at h
 align := fun i j c st ln cs st' ln' cs' x y h => by simp [m00, T.get_leaf] at h
 mem := fun i c st ln cs h => by simp [m00, T.get_leaf] at h
 alive := fun i o h => by simp [m00, T.get_leaf] at h
 cls := fun c js h => by simp [m00, T.get_leaf] at h
def flatC : CV → Bool
 | .int .. | .bool _ | .str _ | .nilp | .nils | .nilfn => true
 | _ => false
theorem flat_rep {g : CG} {d : CV} {u : Value} (hf : flatC d = true) (h : rep g d u) : rep (fun _ => none) d u := by
 cases d <;> simp [flatC] at hf <;> simpa only [rep] using h
noncomputable def runD (P : Program) (tab : Tab) (n : Nat) (f : FuncId) (xs : List Dv.V) : Option CV :=
 match roL (roV 40) xs m00 with
 | some (cs, m) => match evalF P tab n f cs m with
  | some (d, _) => if flatC d then some d else none
  | none => none
 | none => none
theorem roL_args {M : Dv.Mem} {E : CE} {w : World} (hM : RoOK E M) {G : Dv.Gh} (hG : G.M = M) : ∀ {xs : List Dv.V} {m m' : CMem} {cs : List CV} {us : List Value} {g : CG}, roL (roV 40) xs m = some (cs, m') → Dv.repDs G (xs.map .v) us → CW E g m w → ∃ g', CG.le g g' ∧ CW E g' m' w ∧ reps g' cs us
 | [], m, m', cs, us, g, h, hr, hw => by
  simp only [roL, Option.some.injEq, Prod.mk.injEq] at h
  obtain ⟨rfl, rfl⟩ := h
  exact ⟨g, CG.le_refl g, hw, by simpa [Dv.repDs, reps] using hr⟩
 | x :: xs, m, m', cs, us, g, h, hr, hw => by
  simp only [roL] at h
  split at h
  ·rename_i c m1 hx
   split at h
   ·rename_i cs' m2 hxs
    simp only [Option.some.injEq, Prod.mk.injEq] at h
    obtain ⟨rfl, rfl⟩ := h
    simp only [List.map_cons, Dv.repDs, Dv.repD] at hr
    obtain ⟨u, us', rfl, h1, h2⟩ := hr
    obtain ⟨g1, hg1, hw1, hr1, _⟩ := roV_ok hM 40 x m c m1 u g hx (by rw [← hG]; exact h1) hw
    obtain ⟨g2, hg2, hw2, hr2⟩ := roL_args hM hG hxs h2 hw1
    exact ⟨g2, CG.le_trans hg1 hg2, hw2, by simp only [reps]; exact ⟨u, us', rfl, rep.mono hg2 _ _ hr1, hr2⟩⟩
   ·simp at h
  ·simp at h
theorem runD_T {P : Program} {tab : Tab} (htab : TabOK P tab) (hm : P.follows .mixedOrders = true) {n : Nat} {f : FuncId} {xs : List Dv.V} {d : CV} (h : runD P tab n f xs = some d) : TSpec P f xs d := by
 unfold runD at h
 split at h
 ·rename_i cs m hl
  split at h
  ·rename_i d' m' he
   split at h
   ·rename_i hflat
    simp only [Option.some.injEq] at h; subst h
    obtain ⟨hc, hs⟩ := evalF_ok htab hm n f cs m d' m' he
    refine ⟨hc, fun w us hargs => ?_⟩
    have hM : RoOK ⟨w, fun b => b < w.heap.size, fun b => b < w.heap.size, fun _ h => h⟩ (memOf w) := fun b o v hv => ⟨World.block_lt_of_cell? w ⟨b, o, none⟩ hv, hv⟩
    obtain ⟨g1, _, hw1, hr1⟩ := roL_args hM rfl hl hargs (CW.start w)
    refine Calls.mono (hs _ g1 w us hw1 hr1) ?_
    rintro e w' ⟨u, g', rfl, hw', _, hr⟩
    exact ⟨u, rfl, flat_rep hflat hr, fun b hb => hw'.keep b hb, hw'.size, hw'.os, hw'.tape, hw'.output⟩
   ·simp at h
  ·simp at h
 ·simp at h
def toVC : CV → Option Dv.V
 | .int k n => some (.int k n)
 | .bool b => some (.bool b)
 | _ => none
theorem TSpec.f {P : Program} {f : FuncId} {xs : List Dv.V} {d : CV} {v : Dv.V} (h : TSpec P f xs d) (hv : toVC d = some v) : Dv.FSpec P f (xs.map .v) ⟨[], []⟩ (.v v) ⟨[], []⟩ := by
 refine ⟨h.1, fun g w args hw hargs => ?_⟩
 have hmono : Dv.repDs ⟨memOf w, fun _ => 0, 0, fun _ _ => none, fun _ => 0⟩ (xs.map .v) args := by
  have gen : ∀ (xs : List Dv.V) (us : List Value), Dv.repDs g (xs.map .v) us → Dv.repDs ⟨memOf w, fun _ => 0, 0, fun _ _ => none, fun _ => 0⟩ (xs.map .v) us := by
   intro xs
   induction xs with
   | nil => intro us h; simpa [Dv.repDs] using h
   | cons x xs ih =>
    intro us h
    simp only [List.map_cons, Dv.repDs, Dv.repD] at h ⊢
    obtain ⟨u, us', rfl, h1, h2⟩ := h
    exact ⟨u, us', rfl, h1.mono (fun b o v hv => hw.mem b o v hv), ih us' h2⟩
  exact gen xs args hargs
 refine Calls.mono (h.2 w args hmono) ?_
 rintro e w' ⟨u, rfl, hr, h1, h2, h3, h4, h5⟩
 refine ⟨u, g, rfl, ?_, ?_⟩
 ·have := (Dv.WI.start hw).grow (M' := g.M) (w' := w') (Dv.Mem.le_refl _) (fun b hb => ⟨h1 b hb, fun _ => rfl⟩) (fun b o v hv => by
   have hc := hw.mem b o v hv
   have hb := World.block_lt_of_cell? w ⟨b, o, none⟩ hc
   simpa only [World.cell?, h1 b hb] using hc) h2 h3 h4 h5
  exact this
 ·cases d <;> simp [toVC] at hv <;> subst hv <;> simpa [rep, Dv.repD] using hr
theorem tab0 (P : Program) : TabOK P (fun _ => none) := fun f F xs d h => by simp at h
mutual
def beqV : Dv.V → Dv.V → Bool
 | .int k a, .int k' b => decide (k = k') && decide (a = b)
 | .bool a, .bool b => a == b
 | .str a, .str b => a == b
 | .list a, .list b => beqL a b
 | .agg a, .agg b => beqL a b
 | .nils, .nils => true
 | .nilp, .nilp => true
 | .nilfn, .nilfn => true
 | _, _ => false
def beqL : List Dv.V → List Dv.V → Bool
 | [], [] => true
 | a :: as, b :: bs => beqV a b && beqL as bs
 | _, _ => false
end
mutual
theorem beqV_eq : ∀ (a b : Dv.V), beqV a b = true → a = b
 | .int k a, b, h => by cases b <;> simp [beqV] at h; obtain ⟨rfl, rfl⟩ := h; rfl
 | .bool a, b, h => by cases b <;> simp [beqV] at h; rw [h]
 | .str a, b, h => by cases b <;> simp [beqV] at h; rw [h]
 | .list a, b, h => by cases b <;> simp [beqV] at h; rw [beqL_eq _ _ h]
 | .agg a, b, h => by cases b <;> simp [beqV] at h; rw [beqL_eq _ _ h]
 | .nils, b, h => by cases b <;> simp [beqV] at h; rfl
 | .nilp, b, h => by cases b <;> simp [beqV] at h; rfl
 | .nilfn, b, h => by cases b <;> simp [beqV] at h; rfl
 | .ref _, b, h => by cases b <;> simp [beqV] at h
 | .fn .., b, h => by cases b <;> simp [beqV] at h
theorem beqL_eq : ∀ (a b : List Dv.V), beqL a b = true → a = b
 | [], [], _ => rfl
 | [], _ :: _, h => by simp [beqL] at h
 | _ :: _, [], h => by simp [beqL] at h
 | a :: as, b :: bs, h => by
  simp only [beqL, Bool.and_eq_true] at h
  rw [beqV_eq a b h.1, beqL_eq as bs h.2]
end
noncomputable def tabOf (l : List (FuncId × List Dv.V × CV)) : Tab := fun f => some fun xs => (l.find? fun e => Nat.beq e.1 f && beqL e.2.1 xs).map (·.2.2)
theorem tabOf_ok {P : Program} {l : List (FuncId × List Dv.V × CV)} (h : ∀ e ∈ l, TSpec P e.1 e.2.1 e.2.2) : TabOK P (tabOf l) := by
 intro f F xs d hF hd
 simp only [tabOf, Option.some.injEq] at hF
 subst hF
 simp only [Option.map_eq_some_iff] at hd
 obtain ⟨e, he, rfl⟩ := hd
 have h1 := List.find?_some he
 have h2 := List.mem_of_find?_eq_some he
 simp only [Bool.and_eq_true] at h1
 have h3 := Nat.eq_of_beq_eq_true h1.1
 have h4 := beqL_eq _ _ h1.2
 have := h e h2
 rw [h3, h4] at this
 exact this
end Go.Ci

namespace Go.Ci
theorem TSpec.f2 {P : Program} {f : FuncId} {xs : List Dv.V} {d1 d2 : CV} {v1 v2 : Dv.V} (h : TSpec P f xs (.tup [d1, d2])) (hv1 : toVC d1 = some v1) (hv2 : toVC d2 = some v2) : Dv.FSpec P f (xs.map .v) ⟨[], []⟩ (.tup [.v v1, .v v2]) ⟨[], []⟩ := by
 refine ⟨h.1, fun g w args hw hargs => ?_⟩
 have hmono : Dv.repDs ⟨memOf w, fun _ => 0, 0, fun _ _ => none, fun _ => 0⟩ (xs.map .v) args := by
  have gen : ∀ (xs : List Dv.V) (us : List Value), Dv.repDs g (xs.map .v) us → Dv.repDs ⟨memOf w, fun _ => 0, 0, fun _ _ => none, fun _ => 0⟩ (xs.map .v) us := by
   intro xs
   induction xs with
   | nil => intro us h; simpa [Dv.repDs] using h
   | cons x xs ih =>
    intro us h
    simp only [List.map_cons, Dv.repDs, Dv.repD] at h ⊢
    obtain ⟨u, us', rfl, h1, h2⟩ := h
    exact ⟨u, us', rfl, h1.mono (fun b o v hv => hw.mem b o v hv), ih us' h2⟩
  exact gen xs args hargs
 refine Calls.mono (h.2 w args hmono) ?_
 rintro e w' ⟨u, rfl, hr, h1, h2, h3, h4, h5⟩
 refine ⟨u, g, rfl, ?_, ?_⟩
 ·have := (Dv.WI.start hw).grow (M' := g.M) (w' := w') (Dv.Mem.le_refl _) (fun b hb => ⟨h1 b hb, fun _ => rfl⟩) (fun b o v hv => by
   have hc := hw.mem b o v hv
   have hb := World.block_lt_of_cell? w ⟨b, o, none⟩ hc
   simpa only [World.cell?, h1 b hb] using hc) h2 h3 h4 h5
  exact this
 ·simp only [rep, reps] at hr
  obtain ⟨us2, rfl, u1, r1, rfl, h1, u2, r2, rfl, h2, rfl⟩ := hr
  simp only [Dv.repD, Dv.repDs]
  refine ⟨_, rfl, u1, _, rfl, ?_, u2, _, rfl, ?_, rfl⟩
  ·cases d1 <;> simp [toVC] at hv1 <;> subst hv1 <;> simpa [rep, Dv.repD] using h1
  ·cases d2 <;> simp [toVC] at hv2 <;> subst hv2 <;> simpa [rep, Dv.repD] using h2
end Go.Ci

namespace Go.Ci
open Go.Dv (Callable)
inductive SV where
 | data (x : Dv.V)
 | sym (lo hi : Int)
 | agg (cs : List SV)
 | list (xs : List SV)
noncomputable def SV.size : SV → Nat
 | .data x => x.size
 | .agg cs => cs.length
 | _ => 1
noncomputable def SV.isAgg : SV → Bool
 | .data x => x.isAgg
 | .agg _ => true
 | _ => false
noncomputable def SV.cells : SV → List SV
 | .data x => x.cellsV.map .data
 | .agg cs => cs
 | p => [p]
mutual
inductive Fits : SV → Dv.V → Prop
 | data (x : Dv.V) : Fits (.data x) x
 | sym {lo hi n : Int} (h1 : lo ≤ n) (h2 : n ≤ hi) : Fits (.sym lo hi) (.int .i64 n)
 | agg {ps : List SV} {xs : List Dv.V} (h : FitsL ps xs) : Fits (.agg ps) (.agg xs)
 | list {ps : List SV} {xs : List Dv.V} (h : FitsL ps xs) : Fits (.list ps) (.list xs)
inductive FitsL : List SV → List Dv.V → Prop
 | nil : FitsL [] []
 | cons {p : SV} {x : Dv.V} {ps : List SV} {xs : List Dv.V} (h : Fits p x) (hs : FitsL ps xs) : FitsL (p :: ps) (x :: xs)
end
theorem FitsL.length : ∀ {ps : List SV} {xs : List Dv.V}, FitsL ps xs → xs.length = ps.length
 | _, _, .nil => rfl
 | _, _, .cons _ hs => by simp [hs.length]
theorem Fits.size {p : SV} {x : Dv.V} (h : Fits p x) : x.size = p.size := by
 cases h with
 | data => rfl
 | sym => rfl
 | agg h => simp [Dv.V.size, SV.size, h.length]
 | list h => rfl
theorem Fits.isAgg {p : SV} {x : Dv.V} (h : Fits p x) : x.isAgg = p.isAgg := by cases h <;> rfl
theorem FitsL.data : ∀ (xs : List Dv.V), FitsL (xs.map .data) xs
 | [] => .nil
 | x :: xs => .cons (.data x) (FitsL.data xs)
theorem FitsL.append : ∀ {ps ps' : List SV} {xs xs' : List Dv.V}, FitsL ps xs → FitsL ps' xs' → FitsL (ps ++ ps') (xs ++ xs')
 | _, _, _, _, .nil, h => h
 | _, _, _, _, .cons h hs, h' => .cons h (hs.append h')
theorem Fits.cells {p : SV} {x : Dv.V} (h : Fits p x) : FitsL p.cells x.cellsV := by
 cases h with
 | data => exact FitsL.data _
 | sym h1 h2 => exact .cons (.sym h1 h2) .nil
 | agg h => exact h
 | list h => exact .cons (.list h) .nil
theorem FitsL.flat : ∀ {ps : List SV} {xs : List Dv.V}, FitsL ps xs → FitsL (ps.flatMap SV.cells) (xs.flatMap Dv.V.cellsV)
 | _, _, .nil => .nil
 | _, _, .cons h hs => by rw [List.flatMap_cons, List.flatMap_cons]; exact h.cells.append hs.flat
theorem FitsL.mem : ∀ {ps : List SV} {xs : List Dv.V}, FitsL ps xs → ∀ x ∈ xs, ∃ p ∈ ps, Fits p x
 | _, _, .nil, x, hx => by simp at hx
 | _, _, .cons h hs, x, hx => by
  rcases List.mem_cons.1 hx with rfl | hx
  ·exact ⟨_, by simp, h⟩
  ·obtain ⟨p, hp, hf⟩ := hs.mem x hx
   exact ⟨p, by simp [hp], hf⟩
noncomputable def rsL (f : SV → CMem → Option (CV × CMem)) : List SV → CMem → Option (List CV × CMem)
 | [], m => some ([], m)
 | x :: xs, m => match f x m with
  | some (c, m) => match rsL f xs m with
   | some (cs, m) => some (c :: cs, m)
   | none => none
  | none => none
noncomputable def rsV : Nat → SV → CMem → Option (CV × CMem)
 | 0, _, _ => none
 | n + 1, p, m => match p with
  | .data x => roV 40 x m
  | .sym lo hi => some (.sym m.n lo hi, ⟨m.n + 1, m.o, m.c⟩)
  | .agg cs => match rsL (rsV n) cs m with
   | some (ds, m) => some (.agg ds, m)
   | none => none
  | .list (y :: ys) =>
   if 0 < y.size ∧ (ys.all fun z => Nat.beq z.size y.size) = true then
    match rsL (rsV n) ((y :: ys).flatMap SV.cells) m with
    | some (ds, m) => some (.sl m.n 0 (ys.length + 1) none y.size, ⟨m.n + 1, m.o.set m.n (some (.ro ds)), m.c⟩)
    | none => none
   else none
  | _ => none
section
variable {E : CE} {g : CG} {m m' : CMem} {w : World}
theorem CW.addSym (h : CW E g m w) (x : Nat × Nat × Nat) : CW E (g.put m.n x) ⟨m.n + 1, m.o, m.c⟩ w := by
 have hle : CG.le g (g.put m.n x) := CG.le_put h.new_none _
 have hgn : ∀ i, i ≠ m.n → (g.put m.n x) i = g i := fun i hi => CG.put_ne g hi _
 have hlt : ∀ i o, m.o.get i = some o → i ≠ m.n := fun i o hi => Nat.ne_of_lt (h.alive i o hi)
 refine ⟨h.keep, h.prlt, h.size, h.os, h.tape, h.output, fun i y hy => ?_, fun i c st ln cs hi => ?_, fun i cs hi => ?_, fun i es hi => ?_, ?_, ?_, ?_, fun i c st ln cs hi => h.mem _ _ _ _ _ hi, fun i o hi => Nat.lt_succ_of_lt (h.alive i o hi), fun c js hc => Nat.lt_succ_of_lt (h.cls c js hc)⟩
 ·show i < m.n + 1
  by_cases e : i = m.n
  ·omega
  ·rw [hgn i e] at hy; exact Nat.lt_succ_of_lt (h.dom _ _ hy)
 ·obtain ⟨b, γ, κ, arr, e, us, h2, h3⟩ := h.obj _ _ _ _ _ hi
  exact ⟨b, γ, κ, arr, e, us, h2.mono hle rfl, h3⟩
 ·obtain ⟨b, γ, κ, us, h2, h3, h4, h5⟩ := h.ro _ _ hi
  exact ⟨b, γ, κ, us, hle _ _ h2, h3, reps.mono hle _ _ h4, h5⟩
 ·obtain ⟨b, γ, κ, l, cl, h2, h3, h4, h5⟩ := h.map _ _ hi
  exact ⟨b, γ, κ, l, cl, hle _ _ h2, h3, repK.mono hle h4, h5⟩
 ·intro i j c st ln cs c' st' ln' cs' x y hi hj hx hy hne
  rw [hgn i (hlt _ _ hi)] at hx; rw [hgn j (hlt _ _ hj)] at hy
  exact h.sep _ _ _ _ _ _ _ _ _ _ _ _ hi hj hx hy hne
 ·intro i j es es' x y hi hj hx hy hne
  rw [hgn i (hlt _ _ hi)] at hx; rw [hgn j (hlt _ _ hj)] at hy
  exact h.sepM _ _ _ _ _ _ hi hj hx hy hne
 ·intro i j c st ln cs st' ln' cs' x y hi hj hx hy hb
  rw [hgn i (hlt _ _ hi)] at hx; rw [hgn j (hlt _ _ hj)] at hy
  exact h.align _ _ _ _ _ _ _ _ _ _ _ hi hj hx hy hb
theorem rsL_ok {M : Dv.Mem} {f : SV → CMem → Option (CV × CMem)} (hf : ∀ p x m c m' u g, f p m = some (c, m') → Fits p x → Dv.repV M x u → CW E g m w → ∃ g', CG.le g g' ∧ CW E g' m' w ∧ rep g' c u ∧ (x.isAgg = false → c.one = true)) :
  ∀ {ps : List SV} {xs : List Dv.V} {m m' : CMem} {cs : List CV} {us : List Value} {g : CG}, rsL f ps m = some (cs, m') → FitsL ps xs → Dv.repA M xs us → CW E g m w → ∃ g', CG.le g g' ∧ CW E g' m' w ∧ reps g' cs us ∧ ∀ c ∈ cs, c.one = true
 | _, _, m, m', cs, us, g, h, .nil, hr, hw => by
  simp only [rsL, Option.some.injEq, Prod.mk.injEq] at h
  obtain ⟨rfl, rfl⟩ := h
  exact ⟨g, CG.le_refl g, hw, by simpa [Dv.repA, reps] using hr, by simp⟩
 | _, _, m, m', cs, us, g, h, .cons hp hps, hr, hw => by
  simp only [rsL] at h
  split at h
  ·rename_i c m1 hx
   split at h
   ·rename_i cs' m2 hxs
    simp only [Option.some.injEq, Prod.mk.injEq] at h
    obtain ⟨rfl, rfl⟩ := h
    simp only [Dv.repA] at hr
    obtain ⟨u, us', rfl, ha, h1, h2⟩ := hr
    obtain ⟨g1, hg1, hw1, hr1, ho1⟩ := hf _ _ m c m1 u g hx hp ((Dv.repV_one ha).2 h1) hw
    obtain ⟨g2, hg2, hw2, hr2, ho2⟩ := rsL_ok hf hxs hps h2 hw1
    refine ⟨g2, CG.le_trans hg1 hg2, hw2, by simp only [reps]; exact ⟨u, us', rfl, rep.mono hg2 _ _ hr1, hr2⟩, fun c' hc => ?_⟩
    rcases List.mem_cons.1 hc with rfl | hc
    ·exact ho1 ha
    ·exact ho2 c' hc
   ·simp at h
  ·simp at h
theorem rsV_ok {M : Dv.Mem} (hM : RoOK E M) : ∀ (n : Nat) (p : SV) (x : Dv.V) (m : CMem) (c : CV) (m' : CMem) (u : Value) (g : CG), rsV n p m = some (c, m') → Fits p x → Dv.repV M x u → CW E g m w → ∃ g', CG.le g g' ∧ CW E g' m' w ∧ rep g' c u ∧ (x.isAgg = false → c.one = true)
 | 0, p, x, m, c, m', u, g, h, _, _, _ => by simp [rsV] at h
 | n + 1, p, x, m, c, m', u, g, h, hp, hr, hw => by
  simp only [rsV] at h
  cases hp with
  | data => exact roV_ok hM 40 x m c m' u g h hr hw
  | @sym lo hi z h1 h2 =>
   simp only [Option.some.injEq, Prod.mk.injEq] at h; obtain ⟨rfl, rfl⟩ := h
   rw [Dv.repV_int] at hr
   have e : ((z.toNat : Nat) : Int) - (((-z).toNat : Nat) : Int) = z := by omega
   refine ⟨_, CG.le_put hw.new_none (z.toNat, (-z).toNat, 0), hw.addSym _, ?_, fun _ => rfl⟩
   simp only [rep]
   exact ⟨z.toNat, (-z).toNat, 0, CG.put_self _ _ _, by omega, by omega, by rw [e]; exact hr⟩
  | @agg ps xs hps =>
   dsimp only at h
   split at h
   ·rename_i ds m1 hl
    simp only [Option.some.injEq, Prod.mk.injEq] at h; obtain ⟨rfl, rfl⟩ := h
    rw [Dv.repV_agg] at hr
    obtain ⟨us, hA, rfl⟩ := hr
    obtain ⟨g1, hg1, hw1, hr1, ho1⟩ := rsL_ok (fun p x m c m' u g => rsV_ok hM n p x m c m' u g) hl hps hA hw
    exact ⟨g1, hg1, hw1, by simp only [rep]; exact ⟨us, rfl, hr1, ho1⟩, fun h => by simp [Dv.V.isAgg] at h⟩
   ·simp at h
  | @list ps xs hps =>
   match ps, hps, h with
   | [], _, h => simp at h
   | y :: ys, hps, h =>
    dsimp only at h
    split at h
    ·rename_i hcnd
     split at h
     ·rename_i ds m1 hl
      simp only [Option.some.injEq, Prod.mk.injEq] at h; obtain ⟨rfl, rfl⟩ := h
      have hsz : ∀ z ∈ xs, z.size = y.size := fun z hz => by
       obtain ⟨p, hp, hf⟩ := hps.mem z hz
       rw [hf.size]
       rcases List.mem_cons.1 hp with rfl | hp
       ·rfl
       ·exact Nat.eq_of_beq_eq_true (List.all_eq_true.1 hcnd.2 p hp)
      have hln := hps.length
      obtain ⟨a, cap, rfl, hc, hor⟩ := Dv.repV_list_cells hr hsz hcnd.1
      rcases hor with h | ⟨b, off, us, rfl, hin, hE⟩
      ·subst h; simp at hln
      obtain ⟨g1, hg1, hw1, hr1, ho1⟩ := rsL_ok (fun p x m c m' u g => rsV_ok hM n p x m c m' u g) hl hps.flat (repE_flat hE) hw
      have hul := Dv.repE_length hE
      have hpos : 0 < us.length := by rw [hul]; exact Nat.mul_pos (by rw [hln]; simp) hcnd.1
      have hro : E.ro b := (hM _ _ _ (hin 0 us[0] (by simp))).1
      have hadd := hw1.addRo (κ := cap * y.size) hro hr1 ho1 (fun j u hj => (hM _ _ _ (hin j u hj)).2)
      refine ⟨_, CG.le_trans hg1 (CG.le_put hw1.new_none _), hadd, ?_, fun _ => rfl⟩
      rw [hln]
      rw [hln] at hc
      exact rep_sl (CG.put_self _ _ _) (.inl rfl) (by simpa using hc) (by omega) (.inr rfl)
     ·simp at h
    ·simp at h
end
noncomputable def runS (P : Program) (tab : Tab) (n : Nat) (f : FuncId) (ps : List SV) : Option CV :=
 match rsL (rsV 40) ps m00 with
 | some (cs, m) => match evalF P tab n f cs m with
  | some (d, _) => if flatC d then some d else none
  | none => none
 | none => none
theorem rsL_args {M : Dv.Mem} {E : CE} {w : World} (hM : RoOK E M) {G : Dv.Gh} (hG : G.M = M) : ∀ {ps : List SV} {xs : List Dv.V} {m m' : CMem} {cs : List CV} {us : List Value} {g : CG}, rsL (rsV 40) ps m = some (cs, m') → FitsL ps xs → Dv.repDs G (xs.map .v) us → CW E g m w → ∃ g', CG.le g g' ∧ CW E g' m' w ∧ reps g' cs us
 | _, _, m, m', cs, us, g, h, .nil, hr, hw => by
  simp only [rsL, Option.some.injEq, Prod.mk.injEq] at h
  obtain ⟨rfl, rfl⟩ := h
  exact ⟨g, CG.le_refl g, hw, by simpa [Dv.repDs, reps] using hr⟩
 | _, _, m, m', cs, us, g, h, .cons hp hps, hr, hw => by
  simp only [rsL] at h
  split at h
  ·rename_i c m1 hx
   split at h
   ·rename_i cs' m2 hxs
    simp only [Option.some.injEq, Prod.mk.injEq] at h
    obtain ⟨rfl, rfl⟩ := h
    simp only [List.map_cons, Dv.repDs, Dv.repD] at hr
    obtain ⟨u, us', rfl, h1, h2⟩ := hr
    obtain ⟨g1, hg1, hw1, hr1, _⟩ := rsV_ok hM 40 _ _ m c m1 u g hx hp (by rw [← hG]; exact h1) hw
    obtain ⟨g2, hg2, hw2, hr2⟩ := rsL_args hM hG hxs hps h2 hw1
    exact ⟨g2, CG.le_trans hg1 hg2, hw2, by simp only [reps]; exact ⟨u, us', rfl, rep.mono hg2 _ _ hr1, hr2⟩⟩
   ·simp at h
  ·simp at h
theorem runS_T {P : Program} {tab : Tab} (htab : TabOK P tab) (hm : P.follows .mixedOrders = true) {n : Nat} {f : FuncId} {ps : List SV} {d : CV} (h : runS P tab n f ps = some d) {xs : List Dv.V} (hf : FitsL ps xs) : TSpec P f xs d := by
 unfold runS at h
 split at h
 ·rename_i cs m hl
  split at h
  ·rename_i d' m' he
   split at h
   ·rename_i hflat
    simp only [Option.some.injEq] at h; subst h
    obtain ⟨hc, hs⟩ := evalF_ok htab hm n f cs m d' m' he
    refine ⟨hc, fun w us hargs => ?_⟩
    have hM : RoOK ⟨w, fun b => b < w.heap.size, fun b => b < w.heap.size, fun _ h => h⟩ (memOf w) := fun b o v hv => ⟨World.block_lt_of_cell? w ⟨b, o, none⟩ hv, hv⟩
    obtain ⟨g1, _, hw1, hr1⟩ := rsL_args hM rfl hl hf hargs (CW.start w)
    refine Calls.mono (hs _ g1 w us hw1 hr1) ?_
    rintro e w' ⟨u, g', rfl, hw', _, hr⟩
    exact ⟨u, rfl, flat_rep hflat hr, fun b hb => hw'.keep b hb, hw'.size, hw'.os, hw'.tape, hw'.output⟩
   ·simp at h
  ·simp at h
 ·simp at h
end Go.Ci
