/-
  Constants known by value; nil slices that become lists to append to; growing lists, continued. No program is named here.
-/
import Derived.Test.YtoofgniepbidnaaDvP
namespace Go.Dv

/-- operands that are constants may be taken as exactly their values -/
inductive ConstFix : List Operand → List D → List D → Prop
  | nil : ConstFix [] [] []
  | same {x : Operand} {d : D} {xs : List Operand} {ds ds' : List D} (h : ConstFix xs ds ds') : ConstFix (x :: xs) (d :: ds) (d :: ds')
  | const {u : Value} {d : D} {xs : List Operand} {ds ds' : List D} (h : ConstFix xs ds ds') : ConstFix (.const u :: xs) (d :: ds) (.raw u :: ds')
theorem ConstFix.rep {g : Gh} {a : Act} : ∀ {xs : List Operand} {ds ds' : List D}, ConstFix xs ds ds' → repDs g ds (xs.map a.eval) → repDs g ds' (xs.map a.eval)
  | _, _, _, .nil, h => by simpa only [repDs] using h
  | _, _, _, .same h', h => by
    simp only [List.map_cons, repDs] at h ⊢
    obtain ⟨u, us, e, h1, h2⟩ := h
    simp only [List.cons.injEq] at e
    obtain ⟨e1, e2⟩ := e
    exact ⟨_, _, rfl, by rw [e1]; exact h1, h'.rep (by rw [e2]; exact h2)⟩
  | _, _, _, .const h', h => by
    simp only [List.map_cons, repDs] at h ⊢
    obtain ⟨u, us, e, h1, h2⟩ := h
    simp only [List.cons.injEq] at e
    obtain ⟨e1, e2⟩ := e
    exact ⟨_, _, rfl, by simp only [repD, Act.eval], h'.rep (by rw [e2]; exact h2)⟩
theorem opOK_const {P : Program} {o : Oper} {ds ds' : List D} {σ σ' : St} {d : D} (hc : ConstFix o.op.operands.toList ds ds') (h : OpOK P o ds' σ d σ') : OpOK P o ds σ d σ' := by
  intro E g a w K Q hw hds hK
  exact h E g a w K Q hw (hc.rep hds) hK
section
variable {P : Program} {o : Oper} {σ : St} {d : D}

theorem op_idxG {t : TypeId} {x ix : Operand} (ho : o.op = .indexAddr t x ix) {e : TypeId} {sz by' : Nat} {z : Option Value} (hs : slTy P t = some (e, sz, by', z)) {q len : Nat} {k : IntKind} {i : Int} (h0 : 0 ≤ i) (h1 : i < len) :
    OpOK P o [.gro q len sz, .v (.int k i)] σ (.ptr q (i.toNat * sz)) σ := by
  refine opOK_run fun E g ρ w hw hds => ?_
  simp only [ho, Op.operands, repDs_two] at hds
  obtain ⟨u, v, eq, h1', h2⟩ := hds
  simp only [List.map_cons, List.map_nil, List.cons.injEq, and_true] at eq
  obtain ⟨e1, e2⟩ := eq
  simp only [repD, repV_int] at h1' h2
  subst h2
  obtain ⟨hq, cap, hc, _, rfl⟩ := h1'
  obtain ⟨inf, hu, hinf, hsize, _, _⟩ := slTy_parts hs
  refine ⟨.pointer (some ⟨g.β q, 0 + i.toNat * sz, none⟩), ?_, by simp [repD, hq]⟩
  simp [execOp, ho, e1, e2, Instr.indexAt, asIntOf, run_underlying hu, h0, h1, sizeOf, typeInfo, hinf, hsize, Addr.add_lit]

theorem op_lenG {x : Operand} {t : TypeId} (ho : o.op = .call { callee := .builtin .len, args := #[x], argTypes := #[t] }) {e : TypeId} (ht : P.underlying t = some (.slice e)) {q len sz : Nat} :
    OpOK P o [.gro q len sz] σ (.v (.int .i64 len)) σ := by
  refine opOK_run fun E g ρ w hw hds => ?_
  simp only [ho, Op.operands, Call.operands, repDs_one] at hds
  obtain ⟨u, e, h1⟩ := hds
  simp at e
  simp only [repD] at h1
  obtain ⟨_, cap, _, _, rfl⟩ := h1
  exact ⟨_, by simp [execOp, ho, e, resolve, invoke, builtin, Builtin.len_, run_underlying ht, goInt]; rfl, by simp [repD]⟩

/-- append to what is exactly nil -/
theorem op_appendG0 {x y : Operand} {t : TypeId} (ho : o.op = .call { callee := .builtin .append, args := #[x, y], argTypes := #[t, t] }) {e : TypeId} {sz by' : Nat} {z : Value} (hs : slTy P t = some (e, sz, by', some z)) (hzc : z.cells.size = sz)
    {q2 n : Nat} {cs2 : List D} (hq2 : σ.H[q2]? = some (some cs2)) (hl2 : cs2.length = n * sz) (hpos : 0 < n) (hlen : n * by' ≤ 140737488355328) (hlen2 : n ≤ 140737488355328) :
    OpOK P o [.raw (.slice none 0 0), .gro q2 n sz] σ (.gro σ.H.length n sz) ⟨σ.H ++ [some cs2], σ.own⟩ := by
  intro E g a w K Q hw hds hK
  simp only [ho, Op.operands, Call.operands] at hds
  obtain ⟨u, v, eq, hu, hv⟩ := repDs_two.1 (by simpa using hds)
  simp only [List.cons.injEq, and_true] at eq
  simp only [repD] at hu hv
  subst hu
  obtain ⟨_, cap2, hcap2, _, rfl⟩ := hv
  obtain ⟨i, ht, hi, hisz, hib, hiz⟩ := slTy_parts hs
  obtain ⟨vs, rest2, et2, hb2, hr2, h12, hM2, _⟩ := hw.rep.obj q2 cs2 hq2
  have hvl : vs.length = n * i.size := by rw [repDs_length hr2, hl2, hisz]
  have hnews : ∀ j u, vs[j]? = some u → w.cell? ((⟨g.β q2, 0, none⟩ : Addr).add j) = some u := fun j u hj => by
    rw [Addr.add_lit]; simp only [World.cell?, hb2, Nat.zero_add, List.getElem?_toArray]; exact get_app hj
  have hrun := run_append_nil (P := P) w t o.type e i z ht hi hiz ⟨g.β q2, 0, none⟩ n cap2 vs hvl hnews hpos (by omega) (by rw [hib]; omega)
  have hge := grownCap_ge w n 0 e
  have hcell : vs.toArray ++ Builtin.zeroCells z.cells (grownCap w n 0 e - n) = (vs ++ (Builtin.zeroCells z.cells (grownCap w n 0 e - n)).toList).toArray := by
    apply Array.ext'; simp
  rw [hcell] at hrun
  obtain ⟨g', h3, h4, h5, h6, h7⟩ := hw.drew.newObjR (us := vs) (rest := (Builtin.zeroCells z.cells (grownCap w n 0 e - n)).toList) (cs := cs2) e hr2 h12
  have hd : repD g' (.gro σ.H.length n sz) (.slice (some ⟨w.heap.size, 0, none⟩) n (grownCap w n 0 e)) := by
    simp only [repD]
    refine ⟨by omega, _, hge, ?_, by rw [h5]; rfl⟩
    rw [h6]
    simp only [List.length_append, Array.length_toList, size_zeroCells, hzc, hvl, hisz, ← Nat.add_mul]
    congr 1; omega
  have := hK g' _ _ h3 h4 hd
  unfold Oper.wp execOp
  simp only [ho, resolve, invoke, builtin, Sem.run_bind, Sem.run_pure, Result.andThen_ok, List.map_toArray, List.map_cons, List.map_nil, eq.1, eq.2, hrun]
  exact this
end

/-- an object's cells, seen anew -/
theorem WI.review {E : Ent} {g : Gh} {σ : St} {w : World} (hw : WI E g σ w) {q : Nat} {cs cs' : List D} (hq : σ.H[q]? = some (some cs)) (h : ∀ us, repDs g cs us → repDs g cs' us) (h1 : ∀ c ∈ cs', c.one = true) : WI E g ⟨σ.H.set q (some cs'), σ.own⟩ w := by
  obtain ⟨us, rest, e, hb, hr, _, _, hκ⟩ := hw.rep.obj q cs hq
  exact hw.setObj hq hb hκ (h us hr) h1 (fun _ _ => rfl) rfl rfl rfl rfl

/-- a cell that is exactly nil becomes a list to append to -/
theorem run_claimC {C : Ent → Prop} {P : Program} {R : List D → St → Prop} {K : List KI} {env : List D} {σ : St} (q j k sz : Nat) {cs : List D} (hq : σ.H[q]? = some (some cs)) (hj : cs[j]? = some (.raw (.slice none 0 0))) (hk : ∀ x ∈ σ.own, x.1 ≠ k) (hsz : 0 < sz)
    (h : RunC C P R K env ⟨σ.H.set q (some (cs.set j (.acc k []))), (k, sz, []) :: σ.own⟩) : RunC C P R K env σ := fun E g a w B hC hf hB => by
  obtain ⟨hw1, hle1⟩ := hf.wi.addOwn (k := k) (sz := sz) (xs := []) (u := .slice none 0 0) hk ⟨hsz, by simp⟩ (repV_nil _) (.inl ⟨none, rfl⟩) (fun b hb => by simp [ownB] at hb)
  obtain ⟨_, _, _, _, _, h1, _⟩ := hf.wi.rep.obj q cs hq
  have hw2 := hw1.review (cs' := cs.set j (.acc k [])) hq (fun us hr => by
    obtain ⟨u, hu, hru⟩ := repDs_get hr hj
    simp only [repD] at hru
    subst hru
    have := repDs_set hr j (d := .acc k []) (u := .slice none 0 0) (by simp only [repD]; exact ⟨repV_nil _, by simp⟩)
    rwa [show us.set j (.slice none 0 0) = us from by
      apply List.ext_getElem?; intro m; rw [List.getElem?_set]; split
      · rename_i e; subst e; split
        · exact hu.symm
        · rw [List.getElem?_eq_none (by omega)]
      · rfl] at this) (fun c hc => by
    rcases List.mem_or_eq_of_mem_set hc with h | h
    · exact h1 c h
    · subst h; rfl)
  exact h E _ a w B hC ⟨hw2, repDs.mono hle1 _ _ hf.env, hf.defers⟩ hB

end Go.Dv
