/-
  Code by its place: the walk's goals name a function's code by a path, and its operations by number. No program is named here.
-/
import Derived.Test.YtoofgniepbidnaaDvM
namespace Go.Dv

/-- the piece of code at a place -/
def sub : Code → List Nat → Code
  | c, [] => c
  | .seq a b, n :: p => if n = 0 then sub a p else sub b p
  | .cond _ a b, n :: p => if n = 0 then sub a p else sub b p
  | .block _ a, _ :: p => sub a p
  | .loop a, _ :: p => sub a p
  | .scope a, _ :: p => sub a p
  | _, _ :: _ => .skip

def opsIn : Code → Array Oper
  | .region _ ops _ => ops
  | _ => #[]

/-- what is left of a region, from operation i on -/
def OpsAt (P : Program) (R : List D → St → Prop) (c : Code) (p : List Nat) (i : Nat) (k : List KI) (env : List D) (σ : St) : Prop :=
  OpsOK P (opsIn (sub c p)) (fun env σ => Run P R k env σ) ((opsIn (sub c p)).toList.drop i) env σ

section
variable {P : Program} {R : List D → St → Prop} {c : Code} {p : List Nat} {k : List KI} {env env' : List D} {σ σ' : St} {i : Nat} {o : Oper} {d : D}

theorem at_seq (q r : List Nat) (h : sub c p = .seq (sub c q) (sub c r)) (hk : Run P R (.code (sub c q) :: .code (sub c r) :: k) env σ) : Run P R (.code (sub c p) :: k) env σ := by rw [h]; exact run_seq hk
theorem at_block (q : List Nat) (id : Nat) (h : sub c p = .block id (sub c q)) (hk : Run P R (.code (sub c q) :: .blk id :: k) env σ) : Run P R (.code (sub c p) :: k) env σ := by rw [h]; exact run_block hk
theorem at_loop (q : List Nat) (h : sub c p = .loop (sub c q)) (hk : Run P R (.lp (sub c q) :: k) env σ) : Run P R (.code (sub c p) :: k) env σ := by rw [h]; exact run_loop hk
theorem at_cond (q r : List Nat) {t : Operand} {b : Bool} (h : sub c p = .cond t (sub c q) (sub c r)) (hc : evD env t = .v (.bool b)) (ht : b = true → Run P R (.code (sub c q) :: k) env σ) (hf : b = false → Run P R (.code (sub c r) :: k) env σ) :
    Run P R (.code (sub c p) :: k) env σ := by rw [h]; exact run_cond hc ht hf
theorem at_true (q r : List Nat) {t : Operand} (h : sub c p = .cond t (sub c q) (sub c r)) (hc : evD env t = .v (.bool true)) (ht : Run P R (.code (sub c q) :: k) env σ) : Run P R (.code (sub c p) :: k) env σ :=
  at_cond q r h hc (fun _ => ht) (fun h => by simp at h)
theorem at_false (q r : List Nat) {t : Operand} (h : sub c p = .cond t (sub c q) (sub c r)) (hc : evD env t = .v (.bool false)) (hf : Run P R (.code (sub c r) :: k) env σ) : Run P R (.code (sub c p) :: k) env σ :=
  at_cond q r h hc (fun h => by simp at h) (fun _ => hf)
theorem at_skip (h : sub c p = .skip) (hk : Run P R k env σ) : Run P R (.code (sub c p) :: k) env σ := by rw [h]; exact run_skip hk
theorem at_label {l : Nat} (h : sub c p = .label l) (hk : Run P R k env σ) : Run P R (.code (sub c p) :: k) env σ := by rw [h]; exact run_label hk
theorem at_exit {id : Nat} {k' : List KI} (h : sub c p = .exit id) (hp : popK id k = some k') (hk : Run P R k' env σ) : Run P R (.code (sub c p) :: k) env σ := by rw [h]; exact run_exit hp hk
theorem at_ret (h : sub c p = .ret) (hk : R env σ) : Run P R (.code (sub c p) :: k) env σ := by rw [h]; exact run_ret hk

theorem at_region {id : Nat} (h : sub c p = .region id (opsIn (sub c p)) false) (hk : OpsAt P R c p 0 k env σ) : Run P R (.code (sub c p) :: k) env σ := by
  rw [h]; exact run_region (by simpa [OpsAt] using hk)

theorem at_op (t : Option Tmp) (ho : (opsIn (sub c p))[i]? = some o) {ds : List D} (hg : wantD env (opsIn (sub c p)) o = some true) (ht : o.dst = t) (hds : evDs env o = ds) (h : OpOK P o ds σ d σ') (he : putD env t d = env') (hk : OpsAt P R c p (i + 1) k env' σ') : OpsAt P R c p i k env σ := by
  unfold OpsAt at hk ⊢
  have hl : ((opsIn (sub c p)).toList.drop i) = o :: (opsIn (sub c p)).toList.drop (i + 1) := by
    have ho' : (opsIn (sub c p)).toList[i]? = some o := by simpa using ho
    rw [List.drop_eq_getElem_cons (List.getElem?_eq_some_iff.1 ho').1, (List.getElem?_eq_some_iff.1 ho').2]
  rw [hl]
  subst ht he hds
  exact .inl ⟨hg, d, σ', h, hk⟩

/-- an operation with an effect -/
theorem at_opS {σ2 : St} (t : Option Tmp) (ho : (opsIn (sub c p))[i]? = some o) {ds : List D} (hg : wantD env (opsIn (sub c p)) o = some true) (ht : o.dst = t) (hds : evDs env o = ds) (h : OpOK P o ds σ d σ') (he : putD env t d = env') (hσ : σ' = σ2) (hk : OpsAt P R c p (i + 1) k env' σ2) : OpsAt P R c p i k env σ := by
  subst hσ; exact at_op t ho hg ht hds h he hk

/-- '&&', '||' -/
theorem at_pk (b : Bool) (s s1 t : Nat) {x y : Operand} (ho : (opsIn (sub c p))[i]? = some o) (hg : wantD env (opsIn (sub c p)) o = some true) (ht : o.dst = some t) (hop : o.op = .pick (.tmp s) x y) (hs : env[s]? = some (.v (.bool b))) (hx : (if b then x else y) = .tmp s1) (h1 : env[s1]? = some d) (he : env.set t d = env')
    (hk : OpsAt P R c p (i + 1) k env' σ) : OpsAt P R c p i k env σ := by
  refine at_op (some t) ho hg ht (ds := [.v (.bool b), evD env x, evD env y]) ?_ (op_pick hop) ?_ hk
  · simp [evDs, hop, Op.operands, evD, List.getD_eq_getElem?_getD, hs]
  · rw [← he]
    simp only [putD]
    congr 1
    cases b <;> simp at hx <;> subst hx <;> simp [evD, List.getD_eq_getElem?_getD, h1]
theorem at_pkc (b : Bool) (s t : Nat) {x y : Operand} {u : Value} (ho : (opsIn (sub c p))[i]? = some o) (hg : wantD env (opsIn (sub c p)) o = some true) (ht : o.dst = some t) (hop : o.op = .pick (.tmp s) x y) (hs : env[s]? = some (.v (.bool b))) (hx : (if b then x else y) = .const u) (h1 : constD u = d) (he : env.set t d = env')
    (hk : OpsAt P R c p (i + 1) k env' σ) : OpsAt P R c p i k env σ := by
  refine at_op (some t) ho hg ht (ds := [.v (.bool b), evD env x, evD env y]) ?_ (op_pick hop) ?_ hk
  · simp [evDs, hop, Op.operands, evD, List.getD_eq_getElem?_getD, hs]
  · rw [← he]
    simp only [putD]
    congr 1
    cases b <;> simp at hx <;> subst hx <;> simp [evD, h1]

theorem ev_tmp {s : Nat} (hs : env[s]? = some d) : evD env (.tmp s) = d := by simp [evD, List.getD_eq_getElem?_getD, hs]

/-- a store into an object -/
theorem at_st1 (sa : Nat) (xv : Operand) {ty : TypeId} {q off : Nat} {cs : List D} {σ2 : St} (ho : (opsIn (sub c p))[i]? = some o) (hg : wantD env (opsIn (sub c p)) o = some true) (ht : o.dst = none) (hop : o.op = .store ty (.tmp sa) xv) (ha : env[sa]? = some (.ptr q off)) (hv : evD env xv = d) (h1 : d.one = true) (hty : OneTy P ty)
    (hq : σ.H[q]? = some (some cs)) (hoff : off < cs.length) (hσ : ⟨σ.H.set q (some (cs.set off d)), σ.own⟩ = σ2) (hk : OpsAt P R c p (i + 1) k env σ2) : OpsAt P R c p i k env σ := by
  subst hσ
  refine at_op none ho hg ht (ds := [.ptr q off, d]) ?_ (op_store1 hop h1 hty hq hoff) rfl hk
  simp [evDs, hop, Op.operands, ev_tmp ha, hv]
theorem at_stA (sa : Nat) (xv : Operand) {ty : TypeId} {q off n : Nat} {cs : List D} {σ2 : St} {b : Bool} (ho : (opsIn (sub c p))[i]? = some o) (hg : wantD env (opsIn (sub c p)) o = some true) (ht : o.dst = none) (hop : o.op = .store ty (.tmp sa) xv) (ha : env[sa]? = some (.ptr q off)) (hv : evD env xv = d) (h1 : d.sto = true) (hty : szAgg P ty = some (n, b))
    (hn : (cellsD d).length = n) (hq : σ.H[q]? = some (some cs)) (hoff : off + n ≤ cs.length) (hσ : ⟨σ.H.set q (some (cs.take off ++ cellsD d ++ cs.drop (off + n))), σ.own⟩ = σ2) (hk : OpsAt P R c p (i + 1) k env σ2) : OpsAt P R c p i k env σ := by
  subst hσ
  refine at_op none ho hg ht (ds := [.ptr q off, d]) ?_ (op_store hop h1 hty hn hq hoff) rfl hk
  simp [evDs, hop, Op.operands, ev_tmp ha, hv]
theorem at_box (x : Operand) (t : Nat) {ty : TypeId} {σ2 : St} (ho : (opsIn (sub c p))[i]? = some o) (hg : wantD env (opsIn (sub c p)) o = some true) (ht : o.dst = some t) (hop : o.op = .box ty x) (hv : evD env x = d) (h1 : d.sto = true) (he : env.set t (.ptr σ.H.length 0) = env') (hσ : ⟨σ.H ++ [some (cellsD d)], σ.own⟩ = σ2)
    (hk : OpsAt P R c p (i + 1) k env' σ2) : OpsAt P R c p i k env σ := by
  subst hσ
  refine at_op (some t) ho hg ht (ds := [d]) ?_ (op_box hop h1) he hk
  simp [evDs, hop, Op.operands, hv]

/-- a copy -/
theorem at_mv (s t : Nat) (ho : (opsIn (sub c p))[i]? = some o) (hg : wantD env (opsIn (sub c p)) o = some true) (ht : o.dst = some t) (hop : o.op = .move (.tmp s) ∨ o.op = .assign (.tmp s)) (hs : env[s]? = some d) (he : env.set t d = env') (hk : OpsAt P R c p (i + 1) k env' σ) : OpsAt P R c p i k env σ := by
  have hds : evDs env o = [d] := by rcases hop with h | h <;> simp [evDs, h, Op.operands, evD, List.getD_eq_getElem?_getD, hs]
  refine at_op (some t) ho hg ht hds ?_ he hk
  rcases hop with h | h
  · exact op_move h
  · exact op_assign h

/-- a constant -/
theorem at_mc {u : Value} (t : Nat) (ho : (opsIn (sub c p))[i]? = some o) (hg : wantD env (opsIn (sub c p)) o = some true) (ht : o.dst = some t) (hop : o.op = .move (.const u) ∨ o.op = .assign (.const u)) (hs : constD u = d) (he : env.set t d = env') (hk : OpsAt P R c p (i + 1) k env' σ) : OpsAt P R c p i k env σ := by
  have hds : evDs env o = [d] := by rcases hop with h | h <;> simp [evDs, h, Op.operands, evD, hs]
  refine at_op (some t) ho hg ht hds ?_ he hk
  rcases hop with h | h
  · exact op_move h
  · exact op_assign h

/-- a guarded operation that is not run -/
theorem at_opN (t : Option Tmp) (ho : (opsIn (sub c p))[i]? = some o) (hg : wantD env (opsIn (sub c p)) o = some false) (ht : o.dst = t) (he : putD env t (.tup []) = env') (hk : OpsAt P R c p (i + 1) k env' σ) : OpsAt P R c p i k env σ := by
  unfold OpsAt at hk ⊢
  have hl : ((opsIn (sub c p)).toList.drop i) = o :: (opsIn (sub c p)).toList.drop (i + 1) := by
    have ho' : (opsIn (sub c p)).toList[i]? = some o := by simpa using ho
    rw [List.drop_eq_getElem_cons (List.getElem?_eq_some_iff.1 ho').1, (List.getElem?_eq_some_iff.1 ho').2]
  rw [hl]
  subst ht he
  exact .inr ⟨hg, hk⟩

theorem at_end (h : (opsIn (sub c p)).size = i) (hk : Run P R k env σ) : OpsAt P R c p i k env σ := by
  unfold OpsAt
  rw [List.drop_of_length_le (by simp [h])]
  exact hk

/-- a slot's truth value, by cases -/
theorem at_split (t : Nat) {b : Bool} (hs : env[t]? = some (.v (.bool b))) (ht : b = true → ∀ env', env.set t (.v (.bool true)) = env' → OpsAt P R c p i k env' σ) (hf : b = false → ∀ env', env.set t (.v (.bool false)) = env' → OpsAt P R c p i k env' σ) : OpsAt P R c p i k env σ := by
  have key : ∀ b', b = b' → env.set t (.v (.bool b')) = env := by
    intro b' e; subst e
    apply List.ext_getElem?
    intro j
    rw [List.getElem?_set]
    split
    · rename_i e; subst e
      split
      · exact hs.symm
      · rename_i hl; rw [List.getElem?_eq_none (by omega)] at hs; simp at hs
    · rfl
  cases b with
  | true => exact ht rfl env (key true rfl)
  | false => exact hf rfl env (key false rfl)

theorem run_split (t : Nat) {b : Bool} (hs : env[t]? = some (.v (.bool b))) (ht : b = true → ∀ env', env.set t (.v (.bool true)) = env' → Run P R k env' σ) (hf : b = false → ∀ env', env.set t (.v (.bool false)) = env' → Run P R k env' σ) : Run P R k env σ := by
  have key : ∀ b', b = b' → env.set t (.v (.bool b')) = env := by
    intro b' e; subst e
    apply List.ext_getElem?
    intro j
    rw [List.getElem?_set]
    split
    · rename_i e; subst e
      split
      · exact hs.symm
      · rename_i hl; rw [List.getElem?_eq_none (by omega)] at hs; simp at hs
    · rfl
  cases b with
  | true => exact ht rfl env (key true rfl)
  | false => exact hf rfl env (key false rfl)

/-- slots that are forgotten -/
inductive Wk : List D → List D → Prop
  | nil : Wk [] []
  | keep {d : D} {l l' : List D} (h : Wk l l') : Wk (d :: l) (d :: l')
  | drop {d : D} {l l' : List D} (h : Wk l l') : Wk (d :: l) (.undef :: l')

theorem Wk.ok : ∀ {l l' : List D}, Wk l l' → l'.length = l.length ∧ ∀ (i : Nat) (d' : D), l'[i]? = some d' → d' = .undef ∨ l[i]? = some d'
  | _, _, .nil => ⟨rfl, fun i d' h => by simp at h⟩
  | _, _, .keep h => by
    obtain ⟨h1, h2⟩ := h.ok
    refine ⟨by simp [h1], fun i d' hi => ?_⟩
    cases i with
    | zero => exact .inr hi
    | succ i => exact h2 i d' (by simpa using hi)
  | _, _, .drop h => by
    obtain ⟨h1, h2⟩ := h.ok
    refine ⟨by simp [h1], fun i d' hi => ?_⟩
    cases i with
    | zero => simp at hi; exact .inl hi.symm
    | succ i => exact h2 i d' (by simpa using hi)

theorem run_wk (hw : Wk env env') (h : Run P R k env' σ) : Run P R k env σ := run_forget hw.ok.1 hw.ok.2 h

/- results of functions that were handed no object -/
theorem ret_one {fn : Func} {t : Tmp} {d' : D} (hr : fn.results.toList = [.tmp t]) (hs : env[t]? = some d') (he : d' = d) (hp : d'.pl = true) : ResOK P fn env σ d ⟨[], []⟩ := by
  subst he
  refine res_ok (ds := [d']) (by rw [hr]; exact .tmp hs .nil) rfl 0 (by simp) (by simp) (fun i cs h => by simp at h) (by simp) ?_
  cases d' <;> simp_all [okR, D.pl]

theorem ret_un {fn : Func} {t : Tmp} {tag : Nat} {xs ys : List V} (hr : fn.results.toList = [.tmp t]) (hs : env[t]? = some (.acc tag xs)) (he : xs = ys) : ResOK P fn env σ (.v (.list ys)) ⟨[], []⟩ := by
  subst he
  intro E g a w hf hE
  obtain ⟨us, h1, h2⟩ := (ResL.tmp (P := P) hs .nil).run hf
  obtain ⟨u, rfl, h3⟩ := repDs_one.1 h2
  refine ⟨u, _, ?_, hf.wi.restrict (σ' := ⟨[], []⟩) (m := 0) (by simp) (by simp) (by simpa using hE) (fun i cs h => by simp at h) (by simp), ?_⟩
  · rw [results_eq, Array.mapM_eq_mapM_toList, hr]
    simp only [Sem.run_bind, Sem.run_map, h1, Result.andThen_ok]
    rfl
  · simp only [repD] at h3 ⊢; exact h3.1

theorem ret_acc {fn : Func} {t : Tmp} {tag sz : Nat} {xs ys : List V} (hr : fn.results.toList = [.tmp t]) (hs : env[t]? = some (.acc tag xs)) (ho : σ.own = [(tag, sz, xs)]) (he : xs = ys) : ResOK P fn env σ (.acc tag ys) ⟨[], [(tag, sz, ys)]⟩ := by
  subst he
  exact res_ok (ds := [.acc tag xs]) (by rw [hr]; exact .tmp hs .nil) rfl 0 (by simp) (by simp) (fun i cs h => by simp at h) (by simp [ho]) (by simp [okR])

theorem ret_two {fn : Func} {t t2 : Tmp} {d1 d2 e1 e2 : D} (hr : fn.results.toList = [.tmp t, .tmp t2]) (hs : env[t]? = some d1) (hs2 : env[t2]? = some d2) (h1 : d1.un = e1) (h2 : d2.un = e2) (hp : e1.pl = true) (hp2 : e2.pl = true) : ResOK P fn env σ (.tup [e1, e2]) ⟨[], []⟩ := by
  subst h1 h2
  intro E g a w hf hE
  obtain ⟨us, h1, h2⟩ := (ResL.tmp (P := P) hs (.tmp hs2 .nil)).run hf
  obtain ⟨u, v, rfl, h3, h4⟩ := repDs_two.1 h2
  refine ⟨.tuple #[u, v], _, ?_, hf.wi.restrict (σ' := ⟨[], []⟩) (m := 0) (by simp) (by simp) (by simpa using hE) (fun i cs h => by simp at h) (by simp), ?_⟩
  · rw [results_eq, Array.mapM_eq_mapM_toList, hr]
    simp only [Sem.run_bind, Sem.run_map, h1, Result.andThen_ok]
    rfl
  · simp only [repD]
    exact ⟨[u, v], rfl, repDs_two.2 ⟨u, v, rfl, repD_pl (by rfl) hp (repD_un h3), repD_pl (by rfl) hp2 (repD_un h4)⟩⟩

/- results of functions that were handed one object -/
theorem ret_one1 {fn : Func} {t : Tmp} {d' : D} {os : List D} (hr : fn.results.toList = [.tmp t]) (hs : env[t]? = some d') (he : d' = d) (hp : d'.pl = true) (hH : σ.H.take 1 = [some os]) (hos : D.pls os = true) : ResOK P fn env σ d ⟨[some os], []⟩ := by
  subst he
  refine res_ok (ds := [d']) (by rw [hr]; exact .tmp hs .nil) rfl 1 hH.symm ?_ (fun i cs h => ?_) (by simp) ?_
  · have := congrArg List.length hH; simp at this; omega
  · cases i with
    | zero => simp at h; subst h; exact hos
    | succ i => simp at h
  · cases d' <;> simp_all [okR, D.pl]

theorem ret_acc1 {fn : Func} {t : Tmp} {tag sz : Nat} {xs ys : List V} {os : List D} (hr : fn.results.toList = [.tmp t]) (hs : env[t]? = some (.acc tag xs)) (ho : σ.own = [(tag, sz, xs)]) (he : xs = ys) (hH : σ.H.take 1 = [some os]) (hos : D.pls os = true) :
    ResOK P fn env σ (.acc tag ys) ⟨[some os], [(tag, sz, ys)]⟩ := by
  subst he
  refine res_ok (ds := [.acc tag xs]) (by rw [hr]; exact .tmp hs .nil) rfl 1 hH.symm ?_ (fun i cs h => ?_) (by simp [ho]) (by simp [okR])
  · have := congrArg List.length hH; simp at this; omega
  · cases i with
    | zero => simp at h; subst h; exact hos
    | succ i => simp at h

/- regions that draw their order -/
def DAt (P : Program) (c : Code) (p : List Nat) (sts : List St) (i : Nat) (env : List D) (j : Nat) (effs : List Bool) (K : List D → Nat → List Bool → Prop) : Prop :=
  ∃ vals effs' env' j', DRun P (opsIn (sub c p)) sts ((opsIn (sub c p)).toList.drop i) env j vals effs' env' j' ∧ K env' j' (effs ++ effs')

theorem da_end {sts : List St} {j : Nat} {effs : List Bool} {K : List D → Nat → List Bool → Prop} (h : (opsIn (sub c p)).size = i) (hk : K env j effs) : DAt P c p sts i env j effs K := by
  refine ⟨[], [], env, j, ?_, by simpa using hk⟩
  rw [List.drop_of_length_le (by simp [h])]
  exact .nil

theorem drop_cons (ho : (opsIn (sub c p))[i]? = some o) : ((opsIn (sub c p)).toList.drop i) = o :: (opsIn (sub c p)).toList.drop (i + 1) := by
  have ho' : (opsIn (sub c p)).toList[i]? = some o := by simpa using ho
  rw [List.drop_eq_getElem_cons (List.getElem?_eq_some_iff.1 ho').1, (List.getElem?_eq_some_iff.1 ho').2]

theorem da_quiet (t : Option Tmp) {sts : List St} {j : Nat} {effs : List Bool} {K : List D → Nat → List Bool → Prop} (ho : (opsIn (sub c p))[i]? = some o) (hg : wantD env (opsIn (sub c p)) o = some true) {ds : List D} (hds : evDs env o = ds)
    (ht : o.dst = t) (h : ∀ s ∈ sts, OpOK P o ds s d s) (he : putD env t d = env') (hk : DAt P c p sts (i + 1) env' j (effs ++ [false]) K) : DAt P c p sts i env j effs K := by
  obtain ⟨vals, effs', env2, j', h1, h2⟩ := hk
  subst ht hds he
  refine ⟨d :: vals, false :: effs', env2, j', ?_, by simpa using h2⟩
  rw [drop_cons ho]
  exact .quiet hg h h1

theorem da_skip (t : Option Tmp) {sts : List St} {j : Nat} {effs : List Bool} {K : List D → Nat → List Bool → Prop} (ho : (opsIn (sub c p))[i]? = some o) (hg : wantD env (opsIn (sub c p)) o = some false) (ht : o.dst = t) (he : putD env t (.tup []) = env')
    (hk : DAt P c p sts (i + 1) env' j (effs ++ [false]) K) : DAt P c p sts i env j effs K := by
  obtain ⟨vals, effs', env2, j', h1, h2⟩ := hk
  subst ht he
  refine ⟨.tup [] :: vals, false :: effs', env2, j', ?_, by simpa using h2⟩
  rw [drop_cons ho]
  exact .skip hg h1

theorem da_eff (t : Option Tmp) {sts : List St} {j : Nat} {effs : List Bool} {K : List D → Nat → List Bool → Prop} (ho : (opsIn (sub c p))[i]? = some o) (hg : wantD env (opsIn (sub c p)) o = some true) {ds : List D} (hds : evDs env o = ds) {s s' : St} (hs : sts[j]? = some s) (hs' : sts[j + 1]? = some s')
    (ht : o.dst = t) (h : OpOK P o ds s d s') (he : putD env t d = env') (hk : DAt P c p sts (i + 1) env' (j + 1) (effs ++ [true]) K) : DAt P c p sts i env j effs K := by
  obtain ⟨vals, effs', env2, j', h1, h2⟩ := hk
  subst ht hds he
  refine ⟨d :: vals, true :: effs', env2, j', ?_, by simpa using h2⟩
  rw [drop_cons ho]
  exact .eff hg hs hs' h h1

theorem da_split {sts : List St} {j : Nat} {effs : List Bool} {K : List D → Nat → List Bool → Prop} (t : Nat) {b : Bool} (hs : env[t]? = some (.v (.bool b))) (ht : b = true → ∀ env', env.set t (.v (.bool true)) = env' → DAt P c p sts i env' j effs K)
    (hf : b = false → ∀ env', env.set t (.v (.bool false)) = env' → DAt P c p sts i env' j effs K) : DAt P c p sts i env j effs K := by
  have key : ∀ b', b = b' → env.set t (.v (.bool b')) = env := by
    intro b' e; subst e
    apply List.ext_getElem?
    intro j
    rw [List.getElem?_set]
    split
    · rename_i e; subst e
      split
      · exact hs.symm
      · rename_i hl; rw [List.getElem?_eq_none (by omega)] at hs; simp at hs
    · rfl
  cases b with
  | true => exact ht rfl env (key true rfl)
  | false => exact hf rfl env (key false rfl)

/-- a copy, a constant, in a region that draws -/
theorem da_mv {sts : List St} {j : Nat} {effs : List Bool} {K : List D → Nat → List Bool → Prop} (s t : Nat) (ho : (opsIn (sub c p))[i]? = some o) (hg : wantD env (opsIn (sub c p)) o = some true) (ht : o.dst = some t) (hop : o.op = .move (.tmp s) ∨ o.op = .assign (.tmp s)) (hs : env[s]? = some d)
    (he : env.set t d = env') (hk : DAt P c p sts (i + 1) env' j (effs ++ [false]) K) : DAt P c p sts i env j effs K := by
  have hds : evDs env o = [d] := by rcases hop with h | h <;> simp [evDs, h, Op.operands, evD, List.getD_eq_getElem?_getD, hs]
  refine da_quiet (some t) ho hg hds ht (fun _ _ => ?_) he hk
  rcases hop with h | h
  · exact op_move h
  · exact op_assign h
theorem da_mc {sts : List St} {j : Nat} {effs : List Bool} {K : List D → Nat → List Bool → Prop} {u : Value} (t : Nat) (ho : (opsIn (sub c p))[i]? = some o) (hg : wantD env (opsIn (sub c p)) o = some true) (ht : o.dst = some t) (hop : o.op = .move (.const u) ∨ o.op = .assign (.const u)) (hs : constD u = d)
    (he : env.set t d = env') (hk : DAt P c p sts (i + 1) env' j (effs ++ [false]) K) : DAt P c p sts i env j effs K := by
  have hds : evDs env o = [d] := by rcases hop with h | h <;> simp [evDs, h, Op.operands, evD, hs]
  refine da_quiet (some t) ho hg hds ht (fun _ _ => ?_) he hk
  rcases hop with h | h
  · exact op_move h
  · exact op_assign h
theorem da_pk {sts : List St} {j : Nat} {effs : List Bool} {K : List D → Nat → List Bool → Prop} (b : Bool) (s s1 t : Nat) {x y : Operand} (ho : (opsIn (sub c p))[i]? = some o) (hg : wantD env (opsIn (sub c p)) o = some true) (ht : o.dst = some t) (hop : o.op = .pick (.tmp s) x y) (hs : env[s]? = some (.v (.bool b)))
    (hx : (if b then x else y) = .tmp s1) (h1 : env[s1]? = some d) (he : env.set t d = env') (hk : DAt P c p sts (i + 1) env' j (effs ++ [false]) K) : DAt P c p sts i env j effs K := by
  refine da_quiet (some t) ho hg (ds := [.v (.bool b), evD env x, evD env y]) ?_ ht (fun _ _ => op_pick hop) ?_ hk
  · simp [evDs, hop, Op.operands, evD, List.getD_eq_getElem?_getD, hs]
  · rw [← he]
    simp only [putD]
    congr 1
    cases b <;> simp at hx <;> subst hx <;> simp [evD, List.getD_eq_getElem?_getD, h1]
theorem da_pkc {sts : List St} {j : Nat} {effs : List Bool} {K : List D → Nat → List Bool → Prop} (b : Bool) (s t : Nat) {x y : Operand} {u : Value} (ho : (opsIn (sub c p))[i]? = some o) (hg : wantD env (opsIn (sub c p)) o = some true) (ht : o.dst = some t) (hop : o.op = .pick (.tmp s) x y) (hs : env[s]? = some (.v (.bool b)))
    (hx : (if b then x else y) = .const u) (h1 : constD u = d) (he : env.set t d = env') (hk : DAt P c p sts (i + 1) env' j (effs ++ [false]) K) : DAt P c p sts i env j effs K := by
  refine da_quiet (some t) ho hg (ds := [.v (.bool b), evD env x, evD env y]) ?_ ht (fun _ _ => op_pick hop) ?_ hk
  · simp [evDs, hop, Op.operands, evD, List.getD_eq_getElem?_getD, hs]
  · rw [← he]
    simp only [putD]
    congr 1
    cases b <;> simp at hx <;> subst hx <;> simp [evD, h1]

theorem da_st1 {sts : List St} {j : Nat} {effs : List Bool} {K : List D → Nat → List Bool → Prop} (sa : Nat) (xv : Operand) {ty : TypeId} {q off : Nat} {cs : List D} {s s' : St} (ho : (opsIn (sub c p))[i]? = some o) (hg : wantD env (opsIn (sub c p)) o = some true) (ht : o.dst = none) (hs : sts[j]? = some s) (hs' : sts[j + 1]? = some s')
    (hop : o.op = .store ty (.tmp sa) xv) (ha : env[sa]? = some (.ptr q off)) (hv : evD env xv = d) (h1 : d.one = true) (hty : OneTy P ty)
    (hq : s.H[q]? = some (some cs)) (hoff : off < cs.length) (hσ : ⟨s.H.set q (some (cs.set off d)), s.own⟩ = s') (hk : DAt P c p sts (i + 1) env (j + 1) (effs ++ [true]) K) : DAt P c p sts i env j effs K := by
  subst hσ
  refine da_eff none ho hg (ds := [.ptr q off, d]) ?_ hs hs' ht (op_store1 hop h1 hty hq hoff) rfl hk
  simp [evDs, hop, Op.operands, ev_tmp ha, hv]

theorem at_draw {id : Nat} (hm : P.follows .mixedOrders = true) (h : sub c p = .region id (opsIn (sub c p)) true) (sts : List St) (h0 : sts[0]? = some σ)
    (hk : DAt P c p sts 0 env 0 [] (fun env' j' effs => regOK (opsIn (sub c p)) effs = true ∧ ∃ σ', sts[j']? = some σ' ∧ Run P R k env' σ')) : Run P R (.code (sub c p) :: k) env σ := by
  obtain ⟨vals, effs, env', j', h1, h2, σ', h3, h4⟩ := hk
  rw [h]
  exact run_draw hm sts h0 h3 (by simpa using h1) (by simpa using h2) h4

/-- a function's body by its place -/
theorem spec_at {f : FuncId} {fn : Func} {ds : List D} {σ σ' : St} {d : D} (c : Code) (hf : P.funcs[f]? = some fn) (hb : fn.body = some c) (hn : (fn.name == "runtime.NumGoroutine") = false) (hH : σ.H.length ≤ σ'.H.length)
    (env : List D) (he : ds ++ List.replicate (fn.ntmps - ds.length) .undef = env) (h : Run P (fun env σ1 => ResOK P fn env σ1 d σ') [.code (sub c [])] env σ) : FSpec P f ds σ d σ' := by
  subst he
  refine spec_of_run hf hb hn hH ?_
  have : sub c [] = c := by cases c <;> rfl
  rwa [this] at h

end
end Go.Dv
