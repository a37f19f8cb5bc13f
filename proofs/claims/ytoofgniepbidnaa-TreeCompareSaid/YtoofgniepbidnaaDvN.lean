/-
  Code by its place: the walk's goals name a function's code by a path, and its operations by number. No program is named here.
-/
import Derived.Test.YtoofgniepbidnaaDvM
namespace Go.Dv

/-- the piece of code at a place -/
def sub : Code → List Nat → Code
  | c, [] => c
  | .seq a b, n :: p => if n = 0 then sub a p else sub b p
  | .cond _ a b, n :: p => if n = 0 then sub a p else sub b p
  | .block _ a, _ :: p => sub a p
  | .loop a, _ :: p => sub a p
  | .scope a, _ :: p => sub a p
  | _, _ :: _ => .skip

def opsIn : Code → Array Oper
  | .region _ ops _ => ops
  | _ => #[]

/-- what is left of a region, from operation i on -/
def OpsAtC (C : Ent → Prop) (P : Program) (R : List D → St → Prop) (c : Code) (p : List Nat) (i : Nat) (k : List KI) (env : List D) (σ : St) : Prop :=
  ∀ (E : Ent) (g : Gh) (a : Act) (w : World) (B : Exit → Act → World → Prop), C E → FI E g σ env a w →
    (∀ g' env' σ' a' w', FI E g' σ' env' a' w' → R env' σ' → B .ret a' w' ∧ B .normal a' w') → wpList P (opsIn (sub c p)) (KQ P B k) ((opsIn (sub c p)).toList.drop i) a w
abbrev OpsAt (P : Program) (R : List D → St → Prop) (c : Code) (p : List Nat) (i : Nat) (k : List KI) (env : List D) (σ : St) : Prop := OpsAtC (fun _ => True) P R c p i k env σ

/-- the same memory and slots, seen otherwise -/
def Cv (env : List D) (σ : St) (env' : List D) (σ' : St) : Prop := ∀ (E : Ent) (g : Gh) (a : Act) (w : World), FI E g σ env a w → ∃ g', FI E g' σ' env' a w

section
variable {C : Ent → Prop} {P : Program} {R : List D → St → Prop} {c : Code} {p : List Nat} {k : List KI} {env env' : List D} {σ σ' : St} {i : Nat} {o : Oper} {d : D}

theorem at_seq (q r : List Nat) (h : sub c p = .seq (sub c q) (sub c r)) (hk : RunC C P R (.code (sub c q) :: .code (sub c r) :: k) env σ) : RunC C P R (.code (sub c p) :: k) env σ := by rw [h]; exact run_seq hk
theorem at_block (q : List Nat) (id : Nat) (h : sub c p = .block id (sub c q)) (hk : RunC C P R (.code (sub c q) :: .blk id :: k) env σ) : RunC C P R (.code (sub c p) :: k) env σ := by rw [h]; exact run_block hk
theorem at_loop (q : List Nat) (h : sub c p = .loop (sub c q)) (hk : RunC C P R (.lp (sub c q) :: k) env σ) : RunC C P R (.code (sub c p) :: k) env σ := by rw [h]; exact run_loop hk
theorem at_cond (q r : List Nat) {t : Operand} {b : Bool} (h : sub c p = .cond t (sub c q) (sub c r)) (hc : evD env t = .v (.bool b)) (ht : b = true → RunC C P R (.code (sub c q) :: k) env σ) (hf : b = false → RunC C P R (.code (sub c r) :: k) env σ) :
    RunC C P R (.code (sub c p) :: k) env σ := by rw [h]; exact run_cond hc ht hf
theorem at_true (q r : List Nat) {t : Operand} (h : sub c p = .cond t (sub c q) (sub c r)) (hc : evD env t = .v (.bool true)) (ht : RunC C P R (.code (sub c q) :: k) env σ) : RunC C P R (.code (sub c p) :: k) env σ :=
  at_cond q r h hc (fun _ => ht) (fun h => by simp at h)
theorem at_false (q r : List Nat) {t : Operand} (h : sub c p = .cond t (sub c q) (sub c r)) (hc : evD env t = .v (.bool false)) (hf : RunC C P R (.code (sub c r) :: k) env σ) : RunC C P R (.code (sub c p) :: k) env σ :=
  at_cond q r h hc (fun h => by simp at h) (fun _ => hf)
theorem at_skip (h : sub c p = .skip) (hk : RunC C P R k env σ) : RunC C P R (.code (sub c p) :: k) env σ := by rw [h]; exact run_skip hk
theorem at_label {l : Nat} (h : sub c p = .label l) (hk : RunC C P R k env σ) : RunC C P R (.code (sub c p) :: k) env σ := by rw [h]; exact run_label hk
theorem at_exit {id : Nat} {k' : List KI} (h : sub c p = .exit id) (hp : popK id k = some k') (hk : RunC C P R k' env σ) : RunC C P R (.code (sub c p) :: k) env σ := by rw [h]; exact run_exit hp hk
theorem at_ret (h : sub c p = .ret) (hk : R env σ) : RunC C P R (.code (sub c p) :: k) env σ := by rw [h]; exact run_ret hk

theorem at_region {id : Nat} (h : sub c p = .region id (opsIn (sub c p)) false) (hk : OpsAtC C P R c p 0 k env σ) : RunC C P R (.code (sub c p) :: k) env σ := by
  rw [h]
  intro E g a w B hC hfi hB
  simp only [KQ]
  exact wp_region_list (by have := hk E g a w B hC hfi hB; rwa [List.drop_zero] at this)

theorem run_cv (h : Cv env σ env' σ') (hk : RunC C P R k env' σ') : RunC C P R k env σ := fun E g a w B hC hf hB => by
  obtain ⟨g', hf'⟩ := h E g a w hf
  exact hk E g' a w B hC hf' hB
theorem at_cv (h : Cv env σ env' σ') (hk : OpsAtC C P R c p i k env' σ') : OpsAtC C P R c p i k env σ := fun E g a w B hC hf hB => by
  obtain ⟨g', hf'⟩ := h E g a w hf
  exact hk E g' a w B hC hf' hB
theorem ops_drop (ho : (opsIn (sub c p))[i]? = some o) : ((opsIn (sub c p)).toList.drop i) = o :: (opsIn (sub c p)).toList.drop (i + 1) := by
  have ho' : (opsIn (sub c p)).toList[i]? = some o := by simpa using ho
  rw [List.drop_eq_getElem_cons (List.getElem?_eq_some_iff.1 ho').1, (List.getElem?_eq_some_iff.1 ho').2]

theorem at_op (t : Option Tmp) (ho : (opsIn (sub c p))[i]? = some o) {ds : List D} (hg : wantD env (opsIn (sub c p)) o = some true) (ht : o.dst = t) (hds : evDs env o = ds) (h : OpOK P o ds σ d σ') (he : putD env t d = env') (hk : OpsAtC C P R c p (i + 1) k env' σ') : OpsAtC C P R c p i k env σ := by
  subst ht he hds
  intro E g a w B hC hf hB
  rw [ops_drop ho]
  unfold wpList
  rw [if_pos (wanted_of hf.env hg)]
  refine .inl (h E g a w _ _ hf.wi (repDs_map hf.env _) fun g' w' u hw' hg' hd => ?_)
  exact hk E g' _ _ B hC (hf.put hw' hg' hd o.dst) hB

/-- an operation with an effect -/
theorem at_opS {σ2 : St} (t : Option Tmp) (ho : (opsIn (sub c p))[i]? = some o) {ds : List D} (hg : wantD env (opsIn (sub c p)) o = some true) (ht : o.dst = t) (hds : evDs env o = ds) (h : OpOK P o ds σ d σ') (he : putD env t d = env') (hσ : σ' = σ2) (hk : OpsAtC C P R c p (i + 1) k env' σ2) : OpsAtC C P R c p i k env σ := by
  subst hσ; exact at_op t ho hg ht hds h he hk

/-- '&&', '||' -/
theorem at_pk (b : Bool) (s s1 t : Nat) {x y : Operand} (ho : (opsIn (sub c p))[i]? = some o) (hg : wantD env (opsIn (sub c p)) o = some true) (ht : o.dst = some t) (hop : o.op = .pick (.tmp s) x y) (hs : env[s]? = some (.v (.bool b))) (hx : (if b then x else y) = .tmp s1) (h1 : env[s1]? = some d) (he : env.set t d = env')
    (hk : OpsAtC C P R c p (i + 1) k env' σ) : OpsAtC C P R c p i k env σ := by
  refine at_op (some t) ho hg ht (ds := [.v (.bool b), evD env x, evD env y]) ?_ (op_pick hop) ?_ hk
  · simp [evDs, hop, Op.operands, evD, List.getD_eq_getElem?_getD, hs]
  · rw [← he]
    simp only [putD]
    congr 1
    cases b <;> simp at hx <;> subst hx <;> simp [evD, List.getD_eq_getElem?_getD, h1]
theorem at_pkc (b : Bool) (s t : Nat) {x y : Operand} {u : Value} (ho : (opsIn (sub c p))[i]? = some o) (hg : wantD env (opsIn (sub c p)) o = some true) (ht : o.dst = some t) (hop : o.op = .pick (.tmp s) x y) (hs : env[s]? = some (.v (.bool b))) (hx : (if b then x else y) = .const u) (h1 : constD u = d) (he : env.set t d = env')
    (hk : OpsAtC C P R c p (i + 1) k env' σ) : OpsAtC C P R c p i k env σ := by
  refine at_op (some t) ho hg ht (ds := [.v (.bool b), evD env x, evD env y]) ?_ (op_pick hop) ?_ hk
  · simp [evDs, hop, Op.operands, evD, List.getD_eq_getElem?_getD, hs]
  · rw [← he]
    simp only [putD]
    congr 1
    cases b <;> simp at hx <;> subst hx <;> simp [evD, h1]

theorem ev_tmp {s : Nat} (hs : env[s]? = some d) : evD env (.tmp s) = d := by simp [evD, List.getD_eq_getElem?_getD, hs]

/-- a store into an object -/
theorem at_st1 (sa : Nat) (xv : Operand) {ty : TypeId} {q off : Nat} {cs : List D} {σ2 : St} (ho : (opsIn (sub c p))[i]? = some o) (hg : wantD env (opsIn (sub c p)) o = some true) (ht : o.dst = none) (hop : o.op = .store ty (.tmp sa) xv) (ha : env[sa]? = some (.ptr q off)) (hv : evD env xv = d) (h1 : d.one = true) (hty : OneTy P ty)
    (hq : σ.H[q]? = some (some cs)) (hoff : off < cs.length) (hσ : ⟨σ.H.set q (some (cs.set off d)), σ.own⟩ = σ2) (hk : OpsAtC C P R c p (i + 1) k env σ2) : OpsAtC C P R c p i k env σ := by
  subst hσ
  refine at_op none ho hg ht (ds := [.ptr q off, d]) ?_ (op_store1 hop h1 hty hq hoff) rfl hk
  simp [evDs, hop, Op.operands, ev_tmp ha, hv]
theorem at_stA (sa : Nat) (xv : Operand) {ty : TypeId} {q off n : Nat} {cs : List D} {σ2 : St} {b : Bool} (ho : (opsIn (sub c p))[i]? = some o) (hg : wantD env (opsIn (sub c p)) o = some true) (ht : o.dst = none) (hop : o.op = .store ty (.tmp sa) xv) (ha : env[sa]? = some (.ptr q off)) (hv : evD env xv = d) (h1 : d.sto = true) (hty : szAgg P ty = some (n, b))
    (hn : (cellsD d).length = n) (hq : σ.H[q]? = some (some cs)) (hoff : off + n ≤ cs.length) (hσ : ⟨σ.H.set q (some (cs.take off ++ cellsD d ++ cs.drop (off + n))), σ.own⟩ = σ2) (hk : OpsAtC C P R c p (i + 1) k env σ2) : OpsAtC C P R c p i k env σ := by
  subst hσ
  refine at_op none ho hg ht (ds := [.ptr q off, d]) ?_ (op_store hop h1 hty hn hq hoff) rfl hk
  simp [evDs, hop, Op.operands, ev_tmp ha, hv]
theorem at_box (x : Operand) (t : Nat) {ty : TypeId} {σ2 : St} (ho : (opsIn (sub c p))[i]? = some o) (hg : wantD env (opsIn (sub c p)) o = some true) (ht : o.dst = some t) (hop : o.op = .box ty x) (hv : evD env x = d) (h1 : d.sto = true) (he : env.set t (.ptr σ.H.length 0) = env') (hσ : ⟨σ.H ++ [some (cellsD d)], σ.own⟩ = σ2)
    (hk : OpsAtC C P R c p (i + 1) k env' σ2) : OpsAtC C P R c p i k env σ := by
  subst hσ
  refine at_op (some t) ho hg ht (ds := [d]) ?_ (op_box hop h1) he hk
  simp [evDs, hop, Op.operands, hv]

/-- a copy -/
theorem at_mv (s t : Nat) (ho : (opsIn (sub c p))[i]? = some o) (hg : wantD env (opsIn (sub c p)) o = some true) (ht : o.dst = some t) (hop : o.op = .move (.tmp s) ∨ o.op = .assign (.tmp s)) (hs : env[s]? = some d) (he : env.set t d = env') (hk : OpsAtC C P R c p (i + 1) k env' σ) : OpsAtC C P R c p i k env σ := by
  have hds : evDs env o = [d] := by rcases hop with h | h <;> simp [evDs, h, Op.operands, evD, List.getD_eq_getElem?_getD, hs]
  refine at_op (some t) ho hg ht hds ?_ he hk
  rcases hop with h | h
  · exact op_move h
  · exact op_assign h

/-- a constant -/
theorem at_mc {u : Value} (t : Nat) (ho : (opsIn (sub c p))[i]? = some o) (hg : wantD env (opsIn (sub c p)) o = some true) (ht : o.dst = some t) (hop : o.op = .move (.const u) ∨ o.op = .assign (.const u)) (hs : constD u = d) (he : env.set t d = env') (hk : OpsAtC C P R c p (i + 1) k env' σ) : OpsAtC C P R c p i k env σ := by
  have hds : evDs env o = [d] := by rcases hop with h | h <;> simp [evDs, h, Op.operands, evD, hs]
  refine at_op (some t) ho hg ht hds ?_ he hk
  rcases hop with h | h
  · exact op_move h
  · exact op_assign h

/-- a guarded operation that is not run -/
theorem at_opN (t : Option Tmp) (ho : (opsIn (sub c p))[i]? = some o) (hg : wantD env (opsIn (sub c p)) o = some false) (ht : o.dst = t) (he : putD env t (.tup []) = env') (hk : OpsAtC C P R c p (i + 1) k env' σ) : OpsAtC C P R c p i k env σ := by
  subst ht he
  intro E g a w B hC hf hB
  rw [ops_drop ho]
  unfold wpList
  rw [if_neg (by rw [wanted_of hf.env hg]; simp)]
  exact hk E g _ _ B hC (hf.put hf.wi g.le_refl (repD_undef g) o.dst) hB

theorem at_end (h : (opsIn (sub c p)).size = i) (hk : RunC C P R k env σ) : OpsAtC C P R c p i k env σ := by
  intro E g a w B hC hf hB
  rw [List.drop_of_length_le (by simp [h])]
  exact hk E g a w B hC hf hB

/-- a slot's truth value, by cases -/
theorem at_split (t : Nat) {b : Bool} (hs : env[t]? = some (.v (.bool b))) (ht : b = true → ∀ env', env.set t (.v (.bool true)) = env' → OpsAtC C P R c p i k env' σ) (hf : b = false → ∀ env', env.set t (.v (.bool false)) = env' → OpsAtC C P R c p i k env' σ) : OpsAtC C P R c p i k env σ := by
  have key : ∀ b', b = b' → env.set t (.v (.bool b')) = env := by
    intro b' e; subst e
    apply List.ext_getElem?
    intro j
    rw [List.getElem?_set]
    split
    · rename_i e; subst e
      split
      · exact hs.symm
      · rename_i hl; rw [List.getElem?_eq_none (by omega)] at hs; simp at hs
    · rfl
  cases b with
  | true => exact ht rfl env (key true rfl)
  | false => exact hf rfl env (key false rfl)

theorem run_split (t : Nat) {b : Bool} (hs : env[t]? = some (.v (.bool b))) (ht : b = true → ∀ env', env.set t (.v (.bool true)) = env' → RunC C P R k env' σ) (hf : b = false → ∀ env', env.set t (.v (.bool false)) = env' → RunC C P R k env' σ) : RunC C P R k env σ := by
  have key : ∀ b', b = b' → env.set t (.v (.bool b')) = env := by
    intro b' e; subst e
    apply List.ext_getElem?
    intro j
    rw [List.getElem?_set]
    split
    · rename_i e; subst e
      split
      · exact hs.symm
      · rename_i hl; rw [List.getElem?_eq_none (by omega)] at hs; simp at hs
    · rfl
  cases b with
  | true => exact ht rfl env (key true rfl)
  | false => exact hf rfl env (key false rfl)

/-- slots that are forgotten -/
inductive Wk : List D → List D → Prop
  | nil : Wk [] []
  | keep {d : D} {l l' : List D} (h : Wk l l') : Wk (d :: l) (d :: l')
  | drop {d : D} {l l' : List D} (h : Wk l l') : Wk (d :: l) (.undef :: l')

theorem Wk.ok : ∀ {l l' : List D}, Wk l l' → l'.length = l.length ∧ ∀ (i : Nat) (d' : D), l'[i]? = some d' → d' = .undef ∨ l[i]? = some d'
  | _, _, .nil => ⟨rfl, fun i d' h => by simp at h⟩
  | _, _, .keep h => by
    obtain ⟨h1, h2⟩ := h.ok
    refine ⟨by simp [h1], fun i d' hi => ?_⟩
    cases i with
    | zero => exact .inr hi
    | succ i => exact h2 i d' (by simpa using hi)
  | _, _, .drop h => by
    obtain ⟨h1, h2⟩ := h.ok
    refine ⟨by simp [h1], fun i d' hi => ?_⟩
    cases i with
    | zero => simp at hi; exact .inl hi.symm
    | succ i => exact h2 i d' (by simpa using hi)

theorem run_wk (hw : Wk env env') (h : RunC C P R k env' σ) : RunC C P R k env σ := run_forget hw.ok.1 hw.ok.2 h

/- results of functions that were handed no object -/
theorem ret_one {fn : Func} {t : Tmp} {d' : D} (hr : fn.results.toList = [.tmp t]) (hs : env[t]? = some d') (he : d' = d) (hp : d'.pl = true) : ResOK P fn env σ d ⟨[], []⟩ := by
  subst he
  refine res_ok (ds := [d']) (by rw [hr]; exact .tmp hs .nil) rfl 0 (by simp) (by simp) (fun i cs h => by simp at h) (by simp) ?_
  cases d' <;> simp_all [okR, D.pl]

theorem ret_un {fn : Func} {t : Tmp} {tag : Nat} {xs ys : List V} (hr : fn.results.toList = [.tmp t]) (hs : env[t]? = some (.acc tag xs)) (he : xs = ys) : ResOK P fn env σ (.v (.list ys)) ⟨[], []⟩ := by
  subst he
  intro E g a w hf hE
  obtain ⟨us, h1, h2⟩ := (ResL.tmp (P := P) hs .nil).run hf
  obtain ⟨u, rfl, h3⟩ := repDs_one.1 h2
  refine ⟨u, _, ?_, hf.wi.restrict (σ' := ⟨[], []⟩) (m := 0) (by simp) (by simp) (by simpa using hE) (fun i cs h => by simp at h) (by simp), ?_⟩
  · rw [results_eq, Array.mapM_eq_mapM_toList, hr]
    simp only [Sem.run_bind, Sem.run_map, h1, Result.andThen_ok]
    rfl
  · simp only [repD] at h3 ⊢; exact h3.1

theorem ret_acc {fn : Func} {t : Tmp} {tag sz : Nat} {xs ys : List V} (hr : fn.results.toList = [.tmp t]) (hs : env[t]? = some (.acc tag xs)) (ho : σ.own = [(tag, sz, xs)]) (he : xs = ys) : ResOK P fn env σ (.acc tag ys) ⟨[], [(tag, sz, ys)]⟩ := by
  subst he
  exact res_ok (ds := [.acc tag xs]) (by rw [hr]; exact .tmp hs .nil) rfl 0 (by simp) (by simp) (fun i cs h => by simp at h) (by simp [ho]) (by simp [okR])

theorem ret_two {fn : Func} {t t2 : Tmp} {d1 d2 e1 e2 : D} (hr : fn.results.toList = [.tmp t, .tmp t2]) (hs : env[t]? = some d1) (hs2 : env[t2]? = some d2) (h1 : d1.un = e1) (h2 : d2.un = e2) (hp : e1.pl = true) (hp2 : e2.pl = true) : ResOK P fn env σ (.tup [e1, e2]) ⟨[], []⟩ := by
  subst h1 h2
  intro E g a w hf hE
  obtain ⟨us, h1, h2⟩ := (ResL.tmp (P := P) hs (.tmp hs2 .nil)).run hf
  obtain ⟨u, v, rfl, h3, h4⟩ := repDs_two.1 h2
  refine ⟨.tuple #[u, v], _, ?_, hf.wi.restrict (σ' := ⟨[], []⟩) (m := 0) (by simp) (by simp) (by simpa using hE) (fun i cs h => by simp at h) (by simp), ?_⟩
  · rw [results_eq, Array.mapM_eq_mapM_toList, hr]
    simp only [Sem.run_bind, Sem.run_map, h1, Result.andThen_ok]
    rfl
  · simp only [repD]
    exact ⟨[u, v], rfl, repDs_two.2 ⟨u, v, rfl, repD_pl (by rfl) hp (repD_un h3), repD_pl (by rfl) hp2 (repD_un h4)⟩⟩

/- results of functions that were handed one object -/
theorem ret_one1 {fn : Func} {t : Tmp} {d' : D} {os : List D} (hr : fn.results.toList = [.tmp t]) (hs : env[t]? = some d') (he : d' = d) (hp : d'.pl = true) (hH : σ.H.take 1 = [some os]) (hos : D.pls os = true) : ResOK P fn env σ d ⟨[some os], []⟩ := by
  subst he
  refine res_ok (ds := [d']) (by rw [hr]; exact .tmp hs .nil) rfl 1 hH.symm ?_ (fun i cs h => ?_) (by simp) ?_
  · have := congrArg List.length hH; simp at this; omega
  · cases i with
    | zero => simp at h; subst h; exact hos
    | succ i => simp at h
  · cases d' <;> simp_all [okR, D.pl]

theorem ret_acc1 {fn : Func} {t : Tmp} {tag sz : Nat} {xs ys : List V} {os : List D} (hr : fn.results.toList = [.tmp t]) (hs : env[t]? = some (.acc tag xs)) (ho : σ.own = [(tag, sz, xs)]) (he : xs = ys) (hH : σ.H.take 1 = [some os]) (hos : D.pls os = true) :
    ResOK P fn env σ (.acc tag ys) ⟨[some os], [(tag, sz, ys)]⟩ := by
  subst he
  refine res_ok (ds := [.acc tag xs]) (by rw [hr]; exact .tmp hs .nil) rfl 1 hH.symm ?_ (fun i cs h => ?_) (by simp [ho]) (by simp [okR])
  · have := congrArg List.length hH; simp at this; omega
  · cases i with
    | zero => simp at h; subst h; exact hos
    | succ i => simp at h

/- regions that draw their order -/
def DAt (P : Program) (c : Code) (p : List Nat) (sts : Bool → List St) (fr : Nat) (i : Nat) (env : List D) (j : Nat) (effs : List Ef) (K : List D → Nat → List Ef → Prop) : Prop :=
  ∃ vals effs' env' j', DRun P (opsIn (sub c p)) sts fr ((opsIn (sub c p)).toList.drop i) env j vals effs' env' j' ∧ K env' j' (effs ++ effs')

theorem da_end {sts : Bool → List St} {fr : Nat} {j : Nat} {effs : List Ef} {K : List D → Nat → List Ef → Prop} (h : (opsIn (sub c p)).size = i) (hk : K env j effs) : DAt P c p sts fr i env j effs K := by
  refine ⟨[], [], env, j, ?_, by simpa using hk⟩
  rw [List.drop_of_length_le (by simp [h])]
  exact .nil

theorem drop_cons (ho : (opsIn (sub c p))[i]? = some o) : ((opsIn (sub c p)).toList.drop i) = o :: (opsIn (sub c p)).toList.drop (i + 1) := by
  have ho' : (opsIn (sub c p)).toList[i]? = some o := by simpa using ho
  rw [List.drop_eq_getElem_cons (List.getElem?_eq_some_iff.1 ho').1, (List.getElem?_eq_some_iff.1 ho').2]

theorem idx_rest (ho : (opsIn (sub c p))[i]? = some o) : (opsIn (sub c p)).size - (((opsIn (sub c p)).toList.drop (i + 1)).length + 1) = i := by
  have := (Array.getElem?_eq_some_iff.1 ho).1
  simp; omega

theorem da_quietG (t : Option Tmp) {sts : Bool → List St} {fr : Nat} {j : Nat} {effs : List Ef} {K : List D → Nat → List Ef → Prop} (ho : (opsIn (sub c p))[i]? = some o) (hg : wantD env (opsIn (sub c p)) o = some true) {ds : List D} (hds : evDs env o = ds)
    (ht : o.dst = t) (h : ∀ b, ∀ s ∈ sts b, OpOK P o ds s d s) (he : putD env t d = env') (hk : DAt P c p sts fr (i + 1) env' j (effs ++ [(false, none)]) K) (hne : i ≠ fr := by decide) : DAt P c p sts fr i env j effs K := by
  obtain ⟨vals, effs', env2, j', h1, h2⟩ := hk
  subst ht hds he
  refine ⟨d :: vals, (false, none) :: effs', env2, j', ?_, by simpa using h2⟩
  rw [drop_cons ho]
  exact .quiet (by rw [idx_rest ho]; exact hne) hg h h1

theorem da_quiet (t : Option Tmp) {sts : List St} {fr : Nat} {j : Nat} {effs : List Ef} {K : List D → Nat → List Ef → Prop} (ho : (opsIn (sub c p))[i]? = some o) (hg : wantD env (opsIn (sub c p)) o = some true) {ds : List D} (hds : evDs env o = ds)
    (ht : o.dst = t) (h : ∀ s ∈ sts, OpOK P o ds s d s) (he : putD env t d = env') (hk : DAt P c p (fun _ => sts) fr (i + 1) env' j (effs ++ [(false, none)]) K) (hne : i ≠ fr := by decide) : DAt P c p (fun _ => sts) fr i env j effs K :=
  da_quietG t ho hg hds ht (fun _ => h) he hk hne

def stsOf (LF LT : List St) : Bool → List St
  | false => LF
  | true => LT
/-- in both chains of states -/
theorem da_quiet2 (t : Option Tmp) {LF LT : List St} {fr : Nat} {j : Nat} {effs : List Ef} {K : List D → Nat → List Ef → Prop} (ho : (opsIn (sub c p))[i]? = some o) (hg : wantD env (opsIn (sub c p)) o = some true) {ds : List D} (hds : evDs env o = ds)
    (ht : o.dst = t) (h : ∀ s ∈ LF ++ LT, OpOK P o ds s d s) (he : putD env t d = env') (hk : DAt P c p (stsOf LF LT) fr (i + 1) env' j (effs ++ [(false, none)]) K) (hne : i ≠ fr := by decide) : DAt P c p (stsOf LF LT) fr i env j effs K :=
  da_quietG t ho hg hds ht (fun b s hs => h s (by cases b <;> simp [stsOf] at hs <;> simp [hs])) he hk hne

/-- known to hold up to a count of effects alone -/
theorem da_quietW (lim : Nat) (t : Option Tmp) {sts : List St} {fr : Nat} {j : Nat} {effs : List Ef} {K : List D → Nat → List Ef → Prop} (ho : (opsIn (sub c p))[i]? = some o) (hg : wantD env (opsIn (sub c p)) o = some true) {ds : List D} (hds : evDs env o = ds)
    (ht : o.dst = t) (h : ∀ s ∈ sts.take (lim + 1), OpOK P o ds s d s) (he : putD env t d = env') (hk : DAt P c p (fun _ => sts) fr (i + 1) env' j (effs ++ [(false, some lim)]) K) (hne : i ≠ fr := by decide) : DAt P c p (fun _ => sts) fr i env j effs K := by
  obtain ⟨vals, effs', env2, j', h1, h2⟩ := hk
  subst ht hds he
  refine ⟨d :: vals, (false, some lim) :: effs', env2, j', ?_, by simpa using h2⟩
  rw [drop_cons ho]
  exact .quietW lim (by rw [idx_rest ho]; exact hne) hg (fun _ c s hc hs => h s (List.mem_of_getElem? (i := c) (by rw [List.getElem?_take, if_pos (by omega)]; exact hs))) h1
theorem da_quietW2 (lim : Nat) (t : Option Tmp) {LF LT : List St} {fr : Nat} {j : Nat} {effs : List Ef} {K : List D → Nat → List Ef → Prop} (ho : (opsIn (sub c p))[i]? = some o) (hg : wantD env (opsIn (sub c p)) o = some true) {ds : List D} (hds : evDs env o = ds)
    (ht : o.dst = t) (h : ∀ s ∈ LF.take (lim + 1) ++ LT.take (lim + 1), OpOK P o ds s d s) (he : putD env t d = env') (hk : DAt P c p (stsOf LF LT) fr (i + 1) env' j (effs ++ [(false, some lim)]) K) (hne : i ≠ fr := by decide) : DAt P c p (stsOf LF LT) fr i env j effs K := by
  obtain ⟨vals, effs', env2, j', h1, h2⟩ := hk
  subst ht hds he
  refine ⟨d :: vals, (false, some lim) :: effs', env2, j', ?_, by simpa using h2⟩
  rw [drop_cons ho]
  refine .quietW lim (by rw [idx_rest ho]; exact hne) hg (fun b c s hc hs => h s ?_) h1
  have hm : ∀ l : List St, l[c]? = some s → s ∈ l.take (lim + 1) := fun l hl => List.mem_of_getElem? (i := c) (by rw [List.getElem?_take, if_pos (by omega)]; exact hl)
  cases b
  · exact List.mem_append_left _ (hm LF hs)
  · exact List.mem_append_right _ (hm LT hs)

theorem da_skip (t : Option Tmp) {sts : Bool → List St} {fr : Nat} {j : Nat} {effs : List Ef} {K : List D → Nat → List Ef → Prop} (ho : (opsIn (sub c p))[i]? = some o) (hg : wantD env (opsIn (sub c p)) o = some false) (ht : o.dst = t) (he : putD env t (.tup []) = env')
    (hk : DAt P c p sts fr (i + 1) env' j (effs ++ [(false, none)]) K) (hne : i ≠ fr := by decide) : DAt P c p sts fr i env j effs K := by
  obtain ⟨vals, effs', env2, j', h1, h2⟩ := hk
  subst ht he
  refine ⟨.tup [] :: vals, (false, none) :: effs', env2, j', ?_, by simpa using h2⟩
  rw [drop_cons ho]
  exact .skip (by rw [idx_rest ho]; exact hne) hg h1

theorem da_eff (t : Option Tmp) {sts : List St} {fr : Nat} {j : Nat} {effs : List Ef} {K : List D → Nat → List Ef → Prop} (ho : (opsIn (sub c p))[i]? = some o) (hg : wantD env (opsIn (sub c p)) o = some true) {ds : List D} (hds : evDs env o = ds) {s s' : St} (hs : sts[j]? = some s) (hs' : sts[j + 1]? = some s')
    (ht : o.dst = t) (h : OpOK P o ds s d s') (he : putD env t d = env') (hk : DAt P c p (fun _ => sts) fr (i + 1) env' (j + 1) (effs ++ [(true, none)]) K) (hne : i ≠ fr := by decide) : DAt P c p (fun _ => sts) fr i env j effs K := by
  obtain ⟨vals, effs', env2, j', h1, h2⟩ := hk
  subst ht hds he
  refine ⟨d :: vals, (true, none) :: effs', env2, j', ?_, by simpa using h2⟩
  rw [drop_cons ho]
  exact .eff (by rw [idx_rest ho]; exact hne) hg (fun b x hx _ => ⟨s', hs', by rw [hs] at hx; simp at hx; subst hx; exact h⟩) h1

/-- an effect in both chains of states -/
theorem da_eff2 (t : Option Tmp) {LF LT : List St} {fr : Nat} {j : Nat} {effs : List Ef} {K : List D → Nat → List Ef → Prop} (ho : (opsIn (sub c p))[i]? = some o) (hg : wantD env (opsIn (sub c p)) o = some true) {ds : List D} (hds : evDs env o = ds) {s s' r r' : St} (hs : LF[j]? = some s) (hs' : LF[j + 1]? = some s') (hr : LT[j]? = some r) (hr' : LT[j + 1]? = some r')
    (ht : o.dst = t) (h : OpOK P o ds s d s') (hT : OpOK P o ds r d r') (he : putD env t d = env') (hk : DAt P c p (stsOf LF LT) fr (i + 1) env' (j + 1) (effs ++ [(true, none)]) K) (hne : i ≠ fr := by decide) : DAt P c p (stsOf LF LT) fr i env j effs K := by
  obtain ⟨vals, effs', env2, j', h1, h2⟩ := hk
  subst ht hds he
  refine ⟨d :: vals, (true, none) :: effs', env2, j', ?_, by simpa using h2⟩
  rw [drop_cons ho]
  refine .eff (by rw [idx_rest ho]; exact hne) hg (fun b x hx _ => ?_) h1
  cases b
  · exact ⟨s', hs', by simp only [stsOf] at hx; rw [hs] at hx; simp at hx; subst hx; exact h⟩
  · exact ⟨r', hr', by simp only [stsOf] at hx; rw [hr] at hx; simp at hx; subst hx; exact hT⟩

/-- an effect that waits for the free operation -/
theorem da_effT (t : Option Tmp) {LF LT : List St} {fr : Nat} {j : Nat} {effs : List Ef} {K : List D → Nat → List Ef → Prop} (ho : (opsIn (sub c p))[i]? = some o) (hg : wantD env (opsIn (sub c p)) o = some true) {ds : List D} (hds : evDs env o = ds) {r r' : St} (hr : LT[j]? = some r) (hr' : LT[j + 1]? = some r')
    (ht : o.dst = t) (hnd : needs (opsIn (sub c p)) i fr = true) (hT : OpOK P o ds r d r') (he : putD env t d = env') (hk : DAt P c p (stsOf LF LT) fr (i + 1) env' (j + 1) (effs ++ [(true, none)]) K) (hne : i ≠ fr := by decide) : DAt P c p (stsOf LF LT) fr i env j effs K := by
  obtain ⟨vals, effs', env2, j', h1, h2⟩ := hk
  subst ht hds he
  refine ⟨d :: vals, (true, none) :: effs', env2, j', ?_, by simpa using h2⟩
  rw [drop_cons ho]
  refine .eff (by rw [idx_rest ho]; exact hne) hg (fun b x hx hn => ?_) h1
  cases b
  · have := hn rfl
    rw [idx_rest ho, hnd] at this
    exact absurd this (by simp)
  · exact ⟨r', hr', by simp only [stsOf] at hx; rw [hr] at hx; simp at hx; subst hx; exact hT⟩

/-- an operation that may be run at any time: it leads from one chain of states to the other -/
theorem da_free (t : Option Tmp) {LF LT : List St} {fr : Nat} {j : Nat} {effs : List Ef} {K : List D → Nat → List Ef → Prop} (ho : (opsIn (sub c p))[i]? = some o) (hg : wantD env (opsIn (sub c p)) o = some true) {ds : List D} (hds : evDs env o = ds)
    (ht : o.dst = t) (hl : LF.length ≤ LT.length) (h : ∀ x ∈ LF.zip LT, OpOK P o ds x.1 d x.2) (he : putD env t d = env') (hk : DAt P c p (stsOf LF LT) fr (i + 1) env' j (effs ++ [(false, none)]) K) (hf : fr = i := by decide) : DAt P c p (stsOf LF LT) fr i env j effs K := by
  obtain ⟨vals, effs', env2, j', h1, h2⟩ := hk
  subst ht hds he
  refine ⟨d :: vals, (false, none) :: effs', env2, j', ?_, by simpa using h2⟩
  rw [drop_cons ho]
  refine .free (by rw [idx_rest ho]; exact hf) hg (fun c s hs => ?_) h1
  have hc : c < LT.length := Nat.lt_of_lt_of_le (List.getElem?_eq_some_iff.1 hs).1 hl
  refine ⟨LT[c], List.getElem?_eq_getElem hc, h (s, LT[c]) (List.mem_of_getElem? (i := c) ?_)⟩
  simp only [stsOf] at hs
  simp [List.getElem?_zip_eq_some, hs, hc]

theorem da_split {sts : Bool → List St} {fr : Nat} {j : Nat} {effs : List Ef} {K : List D → Nat → List Ef → Prop} (t : Nat) {b : Bool} (hs : env[t]? = some (.v (.bool b))) (ht : b = true → ∀ env', env.set t (.v (.bool true)) = env' → DAt P c p sts fr i env' j effs K)
    (hf : b = false → ∀ env', env.set t (.v (.bool false)) = env' → DAt P c p sts fr i env' j effs K) : DAt P c p sts fr i env j effs K := by
  have key : ∀ b', b = b' → env.set t (.v (.bool b')) = env := by
    intro b' e; subst e
    apply List.ext_getElem?
    intro j
    rw [List.getElem?_set]
    split
    · rename_i e; subst e
      split
      · exact hs.symm
      · rename_i hl; rw [List.getElem?_eq_none (by omega)] at hs; simp at hs
    · rfl
  cases b with
  | true => exact ht rfl env (key true rfl)
  | false => exact hf rfl env (key false rfl)

/-- a copy, a constant, in a region that draws -/
theorem da_mv {sts : Bool → List St} {fr : Nat} {j : Nat} {effs : List Ef} {K : List D → Nat → List Ef → Prop} (s t : Nat) (ho : (opsIn (sub c p))[i]? = some o) (hg : wantD env (opsIn (sub c p)) o = some true) (ht : o.dst = some t) (hop : o.op = .move (.tmp s) ∨ o.op = .assign (.tmp s)) (hs : env[s]? = some d)
    (he : env.set t d = env') (hk : DAt P c p sts fr (i + 1) env' j (effs ++ [(false, none)]) K) (hne : i ≠ fr := by decide) : DAt P c p sts fr i env j effs K := by
  have hds : evDs env o = [d] := by rcases hop with h | h <;> simp [evDs, h, Op.operands, evD, List.getD_eq_getElem?_getD, hs]
  refine da_quietG (some t) ho hg hds ht (fun _ _ _ => ?_) he hk hne
  rcases hop with h | h
  · exact op_move h
  · exact op_assign h
theorem da_mc {sts : Bool → List St} {fr : Nat} {j : Nat} {effs : List Ef} {K : List D → Nat → List Ef → Prop} {u : Value} (t : Nat) (ho : (opsIn (sub c p))[i]? = some o) (hg : wantD env (opsIn (sub c p)) o = some true) (ht : o.dst = some t) (hop : o.op = .move (.const u) ∨ o.op = .assign (.const u)) (hs : constD u = d)
    (he : env.set t d = env') (hk : DAt P c p sts fr (i + 1) env' j (effs ++ [(false, none)]) K) (hne : i ≠ fr := by decide) : DAt P c p sts fr i env j effs K := by
  have hds : evDs env o = [d] := by rcases hop with h | h <;> simp [evDs, h, Op.operands, evD, hs]
  refine da_quietG (some t) ho hg hds ht (fun _ _ _ => ?_) he hk hne
  rcases hop with h | h
  · exact op_move h
  · exact op_assign h
theorem da_pk {sts : Bool → List St} {fr : Nat} {j : Nat} {effs : List Ef} {K : List D → Nat → List Ef → Prop} (b : Bool) (s s1 t : Nat) {x y : Operand} (ho : (opsIn (sub c p))[i]? = some o) (hg : wantD env (opsIn (sub c p)) o = some true) (ht : o.dst = some t) (hop : o.op = .pick (.tmp s) x y) (hs : env[s]? = some (.v (.bool b)))
    (hx : (if b then x else y) = .tmp s1) (h1 : env[s1]? = some d) (he : env.set t d = env') (hk : DAt P c p sts fr (i + 1) env' j (effs ++ [(false, none)]) K) (hne : i ≠ fr := by decide) : DAt P c p sts fr i env j effs K := by
  refine da_quietG (some t) ho hg (ds := [.v (.bool b), evD env x, evD env y]) ?_ ht (fun _ _ _ => op_pick hop) ?_ hk hne
  · simp [evDs, hop, Op.operands, evD, List.getD_eq_getElem?_getD, hs]
  · rw [← he]
    simp only [putD]
    congr 1
    cases b <;> simp at hx <;> subst hx <;> simp [evD, List.getD_eq_getElem?_getD, h1]
theorem da_pkc {sts : Bool → List St} {fr : Nat} {j : Nat} {effs : List Ef} {K : List D → Nat → List Ef → Prop} (b : Bool) (s t : Nat) {x y : Operand} {u : Value} (ho : (opsIn (sub c p))[i]? = some o) (hg : wantD env (opsIn (sub c p)) o = some true) (ht : o.dst = some t) (hop : o.op = .pick (.tmp s) x y) (hs : env[s]? = some (.v (.bool b)))
    (hx : (if b then x else y) = .const u) (h1 : constD u = d) (he : env.set t d = env') (hk : DAt P c p sts fr (i + 1) env' j (effs ++ [(false, none)]) K) (hne : i ≠ fr := by decide) : DAt P c p sts fr i env j effs K := by
  refine da_quietG (some t) ho hg (ds := [.v (.bool b), evD env x, evD env y]) ?_ ht (fun _ _ _ => op_pick hop) ?_ hk hne
  · simp [evDs, hop, Op.operands, evD, List.getD_eq_getElem?_getD, hs]
  · rw [← he]
    simp only [putD]
    congr 1
    cases b <;> simp at hx <;> subst hx <;> simp [evD, h1]

theorem da_st1 {sts : List St} {fr : Nat} {j : Nat} {effs : List Ef} {K : List D → Nat → List Ef → Prop} (sa : Nat) (xv : Operand) {ty : TypeId} {q off : Nat} {cs : List D} {s s' : St} (ho : (opsIn (sub c p))[i]? = some o) (hg : wantD env (opsIn (sub c p)) o = some true) (ht : o.dst = none) (hs : sts[j]? = some s) (hs' : sts[j + 1]? = some s')
    (hop : o.op = .store ty (.tmp sa) xv) (ha : env[sa]? = some (.ptr q off)) (hv : evD env xv = d) (h1 : d.one = true) (hty : OneTy P ty)
    (hq : s.H[q]? = some (some cs)) (hoff : off < cs.length) (hσ : ⟨s.H.set q (some (cs.set off d)), s.own⟩ = s') (hk : DAt P c p (fun _ => sts) fr (i + 1) env (j + 1) (effs ++ [(true, none)]) K) (hne : i ≠ fr := by decide) : DAt P c p (fun _ => sts) fr i env j effs K := by
  subst hσ
  refine da_eff none ho hg (ds := [.ptr q off, d]) ?_ hs hs' ht (op_store1 hop h1 hty hq hoff) rfl hk hne
  simp [evDs, hop, Op.operands, ev_tmp ha, hv]

theorem at_draw {id : Nat} (hm : P.follows .mixedOrders = true) (h : sub c p = .region id (opsIn (sub c p)) true) (sts : List St) (h0 : sts[0]? = some σ)
    (hk : DAt P c p (fun _ => sts) 1000000 0 env 0 [] (fun env' j' effs => drawOK (opsIn (sub c p)) effs = true ∧ ∃ σ', sts[j']? = some σ' ∧ RunC C P R k env' σ')) : RunC C P R (.code (sub c p) :: k) env σ := by
  obtain ⟨vals, effs, env', j', h1, h2, σ', h3, h4⟩ := hk
  rw [h]
  exact run_draw hm (fun _ => sts) 1000000 h0 h3 (by simpa using h1) (by simpa using h2) h4

/-- with one operation that may be run at any time -/
theorem at_draw2 {id : Nat} (hm : P.follows .mixedOrders = true) (h : sub c p = .region id (opsIn (sub c p)) true) (fr : Nat) (LF LT : List St) (hfr : fr < (opsIn (sub c p)).size) (h0 : LF[0]? = some σ)
    (hk : DAt P c p (stsOf LF LT) fr 0 env 0 [] (fun env' j' effs => drawOK (opsIn (sub c p)) effs = true ∧ ∃ σ', LT[j']? = some σ' ∧ RunC C P R k env' σ')) : RunC C P R (.code (sub c p) :: k) env σ := by
  obtain ⟨vals, effs, env', j', h1, h2, σ', h3, h4⟩ := hk
  rw [h]
  exact run_draw hm (stsOf LF LT) fr h0 (by rw [decide_eq_true hfr]; exact h3) (by simpa using h1) (by simpa using h2) h4

/-- a function's body by its place -/
theorem spec_at {f : FuncId} {fn : Func} {ds : List D} {σ σ' : St} {d : D} (c : Code) (hf : P.funcs[f]? = some fn) (hb : fn.body = some c) (hn : (fn.name == "runtime.NumGoroutine") = false) (hH : σ.H.length ≤ σ'.H.length)
    (env : List D) (he : ds ++ List.replicate (fn.ntmps - ds.length) .undef = env) (h : Run P (fun env σ1 => ResOK P fn env σ1 d σ') [.code (sub c [])] env σ) : FSpec P f ds σ d σ' := by
  subst he
  refine spec_of_run hf hb hn hH ?_
  have : sub c [] = c := by cases c <;> rfl
  rwa [this] at h

end
end Go.Dv
