/-
  A reckoned walk: a region that draws its order. No program is named here.
-/
import Derived.Test.YtaceggcohmmfhaaEa
namespace Go.Nv
open Go.Dv

/-- what an operation of such a region is: quiet; a load behind so many effects; an effect -/
inductive DK where
  | q
  | l (j q off n : Nat)
  | e
def DK.eff : DK → Bool
  | .e => true
  | _ => false
/-- where the effect number j stands -/
noncomputable def effPos (rec : List DK) (j : Nat) : Option Nat :=
  List.rec (motive := fun _ => Nat → Nat → Option Nat) (fun _ _ => none) (fun d _ ih i j => Bool.rec (ih (Nat.succ i) j) (Nat.rec (motive := fun _ => Option Nat) (some i) (fun j _ => ih (Nat.succ i) j) j) d.eff) rec 0 j
noncomputable def limOf (ops : Array Oper) (rec : List DK) (i j : Nat) : Option Nat :=
  List.rec (motive := fun _ => Nat → Option Nat) (fun _ => none) (fun _ _ ih j => match effPos rec j with
    | none => none
    | some e => cond (((befGo [] ops.toList).getD e 0).testBit i) (some j) (ih (Nat.succ j))) rec j
noncomputable def efAt (lim : Nat → Nat → Option Nat) (i : Nat) : DK → Ef
  | .q => (false, none)
  | .l j _ _ _ => (false, lim i j)
  | .e => (true, none)
noncomputable def efsAt (lim : Nat → Nat → Option Nat) : Nat → List DK → List Ef
  | _, [] => []
  | i, d :: ds => efAt lim i d :: efsAt lim (i + 1) ds
/-- the cells that were loaded are the same in all states that the load may see -/
noncomputable def sameQ (q off n j : Nat) (c0 : Option (List D)) (lim : Option Nat) (sts : List St) (c : Nat) : Prop :=
  List.rec (motive := fun _ => Nat → Prop) (fun _ => True) (fun τ _ ih c => Bool.rec
    (match lim with
      | some b => Bool.rec (ih (Nat.succ c)) (cellsAt τ q off n = c0 ∧ ih (Nat.succ c)) (Nat.ble c b)
      | none => cellsAt τ q off n = c0 ∧ ih (Nat.succ c)) (ih (Nat.succ c)) (Nat.beq c j)) sts c
theorem sameQ_ok {q off n j : Nat} {c0 : Option (List D)} {lim : Option Nat} : ∀ {sts : List St} {c : Nat}, sameQ q off n j c0 lim sts c → ∀ x τ, sts[x]? = some τ → c + x ≠ j → (∀ b, lim = some b → c + x ≤ b) → cellsAt τ q off n = c0
  | [], c, _, x, τ, hx, _, _ => by simp at hx
  | τ0 :: sts, c, h, x, τ, hx, hj, hb => by
    have h' : Bool.rec (match (generalizing := false) lim with
      | some b => Bool.rec (sameQ q off n j c0 lim sts (Nat.succ c)) (cellsAt τ0 q off n = c0 ∧ sameQ q off n j c0 lim sts (Nat.succ c)) (Nat.ble c b)
      | none => cellsAt τ0 q off n = c0 ∧ sameQ q off n j c0 lim sts (Nat.succ c)) (sameQ q off n j c0 lim sts (Nat.succ c)) (Nat.beq c j) := h
    have rest : sameQ q off n j c0 lim sts (Nat.succ c) := by
      cases h1 : Nat.beq c j with
      | true => rw [h1] at h'; exact h'
      | false =>
        rw [h1] at h'
        simp only at h'
        cases lim with
        | none => exact h'.2
        | some b =>
          simp only at h'
          cases h2 : Nat.ble c b with
          | true => rw [h2] at h'; exact h'.2
          | false => rw [h2] at h'; exact h'
    cases x with
    | succ x => exact sameQ_ok rest x τ (by simpa using hx) (by simp only [Nat.succ_eq_add_one]; omega) (fun b e => by have := hb b e; simp only [Nat.succ_eq_add_one]; omega)
    | zero =>
      simp at hx; subst hx
      have h1 : Nat.beq c j = false := by
        cases h1 : Nat.beq c j with
        | false => rfl
        | true => exact absurd (Nat.eq_of_beq_eq_true h1) (by simpa using hj)
      rw [h1] at h'
      simp only at h'
      cases lim with
      | none => exact h'.1
      | some b =>
        have : Nat.ble c b = true := Nat.ble_eq_true_of_le (by simpa using hb b rfl)
        simp only [this] at h'
        exact h'.1
/-- all loads of a region -/
noncomputable def loadsQ (lim : Nat → Nat → Option Nat) (sts : List St) (rec : List DK) (i : Nat) : Prop :=
  List.rec (motive := fun _ => Nat → Prop) (fun _ => True) (fun d _ ih i => match d with
    | .l j q off n => (match sts[j]? with
      | some τ => sameQ q off n j (cellsAt τ q off n) (lim i j) sts 0 ∧ ih (Nat.succ i)
      | none => False)
    | _ => ih (Nat.succ i)) rec i

def noLoads : List DK → Bool
  | [] => true
  | .l .. :: _ => false
  | _ :: rec => noLoads rec
theorem noLoads_ok {lim : Nat → Nat → Option Nat} {sts : List St} : ∀ {rec : List DK} {i : Nat}, noLoads rec = true → loadsQ lim sts rec i
  | [], _, _ => trivial
  | .q :: rec, i, h => noLoads_ok (rec := rec) (i := i + 1) h
  | .e :: rec, i, h => noLoads_ok (rec := rec) (i := i + 1) h
  | .l .. :: _, _, h => by simp [noLoads] at h
/-- the witnesses ahead -/
noncomputable def exs (s : Sc) (K : Sc → Prop) : Prop :=
  Sc.rec (motive := fun _ => Prop) (K .z) (fun _ ih => ∃ a, ih a) (fun s t _ _ => K (.b s t)) (fun h s _ => K (.h h s)) s
theorem exs_ok {K : Sc → Prop} : ∀ {s : Sc}, exs s K → ∃ s', K s'
  | .z, h => ⟨_, h⟩
  | .e f, h => by obtain ⟨a, h⟩ := (h : ∃ a, exs (f a) K); exact exs_ok h
  | .b s t, h => ⟨_, h⟩
  | .h i s, h => ⟨_, h⟩
abbrev KD := List DK → List St → Sc → List D → Prop
noncomputable def vDr (P : Program) (im : List Nat) (ops : Array Oper) (L : List Oper) (rec : List DK) (sts : List St) (j : Nat) (s : Sc) (env : List D) (σ : St) (K : KD) : Prop :=
  List.rec (motive := fun _ => List DK → List St → Nat → Sc → List D → St → Prop) (fun rec sts _ s env _ => K rec sts s env)
    (fun o _ ih rec sts j s env σ => exs s fun s => vGuard ops rec.length o s env fun b s env =>
      Bool.rec (putK env o.dst (.tup []) fun env => snocK rec .q fun rec => ih rec sts j s env σ)
        (evsK env o.op.operands.toList fun ds => vOp P im o ds σ s fun s d σ' kd => putK env o.dst d fun env => match kd with
          | .pure => snocK rec .q fun rec => ih rec sts j s env σ
          | .load q off n => snocK rec (.l j q off n) fun rec => ih rec sts j s env σ
          | .eff => snocK rec .e fun rec => snocK sts σ' fun sts => ih rec sts (Nat.succ j) s env σ') b) L rec sts j s env σ
noncomputable def vDraw (P : Program) (im : List Nat) (ops : Array Oper) (s : Sc) (env : List D) (σ : St) (K : Sc → List D → St → Prop) : Prop :=
  cond (Nat.blt ops.size 1000000) (vDr P im ops ops.toList [] [σ] 0 s env σ fun rec sts s env =>
    cond (drawOK ops (efsAt (limOf ops rec) 0 rec)) (match sts.getLast? with
      | some σ => Bool.rec (loadsQ (limOf ops rec) sts rec 0 ∧ K s env σ) (K s env σ) (noLoads rec)
      | none => False) False) False

theorem loadsQ_tail {lim : Nat → Nat → Option Nat} {sts : List St} {d : DK} {rec : List DK} {i : Nat} (h : loadsQ lim sts (d :: rec) i) : loadsQ lim sts rec (i + 1) := by
  have h' : (match (generalizing := false) d with
    | .l j q off n => (match sts[j]? with
      | some τ => sameQ q off n j (cellsAt τ q off n) (lim i j) sts 0 ∧ loadsQ lim sts rec (Nat.succ i)
      | none => False)
    | _ => loadsQ lim sts rec (Nat.succ i)) := h
  split at h'
  · split at h'
    · exact h'.2
    · exact h'.elim
  · exact h'
theorem opOK_evN {P : Program} {o : Oper} {env : List D} {σ σ' : St} {d : D} (h : OpOK P o (o.op.operands.toList.map (evN env)) σ d σ') : OpOK P o (evDs env o) σ d σ' := by
  intro E g a w K Q hw hds hK
  refine h E g a w K Q hw ?_ hK
  unfold evDs at hds
  generalize o.op.operands.toList = l at hds ⊢
  induction l with
  | nil => simp [repDs]
  | cons x l ih =>
    simp only [List.map_cons, repDs] at hds ⊢
    obtain ⟨u, us, e, h1, h2⟩ := hds
    simp only [List.cons.injEq] at e
    obtain ⟨rfl, rfl⟩ := e
    refine ⟨_, _, rfl, ?_, ih h2⟩
    cases x with
    | const u => exact nilC_sub
    | _ => exact h1

theorem vDr_ok {P : Program} {im : List Nat} {ops : Array Oper} {n : Nat} {K : KD} (hops : ops.size < 1000000) : ∀ {L : List Oper} {rec : List DK} {sts : List St} {j : Nat} {s : Sc} {env : List D} {σ : St}, env.length = n → sts.length = j + 1 → sts[j]? = some σ → vDr P im ops L rec sts j s env σ K →
    ∃ rec' sts' s' env' σ', K (rec ++ rec') (sts ++ sts') s' env' ∧ env'.length = n ∧ rec'.length = L.length ∧ (sts ++ sts')[j + sts'.length]? = some σ' ∧
      ∀ lim : Nat → Nat → Option Nat, loadsQ lim (sts ++ sts') rec' rec.length → ∃ vals, DRun P ops (fun _ => sts ++ sts') 1000000 L env j vals (efsAt lim rec.length rec') env' (j + sts'.length)
  | [], rec, sts, j, s, env, σ, hn, hl, hs, h => by
    refine ⟨[], [], s, env, σ, ?_, hn, rfl, by simpa using hs, fun lim _ => ⟨[], .nil⟩⟩
    have h' : K rec sts s env := h
    simpa using h'
  | o :: L, rec, sts, j, s, env, σ, hn, hl, hs, h => by
    have h' : exs s fun s => vGuard ops rec.length o s env fun b s env =>
      Bool.rec (putK env o.dst (.tup []) fun env => snocK rec .q fun rec => vDr P im ops L rec sts j s env σ K)
        (evsK env o.op.operands.toList fun ds => vOp P im o ds σ s fun s d σ' kd => putK env o.dst d fun env => match kd with
          | .pure => snocK rec .q fun rec => vDr P im ops L rec sts j s env σ K
          | .load q off n => snocK rec (.l j q off n) fun rec => vDr P im ops L rec sts j s env σ K
          | .eff => snocK rec .e fun rec => snocK sts σ' fun sts => vDr P im ops L rec sts (Nat.succ j) s env σ' K) b := h
    have hne : ops.size - (L.length + 1) ≠ 1000000 := by omega
    have hput : ∀ (d : D), (putD env o.dst d).length = n := fun d => by cases o.dst <;> simp [putD, hn]
    obtain ⟨s0, h'⟩ := exs_ok h'
    obtain ⟨b, s1, h1, h2⟩ := vGuard_ok h'
    cases b with
    | false =>
      have h3 : putK env o.dst (.tup []) fun env => snocK rec .q fun rec => vDr P im ops L rec sts j s1 env σ K := h1
      rw [putK_eq, snocK_eq] at h3
      obtain ⟨rec', sts', s', env', σ', k1, k2, k3, k4, k5⟩ := vDr_ok hops (hput _) hl hs h3
      refine ⟨.q :: rec', sts', s', env', σ', by simpa using k1, k2, by simp [k3], k4, fun lim hlo => ?_⟩
      obtain ⟨vals, hv⟩ := k5 lim (by have := loadsQ_tail hlo; simpa using this)
      refine ⟨_, .skip hne h2 (by simpa [efsAt] using hv)⟩
    | true =>
      have h3 : evsK env o.op.operands.toList fun ds => vOp P im o ds σ s1 fun s d σ' kd => putK env o.dst d fun env => match kd with
          | .pure => snocK rec .q fun rec => vDr P im ops L rec sts j s env σ K
          | .load q off n => snocK rec (.l j q off n) fun rec => vDr P im ops L rec sts j s env σ K
          | .eff => snocK rec .e fun rec => snocK sts σ' fun sts => vDr P im ops L rec sts (Nat.succ j) s env σ' K := h1
      rw [evsK_eq] at h3
      obtain ⟨s2, d, σ2, kd, h4, h5⟩ := vOp_ok h3
      rw [putK_eq] at h4
      have hidx : ops.size - (L.length + 1) ≠ 1000000 := hne
      cases kd with
      | pure =>
        have h6 : snocK rec .q fun rec => vDr P im ops L rec sts j s2 (putD env o.dst d) σ K := h4
        rw [snocK_eq] at h6
        obtain ⟨rec', sts', s', env', σ', k1, k2, k3, k4, k5⟩ := vDr_ok hops (hput _) hl hs h6
        refine ⟨.q :: rec', sts', s', env', σ', by simpa using k1, k2, by simp [k3], k4, fun lim hlo => ?_⟩
        obtain ⟨vals, hv⟩ := k5 lim (by have := loadsQ_tail hlo; simpa using this)
        exact ⟨_, .quiet hne h2 (fun _ τ _ => opOK_evN (h5.2 τ)) (by simpa [efsAt] using hv)⟩
      | load q off m =>
        have h6 : snocK rec (.l j q off m) fun rec => vDr P im ops L rec sts j s2 (putD env o.dst d) σ K := h4
        rw [snocK_eq] at h6
        obtain ⟨rec', sts', s', env', σ', k1, k2, k3, k4, k5⟩ := vDr_ok hops (hput _) hl hs h6
        refine ⟨.l j q off m :: rec', sts', s', env', σ', by simpa using k1, k2, by simp [k3], k4, fun lim hlo => ?_⟩
        obtain ⟨vals, hv⟩ := k5 lim (by have := loadsQ_tail hlo; simpa using this)
        have hv' : DRun P ops (fun _ => sts ++ sts') 1000000 L (putD env o.dst d) j vals (efsAt lim (rec.length + 1) rec') env' (j + sts'.length) := by simpa using hv
        have hjs : (sts ++ sts')[j]? = some σ := by rw [List.getElem?_append_left (by omega)]; exact hs
        have hsame : ∀ x τ, (sts ++ sts')[x]? = some τ → (∀ b, lim rec.length j = some b → x ≤ b) → OpOK P o (evDs env o) τ d τ := by
          intro x τ hx hb
          refine opOK_evN (h5.2.2 τ ?_)
          by_cases e : x = j
          · subst e; rw [hjs] at hx; simp at hx; rw [hx]
          · have hl0 : (match (sts ++ sts')[j]? with
              | some τ => sameQ q off m j (cellsAt τ q off m) (lim rec.length j) (sts ++ sts') 0 ∧ loadsQ lim (sts ++ sts') rec' (Nat.succ rec.length)
              | none => False) := hlo
            rw [hjs] at hl0
            exact sameQ_ok hl0.1 x τ hx (by simpa using e) (fun b hb' => by simpa using hb b hb')
        cases hlim : lim rec.length j with
        | none =>
          refine ⟨d :: vals, ?_⟩
          simp only [efsAt, efAt, hlim]
          refine .quiet hne h2 (fun _ τ hτ => ?_) hv'
          obtain ⟨x, hx⟩ := List.getElem?_of_mem hτ
          exact hsame x τ hx (fun b hb => by rw [hlim] at hb; simp at hb)
        | some b =>
          refine ⟨d :: vals, ?_⟩
          simp only [efsAt, efAt, hlim]
          exact .quietW b hne h2 (fun _ c τ hc hτ => hsame c τ hτ (fun b' hb => by rw [hlim] at hb; simp at hb; omega)) hv'
      | eff =>
        have h6 : snocK rec .e fun rec => snocK sts σ2 fun sts => vDr P im ops L rec sts (Nat.succ j) s2 (putD env o.dst d) σ2 K := h4
        rw [snocK_eq, snocK_eq] at h6
        obtain ⟨rec', sts', s', env', σ', k1, k2, k3, k4, k5⟩ := vDr_ok hops (hput _) (by simp [hl]) (by rw [List.getElem?_append_right (by omega)]; simp [hl]) h6
        refine ⟨.e :: rec', σ2 :: sts', s', env', σ', by simpa using k1, k2, by simp [k3], ?_, fun lim hlo => ?_⟩
        · have e : j + (σ2 :: sts').length = Nat.succ j + sts'.length := by simp; omega
          rw [e]; simpa using k4
        · obtain ⟨vals, hv⟩ := k5 lim (by have := loadsQ_tail hlo; simpa using this)
          have hv' : DRun P ops (fun _ => sts ++ σ2 :: sts') 1000000 L (putD env o.dst d) (j + 1) vals (efsAt lim (rec.length + 1) rec') env' (j + (σ2 :: sts').length) := by
            have e : j + (σ2 :: sts').length = Nat.succ j + sts'.length := by simp; omega
            rw [e]; simpa using hv
          refine ⟨_, .eff hne h2 (fun _ τ hτ _ => ⟨σ2, ?_, ?_⟩) hv'⟩
          · rw [List.getElem?_append_right (by omega)]; simp [hl]
          · rw [List.getElem?_append_left (by omega), hs] at hτ
            simp at hτ; subst hτ
            exact opOK_evN h5

theorem vDraw_ok {C : Ent → Ent → Prop} {P : Program} {R : List D → St → Prop} {k : List KI} (hm : P.follows .mixedOrders = true) {im : List Nat} {id : Nat} {ops : Array Oper} {s : Sc} {env : List D} {σ : St} {n : Nat} {K : Sc → List D → St → Prop} (hn : env.length = n)
    (hK : ∀ s env σ, env.length = n → K s env σ → RunC C P R k env σ) (h : vDraw P im ops s env σ K) : RunC C P R (.code (.region id ops true) :: k) env σ := by
  obtain ⟨h1, h2⟩ := cond_iff h
  have hops : ops.size < 1000000 := Nat.le_of_ble_eq_true h1
  obtain ⟨rec, sts, s', env', σ', k1, k2, k3, k4, k5⟩ := vDr_ok hops hn (by simp) (by simp) h2
  obtain ⟨h3, h5⟩ := cond_iff k1
  simp only [List.nil_append] at h3 h5
  simp only [Nat.zero_add] at k4
  split at h5
  · rename_i τ hτ
    have h6 : loadsQ (limOf ops rec) ([σ] ++ sts) rec 0 ∧ K s' env' τ := by
      cases hb : noLoads rec with
      | true => rw [hb] at h5; exact ⟨noLoads_ok hb, h5⟩
      | false => rw [hb] at h5; exact h5
    obtain ⟨h4, h5⟩ := h6
    obtain ⟨vals, hv⟩ := k5 (limOf ops rec) (by simpa using h4)
    simp only [Nat.zero_add] at hv
    have : τ = σ' := by
      rw [List.getLast?_eq_getElem?] at hτ
      rw [show ([σ] ++ sts).length - 1 = sts.length by simp] at hτ
      rw [k4] at hτ; simpa using hτ.symm
    subst this
    refine run_draw hm (fun _ => [σ] ++ sts) 1000000 (by simp) k4 hv ?_ (hK _ _ _ k2 h5)
    simpa using h3
  · exact h5.elim

/- ONE OPERATION OF THE REGION IS AN ALLOC THAT MAY BE RUN AT ANY TIME -/
structure Ld where
  q : Nat
  off : Nat
  n : Nat
  c : Option (List D)
noncomputable def allSame (q off n : Nat) (c0 : Option (List D)) (sts : List St) : Prop := List.rec (motive := fun _ => Prop) True (fun τ _ ih => cellsAt τ q off n = c0 ∧ ih) sts
theorem allSame_ok {q off n : Nat} {c0 : Option (List D)} : ∀ {sts : List St}, allSame q off n c0 sts → ∀ τ ∈ sts, cellsAt τ q off n = c0
  | [], _, τ, h => absurd h (by simp)
  | σ :: sts, h, τ, hτ => by
    have h' : cellsAt σ q off n = c0 ∧ allSame q off n c0 sts := h
    rcases List.mem_cons.1 hτ with rfl | hτ
    · exact h'.1
    · exact allSame_ok h'.2 τ hτ
noncomputable def ldsQ (sts : List St) (l : List Ld) : Prop := List.rec (motive := fun _ => Prop) True (fun x _ ih => allSame x.q x.off x.n x.c sts ∧ ih) l
theorem ldsQ_ok {sts : List St} : ∀ {l : List Ld}, ldsQ sts l → ∀ x ∈ l, ∀ τ ∈ sts, cellsAt τ x.q x.off x.n = x.c
  | [], _, x, h => absurd h (by simp)
  | y :: l, h, x, hx => by
    have h' : allSame y.q y.off y.n y.c sts ∧ ldsQ sts l := h
    rcases List.mem_cons.1 hx with rfl | hx
    · exact allSame_ok h'.1
    · exact ldsQ_ok h'.2 x hx
def withO (cs : List D) (τ : St) : St := ⟨τ.H ++ [some cs], τ.own⟩
/-- more objects behind, more lists of one's own ahead -/
def addS (ad τ : St) : St := ⟨τ.H ++ ad.H, ad.own ++ τ.own⟩
noncomputable def allSt (f : St → Prop) (l : List St) : Prop := List.rec (motive := fun _ => Prop) True (fun τ _ p => f τ ∧ p) l
theorem allSt_ok {f : St → Prop} : ∀ {l : List St}, allSt f l → ∀ τ ∈ l, f τ
  | [], _, τ, h => by simp at h
  | x :: l, h, τ, hτ => by
    have h : f x ∧ allSt f l := h
    rcases List.mem_cons.1 hτ with rfl | hτ
    · exact h.1
    · exact allSt_ok h.2 τ hτ
abbrev KD2 := List St → List St → List Ld → List Ef → Sc → List D → Prop
noncomputable def vDr2 (P : Program) (im : List Nat) (ops : Array Oper) (fr : Nat) (ad : St) (K : KD2) (L : List Oper) : Nat → Bool → (St → St → Prop) → List St → List St → List Ld → List Ef → Sc → List D → St → St → Prop :=
  List.rec (motive := fun _ => Nat → Bool → (St → St → Prop) → List St → List St → List Ld → List Ef → Sc → List D → St → St → Prop) (fun _ _ _ LF LT lds ef s env _ _ => K LF LT lds ef s env)
    (fun o _ ih i af pd LF LT lds ef s env σF σT => exs s fun s => vGuard ops i o s env fun b s env =>
      Bool.rec
        (Bool.rec (putK env o.dst (.tup []) fun env => snocK ef (false, none) fun ef => ih (Nat.succ i) af pd LF LT lds ef s env σF σT) False (Nat.beq i fr))
        (Bool.rec
          (evsK env o.op.operands.toList fun ds => vOp P im o ds (Bool.rec σF σT af) s fun s1 d σ1 kd => match kd with
            | .pure => putK env o.dst d fun env => snocK ef (false, none) fun ef => ih (Nat.succ i) af pd LF LT lds ef s1 env σF σT
            | .load q off n => putK env o.dst d fun env => snocK ef (false, none) fun ef => snocK lds ⟨q, off, n, cellsAt (Bool.rec σF σT af) q off n⟩ fun lds => ih (Nat.succ i) af pd LF LT lds ef s1 env σF σT
            | .eff => Bool.rec
              (vOp P im o ds σT s fun _ d2 σ2 kd2 => match kd2 with
                | .eff => d2 = d ∧ putK env o.dst d fun env => snocK ef (true, none) fun ef => snocK LF σ1 fun LF => snocK LT σ2 fun LT => ih (Nat.succ i) af pd LF LT lds ef s1 env σ1 σ2
                | _ => False)
              (cond (needs ops i fr) (putK env o.dst d fun env => snocK ef (true, none) fun ef => snocK LT σ1 fun LT => ih (Nat.succ i) af pd LF LT lds ef s1 env σF σ1)
                (cond (Nat.beq LF.length LT.length) (vOp P im o ds σF s fun _ d2 σ2 kd2 => match kd2 with
                  | .eff => d2 = d ∧ pd σ2 σ1 ∧ putK env o.dst d fun env => snocK ef (true, none) fun ef => snocK LF σ2 fun LF => snocK LT σ1 fun LT => ih (Nat.succ i) af pd LF LT lds ef s1 env σ2 σ1
                  | _ => False) False)) af)
          (match (generalizing := false) o.op, af with
            | .alloc e, false => (match zeroN P e with
              | some xs => cond (LF.all fun τ => Nat.beq τ.H.length σF.H.length) (LT = LF.map (withO (xs.map .v)) ∧ putK env o.dst (.ptr σF.H.length 0) fun env => snocK ef (false, none) fun ef => ih (Nat.succ i) true (fun τ τ1 => τ1 = withO (xs.map .v) τ ∧ τ.H.length = σF.H.length) LF LT lds ef s env σF σT) False
              | none => False)
            | _, false => (match s with
              | .h (.o d _) s => evsK env o.op.operands.toList fun ds => LT = LF.map (addS ad) ∧ allSt (fun τ => OpOK P o ds τ d (addS ad τ)) LF ∧ putK env o.dst d fun env => snocK ef (false, none) fun ef => ih (Nat.succ i) true (fun τ τ1 => τ1 = addS ad τ ∧ OpOK P o ds τ d (addS ad τ)) LF LT lds ef s env σF σT
              | _ => False)
            | _, _ => False) (Nat.beq i fr)) b) L
theorem vDr2_ok {P : Program} {im : List Nat} {ops : Array Oper} {fr n : Nat} {ad : St} {K : KD2} : ∀ {L : List Oper} {i : Nat} {af : Bool} {pd : St → St → Prop} {LF LT : List St} {lds : List Ld} {ef : List Ef} {s : Sc} {env : List D} {σF σT : St} {j : Nat}, env.length = n → i + L.length = ops.size → LT.length = j + 1 → LT[j]? = some σT →
    (af = false → LF.length = j + 1) → (LF.length = j + 1 → LF[j]? = some σF) → LF.length ≤ j + 1 → vDr2 P im ops fr ad K L i af pd LF LT lds ef s env σF σT →
    ∃ LF' LT' lds' ef' s' env' σ', K (LF ++ LF') (LT ++ LT') (lds ++ lds') (ef ++ ef') s' env' ∧ env'.length = n ∧ (LT ++ LT')[j + LT'.length]? = some σ' ∧ (af = true → (LF.length = LT.length ∨ LF' = []) ∧ ∀ (c : Nat) (τ : St), LF'[c]? = some τ → ∃ τ1, LT'[c]? = some τ1 ∧ pd τ τ1) ∧
      ((∀ x ∈ lds', ∀ τ ∈ (LF ++ LF') ++ (LT ++ LT'), cellsAt τ x.q x.off x.n = x.c) → ∃ vals, DRun P ops (stsOf (LF ++ LF') (LT ++ LT')) fr L env j vals ef' env' (j + LT'.length))
  | [], i, af, pd, LF, LT, lds, ef, s, env, σF, σT, j, hn, hi, hl, hs, hF, hF2, hF3, h => by
    refine ⟨[], [], [], [], s, env, σT, ?_, hn, by simpa using hs, fun _ => ⟨.inr rfl, fun c τ hc => by simp at hc⟩, fun _ => ⟨[], .nil⟩⟩
    have h' : K LF LT lds ef s env := h
    simpa using h'
  | o :: L, i, af, pd, LF, LT, lds, ef, s, env, σF, σT, j, hn, hi, hl, hs, hF, hF2, hF3, h => by
    have h' : exs s fun s => vGuard ops i o s env fun b s env =>
      Bool.rec
        (Bool.rec (putK env o.dst (.tup []) fun env => snocK ef (false, none) fun ef => vDr2 P im ops fr ad K L (Nat.succ i) af pd LF LT lds ef s env σF σT) False (Nat.beq i fr))
        (Bool.rec
          (evsK env o.op.operands.toList fun ds => vOp P im o ds (Bool.rec σF σT af) s fun s1 d σ1 kd => match kd with
            | .pure => putK env o.dst d fun env => snocK ef (false, none) fun ef => vDr2 P im ops fr ad K L (Nat.succ i) af pd LF LT lds ef s1 env σF σT
            | .load q off n => putK env o.dst d fun env => snocK ef (false, none) fun ef => snocK lds ⟨q, off, n, cellsAt (Bool.rec σF σT af) q off n⟩ fun lds => vDr2 P im ops fr ad K L (Nat.succ i) af pd LF LT lds ef s1 env σF σT
            | .eff => Bool.rec
              (vOp P im o ds σT s fun _ d2 σ2 kd2 => match kd2 with
                | .eff => d2 = d ∧ putK env o.dst d fun env => snocK ef (true, none) fun ef => snocK LF σ1 fun LF => snocK LT σ2 fun LT => vDr2 P im ops fr ad K L (Nat.succ i) af pd LF LT lds ef s1 env σ1 σ2
                | _ => False)
              (cond (needs ops i fr) (putK env o.dst d fun env => snocK ef (true, none) fun ef => snocK LT σ1 fun LT => vDr2 P im ops fr ad K L (Nat.succ i) af pd LF LT lds ef s1 env σF σ1)
                (cond (Nat.beq LF.length LT.length) (vOp P im o ds σF s fun _ d2 σ2 kd2 => match kd2 with
                  | .eff => d2 = d ∧ pd σ2 σ1 ∧ putK env o.dst d fun env => snocK ef (true, none) fun ef => snocK LF σ2 fun LF => snocK LT σ1 fun LT => vDr2 P im ops fr ad K L (Nat.succ i) af pd LF LT lds ef s1 env σ2 σ1
                  | _ => False) False)) af)
          (match (generalizing := false) o.op, af with
            | .alloc e, false => (match zeroN P e with
              | some xs => cond (LF.all fun τ => Nat.beq τ.H.length σF.H.length) (LT = LF.map (withO (xs.map .v)) ∧ putK env o.dst (.ptr σF.H.length 0) fun env => snocK ef (false, none) fun ef => vDr2 P im ops fr ad K L (Nat.succ i) true (fun τ τ1 => τ1 = withO (xs.map .v) τ ∧ τ.H.length = σF.H.length) LF LT lds ef s env σF σT) False
              | none => False)
            | _, false => (match s with
              | .h (.o d _) s => evsK env o.op.operands.toList fun ds => LT = LF.map (addS ad) ∧ allSt (fun τ => OpOK P o ds τ d (addS ad τ)) LF ∧ putK env o.dst d fun env => snocK ef (false, none) fun ef => vDr2 P im ops fr ad K L (Nat.succ i) true (fun τ τ1 => τ1 = addS ad τ ∧ OpOK P o ds τ d (addS ad τ)) LF LT lds ef s env σF σT
              | _ => False)
            | _, _ => False) (Nat.beq i fr)) b := h
    clear h
    have hidx : ops.size - (L.length + 1) = i := by simp at hi; omega
    have hi' : Nat.succ i + L.length = ops.size := by simp at hi; omega
    have hput : ∀ (d : D), (putD env o.dst d).length = n := fun d => by cases o.dst <;> simp [putD, hn]
    obtain ⟨s0, h'⟩ := exs_ok h'
    obtain ⟨b, s1, h1, h2⟩ := vGuard_ok h'
    have snoc2 : ∀ {α : Type} (a : List α) (x : α) (r : List α), a ++ [x] ++ r = a ++ x :: r := fun a x r => by simp
    cases b with
    | false =>
      cases hb : Nat.beq i fr with
      | true => simp only [hb] at h1
      | false =>
        have hne : ops.size - (L.length + 1) ≠ fr := by rw [hidx]; exact fun e => by rw [e, Nat.beq_refl] at hb; simp at hb
        simp only [hb] at h1
        rw [putK_eq, snocK_eq] at h1
        obtain ⟨LF', LT', lds', ef', s', env', σ', k1, k2, k3, k4, k5⟩ := vDr2_ok (hput _) hi' hl hs hF hF2 hF3 h1
        refine ⟨LF', LT', lds', (false, none) :: ef', s', env', σ', by simpa using k1, k2, k3, k4, fun hlo => ?_⟩
        obtain ⟨vals, hv⟩ := k5 hlo
        exact ⟨_, .skip hne h2 hv⟩
    | true =>
      cases hb : Nat.beq i fr with
      | true =>
        simp only [hb] at h1
        split at h1
        · rename_i e heq _
          split at h1
          · rename_i xs hz
            obtain ⟨hall, h3, h4⟩ := cond_iff h1
            rw [putK_eq, snocK_eq] at h4
            have hF1 := hF rfl
            obtain ⟨LF', LT', lds', ef', s', env', σ', k1, k2, k3, k4, k5⟩ := vDr2_ok (af := true) (hput _) hi' hl hs (fun e => by simp at e) hF2 hF3 h4
            refine ⟨LF', LT', lds', (false, none) :: ef', s', env', σ', by simpa using k1, k2, k3, fun e => by simp at e, fun hlo => ?_⟩
            obtain ⟨vals, hv⟩ := k5 hlo
            have hLF := (k4 rfl).2
            refine ⟨_, .free (by rw [hidx]; exact (Nat.eq_of_beq_eq_true hb).symm) h2 (fun c τ hc => ?_) hv⟩
            have hc : (LF ++ LF')[c]? = some τ := by simpa [stsOf] using hc
            have hopA : ∀ τ : St, τ.H.length = σF.H.length → OpOK P o (evDs env o) τ (.ptr σF.H.length 0) (withO (xs.map .v) τ) := fun τ hlen => by
              rw [← hlen]
              have := op_allocN (P := P) (o := o) (σ := τ) heq hz
              exact opOK_evN (by simpa [heq, Op.operands, withO] using this)
            rcases Nat.lt_or_ge c LF.length with hcl | hcl
            rotate_left
            · rw [List.getElem?_append_right (by omega)] at hc
              obtain ⟨τ1, g1, rfl, g3⟩ := hLF _ _ hc
              refine ⟨_, ?_, hopA τ g3⟩
              simp only [stsOf]
              rw [List.getElem?_append_right (by omega), show c - LT.length = c - LF.length by omega]; exact g1
            rw [List.getElem?_append_left hcl] at hc
            refine ⟨withO (xs.map .v) τ, ?_, ?_⟩
            · have : LT[c]? = some (withO (xs.map .v) τ) := by rw [h3, List.getElem?_map, hc]; rfl
              have hlt := (List.getElem?_eq_some_iff.1 this).1
              simp only [stsOf]
              rw [List.getElem?_append_left hlt]; exact this
            · have hlen := List.all_eq_true.1 hall τ (List.mem_of_getElem? hc)
              have hlen := Nat.eq_of_beq_eq_true hlen
              exact hopA τ hlen
          · exact h1.elim
        · split at h1
          · rename_i d _ s2
            rw [evsK_eq] at h1
            obtain ⟨h3, hop, h4⟩ := h1
            rw [putK_eq, snocK_eq] at h4
            have hF1 := hF rfl
            obtain ⟨LF', LT', lds', ef', s', env', σ', k1, k2, k3, k4, k5⟩ := vDr2_ok (af := true) (hput _) hi' hl hs (fun e => by simp at e) hF2 hF3 h4
            refine ⟨LF', LT', lds', (false, none) :: ef', s', env', σ', by simpa using k1, k2, k3, fun e => by simp at e, fun hlo => ?_⟩
            obtain ⟨vals, hv⟩ := k5 hlo
            have hLF := (k4 rfl).2
            refine ⟨_, .free (by rw [hidx]; exact (Nat.eq_of_beq_eq_true hb).symm) h2 (fun c τ hc => ?_) hv⟩
            have hc : (LF ++ LF')[c]? = some τ := by simpa [stsOf] using hc
            rcases Nat.lt_or_ge c LF.length with hcl | hcl
            rotate_left
            · rw [List.getElem?_append_right (by omega)] at hc
              obtain ⟨τ1, g1, rfl, g3⟩ := hLF _ _ hc
              refine ⟨_, ?_, opOK_evN g3⟩
              simp only [stsOf]
              rw [List.getElem?_append_right (by omega), show c - LT.length = c - LF.length by omega]; exact g1
            rw [List.getElem?_append_left hcl] at hc
            refine ⟨addS ad τ, ?_, opOK_evN (allSt_ok hop τ (List.mem_of_getElem? hc))⟩
            have : LT[c]? = some (addS ad τ) := by rw [h3, List.getElem?_map, hc]; rfl
            have hlt := (List.getElem?_eq_some_iff.1 this).1
            simp only [stsOf]
            rw [List.getElem?_append_left hlt]; exact this
          · exact h1.elim
        · exact h1.elim
      | false =>
        have hne : ops.size - (L.length + 1) ≠ fr := by rw [hidx]; exact fun e => by rw [e, Nat.beq_refl] at hb; simp at hb
        simp only [hb] at h1
        rw [evsK_eq] at h1
        obtain ⟨s2, d, σ1, kd, h4, h5⟩ := vOp_ok h1
        cases kd with
        | pure =>
          simp only at h4
          rw [putK_eq, snocK_eq] at h4
          obtain ⟨LF', LT', lds', ef', s', env', σ', k1, k2, k3, k4, k5⟩ := vDr2_ok (hput _) hi' hl hs hF hF2 hF3 h4
          refine ⟨LF', LT', lds', (false, none) :: ef', s', env', σ', by simpa using k1, k2, k3, k4, fun hlo => ?_⟩
          obtain ⟨vals, hv⟩ := k5 hlo
          exact ⟨_, .quiet hne h2 (fun _ τ _ => opOK_evN (h5.2 τ)) hv⟩
        | load q off m =>
          simp only at h4
          rw [putK_eq, snocK_eq, snocK_eq] at h4
          obtain ⟨LF', LT', lds', ef', s', env', σ', k1, k2, k3, k4, k5⟩ := vDr2_ok (hput _) hi' hl hs hF hF2 hF3 h4
          refine ⟨LF', LT', _ :: lds', (false, none) :: ef', s', env', σ', by simpa using k1, k2, k3, k4, fun hlo => ?_⟩
          obtain ⟨vals, hv⟩ := k5 (fun x hx => hlo x (List.mem_cons_of_mem _ hx))
          refine ⟨_, .quiet hne h2 (fun b τ hτ => opOK_evN (h5.2.2 τ ?_)) hv⟩
          refine hlo _ (List.mem_cons_self ..) τ ?_
          cases b
          · exact List.mem_append.2 (.inl (by simpa [stsOf] using hτ))
          · exact List.mem_append.2 (.inr (by simpa [stsOf] using hτ))
        | eff =>
          cases af with
          | true =>
            simp only at h4
            cases hnd : needs ops i fr with
            | true =>
              rw [hnd, cond_true] at h4
              have hneed := hnd
              rw [putK_eq, snocK_eq, snocK_eq] at h4
              obtain ⟨LF', LT', lds', ef', s', env', σ', k1, k2, k3, k4, k5⟩ := vDr2_ok (j := j + 1) (hput _) hi' (by simp [hl]) (by rw [List.getElem?_append_right (by omega)]; simp [hl]) (fun e => by simp at e) (fun e => by omega) (by omega) h4
              have e1 : j + (σ1 :: LT').length = j + 1 + LT'.length := by simp; omega
              have hLF0 : LF' = [] := by
                rcases (k4 rfl).1 with h | h
                · simp only [List.length_append, List.length_cons, List.length_nil] at h; omega
                · exact h
              rw [snoc2] at k1 k3
              refine ⟨LF', σ1 :: LT', lds', (true, none) :: ef', s', env', σ', by simpa using k1, k2, by rw [e1]; exact k3, fun _ => ⟨.inr hLF0, fun c τ hc => by rw [hLF0] at hc; simp at hc⟩, fun hlo => ?_⟩
              obtain ⟨vals, hv⟩ := k5 (by rw [snoc2]; exact hlo)
              rw [snoc2] at hv
              rw [e1]
              refine ⟨_, .eff hne h2 (fun b τ hτ hneedF => ?_) hv⟩
              cases b with
              | false => have := hneedF rfl; rw [hidx, hneed] at this; simp at this
              | true =>
                have hτ : (LT ++ σ1 :: LT')[j]? = some τ := by simpa [stsOf] using hτ
                rw [List.getElem?_append_left (by omega), hs] at hτ
                simp at hτ; subst hτ
                refine ⟨σ1, ?_, opOK_evN h5⟩
                simp only [stsOf]
                rw [List.getElem?_append_right (by omega)]; simp [hl]
            | false =>
              rw [hnd, cond_false] at h4
              obtain ⟨hlen, h4⟩ := cond_iff h4
              have hlen := Nat.eq_of_beq_eq_true hlen
              have hF1 : LF.length = j + 1 := by omega
              obtain ⟨s3, d2, σ2, kd2, h6, h7⟩ := vOp_ok h4
              cases kd2 with
              | pure => exact h6.elim
              | load => exact h6.elim
              | eff =>
                obtain ⟨rfl, hpd, h6⟩ := h6
                rw [putK_eq, snocK_eq, snocK_eq, snocK_eq] at h6
                obtain ⟨LF', LT', lds', ef', s', env', σ', k1, k2, k3, k4, k5⟩ := vDr2_ok (af := true) (j := j + 1) (hput _) hi' (by simp [hl]) (by rw [List.getElem?_append_right (by omega)]; simp [hl]) (fun _ => by simp [hF1]) (fun _ => by rw [List.getElem?_append_right (by omega)]; simp [hF1]) (by simp [hF1]) h6
                have e1 : j + (σ1 :: LT').length = j + 1 + LT'.length := by simp; omega
                rw [snoc2] at k3
                rw [snoc2, snoc2] at k1
                refine ⟨σ2 :: LF', σ1 :: LT', lds', (true, none) :: ef', s', env', σ', by simpa using k1, k2, by rw [e1]; exact k3, fun _ => ⟨.inl hlen, fun c τ hc => ?k4⟩, fun hlo => ?_⟩
                case k4 =>
                  cases c with
                  | zero => simp at hc; subst hc; exact ⟨σ1, rfl, hpd⟩
                  | succ c => exact (k4 rfl).2 c τ (by simpa using hc)
                obtain ⟨vals, hv⟩ := k5 (by rw [snoc2, snoc2]; exact hlo)
                rw [snoc2, snoc2] at hv
                rw [e1]
                refine ⟨_, .eff hne h2 (fun b τ hτ _ => ?_) hv⟩
                cases b with
                | false =>
                  have hτ : (LF ++ σ2 :: LF')[j]? = some τ := by simpa [stsOf] using hτ
                  rw [List.getElem?_append_left (by omega), hF2 hF1] at hτ
                  simp at hτ; subst hτ
                  refine ⟨σ2, ?_, opOK_evN h7⟩
                  simp only [stsOf]
                  rw [List.getElem?_append_right (by omega)]; simp [hF1]
                | true =>
                  have hτ : (LT ++ σ1 :: LT')[j]? = some τ := by simpa [stsOf] using hτ
                  rw [List.getElem?_append_left (by omega), hs] at hτ
                  simp at hτ; subst hτ
                  refine ⟨σ1, ?_, opOK_evN h5⟩
                  simp only [stsOf]
                  rw [List.getElem?_append_right (by omega)]; simp [hl]
          | false =>
            simp only at h4
            have hF1 := hF rfl
            obtain ⟨s3, d2, σ2, kd2, h6, h7⟩ := vOp_ok h4
            cases kd2 with
            | pure => exact h6.elim
            | load => exact h6.elim
            | eff =>
              obtain ⟨rfl, h6⟩ := h6
              rw [putK_eq, snocK_eq, snocK_eq, snocK_eq] at h6
              obtain ⟨LF', LT', lds', ef', s', env', σ', k1, k2, k3, k4, k5⟩ := vDr2_ok (af := false) (j := j + 1) (hput _) hi' (by simp [hl]) (by rw [List.getElem?_append_right (by omega)]; simp [hl]) (fun _ => by simp [hF1]) (fun _ => by rw [List.getElem?_append_right (by omega)]; simp [hF1]) (by simp [hF1]) h6
              have e1 : j + (σ2 :: LT').length = j + 1 + LT'.length := by simp; omega
              rw [snoc2] at k3
              rw [snoc2, snoc2] at k1
              refine ⟨σ1 :: LF', σ2 :: LT', lds', (true, none) :: ef', s', env', σ', by simpa using k1, k2, by rw [e1]; exact k3, fun e => by simp at e, fun hlo => ?_⟩
              obtain ⟨vals, hv⟩ := k5 (by rw [snoc2, snoc2]; exact hlo)
              rw [snoc2, snoc2] at hv
              rw [e1]
              refine ⟨_, .eff hne h2 (fun b τ hτ _ => ?_) hv⟩
              cases b with
              | false =>
                have hτ : (LF ++ σ1 :: LF')[j]? = some τ := by simpa [stsOf] using hτ
                rw [List.getElem?_append_left (by omega), hF2 hF1] at hτ
                simp at hτ; subst hτ
                refine ⟨σ1, ?_, opOK_evN h5⟩
                simp only [stsOf]
                rw [List.getElem?_append_right (by omega)]; simp [hF1]
              | true =>
                have hτ : (LT ++ σ2 :: LT')[j]? = some τ := by simpa [stsOf] using hτ
                rw [List.getElem?_append_left (by omega), hs] at hτ
                simp at hτ; subst hτ
                refine ⟨σ2, ?_, opOK_evN h7⟩
                simp only [stsOf]
                rw [List.getElem?_append_right (by omega)]; simp [hl]
/-- the region with an alloc, number fr, that may be run at any time -/
noncomputable def vDraw2 (P : Program) (im : List Nat) (ops : Array Oper) (fr : Nat) (s : Sc) (env : List D) (σ : St) (K : Sc → List D → St → Prop) : Prop :=
  cond (Nat.blt fr ops.size) (match (ops[fr]?).map Oper.op with
    | some (.alloc e) => (match zeroN P e with
      | some xs => forceK (xs.map .v) fun cs => snocK σ.H (some cs) fun H => vDr2 P im ops fr σ (fun LF LT lds ef s env => cond (drawOK ops ef) (match LT.getLast? with
        | some τ => ldsQ (LF ++ LT) lds ∧ K s env τ
        | none => False) False) ops.toList 0 false (fun _ _ => False) [σ] [⟨H, σ.own⟩] [] [] s env σ ⟨H, σ.own⟩
      | none => False)
    | _ => (match s with
      | .h (.cs ad) s => forceK (σ.H ++ ad.H) fun H => forceK (ad.own ++ σ.own) fun own => vDr2 P im ops fr ad (fun LF LT lds ef s env => cond (drawOK ops ef) (match LT.getLast? with
        | some τ => ldsQ (LF ++ LT) lds ∧ K s env τ
        | none => False) False) ops.toList 0 false (fun _ _ => False) [σ] [⟨H, own⟩] [] [] s env σ ⟨H, own⟩
      | _ => False)) False
theorem vDraw2_ok {C : Ent → Ent → Prop} {P : Program} {R : List D → St → Prop} {k : List KI} (hm : P.follows .mixedOrders = true) {im : List Nat} {id : Nat} {ops : Array Oper} {fr : Nat} {s : Sc} {env : List D} {σ : St} {n : Nat} {K : Sc → List D → St → Prop} (hn : env.length = n)
    (hK : ∀ s env σ, env.length = n → K s env σ → RunC C P R k env σ) (h : vDraw2 P im ops fr s env σ K) : RunC C P R (.code (.region id ops true) :: k) env σ := by
  obtain ⟨h1, h2⟩ := cond_iff h
  have hfr : fr < ops.size := Nat.le_of_ble_eq_true h1
  split at h2
  · split at h2
    · rename_i xs hz
      rw [forceK_eq, snocK_eq] at h2
      obtain ⟨LF', LT', lds', ef', s', env', σ', k1, k2, k3, k4, k5⟩ := vDr2_ok (j := 0) hn (by simp) (by simp) (by simp) (fun _ => by simp) (fun _ => by simp) (by simp) h2
      obtain ⟨h3, h5⟩ := cond_iff k1
      simp only [List.nil_append] at h3 h5
      simp only [Nat.zero_add] at k3
      split at h5
      · rename_i τ hτ
        obtain ⟨h4, h5⟩ := h5
        obtain ⟨vals, hv⟩ := k5 (ldsQ_ok h4)
        simp only [Nat.zero_add] at hv
        have : τ = σ' := by
          rw [List.getLast?_eq_getElem?] at hτ
          rw [show ([(⟨σ.H ++ [some (xs.map .v)], σ.own⟩ : St)] ++ LT').length - 1 = LT'.length by simp] at hτ
          rw [k3] at hτ; simpa using hτ.symm
        subst this
        refine run_draw hm (stsOf ([σ] ++ LF') ([⟨σ.H ++ [some (xs.map .v)], σ.own⟩] ++ LT')) fr (by simp [stsOf]) (by rw [decide_eq_true hfr]; simpa [stsOf] using k3) hv ?_ (hK _ _ _ k2 h5)
        simpa using h3
      · exact h5.elim
    · exact h2.elim
  · split at h2
    · rename_i ad s2
      rw [forceK_eq, forceK_eq] at h2
      obtain ⟨LF', LT', lds', ef', s', env', σ', k1, k2, k3, k4, k5⟩ := vDr2_ok (j := 0) hn (by simp) (by simp) (by simp) (fun _ => by simp) (fun _ => by simp) (by simp) h2
      obtain ⟨h3, h5⟩ := cond_iff k1
      simp only [List.nil_append] at h3 h5
      simp only [Nat.zero_add] at k3
      split at h5
      · rename_i τ hτ
        obtain ⟨h4, h5⟩ := h5
        obtain ⟨vals, hv⟩ := k5 (ldsQ_ok h4)
        simp only [Nat.zero_add] at hv
        have : τ = σ' := by
          rw [List.getLast?_eq_getElem?] at hτ
          rw [show ([(⟨σ.H ++ ad.H, ad.own ++ σ.own⟩ : St)] ++ LT').length - 1 = LT'.length by simp] at hτ
          rw [k3] at hτ; simpa using hτ.symm
        subst this
        refine run_draw hm (stsOf ([σ] ++ LF') ([⟨σ.H ++ ad.H, ad.own ++ σ.own⟩] ++ LT')) fr (by simp [stsOf]) (by rw [decide_eq_true hfr]; simpa [stsOf] using k3) hv ?_ (hK _ _ _ k2 h5)
        simpa using h3
      · exact h5.elim
    · exact h2.elim
noncomputable def vDrawS (P : Program) (im : List Nat) (ops : Array Oper) (s : Sc) (env : List D) (σ : St) (K : Sc → List D → St → Prop) : Prop := match s with
  | .h (.dr fr) s => vDraw2 P im ops fr s env σ K
  | s => vDraw P im ops s env σ K
theorem vDrawS_ok {C : Ent → Ent → Prop} {P : Program} {R : List D → St → Prop} {k : List KI} (hm : P.follows .mixedOrders = true) {im : List Nat} {id : Nat} {ops : Array Oper} {s : Sc} {env : List D} {σ : St} {n : Nat} {K : Sc → List D → St → Prop} (hn : env.length = n)
    (hK : ∀ s env σ, env.length = n → K s env σ → RunC C P R k env σ) (h : vDrawS P im ops s env σ K) : RunC C P R (.code (.region id ops true) :: k) env σ := by
  unfold vDrawS at h
  split at h
  · exact vDraw2_ok hm hn hK h
  · exact vDraw_ok hm hn hK h
end Go.Nv

namespace Go.Nv
open Go.Dv

/- A LOOP's HEAD -/
/-- lists that may still be appended to -/
noncomputable def ownF (ts : List Nat) (own : List (Nat × Nat × List V)) : List (Nat × Nat × List V) := own.filter fun x => ts.contains x.1
/-- what is left to be shown -/
structure It (p : Prop) : Prop where
  it : p
/-- an equation, but for nothing -/
def eqNil {α : Type} (a b : List α) (K : Prop) : Prop := match a with
  | [] => K
  | x :: a => b = x :: a ∧ K
theorem eqNil_ok {α : Type} {a b : List α} {K : Prop} (h : eqNil a b K) (h0 : a = [] → b = []) : b = a ∧ K := by
  cases a with
  | nil => exact ⟨h0 rfl, h⟩
  | cons x a => exact h
/-- a check that is run, or one that is to be shown -/
def okHP (op : Bool) (b : Bool) (K : Prop) : Prop := match op with
  | true => b = true ∧ K
  | false => cond b K False
theorem okHP_ok {op b : Bool} {K : Prop} (h : okHP op b K) : b = true ∧ K := by
  cases op
  · exact cond_iff h
  · exact h
noncomputable def vLeaf (C : Ent → Ent → Prop) (m : Nat) (P : Program) (R : List D → St → Prop) (nt : Nat) (k : List KI) (sl : List (Nat × Option D)) (σ' : Option St) (op : Bool) (env : List D) (σ : St) : Prop :=
  vPick env sl fun L => match σ' with
    | none => It (RunC C P R k (mkE nt L) σ)
    | some σ' => cond (Nat.ble m σ'.H.length && Nat.ble σ'.H.length σ.H.length && D.okNs σ'.H.length (σ'.own.map (·.1)) (L.map (·.2))) (okHP op (okH σ'.H.length (σ'.own.map (·.1)) (σ.H.take σ'.H.length))
        (eqNil σ'.H (σ.H.take σ'.H.length) (eqNil σ'.own (ownF (σ'.own.map (·.1)) σ.own) (It (RunC C P R k (mkE nt L) σ'))))) False
theorem okNs_mkE {h : Nat} {ts : List Nat} : ∀ {L : List (Nat × D)} {e : List D}, D.okNs h ts (L.map (·.2)) = true → D.okNs h ts e = true → D.okNs h ts (L.foldl (fun e p => e.set p.1 p.2) e) = true
  | [], e, _, he => he
  | p :: L, e, hL, he => by
    simp only [List.map_cons, D.okNs, Bool.and_eq_true] at hL
    refine okNs_mkE (L := L) hL.2 ?_
    have : ∀ (e : List D) (i : Nat), D.okNs h ts e = true → D.okNs h ts (e.set i p.2) = true := by
      intro e
      induction e with
      | nil => intro i h; simpa using h
      | cons a e ih =>
        intro i h
        simp only [D.okNs, Bool.and_eq_true] at h
        cases i with
        | zero => simp only [List.set_cons_zero, D.okNs, Bool.and_eq_true]; exact ⟨hL.1, h.2⟩
        | succ i => simp only [List.set_cons_succ, D.okNs, Bool.and_eq_true]; exact ⟨h.1, ih i h.2⟩
    exact this e p.1 he
theorem okNs_undef {h : Nat} {ts : List Nat} : ∀ n : Nat, D.okNs h ts (List.replicate n .undef) = true
  | 0 => rfl
  | n + 1 => by simp only [List.replicate_succ, D.okNs, D.okN, Bool.true_and]; exact okNs_undef n
section
variable {P : Program} {R : List D → St → Prop} {k : List KI}
theorem vLeaf_ok {C : Ent → Ent → Prop} {m : Nat} (hCm : ∀ E0 E, C E0 E → E.g.n ≤ m) {nt : Nat} {sl : List (Nat × Option D)} {σ' : Option St} {op : Bool} {env : List D} {σ : St} (hn : env.length = nt) (h : vLeaf C m P R nt k sl σ' op env σ) : RunC C P R k env σ := by
  obtain ⟨L, h1, h2⟩ := vPick_ok h
  obtain ⟨hl, hg⟩ := mkE_forget hn h2
  cases σ' with
  | none => exact run_forget hl hg h1.it
  | some σ' =>
    obtain ⟨h3, h1⟩ := cond_iff h1
    obtain ⟨h8, h1⟩ := okHP_ok h1
    have h7 : σ.H.take σ'.H.length = σ'.H ∧ ownF (σ'.own.map (·.1)) σ.own = σ'.own ∧ It (RunC C P R k (mkE nt L) σ') := by
      obtain ⟨e1, h1⟩ := eqNil_ok h1 (fun e => by rw [e]; rfl)
      obtain ⟨e2, h1⟩ := eqNil_ok h1 (fun e => by rw [e]; unfold ownF; rw [List.filter_eq_nil_iff]; simp)
      exact ⟨e1, e2, h1⟩
    obtain ⟨h4, h5, h6⟩ := h7
    simp only [Bool.and_eq_true] at h3
    refine run_forget hl hg (run_sh hCm (h := σ'.H.length) h4.symm (Nat.le_of_ble_eq_true h3.1.2) (Nat.le_of_ble_eq_true h3.1.1) (okNs_mkE h3.2 (okNs_undef nt)) (by have := h8; rwa [h4] at this) ?_ h6.it)
    rw [← h5]; exact List.filter_sublist

/- CODE -/
noncomputable def vCond (x : Operand) (s : Sc) (env : List D) (K : Bool → Sc → List D → Prop) : Prop := match x with
  | .tmp t => getK env t fun d => match d with
    | .v (.bool b) => vBool s b (some t) env K
    | _ => False
  | .const (.bool b) => K b s env
  | _ => False
theorem vCond_ok {x : Operand} {s : Sc} {env : List D} {K : Bool → Sc → List D → Prop} (h : vCond x s env K) : ∃ b s', K b s' env ∧ evD env x = .v (.bool b) := by
  unfold vCond at h
  split at h
  · rename_i t
    rw [getK_eq] at h
    split at h
    · rename_i b hd
      obtain ⟨s', h1⟩ := vBool_ok h (fun t' e => by simp at e; subst e; exact getD_some hd (by simp))
      exact ⟨b, s', h1, hd⟩
    · exact h.elim
  · exact ⟨_, _, h, rfl⟩
  · exact h.elim
/-- one piece of code -/
noncomputable def vStep (C : Ent → Ent → Prop) (m : Nat) (P : Program) (R : List D → St → Prop) (rk : Nat → List D → St → Prop) (nt : Nat) (im : List Nat) (T : List KI) (ih : Sc → List KI → List D → St → Prop) (ks : List KI) (s : Sc) (env : List D) (σ : St) : Prop := match ks with
    | [] => (match s with
      | .h (.l sl σ') _ => vLeaf C m P R nt T sl σ' false env σ
      | .h (.lo sl σ') _ => vLeaf C m P R nt T sl (some σ') true env σ
      | .h .r _ => T = [] ∧ rk 0 env σ
      | .h .rn _ => T = [] ∧ rk 1 env σ
      | .h .ro _ => T = [] ∧ rk 2 env σ
      | .h .rd _ => T = [] ∧ rk 3 env σ
      | _ => False)
    | .blk _ :: ks => ih s ks env σ
    | .lp c :: ks => (match s with
      | .h (.l sl σ') _ => vLeaf C m P R nt (.lp c :: (ks ++ T)) sl σ' false env σ
      | .h (.lo sl σ') _ => vLeaf C m P R nt (.lp c :: (ks ++ T)) sl (some σ') true env σ
      | .h .n s => ih s (.code c :: .lp c :: ks) env σ
      | _ => False)
    | .code c :: ks => (match c with
      | .seq x y => ih s (.code x :: .code y :: ks) env σ
      | .skip => ih s ks env σ
      | .label _ => ih s ks env σ
      | .block id x => ih s (.code x :: .blk id :: ks) env σ
      | .loop x => ih s (.lp x :: ks) env σ
      | .exit id => (match popK id ks with
        | some ks' => ih s ks' env σ
        | none => False)
      | .ret => (match s with
        | .h .r _ => rk 0 env σ
        | .h .rn _ => rk 1 env σ
        | .h .ro _ => rk 2 env σ
        | .h .rd _ => rk 3 env σ
        | _ => False)
      | .cond t x y => vCond t s env fun b s env => Bool.rec (ih s (.code y :: ks) env σ) (ih s (.code x :: ks) env σ) b
      | .region r ops d => Bool.rec (vOps P im r ops (fun L sl σ => It (RunO C P R (ks ++ T) ops L (mkE nt sl) σ)) ops.toList 0 s env σ fun s env σ => ih s ks env σ) (vDrawS P im ops s env σ fun s env σ => ih s ks env σ) d
      | _ => False)
/-- THE WALK: `R`: what is asked for at the end, `rk`: the same, worked out; `C`: the objects that the call was handed; `nt`: the slots -/
noncomputable def vc (C : Ent → Ent → Prop) (m : Nat) (P : Program) (R : List D → St → Prop) (rk : Nat → List D → St → Prop) (nt : Nat) (im : List Nat) (T : List KI) (fuel : Nat) (s : Sc) (ks : List KI) (env : List D) (σ : St) : Prop :=
  Nat.rec (motive := fun _ => Sc → List KI → List D → St → Prop) (fun _ _ _ _ => False) (fun _ ih s ks env σ => pre 1000000 0 s env σ (vStep C m P R rk nt im T ih ks)) fuel s ks env σ
theorem popK_app {T : List KI} {id : Nat} : ∀ {ks ks' : List KI}, popK id ks = some ks' → popK id (ks ++ T) = some (ks' ++ T)
  | [], ks', h => by simp [popK] at h
  | .code c :: ks, ks', h => by simp only [popK] at h; simp only [List.cons_append, popK]; exact popK_app h
  | .lp c :: ks, ks', h => by simp only [popK] at h; simp only [List.cons_append, popK]; exact popK_app h
  | .blk i :: ks, ks', h => by
    simp only [popK] at h
    simp only [List.cons_append, popK]
    by_cases e : i = id
    · rw [if_pos e] at h ⊢; simp at h; subst h; rfl
    · rw [if_neg e] at h ⊢; exact popK_app h
theorem vStep_ok {C : Ent → Ent → Prop} (L : LinkC C) {m : Nat} (hCm : ∀ E0 E, C E0 E → E.g.n ≤ m) (hm : P.follows .mixedOrders = true) {rk : Nat → List D → St → Prop} {nt : Nat} {im : List Nat} {T : List KI} (hR : ∀ b env σ, env.length = nt → rk b env σ → R env σ) {ih : Sc → List KI → List D → St → Prop}
    (IH : ∀ {s : Sc} {ks : List KI} {env : List D} {σ : St}, env.length = nt → ih s ks env σ → RunC C P R (ks ++ T) env σ) {ks : List KI} {s : Sc} {env : List D} {σ : St} (hn : env.length = nt) (h : vStep C m P R rk nt im T ih ks s env σ) : RunC C P R (ks ++ T) env σ := by
  unfold vStep at h
  split at h
  · split at h
    · exact vLeaf_ok hCm hn h
    · exact vLeaf_ok hCm hn h
    · obtain ⟨rfl, h⟩ := h; exact run_nilC L (hR _ _ _ hn h)
    · obtain ⟨rfl, h⟩ := h; exact run_nilC L (hR _ _ _ hn h)
    · obtain ⟨rfl, h⟩ := h; exact run_nilC L (hR _ _ _ hn h)
    · obtain ⟨rfl, h⟩ := h; exact run_nilC L (hR _ _ _ hn h)
    · exact h.elim
  · exact run_blk (IH hn h)
  · split at h
    · exact vLeaf_ok hCm hn h
    · exact vLeaf_ok hCm hn h
    · exact run_lp (IH hn h)
    · exact h.elim
  · split at h
    · exact run_seq (IH hn h)
    · exact run_skip (IH hn h)
    · exact run_label (IH hn h)
    · exact run_block (IH hn h)
    · exact run_loop (IH hn h)
    · split at h
      · rename_i ks' hp; exact run_exit (popK_app hp) (IH hn h)
      · exact h.elim
    · split at h
      · exact run_retC L (hR _ _ _ hn h)
      · exact run_retC L (hR _ _ _ hn h)
      · exact run_retC L (hR _ _ _ hn h)
      · exact run_retC L (hR _ _ _ hn h)
      · exact h.elim
    · obtain ⟨b, s', h1, h2⟩ := vCond_ok h
      refine run_cond h2 (fun hb => ?_) (fun hb => ?_)
      · subst hb; exact IH hn h1
      · subst hb; exact IH hn h1
    · rename_i r ops d
      cases d with
      | false =>
        intro E0 E g a w B hC hf hB
        show KQ P B (.code (.region r ops false) :: (_ ++ T)) .normal a w
        simp only [KQ]
        exact wp_region_list (vOps_ok (n := nt) (Z := fun L sl σ => It (RunO C P R (_ ++ T) ops L (mkE nt sl) σ)) (fun _ _ _ h => h.it) (fun s env σ hl hk => IH hl hk) hn (show vOps P im r ops _ ops.toList 0 s env σ fun s env σ => ih s _ env σ from h) E0 E g a w B hC hf hB)
      | true => exact vDrawS_ok hm hn (fun s env σ hl hk => IH hl hk) (show vDrawS P im ops s env σ fun s env σ => ih s _ env σ from h)
    · exact h.elim
theorem vc_ok {C : Ent → Ent → Prop} (L : LinkC C) {m : Nat} (hCm : ∀ E0 E, C E0 E → E.g.n ≤ m) (hm : P.follows .mixedOrders = true) {rk : Nat → List D → St → Prop} {nt : Nat} {im : List Nat} {T : List KI} (hR : ∀ b env σ, env.length = nt → rk b env σ → R env σ) :
    ∀ {fuel : Nat} {s : Sc} {ks : List KI} {env : List D} {σ : St}, env.length = nt → vc C m P R rk nt im T fuel s ks env σ → RunC C P R (ks ++ T) env σ
  | 0, s, ks, env, σ, _, h => (h : False).elim
  | fuel + 1, s, ks, env, σ, hn, h => by
    have h' : pre 1000000 0 s env σ (vStep C m P R rk nt im T (vc C m P R rk nt im T fuel) ks) := h
    obtain ⟨s1, env1, σ1, h1, h2, h3⟩ := pre_ok h'
    exact run_cv h2 (vStep_ok L hCm hm hR (vc_ok L hCm hm hR) (h3.trans hn) h1)

/- RESULTS -/
noncomputable def vRes (P : Program) (env : List D) (σ : St) (dg : Bool) (rs : List ResultVar) (K : List D → Prop) : Prop :=
  List.rec (motive := fun _ => (List D → Prop) → Prop) (fun K => K []) (fun r _ ih K => match r with
    | .tmp t => cond (Nat.blt t env.length) (getK env t fun d => ih fun ds => K (d :: ds)) False
    | .cell a t => getK env a fun d => match d with
      | .ptr q off => (match σ.H[q]?, szAgg P t with
        | some (some cs), some (1, false) => (match cs[off]? with
          | some d => ih fun ds => K (d :: ds)
          | none => False)
        | some (some cs), some (n, true) => cond (Nat.ble (off + n) cs.length) (Bool.rec (match toVsN ((cs.drop off).take n) with
          | some xs => ih fun ds => K (.v (.agg xs) :: ds)
          | none => False) (forceK ((cs.drop off).take n) fun es => ih fun ds => K (.dagg es :: ds)) dg) False
        | _, _ => False)
      | _ => False) rs K
theorem vRes_ok {env : List D} {σ : St} {dg : Bool} : ∀ {rs : List ResultVar} {K : List D → Prop}, vRes P env σ dg rs K → ∃ ds, K ds ∧ ResL P env σ rs ds
  | [], K, h => ⟨[], h, .nil⟩
  | .tmp t :: rs, K, h => by
    have h' : cond (Nat.blt t env.length) (getK env t fun d => vRes P env σ dg rs fun ds => K (d :: ds)) False := h
    obtain ⟨h1, h2⟩ := cond_iff h'
    rw [getK_eq] at h2
    obtain ⟨ds, h3, h4⟩ := vRes_ok h2
    refine ⟨_, h3, .tmp ?_ h4⟩
    have : t < env.length := Nat.le_of_ble_eq_true h1
    rw [List.getD_eq_getElem?_getD, List.getElem?_eq_getElem this]; rfl
  | .cell a t :: rs, K, h => by
    have h' : getK env a fun d => match (generalizing := false) d with
      | .ptr q off => (match σ.H[q]?, szAgg P t with
        | some (some cs), some (1, false) => (match cs[off]? with
          | some d => vRes P env σ dg rs fun ds => K (d :: ds)
          | none => False)
        | some (some cs), some (n, true) => cond (Nat.ble (off + n) cs.length) (Bool.rec (match toVsN ((cs.drop off).take n) with
          | some xs => vRes P env σ dg rs fun ds => K (.v (.agg xs) :: ds)
          | none => False) (forceK ((cs.drop off).take n) fun es => vRes P env σ dg rs fun ds => K (.dagg es :: ds)) dg) False
        | _, _ => False)
      | _ => False := h
    rw [getK_eq] at h'
    split at h'
    · rename_i q off hd
      have ha := getD_some hd (by simp)
      split at h'
      · rename_i cs hq hz
        split at h'
        · rename_i d hc
          obtain ⟨ds, h3, h4⟩ := vRes_ok h'
          exact ⟨_, h3, .cell1 ha hq hz hc h4⟩
        · exact h'.elim
      · rename_i cs n hq hz
        obtain ⟨h1, h2⟩ := cond_iff h'
        cases dg with
        | false =>
          have h2 : (match toVsN ((cs.drop off).take n) with
            | some xs => vRes P env σ false rs fun ds => K (.v (.agg xs) :: ds)
            | none => False) := h2
          split at h2
          · rename_i xs hx
            obtain ⟨ds, h3, h4⟩ := vRes_ok h2
            exact ⟨_, h3, .cellA ha hq hz (Nat.le_of_ble_eq_true h1) (toVsN_eq hx) h4⟩
          · exact h2.elim
        | true =>
          have h2 : forceK ((cs.drop off).take n) fun es => vRes P env σ true rs fun ds => K (.dagg es :: ds) := h2
          rw [forceK_eq] at h2
          obtain ⟨ds, h3, h4⟩ := vRes_ok h2
          exact ⟨_, h3, .cellD ha hq hz (Nat.le_of_ble_eq_true h1) h4⟩
      · exact h'.elim
    · exact h'.elim
/-- a nil cell seen as an empty list -/
def nlV : V → V
  | .nils => .list []
  | x => x
theorem repA_nl {M : Mem} : ∀ {xs : List V} {us : List Value}, repA M xs us → repA M (xs.map nlV) us
  | [], us, h => h
  | x :: xs, us, h => by
    simp only [repA] at h
    obtain ⟨u, us', rfl, ha, h1, h2⟩ := h
    simp only [List.map_cons, repA]
    refine ⟨u, us', rfl, ?_, ?_, repA_nl h2⟩
    · cases x <;> first | exact ha | rfl
    · cases x with
      | nils =>
        have h3 : repV M .nils u := (repV_one (by rfl)).2 h1
        have h4 : repD (⟨M, fun _ => 0, 0, fun _ _ => none, fun _ => 0⟩ : Gh) (.v (.list [])) u := see_nilsD (by simpa only [repD] using h3)
        show repC M (.list []) [u]
        exact (repV_one (by rfl)).1 (by simpa only [repD] using h4)
      | _ => exact h1
/-- a result seen as it is asked for -/
noncomputable def wkD (ts : List Nat) (kn : Bool) : D → D
  | .acc k xs => Bool.rec (.v (.list xs)) (.acc k xs) (ts.any (Nat.beq k))
  | .v .nils => Bool.rec (.v (.list [])) (.v .nils) kn
  | .v (.agg xs) => Bool.rec (.v (.agg (xs.map nlV))) (.v (.agg xs)) kn
  | d => d
theorem wkD_rep {ts : List Nat} {kn : Bool} {g : Gh} {d : D} {u : Value} (h : repD g d u) : repD g (wkD ts kn d) u := by
  unfold wkD
  split
  · cases ts.any _
    · exact repD_un h
    · exact h
  · cases kn
    · exact see_nilsD h
    · exact h
  · cases kn
    · simp only [repD, repV_agg] at h ⊢
      obtain ⟨ws, h1, h2⟩ := h
      exact ⟨ws, repA_nl h1, h2⟩
    · exact h
  · exact h
theorem wkDs_rep {ts : List Nat} {kn : Bool} {g : Gh} : ∀ {ds : List D} {us : List Value}, repDs g ds us → repDs g (ds.map (wkD ts kn)) us
  | [], us, h => by simpa using h
  | d :: ds, us, h => by
    simp only [repDs, List.map_cons] at h ⊢
    obtain ⟨u, us', e, h1, h2⟩ := h
    exact ⟨u, us', e, wkD_rep h1, wkDs_rep h2⟩
noncomputable def packN : List D → (D → Prop) → Prop
  | [d], K => K d
  | ds, K => forceK ds fun ds => K (.tup ds)
theorem packN_eq (ds : List D) (K : D → Prop) : packN ds K = K (packD ds) := by
  match ds with
  | [] => rfl
  | [d] => rfl
  | a :: b :: ds => simp only [packN, packD, forceK_eq]
noncomputable def vRet (P : Program) (rs : List ResultVar) (d : D) (σ' : St) (md : Nat) (env : List D) (σ : St) : Prop :=
  vRes P env σ (Nat.beq md 3) rs fun ds => forceK (ds.map (wkD (σ'.own.map (·.1)) (Nat.beq md 1))) fun ds => packN ds fun d' =>
    cond (D.okN σ'.H.length (σ'.own.map (·.1)) d && Nat.ble σ'.H.length σ.H.length) (okHP (Nat.beq md 2) (okH σ'.H.length (σ'.own.map (·.1)) (σ.H.take σ'.H.length))
      (eqNil σ'.H (σ.H.take σ'.H.length) (eqNil σ'.own (ownF (σ'.own.map (·.1)) σ.own) (d' = d)))) False
theorem vRet_ok {fn : Func} {d : D} {σ' : St} {md : Nat} {env : List D} {σ : St} (h : vRet P fn.results.toList d σ' md env σ) : ResOK P fn env σ d σ' := by
  obtain ⟨ds, h1, hr⟩ := vRes_ok h
  rw [forceK_eq, packN_eq] at h1
  obtain ⟨h2, h3⟩ := cond_iff h1
  obtain ⟨h8, h3⟩ := okHP_ok h3
  simp only [Bool.and_eq_true] at h2
  generalize Nat.beq md 1 = kn at h3
  have h4 : packD (ds.map (wkD (σ'.own.map (·.1)) kn)) = d ∧ σ.H.take σ'.H.length = σ'.H ∧ ownF (σ'.own.map (·.1)) σ.own = σ'.own := by
    obtain ⟨e1, h3⟩ := eqNil_ok h3 (fun e => by rw [e]; rfl)
    obtain ⟨e2, h3⟩ := eqNil_ok h3 (fun e => by rw [e]; unfold ownF; rw [List.filter_eq_nil_iff]; simp)
    exact ⟨h3, e1, e2⟩
  obtain ⟨rfl, hH, hown⟩ := h4
  intro E g a w hf hE
  obtain ⟨us, h5, h6⟩ := hr.run hf
  have hrun : (results fn a.tmps).run P w = .ok (if h : us.length = 1 then us[0] else .tuple us.toArray) w := by
    rw [results_eq, Array.mapM_eq_mapM_toList]
    simp only [Sem.run_bind, Sem.run_map, h5, Result.andThen_ok]
    by_cases h : us.length = 1 <;> simp [h]
  have hsub : σ'.own.Sublist σ.own := by rw [← hown]; exact List.filter_sublist
  refine ⟨_, _, hrun, wi_sh hf.wi hH.symm (Nat.le_of_ble_eq_true h2.2) hE (by have := h8; rwa [hH] at this) hsub, ?_⟩
  refine repD_sh _ _ h2.1 ?_
  have h7 := wkDs_rep (ts := σ'.own.map (·.1)) (kn := kn) h6
  generalize ds.map (wkD (σ'.own.map (·.1)) kn) = ds' at h7
  have hl := repDs_length h7
  unfold packD
  split
  · rename_i d0
    obtain ⟨u, rfl, h3⟩ := repDs_one.1 h7
    simpa using h3
  · rename_i hne
    have : us.length ≠ 1 := by
      rw [hl]
      intro h
      match ds', h with
      | [d0], _ => exact hne d0 rfl
    rw [dif_neg this]
    simp only [repD]
    exact ⟨us, rfl, h7⟩

/- FUNCTIONS -/
theorem spec_of_runN {f : FuncId} {fn : Func} {c : Code} {ds : List D} {σ σ' : St} {d : D} (hf : P.funcs[f]? = some fn) (hb : fn.body = some c) (hn : (fn.name == "runtime.NumGoroutine") = false)
    (hH : σ.H.length ≤ σ'.H.length) (h : RunC (CN σ.H.length) P (fun env σ1 => ResOK P fn env σ1 d σ') [.code c] (ds ++ List.replicate (fn.ntmps - ds.length) .undef) σ) : FSpec P f ds σ d σ' := by
  refine ⟨⟨fn, hf, hn, by simp [hb]⟩, fun g w args hw hargs => ?_⟩
  refine calls_of_wp hf hb ?_
  have hfi : FI ⟨g, w, σ⟩ g σ (ds ++ List.replicate (fn.ntmps - ds.length) .undef) { tmps := args.toArray ++ Array.replicate (fn.ntmps - args.toArray.size) undef, defers := [] } w := by
    refine ⟨WI.start hw, ?_, rfl⟩
    have hl := repDs_length hargs
    simp only [Array.toList_append, Array.toList_replicate, List.size_toArray, hl]
    refine repDs_append hargs ?_
    generalize fn.ntmps - ds.length = m
    induction m with
    | zero => simp [repDs]
    | succ m ih => simp only [List.replicate_succ, repDs]; exact ⟨_, _, rfl, by simp [repD], ih⟩
  have := h ⟨g, w, σ⟩ ⟨g, w, σ⟩ g _ w (bodyPost P fn fun e w' => ∃ u g', e = .returned u ∧ WI ⟨g, w, σ⟩ g' σ' w' ∧ repD g' d u) ⟨rfl, Nat.le_of_eq hw.n⟩ hfi ?_
  · simp only [KQ] at this
    exact this
  · intro g' env' σ1 a' w' hfi' hR
    obtain ⟨u, g2, h1, h2, h3⟩ := hR _ _ _ _ hfi' (by rw [hw.n]; exact hH)
    have : a'.defers = [] ∧ ∃ v, (results fn a'.tmps).run P w' = .ok v w' ∧ ∃ u g', Ending.returned v = .returned u ∧ WI ⟨g, w, σ⟩ g' σ' w' ∧ repD g' d u :=
      ⟨hfi'.defers, u, h1, u, g2, rfl, h2, h3⟩
    exact ⟨this, this⟩
/-- from here on: a loop with a concrete end -/
abbrev Rn (P : Program) (fn : Func) (C : Nat) (d : D) (σ' : St) (k : List KI) (env : List D) (σ : St) : Prop := RunC (CN C) P (fun env σ1 => ResOK P fn env σ1 d σ') k env σ
/-- A FUNCTION's CONTRACT -/
theorem spec_vc (hm : P.follows .mixedOrders = true) {f : FuncId} {ds : List D} {σ σ' : St} {d : D} (fn : Func) (c : Code) (hf : P.funcs[f]? = some fn) (hb : fn.body = some c) (hn : (fn.name == "runtime.NumGoroutine") = false) (hH : Nat.ble σ.H.length σ'.H.length = true) (nt : Nat) (hnt : (ds ++ List.replicate (fn.ntmps - ds.length) D.undef).length = nt)
    (im : List Nat) (s : Sc)
    (h : forceK (ds ++ List.replicate (fn.ntmps - ds.length) D.undef) fun env => vc (CN σ.H.length) σ.H.length P (fun env σ1 => ResOK P fn env σ1 d σ') (vRet P fn.results.toList d σ') nt im [] 10000 s [.code c] env σ) : FSpec P f ds σ d σ' := by
  rw [forceK_eq] at h
  refine spec_of_runN hf hb hn (Nat.le_of_ble_eq_true hH) ?_
  exact vc_ok (ks := [.code c]) (T := []) (linkN _) (fun _ _ h => h.2) hm (fun b env σ _ h => vRet_ok h) hnt h
/-- A LOOP, from its head on; `T`: what stands behind it -/
theorem loop_vc (hm : P.follows .mixedOrders = true) {C : Nat} {fn : Func} {d : D} {σ' : St} (nt : Nat) (im : List Nat) {ks T : List KI} {L : List (Nat × D)} {σ : St} (s : Sc)
    (h : forceK (mkE nt L) fun env => vc (CN C) C P (fun env σ1 => ResOK P fn env σ1 d σ') (vRet P fn.results.toList d σ') nt im T 10000 (.h .n s) ks env σ) : Rn P fn C d σ' (ks ++ T) (mkE nt L) σ := by
  rw [forceK_eq] at h
  exact vc_ok (linkN _) (fun _ _ h => h.2) hm (fun b env σ _ h => vRet_ok h) (by simp [mkE, mkE_length]) h
/-- from any place on -/
theorem run_vc (hm : P.follows .mixedOrders = true) {C : Ent → Ent → Prop} (L : LinkC C) (m : Nat) (hCm : ∀ E0 E, C E0 E → E.g.n ≤ m) {fn : Func} {d : D} {σ' : St} (nt : Nat) (im : List Nat) {ks T : List KI} {E : List (Nat × D)} {σ : St} (s : Sc)
    (h : forceK (mkE nt E) fun env => vc C m P (fun env σ1 => ResOK P fn env σ1 d σ') (vRet P fn.results.toList d σ') nt im T 10000 s ks env σ) : RunC C P (fun env σ1 => ResOK P fn env σ1 d σ') (ks ++ T) (mkE nt E) σ := by
  rw [forceK_eq] at h
  exact vc_ok L hCm hm (fun b env σ _ h => vRet_ok h) (by simp [mkE, mkE_length]) h
/-- from an operation on -/
theorem rest_vc (hm : P.follows .mixedOrders = true) {C : Ent → Ent → Prop} (Lk : LinkC C) (m : Nat) (hCm : ∀ E0 E, C E0 E → E.g.n ≤ m) {fn : Func} {d : D} {σ' : St} (nt : Nat) (im : List Nat) (r i : Nat) {ops : Array Oper} {L : List Oper} {ks T : List KI} {E : List (Nat × D)} {σ : St} (s : Sc)
    (h : forceK (mkE nt E) fun env => vOps P im r ops (fun L sl σ => It (RunO C P (fun env σ1 => ResOK P fn env σ1 d σ') (ks ++ T) ops L (mkE nt sl) σ)) L i s env σ fun s env σ => vc C m P (fun env σ1 => ResOK P fn env σ1 d σ') (vRet P fn.results.toList d σ') nt im T 10000 s ks env σ) : RunO C P (fun env σ1 => ResOK P fn env σ1 d σ') (ks ++ T) ops L (mkE nt E) σ := by
  rw [forceK_eq] at h
  exact vOps_ok (n := nt) (fun _ _ _ h => h.it) (fun s env σ hl hk => vc_ok Lk hCm hm (fun b env σ _ h => vRet_ok h) hl hk) (by simp [mkE, mkE_length]) h
theorem via {a b : Prop} (h : a = b) (ha : a) : b := h ▸ ha
end
end Go.Nv

namespace Go.Nv
open Go.Dv
section
variable {P : Program} {R : List D → St → Prop} {k : List KI} {env : List D} {σ : St} {ops : Array Oper} {L : List Oper} {o : Oper}
end
/- the same, as the walks have it -/
section
variable {P : Program} {R : List D → St → Prop} {k : List KI} {nt : Nat} {E : List (Nat × D)} {σ : St} {ops : Array Oper} {L0 : List Oper}
end
section
variable {P : Program} {fn : Func} {d : D} {σ' : St} {m r : Nat} {l : List (List UInt8)} {k : List KI} {E : List (Nat × D)} {σ : St}
end
end Go.Nv

namespace Go.Nv
open Go.Dv
section
variable {C : Ent → Ent → Prop} {P : Program} {R : List D → St → Prop} {k : List KI} {env : List D} {σ : St} {ops : Array Oper} {L : List Oper} {o : Oper}
end
section
variable {P : Program} {R : List D → St → Prop} {k : List KI} {nt : Nat} {E : List (Nat × D)} {σ : St} {ops : Array Oper} {L0 : List Oper} {C : Ent → Ent → Prop}
end
section
variable {P : Program} {fn : Func} {d : D} {σ' : St} {m : Nat} {k : List KI} {E : List (Nat × D)} {σ : St}
end
/-- an array of a program's structs becomes data -/
theorem cv_flz {env : List D} {σ : St} {q t sz n : Nat} {xs : List V} (hsz : 0 < sz) (hs : ∀ x ∈ xs, x.size = sz) (hn : n = xs.length) (hq : σ.H[q]? = some (some (flatV xs))) (ht : env[t]? = some (.arr q 0 n)) : Cv env σ (env.set t (.v (.list xs))) ⟨σ.H.set q none, σ.own⟩ := fun E g a w hf => by
  subst hn
  have hone : ∀ y ∈ xs.flatMap V.cellsV, y.isAgg = false := fun y hy => by
    obtain ⟨_, _, _, _, _, h1, _⟩ := hf.wi.rep.obj q _ hq
    have := h1 (.v y) (List.mem_map.2 ⟨y, hy, rfl⟩)
    simpa [D.one] using this
  have hz : Fz (lentIn [q] σ.H) env (env.set t (.v (.list xs))) := by
    refine fz_set (n := 1) (Fz.refl env) ht (.inr (.inr ⟨q, 0, sz, flatV xs, xs, .inl rfl, rfl, hsz, hs, by simp [lentIn, hq], fun j y hy => ?_⟩))
    exact ⟨hone y (List.mem_of_getElem? hy), .v y, by rw [Nat.zero_add, flatV, List.getElem?_map, hy]; rfl, .v y, .same, rfl⟩
  obtain ⟨g', hf'⟩ := cv_frz [q] hz E g a w hf
  exact ⟨g', by simpa [killH] using hf'⟩
end Go.Nv

namespace Go.Nv
open Go.Dv
end Go.Nv

namespace Go.Dv
def FactX (P : Program) (ops : Array Oper) (sts : Bool → List St) (fr : Nat) (pl esc : Nat → Bool) (items : List It) (lims : List Ef) (env0 : List D) (i : Nat) (o : Oper) : Prop :=
  ∃ d b, items[i]? = some (o.dst, d, b) ∧
    ((wantD (envA (items.take i) env0) ops o = some false ∧ d = .tup [] ∧ b = false ∧ i ≠ fr) ∨
     (wantD (envA (items.take i) env0) ops o = some true ∧ b = false ∧ i ≠ fr ∧ ∀ (b : Bool) (c : Nat) (s : St), (sts b)[c]? = some s → (∀ lim, (lims[i]?).bind (·.2) = some lim → c ≤ lim) → OpOK P o (evDs (envA (items.take i) env0) o) s d s) ∨
     (wantD (envA (items.take i) env0) ops o = some true ∧ b = true ∧ i ≠ fr ∧ ∀ bb s, (sts bb)[cntA (items.take i)]? = some s → (bb = false → needs ops i fr = false) → ∃ s', (sts bb)[cntA (items.take i) + 1]? = some s' ∧ OpOK P o (evDs (envA (items.take i) env0) o) s d s') ∨
     (wantD (envA (items.take i) env0) ops o = some true ∧ b = false ∧ i = fr ∧ ∀ (c : Nat) (s : St), (sts false)[c]? = some s → ∃ s', (sts true)[c]? = some s' ∧ OpOK P o (evDs (envA (items.take i) env0) o) s d s') ∨
     (pl i = true ∧ b = false) ∨ (esc i = true ∧ b = false))

section
variable {C : Ent → Ent → Prop} {P : Program} {R : List D → St → Prop} {k : List KI} {env : List D} {σ : St}

set_option maxHeartbeats 1000000 in
theorem wpAny_drawX {pl esc : Nat → Bool} {ops : Array Oper} {sts : Bool → List St} {fr : Nat} {items : List It} {effs : List Bool} {lims : List Ef} {env0 : List D} {Q : Exit → Act → World → Prop} {E : Ent} {J : Gh → Prop} (hJ : ∀ g g' : Gh, g.le g' → J g → J g') (hreg : regOK ops effs = true) (hwin : winOK ops lims = true) (hle : effs = lims.map (·.1)) (hlen : items.length = ops.size) (heff : effs = items.map (·.2.2))
    (hfact : ∀ i o, ops[i]? = some o → FactX P ops sts fr pl esc items lims env0 i o)
    (hesc : ∀ (fuel : Nat) (listed : Array Bool) (a : Act) (w : World) (g : Gh) (s : St) (i : Nat) (o : Oper), ops[i]? = some o → esc i = true → listed.size = ops.size → (∀ k, pl k = true → listed.getD k false = true) → (∀ k, esc k = true → listed.getD k false = false) → DC ops (fun i => listed.getD i false) →
      ((List.range ops.size).filter fun i => !listed.getD i false).length = fuel + 1 → (∀ e ∈ o.after, Region.binds .any e = true → listed.getD e.on false = true) → (sts (listed.getD fr false))[cntS items (fun i => listed.getD i false)]? = some s → J g → FI E g s (envS items (fun i => listed.getD i false) env0) a w →
      wpOp P ops Q i (wpAny P .any ops Q fuel (listed.setIfInBounds i true)) a w)
    (hfin : (∀ i, i < ops.size → esc i = false) → ∀ g a w, J g → (∃ s, (sts (decide (fr < ops.size)))[cntA items]? = some s ∧ FI E g s (envA items env0) a w) → Q .normal a w) :
    ∀ (fuel : Nat) (listed : Array Bool) (a : Act) (w : World) (g : Gh) (s : St), listed.size = ops.size → (∀ k, pl k = true → listed.getD k false = true) → (∀ k, esc k = true → listed.getD k false = false) → DC ops (fun i => listed.getD i false) →
      ((List.range ops.size).filter fun i => !listed.getD i false).length = fuel →
      (sts (listed.getD fr false))[cntS items (fun i => listed.getD i false)]? = some s → J g → FI E g s (envS items (fun i => listed.getD i false) env0) a w → wpAny P .any ops Q fuel listed a w := by
  -- nothing is ready: all are listed
  have done_ : ∀ (listed : Array Bool), listed.size = ops.size → Region.ready .any ops listed = [] → ∀ i, i < ops.size → listed.getD i false = true := by
    intro listed hsz hr i
    induction i using Nat.strongRecOn with
    | _ i ih =>
      intro hi
      cases hl : listed.getD i false with
      | true => rfl
      | false =>
        exfalso
        have hmem : i ∈ Region.ready .any ops listed := by
          unfold Region.ready
          rw [List.mem_filter]
          refine ⟨by simpa using hi, ?_⟩
          have ho : ops[i]? = some ops[i] := by simp [hi]
          have hl' : listed.getD i true = false := by
            rw [Array.getD_eq_getD_getElem?] at hl ⊢
            have : listed[i]? = some listed[i] := by simp [hsz, hi]
            rw [this] at hl ⊢; exact hl
          rw [ho]
          simp only [hl', Bool.not_false, Bool.true_and, Option.map_some, Option.getD_some]
          rw [Array.all_eq_true_iff_forall_mem]
          intro e he
          cases hb : Region.binds .any e with
          | false => simp
          | true =>
            have hlt := regOK_edge hreg ho e he hb
            simp [ih e.on hlt (by omega)]
        rw [hr] at hmem
        simp at hmem
  have finish : ∀ (listed : Array Bool) (a : Act) (w : World) (g : Gh) (s : St), listed.size = ops.size → (∀ k, esc k = true → listed.getD k false = false) → (∀ i, i < ops.size → listed.getD i false = true) → (sts (listed.getD fr false))[cntS items (fun i => listed.getD i false)]? = some s →
      J g → FI E g s (envS items (fun i => listed.getD i false) env0) a w → Q .normal a w := by
    intro listed a w g s hsz hes hall hs hj hf
    have e1 : envS items (fun i => listed.getD i false) env0 = envA items env0 := by
      have := envS_lt items ops.size env0
      rw [List.take_of_length_le (by omega)] at this
      rw [← this]
      apply List.ext_getElem?
      intro t
      refine foldE_agree _ _ _ (fun x hx _ => ?_) rfl
      have hx2 := (List.getElem?_eq_some_iff.1 (mem_zipIdx hx)).1
      rw [hall x.2 (by omega)]; simp; omega
    have e2 : cntS items (fun i => listed.getD i false) = cntA items := by
      have := cntS_lt items ops.size
      rw [List.take_of_length_le (by omega)] at this
      rw [← this]
      refine foldC_agree _ _ (fun x hx _ => ?_)
      have hx2 := (List.getElem?_eq_some_iff.1 (mem_zipIdx hx)).1
      rw [hall x.2 (by omega)]; simp; omega
    have e3 : listed.getD fr false = decide (fr < ops.size) := by
      by_cases hfr : fr < ops.size
      · rw [hall fr hfr]; simp [hfr]
      · rw [Array.getD_eq_getD_getElem?, Array.getElem?_eq_none (by omega)]; simp [hfr]
    rw [e1] at hf
    rw [e2, e3] at hs
    exact hfin (fun i hi => by
      cases he : esc i with
      | false => rfl
      | true => have := hes i he; rw [hall i hi] at this; simp at this) g a w hj ⟨s, hs, hf⟩
  intro fuel
  induction fuel with
  | zero =>
    intro listed a w g s hsz hpl hes hdc hcount hs hj hf
    have hall : ∀ i, i < ops.size → listed.getD i false = true := by
      intro i hi
      cases hl : listed.getD i false with
      | true => rfl
      | false =>
        have hm : i ∈ (List.range ops.size).filter fun i => !listed.getD i false := List.mem_filter.2 ⟨by simpa using hi, by simp [hl]⟩
        have hnil := List.eq_nil_of_length_eq_zero hcount
        rw [hnil] at hm
        simp at hm
    refine ⟨?_, finish listed a w g s hsz hes hall hs hj hf⟩
    unfold Region.ready
    rw [List.filter_eq_nil_iff]
    intro i hi
    have hi' : i < ops.size := by simpa using hi
    have := hall i hi'
    have ht : listed.getD i true = true := by
      rw [Array.getD_eq_getD_getElem?] at this ⊢
      have h' : listed[i]? = some listed[i] := by simp [hsz, hi']
      rw [h'] at this ⊢; exact this
    simp [ht]
  | succ fuel ih =>
    intro listed a w g s hsz hpl hes hdc hcount hs hj hf
    refine ⟨fun hr => finish listed a w g s hsz hes (done_ listed hsz hr) hs hj hf, fun i hi => ?_⟩
    -- an operation that is ready
    unfold Region.ready at hi
    rw [List.mem_filter] at hi
    obtain ⟨hi1, hi2⟩ := hi
    have hi' : i < ops.size := by simpa using hi1
    have ho : ops[i]? = some ops[i] := by simp [hi']
    generalize hoo : ops[i] = o at ho
    rw [ho] at hi2
    simp only [Bool.and_eq_true, Bool.not_eq_true', Option.map_some, Option.getD_some] at hi2
    obtain ⟨hnl, hall⟩ := hi2
    have hnl' : listed.getD i false = false := by
      rw [Array.getD_eq_getD_getElem?] at hnl ⊢
      have h' : listed[i]? = some listed[i] := by simp [hsz, hi']
      rw [h'] at hnl ⊢; exact hnl
    have hready : ∀ e ∈ o.after, Region.binds .any e = true → listed.getD e.on false = true := by
      intro e he hb
      have := Array.all_eq_true_iff_forall_mem.1 hall e he
      simpa [hb] using this
    by_cases hei0 : esc i = true
    · exact hesc fuel listed a w g s i o ho hei0 hsz hpl hes hdc hcount hready hs hj hf
    have hpre := ready_before hdc ho hready
    have hpost := fun (j : Nat) (hs : listed.getD j false = true) => listed_before (S := fun i => listed.getD i false) hdc hs
    obtain ⟨d, b, hit, hcase⟩ := hfact i o ho
    have hil : i < items.length := by omega
    -- every other operation that shares a slot is ordered with it
    have opAt : ∀ (k : Nat) (x : It), items[k]? = some x → ∃ ok, ops[k]? = some ok ∧ x.1 = ok.dst := by
      intro k x hk
      have hkl : k < ops.size := by have := (List.getElem?_eq_some_iff.1 hk).1; omega
      have hok : ops[k]? = some ops[k] := by simp [hkl]
      obtain ⟨d', b', h1, _⟩ := hfact k _ hok
      rw [hk] at h1
      simp at h1
      exact ⟨_, hok, by rw [h1]⟩
    have lt_listed : ∀ (k : Nat) (ok : Oper), ops[k]? = some ok → k < i → (confl ops ok o = true ∨ (effs.getD k false = true ∧ effs.getD i false = true)) → listed.getD k false = true :=
      fun k ok hk hlt hc => hpre k (regOK_ord hreg hk ho hlt hc)
    have gt_not : ∀ (k : Nat) (ok : Oper), ops[k]? = some ok → i < k → (confl ops o ok = true ∨ (effs.getD i false = true ∧ effs.getD k false = true)) → listed.getD k false = false := by
      intro k ok hk hlt hc
      cases hl : listed.getD k false with
      | false => rfl
      | true =>
        have := hpost k hl i (regOK_ord hreg ho hk hlt hc)
        simp only [hnl'] at this
        exact absurd this (by simp)
    have agree : ∀ t ∈ readsOf ops o, (envS items (fun i => listed.getD i false) env0)[t]? = (envA (items.take i) env0)[t]? := by
      intro t ht
      rw [← envS_lt]
      refine foldE_agree _ _ _ (fun x hx hxt => ?_) rfl
      have hx2 := mem_zipIdx hx
      obtain ⟨ok, hok, hdst⟩ := opAt x.2 x.1 hx2
      rw [hdst] at hxt
      rcases Nat.lt_trichotomy x.2 i with h | h | h
      · rw [lt_listed x.2 ok hok h (.inl (by unfold confl; simp [hxt, ht]))]; simp [h]
      · rw [h, hnl']; simp
      · rw [gt_not x.2 ok hok h (.inl (by unfold confl; simp [hxt, ht]))]; simp; omega
    have hlast : ∀ (k : Nat) (x : It), items[k]? = some x → listed.getD k false = true → i < k → o.dst = none ∨ x.1 ≠ o.dst := by
      intro k x hk hl hlt
      cases hd : o.dst with
      | none => exact .inl rfl
      | some t =>
        refine .inr fun e => ?_
        obtain ⟨ok, hok, hdst⟩ := opAt k x hk
        have := gt_not k ok hok hlt (.inl (by unfold confl; simp [hd, ← hdst, e]))
        rw [this] at hl
        simp at hl
    have hadd := envS_add (S := fun i => listed.getD i false) (env0 := env0) hit hnl' hlast
    have hcadd := cntS_add (S := fun i => listed.getD i false) hit hnl'
    have hS' : (fun k => (listed.setIfInBounds i true).getD k false) = fun k => listed.getD k false || k == i := by
      funext k
      simp only [Array.getD_eq_getD_getElem?, Array.getElem?_setIfInBounds]
      by_cases hk : i = k
      · subst hk; simp [hsz, hi']
      · simp [hk, Ne.symm hk]
    have hcnt' : ((List.range ops.size).filter fun k => !(listed.setIfInBounds i true).getD k false).length = fuel := by
      have e1 : (List.range ops.size).filter (fun k => !(listed.setIfInBounds i true).getD k false) = ((List.range ops.size).filter fun k => !listed.getD k false).filter (fun k => k != i) := by
        rw [List.filter_filter]
        refine List.filter_congr fun k _ => ?_
        have := congrFun hS' k
        rw [this]
        cases listed.getD k false <;> cases hk : (k == i) <;> simp_all
      rw [e1]
      have hnd : ((List.range ops.size).filter fun k => !listed.getD k false).Nodup := List.filter_sublist.nodup List.nodup_range
      have hm : i ∈ (List.range ops.size).filter fun k => !listed.getD k false := List.mem_filter.2 ⟨hi1, by simp [hnl']⟩
      have hf1 := hnd.erase_eq_filter i
      rw [← hf1, List.length_erase_of_mem hm, hcount]; rfl
    have hdc' : DC ops (fun k => (listed.setIfInBounds i true).getD k false) := by
      rw [hS']
      intro k ok hk hsk e he hb
      simp only [Bool.or_eq_true, beq_iff_eq] at hsk ⊢
      rcases hsk with hsk | rfl
      · exact .inl (hdc k ok hk hsk e he hb)
      · rw [ho] at hk; simp at hk; subst hk
        exact .inl (hready e he hb)
    -- the count of effects so far
    have hcb : b = true → cntS items (fun k => listed.getD k false) = cntA (items.take i) := by
      intro hbt
      rw [← cntS_lt]
      have hei : effs.getD i false = true := by rw [heff, List.getD_eq_getElem?_getD, List.getElem?_map, hit]; simp [hbt]
      refine foldC_agree _ _ (fun x hx hxb => ?_)
      have hx2 := mem_zipIdx hx
      obtain ⟨ok, hok, _⟩ := opAt x.2 x.1 hx2
      have hex : effs.getD x.2 false = true := by rw [heff, List.getD_eq_getElem?_getD, List.getElem?_map, hx2]; simp [hxb]
      rcases Nat.lt_trichotomy x.2 i with h | h | h
      · rw [lt_listed x.2 ok hok h (.inr ⟨hex, hei⟩)]; simp [h]
      · rw [h, hnl']; simp
      · rw [gt_not x.2 ok hok h (.inr ⟨hei, hex⟩)]; simp; omega
    have hpl' : ∀ k, pl k = true → (listed.setIfInBounds i true).getD k false = true := fun k hk => by
      have := congrFun hS' k
      rw [this, hpl k hk]; simp
    have hes' : ∀ k, esc k = true → (listed.setIfInBounds i true).getD k false = false := fun k hk => by
      have := congrFun hS' k
      rw [this, hes k hk]
      have hki : k ≠ i := fun e => hei0 (e ▸ hk)
      simpa using hki
    have hw := wantD_congr agree
    have hev := evDs_congr agree
    have next : ∀ (g' : Gh) (a' : Act) (w' : World) (s' : St), (sts ((listed.setIfInBounds i true).getD fr false))[cntS items (fun k => (listed.setIfInBounds i true).getD k false)]? = some s' → J g' → FI E g' s' (putD (envS items (fun k => listed.getD k false) env0) o.dst d) a' w' → wpAny P .any ops Q fuel (listed.setIfInBounds i true) a' w' := by
      intro g' a' w' s' hs' hj' hf'
      refine ih _ a' w' g' s' (by simp [hsz]) hpl' hes' hdc' hcnt' hs' hj' ?_
      rw [hS', hadd]; exact hf'
    unfold wpOp
    rw [ho]
    simp only
    have hflag : i ≠ fr → (listed.setIfInBounds i true).getD fr false = listed.getD fr false := by
      intro hne
      have := congrFun hS' fr
      rw [this]
      have : (fr == i) = false := by simpa using Ne.symm hne
      rw [this, Bool.or_false]
    rcases hcase with ⟨hwant, rfl, rfl, hne⟩ | ⟨hwant, rfl, hne, hop⟩ | ⟨hwant, rfl, hne, hop⟩ | ⟨hwant, rfl, hfr, hop⟩ | ⟨hp, _⟩ | ⟨he, _⟩
    · rw [if_neg (by rw [wanted_of hf.env (hw.trans hwant)]; simp)]
      refine next g _ w s ?_ hj (hf.put hf.wi g.le_refl (repD_undef g) o.dst)
      rw [hflag hne, hS', hcadd]; simpa using hs
    · rw [if_pos (wanted_of hf.env (hw.trans hwant))]
      refine .inl ?_
      rw [← hev] at hop
      have hlim : ∀ lim, (lims[i]?).bind (·.2) = some lim → cntS items (fun k => listed.getD k false) ≤ lim := by
        intro lim hlm
        have hil2 : i < lims.length := by
          have : lims.length = items.length := by have := congrArg List.length (hle.symm.trans heff); simpa using this
          omega
        have h1 := List.all_eq_true.1 hwin i (by simpa using hil2)
        rw [hlm] at h1
        obtain ⟨e, _, h2⟩ := List.any_eq_true.1 h1
        simp only [Bool.and_eq_true, decide_eq_true_eq, ← hle] at h2
        obtain ⟨⟨h3, h4⟩, h5⟩ := h2
        have hnote : listed.getD e false = false := by
          cases hl : listed.getD e false with
          | false => rfl
          | true => have := hpost e hl i h5; simp only [hnl'] at this; exact absurd this (by simp)
        rw [heff, ← List.map_take, ← cntA_count] at h4
        rw [← h4, ← cntS_lt]
        refine cntS_le fun k x hk hx hS => ?_
        obtain ⟨ok, hok, _⟩ := opAt k x hk
        have hex : effs.getD k false = true := by rw [heff, List.getD_eq_getElem?_getD, List.getElem?_map, hk]; simp [hx]
        rcases Nat.lt_trichotomy k e with h | h | h
        · simp [h]
        · subst h; simp only [hnote] at hS; exact absurd hS (by simp)
        · have hek : e < ops.size := by have := (Array.getElem?_eq_some_iff.1 hok).1; omega
          have := hpost k hS e (regOK_ord hreg (show ops[e]? = some ops[e] by simp [hek]) hok h (.inr ⟨h3, hex⟩))
          simp only [hnote] at this; exact absurd this (by simp)
      refine hop _ _ s hs hlim E g a w _ _ hf.wi (repDs_map hf.wi.rep.gl hf.env _) fun g' w' u h1 h2 h3 => ?_
      refine next g' _ w' s ?_ (hJ g g' h2 hj) (hf.put h1 h2 h3 o.dst)
      rw [hflag hne, hS', hcadd]; simpa using hs
    · rw [if_pos (wanted_of hf.env (hw.trans hwant))]
      refine .inl ?_
      rw [hcb rfl] at hs
      rw [← hev] at hop
      obtain ⟨s2, hs2, hop2⟩ := hop _ s hs (fun hb => by
        cases hn : needs ops i fr with
        | false => rfl
        | true => have := hpre fr hn; rw [hb] at this; exact absurd this (by simp))
      refine hop2 E g a w _ _ hf.wi (repDs_map hf.wi.rep.gl hf.env _) fun g' w' u h1 h2 h3 => ?_
      refine next g' _ w' s2 ?_ (hJ g g' h2 hj) (hf.put h1 h2 h3 o.dst)
      rw [hflag hne, hS', hcadd, hcb rfl]; simpa using hs2
    · rw [if_pos (wanted_of hf.env (hw.trans hwant))]
      refine .inl ?_
      rw [← hfr, hnl'] at hs
      rw [← hev] at hop
      obtain ⟨s2, hs2, hop2⟩ := hop _ s hs
      refine hop2 E g a w _ _ hf.wi (repDs_map hf.wi.rep.gl hf.env _) fun g' w' u h1 h2 h3 => ?_
      refine next g' _ w' s2 ?_ (hJ g g' h2 hj) (hf.put h1 h2 h3 o.dst)
      have hset : (listed.setIfInBounds i true).getD fr false = true := by
        have := congrFun hS' fr
        rw [this, ← hfr]; simp
      rw [hset, hS', hcadd]; simpa using hs2
    · have := hpl i hp; rw [hnl'] at this; simp at this
    · exact absurd he hei0

theorem setI_get {listed : Array Bool} {i : Nat} (hi : i < listed.size) : (fun k => (listed.setIfInBounds i true).getD k false) = fun k => listed.getD k false || k == i := by
  funext k
  simp only [Array.getD_eq_getD_getElem?, Array.getElem?_setIfInBounds]
  by_cases hk : i = k
  · subst hk; simp [hi]
  · simp [hk, Ne.symm hk]
theorem DC_add {ops : Array Oper} {S : Nat → Bool} (h : DC ops S) {i : Nat} {o : Oper} (ho : ops[i]? = some o) (hr : ∀ e ∈ o.after, Region.binds .any e = true → S e.on = true) : DC ops (fun k => S k || k == i) := by
  intro k ok hk hsk e he hb
  simp only [Bool.or_eq_true, beq_iff_eq] at hsk ⊢
  rcases hsk with hsk | rfl
  · exact .inl (h k ok hk hsk e he hb)
  · rw [ho] at hk; simp at hk; subst hk
    exact .inl (hr e he hb)
theorem cnt_add {n fuel i : Nat} {S : Nat → Bool} (hi : i < n) (hS : S i = false) (hc : ((List.range n).filter fun k => !S k).length = fuel + 1) : ((List.range n).filter fun k => !(S k || k == i)).length = fuel := by
  have e1 : (List.range n).filter (fun k => !(S k || k == i)) = ((List.range n).filter fun k => !S k).filter (fun k => k != i) := by
    rw [List.filter_filter]
    refine List.filter_congr fun k _ => ?_
    cases S k <;> cases hk : (k == i) <;> simp_all
  rw [e1]
  have hnd : ((List.range n).filter fun k => !S k).Nodup := List.filter_sublist.nodup List.nodup_range
  have hm : i ∈ (List.range n).filter fun k => !S k := List.mem_filter.2 ⟨by simpa using hi, by simp [hS]⟩
  have hf1 := hnd.erase_eq_filter i
  rw [← hf1, List.length_erase_of_mem hm, hc]; rfl
theorem foldE_congr {S : Nat → Bool} : ∀ (l l' : List It) (s : Nat) (e : List D), l.length = l'.length → (∀ k, S (s + k) = true → l[k]? = l'[k]?) → (l.zipIdx s).foldl (stepE S) e = (l'.zipIdx s).foldl (stepE S) e
  | [], [], _, _, _, _ => rfl
  | [], _ :: _, _, _, h, _ => by simp at h
  | _ :: _, [], _, _, h, _ => by simp at h
  | x :: l, y :: l', s, e, h, hS => by
    simp only [List.zipIdx_cons, List.foldl_cons]
    have e1 : stepE S e (x, s) = stepE S e (y, s) := by
      unfold stepE
      cases hs : S s with
      | false => simp
      | true => have := hS 0 (by simpa using hs); simp at this; rw [this]
    rw [e1]
    exact foldE_congr l l' (s + 1) _ (by simpa using h) fun k hk => by have := hS (k + 1) (by rw [show s + (k + 1) = s + 1 + k by omega]; exact hk); simpa using this
theorem foldC_congr {S : Nat → Bool} : ∀ (l l' : List It) (s : Nat) (e : Nat), l.length = l'.length → (∀ k, S (s + k) = true → l[k]? = l'[k]?) → (l.zipIdx s).foldl (stepC S) e = (l'.zipIdx s).foldl (stepC S) e
  | [], [], _, _, _, _ => rfl
  | [], _ :: _, _, _, h, _ => by simp at h
  | _ :: _, [], _, _, h, _ => by simp at h
  | x :: l, y :: l', s, e, h, hS => by
    simp only [List.zipIdx_cons, List.foldl_cons]
    have e1 : stepC S e (x, s) = stepC S e (y, s) := by
      unfold stepC
      cases hs : S s with
      | false => simp
      | true => have := hS 0 (by simpa using hs); simp at this; rw [this]
    rw [e1]
    exact foldC_congr l l' (s + 1) _ (by simpa using h) fun k hk => by have := hS (k + 1) (by rw [show s + (k + 1) = s + 1 + k by omega]; exact hk); simpa using this
/-- a region's order is right, its items fit -/
structure DrOK (ops : Array Oper) (ef : List Ef) (it : List It) : Prop where
  reg : regOK ops (ef.map (·.1)) = true
  win : winOK ops ef = true
  len : it.length = ops.size
  eff : ef.map (·.1) = it.map (·.2.2)
def esc2 (ops : Array Oper) (i j k : Nat) : Bool := k == i || (k == j || (needs ops k i || needs ops k j))
/-- what is known once one of the two was run -/
structure Half (P : Program) (ops : Array Oper) (i j : Nat) (oi : Oper) (env : List D) (st0 : List St) (it0 : List It) (s1 : Bool → List St) (it1 : List It) (ef1 : List Ef) (d1 : D) : Prop where
  ok : DrOK ops ef1 it1
  fact : ∀ k o, ops[k]? = some o → FactX P ops s1 j (fun k => k == i) (fun _ => false) it1 ef1 env k o
  go : ∀ (c : Nat) (s : St), st0[c]? = some s → ∃ s', (s1 false)[c]? = some s' ∧ OpOK P oi [] s d1 s'
  it : it1[i]? = some (oi.dst, d1, false)
  uniq : ∀ (k : Nat) (x : It), it1[k]? = some x → k ≠ i → x.1 ≠ oi.dst
  agree : ∀ k, esc2 ops i j k = false → it0[k]? = it1[k]?
set_option maxHeartbeats 2000000 in
theorem half_go {ops : Array Oper} {i j : Nat} {oi : Oper} {env : List D} {st0 : List St} {it0 it1 : List It} {s1 : Bool → List St} {ef1 : List Ef} {d1 : D} {E : Ent} {Q : Exit → Act → World → Prop} (h : Half P ops i j oi env st0 it0 s1 it1 ef1 d1) (hij : i ≠ j) (hjs : j < ops.size) (hl0 : it0.length = ops.size) (hoi : ops[i]? = some oi) (hgi : oi.guard = none) (hopr : oi.op.operands = #[])
    (hfin : ∀ g a w, (∃ s, (s1 true)[cntA it1]? = some s ∧ FI E g s (envA it1 env) a w) → Q .normal a w)
    (fuel : Nat) (listed : Array Bool) (a : Act) (w : World) (g : Gh) (s : St) (hsz : listed.size = ops.size) (hes : ∀ k, esc2 ops i j k = true → listed.getD k false = false) (hdc : DC ops (fun i => listed.getD i false))
    (hcount : ((List.range ops.size).filter fun i => !listed.getD i false).length = fuel + 1) (hready : ∀ e ∈ oi.after, Region.binds .any e = true → listed.getD e.on false = true)
    (hs : st0[cntS it0 (fun i => listed.getD i false)]? = some s) (hf : FI E g s (envS it0 (fun i => listed.getD i false) env) a w) : wpOp P ops Q i (wpAny P .any ops Q fuel (listed.setIfInBounds i true)) a w := by
  have hi' : i < ops.size := (Array.getElem?_eq_some_iff.1 hoi).1
  have hnl : listed.getD i false = false := hes i (by simp [esc2])
  have hnj : listed.getD j false = false := hes j (by simp [esc2])
  have hag : ∀ k, listed.getD k false = true → it0[k]? = it1[k]? := fun k hk => h.agree k (by
    cases he : esc2 ops i j k with
    | false => rfl
    | true => rw [hes k he] at hk; simp at hk)
  have hE : envS it0 (fun i => listed.getD i false) env = envS it1 (fun i => listed.getD i false) env := foldE_congr _ _ 0 _ (hl0.trans h.ok.len.symm) fun k hk => hag k (by simpa using hk)
  have hC : cntS it0 (fun i => listed.getD i false) = cntS it1 (fun i => listed.getD i false) := foldC_congr _ _ 0 _ (hl0.trans h.ok.len.symm) fun k hk => hag k (by simpa using hk)
  rw [hE] at hf
  rw [hC] at hs
  have hS := setI_get (listed := listed) (i := i) (by omega)
  have hadd := envS_add (S := fun i => listed.getD i false) (env0 := env) h.it hnl (fun k x hk _ hlt => .inr (h.uniq k x hk (by omega)))
  have hcadd := cntS_add (S := fun i => listed.getD i false) h.it hnl
  obtain ⟨s', hs', hop⟩ := h.go _ s hs
  unfold wpOp
  rw [hoi]
  simp only
  rw [if_pos (wanted_of (b := true) hf.env (by unfold wantD; rw [hgi]))]
  refine .inl (hop E g a w _ _ hf.wi (by rw [hopr]; simp [repDs]) fun g' w' u h1 h2 h3 => ?_)
  refine wpAny_drawX (pl := fun k => k == i) (esc := fun _ => false) (sts := s1) (fr := j) (items := it1) (effs := ef1.map (·.1)) (lims := ef1) (env0 := env) (E := E) (J := fun _ => True) (fun _ _ _ _ => trivial) h.ok.reg h.ok.win rfl h.ok.len h.ok.eff h.fact
    (fun _ _ _ _ _ _ _ _ _ he => by simp at he) (fun _ g a w _ hx => hfin g a w (by rwa [decide_eq_true hjs] at hx)) fuel _ _ w' g' s' (by simp [hsz]) ?_ (fun k hk => by simp at hk) ?_ ?_ ?_ trivial ?_
  · intro k hk
    have := congrFun hS k
    rw [this]; simp at hk; simp [hk]
  · rw [hS]; exact DC_add hdc hoi hready
  · have := cnt_add (S := fun i => listed.getD i false) hi' hnl hcount
    rw [← this]
    congr 1
    exact List.filter_congr fun k _ => by rw [congrFun hS k]
  · have hj : (listed.setIfInBounds i true).getD j false = false := by
      have := congrFun hS j
      rw [this, hnj]; simp; exact fun e => hij e.symm
    rw [hj, hS, hcadd]; simpa using hs'
  · rw [hS, hadd]
    exact hf.put h1 h2 h3 oi.dst
set_option maxHeartbeats 2000000 in
/-- A REGION THAT DRAWS ITS ORDER, WITH TWO ALLOCS THAT MAY BE RUN AT ANY TIME -/
theorem run_draw22 {id : Nat} {ops : Array Oper} (hm : P.follows .mixedOrders = true) {i j : Nat} {oi oj : Oper} (hij : i ≠ j) (hoi : ops[i]? = some oi) (hoj : ops[j]? = some oj) (hgi : oi.guard = none) (hgj : oj.guard = none) (hpi : oi.op.operands = #[]) (hpj : oj.op.operands = #[])
    {ef0 ef1 ef2 : List Ef} {it0 it1 it2 : List It} {st0 : List St} {s1 s2 : Bool → List St} {d1 d2 : D} {σ1 σ2 : St} (r0 : DrOK ops ef0 it0) (f0 : ∀ k o, ops[k]? = some o → FactX P ops (fun _ => st0) ops.size (fun _ => false) (esc2 ops i j) it0 ef0 env k o) (h0 : st0[0]? = some σ)
    (c1 : Half P ops i j oi env st0 it0 s1 it1 ef1 d1) (c2 : Half P ops j i oj env st0 it0 s2 it2 ef2 d2) (e1 : (s1 true)[cntA it1]? = some σ1) (e2 : (s2 true)[cntA it2]? = some σ2) (k1 : RunC C P R k (envA it1 env) σ1) (k2 : RunC C P R k (envA it2 env) σ2) :
    RunC C P R (.code (.region id ops true) :: k) env σ := fun E0 E g a w B hCC hfi hB => by
  simp only [KQ]
  refine wp_region_any hm ?_
  have hi' : i < ops.size := (Array.getElem?_eq_some_iff.1 hoi).1
  have hj' : j < ops.size := (Array.getElem?_eq_some_iff.1 hoj).1
  have hS0 : (fun i => (Array.replicate ops.size false).getD i false) = fun _ => false := by
    funext i
    simp only [Array.getD_eq_getD_getElem?, Array.getElem?_replicate]
    split <;> rfl
  have he0 : ∀ (l : List (It × Nat)) (e : List D), l.foldl (stepE fun _ => false) e = e := by
    intro l; induction l with
    | nil => intro e; rfl
    | cons x l ih => intro e; simp only [List.foldl_cons]; rw [show stepE (fun _ => false) e x = e from by simp [stepE]]; exact ih e
  have hc0 : ∀ (l : List (It × Nat)) (c : Nat), l.foldl (stepC fun _ => false) c = c := by
    intro l; induction l with
    | nil => intro e; rfl
    | cons x l ih => intro e; simp only [List.foldl_cons]; rw [show stepC (fun _ => false) e x = e from by simp [stepC]]; exact ih e
  have hfi' : FI E g σ env a { w with drawn := w.drawn + 1 } := ⟨hfi.wi.drew, hfi.env, hfi.defers⟩
  have hesym : ∀ k, esc2 ops i j k = esc2 ops j i k := fun k => by
    unfold esc2; cases (k == i) <;> cases (k == j) <;> cases needs ops k i <;> cases needs ops k j <;> rfl
  refine wpAny_drawX (pl := fun _ => false) (esc := esc2 ops i j) (sts := fun _ => st0) (fr := ops.size) (items := it0) (effs := ef0.map (·.1)) (lims := ef0) (env0 := env) (E := E) (J := fun _ => True) (fun _ _ _ _ => trivial) r0.reg r0.win rfl r0.len r0.eff f0
    (fun fuel listed a w g s n o ho he hsz _ hes hdc hcount hready hs _ hf => ?_) (fun he g a w _ _ => ?_) ops.size _ a _ g σ (by simp) (fun k hk => by simp at hk) (fun k _ => congrFun hS0 k) ?_ ?_ ?_ trivial ?_
  · by_cases hni : n = i
    · subst hni
      rw [hoi] at ho; simp at ho; subst ho
      exact half_go c1 hij hj' r0.len hoi hgi hpi (fun g a w ⟨s, hs, hf⟩ => by rw [e1] at hs; simp at hs; subst hs; exact k1 E0 E g a w B hCC hf hB) fuel listed a w g s hsz hes hdc hcount hready hs hf
    · by_cases hnj : n = j
      · subst hnj
        rw [hoj] at ho; simp at ho; subst ho
        exact half_go c2 (Ne.symm hij) hi' r0.len hoj hgj hpj (fun g a w ⟨s, hs, hf⟩ => by rw [e2] at hs; simp at hs; subst hs; exact k2 E0 E g a w B hCC hf hB) fuel listed a w g s hsz (fun k hk => hes k (by rw [hesym]; exact hk)) hdc hcount hready hs hf
      · exfalso
        have hpre := ready_before hdc ho hready
        have e3 : (n == i) = false := by simpa using hni
        have e4 : (n == j) = false := by simpa using hnj
        simp only [esc2, e3, e4, Bool.false_or, Bool.or_eq_true] at he
        rcases he with he | he
        · have := hpre i he
          rw [hes i (by simp [esc2])] at this; simp at this
        · have := hpre j he
          rw [hes j (by simp [esc2])] at this; simp at this
  · have := he i hi'
    simp [esc2] at this
  · intro k o _ hs
    rw [hS0] at hs
    simp at hs
  · have : (List.range ops.size).filter (fun i => !(Array.replicate ops.size false).getD i false) = List.range ops.size := by
      rw [List.filter_eq_self]
      intro i _
      have := congrFun hS0 i
      rw [this]; rfl
    rw [this]; simp
  · rw [hS0]
    simp only [cntS, hc0]; exact h0
  · rw [hS0]
    simp only [envS, he0]; exact hfi'
end
end Go.Dv

namespace Go.Nv
open Go.Dv
theorem sets_weak : ∀ (L : List (Nat × D)) (e0 e : List D), e0.length = e.length → (∀ (i : Nat) (d' : D), e0[i]? = some d' → d' = .undef ∨ e[i]? = some d') → (∀ p ∈ L, e0[p.1]? = some .undef) →
    e0.length = (L.foldl (fun e p => e.set p.1 p.2) e).length ∧ ∀ (i : Nat) (d' : D), e0[i]? = some d' → d' = .undef ∨ (L.foldl (fun e p => e.set p.1 p.2) e)[i]? = some d'
  | [], e0, e, hl, h, _ => ⟨hl, h⟩
  | p :: L, e0, e, hl, h, hp => by
    refine sets_weak L e0 (e.set p.1 p.2) (by simpa using hl) (fun i d' hd => ?_) (fun q hq => hp q (by simp [hq]))
    by_cases hi : i = p.1
    · subst hi
      rw [hp p (by simp)] at hd
      simp at hd; exact .inl hd.symm
    · rw [List.getElem?_set_ne (fun e => hi e.symm)]; exact h i d' hd
/-- what is known of more slots is forgotten -/
theorem run_mkE_app {C : Ent → Ent → Prop} {P : Program} {R : List D → St → Prop} {k : List KI} {n : Nat} {L L2 : List (Nat × D)} {σ : St} (hp : ∀ p ∈ L2, (mkE n L)[p.1]? = some .undef) (h : RunC C P R k (mkE n L) σ) : RunC C P R k (mkE n (L ++ L2)) σ := by
  obtain ⟨h1, h2⟩ := sets_weak L2 (mkE n L) (mkE n L) rfl (fun i d' hd => .inr hd) hp
  rw [show mkE n (L ++ L2) = L2.foldl (fun e p => e.set p.1 p.2) (mkE n L) by simp [mkE]]
  exact run_forget h1 h2 h
/-- from any code on, with the rest -/
theorem code_vcR {P : Program} (hm : P.follows .mixedOrders = true) {C : Nat} {fn : Func} {d : D} {σ' : St} (nt : Nat) (im : List Nat) {ks T : List KI} {L : List (Nat × D)} {σ : St} (s : Sc)
    (h : forceK (mkE nt L) fun env => vc (CN C) C P (fun env σ1 => ResOK P fn env σ1 d σ') (vRet P fn.results.toList d σ') nt im T 10000 s ks env σ) : Rn P fn C d σ' (ks ++ T) (mkE nt L) σ := run_vc hm (linkN _) _ (fun _ _ h => h.2) nt im s h
section
variable {P : Program} {o : Oper} {σ : St} {d : D}
end
end Go.Nv
