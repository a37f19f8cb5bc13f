/-
  What a function hands back; an object that becomes a list; owned lists that are given up. No program is named here.
-/
import Derived.Test.YtoofgniepbidnaaDvJ
namespace Go.Dv

/-- objects and owned lists that are no longer wanted -/
theorem WI.restrict {E : Ent} {g : Gh} {σ σ' : St} {w : World} (hw : WI E g σ w) {m : Nat} (hH : σ'.H = σ.H.take m) (hm : m ≤ σ.H.length) (hE : E.g.n ≤ m) (hc : ∀ (i : Nat) (cs : List D), σ'.H[i]? = some (some cs) → D.pls cs = true) (hown : σ'.own.Sublist σ.own) :
    WI E { g with n := m, ι := fun k j => if k ∈ σ'.own.map (·.1) then g.ι k j else none } σ' w := by
  have get : ∀ (i : Nat) (cs : List D), σ'.H[i]? = some (some cs) → σ.H[i]? = some (some cs) ∧ i < m := by
    intro i cs hi
    rw [hH, List.getElem?_take] at hi
    split at hi
    · exact ⟨hi, by assumption⟩
    · simp at hi
  have hι : ∀ x ∈ σ'.own, (if x.1 ∈ σ'.own.map (·.1) then g.ι x.1 x.2.2.length else none) = g.ι x.1 x.2.2.length := fun x hx => if_pos (List.mem_map.2 ⟨x, hx, rfl⟩)
  refine { rep := ⟨?_, hw.rep.mem, fun i cs hi => ?_, fun i j cs ds hi hj => hw.rep.inj i j cs ds (get i cs hi).1 (get j ds hj).1, fun k sz xs hx => ?_, ?_, fun x hx y hy hne u u' hu hu' b hb => ?_, fun x hx u hu b hb i cs hi => ?_, fun k hk j => ?_⟩, M := hw.M, size := hw.size, keep := hw.keep, os := hw.os, tape := hw.tape, output := hw.output, nE := hE, βE := fun o ho => hw.βE o ho, κE := fun o ho => hw.κE o ho, objs := fun i cs hi => hw.objs i cs (get i cs hi).1, owns := fun x hx u hu b hb => ?_ }
  · simp [hH]; omega
  · obtain ⟨us, rest, e, h1, h2, h3, h4⟩ := hw.rep.obj i cs (get i cs hi).1
    exact ⟨us, rest, e, h1, repDs_pl (by rfl) (hc i cs hi) h2, h3, h4⟩
  · obtain ⟨h0, u, hu, h1, h2, h3⟩ := hw.rep.own k sz xs (hown.subset hx)
    refine ⟨h0, u, (hι _ hx).trans hu, h1, h2, fun j hj => ?_⟩
    simp only
    split
    · exact h3 j hj
    · rfl
  · exact (hown.map _).nodup hw.rep.tags
  · exact hw.rep.sep x (hown.subset hx) y (hown.subset hy) hne u u' ((hι x hx).symm.trans hu) ((hι y hy).symm.trans hu') b hb
  · exact hw.rep.ownObj x (hown.subset hx) u ((hι x hx).symm.trans hu) b hb i cs (get i cs hi).1
  · simp only
    rw [if_neg]
    intro h
    obtain ⟨x, hx, e⟩ := List.mem_map.1 h
    exact hk x hx e
  · exact hw.owns x (hown.subset hx) u ((hι x hx).symm.trans hu) b hb

inductive ResL (P : Program) (env : List D) (σ : St) : List ResultVar → List D → Prop
  | nil : ResL P env σ [] []
  | tmp {t : Tmp} {d : D} {rs : List ResultVar} {ds : List D} (h : env[t]? = some d) (hr : ResL P env σ rs ds) : ResL P env σ (.tmp t :: rs) (d :: ds)
  | cellA {a : Tmp} {t : TypeId} {q off n : Nat} {cs : List D} {xs : List V} {rs : List ResultVar} {ds : List D} (h : env[a]? = some (.ptr q off)) (hH : σ.H[q]? = some (some cs)) (ht : AggTy P t n) (hn : off + n ≤ cs.length)
      (hc : toVs ((cs.drop off).take n) = some xs) (hr : ResL P env σ rs ds) : ResL P env σ (.cell a t :: rs) (.v (.agg xs) :: ds)
  | cell1 {a : Tmp} {t : TypeId} {q off : Nat} {cs : List D} {d : D} {rs : List ResultVar} {ds : List D} (h : env[a]? = some (.ptr q off)) (hH : σ.H[q]? = some (some cs)) (ht : OneTy P t) (hc : cs[off]? = some d) (hr : ResL P env σ rs ds) :
      ResL P env σ (.cell a t :: rs) (d :: ds)

theorem getD_of {g : Gh} {env : List D} {a : Act} (h : repDs g env a.tmps.toList) {t : Nat} {d : D} (hd : env[t]? = some d) : repD g d (a.tmps.getD t undef) := by
  have := repD_ev h (.tmp t)
  simpa [evD, List.getD_eq_getElem?_getD, hd, Act.eval] using this

def resF (tmps : Array Value) : ResultVar → Sem Value
  | .tmp t => pure (tmps.getD t undef)
  | .cell a t => do loadVar t (← asAddr (tmps.getD a undef))

theorem results_eq (fn : Func) (tmps : Array Value) : results fn tmps = (do let vs ← fn.results.mapM (resF tmps); pure (if h : vs.size = 1 then vs[0] else .tuple vs)) := by
  unfold results
  rfl

theorem ResL.run {P : Program} {env : List D} {σ : St} {E : Ent} {g : Gh} {a : Act} {w : World} (hf : FI E g σ env a w) : ∀ {rs : List ResultVar} {ds : List D}, ResL P env σ rs ds →
    ∃ us, (rs.mapM (resF a.tmps)).run P w = .ok us w ∧ repDs g ds us
  | _, _, .nil => ⟨[], by simp, by simp [repDs]⟩
  | _, _, .tmp (t := t) h hr => by
    obtain ⟨us, h1, h2⟩ := ResL.run hf hr
    refine ⟨a.tmps.getD t undef :: us, ?_, ?_⟩
    · rw [List.mapM_cons]
      simp only [resF, Sem.run_bind, Sem.run_pure, Result.andThen_ok, h1]
    · simp only [repDs]; exact ⟨_, us, rfl, getD_of hf.env h, h2⟩
  | _, _, .cellA (n := n) (cs := cs) (off := off) (q := q) h hH ht hn hc hr => by
    obtain ⟨us, h1, h2⟩ := ResL.run hf hr
    have hp := getD_of hf.env h
    simp only [repD] at hp
    obtain ⟨us', rest', et, hb, hrr, hone, _⟩ := hf.wi.rep.obj q cs hH
    have hra := toVs_rep hc (repDs_take (repDs_drop hrr off) n) (fun c hc' => hone c (List.mem_of_mem_drop (List.mem_of_mem_take hc')))
    have hl : us'.length = cs.length := repDs_length hrr
    have hld := run_loadCells_list (P := P) w ⟨g.β q, off, none⟩ ((us'.drop off).take n) (fun j v hj => by
      rw [List.getElem?_take] at hj
      split at hj
      · rw [List.getElem?_drop] at hj
        rw [Addr.add_lit]
        simp only [World.cell?, hb, List.getElem?_toArray]; exact get_app hj
      · simp at hj)
    have hlen : ((us'.drop off).take n).length = n := by simp; omega
    rw [hlen] at hld
    refine ⟨.agg ((us'.drop off).take n).toArray :: us, ?_, ?_⟩
    · rw [List.mapM_cons]
      simp only [resF, Sem.run_bind, Sem.run_pure, Result.andThen_ok, hp.2, asAddr, loadVar, run_isAgg ht, run_sizeOf' ht, hld, if_true, h1]
    · simp only [repDs, repD, repV_agg]; exact ⟨_, us, rfl, ⟨_, hra, rfl⟩, h2⟩
  | _, _, .cell1 (cs := cs) (off := off) (q := q) h hH ht hc hr => by
    obtain ⟨us, h1, h2⟩ := ResL.run hf hr
    have hp := getD_of hf.env h
    simp only [repD] at hp
    obtain ⟨us', rest', et, hb, hrr, hone, _⟩ := hf.wi.rep.obj q cs hH
    obtain ⟨u', hu, hd⟩ := repDs_get hrr hc
    have hcell : w.cell? ⟨g.β q, off, none⟩ = some u' := by simp only [World.cell?, hb, List.getElem?_toArray]; exact get_app hu
    refine ⟨u' :: us, ?_, ?_⟩
    · rw [List.mapM_cons]
      simp only [resF, Sem.run_bind, hp.2, asAddr, Sem.run_pure, Result.andThen_ok, loadVar, run_isAgg ht, Bool.false_eq_true, if_false, run_load, hcell, h1]
    · simp only [repDs]; exact ⟨u', us, rfl, hd, h2⟩

def okR (m : Nat) (tags : List Nat) : D → Bool
  | .acc k _ => tags.contains k
  | .ptr q _ => decide (q < m)
  | d => d.pl

def packD : List D → D
  | [d] => d
  | ds => .tup ds

theorem res_ok {P : Program} {fn : Func} {env : List D} {σ σ' : St} {ds : List D} {d : D} (hr : ResL P env σ fn.results.toList ds) (hd : d = packD ds) (m : Nat) (hH : σ'.H = σ.H.take m) (hm : m ≤ σ.H.length) (hc : ∀ (i : Nat) (cs : List D), σ'.H[i]? = some (some cs) → D.pls cs = true)
    (hown : σ'.own.Sublist σ.own) (hok : okR m (σ'.own.map (·.1)) d = true) : ResOK P fn env σ d σ' := by
  intro E g a w hf hE
  obtain ⟨us, h1, h2⟩ := hr.run hf
  have hml : σ'.H.length = m := by rw [hH]; simp; omega
  have hrun : (results fn a.tmps).run P w = .ok (if h : us.length = 1 then us[0] else .tuple us.toArray) w := by
    rw [results_eq, Array.mapM_eq_mapM_toList]
    simp only [Sem.run_bind, Sem.run_map, h1, Result.andThen_ok]
    by_cases h : us.length = 1 <;> simp [h]
  refine ⟨_, _, hrun, hf.wi.restrict hH hm (by omega) hc hown, ?_⟩
  have base : repD g d (if h : us.length = 1 then us[0] else .tuple us.toArray) := by
    subst hd
    have hl := repDs_length h2
    unfold packD
    split
    · rename_i d0
      obtain ⟨u, rfl, h3⟩ := repDs_one.1 h2
      simpa using h3
    · rename_i hne
      have : us.length ≠ 1 := by
        rw [hl]
        intro h
        match ds, h with
        | [d0], _ => exact hne d0 rfl
      rw [dif_neg this]
      simp only [repD]
      exact ⟨us, rfl, h2⟩
  generalize (if h : us.length = 1 then us[0] else Value.tuple us.toArray) = u at base
  cases d with
  | acc k xs =>
    simp only [okR, List.contains_iff_mem] at hok
    simp only [repD] at base ⊢
    refine ⟨base.1, ?_⟩
    rw [if_pos hok]; exact base.2
  | ptr q off =>
    simp only [okR, decide_eq_true_eq] at hok
    simp only [repD] at base ⊢
    exact ⟨hok, base.2⟩
  | _ => exact repD_pl (by rfl) (by simpa [okR] using hok) base

/-- less may be said of the result -/
theorem FSpec.un {P : Program} {f : FuncId} {ds : List D} {σ : St} {k sz : Nat} {xs : List V} {H : List (Option (List D))} (hH : ∀ (i : Nat) (cs : List D), H[i]? = some (some cs) → D.pls cs = true) (hn : σ.H.length ≤ H.length)
    (h : FSpec P f ds σ (.acc k xs) ⟨H, [(k, sz, xs)]⟩) : FSpec P f ds σ (.v (.list xs)) ⟨H, []⟩ := by
  refine ⟨h.1, fun g w args hw hargs => ?_⟩
  refine Calls.mono (h.2 g w args hw hargs) ?_
  rintro e w' ⟨u, g', rfl, hw', hr⟩
  refine ⟨u, _, rfl, hw'.restrict (σ' := ⟨H, []⟩) (m := H.length) (by simp) (Nat.le_refl _) (by simp only [hw.n]; exact hn) hH (by simp), ?_⟩
  simp only [repD] at hr ⊢
  exact hr.1

section
variable {C : Ent → Prop} {P : Program} {R : List D → St → Prop} {k : List KI} {env : List D} {σ : St}

theorem toVs_map : ∀ xs : List V, toVs (xs.map .v) = some xs
  | [] => rfl
  | x :: xs => by simp [toVs, D.toV, toVs_map xs]

/-- an object of one-cell elements, from now on a list -/
theorem run_frz {s q : Nat} {xs : List V} (hs : env[s]? = some (.arr q 0 xs.length)) (hH : σ.H[q]? = some (some (xs.map .v))) (h : RunC C P R k (env.set s (.v (.list xs))) ⟨σ.H.set q none, σ.own⟩) : RunC C P R k env σ := fun E g a w B hC hf hB => by
  obtain ⟨us, rest, e, hb, hr, h1, hM, _⟩ := hf.wi.rep.obj q _ hH
  obtain ⟨u, hu, hru⟩ := repDs_get hf.env hs
  simp only [repD] at hru
  obtain ⟨hq, cap, hcap, rfl⟩ := hru
  have hus : us.length = xs.length := by have := repDs_length hr; simpa using this
  have hA : repA g.M xs us := toVs_rep (toVs_map xs) hr h1
  let M' : Mem := fun b o => if b = g.β q then us[o]? else g.M b o
  have hle : g.M.le M' := fun b o v hm => by
    simp only [M']
    rw [if_neg]; · exact hm
    intro e; subst e; rw [hM o] at hm; simp at hm
  have hlg : g.le { g with M := M' } := ⟨hle, Nat.le_refl _, fun _ _ => rfl, fun _ _ _ h => h, fun _ _ => rfl⟩
  have hin : inM M' (g.β q) 0 us := fun j v hj => by simp [M', hj]
  have hE : ∀ {xs : List V} {us : List Value}, repA M' xs us → repE M' 1 xs us := by
    intro xs
    induction xs with
    | nil => intro us h; simpa [repA, repE] using h
    | cons x xs ih =>
      intro us h
      simp only [repA] at h
      obtain ⟨u, us', rfl, ha, h1, h2⟩ := h
      simp only [repE]
      exact ⟨[u], us', rfl, rfl, h1, ih h2⟩
  have hw' : WI E { g with M := M' } ⟨σ.H.set q none, σ.own⟩ w := hf.wi.setObjG hle hH (fun c hc => by simp at hc) (fun b _ hne => ⟨rfl, fun o => by simp [M', hne]⟩) (fun b o v hm => by
      simp only [M'] at hm
      split at hm
      · rename_i e; subst e
        simp only [World.cell?, hb, List.getElem?_toArray]; exact get_app hm
      · exact hf.wi.rep.mem b o v hm) (Nat.le_refl _) rfl rfl rfl
  have hlist : repV M' (.list xs) (.slice (some ⟨g.β q, 0, none⟩) xs.length cap) := repV_of_cells (by omega) hin (hE (repA.mono hle _ _ hA)) hcap
  refine h E { g with M := M' } a w B hC ⟨hw', ?_, hf.defers⟩ hB
  have hset := repDs_set (repDs.mono hlg _ _ hf.env) s (d := .v (.list xs)) (u := .slice (some ⟨g.β q, 0, none⟩) xs.length cap) (by simpa only [repD] using hlist)
  have hid : a.tmps.toList.set s (.slice (some ⟨g.β q, 0, none⟩) xs.length cap) = a.tmps.toList := by
    apply List.ext_getElem?
    intro i
    rw [List.getElem?_set]
    split
    · rename_i e; subst e
      split
      · exact hu.symm
      · rename_i hlt
        rw [List.getElem?_eq_none (by omega)]
    · rfl
  rw [hid] at hset
  exact hset

/-- forget the append permission of a slot's list -/
theorem run_unacc {s tag : Nat} {xs : List V} (hs : env[s]? = some (.acc tag xs)) (h : RunC C P R k (env.set s (.v (.list xs))) σ) : RunC C P R k env σ := fun E g a w B hC hf hB => by
  obtain ⟨u, hu, hru⟩ := repDs_get hf.env hs
  refine h E g a w B hC ⟨hf.wi, ?_, hf.defers⟩ hB
  have hset := repDs_set hf.env s (d := .v (.list xs)) (u := u) (by simp only [repD] at hru ⊢; exact hru.1)
  have hid : a.tmps.toList.set s u = a.tmps.toList := by
    apply List.ext_getElem?
    intro i
    rw [List.getElem?_set]
    split
    · rename_i e; subst e
      split
      · exact hu.symm
      · rename_i hlt
        rw [List.getElem?_eq_none (by omega)]
    · rfl
  rw [hid] at hset
  exact hset

end

/-- does a slot value bear the tag? -/
def D.noTag (k : Nat) : D → Bool
  | .acc k' _ => k' != k
  | .v _ | .ptr .. | .arr .. | .gro .. | .raw _ | .rv .. | .undef => true
  | _ => false

theorem repD_noTag {g : Gh} {k : Nat} {d : D} {u : Value} (hn : d.noTag k = true) (h : repD g d u) : repD { g with ι := fun k' m => if k' = k then none else g.ι k' m } d u := by
  cases d with
  | acc k' xs =>
    simp only [D.noTag, bne_iff_ne, ne_eq] at hn
    simp only [repD] at h ⊢
    exact ⟨h.1, by rw [if_neg hn]; exact h.2⟩
  | v x => simpa only [repD] using h
  | ptr q off => simpa only [repD] using h
  | arr q off len => simpa only [repD] using h
  | gro q len sz => simpa only [repD] using h
  | raw x => simpa only [repD] using h
  | rv x u0 => simpa only [repD] using h
  | undef => simp only [repD]
  | dagg cs => simp [D.noTag] at hn
  | dfn f fs cs => simp [D.noTag] at hn
  | tup ds => simp [D.noTag] at hn

theorem repDs_noTag {g : Gh} {k : Nat} : ∀ {ds : List D} {us : List Value}, (∀ d ∈ ds, d.noTag k = true) → repDs g ds us → repDs { g with ι := fun k' m => if k' = k then none else g.ι k' m } ds us
  | [], us, _, h => by simpa [repDs] using h
  | d :: ds, us, hn, h => by
    simp only [repDs] at h ⊢
    obtain ⟨u, us', e, h1, h2⟩ := h
    exact ⟨u, us', e, repD_noTag (hn d (by simp)) h1, repDs_noTag (fun d hd => hn d (by simp [hd])) h2⟩

/-- give up an owned list whose tag stands nowhere -/
theorem run_drop {C : Ent → Prop} {P : Program} {R : List D → St → Prop} {k : List KI} {env : List D} {σ : St} (tag : Nat) (he : ∀ d ∈ env, d.noTag tag = true) (hH : ∀ (i : Nat) (cs : List D), σ.H[i]? = some (some cs) → ∀ d ∈ cs, d.noTag tag = true)
    (h : RunC C P R k env ⟨σ.H, σ.own.filter (·.1 != tag)⟩) : RunC C P R k env σ := fun E g a w B hC hf hB => by
  refine h E { g with ι := fun k' m => if k' = tag then none else g.ι k' m } a w B hC ⟨?_, repDs_noTag he hf.env, hf.defers⟩ hB
  have hw := hf.wi
  have mem : ∀ x ∈ σ.own.filter (·.1 != tag), x ∈ σ.own ∧ x.1 ≠ tag := fun x hx => by simpa [List.mem_filter] using hx
  have hι : ∀ x ∈ σ.own.filter (·.1 != tag), (if x.1 = tag then none else g.ι x.1 x.2.2.length) = g.ι x.1 x.2.2.length := fun x hx => if_neg (mem x hx).2
  refine { rep := ⟨hw.rep.n, hw.rep.mem, fun i cs hi => ?_, hw.rep.inj, fun k sz xs hx => ?_, ?_, fun x hx y hy hne u u' hu hu' b hb => ?_, fun x hx u hu b hb i cs hi => ?_, fun k hk j => ?_⟩, M := hw.M, size := hw.size, keep := hw.keep, os := hw.os, tape := hw.tape, output := hw.output, nE := hw.nE, βE := hw.βE, κE := hw.κE, objs := hw.objs, owns := fun x hx u hu b hb => ?_ }
  · obtain ⟨us, rest, e, h1, h2, h3, h4⟩ := hw.rep.obj i cs hi
    exact ⟨us, rest, e, h1, repDs_noTag (hH i cs hi) h2, h3, h4⟩
  · obtain ⟨h0, u, hu, h1, h2, h3⟩ := hw.rep.own k sz xs (mem _ hx).1
    refine ⟨h0, u, (hι _ hx).trans hu, h1, h2, fun j hj => ?_⟩
    simp only
    rw [if_neg (mem _ hx).2]; exact h3 j hj
  · exact (List.filter_sublist.map _).nodup hw.rep.tags
  · exact hw.rep.sep x (mem x hx).1 y (mem y hy).1 hne u u' ((hι x hx).symm.trans hu) ((hι y hy).symm.trans hu') b hb
  · exact hw.rep.ownObj x (mem x hx).1 u ((hι x hx).symm.trans hu) b hb i cs hi
  · simp only
    split
    · rfl
    · rename_i hne
      exact hw.rep.fresh k (fun x hx e => hk x (List.mem_filter.2 ⟨hx, by simp; rw [e]; exact hne⟩) e) j
  · exact hw.owns x (mem x hx).1 u ((hι x hx).symm.trans hu) b hb

end Go.Dv
