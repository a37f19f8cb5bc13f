/-
  A part of the proof.
-/
import Derived.Test.YtcjhkglbdahfgaaGreatDa
import Derived.Laws.CopyRow
namespace Go.Dv
open List (all_eq_true append_assoc append_nil cons_append drop_eq_getElem_cons drop_of_length_le drop_zero ext_getElem? flatMap_cons flatten flatten_cons foldl_cons getD_eq_getElem?_getD getElem?_append_left getElem?_append_right getElem?_drop getElem?_eq_getElem getElem?_eq_none getElem?_map getElem?_set getElem?_take getElem?_toArray length length_append length_cons length_drop length_map length_nil length_pos_iff length_set length_take map map_append map_cons map_map map_nil mem_append mem_cons mem_map mem_of_getElem? mem_of_mem_drop mem_of_mem_take mem_or_eq_of_mem_set mem_singleton nil_append not_mem_nil replicate replicate_succ set_cons_succ set_cons_zero size_toArray take take_add_one take_append_drop take_left take_of_length_le take_succ_cons zipWith)
open Go.IntKind (wrap i64 u64)
def sub:Code->List Nat->Code
 |c,[]=>c
 |.seq a b,n::p=>if n=0 then sub a p else sub b p
 |.cond _ a b,n::p=>if n=0 then sub a p else sub b p
 |.block _ a,_::p=>sub a p
 |.loop a,_::p=>sub a p
 |.scope a,_::p=>sub a p
 |_,_::_=>.skip
def AD:Code->Array Oper
 |.region _ ops _=>ops
 |_=> #[]
def CY(C:Ent->Ent->Prop)(P:Program)(R:List D->St->Prop)(c:Code)(p:List Nat)(i:Nat)(k:List KI)(env:List D)(σ:St):Prop:=
 ∀(E0 E:Ent) (g:Gh) (a:Act) (w:World) (B:Exit->Act->World->Prop),C E0 E->FI E g σ env a w->
  (∀g' env' σ' a' w',FI E0 g' σ' env' a' w'->R env' σ'->B .ret a' w'/\B .normal a' w')->wpList P (AD (sub c p)) (KQ P B k) ((AD (sub c p)).toList.drop i) a w
def Cv(env:List D)(σ:St)(env':List D)(σ':St):Prop:=∀(E:Ent) (g:Gh) (a:Act) (w:World),FI E g σ env a w->∃g',FI E g' σ' env' a w
section
variable {C : Ent -> Ent -> Prop} {P : Program} {R : List D -> St -> Prop} {c : Code} {p : List Nat} {k : List KI} {env env' : List D} {σ σ' : St} {i : Nat} {o : Oper} {d : D}
theorem El(q r:List Nat)(h:sub c p=.seq (sub c q) (sub c r))(hk:A2 C P R (.code (sub c q):: .code (sub c r)::k) env σ):A2 C P R (.code (sub c p)::k) env σ:=by rw[h];exact run_seq hk
theorem at_block(q:List Nat)(id:Nat)(h:sub c p=.block id (sub c q))(hk:A2 C P R (.code (sub c q):: .blk id::k) env σ):A2 C P R (.code (sub c p)::k) env σ:=by rw[h];exact run_block hk
theorem at_loop(q:List Nat)(h:sub c p=.loop (sub c q))(hk:A2 C P R (.lp (sub c q)::k) env σ):A2 C P R (.code (sub c p)::k) env σ:=by rw[h];exact run_loop hk
theorem at_cond(q r:List Nat){t:Operand}{b:Bool}(h:sub c p=.cond t (sub c q) (sub c r))(hc:evD env t=.v (.bool b))(ht:b=true->A2 C P R (.code (sub c q)::k) env σ)(hf:b=false->A2 C P R (.code (sub c r)::k) env σ):
  A2 C P R (.code (sub c p)::k) env σ:=by rw[h];exact run_cond hc ht hf
theorem at_skip(h:sub c p=.skip)(hk:A2 C P R k env σ):A2 C P R (.code (sub c p)::k) env σ:=by rw[h];exact run_skip hk
theorem at_exit{id:Nat}{k':List KI}(h:sub c p=.exit id)(hp:FZ id k=some k')(hk:A2 C P R k' env σ):A2 C P R (.code (sub c p)::k) env σ:=by rw[h];exact run_exit hp hk
theorem at_retC(L:GU C)(h:sub c p=.ret)(hk:R env σ):A2 C P R (.code (sub c p)::k) env σ:=by rw[h];exact G6 L hk
theorem at_ret(h:sub c p=.ret)(hk:R env σ):Run P R (.code (sub c p)::k) env σ:=at_retC sameLink h hk
theorem Df{id:Nat}(h:sub c p=.region id (AD (sub c p)) false)(hk:CY C P R c p 0 k env σ):A2 C P R (.code (sub c p)::k) env σ:=by
 rw[h]
 intro E0 E g a w B hC hfi hB
 simp only[KQ]
 exact wp_region_list (by have:=hk E0 E g a w B hC hfi hB;rwa[drop_zero] at this)
theorem run_cv(h:Cv env σ env' σ')(hk:A2 C P R k env' σ'):A2 C P R k env σ:=fun E0 E g a w B hC hf hB=>by
 obtain⟨g',hf'⟩:=h E g a w hf
 exact hk E0 E g' a w B hC hf' hB
theorem ops_drop(ho:(AD (sub c p))[i]?=some o):((AD (sub c p)).toList.drop i)=o::(AD (sub c p)).toList.drop (i+1):=by
 have ho':(AD (sub c p)).toList[i]?=some o:=by simpa using ho
 rw[drop_eq_getElem_cons (List.getElem?_eq_some_iff.1 ho').1,(List.getElem?_eq_some_iff.1 ho').2]
theorem Dg(t:Option Tmp)(ho:(AD (sub c p))[i]?=some o){ds:List D}(hg:B7 env (AD (sub c p)) o=some true)(ht:o.dst=t)(hds:DY env o=ds)(h:Ai P o ds σ d σ')(he:AK env t d=env')(hk:CY C P R c p (i+1) k env' σ'):CY C P R c p i k env σ:=by
 subst ht he hds
 intro E0 E g a w B hC hf hB
 rw[ops_drop ho]
 unfold wpList
 rw[if_pos (Ch hf.env hg)]
 refine .inl (h E g a w _ _ hf.wi (E2 hf.wi.rep.gl hf.env _) fun g' w' u hw' hg' hd=>?_)
 exact hk E0 E g' _ _ B hC (hf.put hw' hg' hd o.dst) hB
theorem at_opS{σ2:St}(t:Option Tmp)(ho:(AD (sub c p))[i]?=some o){ds:List D}(hg:B7 env (AD (sub c p)) o=some true)(ht:o.dst=t)(hds:DY env o=ds)(h:Ai P o ds σ d σ')(he:AK env t d=env')(hσ:σ'=σ2)(hk:CY C P R c p (i+1) k env' σ2):CY C P R c p i k env σ:=by
 subst hσ;exact Dg t ho hg ht hds h he hk
theorem at_pk(b:Bool)(s s1 t:Nat){x y:Operand}(ho:(AD (sub c p))[i]?=some o)(hg:B7 env (AD (sub c p)) o=some true)(ht:o.dst=some t)(hop:o.op=.pick (.tmp s) x y)(hs:env[s]?=some (.v (.bool b)))(hx:(if b then x else y)=.tmp s1)(h1:env[s1]?=some d)(he:env.set t d=env')
  (hk:CY C P R c p (i+1) k env' σ):CY C P R c p i k env σ:=by
 refine Dg (some t) ho hg ht (ds:=[.v (.bool b),evD env x,evD env y]) ?_ (op_pick hop) ?_ hk
 ·simp[DY,hop,Op.operands,evD,getD_eq_getElem?_getD,hs]
 ·rw[←he]
  simp only[AK]
  congr 1
  cases b<;>simp at hx<;>subst hx<;>simp[evD,getD_eq_getElem?_getD,h1]
theorem ev_tmp{s:Nat}(hs:env[s]?=some d):evD env (.tmp s)=d:=by simp[evD,getD_eq_getElem?_getD,hs]
theorem D0(s t:Nat)(ho:(AD (sub c p))[i]?=some o)(hg:B7 env (AD (sub c p)) o=some true)(ht:o.dst=some t)(hop:o.op=.move (.tmp s)∨o.op=.assign (.tmp s))(hs:env[s]?=some d)(he:env.set t d=env')(hk:CY C P R c p (i+1) k env' σ):CY C P R c p i k env σ:=by
 have hds:DY env o=[d]:=by rcases hop with h|h<;>simp[DY,h,Op.operands,evD,getD_eq_getElem?_getD,hs]
 refine Dg (some t) ho hg ht hds ?_ he hk
 rcases hop with h|h
 ·exact op_move h
 ·exact Hh h
theorem at_mc{u:Value}(t:Nat)(ho:(AD (sub c p))[i]?=some o)(hg:B7 env (AD (sub c p)) o=some true)(ht:o.dst=some t)(hop:o.op=.move (.const u)∨o.op=.assign (.const u))(hs:constD u=d)(he:env.set t d=env')(hk:CY C P R c p (i+1) k env' σ):CY C P R c p i k env σ:=by
 have hds:DY env o=[d]:=by rcases hop with h|h<;>simp[DY,h,Op.operands,evD,hs]
 refine Dg (some t) ho hg ht hds ?_ he hk
 rcases hop with h|h
 ·exact op_move h
 ·exact Hh h
theorem GR(h:(AD (sub c p)).size=i)(hk:A2 C P R k env σ):CY C P R c p i k env σ:=by
 intro E0 E g a w B hC hf hB
 rw[drop_of_length_le (by simp[h])]
 exact hk E0 E g a w B hC hf hB
theorem at_split(t:Nat){b:Bool}(hs:env[t]?=some (.v (.bool b)))(ht:b=true->∀env',env.set t (.v (.bool true))=env'->CY C P R c p i k env' σ)(hf:b=false->∀env',env.set t (.v (.bool false))=env'->CY C P R c p i k env' σ):CY C P R c p i k env σ:=by
 have key:∀b',b=b'->env.set t (.v (.bool b'))=env:=by
  intro b' e;subst e
  apply ext_getElem?
  intro j
  rw[getElem?_set]
  split
  ·rename_i e;subst e
   split
   ·exact hs.symm
   ·rename_i hl;rw[getElem?_eq_none (by omega)] at hs;simp at hs
  ·rfl
 cases b with
 |true=>exact ht rfl env (key true rfl)
 |false=>exact hf rfl env (key false rfl)
inductive Wk:List D->List D->Prop
 |nil:Wk [] []
 |keep {d:D} {l l':List D} (h:Wk l l'):Wk (d::l) (d::l')
 |drop {d:D} {l l':List D} (h:Wk l l'):Wk (d::l) (.undef::l')
theorem Wk.ok:∀{l l':List D},Wk l l'->l'.length=l.length/\∀(i:Nat) (d':D),l'[i]?=some d'->d'=.undef∨l[i]?=some d'
 |_,_,.nil=>⟨rfl,fun i d' h=>by simp at h⟩
 |_,_,.keep h=>by
  obtain⟨h1,h2⟩:=h.ok
  refine⟨by simp[h1],fun i d' hi=>?_⟩
  cases i with
  |zero=>exact .inr hi
  |succ i=>exact h2 i d' (by simpa using hi)
 |_,_,.drop h=>by
  obtain⟨h1,h2⟩:=h.ok
  refine⟨by simp[h1],fun i d' hi=>?_⟩
  cases i with
  |zero=>simp at hi;exact .inl hi.symm
  |succ i=>exact h2 i d' (by simpa using hi)
theorem run_wk(hw:Wk env env')(h:A2 C P R k env' σ):A2 C P R k env σ:=FT hw.ok.1 hw.ok.2 h
def DAt(P:Program)(c:Code)(p:List Nat)(sts:Bool->List St)(fr:Nat)(i:Nat)(env:List D)(j:Nat)(effs:List Ef)(K:List D->Nat->List Ef->Prop):Prop:=
 ∃vals effs' env' j',F5 P (AD (sub c p)) sts fr ((AD (sub c p)).toList.drop i) env j vals effs' env' j'/\K env' j' (effs++effs')
theorem da_end{sts:Bool->List St}{fr:Nat}{j:Nat}{effs:List Ef}{K:List D->Nat->List Ef->Prop}(h:(AD (sub c p)).size=i)(hk:K env j effs):DAt P c p sts fr i env j effs K:=by
 refine⟨[],[],env,j,?_,by simpa using hk⟩
 rw[drop_of_length_le (by simp[h])]
 exact .nil
theorem drop_cons(ho:(AD (sub c p))[i]?=some o):((AD (sub c p)).toList.drop i)=o::(AD (sub c p)).toList.drop (i+1):=by
 have ho':(AD (sub c p)).toList[i]?=some o:=by simpa using ho
 rw[drop_eq_getElem_cons (List.getElem?_eq_some_iff.1 ho').1,(List.getElem?_eq_some_iff.1 ho').2]
theorem idx_rest(ho:(AD (sub c p))[i]?=some o):(AD (sub c p)).size- (((AD (sub c p)).toList.drop (i+1)).length+1)=i:=by
 have:=(Array.getElem?_eq_some_iff.1 ho).1
 simp;omega
theorem da_quietG(t:Option Tmp){sts:Bool->List St}{fr:Nat}{j:Nat}{effs:List Ef}{K:List D->Nat->List Ef->Prop}(ho:(AD (sub c p))[i]?=some o)(hg:B7 env (AD (sub c p)) o=some true){ds:List D}(hds:DY env o=ds)
  (ht:o.dst=t) (h:∀b,∀s∈sts b,Ai P o ds s d s) (he:AK env t d=env') (hk:DAt P c p sts fr (i+1) env' j (effs++[(false,none)]) K) (hne:i≠fr:=by decide):DAt P c p sts fr i env j effs K:=by
 obtain⟨vals,effs',env2,j',h1,h2⟩:=hk
 subst ht hds he
 refine⟨d::vals,(false,none)::effs',env2,j',?_,by simpa using h2⟩
 rw[drop_cons ho]
 exact .quiet (by rw[idx_rest ho];exact hne) hg h h1
theorem da_quiet(t:Option Tmp){sts:List St}{fr:Nat}{j:Nat}{effs:List Ef}{K:List D->Nat->List Ef->Prop}(ho:(AD (sub c p))[i]?=some o)(hg:B7 env (AD (sub c p)) o=some true){ds:List D}(hds:DY env o=ds)
  (ht:o.dst=t) (h:∀s∈sts,Ai P o ds s d s) (he:AK env t d=env') (hk:DAt P c p (fun _=>sts) fr (i+1) env' j (effs++[(false,none)]) K) (hne:i≠fr:=by decide):DAt P c p (fun _=>sts) fr i env j effs K:=
 da_quietG t ho hg hds ht (fun _=>h) he hk hne
def Cq(LF LT:List St):Bool->List St
 |false=>LF
 |true=>LT
theorem da_eff(t:Option Tmp){sts:List St}{fr:Nat}{j:Nat}{effs:List Ef}{K:List D->Nat->List Ef->Prop}(ho:(AD (sub c p))[i]?=some o)(hg:B7 env (AD (sub c p)) o=some true){ds:List D}(hds:DY env o=ds){s s':St}(hs:sts[j]?=some s)(hs':sts[j+1]?=some s')
  (ht:o.dst=t) (h:Ai P o ds s d s') (he:AK env t d=env') (hk:DAt P c p (fun _=>sts) fr (i+1) env' (j+1) (effs++[(true,none)]) K) (hne:i≠fr:=by decide):DAt P c p (fun _=>sts) fr i env j effs K:=by
 obtain⟨vals,effs',env2,j',h1,h2⟩:=hk
 subst ht hds he
 refine⟨d::vals,(true,none)::effs',env2,j',?_,by simpa using h2⟩
 rw[drop_cons ho]
 exact .eff (by rw[idx_rest ho];exact hne) hg (fun b x hx _=>⟨s',hs',by rw[hs] at hx;simp at hx;subst hx;exact h⟩) h1
theorem da_mv{sts:Bool->List St}{fr:Nat}{j:Nat}{effs:List Ef}{K:List D->Nat->List Ef->Prop}(s t:Nat)(ho:(AD (sub c p))[i]?=some o)(hg:B7 env (AD (sub c p)) o=some true)(ht:o.dst=some t)(hop:o.op=.move (.tmp s)∨o.op=.assign (.tmp s))(hs:env[s]?=some d)
  (he:env.set t d=env') (hk:DAt P c p sts fr (i+1) env' j (effs++[(false,none)]) K) (hne:i≠fr:=by decide):DAt P c p sts fr i env j effs K:=by
 have hds:DY env o=[d]:=by rcases hop with h|h<;>simp[DY,h,Op.operands,evD,getD_eq_getElem?_getD,hs]
 refine da_quietG (some t) ho hg hds ht (fun _ _ _=>?_) he hk hne
 rcases hop with h|h
 ·exact op_move h
 ·exact Hh h
theorem at_draw{id:Nat}(hm:P.follows .mixedOrders=true)(h:sub c p=.region id (AD (sub c p)) true)(sts:List St)(h0:sts[0]?=some σ)
  (hk:DAt P c p (fun _=>sts) 1000000 0 env 0 [] (fun env' j' effs=>GM (AD (sub c p)) effs=true/\∃σ',sts[j']?=some σ'/\A2 C P R k env' σ')):A2 C P R (.code (sub c p)::k) env σ:=by
 obtain⟨vals,effs,env',j',h1,h2,σ',h3,h4⟩:=hk
 rw[h]
 exact G7 hm (fun _=>sts) 1000000 h0 h3 (by simpa using h1) (by simpa using h2) h4
theorem spec_at{f:FuncId}{fn:Func}{ds:List D}{σ σ':St}{d:D}(c:Code)(hf:P.funcs[f]?=some fn)(hb:fn.body=some c)(hn:(fn.name=="runtime.NumGoroutine")=false)(hH:σ.H.length<=σ'.H.length)
  (env:List D) (he:ds++replicate (fn.ntmps-ds.length) .undef=env) (h:Run P (fun env σ1=>A8 P fn env σ1 d σ') [.code (sub c [])] env σ):Ab P f ds σ d σ':=by
 subst he
 refine spec_of_run hf hb hn hH ?_
 have:sub c []=c:=by cases c<;>rfl
 rwa[this] at h
end
def Cy:List (Option (List D))->List Nat->List (Option (List D))->List (Option (List D))
 |H,q::qs,o::os=>Cy (H.set q o) qs os
 |H,[],os=>H++os
 |H,_::_,[]=>H
def rho(n:Nat)(qs:List Nat)(j:Nat):Nat:=match qs[j]? with
 |some q=>q
 |none=>n+(j-qs.length)
theorem backH_length:∀(qs:List Nat) (H os:List (Option (List D))),qs.length<=os.length->(Cy H qs os).length=H.length+(os.length-qs.length)
 |[],H,os,_=>by simp[Cy]
 |q::qs,H,[],h=>by simp at h
 |q::qs,H,o::os,h=>by
  simp only[Cy]
  rw[backH_length qs _ os (by simpa using h)]
  simp
theorem backH_get:∀(qs:List Nat) (H os:List (Option (List D))),qs.length<=os.length->∀{i:Nat} {cs:List D},(Cy H qs os)[i]?=some (some cs)->
  (∃j,rho H.length qs j=i/\os[j]?=some (some cs))∨(i<H.length/\i∉qs/\H[i]?=some (some cs))
 |[],H,os,_,i,cs,h=>by
  simp only[Cy] at h
  by_cases hi:i<H.length
  ·rw[getElem?_append_left hi] at h
   exact .inr ⟨hi,by simp,h⟩
  ·rw[getElem?_append_right (by omega)] at h
   exact .inl ⟨i-H.length,by simp[rho];omega,h⟩
 |q::qs,H,[],h,_,_,_=>by simp at h
 |q::qs,H,o::os,h,i,cs,hg=>by
  simp only[Cy] at hg
  rcases backH_get qs (H.set q o) os (by simpa using h) hg with⟨j,h1,h2⟩|⟨h1,h2,h3⟩
  ·refine .inl ⟨j+1,?_,by simpa using h2⟩
   rw[←h1]
   simp[rho]
  ·simp only[length_set] at h1
   rw[getElem?_set] at h3
   split at h3
   ·rename_i e;subst e
    simp only[h1,if_true,Option.some.injEq] at h3
    exact .inl ⟨0,by simp[rho],by simp[h3]⟩
   ·rename_i e
    exact .inr ⟨h1,by simp only[mem_cons,not_or];exact⟨fun e'=>e e'.symm,h2⟩,h3⟩
def gIn(g:Gh)(qs:List Nat):Gh:={ M:=g.M,β:=fun j=>g.β (qs.getD j 0),n:=qs.length,ι:=fun _ _=>none,κ:=fun j=>g.κ (qs.getD j 0)}
theorem DV{qs:List Nat}{j q:Nat}(h:qs[j]?=some q):qs.getD j 0=q:=by simp[getD_eq_getElem?_getD,h]
theorem WRep.callee{g:Gh}{σ σc:St}{w:World}(h:WRep g σ w){qs:List Nat}(hnd:qs.Nodup)(hown:σc.own=[])(hlen:σc.H.length=qs.length)
  (hq:∀(j q:Nat) (csc:List D),qs[j]?=some q->σc.H[j]?=some (some csc)->∃cs,σ.H[q]?=some (some cs)/\(∀us,Ac g cs us->Ac (gIn g qs) csc us)/\∀c∈csc,c.one=true):WRep (gIn g qs) σc w where
 n:=hlen.symm
 mem:=h.mem
 gl:=h.gl
 gw:=h.gw
 obj:=fun j csc hj=>by
  have hlt:j<qs.length:=by rw[←hlen];exact(List.getElem?_eq_some_iff.1 hj).1
  have hqj:qs[j]?=some qs[j]:=getElem?_eq_getElem hlt
  obtain⟨cs,h1,h2,h3⟩:=hq j _ csc hqj hj
  obtain⟨us,rest,e,hb,hr,_,hM,hκ⟩:=h.obj _ cs h1
  have e1:(gIn g qs).β j=g.β qs[j]:=by simp only[gIn,DV hqj]
  have e2:(gIn g qs).κ j=g.κ qs[j]:=by simp only[gIn,DV hqj]
  exact⟨us,rest,e,by rw[e1];exact hb,h2 us hr,h3,by rw[e1];exact hM,by rw[e2];exact hκ⟩
 inj:=fun i j c1 c2 hi hj hij=>by
  have hlti:i<qs.length:=by rw[←hlen];exact(List.getElem?_eq_some_iff.1 hi).1
  have hltj:j<qs.length:=by rw[←hlen];exact(List.getElem?_eq_some_iff.1 hj).1
  have hqi:qs[i]?=some qs[i]:=getElem?_eq_getElem hlti
  have hqj:qs[j]?=some qs[j]:=getElem?_eq_getElem hltj
  obtain⟨ci,h1,_⟩:=hq i _ c1 hqi hi
  obtain⟨cj,h2,_⟩:=hq j _ c2 hqj hj
  simp only[gIn,DV hqi,DV hqj] at hij
  have:=h.inj _ _ _ _ h1 h2 hij
  exact(List.getElem_inj hnd).1 this
 own:=fun k sz xs hx=>by rw[hown] at hx;simp at hx
 tags:=by rw[hown];simp
 sep:=fun x hx=>by rw[hown] at hx;simp at hx
 ownObj:=fun x hx=>by rw[hown] at hx;simp at hx
 fresh:=fun _ _ _=>rfl
def CW(g gc':Gh)(k:Nat)(own':List (Nat×Nat×List V))(τ:Nat->Nat):Gh:=
 { M:=gc'.M,n:=g.n+(gc'.n-k),β:=fun j=>if j<g.n then g.β j else gc'.β (k+(j-g.n)),κ:=fun j=>if j<g.n then g.κ j else gc'.κ (k+(j-g.n)),ι:=fun t m=>match own'.find? (fun x=>τ x.1==t) with|some x=>gc'.ι x.1 m|none=>g.ι t m }
theorem find_tag{own':List (Nat×Nat×List V)}{τ:Nat->Nat}(hτ:∀x∈own',∀y∈own',τ x.1=τ y.1->x.1=y.1){y:Nat×Nat×List V}(hy:y∈own'):∃x,own'.find? (fun x=>τ x.1==τ y.1)=some x/\x.1=y.1:=by
 cases h:own'.find? (fun x=>τ x.1==τ y.1) with
 |none=>have:=List.find?_eq_none.1 h y hy;simp at this
 |some x=>exact⟨x,rfl,hτ x (List.mem_of_find?_eq_some h) y hy (by have:=List.find?_some h;simpa using this)⟩
theorem find_none{own':List (Nat×Nat×List V)}{τ:Nat->Nat}{t:Nat}(h:∀x∈own',τ x.1≠t):own'.find? (fun x=>τ x.1==t)=none:=List.find?_eq_none.2 fun x hx=>by simp[h x hx]
def EE(τ:Nat->Nat)(own':List (Nat×Nat×List V)):List (Nat×Nat×List V):=own'.map fun x=>(τ x.1,x.2)
theorem Dq{g gc':Gh}{k:Nat}{own':List (Nat×Nat×List V)}{τ:Nat->Nat}(hτ:∀x∈own',∀y∈own',τ x.1=τ y.1->x.1=y.1){y:Nat×Nat×List V}(hy:y∈own')(m:Nat):(CW g gc' k own' τ).ι (τ y.1) m=gc'.ι y.1 m:=by
 obtain⟨x,h1,h2⟩:=find_tag hτ hy
 simp only[CW,h1,h2]
theorem B9{g gc':Gh}{k:Nat}{own':List (Nat×Nat×List V)}{τ:Nat->Nat}{t:Nat}(h:∀x∈own',τ x.1≠t)(m:Nat):(CW g gc' k own' τ).ι t m=g.ι t m:=by
 simp only[CW,find_none h]
theorem WI.back{E:Ent}{g gc':Gh}{σ σc σc':St}{w w':World}(hw:WI E g σ w){qs:List Nat}(hown:σc.own=[])(hlen:σc.H.length=qs.length)
  (hq:∀(j q:Nat),qs[j]?=some q->∃cs,σ.H[q]?=some (some cs)) (h:WI ⟨gIn g qs,w,σc⟩ gc' σc' w') {τ:Nat->Nat} (hτ:∀x∈σc'.own,∀y∈σc'.own,τ x.1=τ y.1->x.1=y.1)
  (hfr:∀x∈σc'.own,∀y∈σ.own,τ x.1≠y.1) {H2:List (Option (List D))} (hlen2:H2.length=σc'.H.length)
  (hout:∀(j:Nat) (cs2:List D),H2[j]?=some (some cs2)->∃csc,σc'.H[j]?=some (some csc)/\(∀us,Ac gc' csc us->Ac (CW g gc' qs.length σc'.own τ) cs2 us)/\∀c∈cs2,c.one=true):
  WI E (CW g gc' qs.length σc'.own τ) ⟨Cy σ.H qs H2,EE τ σc'.own++σ.own⟩ w'/\g.le (CW g gc' qs.length σc'.own τ):=by
 have hn':gc'.n=σc'.H.length:=h.rep.n
 have hkn:qs.length<=gc'.n:=h.nE
 have hgn:g.n=σ.H.length:=hw.rep.n
 have hold:∀y∈σ.own,∀x∈σc'.own,τ x.1≠y.1:=fun y hy x hx=>hfr x hx y hy
 have hle:g.le (CW g gc' qs.length σc'.own τ):=by
  refine⟨h.M,Nat.le_add_right _ _,fun o ho=>if_pos ho,fun t m u ht=>?_,fun o ho=>if_pos ho⟩
  by_cases hx:∃x∈σc'.own,τ x.1=t
  ·obtain⟨x,hx,rfl⟩:=hx
   rw[hw.rep.fresh (τ x.1) (fun y hy e=>hfr x hx y hy e.symm) m] at ht
   simp at ht
  ·rw[B9 (fun x hx' e=>hx ⟨x,hx',e⟩)];exact ht
 -- the callee's blocks
 have hpriv:∀b,Ent.priv ⟨gIn g qs,w,σc⟩ b->∃(j q:Nat),qs[j]?=some q/\b=g.β q:=by
  rintro b (⟨j,cs,hj,e⟩|⟨x,hx,_⟩)
  ·have hlt:j<qs.length:=by rw[←hlen];exact(List.getElem?_eq_some_iff.1 hj).1
   have hqj:qs[j]?=some qs[j]:=getElem?_eq_getElem hlt
   exact⟨j,_,hqj,by rw[e];simp only[gIn,DV hqj]⟩
  ·simp only[hown] at hx;simp at hx
 have hβ:∀j,j<gc'.n->(CW g gc' qs.length σc'.own τ).β (rho σ.H.length qs j)=gc'.β j/\(CW g gc' qs.length σc'.own τ).κ (rho σ.H.length qs j)=gc'.κ j:=by
  intro j hj
  by_cases hlt:j<qs.length
  ·have hqj:qs[j]?=some qs[j]:=getElem?_eq_getElem hlt
   obtain⟨cs,hcs⟩:=hq j _ hqj
   have h1:qs[j]<g.n:=hw.rep.lt_n hcs
   have h2:=h.βE j hlt
   have h3:=h.κE j hlt
   simp only[gIn,DV hqj] at h2 h3
   simp only[rho,hqj,CW,if_pos h1,h2,h3,and_self]
  ·have hqj:qs[j]?=none:=getElem?_eq_none (by omega)
   have h1:¬σ.H.length+(j-qs.length)<g.n:=by omega
   have h2:qs.length+(σ.H.length+(j-qs.length)-g.n)=j:=by omega
   simp only[rho,hqj,CW,if_neg h1,h2,and_self]
 -- what a block of the callee can be
 have hobjc:∀(j:Nat) (csc:List D),σc'.H[j]?=some (some csc)->w.heap.size<=gc'.β j∨∃(j' q:Nat),qs[j']?=some q/\gc'.β j=g.β q:=by
  intro j csc hj
  rcases h.objs j csc hj with h1|h1
  ·exact .inl h1
  ·exact .inr (hpriv _ h1)
 have hownc:∀x∈σc'.own,∀u,gc'.ι x.1 x.2.2.length=some u->∀b,BG u=some b->w.heap.size<=b∨∃(j' q:Nat),qs[j']?=some q/\b=g.β q:=by
  intro x hx u hu b hb
  rcases h.owns x hx u hu b hb with h1|h1
  ·exact .inl h1
  ·exact .inr (hpriv _ h1)
 have hoff:∀(i:Nat) (cs:List D),σ.H[i]?=some (some cs)->i∉qs->∀(j q:Nat),qs[j]?=some q->g.β i≠g.β q:=by
  intro i cs hi hni j q hj e
  obtain⟨c2,h2⟩:=hq j q hj
  have:=hw.rep.inj i q _ _ hi h2 e
  subst this
  exact hni (mem_of_getElem? hj)
 have keepOld:∀(i:Nat) (cs:List D),σ.H[i]?=some (some cs)->i∉qs->w'.heap[g.β i]?=w.heap[g.β i]?/\∀o,gc'.M (g.β i) o=g.M (g.β i) o:=by
  intro i cs hi hni
  refine h.keep (g.β i) (hw.rep.obj_lt hi) (fun hp=>?_)
  obtain⟨j,q,hj,e⟩:=hpriv _ hp
  exact hoff i cs hi hni j q hj e
 have keepOwn:∀x∈σ.own,∀u,g.ι x.1 x.2.2.length=some u->∀b,BG u=some b->(b<w.heap.size/\∀(j q:Nat),qs[j]?=some q->b≠g.β q)/\w'.heap[b]?=w.heap[b]?/\∀o,gc'.M b o=g.M b o:=by
  intro x hx u hu b hb
  have hlt:=hw.rep.own_lt hx hu hb
  have hne:∀(j q:Nat),qs[j]?=some q->b≠g.β q:=fun j q hj e=>by
   obtain⟨c2,h2⟩:=hq j q hj
   exact hw.rep.ownObj x hx u hu b hb q c2 h2 e.symm
  refine⟨⟨hlt,hne⟩,h.keep b hlt (fun hp=>?_)⟩
  obtain⟨j,q,hj,e⟩:=hpriv _ hp
  exact hne j q hj e
 have get:∀{i:Nat} {cs:List D},(Cy σ.H qs H2)[i]?=some (some cs)->(∃j,rho σ.H.length qs j=i/\H2[j]?=some (some cs)/\j<gc'.n)∨(i<σ.H.length/\i∉qs/\σ.H[i]?=some (some cs)):=by
  intro i cs hi
  rcases backH_get qs σ.H H2 (by omega) hi with⟨j,h1,h2⟩|h1
  ·exact .inl ⟨j,h1,h2,by rw[hn', ←hlen2];exact(List.getElem?_eq_some_iff.1 h2).1⟩
  ·exact .inr h1
 have memO:∀{x:Nat×Nat×List V},x∈EE τ σc'.own++σ.own->(∃y∈σc'.own,x=(τ y.1,y.2))∨x∈σ.own:=by
  intro x hx
  rcases mem_append.1 hx with hx|hx
  ·obtain⟨y,hy,e⟩:=mem_map.1 hx;exact .inl ⟨y,hy,e.symm⟩
  ·exact .inr hx
 refine⟨hw.update (fun b=>∃(j q:Nat),qs[j]?=some q/\b=g.β q) ?_ (fun b hb hx=>h.keep b hb (fun hp=>hx (hpriv b hp))) h.M (Nat.le_add_right _ _) (fun o ho=>if_pos ho) (fun o ho=>if_pos ho) h.size h.os h.tape h.output ?_ ?_ ?_ (drawn:=h.drawn),hle⟩
 ·rintro b ⟨j,q,hj,rfl⟩
  obtain⟨c2,h2⟩:=hq j q hj
  exact hw.objs q c2 h2
 ·refine⟨?_,h.rep.mem,fun i cs hi=>?_,fun i j c1 c2 hi hj hij=>?_,fun k sz xs hx=>?_,?_,fun x hx y hy hne u u' hu hu' b hb=>?_,fun x hx u hu b hb i cs hi=>?_,fun k hk m=>?_,h.rep.gl,h.rep.gw⟩
  ·simp only[CW];rw[backH_length qs _ _ (by omega)];omega
  ·rcases get hi with⟨j,rfl,h2,hj⟩|⟨h1,h2,h3⟩
   ·obtain⟨csc,h4,h5,h6⟩:=hout j cs h2
    obtain⟨us,rest,e,hb,hr,_,hM,hκ⟩:=h.rep.obj j csc h4
    obtain⟨e1,e2⟩:=hβ j hj
    exact⟨us,rest,e,by rw[e1];exact hb,h5 us hr,h6,by rw[e1];exact hM,by rw[e2];exact hκ⟩
   ·obtain⟨us,rest,e,hb,hr,h4,hM,hκ⟩:=hw.rep.obj i cs h3
    obtain⟨k1,k2⟩:=keepOld i cs h3 h2
    have e1:(CW g gc' qs.length σc'.own τ).β i=g.β i:=if_pos (by omega)
    have e2:(CW g gc' qs.length σc'.own τ).κ i=g.κ i:=if_pos (by omega)
    exact⟨us,rest,e,by rw[e1];exact k1.trans hb,Ac.mono hle _ _ hr,h4,by rw[e1];exact fun o=>(k2 o).trans (hM o),by rw[e2];exact hκ⟩
  ·rcases get hi with⟨ji,rfl,h2,hji⟩|⟨h1,h2,h3⟩<;>rcases get hj with⟨jj,rfl,h5,hjj⟩|⟨h4,h5,h6⟩
   ·rw[(hβ ji hji).1,(hβ jj hjj).1] at hij
    obtain⟨ci,hci,_⟩:=hout ji _ h2
    obtain⟨cj,hcj,_⟩:=hout jj _ h5
    rw[h.rep.inj ji jj _ _ hci hcj hij]
   ·rw[(hβ ji hji).1,show(CW g gc' qs.length σc'.own τ).β j=g.β j from if_pos (by omega)] at hij
    obtain⟨ci,hci,_⟩:=hout ji _ h2
    have hlt:=hw.rep.obj_lt h6
    rcases hobjc ji ci hci with h7|⟨j',q,h7,h8⟩
    ·omega
    ·exact absurd (hij.symm.trans h8) (hoff j _ h6 h5 j' q h7)
   ·rw[(hβ jj hjj).1,show(CW g gc' qs.length σc'.own τ).β i=g.β i from if_pos (by omega)] at hij
    obtain⟨cj,hcj,_⟩:=hout jj _ h5
    have hlt:=hw.rep.obj_lt h3
    rcases hobjc jj cj hcj with h7|⟨j',q,h7,h8⟩
    ·omega
    ·exact absurd (hij.trans h8) (hoff i _ h3 h2 j' q h7)
   ·rw[show(CW g gc' qs.length σc'.own τ).β i=g.β i from if_pos (by omega),show(CW g gc' qs.length σc'.own τ).β j=g.β j from if_pos (by omega)] at hij
    exact hw.rep.inj i j _ _ h3 h6 hij
  ·rcases memO hx with⟨y,hy,e⟩|hx
   ·simp only[Prod.mk.injEq] at e
    obtain⟨rfl,e2⟩:=e
    obtain⟨h0,u,hu,h3,h4,h5⟩:=h.rep.own y.1 sz xs (by rw[show(y.1,sz,xs)=y from by rw[e2]];exact hy)
    exact⟨h0,u,by rw[Dq hτ hy];exact hu,h3,h4,fun m hm=>by rw[Dq hτ hy];exact h5 m hm⟩
   ·obtain⟨h0,u,hu,h3,h4,h5⟩:=hw.rep.own k sz xs hx
    exact⟨h0,u,by rw[B9 (hold _ hx)];exact hu,h3.mono h.M,h4.kept fun b hb=>(keepOwn _ hx u hu b hb).2,fun m hm=>by rw[B9 (hold _ hx)];exact h5 m hm⟩
  ·simp only[map_append]
   refine List.nodup_append.2 ⟨?_,hw.rep.tags,fun a ha b hb e=>?_⟩
   ·have:(EE τ σc'.own).map (·.1)=(σc'.own.map (·.1)).map τ:=by simp[EE,Function.comp_def]
    rw[this]
    refine List.pairwise_map.2 (List.Pairwise.imp_of_mem ?_ h.rep.tags)
    intro a b ha hb hne e
    obtain⟨x,hx,rfl⟩:=mem_map.1 ha
    obtain⟨y,hy,rfl⟩:=mem_map.1 hb
    exact hne (hτ x hx y hy e)
   ·obtain⟨x,hx,rfl⟩:=mem_map.1 ha
    obtain⟨y,hy,rfl⟩:=mem_map.1 hb
    obtain⟨z,hz,rfl⟩:=mem_map.1 hx
    exact hfr z hz y hy e
  ·rcases memO hx with⟨x',hx',rfl⟩|hx<;>rcases memO hy with⟨y',hy',rfl⟩|hy
   ·rw[Dq hτ hx'] at hu;rw[Dq hτ hy'] at hu'
    exact h.rep.sep x' hx' y' hy' (fun e=>hne (by simp only[e])) u u' hu hu' b hb
   ·rw[Dq hτ hx'] at hu;rw[B9 (hold _ hy)] at hu'
    intro hb'
    obtain⟨⟨hlt,hne'⟩,_⟩:=keepOwn y hy u' hu' b hb'
    rcases hownc x' hx' u hu b hb with h7|⟨j',q,h7,h8⟩
    ·omega
    ·exact hne' j' q h7 h8
   ·rw[B9 (hold _ hx)] at hu;rw[Dq hτ hy'] at hu'
    intro hb'
    obtain⟨⟨hlt,hne'⟩,_⟩:=keepOwn x hx u hu b hb
    rcases hownc y' hy' u' hu' b hb' with h7|⟨j',q,h7,h8⟩
    ·omega
    ·exact hne' j' q h7 h8
   ·rw[B9 (hold _ hx)] at hu;rw[B9 (hold _ hy)] at hu'
    exact hw.rep.sep x hx y hy hne u u' hu hu' b hb
  ·rcases memO hx with⟨x',hx',rfl⟩|hx<;>rcases get hi with⟨ji,rfl,h2,hji⟩|⟨h1,h2,h3⟩
   ·rw[Dq hτ hx'] at hu
    obtain⟨ci,hci,_⟩:=hout ji _ h2
    rw[(hβ ji hji).1]
    exact h.rep.ownObj x' hx' u hu b hb ji ci hci
   ·rw[Dq hτ hx'] at hu
    rw[show(CW g gc' qs.length σc'.own τ).β i=g.β i from if_pos (by omega)]
    have hlt:=hw.rep.obj_lt h3
    rcases hownc x' hx' u hu b hb with h7|⟨j',q,h7,h8⟩
    ·omega
    ·rw[h8];exact hoff i _ h3 h2 j' q h7
   ·rw[B9 (hold _ hx)] at hu
    obtain⟨ci,hci,_⟩:=hout ji _ h2
    rw[(hβ ji hji).1]
    obtain⟨⟨hlt,hne'⟩,_⟩:=keepOwn x hx u hu b hb
    rcases hobjc ji ci hci with h7|⟨j',q,h7,h8⟩
    ·omega
    ·rw[h8];exact fun e=>hne' j' q h7 e.symm
   ·rw[B9 (hold _ hx)] at hu
    rw[show(CW g gc' qs.length σc'.own τ).β i=g.β i from if_pos (by omega)]
    exact hw.rep.ownObj x hx u hu b hb i cs h3
  ·rw[B9 (fun x hx e=>hk (τ x.1,x.2) (mem_append.2 (.inl (mem_map.2 ⟨x,hx,rfl⟩))) e)]
   exact hw.rep.fresh k (fun x hx=>hk x (mem_append.2 (.inr hx))) m
 ·intro i cs hi
  rcases get hi with⟨j,rfl,h2,hj⟩|⟨h1,h2,h3⟩
  ·obtain⟨csc,h4,_⟩:=hout j cs h2
   rw[(hβ j hj).1]
   rcases hobjc j csc h4 with h5|⟨j',q,h5,h6⟩
   ·exact .inl (Nat.le_trans hw.size h5)
   ·obtain⟨c2,h7⟩:=hq j' q h5
    rw[h6];exact hw.objs q c2 h7
  ·rw[show(CW g gc' qs.length σc'.own τ).β i=g.β i from if_pos (by omega)]
   exact hw.objs i cs h3
 ·intro x hx u hu b hb
  rcases memO hx with⟨x',hx',rfl⟩|hx
  ·rw[Dq hτ hx'] at hu
   rcases hownc x' hx' u hu b hb with h5|⟨j',q,h5,h6⟩
   ·exact .inl (Nat.le_trans hw.size h5)
   ·obtain⟨c2,h7⟩:=hq j' q h5
    rw[h6];exact hw.objs q c2 h7
  ·rw[B9 (hold _ hx)] at hu
   exact hw.owns x hx u hu b hb
mutual
def D.ren(ρ τ:Nat->Nat):D->D
 |.v x=>.v x
 |.acc t xs=>.acc (τ t) xs
 |.ptr o off=>.ptr (ρ o) off
 |.arr o off len=>.arr (ρ o) off len
 |.gro o len sz=>.gro (ρ o) len sz
 |.raw x=>.raw x
 |.rv x u=>.rv x u
 |.dagg cs=>.dagg (D.rens ρ τ cs)
 |.dfn f fs cs=>.dfn f (D.rens ρ τ fs) (D.rens ρ τ cs)
 |.tup ds=>.tup (D.rens ρ τ ds)
 |.err=>.err
 |.undef=>.undef
def D.rens(ρ τ:Nat->Nat):List D->List D
 |[]=>[]
 |d::ds=>d.ren ρ τ::D.rens ρ τ ds
end
mutual
def D.okN(n:Nat)(ts:List Nat):D->Bool
 |.acc t _=>ts.contains t
 |.ptr o _|.arr o _ _|.gro o _ _=>decide (o<n)
 |.dagg cs=>D.okNs n ts cs
 |.dfn _ fs cs=>D.okNs n ts fs&&D.okNs n ts cs
 |.tup ds=>D.okNs n ts ds
 |_=>true
def D.okNs(n:Nat)(ts:List Nat):List D->Bool
 |[]=>true
 |d::ds=>d.okN n ts&&D.okNs n ts ds
end
mutual
theorem repD_ren{g g':Gh}{ρ τ ρ' τ':Nat->Nat}{n:Nat}{ts:List Nat}(hM:∀x u,repV g.M x u->repV g'.M x u)(ho:∀o,o<n->ρ o<g.n->ρ' o<g'.n/\g'.β (ρ' o)=g.β (ρ o)/\g'.κ (ρ' o)=g.κ (ρ o))
  (hι:∀t,ts.contains t=true->∀m u,g.ι (τ t) m=some u->g'.ι (τ' t) m=some u):∀(d:D) (u:Value),d.okN n ts=true->Ae g (d.ren ρ τ) u->Ae g' (d.ren ρ' τ') u
 |.v x,u,_,h=>by simp only[D.ren,Ae] at h⊢;exact hM _ _ h
 |.acc t xs,u,hk,h=>by simp only[D.ren,Ae] at h⊢;exact⟨hM _ _ h.1,hι t (by simpa[D.okN] using hk) _ _ h.2⟩
 |.ptr o off,u,hk,h=>by
  simp only[D.okN,decide_eq_true_eq] at hk
  simp only[D.ren,Ae] at h⊢
  obtain⟨h1,h2,_⟩:=ho o hk h.1
  exact⟨h1,by rw[h2];exact h.2⟩
 |.arr o off len,u,hk,h=>by
  simp only[D.okN,decide_eq_true_eq] at hk
  simp only[D.ren,Ae] at h⊢
  obtain⟨h1,h2,_⟩:=ho o hk h.1
  exact⟨h1,by rw[h2];exact h.2⟩
 |.gro o len sz,u,hk,h=>by
  simp only[D.okN,decide_eq_true_eq] at hk
  simp only[D.ren,Ae] at h⊢
  obtain⟨h1,h2,h3⟩:=ho o hk h.1
  exact⟨h1,by rw[h2,h3];exact h.2⟩
 |.raw x,u,_,h=>by simpa only[D.ren,Ae] using h
 |.rv x u0,u,_,h=>by simp only[D.ren,Ae] at h⊢;exact⟨h.1,hM _ _ h.2⟩
 |.dagg cs,u,hk,h=>by
  simp only[D.ren,Ae] at h⊢
  obtain⟨us,e,h1⟩:=h
  exact⟨us,e,Db hM ho hι cs us (by simpa[D.okN] using hk) h1⟩
 |.dfn f fs cs,u,hk,h=>by
  simp only[D.okN,Bool.and_eq_true] at hk
  simp only[D.ren,Ae] at h⊢
  obtain⟨us,vs,e,h1,h2⟩:=h
  exact⟨us,vs,e,Db hM ho hι fs us hk.1 h1,Db hM ho hι cs vs hk.2 h2⟩
 |.tup ds,u,hk,h=>by
  simp only[D.ren,Ae] at h⊢
  obtain⟨us,e,h1⟩:=h
  exact⟨us,e,Db hM ho hι ds us (by simpa[D.okN] using hk) h1⟩
 |.err,u,_,h=>by simpa only[D.ren,Ae] using h
 |.undef,u,_,_=>by simp only[D.ren,Ae]
theorem Db{g g':Gh}{ρ τ ρ' τ':Nat->Nat}{n:Nat}{ts:List Nat}(hM:∀x u,repV g.M x u->repV g'.M x u)(ho:∀o,o<n->ρ o<g.n->ρ' o<g'.n/\g'.β (ρ' o)=g.β (ρ o)/\g'.κ (ρ' o)=g.κ (ρ o))
  (hι:∀t,ts.contains t=true->∀m u,g.ι (τ t) m=some u->g'.ι (τ' t) m=some u):∀(ds:List D) (us:List Value),D.okNs n ts ds=true->Ac g (D.rens ρ τ ds) us->Ac g' (D.rens ρ' τ' ds) us
 |[],us,_,h=>by simpa only[D.rens,Ac] using h
 |d::ds,us,hk,h=>by
  simp only[D.okNs,Bool.and_eq_true] at hk
  simp only[D.rens,Ac] at h⊢
  obtain⟨u,us',e,h1,h2⟩:=h
  exact⟨u,us',e,repD_ren hM ho hι d u hk.1 h1,Db hM ho hι ds us' hk.2 h2⟩
end
mutual
theorem ren_id:∀d:D,d.ren id id=d
 |.v _|.acc .. |.ptr .. |.arr .. |.gro .. |.raw _|.rv .. |.err|.undef=>by simp[D.ren]
 |.dagg cs=>by simp[D.ren,Ep cs]
 |.dfn f fs cs=>by simp[D.ren,Ep fs,Ep cs]
 |.tup ds=>by simp[D.ren,Ep ds]
theorem Ep:∀ds:List D,D.rens id id ds=ds
 |[]=>rfl
 |d::ds=>by simp[D.rens,ren_id d,Ep ds]
end
mutual
theorem ren_one:∀(ρ τ:Nat->Nat) (d:D),(d.ren ρ τ).one=d.one
 |ρ,τ,d=>by cases d<;>simp[D.ren,D.one]
end
theorem rens_one{ρ τ:Nat->Nat}:∀{ds:List D},(∀c∈ds,c.one=true)->∀c∈D.rens ρ τ ds,c.one=true
 |[],_,c,hc=>by simp[D.rens] at hc
 |d::ds,h,c,hc=>by
  simp only[D.rens,mem_cons] at hc
  rcases hc with rfl|hc
  ·rw[ren_one];exact h d (by simp)
  ·exact rens_one (fun c hc=>h c (by simp[hc])) c hc
inductive ArgR (n:Nat) (qs:List Nat):D->D->Prop
 |ren {dc:D} (h:dc.okN qs.length []=true):ArgR n qs (dc.ren (rho n qs) id) dc
 |acc {t:Nat} {xs:List V}:ArgR n qs (.acc t xs) (.v (.list xs))
 |undef {d:D}:ArgR n qs d .undef
inductive D1 (n:Nat) (qs:List Nat):List D->List D->Prop
 |nil:D1 n qs [] []
 |cons {d dc:D} {ds dcs:List D} (h:ArgR n qs d dc) (hs:D1 n qs ds dcs):D1 n qs (d::ds) (dc::dcs)
inductive ObjsR (H:List (Option (List D))) (qs:List Nat):List Nat->List (Option (List D))->Prop
 |nil:ObjsR H qs [] []
 |cons {q:Nat} {js:List Nat} {cs csc:List D} {os:List (Option (List D))} (h:H[q]?=some (some cs)) (ha:D1 H.length qs cs csc) (h1:csc.all D.one=true) (hs:ObjsR H qs js os):ObjsR H qs (q::js) (some csc::os)
theorem ObjsR.length{H:List (Option (List D))}{qs:List Nat}:∀{js:List Nat} {os:List (Option (List D))},ObjsR H qs js os->os.length=js.length
 |_,_,.nil=>rfl
 |_,_,.cons _ _ _ hs=>by simp[hs.length]
theorem ObjsR.get{H:List (Option (List D))}{qs:List Nat}:∀{js:List Nat} {os:List (Option (List D))},ObjsR H qs js os->∀{j q:Nat},js[j]?=some q->∃cs csc,H[q]?=some (some cs)/\os[j]?=some (some csc)/\D1 H.length qs cs csc/\∀c∈csc,c.one=true
 |_,_,.nil,j,q,h=>by simp at h
 |_,_,.cons h ha h1 hs,j,q,hj=>by
  cases j with
  |zero=>simp at hj;subst hj;exact⟨_,_,h,by simp,ha,by simpa using h1⟩
  |succ j=>simp at hj;obtain⟨cs,csc,h2,h3,h4⟩:=hs.get hj;exact⟨cs,csc,h2,by simpa using h3,h4⟩
theorem rho_lt{n:Nat}{qs:List Nat}{j:Nat}(h:j<qs.length):rho n qs j=qs.getD j 0:=by
 have hqj:qs[j]?=some qs[j]:=getElem?_eq_getElem h
 simp only[rho,hqj,DV hqj]
theorem ArgR.rep{g:Gh}{qs:List Nat}{d dc:D}(h:ArgR g.n qs d dc){u:Value}(hr:Ae g d u):Ae (gIn g qs) dc u:=by
 cases h with
 |ren hk=>
  have:=repD_ren (g:=g) (g':=gIn g qs) (ρ:=rho g.n qs) (τ:=id) (ρ':=id) (τ':=id) (n:=qs.length) (ts:=[]) (fun _ _ h=>h) (fun o ho _=>⟨ho,by simp only[gIn,id,rho_lt ho,and_self]⟩) (fun t ht=>by simp at ht) dc u hk hr
  rwa[ren_id] at this
 |acc=>simp only[Ae] at hr⊢;exact hr.1
 |undef=>simp only[Ae]
theorem D1.rep{g:Gh}{qs:List Nat}:∀{ds dcs:List D},D1 g.n qs ds dcs->∀{us:List Value},Ac g ds us->Ac (gIn g qs) dcs us
 |_,_,.nil,us,h=>by simpa only[Ac] using h
 |_,_,.cons h hs,us,hr=>by
  simp only[Ac] at hr⊢
  obtain⟨u,us',e,h1,h2⟩:=hr
  exact⟨u,us',e,h.rep h1,hs.rep h2⟩
def fnParts:D->Option (FuncId×List D×List D)
 |.v (.fn f fs cs)=>some (f,fs.map .v,cs.map .v)
 |.dfn f fs cs=>some (f,fs,cs)
 |_=>none
theorem fnParts_rep{g:Gh}{d:D}{f:FuncId}{fs cs:List D}(h:fnParts d=some (f,fs,cs)){u:Value}(hr:Ae g d u):∃us vs,u=.func (.func f) us.toArray vs.toArray/\Ac g fs us/\Ac g cs vs:=by
 unfold fnParts at h
 split at h
 ·simp only[Option.some.injEq,Prod.mk.injEq] at h
  obtain⟨rfl,rfl,rfl⟩:=h
  simp only[Ae,FV] at hr
  obtain⟨us,vs,e,h1,h2⟩:=hr
  exact⟨us,vs,e,D6 h1,D6 h2⟩
 ·simp only[Option.some.injEq,Prod.mk.injEq] at h
  obtain⟨rfl,rfl,rfl⟩:=h
  simpa only[Ae] using hr
 ·simp at h
def okH(n:Nat)(ts:List Nat):List (Option (List D))->Bool
 |[]=>true
 |some cs::H=>D.okNs n ts cs&&okH n ts H
 |none::H=>okH n ts H
theorem okH_get{n:Nat}{ts:List Nat}:∀{H:List (Option (List D))},okH n ts H=true->∀{j:Nat} {cs:List D},H[j]?=some (some cs)->D.okNs n ts cs=true
 |[],_,j,cs,h=>by simp at h
 |some c::H,hk,j,cs,h=>by
  simp only[okH,Bool.and_eq_true] at hk
  cases j with
  |zero=>simp at h;subst h;exact hk.1
  |succ j=>exact okH_get hk.2 (by simpa using h)
 |none::H,hk,j,cs,h=>by
  simp only[okH] at hk
  cases j with
  |zero=>simp at h
  |succ j=>exact okH_get hk (by simpa using h)
def F1(ρ τ:Nat->Nat)(H:List (Option (List D))):List (Option (List D)):=H.map (Option.map (D.rens ρ τ))
section
variable {P : Program} {o : Oper} {σ : St}
theorem Cr{c:Call}{fo:Operand}(ho:o.op=.call c)(hc:c.callee=.value fo){fD:D}{f:FuncId}{fs cs:List D}(hf:fnParts fD=some (f,fs,cs)){ds dsc:List D}{σc σc':St}{dc:D}(qs:List Nat)(τ:Nat->Nat)
  (hspec:Ab P f dsc σc dc σc') (hargs:D1 σ.H.length qs (fs++ds++cs) dsc) (hobjs:ObjsR σ.H qs qs σc.H) (hnd:qs.Nodup) (hown:σc.own=[]) (hτ:∀x∈σc'.own,∀y∈σc'.own,τ x.1=τ y.1->x.1=y.1)
  (hfr:∀x∈σc'.own,∀y∈σ.own,τ x.1≠y.1) (hokd:dc.okN σc'.H.length (σc'.own.map (·.1))=true) (hokH:okH σc'.H.length (σc'.own.map (·.1)) σc'.H=true):
  Ai P o (fD::ds) σ (dc.ren (rho σ.H.length qs) τ) ⟨Cy σ.H qs (F1 (rho σ.H.length qs) τ σc'.H),EE τ σc'.own++σ.own⟩:=by
 intro E g a w K Q hw hds hK
 have hn:g.n=σ.H.length:=hw.rep.n
 simp only[ho,Op.operands,Call.operands,hc] at hds
 have h':Ac g (fD::ds) (a.eval fo::c.args.toList.map a.eval):=by simpa using hds
 simp only[Ac] at h'
 obtain⟨u,us',e,h1,h2⟩:=h'
 simp only[List.cons.injEq] at e
 obtain⟨e1,e2⟩:=e
 obtain⟨us,vs,e3,h3,h4⟩:=fnParts_rep hf h1
 refine EU (_E:=E) (_g:=g) ho hc hspec.1 (e1.trans e3) e2 ?_
 rw[←hn] at hargs
 have hq:∀(j q:Nat),qs[j]?=some q->∃cs csc,σ.H[q]?=some (some cs)/\σc.H[j]?=some (some csc)/\D1 g.n qs cs csc/\∀c∈csc,c.one=true:=fun j q hj=>by rw[hn];exact hobjs.get hj
 have hrep:WRep (gIn g qs) σc w:=hw.rep.callee hnd hown hobjs.length (fun j q csc hj hcj=>by
  obtain⟨cs,csc',h5,h6,h7,h8⟩:=hq j q hj
  rw[h6] at hcj;simp at hcj;subst hcj
  exact⟨cs,h5,fun us hr=>h7.rep hr,h8⟩)
 refine Calls.mono (hspec.2 _ w _ hrep (hargs.rep (Aq (Aq h3 h2) h4))) ?_
 rintro e w' ⟨r,gc',rfl,hw',hr⟩
 have hn':gc'.n=σc'.H.length:=hw'.rep.n
 have hkn:qs.length<=gc'.n:=hw'.nE
 have hρ:∀j,j<σc'.H.length->rho σ.H.length qs j<(CW g gc' qs.length σc'.own τ).n/\(CW g gc' qs.length σc'.own τ).β (rho σ.H.length qs j)=gc'.β j/\(CW g gc' qs.length σc'.own τ).κ (rho σ.H.length qs j)=gc'.κ j:=by
  intro j hj
  by_cases hlt:j<qs.length
  ·have hqj:qs[j]?=some qs[j]:=getElem?_eq_getElem hlt
   obtain⟨cs,_,hcs,_⟩:=hq j _ hqj
   have h5:qs[j]<g.n:=hw.rep.lt_n hcs
   have h6:=hw'.βE j hlt
   have h7:=hw'.κE j hlt
   simp only[gIn,DV hqj] at h6 h7
   simp only[rho,hqj,CW,if_pos h5,h6,h7,and_self,and_true]
   omega
  ·have hqj:qs[j]?=none:=getElem?_eq_none (by omega)
   have h5:¬σ.H.length+(j-qs.length)<g.n:=by omega
   have h6:qs.length+(σ.H.length+(j-qs.length)-g.n)=j:=by omega
   simp only[rho,hqj,CW,if_neg h5,h6,and_self,and_true]
   omega
 have hren:∀(dd:D) (v:Value),dd.okN σc'.H.length (σc'.own.map (·.1))=true->Ae gc' dd v->Ae (CW g gc' qs.length σc'.own τ) (dd.ren (rho σ.H.length qs) τ) v:=by
  intro dd v hk hv
  refine repD_ren (g:=gc') (g':=CW g gc' qs.length σc'.own τ) (ρ:=id) (τ:=id) (ρ':=rho σ.H.length qs) (τ':=τ) (n:=σc'.H.length) (ts:=σc'.own.map (·.1)) (fun _ _ h=>h) (fun o ho _=>hρ o ho) (fun t ht m x hx=>?_) dd v hk (by rw[ren_id];exact hv)
  simp only[List.contains_iff_mem,mem_map] at ht
  obtain⟨y,hy,rfl⟩:=ht
  rw[Dq hτ hy];exact hx
 have hrens:∀(dd:List D) (v:List Value),D.okNs σc'.H.length (σc'.own.map (·.1)) dd=true->Ac gc' dd v->Ac (CW g gc' qs.length σc'.own τ) (D.rens (rho σ.H.length qs) τ dd) v:=by
  intro dd v hk hv
  refine Db (g:=gc') (g':=CW g gc' qs.length σc'.own τ) (ρ:=id) (τ:=id) (ρ':=rho σ.H.length qs) (τ':=τ) (n:=σc'.H.length) (ts:=σc'.own.map (·.1)) (fun _ _ h=>h) (fun o ho _=>hρ o ho) (fun t ht m x hx=>?_) dd v hk (by rw[Ep];exact hv)
  simp only[List.contains_iff_mem,mem_map] at ht
  obtain⟨y,hy,rfl⟩:=ht
  rw[Dq hτ hy];exact hx
 obtain⟨h8,h9⟩:=hw.back hown hobjs.length (fun j q hj=>by obtain⟨cs,_,h5,_⟩:=hq j q hj;exact⟨cs,h5⟩) hw' hτ hfr (H2:=F1 (rho σ.H.length qs) τ σc'.H) (by simp[F1]) (fun j cs2 hj=>by
  simp only[F1,getElem?_map] at hj
  cases hcj:σc'.H[j]? with
  |none=>simp[hcj] at hj
  |some oc=>
   cases oc with
   |none=>simp[hcj] at hj
   |some csc=>
    simp[hcj] at hj
    subst hj
    obtain⟨_,_,_,_,_,h1c,_⟩:=hw'.rep.obj j csc hcj
    exact⟨csc,rfl,fun us hus=>hrens csc us (okH_get hokH hcj) hus,rens_one h1c⟩)
 exact⟨r,rfl,hK _ _ _ h8 h9 (hren dc r hokd hr)⟩
end
theorem WI.kill{E:Ent}{g:Gh}{σ:St}{w:World}(hw:WI E g σ w){q:Nat}{cs:List D}(hq:σ.H[q]?=some (some cs)):WI E g ⟨σ.H.set q none,σ.own⟩ w:=
 hw.setObjG (M':=g.M) (oc:=none) (Mem.le_refl _) hq (fun _ h=>by simp at h) (fun _ _ _=>⟨rfl,fun _=>rfl⟩) hw.rep.mem (Nat.le_refl _) rfl rfl rfl
theorem FS{H:List (Option (List D))}{q i:Nat}{cs:List D}(h:(H.set q none)[i]?=some (some cs)):i≠q/\H[i]?=some (some cs):=by
 rw[getElem?_set] at h
 split at h
 ·split at h<;>simp at h
 ·rename_i e;exact⟨fun e'=>e e'.symm,h⟩
theorem WI.rename{E:Ent}{g:Gh}{σ:St}{w:World}(hw:WI E g σ w){q:Nat}{cs:List D}(hq:σ.H[q]?=some (some cs)):
  ∃g',WI E g' ⟨σ.H.set q none++[some cs],σ.own⟩ w/\g.le g'/\g'.β σ.H.length=g.β q/\g'.κ σ.H.length=g.κ q/\g'.n=σ.H.length+1:=by
 obtain⟨us,rest,e,hb,hr,h1,hM,hκ⟩:=hw.rep.obj q cs hq
 obtain⟨h2,h3⟩:=(hw.kill hq).addObj (b:=g.β q) (us:=us) (rest:=rest) (e:=e) (cs:=cs) hb (hw.objs q cs hq) hM
  (fun i ci hi e'=>by
   obtain⟨hne,hi'⟩:=FS hi
   exact hne (hw.rep.inj i q _ _ hi' hq e'))
  (fun x hx u hu hb'=>hw.rep.ownObj x hx u hu _ hb' q cs hq rfl) hr h1
 refine⟨_,h2,h3,?_,?_,?_⟩
 ·simp[hw.rep.n]
 ·simp only[hw.rep.n,if_true];exact hκ
 ·simp[hw.rep.n]
theorem WI.newObjR{E:Ent}{g:Gh}{σ:St}{w:World}(hw:WI E g σ w){us rest:List Value}{cs:List D}(e:TypeId)(hr:Ac g cs us)(h1:∀c∈cs,c.one=true):
  ∃g',WI E g' ⟨σ.H++[some cs],σ.own⟩ (w.alloc (.cells (us++rest).toArray e))/\g.le g'/\g'.β σ.H.length=w.heap.size/\g'.κ σ.H.length=(us++rest).length/\g'.n=σ.H.length+1:=by
 have h2:=(hw.alloc (.cells (us++rest).toArray e)).addObj (b:=w.heap.size) (us:=us) (rest:=rest) (e:=e) (cs:=cs) (heap_alloc_new w _) (.inl hw.size) (hw.rep.new_none (Nat.le_refl _))
  (fun i cs hi=>Nat.ne_of_lt (hw.rep.obj_lt hi)) (fun x hx u hu hb=>by have:=hw.rep.own_lt hx hu hb;omega) hr h1
 exact⟨_,h2.1,h2.2,by simp[hw.rep.n],by simp[hw.rep.n],by simp[hw.rep.n]⟩
section
variable {P : Program} {o : Oper} {σ : St} {d : D}
end
inductive EQ:List Operand->List D->List D->Prop
 |nil:EQ [] [] []
 |same {x:Operand} {d:D} {xs:List Operand} {ds ds':List D} (h:EQ xs ds ds'):EQ (x::xs) (d::ds) (d::ds')
 |const {u:Value} {d:D} {xs:List Operand} {ds ds':List D} (h:EQ xs ds ds'):EQ (.const u::xs) (d::ds) (.raw u::ds')
theorem EQ.rep{g:Gh}{a:Act}:∀{xs:List Operand} {ds ds':List D},EQ xs ds ds'->Ac g ds (xs.map a.eval)->Ac g ds' (xs.map a.eval)
 |_,_,_,.nil,h=>by simpa only[Ac] using h
 |_,_,_,.same h',h=>by
  simp only[map_cons,Ac] at h⊢
  obtain⟨u,us,e,h1,h2⟩:=h
  simp only[List.cons.injEq] at e
  obtain⟨e1,e2⟩:=e
  exact⟨_,_,rfl,by rw[e1];exact h1,h'.rep (by rw[e2];exact h2)⟩
 |_,_,_,.const h',h=>by
  simp only[map_cons,Ac] at h⊢
  obtain⟨u,us,e,h1,h2⟩:=h
  simp only[List.cons.injEq] at e
  obtain⟨e1,e2⟩:=e
  exact⟨_,_,rfl,by simp only[Ae,Act.eval],h'.rep (by rw[e2];exact h2)⟩
section
variable {P : Program} {o : Oper} {σ : St} {d : D}
end
theorem WI.review{E:Ent}{g:Gh}{σ:St}{w:World}(hw:WI E g σ w){q:Nat}{cs cs':List D}(hq:σ.H[q]?=some (some cs))(h:∀us,Ac g cs us->Ac g cs' us)(h1:∀c∈cs',c.one=true):WI E g ⟨σ.H.set q (some cs'),σ.own⟩ w:=by
 obtain⟨us,rest,e,hb,hr,_,_,hκ⟩:=hw.rep.obj q cs hq
 exact hw.setObj hq hb hκ (h us hr) h1 (fun _ _=>rfl) rfl rfl rfl rfl
theorem Dm{α:Type}{l:List α}{s:Nat}{u:α}(h:l[s]?=some u):l.set s u=l:=by
 apply ext_getElem?
 intro i
 rw[getElem?_set]
 split
 ·rename_i e;subst e
  split
  ·exact h.symm
  ·rw[getElem?_eq_none (by omega)]
 ·rfl
theorem toV_cells{g:Gh}{d:D}{x:V}{u:Value}(h:d.toV=some x)(hr:Ae g d u):repC g.M x u.cells.toList:=repV_cells (GZ h hr)
section
variable {P : Program} {o : Oper} {σ : St} {d : D}
theorem op_boxI{e:TypeId}{x:Operand}(ho:o.op=.box e x){y:V}(hy:d.toV=some y):Ai P o [d] σ (.v (.ref y)) σ:=by
 intro E g a w K Q hw hds hK
 simp only[ho,Op.operands,A0] at hds
 obtain⟨u,eu,hd⟩:=hds
 simp at eu
 have hc:=toV_cells hy hd
 obtain⟨hw',hle⟩:=hw.newImm u.cells.toList [] e
 rw[append_nil] at hw'
 have:=hK _ _ (.pointer (some ⟨w.heap.size,0,none⟩)) hw' hle (by
  simp only[Ae,C4]
  exact⟨w.heap.size,0,u.cells.toList,rfl,addM_in g.M w.heap.size _,repC.mono hle.M _ _ hc⟩)
 unfold Oper.wp execOp
 simpa[ho,eu,Instr.box,newVar,newRow,Oper.upon] using this
end
section
variable {P : Program} {o : Oper}
end
section
variable {C : Ent -> Ent -> Prop} {P : Program} {R : List D -> St -> Prop} {c : Code} {p : List Nat} {k : List KI} {env env' : List D} {σ σ' : St} {i : Nat} {o : Oper} {d : D}
end
def constN:Value->Option V
 |.slice none 0 0=>some .nils
 |u=>constV u
def Eu:List Value->Option (List V)
 |[]=>some []
 |u::us=>match constN u,Eu us with
  |some x,some xs=>some (x::xs)
  |_,_=>none
theorem constN_rep{M:Mem}{u:Value}{x:V}(h:constN u=some x):x.isAgg=false/\repC M x [u]:=by
 unfold constN at h
 split at h
 ·simp at h;subst h;simp[V.isAgg,repC]
 ·exact constV_rep h
theorem DZ{M:Mem}:∀{us:List Value} {xs:List V},Eu us=some xs->repA M xs us
 |[],xs,h=>by simp[Eu] at h;subst h;simp[repA]
 |u::us,xs,h=>by
  simp only[Eu] at h
  split at h
  ·rename_i x xs' h1 h2
   simp at h;subst h
   obtain⟨h3,h4⟩:=constN_rep (M:=M) h1
   simp only[repA]
   exact⟨u,us,rfl,h3,h4,DZ h2⟩
  ·simp at h
def zeroN(P:Program)(t:TypeId):Option (List V):=
 match (P.info? t).bind (·.zero) with
 |some z=>Eu z.cells.toList
 |none=>none
theorem zeroN_parts{P:Program}{t:TypeId}{xs:List V}(h:zeroN P t=some xs):∃i z,P.info? t=some i/\i.zero=some z/\Eu z.cells.toList=some xs:=by
 unfold zeroN at h
 split at h
 ·rename_i z hz
  cases hi:P.info? t with
  |none=>simp[hi] at hz
  |some i=>exact⟨i,z,rfl,by simpa[hi] using hz,h⟩
 ·simp at h
def bldN(P:Program)(t:TypeId):Option (List V×List (Nat×Nat)):=
 match zeroN P t,P.underlying t with
 |some z,some (.struct fs)=>(fs.toList.mapM (fun f=>(P.info? f.type).map fun i=>(f.offset,i.size))).map fun p=>(z,p)
 |_,_=>none
section
variable {P : Program} {o : Oper} {σ : St} {d : D}
theorem op_allocN{e:TypeId}(ho:o.op=.alloc e){xs:List V}(hz:zeroN P e=some xs):Ai P o [] σ (.ptr σ.H.length 0) ⟨σ.H++[some (xs.map .v)],σ.own⟩:=by
 intro E g a w K Q hw hds hK
 obtain⟨i,z,hi,hz1,hc⟩:=zeroN_parts hz
 obtain⟨h2,h3⟩:=CR (g:=g) (DZ hc)
 obtain⟨g',hw',hle,hβ,hn⟩:=hw.newObj e h2 h3
 have:=hK g' _ (.pointer (some ⟨w.heap.size,0,none⟩)) hw' hle (by simp only[Ae];exact⟨by omega,by rw[hβ]⟩)
 unfold Oper.wp execOp
 simpa[ho,Instr.alloc,zeroValue,typeInfo,hi,hz1,newVar,newRow,Oper.upon] using this
theorem op_buildN{t:TypeId}{parts:Array (Nat×Operand)}(ho:o.op=.build t parts){z:List V}{places:List (Nat×Nat)}(hb:bldN P t=some (z,places)){ds:List D}{xs:List (Nat×V)}{out:List V}
  (hx:C1 parts.toList ds=some xs) (hf:FF (places[·]?) z xs=some out):Ai P o ds σ (.v (.agg out)) σ:=by
 intro E g a w K Q hw hds hK
 simp only[ho,Op.operands] at hds
 have hpr:=FO hx (a:=a) (g:=g) (by simpa[Function.comp_def] using hds)
 unfold bldN at hb
 have key:∃U,P.built t (parts.toList.map fun p=>(p.1,a.eval p.2))=some U/\repA g.M out U.toList:=by
  cases hz:zeroN P t with
  |none=>simp[hz] at hb
  |some z0=>
   obtain⟨i,zv,hi,hz1,hcv⟩:=zeroN_parts hz
   cases hu:P.underlying t with
   |none=>simp[hz,hu] at hb
   |some dd=>
    cases dd<;>simp only[hz,hu,reduceCtorEq] at hb
    case struct fs=>
     cases hp:fs.toList.mapM (fun f=>(P.info? f.type).map fun i=>(f.offset,i.size)) with
     |none=>simp[hp] at hb
     |some pl=>
      simp[hp] at hb
      obtain⟨rfl,rfl⟩:=hb
      obtain⟨U,hU,hrU⟩:=fill_rep hpr (DZ (M:=g.M) hcv) hf
      exact⟨U,by simpa[Program.built,hi,hu,hz1,hp] using hU,hrU⟩
 obtain⟨U,hU,hrU⟩:=key
 have:=hK g w (.agg U) hw g.le_refl (by simp only[Ae,BZ];exact⟨U.toList,hrU,by simp⟩)
 have hrun:=run_build (P:=P) w t (parts.map fun p=>(p.1,a.eval p.2)) U (by simpa using hU)
 unfold Oper.wp execOp
 simp only[ho]
 simp only[Sem.run_bind]
 rw[show(parts.map fun(x:Nat×Operand)=>match x with|(i,x)=>(i,a.eval x))=parts.map fun p=>(p.1,a.eval p.2) from rfl,hrun]
 exact this
theorem op_makeN{t:TypeId}{x y:Operand}(ho:o.op=.makeSlice t x y){e:TypeId}{by':Nat}{z:Value}(hs:BJ P t=some (e,1,by',some z)){zv:V}(hz:constN z=some zv){k k':IntKind}{n:Int}(h0:0<=n)(hn:(by':Int)*n<=281474976710656)(hn2:n<=9223372036854775807):
  Ai P o [.v (.int k n),.v (.int k' n)] σ (.arr σ.H.length 0 n.toNat) ⟨σ.H++[some (replicate n.toNat (.v zv))],σ.own⟩:=by
 intro E g a w K Q hw hds hK
 simp only[ho,Op.operands,Ap] at hds
 obtain⟨u,v,eq,h1,h2⟩:=hds
 simp only[map_cons,map_nil,List.cons.injEq,and_true] at eq
 obtain⟨e1,e2⟩:=eq
 simp only[Ae,A1] at h1 h2
 subst h1 h2
 obtain⟨i,hu,hi,hsz,hby,hzz⟩:=A6 hs
 obtain⟨hza,hzc⟩:=constN_rep (M:=g.M) hz
 have hz1:z.cells= #[z]:=by
  obtain⟨u',e,_,h3⟩:=Cl hza hzc
  simp at e;subst e;exact cells_one h3
 have hrun:=run_make (P:=P) w t e i z hu hi hzz k k' n n h0 (Int.le_refl _) (by rw[hby];exact hn) hn2
 rw[hsz,Nat.mul_one,hz1,H6] at hrun
 have hr:∀m,Ac g (replicate m (.v zv)) (replicate m z):=by
  intro m
  induction m with
  |zero=>simp[Ac]
  |succ m ih=>simp only[replicate_succ,Ac,Ae];exact⟨z,_,rfl,(AZ hza).2 hzc,ih⟩
 obtain⟨g',hw',hle,hβ,hn'⟩:=hw.newObj e (hr n.toNat) (fun c hc=>by rw[List.mem_replicate] at hc;rw[hc.2];simp[D.one,hza])
 have:=hK g' _ (.slice (some ⟨w.heap.size,0,none⟩) n.toNat n.toNat) hw' hle (by simp only[Ae];exact⟨by omega,n.toNat,Nat.le_refl _,by rw[hβ]⟩)
 unfold Oper.wp execOp
 simp only[ho,e1,e2,Sem.run_bind,hrun,Result.andThen_ok]
 exact this
end
def Sees(cs cs':List D):Prop:=(∀g us,Ac g cs us->Ac g cs' us)/\((∀c∈cs,c.one=true)->∀c∈cs',c.one=true)
inductive See1:D->D->Prop
 |same {d:D}:See1 d d
 |acc {k:Nat} {xs:List V}:See1 (.acc k xs) (.v (.list xs))
 |nils:See1 (.v .nils) (.v (.list []))
 |rawnil:See1 (.raw (.slice none 0 0)) (.v .nils)
 |rv {x:V} {u:Value}:See1 (.rv x u) (.v x)
theorem See1.rep{d d':D}(h:See1 d d'){g:Gh}{u:Value}(hr:Ae g d u):Ae g d' u:=by
 cases h with
 |same=>exact hr
 |acc=>simp only[Ae] at hr⊢;exact hr.1
 |nils=>simp only[Ae,BY] at hr⊢;subst hr;exact Cj _
 |rawnil=>simp only[Ae,BY] at hr⊢;exact hr
 |rv=>simp only[Ae] at hr⊢;rw[hr.1];exact hr.2
theorem See1.one{d d':D}(h:See1 d d')(h1:d.one=true):d'.one=true:=by
 cases h with
 |same=>exact h1
 |acc=>rfl
 |nils=>rfl
 |rawnil=>rfl
 |rv=>simpa[D.one] using h1
inductive SeeL:List D->List D->Prop
 |nil:SeeL [] []
 |cons {d d':D} {cs cs':List D} (h:See1 d d') (hs:SeeL cs cs'):SeeL (d::cs) (d'::cs')
theorem SeeL.sees:∀{cs cs':List D},SeeL cs cs'->Sees cs cs'
 |_,_,.nil=>⟨fun _ _ h=>h,fun h=>h⟩
 |_,_,.cons h hs=>by
  refine⟨fun g us hr=>?_,fun h1 c hc=>?_⟩
  ·simp only[Ac] at hr⊢
   obtain⟨u,us',e,h2,h3⟩:=hr
   exact⟨u,us',e,h.rep h2,hs.sees.1 g us' h3⟩
  ·rcases mem_cons.1 hc with e|hc
   ·rw[e];exact h.one (h1 _ (List.mem_cons_self))
   ·exact hs.sees.2 (fun c hc=>h1 c (List.mem_cons_of_mem _ hc)) c hc
theorem SeeL.refl:∀cs:List D,SeeL cs cs
 |[]=>.nil
 |_::cs=>.cons .same (SeeL.refl cs)
theorem SeeL.set{d d':D}(h:See1 d d'):∀{cs:List D} {j:Nat},cs[j]?=some d->SeeL cs (cs.set j d')
 |[],j,hj=>by simp at hj
 |c::cs,0,hj=>by simp at hj;subst hj;exact .cons h (SeeL.refl cs)
 |c::cs,j+1,hj=>by simp at hj;exact .cons .same (SeeL.set h hj)
theorem opOK_see{P:Program}{o:Oper}{ds ds':List D}{σ σ':St}{d:D}(hs:SeeL ds ds')(h:Ai P o ds' σ d σ'):Ai P o ds σ d σ':=fun E g a w K Q hw hds hK=>h E g a w K Q hw (hs.sees.1 g _ hds) hK
theorem cv_claim{env:List D}{σ:St}(q j k sz:Nat){cs:List D}(hq:σ.H[q]?=some (some cs))(hj:cs[j]?=some (.v .nils))(hk:∀x∈σ.own,x.1≠k)(hsz:0<sz):
  Cv env σ env ⟨σ.H.set q (some (cs.set j (.acc k []))),(k,sz,[])::σ.own⟩:=fun E g a w hf=>by
 obtain⟨hw1,hle1⟩:=hf.wi.addOwn (k:=k) (sz:=sz) (xs:=[]) (u:=.slice none 0 0) hk ⟨hsz,by simp⟩ (Cj _) (.inl ⟨none,rfl⟩) (fun b hb=>by simp[BG] at hb)
 obtain⟨_,_,_,_,_,h1,_⟩:=hf.wi.rep.obj q cs hq
 have hw2:=hw1.review (cs':=cs.set j (.acc k [])) hq (fun us hr=>by
  obtain⟨u,hu,hru⟩:=B0 hr hj
  simp only[Ae,BY] at hru
  subst hru
  have:=Cu hr j (d:=.acc k []) (u:=.slice none 0 0) (by simp only[Ae];exact⟨Cj _,by simp⟩)
  rwa[Dm hu] at this) (fun c hc=>by
  rcases mem_or_eq_of_mem_set hc with h|h
  ·exact h1 c h
  ·subst h;rfl)
 exact⟨_,hw2,Ac.mono hle1 _ _ hf.env,hf.defers⟩
theorem D5{g:Gh}{sz:Nat}:∀{ys:List V} {us:List Value},repE g.M sz ys us->Ac g ((ys.flatMap V.cellsV).map .v) us/\∀c∈ (ys.flatMap V.cellsV).map D.v,c.one=true
 |[],us,h=>by simp only[repE] at h;subst h;simp[Ac]
 |y::ys,us,h=>by
  simp only[repE] at h
  obtain⟨u1,u2,rfl,hl,h1,h2⟩:=h
  obtain⟨h3,h4⟩:=D5 h2
  have hA:repA g.M y.cellsV u1:=by
   cases hy:y.isAgg with
   |true=>
    cases y with
    |agg cs=>simpa only[V.cellsV,repC] using h1
    |_=>simp[V.isAgg] at hy
   |false=>
    obtain⟨u',e1,_,_⟩:=Cl hy h1
    have e:y.cellsV=[y]:=by cases y<;>simp_all [V.cellsV,V.isAgg]
    rw[e,e1]
    simp only[repA]
    exact⟨u',[],rfl,hy,by rw[←e1];exact h1,rfl⟩
  obtain⟨h5,h6⟩:=CR (g:=g) hA
  refine⟨by simpa using Aq h5 h3,fun c hc=>?_⟩
  simp only[flatMap_cons,map_append,mem_append] at hc
  rcases hc with hc|hc
  ·exact h6 c hc
  ·exact h4 c hc
section
variable {P : Program} {o : Oper} {σ : St} {d : D}
theorem appendG_core{E:Ent}{g:Gh}{w:World}(hw:WI E g σ w){t ty e:TypeId}{sz by':Nat}{z:Value}(hs:BJ P t=some (e,sz,by',some z))(hzc:z.cells.size=sz)
  {q len n cap cap2:Nat} {cs cs2:List D} {vs:List Value} {ad:Addr} (hq:σ.H[q]?=some (some cs)) (hl:cs.length=len*sz) (hvl0:vs.length=n*sz) (hr2:Ac g cs2 vs) (h12:∀c∈cs2,c.one=true) (hnews:∀j u,vs[j]?=some u->w.cell? (ad.add j)=some u)
  (_hcap:len<=cap) (hκ:cap*sz=g.κ q) (_hpos:0<n) (hlen:(len+n)*by'<=140737488355328) (hlen2:len+n<=140737488355328):
  ∃u' w' g',(Builtin.append_ #[t,t] ty #[.slice (some ⟨g.β q,0,none⟩) len cap,.slice (some ad) n cap2]).run P w=.ok u' w'/\
   WI E g' ⟨σ.H.set q none++[some (cs++cs2)],σ.own⟩ w'/\g.le g'/\Ae g' (.gro σ.H.length (len+n) sz) u':=by
 obtain⟨i,ht,hi,hisz,hib,hiz⟩:=A6 hs
 obtain⟨us,rest,et,hb,hr,h1,hM,hκ1⟩:=hw.rep.obj q cs hq
 have hul:us.length=len*sz:=by rw[Ay hr,hl]
 have hvl:vs.length=n*i.size:=by rw[hvl0,hisz]
 have holds:∀j u,us[j]?=some u->w.cell? ((⟨g.β q,0,none⟩:Addr).add j)=some u:=fun j u hj=>by
  rw[Addr.add_lit];simp only[World.cell?,hb,Nat.zero_add,getElem?_toArray];exact DM hj
 have hone:∀u∈vs,u.oneCell'=true:=Ck h12 hr2
 have hcs:∀c∈cs++cs2,c.one=true:=fun c hc=>by
  rcases mem_append.1 hc with h|h
  ·exact h1 c h
  ·exact h12 c h
 by_cases hroom:len+n<=cap
 ·have hfit:len*i.size+vs.length<=(us++rest).toArray.size:=by
   rw[size_toArray,hκ1, ←hκ,hvl,hisz, ←Nat.add_mul]
   exact Nat.mul_le_mul_right _ hroom
  have hrun:=run_append_room' (P:=P) w t ty e et i ht hi (g.β q) len cap (us++rest).toArray hb ad n cap2 vs hvl hnews hone hroom hfit
  have hrow:(us++rest).toArray.toList.take (len*i.size)++vs++(us++rest).toArray.toList.drop (len*i.size+vs.length)=(us++vs)++rest.drop vs.length:=by
   simp only[hisz, ←hul]
   rw[List.take_left',List.drop_append,drop_of_length_le (by omega)]<;>simp
  rw[hrow] at hrun
  have hlen3:((us++vs)++rest.drop vs.length).length=g.κ q:=by
   rw[←hκ1]
   simp only[size_toArray,length_append] at hfit
   simp only[length_append,length_drop]
   rw[hisz, ←hul] at hfit
   omega
  have hw1:=hw.setObj (cs':=cs++cs2) (w':=w.setRow (g.β q) ((us++vs)++rest.drop vs.length).toArray) hq (us:=us++vs) (rest:=rest.drop vs.length) (e:=et) (setRow_heap w _ _ _ et _ hb) hlen3 (Aq hr hr2) hcs (fun b hb=>setRow_other w _ _ _ hb) (by simp) rfl rfl rfl
  have hq':(σ.H.set q (some (cs++cs2)))[q]?=some (some (cs++cs2)):=by
   rw[getElem?_set];simp;exact(List.getElem?_eq_some_iff.1 hq).1
  obtain⟨g',h3,h4,h5,h6,h7⟩:=hw1.rename (q:=q) hq'
  simp only[List.set_set,length_set] at h3 h5 h6 h7
  exact⟨_,_,g',hrun,h3,h4,by simp only[Ae];exact⟨by omega,cap,hroom,by rw[h6];exact hκ,by rw[h5]⟩⟩
 ·have hfitc:Builtin.nextslicecap (len+n) cap*i.bytes<=281474976710656:=growslice_fits (by omega) (by rw[hib];exact hlen)
  have hrun:=run_append_grow (P:=P) w t ty e i z ht hi hiz ⟨g.β q,0,none⟩ len cap us (by rw[hul,hisz]) holds ad n cap2 vs hvl hnews (by omega) (by omega) hfitc
  have hge:=grownCap_ge w (len+n) cap e
  have hcell:us.toArray++vs.toArray++Builtin.zeroCells z.cells (grownCap w (len+n) cap e- (len+n))=((us++vs)++(Builtin.zeroCells z.cells (grownCap w (len+n) cap e- (len+n))).toList).toArray:=by
   apply Array.ext';simp
  rw[hcell] at hrun
  obtain⟨g',h3,h4,h5,h6,h7⟩:=(hw.drew.kill hq).newObjR (us:=us++vs) (rest:=(Builtin.zeroCells z.cells (grownCap w (len+n) cap e- (len+n))).toList) (cs:=cs++cs2) e (Aq hr hr2) hcs
  simp only[length_set] at h3 h5 h6 h7
  refine⟨_,_,g',hrun,h3,h4,?_⟩
  simp only[Ae]
  refine⟨by omega,_,hge,?_,by rw[h5];rfl⟩
  rw[h6]
  simp only[length_append,Array.length_toList,size_zeroCells,hzc,hul,hvl,hisz, ←Nat.add_mul]
  congr 1;omega
def Aa(ys:List V):List D:=(ys.flatMap V.cellsV).map .v
theorem op_appendGV{x y:Operand}{t:TypeId}(ho:o.op=.call { callee:=.builtin .append,args:= #[x,y],argTypes:= #[t,t]}){e:TypeId}{sz by':Nat}{z:Value}(hs:BJ P t=some (e,sz,by',some z))(hzc:z.cells.size=sz)(hsz:0<sz)
  {q len:Nat} {cs:List D} {ys:List V} (hq:σ.H[q]?=some (some cs)) (hl:cs.length=len*sz) (hys:∀y∈ys,y.size=sz) (hpos:ys≠ []) (hlen:(len+ys.length)*by'<=140737488355328) (hlen2:len+ys.length<=140737488355328):
  Ai P o [.gro q len sz,.v (.list ys)] σ (.gro σ.H.length (len+ys.length) sz) ⟨σ.H.set q none++[some (cs++Aa ys)],σ.own⟩:=by
 intro E g a w K Q hw hds hK
 simp only[ho,Op.operands,Call.operands] at hds
 obtain⟨u,v,eq,hu,hv⟩:=Ap.1 (by simpa using hds)
 simp only[List.cons.injEq,and_true] at eq
 simp only[Ae] at hu hv
 obtain⟨hqn,cap,hcap,hκ,rfl⟩:=hu
 obtain⟨ad,cap2,rfl,hc2,hor⟩:=BC hv hys hsz
 rcases hor with h|⟨b,off,us,rfl,hin,hE⟩
 ·exact absurd h hpos
 obtain⟨h5,h6⟩:=D5 hE
 obtain⟨u',w',g',hrun,hw',hle,hd⟩:=appendG_core (ty:=o.type) (cap2:=cap2) hw hs hzc hq hl (B8 hE) h5 h6 (DA hw hin) hcap hκ (length_pos_iff.2 hpos) hlen hlen2
 have:=hK g' w' u' hw' hle hd
 unfold Oper.wp execOp
 simp only[ho,resolve,invoke,builtin,Sem.run_bind,Sem.run_pure,Result.andThen_ok,List.map_toArray,map_cons,map_nil,eq.1,eq.2,hrun]
 exact this
theorem op_appendG0V{x y:Operand}{t:TypeId}(ho:o.op=.call { callee:=.builtin .append,args:= #[x,y],argTypes:= #[t,t]}){e:TypeId}{sz by':Nat}{z:Value}(hs:BJ P t=some (e,sz,by',some z))(hzc:z.cells.size=sz)(hsz:0<sz)
  {ys:List V} (hys:∀y∈ys,y.size=sz) (hpos:ys≠ []) (hlen:ys.length*by'<=140737488355328) (hlen2:ys.length<=140737488355328):
  Ai P o [.v .nils,.v (.list ys)] σ (.gro σ.H.length ys.length sz) ⟨σ.H++[some (Aa ys)],σ.own⟩:=by
 intro E g a w K Q hw hds hK
 simp only[ho,Op.operands,Call.operands] at hds
 obtain⟨u,v,eq,hu,hv⟩:=Ap.1 (by simpa using hds)
 simp only[List.cons.injEq,and_true] at eq
 simp only[Ae,BY] at hu hv
 subst hu
 obtain⟨ad,cap2,rfl,hc2,hor⟩:=BC hv hys hsz
 rcases hor with h|⟨b,off,us,rfl,hin,hE⟩
 ·exact absurd h hpos
 obtain⟨h5,h6⟩:=D5 hE
 obtain⟨i,ht,hi,hisz,hib,hiz⟩:=A6 hs
 have hvl:us.length=ys.length*i.size:=by rw[B8 hE,hisz]
 have hrun:=run_append_nil (P:=P) w t o.type e i z ht hi hiz ⟨b,off,none⟩ ys.length cap2 us hvl (DA hw hin) (length_pos_iff.2 hpos) (by omega) (by rw[hib];omega)
 have hge:=grownCap_ge w ys.length 0 e
 have hcell:us.toArray++Builtin.zeroCells z.cells (grownCap w ys.length 0 e-ys.length)=(us++(Builtin.zeroCells z.cells (grownCap w ys.length 0 e-ys.length)).toList).toArray:=by
  apply Array.ext';simp
 rw[hcell] at hrun
 obtain⟨g',h3,h4,h5',h6',h7⟩:=hw.drew.newObjR (us:=us) (rest:=(Builtin.zeroCells z.cells (grownCap w ys.length 0 e-ys.length)).toList) (cs:=Aa ys) e h5 h6
 have hd:Ae g' (.gro σ.H.length ys.length sz) (.slice (some ⟨w.heap.size,0,none⟩) ys.length (grownCap w ys.length 0 e)):=by
  simp only[Ae]
  refine⟨by omega,_,hge,?_,by rw[h5'];rfl⟩
  rw[h6']
  simp only[length_append,Array.length_toList,size_zeroCells,hzc,hvl,hisz, ←Nat.add_mul]
  congr 1;omega
 have:=hK g' _ _ h3 h4 hd
 unfold Oper.wp execOp
 simp only[ho,resolve,invoke,builtin,Sem.run_bind,Sem.run_pure,Result.andThen_ok,List.map_toArray,map_cons,map_nil,eq.1,eq.2,hrun]
 exact this
end
def Gs(L:Nat->Option (List D)):Nat->D->V->Prop
 |0,d,x=>∃d',See1 d d'/\d'.toV=some x
 |n+1,d,x=>(∃d',See1 d d'/\d'.toV=some x)∨
  (∃o off cs x',d=.ptr o off/\x=.ref x'/\L o=some cs/\∀j y,x'.cellsV[j]?=some y->y.isAgg=false/\∃c,cs[off+j]?=some c/\Gs L n c y)∨
  (∃o off sz cs xs,(d=.arr o off xs.length∨(∃sz',d=.gro o xs.length sz'/\off=0))/\x=.list xs/\0<sz/\(∀y∈xs,y.size=sz)/\L o=some cs/\∀j y,(xs.flatMap V.cellsV)[j]?=some y->y.isAgg=false/\∃c,cs[off+j]?=some c/\Gs L n c y)
theorem repA_of{M:Mem}:∀{ys:List V} {us:List Value},us.length=ys.length->(∀(j:Nat) (y:V),ys[j]?=some y->y.isAgg=false/\∃v,us[j]?=some v/\repV M y v)->repA M ys us
 |[],us,hl,_=>by simp only[repA];exact List.eq_nil_of_length_eq_zero (by simpa using hl)
 |y::ys,[],hl,_=>by simp at hl
 |y::ys,u::us,hl,h=>by
  simp only[repA]
  obtain⟨h1,v,h2,h3⟩:=h 0 y rfl
  simp at h2;subst h2
  exact⟨u,us,rfl,h1,(AZ h1).1 h3,repA_of (by simpa using hl) (fun j y' hj=>by have:=h (j+1) y' (by simpa using hj);simpa using this)⟩
theorem GC{M:Mem}{x:V}{us:List Value}(h:repA M x.cellsV us):repC M x us:=by
 cases x with
 |agg cs=>simpa only[V.cellsV,repC] using h
 |_=>
  simp only[V.cellsV,repA] at h
  obtain⟨u,us',rfl,_,h1,rfl⟩:=h
  exact h1
theorem cellsV_length(x:V):x.cellsV.length=x.size:=by cases x<;>simp[V.cellsV,V.size]
theorem En{M:Mem}{sz:Nat}:∀{xs:List V} {us:List Value},(∀y∈xs,y.size=sz)->repA M (xs.flatMap V.cellsV) us->repE M sz xs us
 |[],us,_,h=>by simpa[repA,repE] using h
 |x::xs,us,hs,h=>by
  simp only[flatMap_cons] at h
  have h1:=Hb h x.cellsV.length
  have h2:=Hd h x.cellsV.length
  rw[take_left] at h1
  rw[List.drop_left] at h2
  simp only[repE]
  have hl:(us.take x.cellsV.length).length=x.cellsV.length:=Dc h1
  exact⟨us.take x.cellsV.length,us.drop x.cellsV.length,(take_append_drop _ _).symm,by rw[hl,cellsV_length];exact hs x List.mem_cons_self,GC h1,En (fun y hy=>hs y (List.mem_cons_of_mem _ hy)) h2⟩
theorem lends_rep{g:Gh}{M':Mem}{L:Nat->Option (List D)}(hM:g.M.le M')(hL:∀o cs,L o=some cs->∃us,Ac g cs us/\inM M' (g.β o) 0 us):∀(n:Nat) (d:D) (x:V) (u:Value),Gs L n d x->Ae g d u->repV M' x u:=by
 have base:∀(d:D) (x:V) (u:Value),(∃d',See1 d d'/\d'.toV=some x)->Ae g d u->repV M' x u:=by
  rintro d x u ⟨d',h1,h2⟩ hr
  exact(GZ h2 (h1.rep hr)).mono hM
 intro n
 induction n with
 |zero=>intro d x u h hr;exact base d x u (by simpa only[Gs] using h) hr
 |succ n ih=>
  intro d x u h hr
  have cells:∀(o off:Nat) (cs:List D) (ys:List V),L o=some cs->(∀(j:Nat) (y:V),ys[j]?=some y->y.isAgg=false/\∃c,cs[off+j]?=some c/\Gs L n c y)->∃ws,inM M' (g.β o) off ws/\repA M' ys ws:=by
   intro o off cs ys ho hys
   obtain⟨us,h1,h2⟩:=hL o cs ho
   have hlen:off+ys.length<=us.length∨ys=[]:=by
    by_cases hn:ys=[]
    ·exact .inr hn
    ·left
     have hp:0<ys.length:=length_pos_iff.2 hn
     obtain⟨_,c,hc,_⟩:=hys (ys.length-1) (ys[ys.length-1]'(by omega)) (getElem?_eq_getElem (by omega))
     have:=(List.getElem?_eq_some_iff.1 hc).1
     rw[Ay h1];omega
   refine⟨(us.drop off).take ys.length,?_,?_⟩
   ·have:=inM_take (inM_drop h2 off) ys.length
    simpa using this
   ·refine repA_of ?_ (fun j y hj=>?_)
    ·rcases hlen with h|h
     ·simp;omega
     ·simp[h]
    ·obtain⟨h3,c,hc,h4⟩:=hys j y hj
     obtain⟨v,hv,hrv⟩:=B0 h1 hc
     refine⟨h3,v,?_,ih c y v h4 hrv⟩
     have hjl:=(List.getElem?_eq_some_iff.1 hj).1
     rw[getElem?_take,if_pos hjl,getElem?_drop];exact hv
  simp only[Gs] at h
  rcases h with h|⟨o,off,cs,x',rfl,rfl,ho,hc⟩|⟨o,off,sz,cs,xs,hd,rfl,hsz,hss,ho,hc⟩
  ·exact base d x u h hr
  ·obtain⟨ws,h1,h2⟩:=cells o off cs _ ho hc
   simp only[Ae] at hr
   rw[C4]
   exact⟨g.β o,off,ws,hr.2,h1,GC h2⟩
  ·obtain⟨ws,h1,h2⟩:=cells o off cs _ ho hc
   have hE:=En hss h2
   rw[AO]
   rcases hd with rfl|⟨sz',rfl,rfl⟩
   ·simp only[Ae] at hr
    obtain⟨_,cap,hcap,rfl⟩:=hr
    exact⟨_,cap,rfl,hcap,.inr ⟨g.β o,off,sz,ws,rfl,hsz,h1,hE⟩⟩
   ·simp only[Ae] at hr
    obtain⟨_,cap,hcap,_,rfl⟩:=hr
    exact⟨_,cap,rfl,hcap,.inr ⟨g.β o,0,sz,ws,rfl,hsz,h1,hE⟩⟩
inductive LendL (L:Nat->Option (List D)):List D->List V->Prop
 |nil:LendL L [] []
 |cons {n:Nat} {d:D} {x:V} {ds:List D} {xs:List V} (h:Gs L n d x) (hs:LendL L ds xs):LendL L (d::ds) (x::xs)
 |fn {f:FuncId} {cs:List D} {ys:List V} {ds:List D} {xs:List V} (h:LendL L cs ys) (hs:LendL L ds xs):LendL L (.dfn f [] cs::ds) (.fn f [] ys::xs)
theorem LendL.rep{g:Gh}{M':Mem}{L:Nat->Option (List D)}(hM:g.M.le M')(hL:∀o cs,L o=some cs->∃us,Ac g cs us/\inM M' (g.β o) 0 us){gc:Gh}(hgc:gc.M=M'):∀{ds:List D} {xs:List V} {us:List Value},LendL L ds xs->Ac g ds us->Ac gc (xs.map .v) us
 |_,_,us,.nil,h=>by simpa only[map_nil,Ac] using h
 |_,_,us,.cons h hs,hr=>by
  simp only[Ac,map_cons,Ae] at hr⊢
  obtain⟨u,us',e,h1,h2⟩:=hr
  exact⟨u,us',e,by rw[hgc];exact lends_rep hM hL _ _ _ _ h h1,hs.rep hM hL hgc h2⟩
 |_,_,us,.fn h hs,hr=>by
  simp only[Ac,map_cons,Ae] at hr⊢
  obtain⟨u,us',e,⟨u1,u2,e2,rfl,h2⟩,h3⟩:=hr
  refine⟨u,us',e,FV.2 ⟨[],u2,e2,by simp[EC],repL_of (E9 _) (h.rep hM hL hgc h2)⟩,hs.rep hM hL hgc h3⟩
section
variable {P : Program} {o : Oper} {σ : St} {d : D}
end
def GH(F:List Nat)(H:List (Option (List D))):List (Option (List D)):=F.foldl (fun H q=>H.set q none) H
theorem killH_length:∀(F:List Nat) (H:List (Option (List D))),(GH F H).length=H.length
 |[],H=>rfl
 |q::F,H=>by simp only[GH,foldl_cons];exact(killH_length F _).trans (by simp)
theorem E5:∀(F:List Nat) (H:List (Option (List D))) {i:Nat} {cs:List D},(GH F H)[i]?=some (some cs)->i∉F/\H[i]?=some (some cs)
 |[],H,i,cs,h=>⟨by simp,h⟩
 |q::F,H,i,cs,h=>by
  simp only[GH,foldl_cons] at h
  obtain⟨h1,h2⟩:=E5 F _ h
  obtain⟨h3,h4⟩:=FS h2
  exact⟨by simp[h1,h3],h4⟩
inductive Fz (L:Nat->Option (List D)):List D->List D->Prop
 |nil:Fz L [] []
 |keep {d:D} {ds ds':List D} (hs:Fz L ds ds'):Fz L (d::ds) (d::ds')
 |view {n:Nat} {d:D} {x:V} {ds ds':List D} (h:Gs L n d x) (hs:Fz L ds ds'):Fz L (d::ds) (.v x::ds')
theorem Fz.rep{g g':Gh}{L:Nat->Option (List D)}(hg:g.le g')(hL:∀o cs,L o=some cs->∃us,Ac g cs us/\inM g'.M (g.β o) 0 us):∀{ds ds':List D} {us:List Value},Fz L ds ds'->Ac g ds us->Ac g' ds' us
 |_,_,us,.nil,h=>by simpa only[Ac] using h
 |_,_,us,.keep hs,hr=>by
  simp only[Ac] at hr⊢
  obtain⟨u,us',e,h1,h2⟩:=hr
  exact⟨u,us',e,Ae.mono hg _ _ h1,hs.rep hg hL h2⟩
 |_,_,us,.view h hs,hr=>by
  simp only[Ac,Ae] at hr⊢
  obtain⟨u,us',e,h1,h2⟩:=hr
  exact⟨u,us',e,lends_rep hg.M hL _ _ _ _ h h1,hs.rep hg hL h2⟩
def DB(F:List Nat)(H:List (Option (List D)))(o:Nat):Option (List D):=if o∈F then(H[o]?).join else none
theorem wi_frz{E:Ent}{g:Gh}{σ:St}{w:World}(F:List Nat)(hw:WI E g σ w):∃g',g.le g'/\WI E g' ⟨GH F σ.H,σ.own⟩ w/\∀{env env':List D} {us:List Value},Fz (DB F σ.H) env env'->Ac g env us->Ac g' env' us:=by
 classical
 let X:Nat->Prop:=fun b=>∃i∈F,∃cs,σ.H[i]?=some (some cs)/\b=g.β i
 let M':Mem:=fun b o=>if X b then w.cell? ⟨b,o,none⟩ else g.M b o
 have hXnone:∀b,X b->∀o,g.M b o=none:=by
  rintro b ⟨i,_,cs,hi,rfl⟩ o
  obtain⟨_,_,_,_,_,_,h,_⟩:=hw.rep.obj i cs hi
  exact h o
 have hle:g.M.le M':=fun b o v h=>by
  simp only[M']
  split
  ·exact hw.rep.mem b o v h
  ·exact h
 have hg:g.le { g with M:=M' }:=⟨hle,Nat.le_refl _,fun _ _=>rfl,fun _ _ _ h=>h,fun _ _=>rfl⟩
 have hXother:∀i cs,i∉F->σ.H[i]?=some (some cs)->¬X (g.β i):=by
  rintro i cs hi hH ⟨j,hj,cj,hcj,e⟩
  exact hi (by rw[hw.rep.inj i j _ _ hH hcj e];exact hj)
 have hXown:∀x∈σ.own,∀u,g.ι x.1 x.2.2.length=some u->∀b,BG u=some b->¬X b:=by
  rintro x hx u hu b hb ⟨j,hj,cj,hcj,e⟩
  exact hw.rep.ownObj x hx u hu b hb j cj hcj e.symm
 refine⟨{ g with M:=M' },hg,?_,fun hz hr=>hz.rep hg (fun o cs ho=>?_) hr⟩
 ·refine hw.update X (fun b hb=>?_) (fun b _ hb=>⟨rfl,fun o=>by simp only[M',if_neg hb]⟩) hle (Nat.le_refl _) (fun _ _=>rfl) (fun _ _=>rfl) (Nat.le_refl _) rfl rfl rfl ?_ (fun i cs hi=>hw.objs i cs (E5 F _ hi).2) hw.owns
  ·obtain⟨i,_,cs,hi,rfl⟩:=hb;exact hw.objs i cs hi
  ·refine⟨by rw[killH_length];exact hw.rep.n,fun b o v hm=>?_,fun i cs hi=>?_,fun i j c1 c2 hi hj=>hw.rep.inj i j _ _ (E5 F _ hi).2 (E5 F _ hj).2,fun k sz xs hx=>?_,hw.rep.tags,hw.rep.sep,fun x hx u hu b hb i cs hi=>hw.rep.ownObj x hx u hu b hb i cs (E5 F _ hi).2,hw.rep.fresh,hw.rep.gl.mono hle,hw.rep.gw⟩
   ·simp only[M'] at hm
    split at hm
    ·exact hm
    ·exact hw.rep.mem b o v hm
   ·obtain⟨h1,h2⟩:=E5 F _ hi
    obtain⟨us,rest,e,h3,h4,h5,h6,h7⟩:=hw.rep.obj i cs h2
    exact⟨us,rest,e,h3,Ac.mono hg _ _ h4,h5,fun o=>by simp only[M',if_neg (hXother i cs h1 h2)];exact h6 o,h7⟩
   ·obtain⟨h0,u,hu,h3,h4,h5⟩:=hw.rep.own k sz xs hx
    exact⟨h0,u,hu,h3.mono hle,h4.kept fun b hb=>⟨rfl,fun o=>by simp only[M',if_neg (hXown _ hx u hu b hb)]⟩,h5⟩
 ·simp only[DB] at ho
  split at ho
  ·rename_i hF
   have ho':σ.H[o]?=some (some cs):=by
    cases h:σ.H[o]? with
    |none=>simp[h] at ho
    |some c=>simp[h] at ho;rw[ho]
   obtain⟨us,rest,e,hb,hr,_⟩:=hw.rep.obj o cs ho'
   refine⟨us,hr,fun j v hj=>?_⟩
   simp only[M',if_pos (show X (g.β o) from⟨o,hF,cs,ho',rfl⟩),World.cell?,hb,Nat.zero_add,getElem?_toArray]
   exact DM hj
  ·simp at ho
theorem cv_frz{env env':List D}{σ:St}(F:List Nat)(hz:Fz (DB F σ.H) env env'):Cv env σ env' ⟨GH F σ.H,σ.own⟩:=fun E g a w hf=>by
 obtain⟨g',_,hw',hr⟩:=wi_frz F hf.wi
 exact⟨g',hw',hr hz hf.env,hf.defers⟩
section
variable {P : Program} {o : Oper} {σ : St} {d : D}
theorem GF{t:TypeId}{len:Nat}{parts:Array (Nat×Operand)}(ho:o.op=.buildSlice t len parts)(hp:parts.toList=((parts.toList.map (·.2)).zipIdx 0).map fun x=>(x.2,x.1))(hlen:parts.size=len)
  {e:TypeId} {sz by':Nat} {z:Option Value} (hs:BJ P t=some (e,sz,by',z)) (hz:z.isSome=true) {ds:List D} {xs:List V} (hx:Eh ds=some xs) (hsz:∀x∈xs,x.size=sz) (h0:0<len) (h1:0<sz) (h2:len*sz<=1000)
  (k:Nat) (hk:∀x∈σ.own,x.1≠k):Ai P o ds σ (.acc k xs) ⟨σ.H,(k,sz,xs)::σ.own⟩:=by
 intro E g a w K Q hw hds hK
 simp only[ho,Op.operands] at hds
 obtain⟨i,hu,hi,rfl,rfl,rfl⟩:=A6 hs
 obtain⟨zz,hzz⟩:=Option.isSome_iff_exists.1 hz
 have hlm:(parts.toList.map fun p=>a.eval p.2).length=len:=by simp[hlen]
 have hds':Ac g ds (parts.toList.map fun p=>a.eval p.2):=by simpa[Function.comp_def] using hds
 obtain⟨hr,hcs⟩:=GY hx hds' hsz
 have hxl:xs.length=len:=by rw[EV hx, ←Ay hds',hlm]
 have hpos:0<len*i.size:=Nat.mul_pos h0 h1
 have hf:=fill_all i.size (parts.toList.map fun p=>a.eval p.2) 0 [] ((Array.range (len*i.size)).map (zz.cells[· %zz.cells.size]!)).toList (by simp) hcs (by simp[hlen])
 have hpp:((parts.toList.map fun p=>a.eval p.2).zipIdx 0).map (fun x=>(x.2,x.1))=parts.toList.map fun p=>(p.1,a.eval p.2):=by
  have e1:(parts.toList.map fun p=>a.eval p.2)=(parts.toList.map (·.2)).map a.eval:=by simp
  rw[e1,List.zipIdx_map,map_map]
  conv=>rhs;rw[hp,map_map]
  rfl
 rw[hpp] at hf
 simp only[nil_append,Array.toArray_toList] at hf
 have hrun:=run_buildSlice (P:=P) w t e len (parts.map fun p=>(p.1,a.eval p.2)) _ i zz hu hi hzz (by omega) (by omega) (by simpa using hf)
 generalize hus:(parts.toList.map fun p=>a.eval p.2).flatMap (·.cells.toList)=us at hr hrun
 obtain⟨hw1,hle1⟩:=hw.newImm us [] e
 rw[append_nil] at hw1
 have hul:us.length=len*i.size:=by rw[B8 hr,hxl]
 have hrep:repV (addM g.M w.heap.size us) (.list xs) (.slice (some ⟨w.heap.size,0,none⟩) len len):=by
  have:=Ct (cap:=len) h1 (addM_in g.M w.heap.size us) (repE.mono hle1.M _ _ _ hr) (by omega)
  rwa[hxl] at this
 have hperm:Perm (addM g.M w.heap.size us) (w.alloc (.cells us.toArray e)) i.size (.slice (some ⟨w.heap.size,0,none⟩) len len):=
  .inr ⟨w.heap.size,0,len,len,us.toArray,e,rfl,heap_alloc_new w _,Nat.le_refl _,by simp[hul],fun o ho'=>by simp only[addM,if_true];exact getElem?_eq_none (by omega),hw.rep.gw.new (Nat.le_refl _)⟩
 have hb:∀b,BG (.slice (some ⟨w.heap.size,0,none⟩) len len)=some b->b=w.heap.size:=fun b hb=>by
  simp only[BG] at hb
  split at hb
  ·simp at hb
  ·simpa using hb.symm
 obtain⟨hw',hle⟩:=hw1.addOwn (k:=k) (sz:=i.size) (xs:=xs) hk ⟨h1,hsz⟩ hrep hperm (fun b hb'=>by
  rw[hb b hb']
  exact⟨hw.size,fun j cs hj=>Nat.ne_of_lt (hw.rep.obj_lt hj),fun x hx' u' hu' hb2=>by have:=hw.rep.own_lt hx' hu' hb2;omega⟩)
 have:=hK _ _ (.slice (some ⟨w.heap.size,0,none⟩) len len) hw' (Gh.le_trans hle1 hle) (by
  simp only[Ae]
  exact⟨hrep,by simp⟩)
 unfold Oper.wp execOp
 simp only[ho]
 simp only[Sem.run_bind]
 rw[show(parts.map fun(x:Nat×Operand)=>match x with|(i,x)=>(i,a.eval x))=parts.map fun p=>(p.1,a.eval p.2) from rfl,hrun]
 exact this
end
theorem Perm.drop{M:Mem}{w:World}{sz:Nat}{a:Option Addr}{len cap:Nat}(h:Perm M w sz (.slice a len cap)){l:Nat}(hl:l<=len):Perm M w sz (.slice (if cap=l then a else a.map (·.add (l*sz))) (len-l) (cap-l)):=by
 rcases h with⟨a',e⟩|⟨b,f,len',cap',cur,e',e,hh,hlc,hc,hM⟩
 ·simp only[Value.slice.injEq] at e
  obtain⟨rfl,rfl,rfl⟩:=e
  obtain rfl:l=0:=by omega
  exact .inl ⟨_,by simp;rfl⟩
 ·simp only[Value.slice.injEq] at e
  obtain⟨rfl,rfl,rfl⟩:=e
  by_cases hcl:cap=l
  ·subst hcl
   obtain rfl:len=cap:=by omega
   exact .inl ⟨some ⟨b,f,none⟩,by simp⟩
  ·rw[if_neg hcl]
   refine .inr ⟨b,f+l*sz,len-l,cap-l,cur,e',by simp[Addr.add_lit],hh,by omega,?_,fun o ho=>hM o ?_,hM.ng⟩
   ·have:l*sz+(cap-l)*sz=cap*sz:=by rw[←Nat.add_mul];congr 1;omega
    omega
   ·have:l*sz+(len-l)*sz=len*sz:=by rw[←Nat.add_mul];congr 1;omega
    omega
section
variable {C : Ent -> Ent -> Prop} {P : Program} {R : List D -> St -> Prop} {c : Code} {p : List Nat} {κ : List KI} {env env1 env' : List D} {σ σ' : St} {i : Nat} {o : Oper} {d : D}
end
theorem WI.trans{E:Ent}{g g':Gh}{σ σ':St}{w w1 w':World}(h:WI E g σ w)(hk:∀b,b<E.w.heap.size->¬E.priv b->w1.heap[b]?=w.heap[b]?)(hsz:w.heap.size<=w1.heap.size)(hos:w1.os=w.os)(htp:w1.tape=w.tape)(hou:w1.output=w.output)
  (h':WI ⟨g,w1,σ⟩ g' σ' w') (hdr:B3 w.drawn w1.drawn:=by first|exact B3.refl _|exact B3.succ _|assumption):WI E g' σ' w' where
 rep:=h'.rep
 M:=Mem.le_trans h.M h'.M
 size:=Nat.le_trans h.size (Nat.le_trans hsz h'.size)
 keep:=fun b hb hp=>by
  have hnp:¬Ent.priv ⟨g,w1,σ⟩ b:=by
   rintro (⟨i,cs,hi,e⟩|⟨x,hx,u,hu,hb'⟩)
   ·have e':b=g.β i:=e
    rw[e'] at hb hp
    rcases h.objs i cs hi with h1|h1
    ·omega
    ·exact hp h1
   ·rcases h.owns x hx u hu b hb' with h1|h1
    ·omega
    ·exact hp h1
  have hlt:b<w1.heap.size:=by have:=h.size;omega
  obtain⟨h1,h2⟩:=h'.keep b hlt hnp
  obtain⟨h3,h4⟩:=h.keep b hb hp
  exact⟨h1.trans ((hk b hb hp).trans h3),fun o=>(h2 o).trans (h4 o)⟩
 os:=h'.os.trans (hos.trans h.os)
 tape:=h'.tape.trans (htp.trans h.tape)
 output:=h'.output.trans (hou.trans h.output)
 drawn:=h.drawn.trans (hdr.trans h'.drawn)
 nE:=Nat.le_trans h.nE h'.nE
 βE:=fun o ho=>(h'.βE o (Nat.lt_of_lt_of_le ho h.nE)).trans (h.βE o ho)
 κE:=fun o ho=>(h'.κE o (Nat.lt_of_lt_of_le ho h.nE)).trans (h.κE o ho)
 objs:=fun i cs hi=>by
  rcases h'.objs i cs hi with h1|h1
  ·left;have:=h.size;simp only at h1;omega
  ·rcases h1 with⟨j,cj,hj,e⟩|⟨x,hx,u,hu,hb⟩
   ·rw[e];exact h.objs j cj hj
   ·exact h.owns x hx u hu _ hb
 owns:=fun x hx u hu b hb=>by
  rcases h'.owns x hx u hu b hb with h1|h1
  ·left;have:=h.size;simp only at h1;omega
  ·rcases h1 with⟨j,cj,hj,e⟩|⟨y,hy,u',hu',hb'⟩
   ·rw[e];exact h.objs j cj hj
   ·exact h.owns y hy u' hu' b hb'
structure SideIs(r:Nat)(o:Obj)(E:Ent):Prop where
 at_:E.w.heap[r]?=some o
 priv:¬E.priv r
 mem:∀x,E.g.M r x=none
theorem SideIs.now{r:Nat}{o:Obj}{E:Ent}{g:Gh}{σ:St}{w:World}(h:SideIs r o E)(hw:WI E g σ w):w.heap[r]?=some o/\(∀x,g.M r x=none)/\(∀i cs,σ.H[i]?=some (some cs)->g.β i≠r)/\(∀x∈σ.own,∀u,g.ι x.1 x.2.2.length=some u->BG u≠some r):=by
 have hlt:r<E.w.heap.size:=(Array.getElem?_eq_some_iff.1 h.at_).1
 obtain⟨h1,h2⟩:=hw.keep r hlt h.priv
 refine⟨h1.trans h.at_,fun x=>(h2 x).trans (h.mem x),fun i cs hi e=>?_,fun x hx u hu hb=>?_⟩
 ·rcases hw.objs i cs hi with h3|h3
  ·omega
  ·rw[e] at h3;exact h.priv h3
 ·rcases hw.owns x hx u hu r hb with h3|h3
  ·omega
  ·exact h.priv h3
theorem WRep.side{g:Gh}{σ:St}{w:World}(h:WRep g σ w){r:Nat}(hM:∀x,g.M r x=none)(hobj:∀i cs,σ.H[i]?=some (some cs)->g.β i≠r)(hown:∀x∈σ.own,∀u,g.ι x.1 x.2.2.length=some u->BG u≠some r)
  {w':World} (hk:∀b,b≠r->w'.heap[b]?=w.heap[b]?):WRep g σ w' where
 n:=h.n
 gl:=h.gl
 gw:=h.gw.keepG fun p hp _=>hk p.1 fun e=>by
  obtain⟨v,hv⟩:=h.gl.sized p hp
  rw[e,hM 0] at hv;simp at hv
 mem:=fun b o v hm=>by
  have hne:b≠r:=fun e=>by subst e;rw[hM o] at hm;simp at hm
  have:=h.mem b o v hm
  simp only[World.cell?] at this⊢
  rw[hk b hne];exact this
 obj:=fun i cs hi=>by
  obtain⟨us,rest,e,h1,h2⟩:=h.obj i cs hi
  exact⟨us,rest,e,by rw[hk _ (hobj i cs hi)];exact h1,h2⟩
 inj:=h.inj
 own:=fun k sz xs hx=>by
  obtain⟨h0,u,hu,h1,h2,h3⟩:=h.own k sz xs hx
  exact⟨h0,u,hu,h1,h2.kept fun b hb=>⟨hk b (fun e=>hown _ hx u hu (by rw[←e];exact hb)),fun _=>rfl⟩,h3⟩
 tags:=h.tags
 sep:=h.sep
 ownObj:=h.ownObj
 fresh:=h.fresh
structure SideC(r:Nat)(o:Obj)(E0 E:Ent):Prop where
 side:SideIs r o E
 new:E0.w.heap.size<=r
 link:∀(g:Gh) (σ:St) (w:World),WI E g σ w->WI E0 g σ w
section
variable {C : Ent -> Ent -> Prop} {P : Program} {R : List D -> St -> Prop} {c : Code} {p : List Nat} {k : List KI} {env env' : List D} {σ σ' : St} {i : Nat} {o : Oper} {d : D}
theorem SideC.of{E0:Ent}{g:Gh}{w w1:World}{r:Nat}{ob:Obj}(hw:WI E0 g σ w)(hk:∀b,b≠r->w1.heap[b]?=w.heap[b]?)(hr:w1.heap[r]?=some ob)(hsz:w.heap.size<=w1.heap.size)(hos:w1.os=w.os)(htp:w1.tape=w.tape)(hou:w1.output=w.output)(hEr:E0.w.heap.size<=r)
  (hM:∀x,g.M r x=none) (hobj:∀i cs,σ.H[i]?=some (some cs)->g.β i≠r) (hown:∀x∈σ.own,∀u,g.ι x.1 x.2.2.length=some u->BG u≠some r) (hdr:B3 w.drawn w1.drawn:=by first|exact B3.refl _|exact B3.succ _|assumption):
  SideC r ob E0 ⟨g,w1,σ⟩/\WI ⟨g,w1,σ⟩ g σ w1:=by
 refine⟨⟨⟨hr,?_,hM⟩,hEr,fun g' σ' w' h'=>hw.trans (fun b hb _=>hk b (by omega)) hsz hos htp hou h'⟩,WI.start (hw.rep.side hM hobj hown hk)⟩
 rintro (⟨i,cs,hi,e⟩|⟨x,hx,u,hu,hb⟩)
 ·exact hobj i cs hi e.symm
 ·exact hown x hx u hu hb
end
def EJ:Nat->List (List UInt8)->List MapEntry
 |_,[]=>[]
 |n,s::l=>⟨.string ⟨s.toArray⟩,.bool true,n⟩::EJ (n+1) l
def C2(l:List (List UInt8)):Obj:=.map (EJ 0 l).toArray l.length
theorem bytes_beq(a b:List UInt8):((⟨a.toArray⟩:ByteArray)==⟨b.toArray⟩)=(a==b):=by
 have:((⟨a.toArray⟩:ByteArray)==⟨b.toArray⟩)=(a.toArray==b.toArray):=rfl
 rw[this];simp
theorem find_set(s:List UInt8):∀(l:List (List UInt8)) (n m:Nat),∃q,Instr.findNow .string (.string ⟨s.toArray⟩) (EJ n l) m=some (if l.contains s then some (q,.bool true) else none)
 |[],n,m=>⟨0,by simp[EJ,Instr.findNow]⟩
 |x::l,n,m=>by
  obtain⟨q,hq⟩:=find_set s l (n+1) (m+1)
  simp only[EJ,Instr.findNow,Instr.sameNow,bytes_beq,List.contains_cons]
  by_cases h:s=x
  ·subst h;exact⟨m,by simp⟩
  ·have hb:(s==x)=false:=by simpa using h
   simp only[hb,Bool.false_or]
   exact⟨q,hq⟩
theorem entsAt_snoc:∀(l:List (List UInt8)) (n:Nat) (s:List UInt8),EJ n (l++[s])=EJ n l++[⟨.string ⟨s.toArray⟩,.bool true,n+l.length⟩]
 |[],n,s=>by simp[EJ]
 |x::l,n,s=>by simp only[cons_append,EJ,entsAt_snoc l (n+1) s,length_cons,Nat.add_assoc,Nat.add_comm 1]
section
variable {C : Ent -> Ent -> Prop} {P : Program} {R : List D -> St -> Prop} {c : Code} {p : List Nat} {k : List KI} {env env' : List D} {σ σ' : St} {i : Nat} {o : Oper} {d : D}
end
section
variable {P : Program} {o : Oper} {σ : St} {d : D}
theorem copy_core{E:Ent}{g:Gh}{w:World}(hw:WI E g σ w){t ty e:TypeId}{by':Nat}{z:Option Value}(hs:BJ P t=some (e,1,by',z)){q:Nat}{cs:List D}(hq:σ.H[q]?=some (some cs)){off len cap sLen sCap:Nat}{a:Addr}{ds:List D}{vs:List Value}
  (hvs:Ac g ds vs) (h1:∀d∈ds,d.one=true) (hn:ds.length=Nat.min sLen len) (hsrc:∀j v,vs[j]?=some v->w.cell? (a.add j)=some v) (hfit:off+ds.length<=cs.length):
  ∃w',(Builtin.copy_ #[t,t] ty #[.slice (some ⟨g.β q,off,none⟩) len cap,.slice (some a) sLen sCap]).run P w=.ok (goInt ds.length) w'/\WI E g ⟨σ.H.set q (some (cs.take off++ds++cs.drop (off+ds.length))),σ.own⟩ w':=by
 obtain⟨i,hu,hi,hsz,_⟩:=A6 hs
 obtain⟨us,rest,et,hb,hr,hone,hM,hκ⟩:=hw.rep.obj q cs hq
 have hul:=Ay hr
 have hvl:=Ay hvs
 have hrun:=run_copy_row (P:=P) w t t ty e (g.β q) off len cap a sLen sCap (us++rest).toArray et vs hu (by simp[hi,hsz]) hb (by rw[hvl,hn]) hsrc (by simp;omega) (Ck h1 hvs)
 rw[hvl] at hrun
 refine⟨_,hrun,?_⟩
 have e1:(us++rest).toArray.toList.take off++vs++(us++rest).toArray.toList.drop (off+ds.length)=(us.take off++vs++us.drop (off+ds.length))++rest:=by
  simp only[append_assoc]
  rw[List.take_append_of_le_length (by omega),List.drop_append_of_le_length (by omega)]
 rw[e1]
 refine hw.setObj hq (us:=us.take off++vs++us.drop (off+ds.length)) (rest:=rest) (setRow_heap w (g.β q) _ _ et _ hb) ?_ (Aq (Aq (BD hr _) hvs) (BP hr _)) ?_ (fun b hb'=>setRow_other w _ _ _ hb') (by simp) rfl rfl rfl
 ·rw[←hκ];simp;omega
 ·intro c hc
  rcases mem_append.1 hc with hc|hc
  ·rcases mem_append.1 hc with hc|hc
   ·exact hone c (mem_of_mem_take hc)
   ·exact h1 c hc
  ·exact hone c (mem_of_mem_drop hc)
theorem repE_ds{g:Gh}:∀{xs:List V} {us:List Value},(∀x∈xs,x.isAgg=false)->repE g.M 1 xs us->Ac g (xs.map .v) us
 |[],us,_,h=>by simpa[repE,Ac] using h
 |x::xs,us,hx,h=>by
  simp only[repE] at h
  obtain⟨ws,us',rfl,hl,h1,h2⟩:=h
  obtain⟨u,rfl,_⟩:=Cl (hx x (by simp)) h1
  simp only[map_cons,Ac,Ae]
  exact⟨u,us',rfl,(AZ (hx x (by simp))).2 h1,repE_ds (fun y hy=>hx y (by simp[hy])) h2⟩
theorem op_copyL{x y:Operand}{t:TypeId}(ho:o.op=.call { callee:=.builtin .copy,args:= #[x,y],argTypes:= #[t,t]}){e:TypeId}{by':Nat}{z:Option Value}(hs:BJ P t=some (e,1,by',z)){q off len k:Nat}{cs:List D}(hq:σ.H[q]?=some (some cs)){xs:List V}
  (hx:∀x∈xs,x.size=1/\x.isAgg=false) (hk:k=Nat.min xs.length len) (h0:0<k) (hfit:off+k<=cs.length):
  Ai P o [.arr q off len,.v (.list xs)] σ (.v (.int .i64 (k:Int))) ⟨σ.H.set q (some (cs.take off++(xs.take k).map .v++cs.drop (off+k))),σ.own⟩:=by
 intro E g a w K Q hw hds hK
 simp only[ho,Op.operands,Call.operands] at hds
 obtain⟨u,v,eq,h1,h2⟩:=Ap.1 (by simpa using hds)
 simp only[List.cons.injEq,and_true] at eq
 simp only[Ae] at h1 h2
 obtain⟨_,cap,_,rfl⟩:=h1
 obtain⟨a2,c2,rfl,hc2,hor⟩:=BC h2 (fun x hx'=>(hx x hx').1) (by decide)
 have hkx:k<=xs.length:=by rw[hk];exact Nat.min_le_left _ _
 rcases hor with rfl|⟨b2,off2,us2,rfl,hin,hE⟩
 ·simp at hkx;omega
 have hd2:=BD (repE_ds (fun x hx'=>(hx x hx').2) hE) k
 rw[←List.map_take] at hd2
 have hlen:((xs.take k).map D.v).length=k:=by simp;omega
 obtain⟨w',hrun,hw'⟩:=copy_core (P:=P) (ty:=o.type) hw hs hq (off:=off) (len:=len) (cap:=cap) (a:=⟨b2,off2,none⟩) (sLen:=xs.length) (sCap:=c2) hd2 (fun d hd=>by
   obtain⟨x,hx',rfl⟩:=mem_map.1 hd
   have:=(hx x (mem_of_mem_take hx')).2
   simp[D.one,this]) (by rw[hlen,hk]) (fun j v hj=>DA hw hin j v (by rw[getElem?_take] at hj;split at hj;exact hj;simp at hj)) (by rw[hlen];exact hfit)
 rw[hlen] at hrun hw'
 have:=hK g w' (goInt k) hw' g.le_refl (by simp[Ae,A1,goInt])
 unfold Oper.wp execOp
 simp only[ho,resolve,invoke,builtin,Sem.run_bind,Sem.run_pure,Result.andThen_ok]
 rw[show(#[x,y]:Array Operand).map a.eval= #[.slice (some ⟨g.β q,off,none⟩) len cap,.slice (some ⟨b2,off2,none⟩) xs.length c2] from by simp[eq.1,eq.2],hrun]
 exact this
theorem op_copyA{x y:Operand}{t:TypeId}(ho:o.op=.call { callee:=.builtin .copy,args:= #[x,y],argTypes:= #[t,t]}){e:TypeId}{by':Nat}{z:Option Value}(hs:BJ P t=some (e,1,by',z)){q off len off2 len2 k:Nat}{cs:List D}(hq:σ.H[q]?=some (some cs))
  (hk:k=Nat.min len2 len) (hfit:off+k<=cs.length) (hfit2:off2+k<=cs.length):
  Ai P o [.arr q off len,.arr q off2 len2] σ (.v (.int .i64 (k:Int))) ⟨σ.H.set q (some (cs.take off++(cs.drop off2).take k++cs.drop (off+k))),σ.own⟩:=by
 intro E g a w K Q hw hds hK
 simp only[ho,Op.operands,Call.operands] at hds
 obtain⟨u,v,eq,h1,h2⟩:=Ap.1 (by simpa using hds)
 simp only[List.cons.injEq,and_true] at eq
 simp only[Ae] at h1 h2
 obtain⟨_,cap,_,rfl⟩:=h1
 obtain⟨_,c2,_,rfl⟩:=h2
 obtain⟨us,rest,et,hb,hr,hone,hM,hκ⟩:=hw.rep.obj q cs hq
 have hlen:((cs.drop off2).take k).length=k:=by simp;omega
 have hul:=Ay hr
 obtain⟨w',hrun,hw'⟩:=copy_core (P:=P) (ty:=o.type) hw hs hq (off:=off) (len:=len) (cap:=cap) (a:=⟨g.β q,off2,none⟩) (sLen:=len2) (sCap:=c2) (BD (BP hr off2) k) (fun d hd=>hone d (mem_of_mem_drop (mem_of_mem_take hd))) (by rw[hlen,hk]) (fun j v hj=>by
   rw[getElem?_take] at hj
   split at hj
   ·rw[getElem?_drop] at hj
    rw[Addr.add_lit]
    simp only[World.cell?,hb]
    have hlt:=(List.getElem?_eq_some_iff.1 hj).1
    simp[getElem?_append_left hlt,hj]
   ·simp at hj) (by rw[hlen];exact hfit)
 rw[hlen] at hrun hw'
 have:=hK g w' (goInt k) hw' g.le_refl (by simp[Ae,A1,goInt])
 unfold Oper.wp execOp
 simp only[ho,resolve,invoke,builtin,Sem.run_bind,Sem.run_pure,Result.andThen_ok]
 rw[show(#[x,y]:Array Operand).map a.eval= #[.slice (some ⟨g.β q,off,none⟩) len cap,.slice (some ⟨g.β q,off2,none⟩) len2 c2] from by simp[eq.1,eq.2],hrun]
 exact this
theorem op_sliceArr{t:TypeId}{x:Operand}{lo hi:Option Operand}(ho:o.op=.slice t x lo hi none){e:TypeId}{by':Nat}{z:Option Value}(hs:BJ P t=some (e,1,by',z)){q off len:Nat}
  (l h:Option (IntKind×Int)) (hlo:lo.isSome=l.isSome) (hhi:hi.isSome=h.isSome) {l' h':Nat} (hb:BI len (l.map (·.2)) (h.map (·.2))=some (l',h')) (hlt:l'<len):
  Ai P o (.arr q off len::(Ed l++Ed h)) σ (.arr q (off+l') (h'-l')) σ:=by
 refine Ax fun E g ρ w hw hds=>?_
 obtain⟨i,hu,hi',hsz,_,_⟩:=A6 hs
 have hb2:=hb
 unfold BI at hb2
 simp only at hb2
 split at hb2
 case isFalse=>simp at hb2
 rename_i hcond
 simp only[Option.some.injEq,Prod.mk.injEq] at hb2
 have main:∀u (lv hv:Option Value),ρ x=u->lv=l.map (fun p=>Value.int p.1 p.2)->hv=h.map (fun p=>Value.int p.1 p.2)->lo.map ρ=lv->hi.map ρ=hv->Ae g (.arr q off len) u->
   ∃u,(execOp ρ o).run P w=.ok (.value u) w/\Ae g (.arr q (off+l') (h'-l')) u:=by
  intro u lv hv eu el eh e1 e2 hr
  simp only[Ae] at hr⊢
  obtain⟨hq,cap,hc,rfl⟩:=hr
  refine⟨.slice (some ⟨g.β q,off+l',none⟩) (h'-l') (cap-l'),?_,hq,cap-l',by omega,rfl⟩
  have hbr:=D4 (P:=P) w true len cap hc l h hb
  simp only[execOp,ho,eu,e1,e2,el,eh,Option.map_none,Instr.sliceAt,Instr.slice,Sem.run_bind,run_underlying hu,Result.andThen_ok,hbr]
  simp[sizeOf,typeInfo,hi',hsz,show ¬cap=l' by omega,Addr.add_lit]
 simp only[ho,Op.operands] at hds
 cases lo with
 |none=>
  cases l with
  |some _=>simp at hlo
  |none=>
   cases hi with
   |none=>
    cases h with
    |some _=>simp at hhi
    |none=>
     obtain⟨u,eu,h1⟩:=A0.1 (by simpa[Ed] using hds)
     simp at eu
     exact main u none none eu rfl rfl rfl rfl h1
   |some ho'=>
    cases h with
    |none=>simp at hhi
    |some p=>
     obtain⟨u,v,eu,h1,h2⟩:=Ap.1 (by simpa[Ed] using hds)
     simp only[List.cons.injEq,and_true] at eu
     simp only[Ae,A1] at h2
     exact main u none _ eu.1 rfl (by simp;rfl) rfl (by simp[eu.2,h2]) h1
 |some lo'=>
  cases l with
  |none=>simp at hlo
  |some lq=>
   cases hi with
   |none=>
    cases h with
    |some _=>simp at hhi
    |none=>
     obtain⟨u,v,eu,h1,h2⟩:=Ap.1 (by simpa[Ed] using hds)
     simp only[List.cons.injEq,and_true] at eu
     simp only[Ae,A1] at h2
     exact main u _ none eu.1 (by simp;rfl) rfl (by simp[eu.2,h2]) rfl h1
   |some ho'=>
    cases h with
    |none=>simp at hhi
    |some p=>
     obtain⟨u,v,v2,eu,h1,h2,h3⟩:=DQ.1 (by simpa[Ed] using hds)
     simp only[List.cons.injEq,and_true] at eu
     simp only[Ae,A1] at h2 h3
     exact main u _ _ eu.1 (by simp;rfl) (by simp;rfl) (by simp[eu.2.1,h2]) (by simp[eu.2.2,h3]) h1
theorem res_okA{fn:Func}{env:List D}{σ':St}{q off len:Nat}(hr:GS P env σ fn.results.toList [.arr q off len])(m:Nat)(hH:σ'.H=σ.H.take m)(hm:m<=σ.H.length)(hc:∀(i:Nat) (cs:List D),σ'.H[i]?=some (some cs)->D.pls cs=true)
  (hown:σ'.own.Sublist σ.own) (hq:q<m):A8 P fn env σ (.arr q off len) σ':=by
 intro E g a w hf hE
 obtain⟨us,h1,h2⟩:=hr.run hf
 obtain⟨u,rfl,h3⟩:=A0.1 h2
 have hml:σ'.H.length=m:=by rw[hH];simp;omega
 have hrun:(results fn a.tmps).run P w=.ok u w:=by
  rw[results_eq,Array.mapM_eq_mapM_toList]
  simp[Sem.run_map,h1,Result.andThen_ok]
 refine⟨_,_,hrun,hf.wi.restrict hH hm (by omega) hc hown,?_⟩
 simp only[Ae] at h3⊢
 exact⟨hq,h3.2⟩
theorem CB{c:Call}{fo:Operand}(ho:o.op=.call c)(hc:c.callee=.value fo){f:FuncId}{fs cs:List V}{ds:List D}(hp:D.pls ds=true){os:List D}(hos:D.pls os=true){len:Nat}
  (hspec:Ab P f (fs.map .v++ds++cs.map .v) ⟨[],[]⟩ (.arr 0 0 len) ⟨[some os],[]⟩):Ai P o (.v (.fn f fs cs)::ds) σ (.arr σ.H.length 0 len) ⟨σ.H++[some os],σ.own⟩:=by
 intro E g a w K Q hw hds hK
 obtain⟨us,vs,ws,hf,hargs,h1,h2,h3⟩:=CX ho hc hds
 refine EU (_E:=E) (_g:=g) ho hc hspec.1 hf hargs ?_
 have hargs':Ac { M:=g.M,β:=g.β,n:=0,ι:=fun _ _=>none,κ:=g.κ } (fs.map .v++ds++cs.map .v) (us++ws++vs):=
  AU (by rfl) (by simp[CU,BB,hp]) (Aq (Aq h1 h3) h2)
 refine Calls.mono (hspec.2 _ w _ hw.rep.empty hargs') ?_
 rintro e w' ⟨u,g',rfl,hw',hr⟩
 obtain⟨h4,h5⟩:=hw.back0 (by rfl) hw'
 simp only[Ae] at hr
 obtain⟨vs',rest',e',hb,hrv,hone,hMn,_⟩:=hw'.rep.obj 0 os (by simp)
 have hge:w.heap.size<=g'.β 0:=by
  rcases hw'.objs 0 os (by simp) with h|h
  ·exact h
  ·exact absurd h FC
 obtain⟨h6,h7⟩:=h4.addObj (b:=g'.β 0) (us:=vs') (rest:=rest') (e:=e') (cs:=os) hb (.inl (Nat.le_trans hw.size hge)) hMn
  (fun i cs hi=>by have:=hw.rep.obj_lt hi;simp only;omega) (fun x hx v hv hvb=>by have:=hw.rep.own_lt hx hv hvb;omega) (AU (by rfl) hos hrv) hone
 refine⟨u,rfl,hK _ _ _ h6 (Gh.le_trans h5 h7) ?_⟩
 simp only[Ae]
 obtain⟨_,cap,hcap,rfl⟩:=hr
 exact⟨by rw[hw.rep.n];omega,cap,hcap,by rw[hw.rep.n];simp⟩
theorem Er{f:FuncId}{first captured:Array Operand}(ho:o.op=.makeFunc (.func f) first captured)(hl:first.size=0){cs:List D}:Ai P o cs σ (.dfn f [] cs) σ:=by
 refine Ax fun E g ρ w hw hds=>?_
 have h0:first= #[]:=Array.eq_empty_of_size_eq_zero hl
 subst h0
 simp only[ho,Op.operands] at hds
 refine⟨.func (.func f) #[] (captured.map ρ),?_,?_⟩
 ·simp[execOp,ho,Instr.makeFunc]
 ·simp only[Ae]
  exact⟨[],captured.toList.map ρ,by congr 1;apply Array.ext';simp,by simp[Ac],by simpa using hds⟩
end
mutual
inductive VS:V->V->Prop
 |refl (x:V):VS x x
 |nils:VS .nils (.list [])
 |agg {cs ds:List V} (h:VSL cs ds):VS (.agg cs) (.agg ds)
 |list {cs ds:List V} (h:VSL cs ds):VS (.list cs) (.list ds)
 |ref {x y:V} (h:VS x y):VS (.ref x) (.ref y)
inductive VSL:List V->List V->Prop
 |nil:VSL [] []
 |cons {x y:V} {xs ys:List V} (h:VS x y) (hs:VSL xs ys):VSL (x::xs) (y::ys)
end
theorem VS.isAgg{x y:V}(h:VS x y):y.isAgg=x.isAgg:=by cases h<;>rfl
theorem VSL.length:∀{xs ys:List V},VSL xs ys->ys.length=xs.length
 |_,_,.nil=>rfl
 |_,_,.cons _ hs=>by simp[hs.length]
theorem VSL.refl:∀xs:List V,VSL xs xs
 |[]=>.nil
 |x::xs=>.cons (.refl x) (VSL.refl xs)
mutual
theorem VS.repC{M:Mem}:∀{x y:V},VS x y->∀{ws:List Value},repC M x ws->Dv.repC M y ws
 |_,_,.refl _,_,h=>h
 |_,_,.nils,ws,h=>by
  simp only[Dv.repC] at h⊢
  subst h
  exact⟨none,0,rfl,Nat.le_refl _,.inl trivial⟩
 |_,_,.agg h,_,hr=>by simp only[Dv.repC] at hr⊢;exact h.repA hr
 |_,_,.list h,_,hr=>by
  simp only[Dv.repC] at hr⊢
  obtain⟨a,cap,e,hc,hor⟩:=hr
  rw[h.length]
  refine⟨a,cap,e,hc,?_⟩
  rcases hor with rfl|⟨b,off,sz,us,h1,h2,h3,h4⟩
  ·left;cases h;rfl
  ·exact .inr ⟨b,off,sz,us,h1,h2,h3,h.repE h4⟩
 |_,_,.ref h,_,hr=>by
  simp only[Dv.repC] at hr⊢
  obtain⟨b,off,us,e,hi,hx⟩:=hr
  exact⟨b,off,us,e,hi,h.repC hx⟩
theorem VSL.repA{M:Mem}:∀{xs ys:List V},VSL xs ys->∀{us:List Value},Dv.repA M xs us->Dv.repA M ys us
 |_,_,.nil,_,h=>h
 |_,_,.cons h hs,_,hr=>by
  simp only[Dv.repA] at hr⊢
  obtain⟨u,us',e,ha,h1,h2⟩:=hr
  exact⟨u,us',e,by rw[h.isAgg];exact ha,h.repC h1,hs.repA h2⟩
theorem VSL.repE{M:Mem}{sz:Nat}:∀{xs ys:List V},VSL xs ys->∀{us:List Value},Dv.repE M sz xs us->Dv.repE M sz ys us
 |_,_,.nil,_,h=>h
 |_,_,.cons h hs,_,hr=>by
  simp only[Dv.repE] at hr⊢
  obtain⟨u1,u2,e,hl,h1,h2⟩:=hr
  exact⟨u1,u2,e,hl,h.repC h1,hs.repE h2⟩
end
theorem VS.repV{M:Mem}{x y:V}(h:VS x y){u:Value}(hr:repV M x u):Dv.repV M y u:=by
 obtain⟨ws,h1,h2⟩:=hr
 refine⟨ws,h.repC h1,?_⟩
 rw[h2]
 cases h<;>rfl
inductive DS:D->D->Prop
 |same (d:D):DS d d
 |v {x y:V} (h:VS x y):DS (.v x) (.v y)
 |gro {q len sz:Nat}:DS (.gro q len sz) (.arr q 0 len)
 |acc {k:Nat} {xs:List V}:DS (.acc k xs) (.v (.list xs))
inductive DSL:List D->List D->Prop
 |nil:DSL [] []
 |cons {d e:D} {ds es:List D} (h:DS d e) (hs:DSL ds es):DSL (d::ds) (e::es)
theorem DS.rep{g:Gh}{d e:D}(h:DS d e){u:Value}(hr:Ae g d u):Ae g e u:=by
 cases h with
 |same=>exact hr
 |v h=>simp only[Ae] at hr⊢;exact h.repV hr
 |gro=>
  simp only[Ae] at hr⊢
  obtain⟨h1,cap,h2,_,h3⟩:=hr
  exact⟨h1,cap,h2,h3⟩
 |acc=>simp only[Ae] at hr⊢;exact hr.1
theorem DSL.rep{g:Gh}:∀{ds es:List D},DSL ds es->∀{us:List Value},Ac g ds us->Ac g es us
 |_,_,.nil,_,h=>h
 |_,_,.cons h hs,_,hr=>by
  simp only[Ac] at hr⊢
  obtain⟨u,us',e,h1,h2⟩:=hr
  exact⟨u,us',e,h.rep h1,hs.rep h2⟩
theorem DSL.refl:∀ds:List D,DSL ds ds
 |[]=>.nil
 |d::ds=>.cons (.same d) (DSL.refl ds)
theorem Ab.sub{P:Program}{f:FuncId}{ds es:List D}{σ σ':St}{d e:D}(h:Ab P f es σ d σ')(hs:DSL ds es)(hd:DS d e):Ab P f ds σ e σ':=by
 refine⟨h.1,fun g w args hw hargs=>Calls.mono (h.2 g w args hw (hs.rep hargs)) ?_⟩
 rintro x w' ⟨u,g',rfl,hw',hr⟩
 exact⟨u,g',rfl,hw',hd.rep hr⟩
theorem cv_sub{env env':List D}{σ:St}(h:DSL env env'):Cv env σ env' σ:=fun E g a w hf=>⟨g,hf.wi,h.rep hf.env,hf.defers⟩
section
variable {P : Program} {o : Oper} {σ : St}
theorem run_eqNil{op:BinOp}{t ty e:TypeId}{x:Operand}(ho:o.op=.binOp op t x (.const (.slice none 0 0)) ty)(hu:P.underlying t=some (.slice e))(hop:op=.eql∨op=.neq)(ρ:Operand->Value)(w:World){a:Option Addr}{len cap:Nat}(e1:ρ x=.slice a len cap)(e2:ρ (.const (.slice none 0 0))=.slice none 0 0):
  (execOp ρ o).run P w=.ok (.value (.bool (if op=.eql then a.isNone else !a.isNone))) w:=by
 have heq:(Op.equal t (.slice a len cap) (.slice none 0 0)).run P w=.ok a.isNone w:=by
  have gen:∀d,(Op.equalIn (d+1) t (.slice a len cap) (.slice none 0 0)).run P w=.ok a.isNone w:=fun d=>by
   cases a<;>simp[Op.equalIn,run_underlying hu]
  exact gen 9999
 rcases hop with rfl|rfl<;>simp[execOp,ho,e1,e2,eqGuard,binOp,heq]
theorem op_buildSlice0G{t:TypeId}{parts:Array (Nat×Operand)}(ho:o.op=.buildSlice t 0 parts)(hp:parts= #[]){e:TypeId}{sz by':Nat}{z:Option Value}(hs:BJ P t=some (e,sz,by',z)):
  Ai P o [] σ (.gro σ.H.length 0 sz) ⟨σ.H++[some []],σ.own⟩:=by
 intro E g a w K Q hw hds hK
 obtain⟨i,hu,hi,rfl,rfl,rfl⟩:=A6 hs
 subst hp
 obtain⟨g',h3,h4,h5,h6,h7⟩:=hw.newObjR (us:=[]) (rest:=[]) (cs:=[]) e (by simp[Ac]) (by simp)
 have:=hK g' _ (.slice (some ⟨w.heap.size,0,none⟩) 0 0) h3 h4 (by
  simp only[Ae]
  exact⟨by omega,0,Nat.le_refl _,by rw[h6];simp,by rw[h5]⟩)
 unfold Oper.wp execOp
 simpa[ho,Instr.buildSlice,run_underlying hu,sizeOf,typeInfo,hi,Instr.fill,newRow,Oper.upon,show Array.range 0= #[] from rfl] using this
theorem DJ{c:Call}{fo:Operand}(ho:o.op=.call c)(hc:c.callee=.value fo){f:FuncId}{fs cs:List V}{ds:List D}(hp:D.pls ds=true){Hc:List (Option (List D))}{j:Nat}{os:List D}(hj:Hc[j]?=some (some os))(hos:D.pls os=true){len:Nat}
  (hspec:Ab P f (fs.map .v++ds++cs.map .v) ⟨[],[]⟩ (.arr j 0 len) ⟨Hc,[]⟩):Ai P o (.v (.fn f fs cs)::ds) σ (.arr σ.H.length 0 len) ⟨σ.H++[some os],σ.own⟩:=by
 intro E g a w K Q hw hds hK
 obtain⟨us,vs,ws,hf,hargs,h1,h2,h3⟩:=CX ho hc hds
 refine EU (_E:=E) (_g:=g) ho hc hspec.1 hf hargs ?_
 have hargs':Ac { M:=g.M,β:=g.β,n:=0,ι:=fun _ _=>none,κ:=g.κ } (fs.map .v++ds++cs.map .v) (us++ws++vs):=
  AU (by rfl) (by simp[CU,BB,hp]) (Aq (Aq h1 h3) h2)
 refine Calls.mono (hspec.2 _ w _ hw.rep.empty hargs') ?_
 rintro e w' ⟨u,g',rfl,hw',hr⟩
 obtain⟨h4,h5⟩:=hw.back0 (by rfl) hw'
 simp only[Ae] at hr
 obtain⟨vs',rest',e',hb,hrv,hone,hMn,_⟩:=hw'.rep.obj j os hj
 have hge:w.heap.size<=g'.β j:=by
  rcases hw'.objs j os hj with h|h
  ·exact h
  ·exact absurd h FC
 obtain⟨h6,h7⟩:=h4.addObj (b:=g'.β j) (us:=vs') (rest:=rest') (e:=e') (cs:=os) hb (.inl (Nat.le_trans hw.size hge)) hMn
  (fun i cs hi=>by have:=hw.rep.obj_lt hi;simp only;omega) (fun x hx v hv hvb=>by have:=hw.rep.own_lt hx hv hvb;omega) (AU (by rfl) hos hrv) hone
 refine⟨u,rfl,hK _ _ _ h6 (Gh.le_trans h5 h7) ?_⟩
 simp only[Ae]
 obtain⟨_,cap,hcap,rfl⟩:=hr
 exact⟨by rw[hw.rep.n];omega,cap,hcap,by rw[hw.rep.n];simp⟩
end
section
variable {P : Program} {o : Oper} {σ : St}
theorem op_loadPD{t:TypeId}{a:Operand}(ho:o.op=.load t a){n:Nat}(ht:AggTy P t n){q off:Nat}{cs:List D}(hH:σ.H[q]?=some (some cs))(hn:off+n<=cs.length){ds:List D}(hd:(cs.drop off).take n=ds):Ai P o [.ptr q off] σ (.dagg ds) σ:=by
 subst hd
 refine Ax fun E g ρ w hw hds=>?_
 simp only[ho,Op.operands,A0] at hds
 obtain⟨u,e,h1⟩:=hds
 simp at e
 simp only[Ae] at h1
 obtain⟨_,rfl⟩:=h1
 obtain⟨us,rest,et,hb,hr,h1,_⟩:=hw.rep.obj q cs hH
 have hra:=BD (BP hr off) n
 have hl:us.length=cs.length:=Ay hr
 have hld:=run_loadCells_list (P:=P) w ⟨g.β q,off,none⟩ ((us.drop off).take n) (fun j v hj=>by
  rw[getElem?_take] at hj
  split at hj
  ·rw[getElem?_drop] at hj
   rw[Addr.add_lit]
   simp only[World.cell?,hb,getElem?_toArray];exact DM hj
  ·simp at hj)
 have hlen:((us.drop off).take n).length=n:=by simp;omega
 rw[hlen] at hld
 refine⟨.agg ((us.drop off).take n).toArray,?_,by simp only[Ae];exact⟨_,rfl,hra⟩⟩
 simp only[execOp,ho,e,Instr.loadAt,Instr.sureAddr,loadVar,Sem.run_bind,Sem.run_pure,Result.andThen_ok,Cs ht,run_sizeOf' ht,hld,if_true]
end
end Go.Dv
