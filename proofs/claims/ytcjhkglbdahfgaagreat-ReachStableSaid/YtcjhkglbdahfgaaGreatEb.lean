/-
  A part of the proof.
-/
import Derived.Test.YtcjhkglbdahfgaaGreatEa
namespace Go.Nv
open Go.Dv
open List (all_eq_true append_assoc append_nil cons_append drop_eq_getElem_cons drop_of_length_le drop_zero ext_getElem? flatMap_cons flatten flatten_cons foldl_cons getD_eq_getElem?_getD getElem?_append_left getElem?_append_right getElem?_drop getElem?_eq_getElem getElem?_eq_none getElem?_map getElem?_set getElem?_take getElem?_toArray length length_append length_cons length_drop length_map length_nil length_pos_iff length_set length_take map map_append map_cons map_map map_nil mem_append mem_cons mem_map mem_of_getElem? mem_of_mem_drop mem_of_mem_take mem_or_eq_of_mem_set mem_singleton nil_append not_mem_nil replicate replicate_succ set_cons_succ set_cons_zero size_toArray take take_add_one take_append_drop take_left take_of_length_le take_succ_cons zipWith)
open Go.IntKind (wrap i64 u64)
abbrev shG(g:Gh)(m:Nat)(ts:List Nat):Gh:={ g with n:=m,ι:=fun k j=>if ts.contains k then g.ι k j else none }
mutual
theorem repD_sh{g:Gh}{m:Nat}{ts:List Nat}:∀(d:D) (u:Value),d.okN m ts=true->Ae g d u->Ae (shG g m ts) d u
 |.v x,u,_,h=>by simpa only[Ae] using h
 |.acc k xs,u,hk,h=>by
  simp only[D.okN] at hk
  simp only[Ae] at h⊢
  exact⟨h.1,by rw[if_pos hk];exact h.2⟩
 |.ptr o f,u,hk,h=>by
  simp only[D.okN,decide_eq_true_eq] at hk
  simp only[Ae] at h⊢
  exact⟨hk,h.2⟩
 |.arr o f l,u,hk,h=>by
  simp only[D.okN,decide_eq_true_eq] at hk
  simp only[Ae] at h⊢
  exact⟨hk,h.2⟩
 |.gro o f l,u,hk,h=>by
  simp only[D.okN,decide_eq_true_eq] at hk
  simp only[Ae] at h⊢
  exact⟨hk,h.2⟩
 |.raw x,u,_,h=>by simpa only[Ae] using h
 |.err,u,_,h=>by simpa only[Ae] using h
 |.rv x u0,u,_,h=>by simpa only[Ae] using h
 |.dagg cs,u,hk,h=>by
  simp only[D.okN] at hk
  simp only[Ae] at h⊢
  obtain⟨us,e,h1⟩:=h
  exact⟨us,e,Dn cs us hk h1⟩
 |.dfn f fs cs,u,hk,h=>by
  simp only[D.okN,Bool.and_eq_true] at hk
  simp only[Ae] at h⊢
  obtain⟨us,vs,e,h1,h2⟩:=h
  exact⟨us,vs,e,Dn fs us hk.1 h1,Dn cs vs hk.2 h2⟩
 |.tup ds,u,hk,h=>by
  simp only[D.okN] at hk
  simp only[Ae] at h⊢
  obtain⟨us,e,h1⟩:=h
  exact⟨us,e,Dn ds us hk h1⟩
 |.undef,u,_,_=>by simp only[Ae]
theorem Dn{g:Gh}{m:Nat}{ts:List Nat}:∀(ds:List D) (us:List Value),D.okNs m ts ds=true->Ac g ds us->Ac (shG g m ts) ds us
 |[],us,_,h=>by simpa only[Ac] using h
 |d::ds,us,hk,h=>by
  simp only[D.okNs,Bool.and_eq_true] at hk
  simp only[Ac] at h⊢
  obtain⟨u,us',e,h1,h2⟩:=h
  exact⟨u,us',e,repD_sh d u hk.1 h1,Dn ds us' hk.2 h2⟩
end
theorem wi_sh{E:Ent}{g:Gh}{σ σ':St}{w:World}(hw:WI E g σ w){m:Nat}(hH:σ'.H=σ.H.take m)(hm:m<=σ.H.length)(hE:E.g.n<=m)(hc:okH m (σ'.own.map (·.1)) σ'.H=true)(hown:σ'.own.Sublist σ.own):
  WI E (shG g m (σ'.own.map (·.1))) σ' w:=by
 have get:∀(i:Nat) (cs:List D),σ'.H[i]?=some (some cs)->σ.H[i]?=some (some cs)/\i<m:=by
  intro i cs hi
  rw[hH,getElem?_take] at hi
  split at hi
  ·exact⟨hi,by assumption⟩
  ·simp at hi
 have hι:∀x∈σ'.own,(if (σ'.own.map (·.1)).contains x.1 then g.ι x.1 x.2.2.length else none)=g.ι x.1 x.2.2.length:=fun x hx=>if_pos (by rw[List.contains_iff_mem];exact mem_map.2 ⟨x,hx,rfl⟩)
 refine{ rep:=⟨?_,hw.rep.mem,fun i cs hi=>?_,fun i j cs ds hi hj=>hw.rep.inj i j cs ds (get i cs hi).1 (get j ds hj).1,fun k sz xs hx=>?_,?_,fun x hx y hy hne u u' hu hu' b hb=>?_,fun x hx u hu b hb i cs hi=>?_,fun k hk j=>?_,hw.rep.gl,hw.rep.gw⟩,M:=hw.M,size:=hw.size,keep:=hw.keep,os:=hw.os,tape:=hw.tape,output:=hw.output,nE:=hE,βE:=fun o ho=>hw.βE o ho,κE:=fun o ho=>hw.κE o ho,objs:=fun i cs hi=>hw.objs i cs (get i cs hi).1,owns:=fun x hx u hu b hb=>?_,drawn:=hw.drawn }
 ·simp[hH];omega
 ·obtain⟨us,rest,e,h1,h2,h3,h4⟩:=hw.rep.obj i cs (get i cs hi).1
  exact⟨us,rest,e,h1,Dn cs us (okH_get hc hi) h2,h3,h4⟩
 ·obtain⟨h0,u,hu,h1,h2,h3⟩:=hw.rep.own k sz xs (hown.subset hx)
  refine⟨h0,u,(hι _ hx).trans hu,h1,h2,fun j hj=>?_⟩
  simp only
  split
  ·exact h3 j hj
  ·rfl
 ·exact(hown.map _).nodup hw.rep.tags
 ·exact hw.rep.sep x (hown.subset hx) y (hown.subset hy) hne u u' ((hι x hx).symm.trans hu) ((hι y hy).symm.trans hu') b hb
 ·exact hw.rep.ownObj x (hown.subset hx) u ((hι x hx).symm.trans hu) b hb i cs (get i cs hi).1
 ·simp only
  rw[if_neg]
  intro h
  rw[List.contains_iff_mem] at h
  obtain⟨x,hx,e⟩:=mem_map.1 h
  exact hk x hx e
 ·exact hw.owns x (hown.subset hx) u ((hι x hx).symm.trans hu) b hb
abbrev CN(m:Nat)(E0 E:Ent):Prop:=E0=E/\E.g.n<=m
theorem linkN(m:Nat):GU (CN m):=⟨fun h _ _ _ hw=>by rw[h.1];exact hw⟩
section
variable {P : Program} {R : List D -> St -> Prop} {k : List KI} {env : List D} {σ : St}
theorem run_sh{C:Ent->Ent->Prop}{m:Nat}(hCm:∀E0 E,C E0 E->E.g.n<=m){σ':St}{h:Nat}(hH:σ'.H=σ.H.take h)(hh:h<=σ.H.length)(hm:m<=h)(he:D.okNs h (σ'.own.map (·.1)) env=true)(hc:okH h (σ'.own.map (·.1)) σ'.H=true)(hown:σ'.own.Sublist σ.own)(hr:A2 C P R k env σ'):A2 C P R k env σ:=fun E0 E g a w B hC hf hB=>
 hr E0 E _ a w B hC ⟨wi_sh hf.wi hH hh (Nat.le_trans (hCm _ _ hC) hm) hc hown,Dn _ _ he hf.env,hf.defers⟩ hB
end
noncomputable def Et{β:Type}(l:List D)(i:Nat)(k:D->β):β:=
 List.rec (motive:=fun _=>Nat->(D->β)->β) (fun _ k=>k .undef) (fun a _ ih i k=>Nat.rec (motive:=fun _=>β) (k a) (fun j _=>ih j k) i) l i k
theorem CC{β:Type}:∀(l:List D) (i:Nat) (k:D->β),Et l i k=k (l.getD i .undef)
 |[],_,_=>rfl
 |a::l,0,k=>rfl
 |a::l,i+1,k=>by
  have h:Et (a::l) (i+1) k=Et l i k:=rfl
  rw[h,CC l];simp
noncomputable def evK{β:Type}(env:List D)(x:Operand)(K:D->β):β:=match x with
 |.tmp t=>Et env t K
 |x=>K (evN env x)
theorem evK_eq{β:Type}(env:List D)(x:Operand)(K:D->β):evK env x K=K (evN env x):=by
 cases x<;>simp[evK,CC,evN]
noncomputable def evsK{β:Type}(env:List D)(l:List Operand)(K:List D->β):β:=
 List.rec (motive:=fun _=>(List D->β)->β) (fun K=>K []) (fun x _ ih K=>evK env x fun d=>ih fun ds=>K (d::ds)) l K
theorem evsK_eq{β:Type}(env:List D):∀(l:List Operand) (K:List D->β),evsK env l K=K (l.map (evN env))
 |[],_=>rfl
 |x::l,K=>by
  have h:evsK env (x::l) K=evK env x fun d=>evsK env l fun ds=>K (d::ds):=rfl
  rw[h,evK_eq,evsK_eq env l];rfl
theorem getD_some{env:List D}{t:Nat}{d:D}(h:env.getD t .undef=d)(hd:d≠ .undef):env[t]?=some d:=by
 rw[getD_eq_getElem?_getD] at h
 cases e:env[t]? with
 |none=>rw[e] at h;exact absurd h.symm hd
 |some x=>rw[e] at h;simpa using h
theorem DSL.refl:∀l:List D,DSL l l
 |[]=>.nil
 |d::l=>.cons (.same d) (DSL.refl l)
theorem DSL.set{l:List D}{t:Nat}{d e:D}(h:l[t]?=some d)(hs:DS d e):DSL l (l.set t e):=by
 induction l generalizing t with
 |nil=>simp at h
 |cons a l ih=>
  cases t with
  |zero=>simp at h;subst h;exact .cons hs (DSL.refl l)
  |succ t=>exact .cons (.same a) (ih (by simpa using h))
theorem cv_self{env:List D}{σ:St}:Cv env σ env σ:=fun E g a w hf=>⟨g,hf⟩
theorem fz_set{L:Nat->Option (List D)}:∀{ds ds':List D} {s n:Nat} {d:D} {x:V},Fz L ds ds'->ds[s]?=some d->Gs L n d x->Fz L ds (ds'.set s (.v x))
 |_,_,s,n,d,x,.nil,h,hl=>by simp at h
 |_,_,0,n,d,x,.keep hs,h,hl=>by simp at h;subst h;exact .view hl hs
 |_,_,0,n,d,x,.view _ hs,h,hl=>by simp at h;subst h;exact .view hl hs
 |_,_,s+1,n,d,x,.keep hs,h,hl=>by simp only[set_cons_succ];exact .keep (fz_set hs (by simpa using h) hl)
 |_,_,s+1,n,d,x,.view h' hs,h,hl=>by simp only[set_cons_succ];exact .view h' (fz_set hs (by simpa using h) hl)
theorem Fz.refl{L:Nat->Option (List D)}:∀l:List D,Fz L l l
 |[]=>.nil
 |_::l=>.keep (Fz.refl l)
theorem toVsN_get:∀{cs:List D} {xs:List V},CI cs=some xs->∀{j:Nat} {y:V},xs[j]?=some y->∃c,cs[j]?=some c/\c.toV=some y
 |[],xs,h,j,y,hy=>by simp[CI] at h;subst h;simp at hy
 |c::cs,xs,h,j,y,hy=>by
  cases c<;>simp only[CI] at h<;>first|(split at h<;>first|(rename_i ys h1;simp at h;subst h;cases j with|zero=>(simp at hy;subst hy;exact⟨_,rfl,rfl⟩)|succ j=>(obtain⟨c,h2,h3⟩:=toVsN_get h1 (j:=j) (by simpa using hy);exact⟨c,by simpa using h2,h3⟩))|simp at h)|simp at h
theorem lend_agg{H:List (Option (List D))}{q:Nat}{cs:List D}{xs:List V}(hq:H[q]?=some (some cs))(hx:CI cs=some xs)(ha:xs.all (fun x=> !x.isAgg)=true):Gs (DB [q] H) 1 (.ptr q 0) (.ref (.agg xs)):=by
 refine .inr (.inl ⟨q,0,cs,.agg xs,rfl,rfl,by simp[DB,hq],fun j y hy=>?_⟩)
 have hm:=mem_of_getElem? (show xs[j]?=some y from hy)
 obtain⟨c,h1,h2⟩:=toVsN_get hx (show xs[j]?=some y from hy)
 exact⟨by simpa using all_eq_true.1 ha y hm,c,by rw[Nat.zero_add];exact h1,c,.same,h2⟩
theorem lend_one{H:List (Option (List D))}{q:Nat}{c:D}{x:V}(hq:H[q]?=some (some [c]))(hx:c.toV=some x)(ha:x.isAgg=false):Gs (DB [q] H) 1 (.ptr q 0) (.ref x):=by
 refine .inr (.inl ⟨q,0,[c],x,rfl,rfl,by simp[DB,hq],fun j y hy=>?_⟩)
 have hc:x.cellsV=[x]:=by cases x<;>simp_all [V.cellsV,V.isAgg]
 rw[hc] at hy
 cases j with
 |zero=>simp at hy;subst hy;exact⟨ha,c,rfl,c,.same,hx⟩
 |succ j=>simp at hy
noncomputable def seeSl(q:Nat)(x:V)(ss:List Nat)(env:List D)(K:List D->Prop):Prop:=
 List.rec (motive:=fun _=>List D->Prop) (fun env=>K env) (fun s _ ih env=>Et env s fun d=>match d with
  |.ptr q' 0=>cond (Nat.beq q' q) (Co env s (.v (.ref x)) ih) False
  |_=>False) ss env
theorem seeSl_ok{L:Nat->Option (List D)}{q:Nat}{x:V}(hl:Gs L 1 (.ptr q 0) (.ref x)){K:List D->Prop}{env0:List D}:∀{ss:List Nat} {env:List D},Fz L env0 env->(∀t:Nat,env[t]?=env0[t]?∨env[t]?=some (D.v (.ref x)))->seeSl q x ss env K->∃env',K env'/\Fz L env0 env'
 |[],env,hz,_,h=>⟨env,h,hz⟩
 |s::ss,env,hz,hi,h=>by
  have e:seeSl q x (s::ss) env K=Et env s fun d=>match d with
   |.ptr q' 0=>cond (Nat.beq q' q) (Co env s (.v (.ref x)) fun env=>seeSl q x ss env K) False
   |_=>False:=rfl
  rw[e,CC] at h
  split at h
  ·rename_i q' hd
   obtain⟨h1,h2⟩:=Am h
   have:=Nat.eq_of_beq_eq_true h1;subst this
   rw[AR] at h2
   have hs:=getD_some hd (by simp)
   have hs0:env0[s]?=some (.ptr q' 0):=by
    rcases hi s with h3|h3
    ·rw[←h3];exact hs
    ·rw[hs] at h3;simp at h3
   refine seeSl_ok hl (fz_set hz hs0 hl) (fun t=>?_) h2
   rw[getElem?_set]
   split
   ·rename_i e;subst e
    rw[if_pos (List.getElem?_eq_some_iff.1 hs).1];exact .inr rfl
   ·exact hi t
  ·exact h.elim
noncomputable def pre(r i:Nat)(s:Sc)(env:List D)(σ:St)(K:Sc->List D->St->Prop):Prop:=
 Sc.rec (motive:=fun _=>List D->St->Prop)
  (fun env σ=>K .z env σ)
  (fun _ ih env σ=>∃a,ih a env σ)
  (fun s t _ _ env σ=>K (.b s t) env σ)
  (fun h s ih env σ=>match h with
   |.q r' i'=>cond (Nat.beq r r'&&Nat.beq i i') (ih env σ) (K (.h (.q r' i') s) env σ)
   |.un t=>Et env t fun d=>match d with
    |.acc _ xs=>Co env t (.v (.list xs)) fun env=>ih env σ
    |.rv x _=>Co env t (.v x) fun env=>ih env σ
    |_=>False
   |.ga t=>Et env t fun d=>match d with
    |.gro q n _=>Co env t (.arr q 0 n) fun env=>ih env σ
    |_=>False
   |.fa q ss=>match σ.H[q]? with
    |some (some cs)=>(match CI cs with
     |some xs=>cond (xs.all fun x=> !x.isAgg) (seeSl q (.agg xs) ss env fun env=>Co σ.H q none fun H=>ih env ⟨H,σ.own⟩) False
     |none=>False)
    |_=>False
   |.f1 q ss=>match σ.H[q]? with
    |some (some [c])=>(match c.toV with
     |some x=>cond (!x.isAgg) (seeSl q x ss env fun env=>Co σ.H q none fun H=>ih env ⟨H,σ.own⟩) False
     |none=>False)
    |_=>False
   |.fl q t xs=>match σ.H[q]? with
    |some (some cs)=>Et env t fun d=>match d with
     |.arr q' 0 n=>cond (Nat.beq q' q) (cs=xs.map .v/\n=xs.length/\Co env t (.v (.list xs)) fun env=>Co σ.H q none fun H=>ih env ⟨H,σ.own⟩) False
     |_=>False
    |_=>False
   |.cl q j k sz=>match σ.H[q]? with
    |some (some cs)=>(match cs[j]? with
     |some (.v .nils)=>cond (DD σ.own k&&Nat.blt 0 sz) (Co cs j (.acc k []) fun cs=>Co σ.H q (some cs) fun H=>ih env ⟨H,(k,sz,[])::σ.own⟩) False
     |_=>False)
    |_=>False
   |.nw t k sz=>Et env t fun d=>match d with
    |.v .nils=>cond (DD σ.own k&&Nat.blt 0 sz) (Co env t (.acc k []) fun env=>ih env ⟨σ.H,(k,sz,[])::σ.own⟩) False
    |_=>False
   |.cs σ'=>(AM σ.H fun H=>AM σ.own fun own=>∀e:List D,Cv e ⟨H,own⟩ e σ')/\ih env σ'
   |.ct t d σ'=>Et env t fun d0=>match d0 with
    |.undef=>False
    |d0=>(∀e:List D,e[t]?=some d0->Cv e σ (e.set t d) σ')/\Co env t d fun env=>ih env σ'
   |h=>K (.h h s) env σ) s env σ
theorem cv_rv{env:List D}{σ:St}{t:Nat}{x:V}{u:Value}(ht:env[t]?=some (.rv x u)):Cv env σ (env.set t (.v x)) σ:=fun E g a w hf=>by
 obtain⟨v,hv,hr⟩:=B0 hf.env ht
 simp only[Ae] at hr
 refine⟨g,hf.wi,?_,hf.defers⟩
 have:=Cu hf.env t (d:=.v x) (u:=v) (by simp only[Ae];rw[hr.1];exact hr.2)
 rwa[Dm hv] at this
theorem cv_nw{env:List D}{σ:St}{t k sz:Nat}(ht:env[t]?=some (.v .nils))(hk:∀x∈σ.own,x.1≠k)(hsz:0<sz):Cv env σ (env.set t (.acc k [])) ⟨σ.H,(k,sz,[])::σ.own⟩:=fun E g a w hf=>by
 obtain⟨hw1,hle1⟩:=hf.wi.addOwn (k:=k) (sz:=sz) (xs:=[]) (u:=.slice none 0 0) hk ⟨hsz,by simp⟩ (Cj _) (.inl ⟨none,rfl⟩) (fun b hb=>by simp[BG] at hb)
 obtain⟨u,hu,hr⟩:=B0 hf.env ht
 simp only[Ae,BY] at hr
 subst hr
 refine⟨_,hw1,?_,hf.defers⟩
 have:=Cu (Ac.mono hle1 _ _ hf.env) t (d:=.acc k []) (u:=.slice none 0 0) (by simp only[Ae];exact⟨Cj _,by simp⟩)
 rwa[Dm hu] at this
theorem cv_fl{env:List D}{σ:St}{q t:Nat}{xs:List V}(hq:σ.H[q]?=some (some (xs.map .v)))(ht:env[t]?=some (.arr q 0 xs.length)):Cv env σ (env.set t (.v (.list xs))) ⟨σ.H.set q none,σ.own⟩:=fun E g a w hf=>by
 have hone:∀x∈xs,x.isAgg=false:=fun x hx=>by
  obtain⟨_,_,_,_,_,h1,_⟩:=hf.wi.rep.obj q _ hq
  have:=h1 (.v x) (mem_map.2 ⟨x,hx,rfl⟩)
  simpa[D.one] using this
 have hfl:xs.flatMap V.cellsV=xs:=by
  clear hq ht hf
  induction xs with
  |nil=>rfl
  |cons x xs ih=>
   have hx:=hone x (by simp)
   have hc:x.cellsV=[x]:=by cases x<;>simp_all [V.cellsV,V.isAgg]
   rw[flatMap_cons,hc,ih fun y hy=>hone y (by simp[hy])];rfl
 have hz:Fz (DB [q] σ.H) env (env.set t (.v (.list xs))):=by
  refine fz_set (n:=1) (Fz.refl env) ht (.inr (.inr ⟨q,0,1,xs.map .v,xs,.inl rfl,rfl,by omega,fun y hy=>?_,by simp[DB,hq],fun j y hy=>?_⟩))
  ·have:=hone y hy;cases y<;>simp_all [V.size,V.isAgg]
  ·rw[hfl] at hy
   exact⟨hone y (mem_of_getElem? hy),.v y,by rw[Nat.zero_add,getElem?_map,hy];rfl,.v y,.same,rfl⟩
 obtain⟨g',hf'⟩:=cv_frz [q] hz E g a w hf
 exact⟨g',by simpa[GH] using hf'⟩
theorem pre_ok{r i:Nat}{K:Sc->List D->St->Prop}:∀{s:Sc} {env:List D} {σ:St},pre r i s env σ K->∃s' env' σ',K s' env' σ'/\Cv env σ env' σ'/\env'.length=env.length
 |.z,env,σ,h=>⟨_,_,_,h,cv_self,rfl⟩
 |.e f,env,σ,h=>by
  obtain⟨a,h⟩:=(h:∃a,pre r i (f a) env σ K)
  exact pre_ok h
 |.b s t,env,σ,h=>⟨_,_,_,h,cv_self,rfl⟩
 |.h hh s,env,σ,h=>by
  have tr:∀{env1:List D} {σ1:St},Cv env σ env1 σ1->env1.length=env.length->pre r i s env1 σ1 K->∃s' env' σ',K s' env' σ'/\Cv env σ env' σ'/\env'.length=env.length:=by
   intro env1 σ1 hc hl hp
   obtain⟨s',env',σ',h1,h2,h3⟩:=pre_ok hp
   exact⟨s',env',σ',h1,fun E g a w hf=>by obtain⟨g1,hf1⟩:=hc E g a w hf;exact h2 E g1 a w hf1,h3.trans hl⟩
  cases hh with
  |q r' i'=>
   have h':cond (Nat.beq r r'&&Nat.beq i i') (pre r i s env σ K) (K (.h (.q r' i') s) env σ):=h
   cases hb:(Nat.beq r r'&&Nat.beq i i') with
   |true=>rw[hb] at h';exact tr cv_self rfl h'
   |false=>rw[hb] at h';exact⟨_,_,_,h',cv_self,rfl⟩
  |un t=>
   have h':Et env t fun d=>match d with
    |.acc _ xs=>Co env t (.v (.list xs)) fun env=>pre r i s env σ K
    |.rv x _=>Co env t (.v x) fun env=>pre r i s env σ K
    |_=>False:=h
   rw[CC] at h'
   split at h'
   ·rename_i k xs hd
    rw[AR] at h'
    exact tr (cv_sub (DSL.set (getD_some hd (by simp)) .acc)) (by simp) h'
   ·rename_i x u hd
    rw[AR] at h'
    exact tr (cv_rv (getD_some hd (by simp))) (by simp) h'
   ·exact h'.elim
  |ga t=>
   have h':Et env t fun d=>match d with
    |.gro q n _=>Co env t (.arr q 0 n) fun env=>pre r i s env σ K
    |_=>False:=h
   rw[CC] at h'
   split at h'
   ·rename_i q n sz hd
    rw[AR] at h'
    exact tr (cv_sub (DSL.set (getD_some hd (by simp)) .gro)) (by simp) h'
   ·exact h'.elim
  |fa q ss=>
   have h':match σ.H[q]? with
    |some (some cs)=>(match CI cs with
     |some xs=>cond (xs.all fun x=> !x.isAgg) (seeSl q (.agg xs) ss env fun env=>Co σ.H q none fun H=>pre r i s env ⟨H,σ.own⟩ K) False
     |none=>False)
    |_=>False:=h
   split at h'
   ·rename_i cs hq
    split at h'
    ·rename_i xs hx
     obtain⟨h1,h2⟩:=Am h'
     obtain⟨env',h3,h4⟩:=seeSl_ok (env0:=env) (lend_agg hq hx h1) (Fz.refl env) (fun t=>.inl rfl) h2
     rw[AR] at h3
     have hl:env'.length=env.length:=by
      have:∀{a b:List D} {L},Fz L a b->b.length=a.length:=by
       intro a b L hz;induction hz<;>simp_all
      exact this h4
     exact tr (by have:=cv_frz [q] h4;simpa[GH] using this) hl h3
    ·exact h'.elim
   ·exact h'.elim
  |f1 q ss=>
   have h':match σ.H[q]? with
    |some (some [c])=>(match c.toV with
     |some x=>cond (!x.isAgg) (seeSl q x ss env fun env=>Co σ.H q none fun H=>pre r i s env ⟨H,σ.own⟩ K) False
     |none=>False)
    |_=>False:=h
   split at h'
   ·rename_i c hq
    split at h'
    ·rename_i x hx
     obtain⟨h1,h2⟩:=Am h'
     obtain⟨env',h3,h4⟩:=seeSl_ok (env0:=env) (lend_one hq hx (by simpa using h1)) (Fz.refl env) (fun t=>.inl rfl) h2
     rw[AR] at h3
     have hl:env'.length=env.length:=by
      have:∀{a b:List D} {L},Fz L a b->b.length=a.length:=by
       intro a b L hz;induction hz<;>simp_all
      exact this h4
     exact tr (by have:=cv_frz [q] h4;simpa[GH] using this) hl h3
    ·exact h'.elim
   ·exact h'.elim
  |fl q t xs=>
   have h':match σ.H[q]? with
    |some (some cs)=>Et env t fun d=>match d with
     |.arr q' 0 n=>cond (Nat.beq q' q) (cs=xs.map .v/\n=xs.length/\Co env t (.v (.list xs)) fun env=>Co σ.H q none fun H=>pre r i s env ⟨H,σ.own⟩ K) False
     |_=>False
    |_=>False:=h
   split at h'
   ·rename_i cs hq
    rw[CC] at h'
    split at h'
    ·rename_i q' n hd
     obtain⟨h1,rfl,rfl,h2⟩:=Am h'
     have:=Nat.eq_of_beq_eq_true h1;subst this
     rw[AR,AR] at h2
     exact tr (cv_fl hq (getD_some hd (by simp))) (by simp) h2
    ·exact h'.elim
   ·exact h'.elim
  |cl q j k sz=>
   have h':match σ.H[q]? with
    |some (some cs)=>(match cs[j]? with
     |some (.v .nils)=>cond (DD σ.own k&&Nat.blt 0 sz) (Co cs j (.acc k []) fun cs=>Co σ.H q (some cs) fun H=>pre r i s env ⟨H,(k,sz,[])::σ.own⟩ K) False
     |_=>False)
    |_=>False:=h
   split at h'
   ·rename_i cs hq
    split at h'
    ·rename_i hj
     obtain⟨h1,h2⟩:=Am h'
     rw[Bool.and_eq_true] at h1
     rw[AR,AR] at h2
     exact tr (cv_claim q j k sz hq hj (Cn h1.1) (Nat.le_of_ble_eq_true h1.2)) rfl h2
    ·exact h'.elim
   ·exact h'.elim
  |nw t k sz=>
   have h':Et env t fun d=>match d with
    |.v .nils=>cond (DD σ.own k&&Nat.blt 0 sz) (Co env t (.acc k []) fun env=>pre r i s env ⟨σ.H,(k,sz,[])::σ.own⟩ K) False
    |_=>False:=h
   rw[CC] at h'
   split at h'
   ·rename_i hd
    obtain⟨h1,h2⟩:=Am h'
    rw[Bool.and_eq_true] at h1
    rw[AR] at h2
    exact tr (cv_nw (getD_some hd (by simp)) (Cn h1.1) (Nat.le_of_ble_eq_true h1.2)) (by simp) h2
   ·exact h'.elim
  |cs σ'=>
   obtain⟨h1,h2⟩:=(h:(AM σ.H fun H=>AM σ.own fun own=>∀e:List D,Cv e ⟨H,own⟩ e σ')/\pre r i s env σ' K)
   rw[AI,AI] at h1
   exact tr (h1 env) rfl h2
  |ct t d σ'=>
   have h':Et env t fun d0=>match d0 with
    |.undef=>False
    |d0=>(∀e:List D,e[t]?=some d0->Cv e σ (e.set t d) σ')/\Co env t d fun env=>pre r i s env σ' K:=h
   rw[CC] at h'
   split at h'
   ·exact h'.elim
   ·rename_i hne
    rw[AR] at h'
    exact tr (h'.1 env (getD_some rfl (fun e=>hne e))) (by simp) h'.2
  |_=>exact⟨_,_,_,h,cv_self,rfl⟩
noncomputable def upd(env:List D)(t:Option Nat)(b:Bool)(K:List D->Prop):Prop:=match t with
 |some t=>Co env t (.v (.bool b)) K
 |none=>K env
noncomputable def vBool(s:Sc)(b:Bool)(t:Option Nat)(env:List D)(K:Bool->Sc->List D->Prop):Prop:=match s with
 |.b s1 s2=>(b=true->upd env t true fun env=>K true s1 env)/\(b=false->upd env t false fun env=>K false s2 env)
 |.h .t s=>b=true/\upd env t true fun env=>K true s env
 |.h .f s=>b=false/\upd env t false fun env=>K false s env
 |.h .k s=>K b s env
 |s=>K b s env
theorem set_same{env:List D}{t:Nat}{b:Bool}(h:env[t]?=some (.v (.bool b))):env.set t (.v (.bool b))=env:=Dm h
theorem vBool_ok{s:Sc}{b:Bool}{t:Option Nat}{env:List D}{K:Bool->Sc->List D->Prop}(h:vBool s b t env K)(ht:∀t',t=some t'->env[t']?=some (.v (.bool b))):∃s',K b s' env:=by
 have up:∀{b':Bool} {K':List D->Prop},b=b'->upd env t b' K'->K' env:=by
  intro b' K' e hu
  subst e
  cases t with
  |none=>exact hu
  |some t=>simp only[upd,AR] at hu;rwa[set_same (ht t rfl)] at hu
 unfold vBool at h
 split at h
 ·cases b with
  |true=>exact⟨_,up rfl (h.1 rfl)⟩
  |false=>exact⟨_,up rfl (h.2 rfl)⟩
 ·obtain⟨rfl,h⟩:=h;exact⟨_,up rfl h⟩
 ·obtain⟨rfl,h⟩:=h;exact⟨_,up rfl h⟩
 ·exact⟨_,h⟩
 ·exact⟨_,h⟩
noncomputable def seenG(ops:Array Oper)(i j:Nat):Bool:=(ops.toList.take i).any fun o=>match o.guard with
 |some (j',_)=>Nat.beq j' j
 |none=>false
noncomputable def FQ(ops:Array Oper)(i:Nat)(o:Oper)(s:Sc)(env:List D)(K:Bool->Sc->List D->Prop):Prop:=match o.guard with
 |none=>K true s env
 |some (j,want)=>match (ops[j]?).bind (·.dst) with
  |some t=>Et env t fun d=>match d with
   |.v (.bool b)=>Bool.rec (vBool s b (some t) env fun b s env=>K (b==want) s env) (K (b==want) s env) (seenG ops i j)
   |.tup _=>K false s env
   |_=>False
  |none=>False
theorem vGuard_ok{ops:Array Oper}{i:Nat}{o:Oper}{s:Sc}{env:List D}{K:Bool->Sc->List D->Prop}(h:FQ ops i o s env K):∃b s',K b s' env/\B7 env ops o=some b:=by
 unfold FQ at h
 unfold B7
 split at h
 ·rename_i hg;exact⟨true,s,h,by simp[hg]⟩
 ·rename_i j want hg
  split at h
  ·rename_i t hj
   rw[CC] at h
   split at h
   ·rename_i b hd
    have ht:=getD_some hd (by simp)
    cases hs:seenG ops i j with
    |true=>rw[hs] at h;exact⟨_,s,h,by simp[hg,hj,ht]⟩
    |false=>
     rw[hs] at h
     obtain⟨s',h1⟩:=vBool_ok h (fun t' e=>by simp at e;subst e;exact ht)
     exact⟨_,s',h1,by simp[hg,hj,ht]⟩
   ·rename_i ds hd
    have ht:=getD_some hd (by simp)
    exact⟨false,s,h,by simp[hg,hj,ht]⟩
   ·exact h.elim
  ·exact h.elim
noncomputable def vPick(env:List D)(sl:List (Nat×Option D))(K:List (Nat×D)->Prop):Prop:=
 List.rec (motive:=fun _=>(List (Nat×D)->Prop)->Prop) (fun K=>K []) (fun p _ ih K=>Et env p.1 fun d0=>match p.2 with
  |none=>ih fun L=>K ((p.1,d0)::L)
  |some d=>d0=d/\ih fun L=>K ((p.1,d)::L)) sl K
theorem vPick_ok{env:List D}:∀{sl:List (Nat×Option D)} {K:List (Nat×D)->Prop},vPick env sl K->∃L,K L/\∀p∈L,env.getD p.1 .undef=p.2
 |[],K,h=>⟨[],h,by simp⟩
 |(t,o)::sl,K,h=>by
  have h':Et env t fun d0=>match (generalizing:=false) o with
   |none=>vPick env sl fun L=>K ((t,d0)::L)
   |some d=>d0=d/\vPick env sl fun L=>K ((t,d)::L):=h
  rw[CC] at h'
  cases o with
  |none=>
   obtain⟨L,h1,h2⟩:=vPick_ok h'
   refine⟨_,h1,fun p hp=>?_⟩
   rcases mem_cons.1 hp with rfl|hp
   ·rfl
   ·exact h2 p hp
  |some d=>
   obtain⟨L,h1,h2⟩:=vPick_ok h'.2
   refine⟨_,h1,fun p hp=>?_⟩
   rcases mem_cons.1 hp with rfl|hp
   ·exact h'.1
   ·exact h2 p hp
theorem EH:∀(L:List (Nat×D)) (e:List D),(L.foldl (fun e p=>e.set p.1 p.2) e).length=e.length
 |[],e=>rfl
 |p::L,e=>by rw[foldl_cons,EH L];simp
theorem mkE_get{env:List D}:∀{L:List (Nat×D)} {e:List D},(∀p∈L,env.getD p.1 .undef=p.2)->e.length=env.length->(∀(i:Nat) (d:D),e[i]?=some d->d=.undef∨env[i]?=some d)->∀(i:Nat) (d:D),(L.foldl (fun e p=>e.set p.1 p.2) e)[i]?=some d->d=.undef∨env[i]?=some d
 |[],e,_,_,h,i,d,hd=>h i d hd
 |p::L,e,hL,hl,h,i,d,hd=>by
  refine mkE_get (L:=L) (e:=e.set p.1 p.2) (fun q hq=>hL q (List.mem_cons_of_mem _ hq)) (by simp[hl]) (fun i d hd=>?_) i d hd
  rw[getElem?_set] at hd
  split at hd
  ·rename_i e1;subst e1
   split at hd
   ·rename_i hlt
    simp at hd;subst hd
    refine .inr ?_
    have:=hL p (List.mem_cons_self)
    rw[getD_eq_getElem?_getD] at this
    rw[getElem?_eq_getElem (by omega)] at this⊢
    simpa using this
   ·simp at hd
  ·exact h i d hd
theorem mkE_forget{env:List D}{nt:Nat}{L:List (Nat×D)}(hn:env.length=nt)(h2:∀p∈L,env.getD p.1 .undef=p.2):(mkE nt L).length=env.length/\∀(i:Nat) (d:D),(mkE nt L)[i]?=some d->d=.undef∨env[i]?=some d:=
 ⟨by simp[mkE,EH,hn],mkE_get h2 (by simp[hn]) (fun i d hd=>by
  rw[List.getElem?_replicate] at hd
  split at hd
  ·simp at hd;exact .inl hd.symm
  ·simp at hd)⟩
noncomputable def vOps(P:Program)(im:List Nat)(r:Nat)(ops:Array Oper)(Z:List Oper->List (Nat×D)->St->Prop)(L:List Oper)(i:Nat)(s:Sc)(env:List D)(σ:St)(K:Sc->List D->St->Prop):Prop:=
 List.rec (motive:=fun _=>Nat->Sc->List D->St->Prop) (fun i s env σ=>pre r i s env σ K)
  (fun o L ih i s env σ=>pre r i s env σ fun s env σ=>match s with
   |.h (.s sl) _=>vPick env sl fun sl=>Z (o::L) sl σ
   |s=>FQ ops i o s env fun b s env=>
    Bool.rec (CT env o.dst (.tup []) fun env=>ih (Nat.succ i) s env σ)
     (evsK env o.op.operands.toList fun ds=>vOp P im o ds σ s fun s d σ _=>CT env o.dst d fun env=>ih (Nat.succ i) s env σ) b) L i s env σ
def BF(C:Ent->Ent->Prop)(P:Program)(R:List D->St->Prop)(k:List KI)(ops:Array Oper)(L:List Oper)(env:List D)(σ:St):Prop:=
 ∀(E0 E:Ent) (g:Gh) (a:Act) (w:World) (B:Exit->Act->World->Prop),C E0 E->FI E g σ env a w->
  (∀g' env' σ' a' w',FI E0 g' σ' env' a' w'->R env' σ'->B .ret a' w'/\B .normal a' w')->wpList P ops (KQ P B k) L a w
section
variable {C : Ent -> Ent -> Prop} {P : Program} {R : List D -> St -> Prop} {k : List KI}
theorem BF.cv{ops:Array Oper}{L:List Oper}{env env':List D}{σ σ':St}(h:Cv env σ env' σ')(hk:BF C P R k ops L env' σ'):BF C P R k ops L env σ:=fun E0 E g a w B hC hf hB=>by
 obtain⟨g',hf'⟩:=h E g a w hf
 exact hk E0 E g' a w B hC hf' hB
theorem BF.forget{ops:Array Oper}{L:List Oper}{env env':List D}{σ:St}(h:env'.length=env.length/\∀(i:Nat) (d:D),env'[i]?=some d->d=.undef∨env[i]?=some d)(hk:BF C P R k ops L env' σ):BF C P R k ops L env σ:=fun E0 E g a w B hC hf hB=>
 hk E0 E g a w B hC ⟨hf.wi,FW hf.env h.1 h.2,hf.defers⟩ hB
theorem BF.op{ops:Array Oper}{L:List Oper}{o:Oper}{env:List D}{σ σ':St}{d:D}(hg:B7 env ops o=some true)(h:Ai P o (o.op.operands.toList.map (evN env)) σ d σ')(hk:BF C P R k ops L (AK env o.dst d) σ'):BF C P R k ops (o::L) env σ:=fun E0 E g a w B hC hf hB=>by
 unfold wpList
 rw[if_pos (Ch hf.env hg)]
 refine .inl (h E g a w _ _ hf.wi (repDs_evN hf.wi.rep.gl hf.env _) fun g' w' u hw' hg' hd=>?_)
 exact hk E0 E g' _ _ B hC (hf.put hw' hg' hd o.dst) hB
theorem BF.skip{ops:Array Oper}{L:List Oper}{o:Oper}{env:List D}{σ:St}(hg:B7 env ops o=some false)(hk:BF C P R k ops L (AK env o.dst (.tup [])) σ):BF C P R k ops (o::L) env σ:=fun E0 E g a w B hC hf hB=>by
 unfold wpList
 rw[if_neg (by rw[Ch hf.env hg];simp)]
 exact hk E0 E g _ _ B hC (hf.put hf.wi g.le_refl (repD_undef g) o.dst) hB
theorem vOps_ok{im:List Nat}{r:Nat}{ops:Array Oper}{Z:List Oper->List (Nat×D)->St->Prop}{K:Sc->List D->St->Prop}{n:Nat}(hZ:∀L sl σ,Z L sl σ->BF C P R k ops L (mkE n sl) σ)(hK:∀s env σ,env.length=n->K s env σ->A2 C P R k env σ):∀{L:List Oper} {i:Nat} {s:Sc} {env:List D} {σ:St},env.length=n->vOps P im r ops Z L i s env σ K->BF C P R k ops L env σ
 |[],i,s,env,σ,hl,h=>by
  obtain⟨s1,env1,σ1,h1,h2,h3⟩:=pre_ok (show pre r i s env σ K from h)
  exact BF.cv h2 fun E0 E g a w B hC hf hB=>by
   unfold wpList;exact hK _ _ _ (h3.trans hl) h1 E0 E g a w B hC hf hB
 |o::L,i,s,env,σ,hl,h=>by
  have h':pre r i s env σ fun s env σ=>match s with
   |.h (.s sl) _=>vPick env sl fun sl=>Z (o::L) sl σ
   |s=>FQ ops i o s env fun b s env=>
    Bool.rec (CT env o.dst (.tup []) fun env=>vOps P im r ops Z L (Nat.succ i) s env σ K)
     (evsK env o.op.operands.toList fun ds=>vOp P im o ds σ s fun s d σ _=>CT env o.dst d fun env=>vOps P im r ops Z L (Nat.succ i) s env σ K) b:=h
  obtain⟨s1,env1,σ1,h1,h2,h3⟩:=pre_ok h'
  refine BF.cv h2 ?_
  have main:(FQ ops i o s1 env1 fun b s env=>
    Bool.rec (CT env o.dst (.tup []) fun env=>vOps P im r ops Z L (Nat.succ i) s env σ1 K)
     (evsK env o.op.operands.toList fun ds=>vOp P im o ds σ1 s fun s d σ _=>CT env o.dst d fun env=>vOps P im r ops Z L (Nat.succ i) s env σ K) b)->BF C P R k ops (o::L) env1 σ1:=by
   intro h1
   obtain⟨b,s2,h4,h5⟩:=vGuard_ok h1
   cases b with
   |false=>
    have h6:CT env1 o.dst (.tup []) fun env=>vOps P im r ops Z L (Nat.succ i) s2 env σ1 K:=h4
    rw[CL] at h6
    refine BF.skip h5 (vOps_ok hZ hK ?_ h6)
    cases o.dst<;>simp[AK,h3,hl]
   |true=>
    have h6:evsK env1 o.op.operands.toList fun ds=>vOp P im o ds σ1 s2 fun s d σ _=>CT env1 o.dst d fun env=>vOps P im r ops Z L (Nat.succ i) s env σ K:=h4
    rw[evsK_eq] at h6
    obtain⟨s3,d,σ3,kd,h7,h8⟩:=Ci h6
    rw[CL] at h7
    refine BF.op h5 h8.op (vOps_ok hZ hK ?_ h7)
    cases o.dst<;>simp[AK,h3,hl]
  split at h1
  ·obtain⟨sl,h4,h5⟩:=vPick_ok h1
   exact BF.forget (mkE_forget (h3.trans hl) h5) (hZ _ _ _ h4)
  ·exact main h1
end
inductive DK where
 |q
 |l (j q off n:Nat)
 |e
def DK.eff:DK->Bool
 |.e=>true
 |_=>false
noncomputable def effPos(rec:List DK)(j:Nat):Option Nat:=
 List.rec (motive:=fun _=>Nat->Nat->Option Nat) (fun _ _=>none) (fun d _ ih i j=>Bool.rec (ih (Nat.succ i) j) (Nat.rec (motive:=fun _=>Option Nat) (some i) (fun j _=>ih (Nat.succ i) j) j) d.eff) rec 0 j
noncomputable def limOf(ops:Array Oper)(rec:List DK)(i j:Nat):Option Nat:=
 List.rec (motive:=fun _=>Nat->Option Nat) (fun _=>none) (fun _ _ ih j=>match effPos rec j with
  |none=>none
  |some e=>cond (((Ee [] ops.toList).getD e 0).testBit i) (some j) (ih (Nat.succ j))) rec j
noncomputable def efAt(lim:Nat->Nat->Option Nat)(i:Nat):DK->Ef
 |.q=>(false,none)
 |.l j _ _ _=>(false,lim i j)
 |.e=>(true,none)
noncomputable def efsAt(lim:Nat->Nat->Option Nat):Nat->List DK->List Ef
 |_,[]=>[]
 |i,d::ds=>efAt lim i d::efsAt lim (i+1) ds
noncomputable def sameQ(q off n j:Nat)(c0:Option (List D))(lim:Option Nat)(sts:List St)(c:Nat):Prop:=
 List.rec (motive:=fun _=>Nat->Prop) (fun _=>True) (fun τ _ ih c=>Bool.rec
  (match lim with
   |some b=>Bool.rec (ih (Nat.succ c)) (B2 τ q off n=c0/\ih (Nat.succ c)) (Nat.ble c b)
   |none=>B2 τ q off n=c0/\ih (Nat.succ c)) (ih (Nat.succ c)) (Nat.beq c j)) sts c
theorem sameQ_ok{q off n j:Nat}{c0:Option (List D)}{lim:Option Nat}:∀{sts:List St} {c:Nat},sameQ q off n j c0 lim sts c->∀x τ,sts[x]?=some τ->c+x≠j->(∀b,lim=some b->c+x<=b)->B2 τ q off n=c0
 |[],c,_,x,τ,hx,_,_=>by simp at hx
 |τ0::sts,c,h,x,τ,hx,hj,hb=>by
  have h':Bool.rec (match (generalizing:=false) lim with
   |some b=>Bool.rec (sameQ q off n j c0 lim sts (Nat.succ c)) (B2 τ0 q off n=c0/\sameQ q off n j c0 lim sts (Nat.succ c)) (Nat.ble c b)
   |none=>B2 τ0 q off n=c0/\sameQ q off n j c0 lim sts (Nat.succ c)) (sameQ q off n j c0 lim sts (Nat.succ c)) (Nat.beq c j):=h
  have rest:sameQ q off n j c0 lim sts (Nat.succ c):=by
   cases h1:Nat.beq c j with
   |true=>rw[h1] at h';exact h'
   |false=>
    rw[h1] at h'
    simp only at h'
    cases lim with
    |none=>exact h'.2
    |some b=>
     simp only at h'
     cases h2:Nat.ble c b with
     |true=>rw[h2] at h';exact h'.2
     |false=>rw[h2] at h';exact h'
  cases x with
  |succ x=>exact sameQ_ok rest x τ (by simpa using hx) (by simp only[Nat.succ_eq_add_one];omega) (fun b e=>by have:=hb b e;simp only[Nat.succ_eq_add_one];omega)
  |zero=>
   simp at hx;subst hx
   have h1:Nat.beq c j=false:=by
    cases h1:Nat.beq c j with
    |false=>rfl
    |true=>exact absurd (Nat.eq_of_beq_eq_true h1) (by simpa using hj)
   rw[h1] at h'
   simp only at h'
   cases lim with
   |none=>exact h'.1
   |some b=>
    have:Nat.ble c b=true:=Nat.ble_eq_true_of_le (by simpa using hb b rfl)
    simp only[this] at h'
    exact h'.1
noncomputable def Gf(lim:Nat->Nat->Option Nat)(sts:List St)(rec:List DK)(i:Nat):Prop:=
 List.rec (motive:=fun _=>Nat->Prop) (fun _=>True) (fun d _ ih i=>match d with
  |.l j q off n=>(match sts[j]? with
   |some τ=>sameQ q off n j (B2 τ q off n) (lim i j) sts 0/\ih (Nat.succ i)
   |none=>False)
  |_=>ih (Nat.succ i)) rec i
def noLoads:List DK->Bool
 |[]=>true
 |.l .. ::_=>false
 |_::rec=>noLoads rec
theorem noLoads_ok{lim:Nat->Nat->Option Nat}{sts:List St}:∀{rec:List DK} {i:Nat},noLoads rec=true->Gf lim sts rec i
 |[],_,_=>trivial
 |.q::rec,i,h=>noLoads_ok (rec:=rec) (i:=i+1) h
 |.e::rec,i,h=>noLoads_ok (rec:=rec) (i:=i+1) h
 |.l .. ::_,_,h=>by simp[noLoads] at h
noncomputable def exs(s:Sc)(K:Sc->Prop):Prop:=
 Sc.rec (motive:=fun _=>Prop) (K .z) (fun _ ih=>∃a,ih a) (fun s t _ _=>K (.b s t)) (fun h s _=>K (.h h s)) s
theorem exs_ok{K:Sc->Prop}:∀{s:Sc},exs s K->∃s',K s'
 |.z,h=>⟨_,h⟩
 |.e f,h=>by obtain⟨a,h⟩:=(h:∃a,exs (f a) K);exact exs_ok h
 |.b s t,h=>⟨_,h⟩
 |.h i s,h=>⟨_,h⟩
abbrev KD:=List DK->List St->Sc->List D->Prop
noncomputable def vDr(P:Program)(im:List Nat)(ops:Array Oper)(L:List Oper)(rec:List DK)(sts:List St)(j:Nat)(s:Sc)(env:List D)(σ:St)(K:KD):Prop:=
 List.rec (motive:=fun _=>List DK->List St->Nat->Sc->List D->St->Prop) (fun rec sts _ s env _=>K rec sts s env)
  (fun o _ ih rec sts j s env σ=>exs s fun s=>FQ ops rec.length o s env fun b s env=>
   Bool.rec (CT env o.dst (.tup []) fun env=>A9 rec .q fun rec=>ih rec sts j s env σ)
    (evsK env o.op.operands.toList fun ds=>vOp P im o ds σ s fun s d σ' kd=>CT env o.dst d fun env=>match kd with
     |.pure=>A9 rec .q fun rec=>ih rec sts j s env σ
     |.load q off n=>A9 rec (.l j q off n) fun rec=>ih rec sts j s env σ
     |.eff=>A9 rec .e fun rec=>A9 sts σ' fun sts=>ih rec sts (Nat.succ j) s env σ') b) L rec sts j s env σ
noncomputable def vDraw(P:Program)(im:List Nat)(ops:Array Oper)(s:Sc)(env:List D)(σ:St)(K:Sc->List D->St->Prop):Prop:=
 cond (Nat.blt ops.size 1000000) (vDr P im ops ops.toList [] [σ] 0 s env σ fun rec sts s env=>
  cond (GM ops (efsAt (limOf ops rec) 0 rec)) (match sts.getLast? with
   |some σ=>Bool.rec (Gf (limOf ops rec) sts rec 0/\K s env σ) (K s env σ) (noLoads rec)
   |none=>False) False) False
theorem EZ{lim:Nat->Nat->Option Nat}{sts:List St}{d:DK}{rec:List DK}{i:Nat}(h:Gf lim sts (d::rec) i):Gf lim sts rec (i+1):=by
 have h':(match (generalizing:=false) d with
  |.l j q off n=>(match sts[j]? with
   |some τ=>sameQ q off n j (B2 τ q off n) (lim i j) sts 0/\Gf lim sts rec (Nat.succ i)
   |none=>False)
  |_=>Gf lim sts rec (Nat.succ i)):=h
 split at h'
 ·split at h'
  ·exact h'.2
  ·exact h'.elim
 ·exact h'
theorem Cm{P:Program}{o:Oper}{env:List D}{σ σ':St}{d:D}(h:Ai P o (o.op.operands.toList.map (evN env)) σ d σ'):Ai P o (DY env o) σ d σ':=by
 intro E g a w K Q hw hds hK
 refine h E g a w K Q hw ?_ hK
 unfold DY at hds
 generalize o.op.operands.toList=l at hds⊢
 induction l with
 |nil=>simp[Ac]
 |cons x l ih=>
  simp only[map_cons,Ac] at hds⊢
  obtain⟨u,us,e,h1,h2⟩:=hds
  simp only[List.cons.injEq] at e
  obtain⟨rfl,rfl⟩:=e
  refine⟨_,_,rfl,?_,ih h2⟩
  cases x with
  |const u=>exact nilC_sub
  |_=>exact h1
theorem vDr_ok{P:Program}{im:List Nat}{ops:Array Oper}{n:Nat}{K:KD}(hops:ops.size<1000000):∀{L:List Oper} {rec:List DK} {sts:List St} {j:Nat} {s:Sc} {env:List D} {σ:St},env.length=n->sts.length=j+1->sts[j]?=some σ->vDr P im ops L rec sts j s env σ K->
  ∃rec' sts' s' env' σ',K (rec++rec') (sts++sts') s' env'/\env'.length=n/\rec'.length=L.length/\(sts++sts')[j+sts'.length]?=some σ'/\
   ∀lim:Nat->Nat->Option Nat,Gf lim (sts++sts') rec' rec.length->∃vals,F5 P ops (fun _=>sts++sts') 1000000 L env j vals (efsAt lim rec.length rec') env' (j+sts'.length)
 |[],rec,sts,j,s,env,σ,hn,hl,hs,h=>by
  refine⟨[],[],s,env,σ,?_,hn,rfl,by simpa using hs,fun lim _=>⟨[],.nil⟩⟩
  have h':K rec sts s env:=h
  simpa using h'
 |o::L,rec,sts,j,s,env,σ,hn,hl,hs,h=>by
  have h':exs s fun s=>FQ ops rec.length o s env fun b s env=>
   Bool.rec (CT env o.dst (.tup []) fun env=>A9 rec .q fun rec=>vDr P im ops L rec sts j s env σ K)
    (evsK env o.op.operands.toList fun ds=>vOp P im o ds σ s fun s d σ' kd=>CT env o.dst d fun env=>match kd with
     |.pure=>A9 rec .q fun rec=>vDr P im ops L rec sts j s env σ K
     |.load q off n=>A9 rec (.l j q off n) fun rec=>vDr P im ops L rec sts j s env σ K
     |.eff=>A9 rec .e fun rec=>A9 sts σ' fun sts=>vDr P im ops L rec sts (Nat.succ j) s env σ' K) b:=h
  have hne:ops.size- (L.length+1)≠1000000:=by omega
  have hput:∀(d:D),(AK env o.dst d).length=n:=fun d=>by cases o.dst<;>simp[AK,hn]
  obtain⟨s0,h'⟩:=exs_ok h'
  obtain⟨b,s1,h1,h2⟩:=vGuard_ok h'
  cases b with
  |false=>
   have h3:CT env o.dst (.tup []) fun env=>A9 rec .q fun rec=>vDr P im ops L rec sts j s1 env σ K:=h1
   rw[CL,A7] at h3
   obtain⟨rec',sts',s',env',σ',k1,k2,k3,k4,k5⟩:=vDr_ok hops (hput _) hl hs h3
   refine⟨.q::rec',sts',s',env',σ',by simpa using k1,k2,by simp[k3],k4,fun lim hlo=>?_⟩
   obtain⟨vals,hv⟩:=k5 lim (by have:=EZ hlo;simpa using this)
   refine⟨_,.skip hne h2 (by simpa[efsAt] using hv)⟩
  |true=>
   have h3:evsK env o.op.operands.toList fun ds=>vOp P im o ds σ s1 fun s d σ' kd=>CT env o.dst d fun env=>match kd with
     |.pure=>A9 rec .q fun rec=>vDr P im ops L rec sts j s env σ K
     |.load q off n=>A9 rec (.l j q off n) fun rec=>vDr P im ops L rec sts j s env σ K
     |.eff=>A9 rec .e fun rec=>A9 sts σ' fun sts=>vDr P im ops L rec sts (Nat.succ j) s env σ' K:=h1
   rw[evsK_eq] at h3
   obtain⟨s2,d,σ2,kd,h4,h5⟩:=Ci h3
   rw[CL] at h4
   have hidx:ops.size- (L.length+1)≠1000000:=hne
   cases kd with
   |pure=>
    have h6:A9 rec .q fun rec=>vDr P im ops L rec sts j s2 (AK env o.dst d) σ K:=h4
    rw[A7] at h6
    obtain⟨rec',sts',s',env',σ',k1,k2,k3,k4,k5⟩:=vDr_ok hops (hput _) hl hs h6
    refine⟨.q::rec',sts',s',env',σ',by simpa using k1,k2,by simp[k3],k4,fun lim hlo=>?_⟩
    obtain⟨vals,hv⟩:=k5 lim (by have:=EZ hlo;simpa using this)
    exact⟨_,.quiet hne h2 (fun _ τ _=>Cm (h5.2 τ)) (by simpa[efsAt] using hv)⟩
   |load q off m=>
    have h6:A9 rec (.l j q off m) fun rec=>vDr P im ops L rec sts j s2 (AK env o.dst d) σ K:=h4
    rw[A7] at h6
    obtain⟨rec',sts',s',env',σ',k1,k2,k3,k4,k5⟩:=vDr_ok hops (hput _) hl hs h6
    refine⟨.l j q off m::rec',sts',s',env',σ',by simpa using k1,k2,by simp[k3],k4,fun lim hlo=>?_⟩
    obtain⟨vals,hv⟩:=k5 lim (by have:=EZ hlo;simpa using this)
    have hv':F5 P ops (fun _=>sts++sts') 1000000 L (AK env o.dst d) j vals (efsAt lim (rec.length+1) rec') env' (j+sts'.length):=by simpa using hv
    have hjs:(sts++sts')[j]?=some σ:=by rw[getElem?_append_left (by omega)];exact hs
    have hsame:∀x τ,(sts++sts')[x]?=some τ->(∀b,lim rec.length j=some b->x<=b)->Ai P o (DY env o) τ d τ:=by
     intro x τ hx hb
     refine Cm (h5.2.2 τ ?_)
     by_cases e:x=j
     ·subst e;rw[hjs] at hx;simp at hx;rw[hx]
     ·have hl0:(match (sts++sts')[j]? with
       |some τ=>sameQ q off m j (B2 τ q off m) (lim rec.length j) (sts++sts') 0/\Gf lim (sts++sts') rec' (Nat.succ rec.length)
       |none=>False):=hlo
      rw[hjs] at hl0
      exact sameQ_ok hl0.1 x τ hx (by simpa using e) (fun b hb'=>by simpa using hb b hb')
    cases hlim:lim rec.length j with
    |none=>
     refine⟨d::vals,?_⟩
     simp only[efsAt,efAt,hlim]
     refine .quiet hne h2 (fun _ τ hτ=>?_) hv'
     obtain⟨x,hx⟩:=List.getElem?_of_mem hτ
     exact hsame x τ hx (fun b hb=>by rw[hlim] at hb;simp at hb)
    |some b=>
     refine⟨d::vals,?_⟩
     simp only[efsAt,efAt,hlim]
     exact .quietW b hne h2 (fun _ c τ hc hτ=>hsame c τ hτ (fun b' hb=>by rw[hlim] at hb;simp at hb;omega)) hv'
   |eff=>
    have h6:A9 rec .e fun rec=>A9 sts σ2 fun sts=>vDr P im ops L rec sts (Nat.succ j) s2 (AK env o.dst d) σ2 K:=h4
    rw[A7,A7] at h6
    obtain⟨rec',sts',s',env',σ',k1,k2,k3,k4,k5⟩:=vDr_ok hops (hput _) (by simp[hl]) (by rw[getElem?_append_right (by omega)];simp[hl]) h6
    refine⟨.e::rec',σ2::sts',s',env',σ',by simpa using k1,k2,by simp[k3],?_,fun lim hlo=>?_⟩
    ·have e:j+(σ2::sts').length=Nat.succ j+sts'.length:=by simp;omega
     rw[e];simpa using k4
    ·obtain⟨vals,hv⟩:=k5 lim (by have:=EZ hlo;simpa using this)
     have hv':F5 P ops (fun _=>sts++σ2::sts') 1000000 L (AK env o.dst d) (j+1) vals (efsAt lim (rec.length+1) rec') env' (j+(σ2::sts').length):=by
      have e:j+(σ2::sts').length=Nat.succ j+sts'.length:=by simp;omega
      rw[e];simpa using hv
     refine⟨_,.eff hne h2 (fun _ τ hτ _=>⟨σ2,?_,?_⟩) hv'⟩
     ·rw[getElem?_append_right (by omega)];simp[hl]
     ·rw[getElem?_append_left (by omega),hs] at hτ
      simp at hτ;subst hτ
      exact Cm h5
theorem vDraw_ok{C:Ent->Ent->Prop}{P:Program}{R:List D->St->Prop}{k:List KI}(hm:P.follows .mixedOrders=true){im:List Nat}{id:Nat}{ops:Array Oper}{s:Sc}{env:List D}{σ:St}{n:Nat}{K:Sc->List D->St->Prop}(hn:env.length=n)
  (hK:∀s env σ,env.length=n->K s env σ->A2 C P R k env σ) (h:vDraw P im ops s env σ K):A2 C P R (.code (.region id ops true)::k) env σ:=by
 obtain⟨h1,h2⟩:=Am h
 have hops:ops.size<1000000:=Nat.le_of_ble_eq_true h1
 obtain⟨rec,sts,s',env',σ',k1,k2,k3,k4,k5⟩:=vDr_ok hops hn (by simp) (by simp) h2
 obtain⟨h3,h5⟩:=Am k1
 simp only[nil_append] at h3 h5
 simp only[Nat.zero_add] at k4
 split at h5
 ·rename_i τ hτ
  have h6:Gf (limOf ops rec) ([σ]++sts) rec 0/\K s' env' τ:=by
   cases hb:noLoads rec with
   |true=>rw[hb] at h5;exact⟨noLoads_ok hb,h5⟩
   |false=>rw[hb] at h5;exact h5
  obtain⟨h4,h5⟩:=h6
  obtain⟨vals,hv⟩:=k5 (limOf ops rec) (by simpa using h4)
  simp only[Nat.zero_add] at hv
  have:τ=σ':=by
   rw[List.getLast?_eq_getElem?] at hτ
   rw[show([σ]++sts).length-1=sts.length by simp] at hτ
   rw[k4] at hτ;simpa using hτ.symm
  subst this
  refine G7 hm (fun _=>[σ]++sts) 1000000 (by simp) k4 hv ?_ (hK _ _ _ k2 h5)
  simpa using h3
 ·exact h5.elim
structure Ld where
 q:Nat
 off:Nat
 n:Nat
 c:Option (List D)
noncomputable def allSame(q off n:Nat)(c0:Option (List D))(sts:List St):Prop:=List.rec (motive:=fun _=>Prop) True (fun τ _ ih=>B2 τ q off n=c0/\ih) sts
theorem allSame_ok{q off n:Nat}{c0:Option (List D)}:∀{sts:List St},allSame q off n c0 sts->∀τ∈sts,B2 τ q off n=c0
 |[],_,τ,h=>absurd h (by simp)
 |σ::sts,h,τ,hτ=>by
  have h':B2 σ q off n=c0/\allSame q off n c0 sts:=h
  rcases mem_cons.1 hτ with rfl|hτ
  ·exact h'.1
  ·exact allSame_ok h'.2 τ hτ
noncomputable def ldsQ(sts:List St)(l:List Ld):Prop:=List.rec (motive:=fun _=>Prop) True (fun x _ ih=>allSame x.q x.off x.n x.c sts/\ih) l
theorem ldsQ_ok{sts:List St}:∀{l:List Ld},ldsQ sts l->∀x∈l,∀τ∈sts,B2 τ x.q x.off x.n=x.c
 |[],_,x,h=>absurd h (by simp)
 |y::l,h,x,hx=>by
  have h':allSame y.q y.off y.n y.c sts/\ldsQ sts l:=h
  rcases mem_cons.1 hx with rfl|hx
  ·exact allSame_ok h'.1
  ·exact ldsQ_ok h'.2 x hx
def withO(cs:List D)(τ:St):St:=⟨τ.H++[some cs],τ.own⟩
def addS(ad τ:St):St:=⟨τ.H++ad.H,ad.own++τ.own⟩
noncomputable def allSt(f:St->Prop)(l:List St):Prop:=List.rec (motive:=fun _=>Prop) True (fun τ _ p=>f τ/\p) l
theorem allSt_ok{f:St->Prop}:∀{l:List St},allSt f l->∀τ∈l,f τ
 |[],_,τ,h=>by simp at h
 |x::l,h,τ,hτ=>by
  have h:f x/\allSt f l:=h
  rcases mem_cons.1 hτ with rfl|hτ
  ·exact h.1
  ·exact allSt_ok h.2 τ hτ
abbrev KD2:=List St->List St->List Ld->List Ef->Sc->List D->Prop
noncomputable def vDr2(P:Program)(im:List Nat)(ops:Array Oper)(fr:Nat)(ad:St)(K:KD2)(L:List Oper):Nat->Bool->(St->St->Prop)->List St->List St->List Ld->List Ef->Sc->List D->St->St->Prop:=
 List.rec (motive:=fun _=>Nat->Bool->(St->St->Prop)->List St->List St->List Ld->List Ef->Sc->List D->St->St->Prop) (fun _ _ _ LF LT lds ef s env _ _=>K LF LT lds ef s env)
  (fun o _ ih i af pd LF LT lds ef s env σF σT=>exs s fun s=>FQ ops i o s env fun b s env=>
   Bool.rec
    (Bool.rec (CT env o.dst (.tup []) fun env=>A9 ef (false,none) fun ef=>ih (Nat.succ i) af pd LF LT lds ef s env σF σT) False (Nat.beq i fr))
    (Bool.rec
     (evsK env o.op.operands.toList fun ds=>vOp P im o ds (Bool.rec σF σT af) s fun s1 d σ1 kd=>match kd with
      |.pure=>CT env o.dst d fun env=>A9 ef (false,none) fun ef=>ih (Nat.succ i) af pd LF LT lds ef s1 env σF σT
      |.load q off n=>CT env o.dst d fun env=>A9 ef (false,none) fun ef=>A9 lds ⟨q,off,n,B2 (Bool.rec σF σT af) q off n⟩ fun lds=>ih (Nat.succ i) af pd LF LT lds ef s1 env σF σT
      |.eff=>Bool.rec
       (vOp P im o ds σT s fun _ d2 σ2 kd2=>match kd2 with
        |.eff=>d2=d/\CT env o.dst d fun env=>A9 ef (true,none) fun ef=>A9 LF σ1 fun LF=>A9 LT σ2 fun LT=>ih (Nat.succ i) af pd LF LT lds ef s1 env σ1 σ2
        |_=>False)
       (cond (needs ops i fr) (CT env o.dst d fun env=>A9 ef (true,none) fun ef=>A9 LT σ1 fun LT=>ih (Nat.succ i) af pd LF LT lds ef s1 env σF σ1)
        (cond (Nat.beq LF.length LT.length) (vOp P im o ds σF s fun _ d2 σ2 kd2=>match kd2 with
         |.eff=>d2=d/\pd σ2 σ1/\CT env o.dst d fun env=>A9 ef (true,none) fun ef=>A9 LF σ2 fun LF=>A9 LT σ1 fun LT=>ih (Nat.succ i) af pd LF LT lds ef s1 env σ2 σ1
         |_=>False) False)) af)
     (match (generalizing:=false) o.op,af with
      |.alloc e,false=>(match zeroN P e with
       |some xs=>cond (LF.all fun τ=>Nat.beq τ.H.length σF.H.length) (LT=LF.map (withO (xs.map .v))/\CT env o.dst (.ptr σF.H.length 0) fun env=>A9 ef (false,none) fun ef=>ih (Nat.succ i) true (fun τ τ1=>τ1=withO (xs.map .v) τ/\τ.H.length=σF.H.length) LF LT lds ef s env σF σT) False
       |none=>False)
      |_,false=>(match s with
       |.h (.o d _) s=>evsK env o.op.operands.toList fun ds=>LT=LF.map (addS ad)/\allSt (fun τ=>Ai P o ds τ d (addS ad τ)) LF/\CT env o.dst d fun env=>A9 ef (false,none) fun ef=>ih (Nat.succ i) true (fun τ τ1=>τ1=addS ad τ/\Ai P o ds τ d (addS ad τ)) LF LT lds ef s env σF σT
       |_=>False)
      |_,_=>False) (Nat.beq i fr)) b) L
theorem DH{P:Program}{im:List Nat}{ops:Array Oper}{fr n:Nat}{ad:St}{K:KD2}:∀{L:List Oper} {i:Nat} {af:Bool} {pd:St->St->Prop} {LF LT:List St} {lds:List Ld} {ef:List Ef} {s:Sc} {env:List D} {σF σT:St} {j:Nat},env.length=n->i+L.length=ops.size->LT.length=j+1->LT[j]?=some σT->
  (af=false->LF.length=j+1)->(LF.length=j+1->LF[j]?=some σF)->LF.length<=j+1->vDr2 P im ops fr ad K L i af pd LF LT lds ef s env σF σT->
  ∃LF' LT' lds' ef' s' env' σ',K (LF++LF') (LT++LT') (lds++lds') (ef++ef') s' env'/\env'.length=n/\(LT++LT')[j+LT'.length]?=some σ'/\(af=true->(LF.length=LT.length∨LF'=[])/\∀(c:Nat) (τ:St),LF'[c]?=some τ->∃τ1,LT'[c]?=some τ1/\pd τ τ1)/\
   ((∀x∈lds',∀τ∈ (LF++LF')++(LT++LT'),B2 τ x.q x.off x.n=x.c)->∃vals,F5 P ops (Cq (LF++LF') (LT++LT')) fr L env j vals ef' env' (j+LT'.length))
 |[],i,af,pd,LF,LT,lds,ef,s,env,σF,σT,j,hn,hi,hl,hs,hF,hF2,hF3,h=>by
  refine⟨[],[],[],[],s,env,σT,?_,hn,by simpa using hs,fun _=>⟨.inr rfl,fun c τ hc=>by simp at hc⟩,fun _=>⟨[],.nil⟩⟩
  have h':K LF LT lds ef s env:=h
  simpa using h'
 |o::L,i,af,pd,LF,LT,lds,ef,s,env,σF,σT,j,hn,hi,hl,hs,hF,hF2,hF3,h=>by
  have h':exs s fun s=>FQ ops i o s env fun b s env=>
   Bool.rec
    (Bool.rec (CT env o.dst (.tup []) fun env=>A9 ef (false,none) fun ef=>vDr2 P im ops fr ad K L (Nat.succ i) af pd LF LT lds ef s env σF σT) False (Nat.beq i fr))
    (Bool.rec
     (evsK env o.op.operands.toList fun ds=>vOp P im o ds (Bool.rec σF σT af) s fun s1 d σ1 kd=>match kd with
      |.pure=>CT env o.dst d fun env=>A9 ef (false,none) fun ef=>vDr2 P im ops fr ad K L (Nat.succ i) af pd LF LT lds ef s1 env σF σT
      |.load q off n=>CT env o.dst d fun env=>A9 ef (false,none) fun ef=>A9 lds ⟨q,off,n,B2 (Bool.rec σF σT af) q off n⟩ fun lds=>vDr2 P im ops fr ad K L (Nat.succ i) af pd LF LT lds ef s1 env σF σT
      |.eff=>Bool.rec
       (vOp P im o ds σT s fun _ d2 σ2 kd2=>match kd2 with
        |.eff=>d2=d/\CT env o.dst d fun env=>A9 ef (true,none) fun ef=>A9 LF σ1 fun LF=>A9 LT σ2 fun LT=>vDr2 P im ops fr ad K L (Nat.succ i) af pd LF LT lds ef s1 env σ1 σ2
        |_=>False)
       (cond (needs ops i fr) (CT env o.dst d fun env=>A9 ef (true,none) fun ef=>A9 LT σ1 fun LT=>vDr2 P im ops fr ad K L (Nat.succ i) af pd LF LT lds ef s1 env σF σ1)
        (cond (Nat.beq LF.length LT.length) (vOp P im o ds σF s fun _ d2 σ2 kd2=>match kd2 with
         |.eff=>d2=d/\pd σ2 σ1/\CT env o.dst d fun env=>A9 ef (true,none) fun ef=>A9 LF σ2 fun LF=>A9 LT σ1 fun LT=>vDr2 P im ops fr ad K L (Nat.succ i) af pd LF LT lds ef s1 env σ2 σ1
         |_=>False) False)) af)
     (match (generalizing:=false) o.op,af with
      |.alloc e,false=>(match zeroN P e with
       |some xs=>cond (LF.all fun τ=>Nat.beq τ.H.length σF.H.length) (LT=LF.map (withO (xs.map .v))/\CT env o.dst (.ptr σF.H.length 0) fun env=>A9 ef (false,none) fun ef=>vDr2 P im ops fr ad K L (Nat.succ i) true (fun τ τ1=>τ1=withO (xs.map .v) τ/\τ.H.length=σF.H.length) LF LT lds ef s env σF σT) False
       |none=>False)
      |_,false=>(match s with
       |.h (.o d _) s=>evsK env o.op.operands.toList fun ds=>LT=LF.map (addS ad)/\allSt (fun τ=>Ai P o ds τ d (addS ad τ)) LF/\CT env o.dst d fun env=>A9 ef (false,none) fun ef=>vDr2 P im ops fr ad K L (Nat.succ i) true (fun τ τ1=>τ1=addS ad τ/\Ai P o ds τ d (addS ad τ)) LF LT lds ef s env σF σT
       |_=>False)
      |_,_=>False) (Nat.beq i fr)) b:=h
  clear h
  have hidx:ops.size- (L.length+1)=i:=by simp at hi;omega
  have hi':Nat.succ i+L.length=ops.size:=by simp at hi;omega
  have hput:∀(d:D),(AK env o.dst d).length=n:=fun d=>by cases o.dst<;>simp[AK,hn]
  obtain⟨s0,h'⟩:=exs_ok h'
  obtain⟨b,s1,h1,h2⟩:=vGuard_ok h'
  have snoc2:∀{α:Type} (a:List α) (x:α) (r:List α),a++[x]++r=a++x::r:=fun a x r=>by simp
  cases b with
  |false=>
   cases hb:Nat.beq i fr with
   |true=>simp only[hb] at h1
   |false=>
    have hne:ops.size- (L.length+1)≠fr:=by rw[hidx];exact fun e=>by rw[e,Nat.beq_refl] at hb;simp at hb
    simp only[hb] at h1
    rw[CL,A7] at h1
    obtain⟨LF',LT',lds',ef',s',env',σ',k1,k2,k3,k4,k5⟩:=DH (hput _) hi' hl hs hF hF2 hF3 h1
    refine⟨LF',LT',lds',(false,none)::ef',s',env',σ',by simpa using k1,k2,k3,k4,fun hlo=>?_⟩
    obtain⟨vals,hv⟩:=k5 hlo
    exact⟨_,.skip hne h2 hv⟩
  |true=>
   cases hb:Nat.beq i fr with
   |true=>
    simp only[hb] at h1
    split at h1
    ·rename_i e heq _
     split at h1
     ·rename_i xs hz
      obtain⟨hall,h3,h4⟩:=Am h1
      rw[CL,A7] at h4
      have hF1:=hF rfl
      obtain⟨LF',LT',lds',ef',s',env',σ',k1,k2,k3,k4,k5⟩:=DH (af:=true) (hput _) hi' hl hs (fun e=>by simp at e) hF2 hF3 h4
      refine⟨LF',LT',lds',(false,none)::ef',s',env',σ',by simpa using k1,k2,k3,fun e=>by simp at e,fun hlo=>?_⟩
      obtain⟨vals,hv⟩:=k5 hlo
      have hLF:=(k4 rfl).2
      refine⟨_,.free (by rw[hidx];exact(Nat.eq_of_beq_eq_true hb).symm) h2 (fun c τ hc=>?_) hv⟩
      have hc:(LF++LF')[c]?=some τ:=by simpa[Cq] using hc
      have hopA:∀τ:St,τ.H.length=σF.H.length->Ai P o (DY env o) τ (.ptr σF.H.length 0) (withO (xs.map .v) τ):=fun τ hlen=>by
       rw[←hlen]
       have:=op_allocN (P:=P) (o:=o) (σ:=τ) heq hz
       exact Cm (by simpa[heq,Op.operands,withO] using this)
      rcases Nat.lt_or_ge c LF.length with hcl|hcl
      rotate_left
      ·rw[getElem?_append_right (by omega)] at hc
       obtain⟨τ1,g1,rfl,g3⟩:=hLF _ _ hc
       refine⟨_,?_,hopA τ g3⟩
       simp only[Cq]
       rw[getElem?_append_right (by omega),show c-LT.length=c-LF.length by omega];exact g1
      rw[getElem?_append_left hcl] at hc
      refine⟨withO (xs.map .v) τ,?_,?_⟩
      ·have:LT[c]?=some (withO (xs.map .v) τ):=by rw[h3,getElem?_map,hc];rfl
       have hlt:=(List.getElem?_eq_some_iff.1 this).1
       simp only[Cq]
       rw[getElem?_append_left hlt];exact this
      ·have hlen:=all_eq_true.1 hall τ (mem_of_getElem? hc)
       have hlen:=Nat.eq_of_beq_eq_true hlen
       exact hopA τ hlen
     ·exact h1.elim
    ·split at h1
     ·rename_i d _ s2
      rw[evsK_eq] at h1
      obtain⟨h3,hop,h4⟩:=h1
      rw[CL,A7] at h4
      have hF1:=hF rfl
      obtain⟨LF',LT',lds',ef',s',env',σ',k1,k2,k3,k4,k5⟩:=DH (af:=true) (hput _) hi' hl hs (fun e=>by simp at e) hF2 hF3 h4
      refine⟨LF',LT',lds',(false,none)::ef',s',env',σ',by simpa using k1,k2,k3,fun e=>by simp at e,fun hlo=>?_⟩
      obtain⟨vals,hv⟩:=k5 hlo
      have hLF:=(k4 rfl).2
      refine⟨_,.free (by rw[hidx];exact(Nat.eq_of_beq_eq_true hb).symm) h2 (fun c τ hc=>?_) hv⟩
      have hc:(LF++LF')[c]?=some τ:=by simpa[Cq] using hc
      rcases Nat.lt_or_ge c LF.length with hcl|hcl
      rotate_left
      ·rw[getElem?_append_right (by omega)] at hc
       obtain⟨τ1,g1,rfl,g3⟩:=hLF _ _ hc
       refine⟨_,?_,Cm g3⟩
       simp only[Cq]
       rw[getElem?_append_right (by omega),show c-LT.length=c-LF.length by omega];exact g1
      rw[getElem?_append_left hcl] at hc
      refine⟨addS ad τ,?_,Cm (allSt_ok hop τ (mem_of_getElem? hc))⟩
      have:LT[c]?=some (addS ad τ):=by rw[h3,getElem?_map,hc];rfl
      have hlt:=(List.getElem?_eq_some_iff.1 this).1
      simp only[Cq]
      rw[getElem?_append_left hlt];exact this
     ·exact h1.elim
    ·exact h1.elim
   |false=>
    have hne:ops.size- (L.length+1)≠fr:=by rw[hidx];exact fun e=>by rw[e,Nat.beq_refl] at hb;simp at hb
    simp only[hb] at h1
    rw[evsK_eq] at h1
    obtain⟨s2,d,σ1,kd,h4,h5⟩:=Ci h1
    cases kd with
    |pure=>
     simp only at h4
     rw[CL,A7] at h4
     obtain⟨LF',LT',lds',ef',s',env',σ',k1,k2,k3,k4,k5⟩:=DH (hput _) hi' hl hs hF hF2 hF3 h4
     refine⟨LF',LT',lds',(false,none)::ef',s',env',σ',by simpa using k1,k2,k3,k4,fun hlo=>?_⟩
     obtain⟨vals,hv⟩:=k5 hlo
     exact⟨_,.quiet hne h2 (fun _ τ _=>Cm (h5.2 τ)) hv⟩
    |load q off m=>
     simp only at h4
     rw[CL,A7,A7] at h4
     obtain⟨LF',LT',lds',ef',s',env',σ',k1,k2,k3,k4,k5⟩:=DH (hput _) hi' hl hs hF hF2 hF3 h4
     refine⟨LF',LT',_::lds',(false,none)::ef',s',env',σ',by simpa using k1,k2,k3,k4,fun hlo=>?_⟩
     obtain⟨vals,hv⟩:=k5 (fun x hx=>hlo x (List.mem_cons_of_mem _ hx))
     refine⟨_,.quiet hne h2 (fun b τ hτ=>Cm (h5.2.2 τ ?_)) hv⟩
     refine hlo _ (List.mem_cons_self ..) τ ?_
     cases b
     ·exact mem_append.2 (.inl (by simpa[Cq] using hτ))
     ·exact mem_append.2 (.inr (by simpa[Cq] using hτ))
    |eff=>
     cases af with
     |true=>
      simp only at h4
      cases hnd:needs ops i fr with
      |true=>
       rw[hnd,cond_true] at h4
       have hneed:=hnd
       rw[CL,A7,A7] at h4
       obtain⟨LF',LT',lds',ef',s',env',σ',k1,k2,k3,k4,k5⟩:=DH (j:=j+1) (hput _) hi' (by simp[hl]) (by rw[getElem?_append_right (by omega)];simp[hl]) (fun e=>by simp at e) (fun e=>by omega) (by omega) h4
       have e1:j+(σ1::LT').length=j+1+LT'.length:=by simp;omega
       have hLF0:LF'=[]:=by
        rcases(k4 rfl).1 with h|h
        ·simp only[length_append,length_cons,length_nil] at h;omega
        ·exact h
       rw[snoc2] at k1 k3
       refine⟨LF',σ1::LT',lds',(true,none)::ef',s',env',σ',by simpa using k1,k2,by rw[e1];exact k3,fun _=>⟨.inr hLF0,fun c τ hc=>by rw[hLF0] at hc;simp at hc⟩,fun hlo=>?_⟩
       obtain⟨vals,hv⟩:=k5 (by rw[snoc2];exact hlo)
       rw[snoc2] at hv
       rw[e1]
       refine⟨_,.eff hne h2 (fun b τ hτ hneedF=>?_) hv⟩
       cases b with
       |false=>have:=hneedF rfl;rw[hidx,hneed] at this;simp at this
       |true=>
        have hτ:(LT++σ1::LT')[j]?=some τ:=by simpa[Cq] using hτ
        rw[getElem?_append_left (by omega),hs] at hτ
        simp at hτ;subst hτ
        refine⟨σ1,?_,Cm h5⟩
        simp only[Cq]
        rw[getElem?_append_right (by omega)];simp[hl]
      |false=>
       rw[hnd,cond_false] at h4
       obtain⟨hlen,h4⟩:=Am h4
       have hlen:=Nat.eq_of_beq_eq_true hlen
       have hF1:LF.length=j+1:=by omega
       obtain⟨s3,d2,σ2,kd2,h6,h7⟩:=Ci h4
       cases kd2 with
       |pure=>exact h6.elim
       |load=>exact h6.elim
       |eff=>
        obtain⟨rfl,hpd,h6⟩:=h6
        rw[CL,A7,A7,A7] at h6
        obtain⟨LF',LT',lds',ef',s',env',σ',k1,k2,k3,k4,k5⟩:=DH (af:=true) (j:=j+1) (hput _) hi' (by simp[hl]) (by rw[getElem?_append_right (by omega)];simp[hl]) (fun _=>by simp[hF1]) (fun _=>by rw[getElem?_append_right (by omega)];simp[hF1]) (by simp[hF1]) h6
        have e1:j+(σ1::LT').length=j+1+LT'.length:=by simp;omega
        rw[snoc2] at k3
        rw[snoc2,snoc2] at k1
        refine⟨σ2::LF',σ1::LT',lds',(true,none)::ef',s',env',σ',by simpa using k1,k2,by rw[e1];exact k3,fun _=>⟨.inl hlen,fun c τ hc=>?k4⟩,fun hlo=>?_⟩
        case k4=>
         cases c with
         |zero=>simp at hc;subst hc;exact⟨σ1,rfl,hpd⟩
         |succ c=>exact(k4 rfl).2 c τ (by simpa using hc)
        obtain⟨vals,hv⟩:=k5 (by rw[snoc2,snoc2];exact hlo)
        rw[snoc2,snoc2] at hv
        rw[e1]
        refine⟨_,.eff hne h2 (fun b τ hτ _=>?_) hv⟩
        cases b with
        |false=>
         have hτ:(LF++σ2::LF')[j]?=some τ:=by simpa[Cq] using hτ
         rw[getElem?_append_left (by omega),hF2 hF1] at hτ
         simp at hτ;subst hτ
         refine⟨σ2,?_,Cm h7⟩
         simp only[Cq]
         rw[getElem?_append_right (by omega)];simp[hF1]
        |true=>
         have hτ:(LT++σ1::LT')[j]?=some τ:=by simpa[Cq] using hτ
         rw[getElem?_append_left (by omega),hs] at hτ
         simp at hτ;subst hτ
         refine⟨σ1,?_,Cm h5⟩
         simp only[Cq]
         rw[getElem?_append_right (by omega)];simp[hl]
     |false=>
      simp only at h4
      have hF1:=hF rfl
      obtain⟨s3,d2,σ2,kd2,h6,h7⟩:=Ci h4
      cases kd2 with
      |pure=>exact h6.elim
      |load=>exact h6.elim
      |eff=>
       obtain⟨rfl,h6⟩:=h6
       rw[CL,A7,A7,A7] at h6
       obtain⟨LF',LT',lds',ef',s',env',σ',k1,k2,k3,k4,k5⟩:=DH (af:=false) (j:=j+1) (hput _) hi' (by simp[hl]) (by rw[getElem?_append_right (by omega)];simp[hl]) (fun _=>by simp[hF1]) (fun _=>by rw[getElem?_append_right (by omega)];simp[hF1]) (by simp[hF1]) h6
       have e1:j+(σ2::LT').length=j+1+LT'.length:=by simp;omega
       rw[snoc2] at k3
       rw[snoc2,snoc2] at k1
       refine⟨σ1::LF',σ2::LT',lds',(true,none)::ef',s',env',σ',by simpa using k1,k2,by rw[e1];exact k3,fun e=>by simp at e,fun hlo=>?_⟩
       obtain⟨vals,hv⟩:=k5 (by rw[snoc2,snoc2];exact hlo)
       rw[snoc2,snoc2] at hv
       rw[e1]
       refine⟨_,.eff hne h2 (fun b τ hτ _=>?_) hv⟩
       cases b with
       |false=>
        have hτ:(LF++σ1::LF')[j]?=some τ:=by simpa[Cq] using hτ
        rw[getElem?_append_left (by omega),hF2 hF1] at hτ
        simp at hτ;subst hτ
        refine⟨σ1,?_,Cm h5⟩
        simp only[Cq]
        rw[getElem?_append_right (by omega)];simp[hF1]
       |true=>
        have hτ:(LT++σ2::LT')[j]?=some τ:=by simpa[Cq] using hτ
        rw[getElem?_append_left (by omega),hs] at hτ
        simp at hτ;subst hτ
        refine⟨σ2,?_,Cm h7⟩
        simp only[Cq]
        rw[getElem?_append_right (by omega)];simp[hl]
noncomputable def vDraw2(P:Program)(im:List Nat)(ops:Array Oper)(fr:Nat)(s:Sc)(env:List D)(σ:St)(K:Sc->List D->St->Prop):Prop:=
 cond (Nat.blt fr ops.size) (match (ops[fr]?).map Oper.op with
  |some (.alloc e)=>(match zeroN P e with
   |some xs=>AM (xs.map .v) fun cs=>A9 σ.H (some cs) fun H=>vDr2 P im ops fr σ (fun LF LT lds ef s env=>cond (GM ops ef) (match LT.getLast? with
    |some τ=>ldsQ (LF++LT) lds/\K s env τ
    |none=>False) False) ops.toList 0 false (fun _ _=>False) [σ] [⟨H,σ.own⟩] [] [] s env σ ⟨H,σ.own⟩
   |none=>False)
  |_=>(match s with
   |.h (.cs ad) s=>AM (σ.H++ad.H) fun H=>AM (ad.own++σ.own) fun own=>vDr2 P im ops fr ad (fun LF LT lds ef s env=>cond (GM ops ef) (match LT.getLast? with
    |some τ=>ldsQ (LF++LT) lds/\K s env τ
    |none=>False) False) ops.toList 0 false (fun _ _=>False) [σ] [⟨H,own⟩] [] [] s env σ ⟨H,own⟩
   |_=>False)) False
theorem vDraw2_ok{C:Ent->Ent->Prop}{P:Program}{R:List D->St->Prop}{k:List KI}(hm:P.follows .mixedOrders=true){im:List Nat}{id:Nat}{ops:Array Oper}{fr:Nat}{s:Sc}{env:List D}{σ:St}{n:Nat}{K:Sc->List D->St->Prop}(hn:env.length=n)
  (hK:∀s env σ,env.length=n->K s env σ->A2 C P R k env σ) (h:vDraw2 P im ops fr s env σ K):A2 C P R (.code (.region id ops true)::k) env σ:=by
 obtain⟨h1,h2⟩:=Am h
 have hfr:fr<ops.size:=Nat.le_of_ble_eq_true h1
 split at h2
 ·split at h2
  ·rename_i xs hz
   rw[AI,A7] at h2
   obtain⟨LF',LT',lds',ef',s',env',σ',k1,k2,k3,k4,k5⟩:=DH (j:=0) hn (by simp) (by simp) (by simp) (fun _=>by simp) (fun _=>by simp) (by simp) h2
   obtain⟨h3,h5⟩:=Am k1
   simp only[nil_append] at h3 h5
   simp only[Nat.zero_add] at k3
   split at h5
   ·rename_i τ hτ
    obtain⟨h4,h5⟩:=h5
    obtain⟨vals,hv⟩:=k5 (ldsQ_ok h4)
    simp only[Nat.zero_add] at hv
    have:τ=σ':=by
     rw[List.getLast?_eq_getElem?] at hτ
     rw[show([(⟨σ.H++[some (xs.map .v)],σ.own⟩:St)]++LT').length-1=LT'.length by simp] at hτ
     rw[k3] at hτ;simpa using hτ.symm
    subst this
    refine G7 hm (Cq ([σ]++LF') ([⟨σ.H++[some (xs.map .v)],σ.own⟩]++LT')) fr (by simp[Cq]) (by rw[decide_eq_true hfr];simpa[Cq] using k3) hv ?_ (hK _ _ _ k2 h5)
    simpa using h3
   ·exact h5.elim
  ·exact h2.elim
 ·split at h2
  ·rename_i ad s2
   rw[AI,AI] at h2
   obtain⟨LF',LT',lds',ef',s',env',σ',k1,k2,k3,k4,k5⟩:=DH (j:=0) hn (by simp) (by simp) (by simp) (fun _=>by simp) (fun _=>by simp) (by simp) h2
   obtain⟨h3,h5⟩:=Am k1
   simp only[nil_append] at h3 h5
   simp only[Nat.zero_add] at k3
   split at h5
   ·rename_i τ hτ
    obtain⟨h4,h5⟩:=h5
    obtain⟨vals,hv⟩:=k5 (ldsQ_ok h4)
    simp only[Nat.zero_add] at hv
    have:τ=σ':=by
     rw[List.getLast?_eq_getElem?] at hτ
     rw[show([(⟨σ.H++ad.H,ad.own++σ.own⟩:St)]++LT').length-1=LT'.length by simp] at hτ
     rw[k3] at hτ;simpa using hτ.symm
    subst this
    refine G7 hm (Cq ([σ]++LF') ([⟨σ.H++ad.H,ad.own++σ.own⟩]++LT')) fr (by simp[Cq]) (by rw[decide_eq_true hfr];simpa[Cq] using k3) hv ?_ (hK _ _ _ k2 h5)
    simpa using h3
   ·exact h5.elim
  ·exact h2.elim
noncomputable def vDrawS(P:Program)(im:List Nat)(ops:Array Oper)(s:Sc)(env:List D)(σ:St)(K:Sc->List D->St->Prop):Prop:=match s with
 |.h (.dr fr) s=>vDraw2 P im ops fr s env σ K
 |s=>vDraw P im ops s env σ K
theorem vDrawS_ok{C:Ent->Ent->Prop}{P:Program}{R:List D->St->Prop}{k:List KI}(hm:P.follows .mixedOrders=true){im:List Nat}{id:Nat}{ops:Array Oper}{s:Sc}{env:List D}{σ:St}{n:Nat}{K:Sc->List D->St->Prop}(hn:env.length=n)
  (hK:∀s env σ,env.length=n->K s env σ->A2 C P R k env σ) (h:vDrawS P im ops s env σ K):A2 C P R (.code (.region id ops true)::k) env σ:=by
 unfold vDrawS at h
 split at h
 ·exact vDraw2_ok hm hn hK h
 ·exact vDraw_ok hm hn hK h
noncomputable def ownF(ts:List Nat)(own:List (Nat×Nat×List V)):List (Nat×Nat×List V):=own.filter fun x=>ts.contains x.1
structure It(p:Prop):Prop where
 it:p
def eqNil{α:Type}(a b:List α)(K:Prop):Prop:=match a with
 |[]=>K
 |x::a=>b=x::a/\K
theorem FG{α:Type}{a b:List α}{K:Prop}(h:eqNil a b K)(h0:a=[]->b=[]):b=a/\K:=by
 cases a with
 |nil=>exact⟨h0 rfl,h⟩
 |cons x a=>exact h
def okHP(op:Bool)(b:Bool)(K:Prop):Prop:=match op with
 |true=>b=true/\K
 |false=>cond b K False
theorem okHP_ok{op b:Bool}{K:Prop}(h:okHP op b K):b=true/\K:=by
 cases op
 ·exact Am h
 ·exact h
noncomputable def vLeaf(C:Ent->Ent->Prop)(m:Nat)(P:Program)(R:List D->St->Prop)(nt:Nat)(k:List KI)(sl:List (Nat×Option D))(σ':Option St)(op:Bool)(env:List D)(σ:St):Prop:=
 vPick env sl fun L=>match σ' with
  |none=>It (A2 C P R k (mkE nt L) σ)
  |some σ'=>cond (Nat.ble m σ'.H.length&&Nat.ble σ'.H.length σ.H.length&&D.okNs σ'.H.length (σ'.own.map (·.1)) (L.map (·.2))) (okHP op (okH σ'.H.length (σ'.own.map (·.1)) (σ.H.take σ'.H.length))
    (eqNil σ'.H (σ.H.take σ'.H.length) (eqNil σ'.own (ownF (σ'.own.map (·.1)) σ.own) (It (A2 C P R k (mkE nt L) σ'))))) False
theorem okNs_mkE{h:Nat}{ts:List Nat}:∀{L:List (Nat×D)} {e:List D},D.okNs h ts (L.map (·.2))=true->D.okNs h ts e=true->D.okNs h ts (L.foldl (fun e p=>e.set p.1 p.2) e)=true
 |[],e,_,he=>he
 |p::L,e,hL,he=>by
  simp only[map_cons,D.okNs,Bool.and_eq_true] at hL
  refine okNs_mkE (L:=L) hL.2 ?_
  have:∀(e:List D) (i:Nat),D.okNs h ts e=true->D.okNs h ts (e.set i p.2)=true:=by
   intro e
   induction e with
   |nil=>intro i h;simpa using h
   |cons a e ih=>
    intro i h
    simp only[D.okNs,Bool.and_eq_true] at h
    cases i with
    |zero=>simp only[set_cons_zero,D.okNs,Bool.and_eq_true];exact⟨hL.1,h.2⟩
    |succ i=>simp only[set_cons_succ,D.okNs,Bool.and_eq_true];exact⟨h.1,ih i h.2⟩
  exact this e p.1 he
theorem okNs_undef{h:Nat}{ts:List Nat}:∀n:Nat,D.okNs h ts (replicate n .undef)=true
 |0=>rfl
 |n+1=>by simp only[replicate_succ,D.okNs,D.okN,Bool.true_and];exact okNs_undef n
section
variable {P : Program} {R : List D -> St -> Prop} {k : List KI}
theorem vLeaf_ok{C:Ent->Ent->Prop}{m:Nat}(hCm:∀E0 E,C E0 E->E.g.n<=m){nt:Nat}{sl:List (Nat×Option D)}{σ':Option St}{op:Bool}{env:List D}{σ:St}(hn:env.length=nt)(h:vLeaf C m P R nt k sl σ' op env σ):A2 C P R k env σ:=by
 obtain⟨L,h1,h2⟩:=vPick_ok h
 obtain⟨hl,hg⟩:=mkE_forget hn h2
 cases σ' with
 |none=>exact FT hl hg h1.it
 |some σ'=>
  obtain⟨h3,h1⟩:=Am h1
  obtain⟨h8,h1⟩:=okHP_ok h1
  have h7:σ.H.take σ'.H.length=σ'.H/\ownF (σ'.own.map (·.1)) σ.own=σ'.own/\It (A2 C P R k (mkE nt L) σ'):=by
   obtain⟨e1,h1⟩:=FG h1 (fun e=>by rw[e];rfl)
   obtain⟨e2,h1⟩:=FG h1 (fun e=>by rw[e];unfold ownF;rw[List.filter_eq_nil_iff];simp)
   exact⟨e1,e2,h1⟩
  obtain⟨h4,h5,h6⟩:=h7
  simp only[Bool.and_eq_true] at h3
  refine FT hl hg (run_sh hCm (h:=σ'.H.length) h4.symm (Nat.le_of_ble_eq_true h3.1.2) (Nat.le_of_ble_eq_true h3.1.1) (okNs_mkE h3.2 (okNs_undef nt)) (by have:=h8;rwa[h4] at this) ?_ h6.it)
  rw[←h5];exact List.filter_sublist
noncomputable def vCond(x:Operand)(s:Sc)(env:List D)(K:Bool->Sc->List D->Prop):Prop:=match x with
 |.tmp t=>Et env t fun d=>match d with
  |.v (.bool b)=>vBool s b (some t) env K
  |_=>False
 |.const (.bool b)=>K b s env
 |_=>False
theorem vCond_ok{x:Operand}{s:Sc}{env:List D}{K:Bool->Sc->List D->Prop}(h:vCond x s env K):∃b s',K b s' env/\evD env x=.v (.bool b):=by
 unfold vCond at h
 split at h
 ·rename_i t
  rw[CC] at h
  split at h
  ·rename_i b hd
   obtain⟨s',h1⟩:=vBool_ok h (fun t' e=>by simp at e;subst e;exact getD_some hd (by simp))
   exact⟨b,s',h1,hd⟩
  ·exact h.elim
 ·exact⟨_,_,h,rfl⟩
 ·exact h.elim
noncomputable def vStep(C:Ent->Ent->Prop)(m:Nat)(P:Program)(R:List D->St->Prop)(rk:Nat->List D->St->Prop)(nt:Nat)(im:List Nat)(T:List KI)(ih:Sc->List KI->List D->St->Prop)(ks:List KI)(s:Sc)(env:List D)(σ:St):Prop:=match ks with
  |[]=>(match s with
   |.h (.l sl σ') _=>vLeaf C m P R nt T sl σ' false env σ
   |.h (.lo sl σ') _=>vLeaf C m P R nt T sl (some σ') true env σ
   |.h .r _=>T=[]/\rk 0 env σ
   |.h .rn _=>T=[]/\rk 1 env σ
   |.h .ro _=>T=[]/\rk 2 env σ
   |.h .rd _=>T=[]/\rk 3 env σ
   |_=>False)
  |.blk _::ks=>ih s ks env σ
  |.lp c::ks=>(match s with
   |.h (.l sl σ') _=>vLeaf C m P R nt (.lp c::(ks++T)) sl σ' false env σ
   |.h (.lo sl σ') _=>vLeaf C m P R nt (.lp c::(ks++T)) sl (some σ') true env σ
   |.h .n s=>ih s (.code c:: .lp c::ks) env σ
   |_=>False)
  |.code c::ks=>(match c with
   |.seq x y=>ih s (.code x:: .code y::ks) env σ
   |.skip=>ih s ks env σ
   |.label _=>ih s ks env σ
   |.block id x=>ih s (.code x:: .blk id::ks) env σ
   |.loop x=>ih s (.lp x::ks) env σ
   |.exit id=>(match FZ id ks with
    |some ks'=>ih s ks' env σ
    |none=>False)
   |.ret=>(match s with
    |.h .r _=>rk 0 env σ
    |.h .rn _=>rk 1 env σ
    |.h .ro _=>rk 2 env σ
    |.h .rd _=>rk 3 env σ
    |_=>False)
   |.cond t x y=>vCond t s env fun b s env=>Bool.rec (ih s (.code y::ks) env σ) (ih s (.code x::ks) env σ) b
   |.region r ops d=>Bool.rec (vOps P im r ops (fun L sl σ=>It (BF C P R (ks++T) ops L (mkE nt sl) σ)) ops.toList 0 s env σ fun s env σ=>ih s ks env σ) (vDrawS P im ops s env σ fun s env σ=>ih s ks env σ) d
   |_=>False)
noncomputable def vc(C:Ent->Ent->Prop)(m:Nat)(P:Program)(R:List D->St->Prop)(rk:Nat->List D->St->Prop)(nt:Nat)(im:List Nat)(T:List KI)(fuel:Nat)(s:Sc)(ks:List KI)(env:List D)(σ:St):Prop:=
 Nat.rec (motive:=fun _=>Sc->List KI->List D->St->Prop) (fun _ _ _ _=>False) (fun _ ih s ks env σ=>pre 1000000 0 s env σ (vStep C m P R rk nt im T ih ks)) fuel s ks env σ
theorem popK_app{T:List KI}{id:Nat}:∀{ks ks':List KI},FZ id ks=some ks'->FZ id (ks++T)=some (ks'++T)
 |[],ks',h=>by simp[FZ] at h
 |.code c::ks,ks',h=>by simp only[FZ] at h;simp only[cons_append,FZ];exact popK_app h
 |.lp c::ks,ks',h=>by simp only[FZ] at h;simp only[cons_append,FZ];exact popK_app h
 |.blk i::ks,ks',h=>by
  simp only[FZ] at h
  simp only[cons_append,FZ]
  by_cases e:i=id
  ·rw[if_pos e] at h⊢;simp at h;subst h;rfl
  ·rw[if_neg e] at h⊢;exact popK_app h
theorem vStep_ok{C:Ent->Ent->Prop}(L:GU C){m:Nat}(hCm:∀E0 E,C E0 E->E.g.n<=m)(hm:P.follows .mixedOrders=true){rk:Nat->List D->St->Prop}{nt:Nat}{im:List Nat}{T:List KI}(hR:∀b env σ,env.length=nt->rk b env σ->R env σ){ih:Sc->List KI->List D->St->Prop}
  (IH:∀{s:Sc} {ks:List KI} {env:List D} {σ:St},env.length=nt->ih s ks env σ->A2 C P R (ks++T) env σ) {ks:List KI} {s:Sc} {env:List D} {σ:St} (hn:env.length=nt) (h:vStep C m P R rk nt im T ih ks s env σ):A2 C P R (ks++T) env σ:=by
 unfold vStep at h
 split at h
 ·split at h
  ·exact vLeaf_ok hCm hn h
  ·exact vLeaf_ok hCm hn h
  ·obtain⟨rfl,h⟩:=h;exact run_nilC L (hR _ _ _ hn h)
  ·obtain⟨rfl,h⟩:=h;exact run_nilC L (hR _ _ _ hn h)
  ·obtain⟨rfl,h⟩:=h;exact run_nilC L (hR _ _ _ hn h)
  ·obtain⟨rfl,h⟩:=h;exact run_nilC L (hR _ _ _ hn h)
  ·exact h.elim
 ·exact run_blk (IH hn h)
 ·split at h
  ·exact vLeaf_ok hCm hn h
  ·exact vLeaf_ok hCm hn h
  ·exact run_lp (IH hn h)
  ·exact h.elim
 ·split at h
  ·exact run_seq (IH hn h)
  ·exact run_skip (IH hn h)
  ·exact run_label (IH hn h)
  ·exact run_block (IH hn h)
  ·exact run_loop (IH hn h)
  ·split at h
   ·rename_i ks' hp;exact run_exit (popK_app hp) (IH hn h)
   ·exact h.elim
  ·split at h
   ·exact G6 L (hR _ _ _ hn h)
   ·exact G6 L (hR _ _ _ hn h)
   ·exact G6 L (hR _ _ _ hn h)
   ·exact G6 L (hR _ _ _ hn h)
   ·exact h.elim
  ·obtain⟨b,s',h1,h2⟩:=vCond_ok h
   refine run_cond h2 (fun hb=>?_) (fun hb=>?_)
   ·subst hb;exact IH hn h1
   ·subst hb;exact IH hn h1
  ·rename_i r ops d
   cases d with
   |false=>
    intro E0 E g a w B hC hf hB
    show KQ P B (.code (.region r ops false)::(_++T)) .normal a w
    simp only[KQ]
    exact wp_region_list (vOps_ok (n:=nt) (Z:=fun L sl σ=>It (BF C P R (_++T) ops L (mkE nt sl) σ)) (fun _ _ _ h=>h.it) (fun s env σ hl hk=>IH hl hk) hn (show vOps P im r ops _ ops.toList 0 s env σ fun s env σ=>ih s _ env σ from h) E0 E g a w B hC hf hB)
   |true=>exact vDrawS_ok hm hn (fun s env σ hl hk=>IH hl hk) (show vDrawS P im ops s env σ fun s env σ=>ih s _ env σ from h)
  ·exact h.elim
theorem vc_ok{C:Ent->Ent->Prop}(L:GU C){m:Nat}(hCm:∀E0 E,C E0 E->E.g.n<=m)(hm:P.follows .mixedOrders=true){rk:Nat->List D->St->Prop}{nt:Nat}{im:List Nat}{T:List KI}(hR:∀b env σ,env.length=nt->rk b env σ->R env σ):
  ∀{fuel:Nat} {s:Sc} {ks:List KI} {env:List D} {σ:St},env.length=nt->vc C m P R rk nt im T fuel s ks env σ->A2 C P R (ks++T) env σ
 |0,s,ks,env,σ,_,h=>(h:False).elim
 |fuel+1,s,ks,env,σ,hn,h=>by
  have h':pre 1000000 0 s env σ (vStep C m P R rk nt im T (vc C m P R rk nt im T fuel) ks):=h
  obtain⟨s1,env1,σ1,h1,h2,h3⟩:=pre_ok h'
  exact run_cv h2 (vStep_ok L hCm hm hR (vc_ok L hCm hm hR) (h3.trans hn) h1)
noncomputable def vRes(P:Program)(env:List D)(σ:St)(dg:Bool)(rs:List ResultVar)(K:List D->Prop):Prop:=
 List.rec (motive:=fun _=>(List D->Prop)->Prop) (fun K=>K []) (fun r _ ih K=>match r with
  |.tmp t=>cond (Nat.blt t env.length) (Et env t fun d=>ih fun ds=>K (d::ds)) False
  |.cell a t=>Et env a fun d=>match d with
   |.ptr q off=>(match σ.H[q]?,CZ P t with
    |some (some cs),some (1,false)=>(match cs[off]? with
     |some d=>ih fun ds=>K (d::ds)
     |none=>False)
    |some (some cs),some (n,true)=>cond (Nat.ble (off+n) cs.length) (Bool.rec (match CI ((cs.drop off).take n) with
     |some xs=>ih fun ds=>K (.v (.agg xs)::ds)
     |none=>False) (AM ((cs.drop off).take n) fun es=>ih fun ds=>K (.dagg es::ds)) dg) False
    |_,_=>False)
   |_=>False) rs K
theorem GX{env:List D}{σ:St}{dg:Bool}:∀{rs:List ResultVar} {K:List D->Prop},vRes P env σ dg rs K->∃ds,K ds/\GS P env σ rs ds
 |[],K,h=>⟨[],h,.nil⟩
 |.tmp t::rs,K,h=>by
  have h':cond (Nat.blt t env.length) (Et env t fun d=>vRes P env σ dg rs fun ds=>K (d::ds)) False:=h
  obtain⟨h1,h2⟩:=Am h'
  rw[CC] at h2
  obtain⟨ds,h3,h4⟩:=GX h2
  refine⟨_,h3,.tmp ?_ h4⟩
  have:t<env.length:=Nat.le_of_ble_eq_true h1
  rw[getD_eq_getElem?_getD,getElem?_eq_getElem this];rfl
 |.cell a t::rs,K,h=>by
  have h':Et env a fun d=>match (generalizing:=false) d with
   |.ptr q off=>(match σ.H[q]?,CZ P t with
    |some (some cs),some (1,false)=>(match cs[off]? with
     |some d=>vRes P env σ dg rs fun ds=>K (d::ds)
     |none=>False)
    |some (some cs),some (n,true)=>cond (Nat.ble (off+n) cs.length) (Bool.rec (match CI ((cs.drop off).take n) with
     |some xs=>vRes P env σ dg rs fun ds=>K (.v (.agg xs)::ds)
     |none=>False) (AM ((cs.drop off).take n) fun es=>vRes P env σ dg rs fun ds=>K (.dagg es::ds)) dg) False
    |_,_=>False)
   |_=>False:=h
  rw[CC] at h'
  split at h'
  ·rename_i q off hd
   have ha:=getD_some hd (by simp)
   split at h'
   ·rename_i cs hq hz
    split at h'
    ·rename_i d hc
     obtain⟨ds,h3,h4⟩:=GX h'
     exact⟨_,h3,.cell1 ha hq hz hc h4⟩
    ·exact h'.elim
   ·rename_i cs n hq hz
    obtain⟨h1,h2⟩:=Am h'
    cases dg with
    |false=>
     have h2:(match CI ((cs.drop off).take n) with
      |some xs=>vRes P env σ false rs fun ds=>K (.v (.agg xs)::ds)
      |none=>False):=h2
     split at h2
     ·rename_i xs hx
      obtain⟨ds,h3,h4⟩:=GX h2
      exact⟨_,h3,.cellA ha hq hz (Nat.le_of_ble_eq_true h1) (F7 hx) h4⟩
     ·exact h2.elim
    |true=>
     have h2:AM ((cs.drop off).take n) fun es=>vRes P env σ true rs fun ds=>K (.dagg es::ds):=h2
     rw[AI] at h2
     obtain⟨ds,h3,h4⟩:=GX h2
     exact⟨_,h3,.cellD ha hq hz (Nat.le_of_ble_eq_true h1) h4⟩
   ·exact h'.elim
  ·exact h'.elim
def nlV:V->V
 |.nils=>.list []
 |x=>x
theorem repA_nl{M:Mem}:∀{xs:List V} {us:List Value},repA M xs us->repA M (xs.map nlV) us
 |[],us,h=>h
 |x::xs,us,h=>by
  simp only[repA] at h
  obtain⟨u,us',rfl,ha,h1,h2⟩:=h
  simp only[map_cons,repA]
  refine⟨u,us',rfl,?_,?_,repA_nl h2⟩
  ·cases x<;>first|exact ha|rfl
  ·cases x with
   |nils=>
    have h3:repV M .nils u:=(AZ (by rfl)).2 h1
    have h4:Ae (⟨M,fun _=>0,0,fun _ _=>none,fun _=>0⟩:Gh) (.v (.list [])) u:=E1 (by simpa only[Ae] using h3)
    show repC M (.list []) [u]
    exact(AZ (by rfl)).1 (by simpa only[Ae] using h4)
   |_=>exact h1
noncomputable def wkD(ts:List Nat)(kn:Bool):D->D
 |.acc k xs=>Bool.rec (.v (.list xs)) (.acc k xs) (ts.any (Nat.beq k))
 |.v .nils=>Bool.rec (.v (.list [])) (.v .nils) kn
 |.v (.agg xs)=>Bool.rec (.v (.agg (xs.map nlV))) (.v (.agg xs)) kn
 |d=>d
theorem wkD_rep{ts:List Nat}{kn:Bool}{g:Gh}{d:D}{u:Value}(h:Ae g d u):Ae g (wkD ts kn d) u:=by
 unfold wkD
 split
 ·cases ts.any _
  ·exact repD_un h
  ·exact h
 ·cases kn
  ·exact E1 h
  ·exact h
 ·cases kn
  ·simp only[Ae,BZ] at h⊢
   obtain⟨ws,h1,h2⟩:=h
   exact⟨ws,repA_nl h1,h2⟩
  ·exact h
 ·exact h
theorem DO{ts:List Nat}{kn:Bool}{g:Gh}:∀{ds:List D} {us:List Value},Ac g ds us->Ac g (ds.map (wkD ts kn)) us
 |[],us,h=>by simpa using h
 |d::ds,us,h=>by
  simp only[Ac,map_cons] at h⊢
  obtain⟨u,us',e,h1,h2⟩:=h
  exact⟨u,us',e,wkD_rep h1,DO h2⟩
noncomputable def packN:List D->(D->Prop)->Prop
 |[d],K=>K d
 |ds,K=>AM ds fun ds=>K (.tup ds)
theorem packN_eq(ds:List D)(K:D->Prop):packN ds K=K (packD ds):=by
 match ds with
 |[]=>rfl
 |[d]=>rfl
 |a::b::ds=>simp only[packN,packD,AI]
noncomputable def vRet(P:Program)(rs:List ResultVar)(d:D)(σ':St)(md:Nat)(env:List D)(σ:St):Prop:=
 vRes P env σ (Nat.beq md 3) rs fun ds=>AM (ds.map (wkD (σ'.own.map (·.1)) (Nat.beq md 1))) fun ds=>packN ds fun d'=>
  cond (D.okN σ'.H.length (σ'.own.map (·.1)) d&&Nat.ble σ'.H.length σ.H.length) (okHP (Nat.beq md 2) (okH σ'.H.length (σ'.own.map (·.1)) (σ.H.take σ'.H.length))
   (eqNil σ'.H (σ.H.take σ'.H.length) (eqNil σ'.own (ownF (σ'.own.map (·.1)) σ.own) (d'=d)))) False
theorem vRet_ok{fn:Func}{d:D}{σ':St}{md:Nat}{env:List D}{σ:St}(h:vRet P fn.results.toList d σ' md env σ):A8 P fn env σ d σ':=by
 obtain⟨ds,h1,hr⟩:=GX h
 rw[AI,packN_eq] at h1
 obtain⟨h2,h3⟩:=Am h1
 obtain⟨h8,h3⟩:=okHP_ok h3
 simp only[Bool.and_eq_true] at h2
 generalize Nat.beq md 1=kn at h3
 have h4:packD (ds.map (wkD (σ'.own.map (·.1)) kn))=d/\σ.H.take σ'.H.length=σ'.H/\ownF (σ'.own.map (·.1)) σ.own=σ'.own:=by
  obtain⟨e1,h3⟩:=FG h3 (fun e=>by rw[e];rfl)
  obtain⟨e2,h3⟩:=FG h3 (fun e=>by rw[e];unfold ownF;rw[List.filter_eq_nil_iff];simp)
  exact⟨h3,e1,e2⟩
 obtain⟨rfl,hH,hown⟩:=h4
 intro E g a w hf hE
 obtain⟨us,h5,h6⟩:=hr.run hf
 have hrun:(results fn a.tmps).run P w=.ok (if h:us.length=1 then us[0] else .tuple us.toArray) w:=by
  rw[results_eq,Array.mapM_eq_mapM_toList]
  simp only[Sem.run_bind,Sem.run_map,h5,Result.andThen_ok]
  by_cases h:us.length=1<;>simp[h]
 have hsub:σ'.own.Sublist σ.own:=by rw[←hown];exact List.filter_sublist
 refine⟨_,_,hrun,wi_sh hf.wi hH.symm (Nat.le_of_ble_eq_true h2.2) hE (by have:=h8;rwa[hH] at this) hsub,?_⟩
 refine repD_sh _ _ h2.1 ?_
 have h7:=DO (ts:=σ'.own.map (·.1)) (kn:=kn) h6
 generalize ds.map (wkD (σ'.own.map (·.1)) kn)=ds' at h7
 have hl:=Ay h7
 unfold packD
 split
 ·rename_i d0
  obtain⟨u,rfl,h3⟩:=A0.1 h7
  simpa using h3
 ·rename_i hne
  have:us.length≠1:=by
   rw[hl]
   intro h
   match ds',h with
   |[d0],_=>exact hne d0 rfl
  rw[dif_neg this]
  simp only[Ae]
  exact⟨us,rfl,h7⟩
theorem spec_of_runN{f:FuncId}{fn:Func}{c:Code}{ds:List D}{σ σ':St}{d:D}(hf:P.funcs[f]?=some fn)(hb:fn.body=some c)(hn:(fn.name=="runtime.NumGoroutine")=false)
  (hH:σ.H.length<=σ'.H.length) (h:A2 (CN σ.H.length) P (fun env σ1=>A8 P fn env σ1 d σ') [.code c] (ds++replicate (fn.ntmps-ds.length) .undef) σ):Ab P f ds σ d σ':=by
 refine⟨⟨fn,hf,hn,by simp[hb]⟩,fun g w args hw hargs=>?_⟩
 refine calls_of_wp hf hb ?_
 have hfi:FI ⟨g,w,σ⟩ g σ (ds++replicate (fn.ntmps-ds.length) .undef) { tmps:=args.toArray++Array.replicate (fn.ntmps-args.toArray.size) undef,defers:=[]} w:=by
  refine⟨WI.start hw,?_,rfl⟩
  have hl:=Ay hargs
  simp only[Array.toList_append,Array.toList_replicate,size_toArray,hl]
  refine Aq hargs ?_
  generalize fn.ntmps-ds.length=m
  induction m with
  |zero=>simp[Ac]
  |succ m ih=>simp only[replicate_succ,Ac];exact⟨_,_,rfl,by simp[Ae],ih⟩
 have:=h ⟨g,w,σ⟩ ⟨g,w,σ⟩ g _ w (bodyPost P fn fun e w'=>∃u g',e=.returned u/\WI ⟨g,w,σ⟩ g' σ' w'/\Ae g' d u) ⟨rfl,Nat.le_of_eq hw.n⟩ hfi ?_
 ·simp only[KQ] at this
  exact this
 ·intro g' env' σ1 a' w' hfi' hR
  obtain⟨u,g2,h1,h2,h3⟩:=hR _ _ _ _ hfi' (by rw[hw.n];exact hH)
  have:a'.defers=[]/\∃v,(results fn a'.tmps).run P w'=.ok v w'/\∃u g',Ending.returned v=.returned u/\WI ⟨g,w,σ⟩ g' σ' w'/\Ae g' d u:=
   ⟨hfi'.defers,u,h1,u,g2,rfl,h2,h3⟩
  exact⟨this,this⟩
abbrev Rn(P:Program)(fn:Func)(C:Nat)(d:D)(σ':St)(k:List KI)(env:List D)(σ:St):Prop:=A2 (CN C) P (fun env σ1=>A8 P fn env σ1 d σ') k env σ
theorem spec_vc(hm:P.follows .mixedOrders=true){f:FuncId}{ds:List D}{σ σ':St}{d:D}(fn:Func)(c:Code)(hf:P.funcs[f]?=some fn)(hb:fn.body=some c)(hn:(fn.name=="runtime.NumGoroutine")=false)(hH:Nat.ble σ.H.length σ'.H.length=true)(nt:Nat)(hnt:(ds++replicate (fn.ntmps-ds.length) D.undef).length=nt)
  (im:List Nat) (s:Sc)
  (h:AM (ds++replicate (fn.ntmps-ds.length) D.undef) fun env=>vc (CN σ.H.length) σ.H.length P (fun env σ1=>A8 P fn env σ1 d σ') (vRet P fn.results.toList d σ') nt im [] 10000 s [.code c] env σ):Ab P f ds σ d σ':=by
 rw[AI] at h
 refine spec_of_runN hf hb hn (Nat.le_of_ble_eq_true hH) ?_
 exact vc_ok (ks:=[.code c]) (T:=[]) (linkN _) (fun _ _ h=>h.2) hm (fun b env σ _ h=>vRet_ok h) hnt h
theorem loop_vc(hm:P.follows .mixedOrders=true){C:Nat}{fn:Func}{d:D}{σ':St}(nt:Nat)(im:List Nat){ks T:List KI}{L:List (Nat×D)}{σ:St}(s:Sc)
  (h:AM (mkE nt L) fun env=>vc (CN C) C P (fun env σ1=>A8 P fn env σ1 d σ') (vRet P fn.results.toList d σ') nt im T 10000 (.h .n s) ks env σ):Rn P fn C d σ' (ks++T) (mkE nt L) σ:=by
 rw[AI] at h
 exact vc_ok (linkN _) (fun _ _ h=>h.2) hm (fun b env σ _ h=>vRet_ok h) (by simp[mkE,EH]) h
theorem run_vc(hm:P.follows .mixedOrders=true){C:Ent->Ent->Prop}(L:GU C)(m:Nat)(hCm:∀E0 E,C E0 E->E.g.n<=m){fn:Func}{d:D}{σ':St}(nt:Nat)(im:List Nat){ks T:List KI}{E:List (Nat×D)}{σ:St}(s:Sc)
  (h:AM (mkE nt E) fun env=>vc C m P (fun env σ1=>A8 P fn env σ1 d σ') (vRet P fn.results.toList d σ') nt im T 10000 s ks env σ):A2 C P (fun env σ1=>A8 P fn env σ1 d σ') (ks++T) (mkE nt E) σ:=by
 rw[AI] at h
 exact vc_ok L hCm hm (fun b env σ _ h=>vRet_ok h) (by simp[mkE,EH]) h
theorem rest_vc(hm:P.follows .mixedOrders=true){C:Ent->Ent->Prop}(Lk:GU C)(m:Nat)(hCm:∀E0 E,C E0 E->E.g.n<=m){fn:Func}{d:D}{σ':St}(nt:Nat)(im:List Nat)(r i:Nat){ops:Array Oper}{L:List Oper}{ks T:List KI}{E:List (Nat×D)}{σ:St}(s:Sc)
  (h:AM (mkE nt E) fun env=>vOps P im r ops (fun L sl σ=>It (BF C P (fun env σ1=>A8 P fn env σ1 d σ') (ks++T) ops L (mkE nt sl) σ)) L i s env σ fun s env σ=>vc C m P (fun env σ1=>A8 P fn env σ1 d σ') (vRet P fn.results.toList d σ') nt im T 10000 s ks env σ):BF C P (fun env σ1=>A8 P fn env σ1 d σ') (ks++T) ops L (mkE nt E) σ:=by
 rw[AI] at h
 exact vOps_ok (n:=nt) (fun _ _ _ h=>h.it) (fun s env σ hl hk=>vc_ok Lk hCm hm (fun b env σ _ h=>vRet_ok h) hl hk) (by simp[mkE,EH]) h
theorem via{a b:Prop}(h:a=b)(ha:a):b:=h▸ha
end
abbrev CS(m r:Nat)(l:List (List UInt8))(E0 E:Ent):Prop:=SideC r (C2 l) E0 E/\E.g.n<=m
theorem linkS(m r:Nat)(l:List (List UInt8)):GU (CS m r l):=⟨fun h _ _ _ hw=>h.1.link _ _ _ hw⟩
section
variable {P : Program} {R : List D -> St -> Prop} {k : List KI} {env : List D} {σ : St} {ops : Array Oper} {L : List Oper} {o : Oper}
theorem ro_makeMap{m:Nat}(t:Nat){ty:TypeId}(hg:B7 env ops o=some true)(ht:o.dst=some t)(hop:o.op=.makeMap ty none)
  (hk:∀r:Nat,BF (CS σ.H.length r []) P R k ops L (env.set t (.raw (.map (some r)))) σ):BF (CN m) P R k ops (o::L) env σ:=by
 intro E0 E g a w B hC hf hB
 unfold wpList
 rw[if_pos (Ch hf.env hg)]
 refine .inl ?_
 have hw:=(linkN m).ok hC hf.wi
 have hput:=hf.put (hf.wi.alloc (.map #[] 0)) g.le_refl (d:=.raw (.map (some w.heap.size))) (u:=.map (some w.heap.size)) (by simp only[Ae]) (some t)
 have hsize:(w.alloc (.map #[] 0)).heap.size=w.heap.size+1:=by simp
 obtain⟨h1,h2⟩:=SideC.of (r:=w.heap.size) (ob:=.map #[] 0) (w1:=w.alloc (.map #[] 0)) hw
  (fun b hb=>by
   by_cases hlt:b<w.heap.size
   ·exact heap_alloc_old w _ b hlt
   ·rw[Array.getElem?_eq_none (by omega),Array.getElem?_eq_none (by omega)])
  (heap_alloc_new w _) (by omega) rfl rfl rfl hw.size (hw.rep.new_none (Nat.le_refl _)) (fun i cs hi=>Nat.ne_of_lt (hw.rep.obj_lt hi)) (fun x hx u hu hb=>by have:=hw.rep.own_lt hx hu hb;omega)
 have:=hk w.heap.size E0 _ g _ _ B ⟨h1,Nat.le_of_eq hw.rep.n⟩ ⟨h2,hput.env,hput.defers⟩ hB
 unfold Oper.wp execOp
 simpa[hop,Instr.makeMap,ht,Oper.upon] using this
theorem ro_lookup{m:Nat}(t sm sk:Nat){ty kt et:TypeId}{r:Nat}{s:List UInt8}{l:List (List UInt8)}{inf:TypeInfo}(hg:B7 env ops o=some true)(ht:o.dst=some t)(hop:o.op=.lookup ty (.tmp sm) (.tmp sk) false)
  (hty:P.underlying ty=some (.map kt et)) (hkt:P.underlying kt=some .string) (hi:P.info? et=some inf) (hz:inf.zero=some (.bool false)) (hm:env[sm]?=some (.raw (.map (some r)))) (hs:env[sk]?=some (.v (.str s)))
  (hk:BF (CS m r l) P R k ops L (env.set t (.v (.bool (l.contains s)))) σ):BF (CS m r l) P R k ops (o::L) env σ:=by
 intro E0 E g a w B hC hf hB
 unfold wpList
 rw[if_pos (Ch hf.env hg)]
 refine .inl ?_
 have e1:a.eval (.tmp sm)=.map (some r):=by have:=ED hf.env sm;rw[ev_tmp hm] at this;simpa only[Ae] using this
 have e2:a.eval (.tmp sk)=.string ⟨s.toArray⟩:=by have:=ED hf.env sk;rw[ev_tmp hs] at this;simpa only[Ae,C3] using this
 have hnow:=(hC.1.side.now hf.wi).1
 obtain⟨q,hq⟩:=find_set s l 0 0
 have:=hk E0 E g _ _ B hC (hf.put hf.wi g.le_refl (d:=.v (.bool (l.contains s))) (u:=.bool (l.contains s)) (by simp[Ae]) (some t)) hB
 have hrun:(Instr.lookup ty (.map (some r)) (.string ⟨s.toArray⟩) false).run P w=.ok (.bool (l.contains s)) w:=by
  have hget:(getObj r).run P w=.ok (C2 l) w:=by simp[getObj,Sem.run,hnow,C2]
  have hfk:(Instr.findKey kt (.string ⟨s.toArray⟩) (EJ 0 l)).run P w=.ok (if l.contains s then some (q,.bool true) else none) w:=by simp only[Instr.findKey,Sem.run_bind,run_underlying hkt,Result.andThen_ok,hq,Sem.run_pure]
  have hck:∀b,(Instr.checkKey b 10000 kt (.string ⟨s.toArray⟩)).run P w=.ok () w:=fun b=>by
   rw[show(10000:Nat)=9999+1 from rfl];unfold Instr.checkKey;simp[run_underlying hkt]
  unfold Instr.lookup
  simp only[Sem.run_bind,run_underlying hty,Result.andThen_ok,hget,C2,Sem.run_pure,hck,hfk]
  cases hc:l.contains s with
  |true=>simp
  |false=>simp[zeroValue,typeInfo,hi,hz]
 unfold Oper.wp execOp
 simp only[hop,e1,e2,Sem.run_bind,hrun,Result.andThen_ok]
 simp only[Sem.run_pure,Oper.upon,ht]
 exact this
theorem ro_setPut{m:Nat}(sm sk:Nat){v:Operand}{ty kt et:TypeId}{r:Nat}{s:List UInt8}{l:List (List UInt8)}(hg:B7 env ops o=some true)(ht:o.dst=none)(hop:o.op=.mapUpdate ty (.tmp sm) (.tmp sk) v)(hv:evD env v=.v (.bool true))
  (hty:P.underlying ty=some (.map kt et)) (hkt:P.underlying kt=some .string) (hm:env[sm]?=some (.raw (.map (some r)))) (hs:env[sk]?=some (.v (.str s))) (hnew:l.contains s=false)
  (hk:BF (CS σ.H.length r (l++[s])) P R k ops L env σ):BF (CS m r l) P R k ops (o::L) env σ:=by
 intro E0 E g a w B hC hf hB
 unfold wpList
 rw[if_pos (Ch hf.env hg)]
 refine .inl ?_
 have e1:a.eval (.tmp sm)=.map (some r):=by have:=ED hf.env sm;rw[ev_tmp hm] at this;simpa only[Ae] using this
 have e2:a.eval (.tmp sk)=.string ⟨s.toArray⟩:=by have:=ED hf.env sk;rw[ev_tmp hs] at this;simpa only[Ae,C3] using this
 have e3:a.eval v=.bool true:=by have:=repD_ev hf.wi.rep.gl hf.env v;rw[hv] at this;simpa only[Ae,Da] using this
 obtain⟨hnow,hM,hobj,hown⟩:=hC.1.side.now hf.wi
 obtain⟨q,hq⟩:=find_set s l 0 0
 rw[hnew] at hq
 have hlt:r<w.heap.size:=(Array.getElem?_eq_some_iff.1 hnow).1
 obtain⟨h1,h2⟩:=SideC.of (r:=r) (ob:=C2 (l++[s])) (w1:={ w with heap:=w.heap.setIfInBounds r (C2 (l++[s]))}) (hC.1.link _ _ _ hf.wi) (fun b hb=>by simp[Ne.symm hb]) (by simp[hlt]) (by simp) rfl rfl rfl hC.1.new hM hobj hown
 have:=hk E0 _ g a _ B ⟨h1,Nat.le_of_eq hf.wi.rep.n⟩ ⟨h2,hf.env,hf.defers⟩ hB
 have hrun:(Instr.mapUpdate ty (.map (some r)) (.string ⟨s.toArray⟩) (.bool true)).run P w=.ok () { w with heap:=w.heap.setIfInBounds r (C2 (l++[s]))}:=by
  have hget:(getObj r).run P w=.ok (C2 l) w:=by simp[getObj,Sem.run,hnow,C2]
  have hfk:(Instr.findKey kt (.string ⟨s.toArray⟩) (EJ 0 l)).run P w=.ok none w:=by simp only[Instr.findKey,Sem.run_bind,run_underlying hkt,Result.andThen_ok,hq,Sem.run_pure];rfl
  have hck:∀b,(Instr.checkKey b 10000 kt (.string ⟨s.toArray⟩)).run P w=.ok () w:=fun b=>by
   rw[show(10000:Nat)=9999+1 from rfl];unfold Instr.checkKey;simp[run_underlying hkt]
  have hset:∀ob,(setObj r ob).run P w=.ok () { w with heap:=w.heap.setIfInBounds r ob }:=fun ob=>by simp[setObj,Sem.run,hnow,C2]
  unfold Instr.mapUpdate
  simp only[Sem.run_bind,run_underlying hty,Result.andThen_ok,hget,C2,hck,hfk]
  rw[hset]
  congr 3
  rw[entsAt_snoc]
  simp
 unfold Oper.wp execOp
 simp only[hop,e1,e2,e3,Sem.run_bind,hrun,Result.andThen_ok]
 simp only[Sem.run_pure,Oper.upon,ht]
 exact this
end
def hdO(L:List Oper):Oper:=match L with
 |o::_=>o
 |[]=>⟨none,.makeMap 0 none,0,"", #[],none⟩
theorem hdO_eq{L:List Oper}(h:L.isEmpty=false):L=hdO L::L.tail:=by cases L with
 |nil=>simp at h
 |cons o L=>rfl
def mmQ:Op->Bool|.makeMap _ none=>true|_=>false
def mtQ:Op->TypeId|.makeMap t _=>t|.lookup t _ _ _=>t|.mapUpdate t _ _ _=>t|_=>0
def luQ(sm sk:Nat):Op->Bool|.lookup _ (.tmp a) (.tmp b) false=>a==sm&&b==sk|_=>false
def muQ(sm sk:Nat):Op->Bool|.mapUpdate _ (.tmp a) (.tmp b) (.const (.bool true))=>a==sm&&b==sk|_=>false
theorem mmQ_ok{o:Op}(h:mmQ o=true):o=.makeMap (mtQ o) none:=by
 unfold mmQ at h;split at h
 ·rfl
 ·exact absurd h (by simp)
theorem luQ_ok{sm sk:Nat}{o:Op}(h:luQ sm sk o=true):o=.lookup (mtQ o) (.tmp sm) (.tmp sk) false:=by
 unfold luQ at h;split at h
 ·simp at h;simp[mtQ,h]
 ·exact absurd h (by simp)
theorem muQ_ok{sm sk:Nat}{o:Op}(h:muQ sm sk o=true):o=.mapUpdate (mtQ o) (.tmp sm) (.tmp sk) (.const (.bool true)):=by
 unfold muQ at h;split at h
 ·simp at h;simp[mtQ,h]
 ·exact absurd h (by simp)
def smQ(P:Program)(ty:TypeId):Bool:=match P.underlying ty with
 |some (.map kt et)=>(match P.underlying kt with
  |some .string=>true
  |_=>false)&&(match P.info? et with
  |some inf=>(match inf.zero with
   |some (.bool false)=>true
   |_=>false)
  |_=>false)
 |_=>false
theorem smQ_ok{P:Program}{ty:TypeId}(h:smQ P ty=true):∃kt et inf,P.underlying ty=some (.map kt et)/\P.underlying kt=some .string/\P.info? et=some inf/\inf.zero=some (.bool false):=by
 unfold smQ at h
 split at h
 ·rename_i kt et h1
  simp only[Bool.and_eq_true] at h
  obtain⟨h2,h3⟩:=h
  split at h2
  ·rename_i h4
   split at h3
   ·rename_i inf h5
    split at h3
    ·rename_i h6
     exact⟨kt,et,inf,h1,h4,h5,h6⟩
    ·exact absurd h3 (by simp)
   ·exact absurd h3 (by simp)
  ·exact absurd h2 (by simp)
 ·exact absurd h (by simp)
theorem mkE_snoc(n:Nat)(E:List (Nat×D))(t:Nat)(d:D):mkE n (E++[(t,d)])=(mkE n E).set t d:=by simp[mkE,List.foldl_append]
section
variable {P : Program} {R : List D -> St -> Prop} {k : List KI} {nt : Nat} {E : List (Nat × D)} {σ : St} {ops : Array Oper} {L0 : List Oper}
theorem ro_makeMapE{m:Nat}(t:Nat)(h0:L0.isEmpty=false)(hg:B7 (mkE nt E) ops (hdO L0)=some true)(ht:(hdO L0).dst=some t)(hop:mmQ (hdO L0).op=true)
  (hk:∀r:Nat,BF (CS σ.H.length r []) P R k ops L0.tail (mkE nt (E++[(t,.raw (.map (some r)))])) σ):BF (CN m) P R k ops L0 (mkE nt E) σ:=by
 rw[hdO_eq h0]
 exact ro_makeMap t hg ht (mmQ_ok hop) fun r=>by rw[←mkE_snoc];exact hk r
theorem ro_lookupE{m:Nat}(t sm sk:Nat){r:Nat}{s:List UInt8}{l:List (List UInt8)}(h0:L0.isEmpty=false)(hg:B7 (mkE nt E) ops (hdO L0)=some true)(ht:(hdO L0).dst=some t)(hop:luQ sm sk (hdO L0).op=true)
  (hty:smQ P (mtQ (hdO L0).op)=true) (hm:(mkE nt E)[sm]?=some (.raw (.map (some r)))) (hs:(mkE nt E)[sk]?=some (.v (.str s)))
  (hk:BF (CS m r l) P R k ops L0.tail (mkE nt (E++[(t,.v (.bool (l.contains s)))])) σ):BF (CS m r l) P R k ops L0 (mkE nt E) σ:=by
 obtain⟨kt,et,inf,h1,h2,h3,h4⟩:=smQ_ok hty
 rw[hdO_eq h0]
 exact ro_lookup t sm sk hg ht (luQ_ok hop) h1 h2 h3 h4 hm hs (by rw[←mkE_snoc];exact hk)
theorem ro_setPutE{m:Nat}(sm sk:Nat){r:Nat}{s:List UInt8}{l:List (List UInt8)}(h0:L0.isEmpty=false)(hg:B7 (mkE nt E) ops (hdO L0)=some true)(ht:(hdO L0).dst=none)(hop:muQ sm sk (hdO L0).op=true)
  (hty:smQ P (mtQ (hdO L0).op)=true) (hm:(mkE nt E)[sm]?=some (.raw (.map (some r)))) (hs:(mkE nt E)[sk]?=some (.v (.str s))) (hnew:l.contains s=false)
  (hk:BF (CS σ.H.length r (l++[s])) P R k ops L0.tail (mkE nt E) σ):BF (CS m r l) P R k ops L0 (mkE nt E) σ:=by
 obtain⟨kt,et,inf,h1,h2,h3,h4⟩:=smQ_ok hty
 rw[hdO_eq h0]
 exact ro_setPut sm sk hg ht (muQ_ok hop) rfl h1 h2 hm hs hnew hk
end
section
variable {P : Program} {fn : Func} {d : D} {σ' : St} {m r : Nat} {l : List (List UInt8)} {k : List KI} {E : List (Nat × D)} {σ : St}
theorem rest_s(hm:P.follows .mixedOrders=true)(nt:Nat)(im:List Nat)(rg i:Nat){ops:Array Oper}{L:List Oper}(s:Sc)
  (h:AM (mkE nt E) fun env=>vOps P im rg ops (fun L sl σ=>It (BF (CS m r l) P (fun env σ1=>A8 P fn env σ1 d σ') (k++[]) ops L (mkE nt sl) σ)) L i s env σ fun s env σ=>vc (CS m r l) m P (fun env σ1=>A8 P fn env σ1 d σ') (vRet P fn.results.toList d σ') nt im [] 10000 s k env σ):
  BF (CS m r l) P (fun env σ1=>A8 P fn env σ1 d σ') k ops L (mkE nt E) σ:=by
 have:=rest_vc hm (linkS m r l) m (fun _ _ h=>h.2) nt im rg i s h
 rwa[append_nil] at this
theorem run_s(hm:P.follows .mixedOrders=true)(nt:Nat)(im:List Nat)(s:Sc)
  (h:AM (mkE nt E) fun env=>vc (CS m r l) m P (fun env σ1=>A8 P fn env σ1 d σ') (vRet P fn.results.toList d σ') nt im [] 10000 (.h .n s) k env σ):
  A2 (CS m r l) P (fun env σ1=>A8 P fn env σ1 d σ') k (mkE nt E) σ:=by
 have:=run_vc (T:=[]) hm (linkS m r l) m (fun _ _ h=>h.2) nt im (.h .n s) h
 rwa[append_nil] at this
end
def vaD:D->Bool
 |.v _|.acc _ _=>true
 |_=>false
theorem repDs_va{g gc:Gh}(hM:gc.M=g.M)(hι:gc.ι=g.ι):∀{cs:List D} {us:List Value},cs.all vaD=true->Ac g cs us->Ac gc cs us
 |[],us,_,h=>by simpa only[Ac] using h
 |d::cs,us,hp,h=>by
  simp only[List.all_cons,Bool.and_eq_true] at hp
  simp only[Ac] at h⊢
  obtain⟨u,us',e,h1,h2⟩:=h
  refine⟨u,us',e,?_,repDs_va hM hι hp.2 h2⟩
  cases d<;>simp[vaD] at hp<;>simp only[Ae] at h1⊢
  ·rw[hM];exact h1
  ·rw[hM,hι];exact h1
theorem wrep_oneH{g:Gh}{σ:St}{w:World}(h:WRep g σ w){q:Nat}{cs:List D}(hq:σ.H[q]?=some (some cs))(hp:cs.all vaD=true):
  WRep { M:=g.M,β:=fun _=>g.β q,n:=1,ι:=g.ι,κ:=fun _=>g.κ q } ⟨[some cs],σ.own⟩ w where
 n:=rfl
 mem:=h.mem
 gl:=h.gl
 gw:=h.gw
 obj:=fun i cs' hi=>by
  cases i with
  |zero=>
   simp at hi;subst hi
   obtain⟨us,rest,e,hb,hr,h1,hM,hκ⟩:=h.obj q cs hq
   exact⟨us,rest,e,hb,repDs_va (by rfl) (by rfl) hp hr,h1,hM,hκ⟩
  |succ i=>simp at hi
 inj:=fun i j cs1 cs2 hi hj _=>by
  cases i with
  |zero=>
   cases j with
   |zero=>rfl
   |succ j=>simp at hj
  |succ i=>simp at hi
 own:=h.own
 tags:=h.tags
 sep:=h.sep
 ownObj:=fun x hx u hu b hb i cs' hi=>h.ownObj x hx u hu b hb q cs hq
 fresh:=h.fresh
theorem wi_backH{E:Ent}{g g':Gh}{σ:St}{w w':World}{q:Nat}{os os':List D}(hw:WI E g σ w)(hq:σ.H[q]?=some (some os))(hp':D.pls os'=true)(hno:okH σ.H.length [] (σ.H.set q none)=true)
  (h:WI ⟨{ M:=g.M,β:=fun _=>g.β q,n:=1,ι:=g.ι,κ:=fun _=>g.κ q },w,⟨[some os],σ.own⟩⟩ g' ⟨[some os'],[]⟩ w'):
  WI E { M:=g'.M,β:=g.β,n:=g.n,ι:=fun _ _=>none,κ:=g.κ } ⟨σ.H.set q (some os'),[]⟩ w':=by
 have hpr:∀b,Ent.priv ⟨{ M:=g.M,β:=fun _=>g.β q,n:=1,ι:=g.ι,κ:=fun _=>g.κ q },w,⟨[some os],σ.own⟩⟩ b->b=g.β q∨∃x∈σ.own,∃u,g.ι x.1 x.2.2.length=some u/\BG u=some b:=by
  rintro b (⟨i,cs,hi,e⟩|h1)
  ·exact .inl e
  ·exact .inr h1
 have get:∀{i:Nat} {cs:List D},(σ.H.set q (some os'))[i]?=some (some cs)->(i=q/\cs=os')∨(i≠q/\σ.H[i]?=some (some cs)):=by
  intro i cs hi
  rw[getElem?_set] at hi
  split at hi
  ·rename_i e
   split at hi
   ·simp at hi;exact .inl ⟨e.symm,hi.symm⟩
   ·simp at hi
  ·rename_i e;exact .inr ⟨fun e'=>e e'.symm,hi⟩
 refine hw.update (fun b=>b=g.β q∨∃x∈σ.own,∃u,g.ι x.1 x.2.2.length=some u/\BG u=some b) ?_ (fun b hb hx=>h.keep b hb (fun hp=>hx (hpr b hp))) h.M (Nat.le_refl _) (fun _ _=>rfl) (fun _ _=>rfl) h.size h.os h.tape h.output ?_ ?_ ?_ (drawn:=h.drawn)
 ·rintro b (rfl|⟨x,hx,u,hu,hb⟩)
  ·exact hw.objs q os hq
  ·exact hw.owns x hx u hu b hb
 ·refine⟨by simp[hw.rep.n],h.rep.mem,fun i cs hi=>?_,fun i j cs ds hi hj e=>?_,fun k sz xs hx=>by simp at hx,by simp,fun x hx=>by simp at hx,fun x hx=>by simp at hx,fun _ _ _=>rfl,h.rep.gl,h.rep.gw⟩
  ·rcases get hi with⟨rfl,rfl⟩|⟨hne,hi'⟩
   ·obtain⟨us,rest,e,hb,hr,h1,hM,hκ⟩:=h.rep.obj 0 cs (by simp)
    have hβ:g'.β 0=g.β i:=h.βE 0 (by simp)
    have hκ':g'.κ 0=g.κ i:=h.κE 0 (by simp)
    rw[hβ] at hb hM
    exact⟨us,rest,e,hb,AU (by rfl) hp' hr,h1,hM,hκ.trans hκ'⟩
   ·obtain⟨us,rest,e,hb,hr,h1,hM,hκ⟩:=hw.rep.obj i cs hi'
    have hlt:=Fq hb
    have hnp:¬(g.β i=g.β q∨∃x∈σ.own,∃u,g.ι x.1 x.2.2.length=some u/\BG u=some (g.β i)):=by
     rintro (e|⟨x,hx,u,hu,hb2⟩)
     ·exact hne (hw.rep.inj i q cs os hi' hq e)
     ·exact hw.rep.ownObj x hx u hu _ hb2 i cs hi' rfl
    obtain⟨k1,k2⟩:=h.keep _ hlt (fun hp=>hnp (hpr _ hp))
    refine⟨us,rest,e,k1.trans hb,?_,h1,fun o=>(k2 o).trans (hM o),hκ⟩
    have hle:g.le { g with M:=g'.M }:=⟨h.M,Nat.le_refl _,fun _ _=>rfl,fun _ _ _ h=>h,fun _ _=>rfl⟩
    have h3:=Dn (m:=g.n) (ts:=[]) _ _ (by rw[hw.rep.n];exact okH_get hno (j:=i) (by rw[List.getElem?_set_ne (fun e=>hne e.symm)];exact hi')) (Ac.mono hle _ _ hr)
    simpa[shG] using h3
  ·rcases get hi with⟨rfl,rfl⟩|⟨h1,hi'⟩<;>rcases get hj with⟨rfl,rfl⟩|⟨h2,hj'⟩
   ·rfl
   ·exact hw.rep.inj _ _ _ _ hq hj' e
   ·exact hw.rep.inj _ _ _ _ hi' hq e
   ·exact hw.rep.inj _ _ _ _ hi' hj' e
 ·intro i cs hi
  rcases get hi with⟨rfl,rfl⟩|⟨_,hi'⟩
  ·exact hw.objs i os hq
  ·exact hw.objs i cs hi'
 ·intro x hx;simp at hx
section
variable {C : Ent -> Ent -> Prop} {P : Program} {R : List D -> St -> Prop} {k : List KI} {env : List D} {σ : St} {ops : Array Oper} {L : List Oper} {o : Oper}
theorem ro_callH(t:Nat){c:Call}{fo:Operand}{f:FuncId}{ds dc:List D}(q:Nat){os:List D}(os':List D)(d:D)(hg:B7 env ops o=some true)(ht:o.dst=some t)(hop:o.op=.call c)(hc:c.callee=.value fo)
  (hops:o.op.operands.toList.map (evD env)=.v (.fn f [] [])::ds) (hq:σ.H[q]?=some (some os)) (hva:os.all vaD=true) (hp':D.pls os'=true) (hno:okH σ.H.length [] (σ.H.set q none)=true) (hnoE:D.okNs σ.H.length [] env=true)
  (ha:Dh q ds dc) (hd:d.pl=true) (hspec:Ab P f dc ⟨[some os],σ.own⟩ d ⟨[some os'],[]⟩)
  (hk:BF C P R k ops L (env.set t d) ⟨σ.H.set q (some os'),[]⟩):BF C P R k ops (o::L) env σ:=by
 intro E0 E g a w B hC hf hB
 unfold wpList
 rw[if_pos (Ch hf.env hg)]
 refine .inl ?_
 have hop':Ac g (.v (.fn f [] [])::ds) (o.op.operands.toList.map a.eval):=by
  rw[←hops];exact E2 hf.wi.rep.gl hf.env _
 obtain⟨us,vs,ws,hfn,hargs,h1,h2,h3⟩:=CX hop hc hop'
 simp only[map_nil,Ac] at h1 h2
 subst h1;subst h2
 refine EU (_E:=E) (_g:=g) hop hc hspec.1 hfn hargs ?_
 have hargs':=Dh.rep (gc:={ M:=g.M,β:=fun _=>g.β q,n:=1,ι:=g.ι,κ:=fun _=>g.κ q }) (q:=q) (g:=g) (by rfl) (by rfl) (by simp) ha h3
 refine Calls.mono (hspec.2 _ w _ (wrep_oneH hf.wi.rep hq hva) (by simpa using hargs')) ?_
 rintro e w' ⟨u,g',rfl,hw',hr⟩
 have h4:=wi_backH hf.wi hq hp' hno hw'
 refine⟨u,rfl,?_⟩
 have hle:g.le { g with M:=g'.M }:=⟨hw'.M,Nat.le_refl _,fun _ _=>rfl,fun _ _ _ h=>h,fun _ _=>rfl⟩
 have henv:Ac { M:=g'.M,β:=g.β,n:=g.n,ι:=fun _ _=>none,κ:=g.κ } env a.tmps.toList:=by
  have h5:=Dn (m:=g.n) (ts:=[]) _ _ (by rw[hf.wi.rep.n];exact hnoE) (Ac.mono hle _ _ hf.env)
  simpa[shG] using h5
 have hfi:FI E { M:=g'.M,β:=g.β,n:=g.n,ι:=fun _ _=>none,κ:=g.κ } ⟨σ.H.set q (some os'),[]⟩ env a w':=⟨h4,henv,hf.defers⟩
 have:=hfi.put h4 (Gh.le_refl _) (d:=d) (u:=u) (repD_pl (by rfl) hd hr) (some t)
 rw[ht]
 exact hk E0 E _ _ _ B hC this hB
end
def clQ(f:FuncId):Op->Bool|.call c=>(match c.callee with|.value (.func f')=>f'==f|_=>false)|_=>false
def clA:Op->List Operand|.call c=>c.args.toList|_=>[]
theorem clQ_ok{f:FuncId}{o:Op}(h:clQ f o=true):∃c:Call,o=.call c/\c.callee=.value (.func f)/\clA o=c.args.toList:=by
 cases o<;>simp only[clQ] at h<;>try (simp at h;done)
 rename_i c
 split at h
 ·rename_i f' hc
  have:=eq_of_beq h;subst this
  exact⟨c,rfl,hc,rfl⟩
 ·simp at h
section
variable {P : Program} {R : List D -> St -> Prop} {k : List KI} {nt : Nat} {E : List (Nat × D)} {σ : St} {ops : Array Oper} {L0 : List Oper} {C : Ent -> Ent -> Prop}
theorem ro_callHE(t f q:Nat){os:List D}(ds dc os':List D)(d:D)(h0:L0.isEmpty=false)(hg:B7 (mkE nt E) ops (hdO L0)=some true)(ht:(hdO L0).dst=some t)(hop:clQ f (hdO L0).op=true)
  (hds:(clA (hdO L0).op).map (evD (mkE nt E))=ds) (hq:σ.H[q]?=some (some os)) (hva:os.all vaD=true) (hp':D.pls os'=true) (hno:okH σ.H.length [] (σ.H.set q none)=true) (hnoE:D.okNs σ.H.length [] (mkE nt E)=true)
  (ha:Dh q ds dc) (hd:d.pl=true) (hspec:Ab P f dc ⟨[some os],σ.own⟩ d ⟨[some os'],[]⟩)
  (hk:BF C P R k ops L0.tail (mkE nt (E++[(t,d)])) ⟨σ.H.set q (some os'),[]⟩):BF C P R k ops L0 (mkE nt E) σ:=by
 obtain⟨c,h1,h2,h3⟩:=clQ_ok hop
 rw[hdO_eq h0]
 refine ro_callH t q os' d hg ht h1 h2 (f:=f) (ds:=ds) ?_ hq hva hp' hno hnoE ha hd hspec (by rw[←mkE_snoc];exact hk)
 rw[h1]
 simp only[Op.operands,Call.operands,h2]
 rw[h3] at hds
 simp[←hds,evD]
end
section
variable {P : Program} {fn : Func} {d : D} {σ' : St} {m : Nat} {k : List KI} {E : List (Nat × D)} {σ : St}
theorem GA(hm:P.follows .mixedOrders=true)(nt:Nat)(im:List Nat)(rg i:Nat){ops:Array Oper}{L:List Oper}(s:Sc)
  (h:AM (mkE nt E) fun env=>vOps P im rg ops (fun L sl σ=>It (BF (CN m) P (fun env σ1=>A8 P fn env σ1 d σ') (k++[]) ops L (mkE nt sl) σ)) L i s env σ fun s env σ=>vc (CN m) m P (fun env σ1=>A8 P fn env σ1 d σ') (vRet P fn.results.toList d σ') nt im [] 10000 s k env σ):
  BF (CN m) P (fun env σ1=>A8 P fn env σ1 d σ') k ops L (mkE nt E) σ:=by
 have:=rest_vc hm (linkN m) m (fun _ _ h=>h.2) nt im rg i s h
 rwa[append_nil] at this
end
theorem Dr{σ:St}{q:Nat}{cs cs':List D}(hq:σ.H[q]?=some (some cs))(h:∀(g:Gh) (us:List Value),Ac g cs us->Ac g cs' us)(h1:(∀c∈cs,c.one=true)->∀c∈cs',c.one=true)(e:List D):Cv e σ e ⟨σ.H.set q (some cs'),σ.own⟩:=fun E g a w hf=>by
 refine⟨g,?_,hf.env,hf.defers⟩
 have hw:=hf.wi
 obtain⟨us,rest,et,hb,hr,h2,hM,hκ⟩:=hw.rep.obj q cs hq
 exact hw.setObj hq hb hκ (h g us hr) (h1 h2) (fun _ _=>rfl) rfl rfl rfl rfl
theorem cv_flz{env:List D}{σ:St}{q t sz n:Nat}{xs:List V}(hsz:0<sz)(hs:∀x∈xs,x.size=sz)(hn:n=xs.length)(hq:σ.H[q]?=some (some (Aa xs)))(ht:env[t]?=some (.arr q 0 n)):Cv env σ (env.set t (.v (.list xs))) ⟨σ.H.set q none,σ.own⟩:=fun E g a w hf=>by
 subst hn
 have hone:∀y∈xs.flatMap V.cellsV,y.isAgg=false:=fun y hy=>by
  obtain⟨_,_,_,_,_,h1,_⟩:=hf.wi.rep.obj q _ hq
  have:=h1 (.v y) (mem_map.2 ⟨y,hy,rfl⟩)
  simpa[D.one] using this
 have hz:Fz (DB [q] σ.H) env (env.set t (.v (.list xs))):=by
  refine fz_set (n:=1) (Fz.refl env) ht (.inr (.inr ⟨q,0,sz,Aa xs,xs,.inl rfl,rfl,hsz,hs,by simp[DB,hq],fun j y hy=>?_⟩))
  exact⟨hone y (mem_of_getElem? hy),.v y,by rw[Nat.zero_add,Aa,getElem?_map,hy];rfl,.v y,.same,rfl⟩
 obtain⟨g',hf'⟩:=cv_frz [q] hz E g a w hf
 exact⟨g',by simpa[GH] using hf'⟩
theorem cv_cellArr{σ:St}{p q i:Nat}{cs:List D}{xs:List V}(hp:σ.H[p]?=some (some cs))(hq:σ.H[q]?=some (some (xs.map .v)))(hpq:p≠q)(hi:cs[i]?=some (.arr q 0 xs.length))(hx:∀x∈xs,x.isAgg=false)(e:List D):
  Cv e σ e ⟨(σ.H.set q none).set p (some (cs.set i (.v (.list xs)))),σ.own⟩:=fun E g a w hf=>by
 obtain⟨us,rest,et,hb,hr,h1,hM,_⟩:=hf.wi.rep.obj q _ hq
 have hus:us.length=xs.length:=by have:=Ay hr;simpa using this
 have hA:repA g.M xs us:=F6 (E9 xs) hr h1
 let M':Mem:=fun b o=>if b=g.β q then us[o]? else g.M b o
 have hle:g.M.le M':=fun b o v hm=>by
  simp only[M']
  rw[if_neg]; ·exact hm
  intro e;subst e;rw[hM o] at hm;simp at hm
 have hlg:g.le { g with M:=M' }:=⟨hle,Nat.le_refl _,fun _ _=>rfl,fun _ _ _ h=>h,fun _ _=>rfl⟩
 have hin:inM M' (g.β q) 0 us:=fun j v hj=>by simp[M',hj]
 have hE:∀{ys:List V} {vs:List Value},(∀y∈ys,y.isAgg=false)->repA M' ys vs->repE M' 1 ys vs:=by
  intro ys
  induction ys with
  |nil=>intro vs _ h;simpa only[repA,repE] using h
  |cons y ys ih=>
   intro vs hy h
   simp only[repA] at h
   obtain⟨u,us',rfl,ha,h1,h2⟩:=h
   simp only[repE]
   exact⟨[u],us',rfl,rfl,h1,ih (fun z hz=>hy z (by simp[hz])) h2⟩
 have hw':WI E { g with M:=M' } ⟨σ.H.set q none,σ.own⟩ w:=hf.wi.setObjG hle hq (fun c hc=>by simp at hc) (fun b _ hne=>⟨rfl,fun o=>by simp[M',hne]⟩) (fun b o v hm=>by
   simp only[M'] at hm
   split at hm
   ·rename_i e;subst e
    simp only[World.cell?,hb,getElem?_toArray];exact DM hm
   ·exact hf.wi.rep.mem b o v hm) (Nat.le_refl _) rfl rfl rfl
 have hp':(σ.H.set q none)[p]?=some (some cs):=by rw[List.getElem?_set_ne (fun e=>hpq e.symm)];exact hp
 obtain⟨us2,rest2,et2,hb2,hr2,h12,_,hκ2⟩:=hw'.rep.obj p cs hp'
 obtain⟨u,hu,hru⟩:=B0 hr2 hi
 simp only[Ae] at hru
 obtain⟨_,cap,hcap,rfl⟩:=hru
 have hlist:repV M' (.list xs) (.slice (some ⟨g.β q,0,none⟩) xs.length cap):=Ct (by omega) hin (hE hx (repA.mono hle _ _ hA)) hcap
 have hset:=Cu hr2 i (d:=.v (.list xs)) (u:=.slice (some ⟨g.β q,0,none⟩) xs.length cap) (by simp only[Ae];exact hlist)
 rw[Dm hu] at hset
 have h3:=hw'.setObj hp' hb2 hκ2 hset (fun c hc=>by
  rcases mem_or_eq_of_mem_set hc with h|h
  ·exact h12 c h
  ·rw[h];rfl) (fun _ _=>rfl) rfl rfl rfl rfl
 exact⟨_,h3,Ac.mono hlg _ _ hf.env,hf.defers⟩
theorem repDs_split{g:Gh}:∀{a b:List D} {us:List Value},Ac g (a++b) us->∃u v,us=u++v/\Ac g a u/\Ac g b v
 |[],b,us,h=>⟨[],us,rfl,rfl,h⟩
 |x::a,b,us,h=>by
  simp only[cons_append,Ac] at h
  obtain⟨u,us',rfl,h1,h2⟩:=h
  obtain⟨v,w,rfl,h3,h4⟩:=repDs_split h2
  exact⟨u::v,w,rfl,⟨u,v,rfl,h1,h3⟩,h4⟩
theorem spec_sel{P:Program}{f:FuncId}{ds A B es:List D}{T:List (Option (List D))}{q n sz:Nat}{c1 c2:List D}(hB:D.pls B=true)(he:D.pls es=true)(h1:D.pls c1=true)(h2:D.pls c2=true)(hq:T[q]?=some (some es))
  (h:Ab P f ds ⟨[some A],[]⟩ (.dagg (c1++ .gro (q+1) n sz::c2)) ⟨some B::T,[]⟩):Ab P f ds ⟨[some A],[]⟩ (.dagg (c1++ .arr 1 0 n::c2)) ⟨[some B,some es],[]⟩:=by
 refine⟨h.1,fun g w args hw ha=>Calls.mono (h.2 g w args hw ha) ?_⟩
 rintro e w' ⟨u,g',rfl,hw',hr⟩
 have hgn:g.n=1:=hw.n
 have hne:g'.β 0≠g'.β (q+1):=fun e=>by
  have:=hw'.rep.inj 0 (q+1) B es rfl (by simpa using hq) e
  omega
 refine⟨u,{ M:=g'.M,β:=fun i=>if i=0 then g'.β 0 else g'.β (q+1),n:=2,ι:=g'.ι,κ:=fun i=>if i=0 then g'.κ 0 else g'.κ (q+1)},rfl,?_,?_⟩
 ·refine{ rep:=?_,M:=hw'.M,size:=hw'.size,keep:=hw'.keep,os:=hw'.os,tape:=hw'.tape,output:=hw'.output,nE:=?_,βE:=?_,κE:=?_,objs:=?_,owns:=fun x hx=>by simp at hx,drawn:=hw'.drawn }
  ·refine{ n:=rfl,mem:=hw'.rep.mem,obj:=?_,inj:=?_,own:=fun k s xs hx=>by simp at hx,tags:=by simp,sep:=fun x hx=>by simp at hx,ownObj:=fun x hx=>by simp at hx,fresh:=hw'.rep.fresh,gl:=hw'.rep.gl,gw:=hw'.rep.gw }
   ·intro i cs hi
    match i,hi with
    |0,hi=>
     simp at hi;subst hi
     obtain⟨us,rest,et,a1,a2,a3,a4,a5⟩:=hw'.rep.obj 0 B rfl
     exact⟨us,rest,et,a1,AU (by rfl) hB a2,a3,a4,a5⟩
    |1,hi=>
     simp at hi;subst hi
     obtain⟨us,rest,et,a1,a2,a3,a4,a5⟩:=hw'.rep.obj (q+1) es (by simpa using hq)
     exact⟨us,rest,et,a1,AU (by rfl) he a2,a3,a4,a5⟩
    |i+2,hi=>simp at hi
   ·intro i j cs ds hi hj hij
    match i,j,hi,hj with
    |0,0,_,_=>rfl
    |0,1,_,_=>exact absurd hij hne
    |1,0,_,_=>exact absurd hij.symm hne
    |1,1,_,_=>rfl
    |i+2,_,hi,_=>simp at hi
    |_,j+2,_,hj=>simp at hj
  ·show g.n<=2;omega
  ·intro o ho
   have h0:o=0:=by show o=0;have:o<g.n:=ho;omega
   subst h0;exact hw'.βE 0 ho
  ·intro o ho
   have h0:o=0:=by show o=0;have:o<g.n:=ho;omega
   subst h0;exact hw'.κE 0 ho
  ·intro i cs hi
   match i,hi with
   |0,hi=>exact hw'.objs 0 B rfl
   |1,hi=>exact hw'.objs (q+1) es (by simpa using hq)
   |i+2,hi=>simp at hi
 ·simp only[Ae] at hr⊢
  obtain⟨us,rfl,hr⟩:=hr
  obtain⟨u1,u2,rfl,b1,b2⟩:=repDs_split hr
  simp only[Ac] at b2
  obtain⟨x,u3,rfl,b3,b4⟩:=b2
  simp only[Ae] at b3
  obtain⟨b5,cap,b6,b7,b8⟩:=b3
  refine⟨_,rfl,Aq (AU (by rfl) h1 b1) ?_⟩
  simp only[Ac]
  exact⟨_,_,rfl,by simp only[Ae];exact⟨by decide,cap,b6,b8⟩,AU (by rfl) h2 b4⟩
theorem GO{σ:St}{p q i sz:Nat}{cs:List D}{xs:List V}(hsz:0<sz)(hp:σ.H[p]?=some (some cs))(hq:σ.H[q]?=some (some (Aa xs)))(hpq:p≠q)(hi:cs[i]?=some (.arr q 0 xs.length))(hx:∀x∈xs,x.size=sz)(e:List D):
  Cv e σ e ⟨(σ.H.set q none).set p (some (cs.set i (.v (.list xs)))),σ.own⟩:=fun E g a w hf=>by
 obtain⟨us,rest,et,hb,hr,h1,hM,_⟩:=hf.wi.rep.obj q _ hq
 have hA:repA g.M (xs.flatMap V.cellsV) us:=F6 (E9 _) hr h1
 let M':Mem:=fun b o=>if b=g.β q then us[o]? else g.M b o
 have hle:g.M.le M':=fun b o v hm=>by
  simp only[M']
  rw[if_neg]; ·exact hm
  intro e;subst e;rw[hM o] at hm;simp at hm
 have hlg:g.le { g with M:=M' }:=⟨hle,Nat.le_refl _,fun _ _=>rfl,fun _ _ _ h=>h,fun _ _=>rfl⟩
 have hin:inM M' (g.β q) 0 us:=fun j v hj=>by simp[M',hj]
 have hw':WI E { g with M:=M' } ⟨σ.H.set q none,σ.own⟩ w:=hf.wi.setObjG hle hq (fun c hc=>by simp at hc) (fun b _ hne=>⟨rfl,fun o=>by simp[M',hne]⟩) (fun b o v hm=>by
   simp only[M'] at hm
   split at hm
   ·rename_i e;subst e
    simp only[World.cell?,hb,getElem?_toArray];exact DM hm
   ·exact hf.wi.rep.mem b o v hm) (Nat.le_refl _) rfl rfl rfl
 have hp':(σ.H.set q none)[p]?=some (some cs):=by rw[List.getElem?_set_ne (fun e=>hpq e.symm)];exact hp
 obtain⟨us2,rest2,et2,hb2,hr2,h12,_,hκ2⟩:=hw'.rep.obj p cs hp'
 obtain⟨u,hu,hru⟩:=B0 hr2 hi
 simp only[Ae] at hru
 obtain⟨_,cap,hcap,rfl⟩:=hru
 have hlist:repV M' (.list xs) (.slice (some ⟨g.β q,0,none⟩) xs.length cap):=Ct hsz hin (En hx (repA.mono hle _ _ hA)) hcap
 have hset:=Cu hr2 i (d:=.v (.list xs)) (u:=.slice (some ⟨g.β q,0,none⟩) xs.length cap) (by simp only[Ae];exact hlist)
 rw[Dm hu] at hset
 have h3:=hw'.setObj hp' hb2 hκ2 hset (fun c hc=>by
  rcases mem_or_eq_of_mem_set hc with h|h
  ·exact h12 c h
  ·rw[h];rfl) (fun _ _=>rfl) rfl rfl rfl rfl
 exact⟨_,h3,Ac.mono hlg _ _ hf.env,hf.defers⟩
theorem op_buildSliceO{P:Program}{o:Oper}{σ:St}{t:TypeId}{len:Nat}{parts:Array (Nat×Operand)}(ho:o.op=.buildSlice t len parts)(hp:parts.toList=((parts.toList.map (·.2)).zipIdx 0).map fun x=>(x.2,x.1))(hlen:parts.size=len)
  {e:TypeId} {sz by':Nat} {z:Option Value} (hs:BJ P t=some (e,sz,by',z)) (hz:z.isSome=true) {ds:List D} {xs:List V} (hx:Eh ds=some xs) (hsz:∀x∈xs,x.size=sz) (h0:0<len) (h1:0<sz) (h2:len*sz<=1000):
  Ai P o ds σ (.gro σ.H.length len sz) ⟨σ.H++[some (Aa xs)],σ.own⟩:=by
 intro E g a w K Q hw hds hK
 simp only[ho,Op.operands] at hds
 obtain⟨i,hu,hi,rfl,rfl,rfl⟩:=A6 hs
 obtain⟨zz,hzz⟩:=Option.isSome_iff_exists.1 hz
 have hlm:(parts.toList.map fun p=>a.eval p.2).length=len:=by simp[hlen]
 have hds':Ac g ds (parts.toList.map fun p=>a.eval p.2):=by simpa[Function.comp_def] using hds
 obtain⟨hr,hcs⟩:=GY hx hds' hsz
 have hxl:xs.length=len:=by rw[EV hx, ←Ay hds',hlm]
 have hpos:0<len*i.size:=Nat.mul_pos h0 h1
 have hf:=fill_all i.size (parts.toList.map fun p=>a.eval p.2) 0 [] ((Array.range (len*i.size)).map (zz.cells[· %zz.cells.size]!)).toList (by simp) hcs (by simp[hlen])
 have hpp:((parts.toList.map fun p=>a.eval p.2).zipIdx 0).map (fun x=>(x.2,x.1))=parts.toList.map fun p=>(p.1,a.eval p.2):=by
  have e1:(parts.toList.map fun p=>a.eval p.2)=(parts.toList.map (·.2)).map a.eval:=by simp
  rw[e1,List.zipIdx_map,map_map]
  conv=>rhs;rw[hp,map_map]
  rfl
 rw[hpp] at hf
 simp only[nil_append,Array.toArray_toList] at hf
 have hrun:=run_buildSlice (P:=P) w t e len (parts.map fun p=>(p.1,a.eval p.2)) _ i zz hu hi hzz (by omega) (by omega) (by simpa using hf)
 generalize hus:(parts.toList.map fun p=>a.eval p.2).flatMap (·.cells.toList)=us at hr hrun
 have hul:us.length=len*i.size:=by rw[B8 hr,hxl]
 obtain⟨h5,h6⟩:=D5 hr
 obtain⟨g',h3,h4,h5',h6',h7⟩:=hw.newObjR (us:=us) (rest:=[]) (cs:=Aa xs) e h5 h6
 rw[append_nil] at h3 h6'
 have:=hK g' _ (.slice (some ⟨w.heap.size,0,none⟩) len len) h3 h4 (by
  simp only[Ae]
  exact⟨by omega,len,Nat.le_refl _,by rw[h6',hul],by rw[h5']⟩)
 unfold Oper.wp execOp
 simp only[ho]
 simp only[Sem.run_bind]
 rw[show(parts.map fun(x:Nat×Operand)=>match x with|(i,x)=>(i,a.eval x))=parts.map fun p=>(p.1,a.eval p.2) from rfl,hrun]
 exact this
theorem ones_ren{ρ τ:Nat->Nat}:∀{ds:List D},(∀c∈D.rens ρ τ ds,c.one=true)->∀c∈ds,c.one=true
 |[],_,c,hc=>by simp at hc
 |d::ds,h,c,hc=>by
  simp only[D.rens,mem_cons] at h
  rcases mem_cons.1 hc with rfl|hc
  ·have:=h _ (.inl rfl)
   rwa[ren_one] at this
  ·exact ones_ren (fun x hx=>h x (.inr hx)) c hc
mutual
theorem ren_plE{ρ τ:Nat->Nat}:∀(d:D),d.pl=true->d.ren ρ τ=d
 |.v _,_|.raw _,_|.rv ..,_|.err,_|.undef,_=>by simp[D.ren]
 |.tup ds,h=>by rw[D.ren,rens_plE ds (by simpa[D.pl] using h)]
 |.acc ..,h|.ptr ..,h|.arr ..,h|.gro ..,h|.dagg _,h|.dfn ..,h=>by simp[D.pl] at h
theorem rens_plE{ρ τ:Nat->Nat}:∀(ds:List D),D.pls ds=true->D.rens ρ τ ds=ds
 |[],_=>by simp[D.rens]
 |d::ds,h=>by
  simp only[D.pls,Bool.and_eq_true] at h
  rw[D.rens,ren_plE d h.1,rens_plE ds h.2]
end
mutual
theorem okN_plE{n:Nat}{ts:List Nat}:∀(d:D),d.pl=true->d.okN n ts=true
 |.v _,_|.raw _,_|.rv ..,_|.err,_|.undef,_=>by simp[D.okN]
 |.tup ds,h=>by rw[D.okN,okNs_plE ds (by simpa[D.pl] using h)]
 |.acc ..,h|.ptr ..,h|.arr ..,h|.gro ..,h|.dagg _,h|.dfn ..,h=>by simp[D.pl] at h
theorem okNs_plE{n:Nat}{ts:List Nat}:∀(ds:List D),D.pls ds=true->D.okNs n ts ds=true
 |[],_=>by simp[D.okNs]
 |d::ds,h=>by
  simp only[D.pls,Bool.and_eq_true] at h
  rw[D.okNs,okN_plE d h.1,okNs_plE ds h.2];rfl
end
theorem Bz{ρ τ:Nat->Nat}{ds:List D}(h:D.pls ds=true):D.rens ρ τ ds=ds:=rens_plE ds h
theorem CJ{n:Nat}{ts:List Nat}{ds:List D}(h:D.pls ds=true):D.okNs n ts ds=true:=okNs_plE ds h
theorem spec_selG{P:Program}{f:FuncId}{ds:List D}{σ:St}{d:D}{T H':List (Option (List D))}(sel:Nat->Nat)(hk:σ.H.length<=H'.length)(hfix:∀i,i<σ.H.length->sel i=i)
  (hinj:∀i j,i<H'.length->j<H'.length->sel i=sel j->i=j) (hlt:∀i,i<H'.length->sel i<T.length)
  (hsel:∀i cs,H'[i]?=some (some cs)->T[sel i]?=some (some (D.rens sel id cs))/\D.okNs H'.length [] cs=true) (hd:d.okN H'.length []=true)
  (h:Ab P f ds σ (d.ren sel id) ⟨T,[]⟩):Ab P f ds σ d ⟨H',[]⟩:=by
 refine⟨h.1,fun g w args hw ha=>Calls.mono (h.2 g w args hw ha) ?_⟩
 rintro e w' ⟨u,g',rfl,hw',hr⟩
 have hgn:g.n=σ.H.length:=hw.n
 have hn':g'.n=T.length:=hw'.rep.n
 let g2:Gh:={ M:=g'.M,β:=fun i=>g'.β (sel i),n:=H'.length,ι:=g'.ι,κ:=fun i=>g'.κ (sel i)}
 have ho:∀o,o<H'.length->sel o<g'.n->id o<g2.n/\g2.β (id o)=g'.β (sel o)/\g2.κ (id o)=g'.κ (sel o):=fun o h _=>⟨h,rfl,rfl⟩
 have hι:∀t,([]:List Nat).contains t=true->∀m u,g'.ι (id t) m=some u->g2.ι (id t) m=some u:=fun t ht=>by simp at ht
 have hdd:=fun(d:D) (u:Value) (hk:d.okN H'.length []=true) (h:Ae g' (d.ren sel id) u)=>by
  have:=repD_ren (g:=g') (g':=g2) (ρ:=sel) (τ:=id) (ρ':=id) (τ':=id) (fun _ _ h=>h) ho hι d u hk h
  rwa[ren_id] at this
 have hds:=fun(ds:List D) (us:List Value) (hk:D.okNs H'.length [] ds=true) (h:Ac g' (D.rens sel id ds) us)=>by
  have:=Db (g:=g') (g':=g2) (ρ:=sel) (τ:=id) (ρ':=id) (τ':=id) (fun _ _ h=>h) ho hι ds us hk h
  rwa[Ep] at this
 refine⟨u,g2,rfl,?_,hdd d u hd hr⟩
 refine{ rep:=?_,M:=hw'.M,size:=hw'.size,keep:=hw'.keep,os:=hw'.os,tape:=hw'.tape,output:=hw'.output,nE:=?_,βE:=?_,κE:=?_,objs:=?_,owns:=fun x hx=>by simp at hx,drawn:=hw'.drawn }
 ·refine{ n:=rfl,mem:=hw'.rep.mem,obj:=?_,inj:=?_,own:=fun k s xs hx=>by simp at hx,tags:=by simp,sep:=fun x hx=>by simp at hx,ownObj:=fun x hx=>by simp at hx,fresh:=hw'.rep.fresh,gl:=hw'.rep.gl,gw:=hw'.rep.gw }
  ·intro i cs hi
   obtain⟨h1,h2⟩:=hsel i cs hi
   obtain⟨us,rest,et,a1,a2,a3,a4,a5⟩:=hw'.rep.obj (sel i) _ h1
   exact⟨us,rest,et,a1,hds cs us h2 a2,ones_ren a3,a4,a5⟩
  ·intro i j cs ds hi hj hij
   have hil:=(List.getElem?_eq_some_iff.1 hi).1
   have hjl:=(List.getElem?_eq_some_iff.1 hj).1
   exact hinj i j hil hjl (hw'.rep.inj _ _ _ _ (hsel i cs hi).1 (hsel j ds hj).1 hij)
 ·show g.n<=H'.length;omega
 ·intro o ho2
  have h2:o<σ.H.length:=by have:o<g.n:=ho2;omega
  show g'.β (sel o)=g.β o
  rw[hfix o h2];exact hw'.βE o ho2
 ·intro o ho2
  have h2:o<σ.H.length:=by have:o<g.n:=ho2;omega
  show g'.κ (sel o)=g.κ o
  rw[hfix o h2];exact hw'.κE o ho2
 ·intro i cs hi
  exact hw'.objs _ _ (hsel i cs hi).1
theorem fi_selG{E:Ent}{g:Gh}{σ:St}{e e':List D}{a:Act}{w:World}{H':List (Option (List D))}(sel:Nat->Nat){m:Nat}(hEm:E.g.n<=m)(hm:m<=H'.length)(hfix:∀i,i<m->sel i=i)
  (hinj:∀i j,i<H'.length->j<H'.length->sel i=sel j->i=j)
  (hsel:∀i cs,H'[i]?=some (some cs)->σ.H[sel i]?=some (some (D.rens sel id cs))/\D.okNs H'.length (σ.own.map (·.1)) cs=true)
  (he:D.okNs H'.length (σ.own.map (·.1)) e'=true) (hee:e=D.rens sel id e') (hf:FI E g σ e a w):∃g',FI E g' ⟨H',σ.own⟩ e' a w:=by
 have hw:=hf.wi
 let g2:Gh:={ M:=g.M,β:=fun i=>g.β (sel i),n:=H'.length,ι:=g.ι,κ:=fun i=>g.κ (sel i)}
 have ho:∀o,o<H'.length->sel o<g.n->id o<g2.n/\g2.β (id o)=g.β (sel o)/\g2.κ (id o)=g.κ (sel o):=fun o h _=>⟨h,rfl,rfl⟩
 have hι:∀t,(σ.own.map (·.1)).contains t=true->∀m u,g.ι (id t) m=some u->g2.ι (id t) m=some u:=fun t _ m u h=>h
 have hds:=fun(ds:List D) (us:List Value) (hk:D.okNs H'.length (σ.own.map (·.1)) ds=true) (h:Ac g (D.rens sel id ds) us)=>by
  have:=Db (g:=g) (g':=g2) (ρ:=sel) (τ:=id) (ρ':=id) (τ':=id) (fun _ _ h=>h) ho hι ds us hk h
  rwa[Ep] at this
 refine⟨g2,?_,hds e' _ he (hee▸hf.env),hf.defers⟩
 refine{ rep:=?_,M:=hw.M,size:=hw.size,keep:=hw.keep,os:=hw.os,tape:=hw.tape,output:=hw.output,nE:=Nat.le_trans hEm hm,βE:=?_,κE:=?_,objs:=?_,owns:=hw.owns,drawn:=hw.drawn }
 ·refine{ n:=rfl,mem:=hw.rep.mem,obj:=?_,inj:=?_,own:=hw.rep.own,tags:=hw.rep.tags,sep:=hw.rep.sep,ownObj:=?_,fresh:=hw.rep.fresh,gl:=hw.rep.gl,gw:=hw.rep.gw }
  ·intro i cs hi
   obtain⟨h1,h2⟩:=hsel i cs hi
   obtain⟨us,rest,et,a1,a2,a3,a4,a5⟩:=hw.rep.obj (sel i) _ h1
   exact⟨us,rest,et,a1,hds cs us h2 a2,ones_ren a3,a4,a5⟩
  ·intro i j cs ds hi hj hij
   have hil:=(List.getElem?_eq_some_iff.1 hi).1
   have hjl:=(List.getElem?_eq_some_iff.1 hj).1
   exact hinj i j hil hjl (hw.rep.inj _ _ _ _ (hsel i cs hi).1 (hsel j ds hj).1 hij)
  ·intro x hx u hu b hb i cs hi
   exact hw.rep.ownObj x hx u hu b hb _ _ (hsel i cs hi).1
 ·intro o ho2
  show g.β (sel o)=E.g.β o
  rw[hfix o (by omega)];exact hw.βE o ho2
 ·intro o ho2
  show g.κ (sel o)=E.g.κ o
  rw[hfix o (by omega)];exact hw.κE o ho2
 ·intro i cs hi
  exact hw.objs _ _ (hsel i cs hi).1
theorem FA{C:Ent->Ent->Prop}{P:Program}{R:List D->St->Prop}{k:List KI}{σ:St}{e e':List D}{H':List (Option (List D))}{m:Nat}(hCm:∀E0 E,C E0 E->E.g.n<=m)(sel:Nat->Nat)(hm:m<=H'.length)(hfix:∀i,i<m->sel i=i)
  (hinj:∀i j,i<H'.length->j<H'.length->sel i=sel j->i=j)
  (hsel:∀i cs,H'[i]?=some (some cs)->σ.H[sel i]?=some (some (D.rens sel id cs))/\D.okNs H'.length (σ.own.map (·.1)) cs=true)
  (he:D.okNs H'.length (σ.own.map (·.1)) e'=true) (hee:e=D.rens sel id e') (h:A2 C P R k e' ⟨H',σ.own⟩):A2 C P R k e σ:=fun E0 E g a w B hC hf hB=>by
 obtain⟨g',hf'⟩:=fi_selG sel (hCm E0 E hC) hm hfix hinj hsel he hee hf
 exact h E0 E g' a w B hC hf' hB
theorem D3{C:Ent->Ent->Prop}{P:Program}{R:List D->St->Prop}{k:List KI}{H0 H':List (Option (List D))}{e e':List D}(hCm:∀E0 E,C E0 E->E.g.n<=0)(j:Nat)(hj:H0.length=j)(hp:∀cs,some cs∈H'->D.pls cs=true)
  (he:D.okNs H'.length [] e'=true) (hee:e=D.rens (fun i=>i+j) id e') (h:A2 C P R k e' ⟨H',[]⟩):A2 C P R k e ⟨H0++H',[]⟩:=by
 refine FA (σ:=⟨H0++H',[]⟩) (e':=e') (H':=H') (m:=0) hCm (fun i=>i+j) (Nat.zero_le _) (fun i hi=>by omega) (fun i k _ _ h=>by simpa using h) (fun i cs hi=>?_) he hee h
 have hpl:=hp cs (mem_of_getElem? hi)
 refine⟨?_,CJ hpl⟩
 rw[Bz hpl,getElem?_append_right (by omega),hj,Nat.add_sub_cancel]
 exact hi
theorem spec_unacc{P:Program}{f:FuncId}{ds:List D}{k:Nat}{xs:List V}{own:List (Nat×Nat×List V)}(h:Ab P f ds ⟨[],[]⟩ (.acc k xs) ⟨[],own⟩):Ab P f ds ⟨[],[]⟩ (.v (.list xs)) ⟨[],[]⟩:=by
 refine⟨h.1,fun g w args hw ha=>Calls.mono (h.2 g w args hw ha) ?_⟩
 rintro e w' ⟨u,g',rfl,hw',hr⟩
 have hw2:=wi_sh (σ':=⟨[],[]⟩) hw' (m:=0) rfl (Nat.zero_le _) (by rw[hw.n];exact Nat.le_refl _) rfl (by simp)
 refine⟨u,_,rfl,hw2,?_⟩
 refine repD_sh _ _ rfl ?_
 simp only[Ae] at hr⊢
 exact hr.1
def σbad:St:=⟨[],[(1,1,[]),(1,1,[])]⟩
theorem opOK_bad{P:Program}{o:Oper}{ds:List D}{d:D}{s':St}:Ai P o ds σbad d s':=fun E g a w K Q hw=>by
 have:=hw.rep.tags
 simp[σbad] at this
theorem opOK_out{P:Program}{o:Oper}{ds:List D}{q off:Nat}{s:St}{d:D}{s':St}(h:s.H.length<=q):Ai P o (.ptr q off::ds) s d s':=fun E g a w K Q hw hds=>by
 simp only[Ac,Ae] at hds
 obtain⟨u,us,_,h1,_⟩:=hds
 have:=h1.1
 have:=hw.rep.n
 omega
theorem sets_weak:∀(L:List (Nat×D)) (e0 e:List D),e0.length=e.length->(∀(i:Nat) (d':D),e0[i]?=some d'->d'=.undef∨e[i]?=some d')->(∀p∈L,e0[p.1]?=some .undef)->
  e0.length=(L.foldl (fun e p=>e.set p.1 p.2) e).length/\∀(i:Nat) (d':D),e0[i]?=some d'->d'=.undef∨(L.foldl (fun e p=>e.set p.1 p.2) e)[i]?=some d'
 |[],e0,e,hl,h,_=>⟨hl,h⟩
 |p::L,e0,e,hl,h,hp=>by
  refine sets_weak L e0 (e.set p.1 p.2) (by simpa using hl) (fun i d' hd=>?_) (fun q hq=>hp q (by simp[hq]))
  by_cases hi:i=p.1
  ·subst hi
   rw[hp p (by simp)] at hd
   simp at hd;exact .inl hd.symm
  ·rw[List.getElem?_set_ne (fun e=>hi e.symm)];exact h i d' hd
theorem run_mkE_app{C:Ent->Ent->Prop}{P:Program}{R:List D->St->Prop}{k:List KI}{n:Nat}{L L2:List (Nat×D)}{σ:St}(hp:∀p∈L2,(mkE n L)[p.1]?=some .undef)(h:A2 C P R k (mkE n L) σ):A2 C P R k (mkE n (L++L2)) σ:=by
 obtain⟨h1,h2⟩:=sets_weak L2 (mkE n L) (mkE n L) rfl (fun i d' hd=>.inr hd) hp
 rw[show mkE n (L++L2)=L2.foldl (fun e p=>e.set p.1 p.2) (mkE n L) by simp[mkE]]
 exact FT h1 h2 h
theorem code_vcR{P:Program}(hm:P.follows .mixedOrders=true){C:Nat}{fn:Func}{d:D}{σ':St}(nt:Nat)(im:List Nat){ks T:List KI}{L:List (Nat×D)}{σ:St}(s:Sc)
  (h:AM (mkE nt L) fun env=>vc (CN C) C P (fun env σ1=>A8 P fn env σ1 d σ') (vRet P fn.results.toList d σ') nt im T 10000 s ks env σ):Rn P fn C d σ' (ks++T) (mkE nt L) σ:=run_vc hm (linkN _) _ (fun _ _ h=>h.2) nt im s h
noncomputable def vRetX(P:Program)(rs:List ResultVar)(d:D)(σ':St)(env:List D)(σ:St)(kn0:Bool:=false):Prop:=
 vRes P env σ true rs fun ds=>AM (ds.map (wkD (σ'.own.map (·.1)) kn0)) fun ds=>packN ds fun d'=>
  cond (D.okN σ'.H.length (σ'.own.map (·.1)) d&&Nat.ble σ'.H.length σ.H.length) (okHP true (okH σ'.H.length (σ'.own.map (·.1)) (σ.H.take σ'.H.length))
   (eqNil σ'.H (σ.H.take σ'.H.length) (eqNil σ'.own (ownF (σ'.own.map (·.1)) σ.own) (d'=d)))) False
theorem vRetX_ok{P:Program}{fn:Func}{d:D}{σ':St}{env:List D}{σ:St}(h:vRetX P fn.results.toList d σ' env σ):A8 P fn env σ d σ':=by
 obtain⟨ds,h1,hr⟩:=GX h
 rw[AI,packN_eq] at h1
 obtain⟨h2,h3⟩:=Am h1
 obtain⟨h8,h3⟩:=okHP_ok h3
 simp only[Bool.and_eq_true] at h2
 generalize false=kn at h3
 have h4:packD (ds.map (wkD (σ'.own.map (·.1)) kn))=d/\σ.H.take σ'.H.length=σ'.H/\ownF (σ'.own.map (·.1)) σ.own=σ'.own:=by
  obtain⟨e1,h3⟩:=FG h3 (fun e=>by rw[e];rfl)
  obtain⟨e2,h3⟩:=FG h3 (fun e=>by rw[e];unfold ownF;rw[List.filter_eq_nil_iff];simp)
  exact⟨h3,e1,e2⟩
 obtain⟨rfl,hH,hown⟩:=h4
 intro E g a w hf hE
 obtain⟨us,h5,h6⟩:=hr.run hf
 have hrun:(results fn a.tmps).run P w=.ok (if h:us.length=1 then us[0] else .tuple us.toArray) w:=by
  rw[results_eq,Array.mapM_eq_mapM_toList]
  simp only[Sem.run_bind,Sem.run_map,h5,Result.andThen_ok]
  by_cases h:us.length=1<;>simp[h]
 have hsub:σ'.own.Sublist σ.own:=by rw[←hown];exact List.filter_sublist
 refine⟨_,_,hrun,wi_sh hf.wi hH.symm (Nat.le_of_ble_eq_true h2.2) hE (by have:=h8;rwa[hH] at this) hsub,?_⟩
 refine repD_sh _ _ h2.1 ?_
 have h7:=DO (ts:=σ'.own.map (·.1)) (kn:=kn) h6
 generalize ds.map (wkD (σ'.own.map (·.1)) kn)=ds' at h7
 have hl:=Ay h7
 unfold packD
 split
 ·rename_i d0
  obtain⟨u,rfl,h3⟩:=A0.1 h7
  simpa using h3
 ·rename_i hne
  have:us.length≠1:=by
   rw[hl]
   intro h
   match ds',h with
   |[d0],_=>exact hne d0 rfl
  rw[dif_neg this]
  simp only[Ae]
  exact⟨us,rfl,h7⟩
theorem spec_vcX{P:Program}(hm:P.follows .mixedOrders=true){f:FuncId}{ds:List D}{σ σ':St}{d:D}(fn:Func)(c:Code)(hf:P.funcs[f]?=some fn)(hb:fn.body=some c)(hn:(fn.name=="runtime.NumGoroutine")=false)(hH:Nat.ble σ.H.length σ'.H.length=true)(nt:Nat)(hnt:(ds++replicate (fn.ntmps-ds.length) D.undef).length=nt)
  (im:List Nat) (s:Sc)
  (h:AM (ds++replicate (fn.ntmps-ds.length) D.undef) fun env=>vc (CN σ.H.length) σ.H.length P (fun env σ1=>A8 P fn env σ1 d σ') (fun _ env σ=>vRetX P fn.results.toList d σ' env σ) nt im [] 10000 s [.code c] env σ):Ab P f ds σ d σ':=by
 rw[AI] at h
 refine spec_of_runN hf hb hn (Nat.le_of_ble_eq_true hH) ?_
 exact vc_ok (ks:=[.code c]) (T:=[]) (linkN _) (fun _ _ h=>h.2) hm (fun b env σ _ h=>vRetX_ok h) hnt h
section
variable {P : Program} {o : Oper} {σ : St} {d : D}
theorem op_clearArr{x:Operand}{t:TypeId}(ho:o.op=.call { callee:=.builtin .clear,args:= #[x],argTypes:= #[t]}){e:TypeId}{sz by':Nat}{z:Value}(hs:BJ P t=some (e,sz,by',some z)){zs:List V}(hz:Eu z.cells.toList=some zs)(hzc:z.cells.size=sz)
  {q off len:Nat} {cs:List D} (hq:σ.H[q]?=some (some cs)) (hn:0<len) (hfit:off+len*sz<=cs.length):
  Ai P o [.arr q off len] σ (.tup []) ⟨σ.H.set q (some (cs.take off++(replicate len zs).flatten.map .v++cs.drop (off+len*sz))),σ.own⟩:=by
 intro E g a w K Q hw hds hK
 simp only[ho,Op.operands,Call.operands] at hds
 obtain⟨u,eq,h1⟩:=A0.1 (by simpa using hds)
 simp only[List.cons.injEq,and_true] at eq
 simp only[Ae] at h1
 obtain⟨_,cap,_,rfl⟩:=h1
 obtain⟨i,hu,hi,hsz,hby,hzz⟩:=A6 hs
 obtain⟨us,rest,et,hb,hr,hone,hM,hκ⟩:=hw.rep.obj q cs hq
 have hul:=Ay hr
 have hcells:(Builtin.zeroCells z.cells len).toList=(replicate len z.cells.toList).flatten:=by
  have h:=madeCells_eq z.cells len
  have h2:Builtin.zeroCells z.cells len=madeCells z.cells (len*z.cells.size):=rfl
  rw[h2,h]
 obtain⟨hr1,ho1⟩:=CR (g:=g) (DZ (M:=g.M) hz)
 have hrz:∀m,Ac g ((replicate m zs).flatten.map .v) (replicate m z.cells.toList).flatten/\∀c∈ (replicate m zs).flatten.map D.v,c.one=true:=by
  intro m
  induction m with
  |zero=>simp[Ac]
  |succ m ih=>
   simp only[replicate_succ,flatten_cons,map_append]
   refine⟨Aq hr1 ih.1,fun c hc=>?_⟩
   rcases mem_append.1 hc with h|h
   ·exact ho1 c h
   ·exact ih.2 c h
 have hvl:(replicate len z.cells.toList).flatten.length=len*sz:=by rw[DW,Array.length_toList,hzc]
 have hst:=run_storeCells_at P (g.β q) off et (replicate len z.cells.toList).flatten 0 (us++rest).toArray w hb (by simp only[size_toArray,length_append];omega) (fun v hv=>Ck (hrz len).2 (hrz len).1 v hv)
 simp only[Nat.add_zero,hvl] at hst
 rw[show(us++rest).take off++(replicate len z.cells.toList).flatten++(us++rest).drop (off+len*sz)=(us.take off++(replicate len z.cells.toList).flatten++us.drop (off+len*sz))++rest from by
  rw[List.take_append_of_le_length (by omega),List.drop_append_of_le_length (by omega)];simp] at hst
 have hw':=hw.setObj (cs':=cs.take off++(replicate len zs).flatten.map .v++cs.drop (off+len*sz)) hq (us:=us.take off++(replicate len z.cells.toList).flatten++us.drop (off+len*sz)) (rest:=rest) (e:=et)
  (w':=w.setRow (g.β q) ((us.take off++(replicate len z.cells.toList).flatten++us.drop (off+len*sz))++rest).toArray) (setRow_heap w _ _ _ et _ hb) (by rw[←hκ];simp only[length_append,length_take,length_drop];omega)
  (Aq (Aq (BD hr off) (hrz len).1) (BP hr (off+len*sz)))
  (fun c hc=>by
   simp only[mem_append] at hc
   rcases hc with(hc|hc)|hc
   ·exact hone c (mem_of_mem_take hc)
   ·exact(hrz len).2 c hc
   ·exact hone c (mem_of_mem_drop hc))
  (fun b hb=>setRow_other w _ _ _ hb) (by simp) rfl rfl rfl
 have:=hK g _ (.tuple #[]) hw' g.le_refl (by simp only[Ae];exact⟨[],rfl,by simp[Ac]⟩)
 obtain⟨m,hm⟩:∃m,len=m+1:=⟨len-1,by omega⟩
 have hrun:(Builtin.clear_ #[t] o.type #[.slice (some ⟨g.β q,off,none⟩) len cap]).run P w=.ok (.tuple #[]) (w.setRow (g.β q) ((us.take off++(replicate len z.cells.toList).flatten++us.drop (off+len*sz))++rest).toArray):=by
  subst hm
  simp[Builtin.clear_,run_underlying hu,zeroValue,typeInfo,hi,hzz,hcells,hst]
 unfold Oper.wp execOp
 simp only[ho,resolve,invoke,builtin,Sem.run_bind,Sem.run_pure,Result.andThen_ok]
 rw[show(#[x]:Array Operand).map a.eval= #[.slice (some ⟨g.β q,off,none⟩) len cap] from by simp[eq],hrun]
 exact this
theorem CA{t:TypeId}{x:Operand}{lo hi:Option Operand}(ho:o.op=.slice t x lo hi none){e:TypeId}{sz by':Nat}{z:Option Value}(hs:BJ P t=some (e,sz,by',z)){q off len:Nat}
  (l h:Option (IntKind×Int)) (hlo:lo.isSome=l.isSome) (hhi:hi.isSome=h.isSome) {l' h':Nat} (hb:BI len (l.map (·.2)) (h.map (·.2))=some (l',h')) (hlt:l'<len):
  Ai P o (.arr q off len::(Ed l++Ed h)) σ (.arr q (off+l'*sz) (h'-l')) σ:=by
 refine Ax fun E g ρ w hw hds=>?_
 obtain⟨i,hu,hi',hsz,_,_⟩:=A6 hs
 have hb2:=hb
 unfold BI at hb2
 simp only at hb2
 split at hb2
 case isFalse=>simp at hb2
 rename_i hcond
 simp only[Option.some.injEq,Prod.mk.injEq] at hb2
 have main:∀u (lv hv:Option Value),ρ x=u->lv=l.map (fun p=>Value.int p.1 p.2)->hv=h.map (fun p=>Value.int p.1 p.2)->lo.map ρ=lv->hi.map ρ=hv->Ae g (.arr q off len) u->
   ∃u,(execOp ρ o).run P w=.ok (.value u) w/\Ae g (.arr q (off+l'*sz) (h'-l')) u:=by
  intro u lv hv eu el eh e1 e2 hr
  simp only[Ae] at hr⊢
  obtain⟨hq,cap,hc,rfl⟩:=hr
  refine⟨.slice (some ⟨g.β q,off+l'*sz,none⟩) (h'-l') (cap-l'),?_,hq,cap-l',by omega,rfl⟩
  have hbr:=D4 (P:=P) w true len cap hc l h hb
  simp only[execOp,ho,eu,e1,e2,el,eh,Option.map_none,Instr.sliceAt,Instr.slice,Sem.run_bind,run_underlying hu,Result.andThen_ok,hbr]
  simp[sizeOf,typeInfo,hi',hsz,show ¬cap=l' by omega,Addr.add_lit]
 simp only[ho,Op.operands] at hds
 cases lo with
 |none=>
  cases l with
  |some _=>simp at hlo
  |none=>
   cases hi with
   |none=>
    cases h with
    |some _=>simp at hhi
    |none=>
     obtain⟨u,eu,h1⟩:=A0.1 (by simpa[Ed] using hds)
     simp at eu
     exact main u none none eu rfl rfl rfl rfl h1
   |some ho'=>
    cases h with
    |none=>simp at hhi
    |some p=>
     obtain⟨u,v,eu,h1,h2⟩:=Ap.1 (by simpa[Ed] using hds)
     simp only[List.cons.injEq,and_true] at eu
     simp only[Ae,A1] at h2
     exact main u none _ eu.1 rfl (by simp;rfl) rfl (by simp[eu.2,h2]) h1
 |some lo'=>
  cases l with
  |none=>simp at hlo
  |some lq=>
   cases hi with
   |none=>
    cases h with
    |some _=>simp at hhi
    |none=>
     obtain⟨u,v,eu,h1,h2⟩:=Ap.1 (by simpa[Ed] using hds)
     simp only[List.cons.injEq,and_true] at eu
     simp only[Ae,A1] at h2
     exact main u _ none eu.1 (by simp;rfl) rfl (by simp[eu.2,h2]) rfl h1
   |some ho'=>
    cases h with
    |none=>simp at hhi
    |some p=>
     obtain⟨u,v,v2,eu,h1,h2,h3⟩:=DQ.1 (by simpa[Ed] using hds)
     simp only[List.cons.injEq,and_true] at eu
     simp only[Ae,A1] at h2 h3
     exact main u _ _ eu.1 (by simp;rfl) (by simp;rfl) (by simp[eu.2.1,h2]) (by simp[eu.2.2,h3]) h1
end
theorem cv_flzP{env:List D}{σ:St}{q t sz n:Nat}{xs:List V}{rest:List D}(hsz:0<sz)(hs:∀x∈xs,x.size=sz)(hn:n=xs.length)(hq:σ.H[q]?=some (some (Aa xs++rest)))(ht:env[t]?=some (.arr q 0 n)):Cv env σ (env.set t (.v (.list xs))) ⟨σ.H.set q none,σ.own⟩:=fun E g a w hf=>by
 subst hn
 have hone:∀y∈xs.flatMap V.cellsV,y.isAgg=false:=fun y hy=>by
  obtain⟨_,_,_,_,_,h1,_⟩:=hf.wi.rep.obj q _ hq
  have:=h1 (.v y) (mem_append.2 (.inl (mem_map.2 ⟨y,hy,rfl⟩)))
  simpa[D.one] using this
 have hz:Fz (DB [q] σ.H) env (env.set t (.v (.list xs))):=by
  refine fz_set (n:=1) (Fz.refl env) ht (.inr (.inr ⟨q,0,sz,Aa xs++rest,xs,.inl rfl,rfl,hsz,hs,by simp[DB,hq],fun j y hy=>?_⟩))
  have hj:j<(Aa xs).length:=by rw[Aa,length_map];exact(List.getElem?_eq_some_iff.1 hy).1
  exact⟨hone y (mem_of_getElem? hy),.v y,by rw[Nat.zero_add,getElem?_append_left hj,Aa,getElem?_map,hy];rfl,.v y,.same,rfl⟩
 obtain⟨g',hf'⟩:=cv_frz [q] hz E g a w hf
 exact⟨g',by simpa[GH] using hf'⟩
theorem rho_range(n:Nat):rho n (List.range n)=id:=by
 funext j
 unfold rho
 by_cases h:j<n
 ·rw[List.getElem?_range h];rfl
 ·rw[getElem?_eq_none (by rw[List.length_range];omega),List.length_range];show n+(j-n)=j;omega
theorem backH_range:∀(H2 H1 os:List (Option (List D))),H2.length<=os.length->Cy (H1++H2) (List.range' H1.length H2.length) os=H1++os
 |[],H1,os,_=>by simp[Cy]
 |x::H2,H1,[],h=>by simp at h
 |x::H2,H1,o::os,h=>by
  rw[length_cons,List.range'_succ,Cy]
  have h2:=backH_range H2 (H1++[o]) os (by simpa using h)
  rw[length_append,length_cons,length_nil] at h2
  rw[show(H1++x::H2).set H1.length o=(H1++[o])++H2 by rw[List.set_append_right _ _ (Nat.le_refl _)];simp]
  rw[show H1.length+1=H1.length+(0+1) by omega,h2]
  simp
theorem rensH_id(H:List (Option (List D))):F1 id id H=H:=by
 unfold F1
 conv=>rhs;rw[←List.map_id H]
 refine List.map_congr_left fun x _=>?_
 cases x with
 |none=>rfl
 |some cs=>simp[Ep]
theorem argsR_all{n:Nat}{qs:List Nat}(hq:qs.length=n)(hr:rho n qs=id):∀{ds:List D},D.okNs n [] ds=true->D1 n qs ds ds
 |[],_=>.nil
 |d::ds,h=>by
  simp only[D.okNs,Bool.and_eq_true] at h
  refine .cons ?_ (argsR_all hq hr h.2)
  have:=ArgR.ren (n:=n) (qs:=qs) (dc:=d) (by rw[hq];exact h.1)
  rwa[hr,ren_id] at this
theorem objsR_all{H:List (List D)}{qs:List Nat}(hq:qs.length=H.length)(hr:rho H.length qs=id)(hH:∀cs∈H,D.okNs H.length [] cs=true/\cs.all D.one=true):∀(k:Nat),k<=H.length->ObjsR (H.map some) qs (List.range' (H.length-k) k) ((H.drop (H.length-k)).map some)
 |0,_=>by simp;exact .nil
 |k+1,hk=>by
  have hlt:H.length- (k+1)<H.length:=by omega
  rw[List.range'_succ,drop_eq_getElem_cons hlt,map_cons,show H.length- (k+1)+1=H.length-k by omega]
  have hm:=hH _ (List.getElem_mem hlt)
  refine .cons (cs:=H[H.length- (k+1)]) (by rw[getElem?_map,getElem?_eq_getElem hlt];rfl) ?_ hm.2 (objsR_all hq hr hH k (by omega))
  rw[length_map]
  exact argsR_all hq hr hm.1
theorem C5{P:Program}{o:Oper}{c:Call}{fo:Operand}(ho:o.op=.call c)(hc:c.callee=.value fo){fD:D}{f:FuncId}{fs cs:List D}(hf:fnParts fD=some (f,fs,cs)){H:List (List D)}{H':List (Option (List D))}{ds:List D}{d:D}
  (hspec:Ab P f (fs++ds++cs) ⟨H.map some,[]⟩ d ⟨H',[]⟩) (hds:D.okNs H.length [] (fs++ds++cs)=true) (hH:∀cs∈H,D.okNs H.length [] cs=true/\cs.all D.one=true) (hd:d.okN H'.length []=true) (hH':okH H'.length [] H'=true) (hle:H.length<=H'.length):
  Ai P o (fD::ds) ⟨H.map some,[]⟩ d ⟨H',[]⟩:=by
 have hq:(List.range H.length).length=H.length:=List.length_range
 have hr:=rho_range H.length
 have hl:(H.map some).length=H.length:=length_map ..
 have hob:=objsR_all hq hr hH H.length (Nat.le_refl _)
 rw[Nat.sub_self,drop_zero, ←List.range_eq_range'] at hob
 have h:=Cr (σ:=⟨H.map some,[]⟩) ho hc hf (List.range H.length) id hspec (by
  show D1 (H.map some).length _ _ _
  rw[hl];exact argsR_all hq hr hds) hob List.nodup_range rfl (by simp) (by simp) hd hH'
 have hb:Cy (H.map some) (List.range H.length) H'=H':=by
  have:=backH_range (H.map some) [] H' (by rw[hl];exact hle)
  simpa[hl,List.range_eq_range'] using this
 simp only[hl,hr,ren_id,rensH_id,hb] at h
 simpa[EE] using h
end Go.Nv
