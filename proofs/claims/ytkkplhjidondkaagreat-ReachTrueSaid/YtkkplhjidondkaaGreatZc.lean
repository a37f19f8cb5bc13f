/-
  A part of the proof.
-/
import Derived.Test.YtkkplhjidondkaaGreatZb
import Derived.Test.YtkkplhjidondkaaGreatZa
namespace Go.Nv
open Go.Dv
open List (replicate)
open Go.IntKind (u64)
open Go.IntKind renaming wrap → yu, i64 → yt
open List renaming length → I, map → U, drop → W
open Option renaming some → G
open Bool renaming true → J, false → O
open Decidable renaming decide → Y
open Int renaming toNat → Z
open Go.Dv.V renaming list → ai, str → ae, agg → ab, int → aa, ref → bz, fn → bw, nils → bv, bool → bu
open Go.Dv.D renaming v → bt, acc → br, ptr → bq, arr → bo, gro → bm, tup → bk, undef → bj, dagg → bi
open Go.Dv.St renaming mk → bh
open Go.Dv.KI renaming blk → bf
open _root_.ByteArray renaming mk → bc
open Go renaming Operand → x8, Program → x7, TypeId → x6, World → x5, Value → yz, Oper → yy, FuncId → yx, Func → yw, IntKind → yv
abbrev shG(g:Gh)(m:Nat)(ts:List Nat):Gh:={ g with n:=m,ι:=fun k j=>if ts.contains k then g.ι k j else none }
mutual
theorem Mm{g:Gh}{m:Nat}{ts:List Nat}:∀(d:D) (u:yz),d.okN m ts=J->Ag g d u->Ag (shG g m ts) d u
 |.v x,u,_,h=>by simpa only[Ag] using h
 |.acc k xs,u,hk,h=>by
  simp only[D.okN] at hk
  simp only[Ag] at h⊢
  exact⟨h.1,by rw[Ie hk];exact h.2⟩
 |.ptr o f,u,hk,h=>by
  simp only[D.okN,HS] at hk
  simp only[Ag] at h⊢
  exact⟨hk,h.2⟩
 |.arr o f l,u,hk,h=>by
  simp only[D.okN,HS] at hk
  simp only[Ag] at h⊢
  exact⟨hk,h.2⟩
 |.gro o f l,u,hk,h=>by
  simp only[D.okN,HS] at hk
  simp only[Ag] at h⊢
  exact⟨hk,h.2⟩
 |.raw x,u,_,h=>by simpa only[Ag] using h
 |.err,u,_,h=>by simpa only[Ag] using h
 |.rv x u0,u,_,h=>by simpa only[Ag] using h
 |.dagg cs,u,hk,h=>by
  simp only[D.okN] at hk
  simp only[Ag] at h⊢
  obtain⟨us,e,h1⟩:=h
  exact⟨us,e,En cs us hk h1⟩
 |.dfn f fs cs,u,hk,h=>by
  simp only[D.okN,HJ] at hk
  simp only[Ag] at h⊢
  obtain⟨us,vs,e,h1,h2⟩:=h
  exact⟨us,vs,e,En fs us hk.1 h1,En cs vs hk.2 h2⟩
 |.tup ds,u,hk,h=>by
  simp only[D.okN] at hk
  simp only[Ag] at h⊢
  obtain⟨us,e,h1⟩:=h
  exact⟨us,e,En ds us hk h1⟩
 |.undef,u,_,_=>by simp only[Ag]
theorem En{g:Gh}{m:Nat}{ts:List Nat}:∀(ds:List D) (us:List yz),D.okNs m ts ds=J->Af g ds us->Af (shG g m ts) ds us
 |[],us,_,h=>by simpa only[Af] using h
 |d::ds,us,hk,h=>by
  simp only[D.okNs,HJ] at hk
  simp only[Af] at h⊢
  obtain⟨u,us',e,h1,h2⟩:=h
  exact⟨u,us',e,Mm d u hk.1 h1,En ds us' hk.2 h2⟩
end
theorem W0{E:cd}{g:Gh}{σ σ':St}{w:x5}(hw:WI E g σ w){m:Nat}(hH:σ'.H=σ.H.take m)(hm:m<=I σ.H)(hE:E.g.n<=m)(hc:cm m (σ'.own.map (·.1)) σ'.H=J)(hown:σ'.own.Sublist σ.own):
  WI E (shG g m (σ'.own.map (·.1))) σ' w:=by
 have get:∀(i:Nat) (cs:List D),σ'.H[i]?=G (G cs)->σ.H[i]?=G (G cs)/\i<m:=by
  grind
 have hι:∀x∈σ'.own,(if (σ'.own.map (·.1)).contains x.1 then g.ι x.1 (I x.2.2) else none)=g.ι x.1 (I x.2.2):=fun x hx=>Ie (by grind)
 refine{ rep:=⟨?_,hw.rep.mem,fun i cs hi=>?_,fun i j cs ds hi hj=>hw.rep.inj i j cs ds (get i cs hi).1 (get j ds hj).1,fun k sz xs hx=>?_,?_,fun x hx y hy hne u u' hu hu' b hb=>?_,fun x hx u hu b hb i cs hi=>?_,fun k hk j=>?_,hw.rep.gl,hw.rep.gw⟩,M:=hw.M,size:=hw.size,keep:=hw.keep,os:=hw.os,tape:=hw.tape,output:=hw.output,nE:=hE,βE:=fun o ho=>hw.βE o ho,κE:=fun o ho=>hw.κE o ho,objs:=fun i cs hi=>hw.objs i cs (get i cs hi).1,owns:=fun x hx u hu b hb=>?_,drawn:=hw.drawn }
 ·grind
 ·obtain⟨us,rest,e,h1,h2,h3,h4⟩:=hw.rep.obj i cs (get i cs hi).1
  exact⟨us,rest,e,h1,En cs us (M6 hc hi) h2,h3,h4⟩
 ·obtain⟨h0,u,hu,h1,h2,h3⟩:=hw.rep.own k sz xs (hown.subset hx)
  grind
 ·exact(hown.map _).nodup hw.rep.tags
 ·exact hw.rep.sep x (hown.subset hx) y (hown.subset hy) hne u u' ((hι x hx).symm.trans hu) ((hι y hy).symm.trans hu') b hb
 ·exact hw.rep.ownObj x (hown.subset hx) u ((hι x hx).symm.trans hu) b hb i cs (get i cs hi).1
 ·grind
 ·exact hw.owns x (hown.subset hx) u ((hι x hx).symm.trans hu) b hb
abbrev CN(m:Nat)(E0 E:cd):Prop:=E0=E/\E.g.n<=m
theorem N8(m:Nat):N1 (CN m):=⟨fun h _ _ _ hw=>by grind⟩
section
variable {P : x7} {R : List D -> St -> Prop} {k : List KI} {env : List D} {σ : St}
theorem Alf{C:cd->cd->Prop}{m:Nat}(hCm:∀E0 E,C E0 E->E.g.n<=m){σ':St}{h:Nat}(hH:σ'.H=σ.H.take h)(hh:h<=I σ.H)(hm:m<=h)(he:D.okNs h (σ'.own.map (·.1)) env=J)(hc:cm h (σ'.own.map (·.1)) σ'.H=J)(hown:σ'.own.Sublist σ.own)(hr:A2 C P R k env σ'):A2 C P R k env σ:=fun E0 E _ a w B hC hf hB=>
 hr E0 E _ a w B hC ⟨W0 hf.wi hH hh (IE (hCm _ _ hC) hm) hc hown,En _ _ he hf.env,hf.defers⟩ hB
end
noncomputable def FH{β:Type}(l:List D)(i:Nat)(k:D->β):β:=
 List.rec (motive:=fun _=>Nat->(D->β)->β) (fun _ k=>k .undef) (fun a _ ih i k=>Nat.rec (motive:=fun _=>β) (k a) (fun j _=>ih j k) i) l i k
theorem D4{β:Type}:∀(l:List D) (i:Nat) (k:D->β),FH l i k=k (l.getD i .undef)
 |[],_,_=>rfl
 |a::l,0,k=>rfl
 |a::l,i+1,k=>by
  have h:FH (a::l) (i+1) k=FH l i k:=rfl
  rw[h,D4 l];simp
noncomputable def vf{β:Type}(env:List D)(x:x8)(K:D->β):β:=match x with
 |.tmp t=>FH env t K
 |x=>K (lm env x)
theorem AmO{β:Type}(env:List D)(x:x8)(K:D->β):vf env x K=K (lm env x):=by
 cases x<;>simp[vf,D4,lm]
noncomputable def VH{β:Type}(env:List D)(l:List x8)(K:List D->β):β:=
 List.rec (motive:=fun _=>(List D->β)->β) (fun K=>K []) (fun x _ ih K=>vf env x fun d=>ih fun ds=>K (d::ds)) l K
theorem MU{β:Type}(env:List D):∀(l:List x8) (K:List D->β),VH env l K=K (l.map (lm env))
 |[],_=>rfl
 |x::l,K=>by
  have h:VH env (x::l) K=vf env x fun d=>VH env l fun ds=>K (d::ds):=rfl
  rw[h,AmO,MU env l];rfl
theorem getD_some{env:List D}{t:Nat}{d:D}(h:env.getD t .undef=d)(hd:d≠ .undef):env[t]?=G d:=by
 grind
theorem DSL.refl:∀l:List D,DSL l l
 |[]=>.nil
 |d::l=>.cons (.same d) (DSL.refl l)
theorem DSL.set{l:List D}{t:Nat}{d e:D}(h:l[t]?=G d)(hs:DS d e):DSL l (l.set t e):=by
 induction l generalizing t with
 |nil=>grind
 |cons a l ih=>
  cases t with
  |zero=>simp at h;subst h;exact .cons hs (DSL.refl l)
  |succ t=>exact .cons (.same a) (ih (by grind))
theorem MW{env:List D}{σ:St}:Cv env σ env σ:=by grind[Cv]
theorem Oc{L:Nat->Option (List D)}:∀{ds ds':List D} {s n:Nat} {d:D} {x:V},Fz L ds ds'->ds[s]?=G d->Lr L n d x->Fz L ds (ds'.set s (.v x))
 |_,_,s,n,d,x,.nil,h,hl=>by grind
 |_,_,0,n,d,x,.keep hs,h,hl=>by simp at h;subst h;exact .view hl hs
 |_,_,0,n,d,x,.view _ hs,h,hl=>by simp at h;subst h;exact .view hl hs
 |_,_,s+1,n,d,x,.keep hs,h,hl=>by simp only[Jn];exact .keep (Oc hs (by grind) hl)
 |_,_,s+1,n,d,x,.view h' hs,h,hl=>by simp only[Jn];exact .view h' (Oc hs (by grind) hl)
theorem Fz.refl{L:Nat->Option (List D)}:∀l:List D,Fz L l l
 |[]=>.nil
 |_::l=>.keep (Fz.refl l)
theorem Qx:∀{cs:List D} {xs:List V},D8 cs=G xs->∀{j:Nat} {y:V},xs[j]?=G y->∃c,cs[j]?=G c/\c.toV=G y
 |[],xs,h,j,y,hy=>by simp[D8] at h;subst h;simp at hy
 |c::cs,xs,h,j,y,hy=>by
  cases c<;>simp only[D8] at h<;>first|(split at h<;>first|(rename_i ys h1;simp at h;subst h;cases j with|zero=>(simp at hy;subst hy;exact⟨_,rfl,rfl⟩)|succ j=>(obtain⟨c,h2,h3⟩:=Qx h1 (j:=j) (by simpa using hy);exact⟨c,by simpa using h2,h3⟩))|simp at h)|simp at h
theorem AfE{H:List (Option (List D))}{q:Nat}{cs:List D}{xs:List V}(hq:H[q]?=G (G cs))(hx:D8 cs=G xs)(ha:xs.all (fun x=> !x.isAgg)=J):Lr (EC [q] H) 1 (.ptr q 0) (.ref (.agg xs)):=by
 refine .inr (.inl ⟨q,0,cs,.agg xs,rfl,rfl,by grind[EC],fun j y hy=>?_⟩)
 have hm:=HO (show xs[j]?=G y from hy)
 obtain⟨c,h1,h2⟩:=Qx hx (show xs[j]?=G y from hy)
 exact⟨by grind,c,by grind,c,.same,h2⟩
theorem AfD{H:List (Option (List D))}{q:Nat}{c:D}{x:V}(hq:H[q]?=G (G [c]))(hx:c.toV=G x)(ha:x.isAgg=O):Lr (EC [q] H) 1 (.ptr q 0) (.ref x):=by
 refine .inr (.inl ⟨q,0,[c],x,rfl,rfl,by grind[EC],fun j y hy=>?_⟩)
 have hc:x.cellsV=[x]:=by cases x<;>simp_all [V.cellsV,V.isAgg]
 rw[hc] at hy
 cases j with
 |zero=>simp at hy;subst hy;exact⟨ha,c,rfl,c,.same,hx⟩
 |succ j=>grind
noncomputable def SH(q:Nat)(x:V)(ss:List Nat)(env:List D)(K:List D->Prop):Prop:=
 List.rec (motive:=fun _=>List D->Prop) (fun env=>K env) (fun s _ ih env=>FH env s fun d=>match d with
  |.ptr q' 0=>cond (Nat.beq q' q) (CR env s (.v (.ref x)) ih) False
  |_=>False) ss env
theorem Pi{L:Nat->Option (List D)}{q:Nat}{x:V}(hl:Lr L 1 (.ptr q 0) (.ref x)){K:List D->Prop}{env0:List D}:∀{ss:List Nat} {env:List D},Fz L env0 env->(∀t:Nat,env[t]?=env0[t]?∨env[t]?=G (bt (.ref x)))->SH q x ss env K->∃env',K env'/\Fz L env0 env'
 |[],env,hz,_,h=>⟨env,h,hz⟩
 |s::ss,env,hz,hi,h=>by
  have e:SH q x (s::ss) env K=FH env s fun d=>match d with
   |.ptr q' 0=>cond (Nat.beq q' q) (CR env s (.v (.ref x)) fun env=>SH q x ss env K) False
   |_=>False:=rfl
  rw[e,D4] at h
  split at h
  ·rename_i q' hd
   obtain⟨h1,h2⟩:=Ar h
   have:=Ii h1;subst this
   rw[B8] at h2
   have hs:=getD_some hd (by simp)
   have hs0:env0[s]?=G (.ptr q' 0):=by
    rcases hi s with h3|h3
    ·rw[←h3];exact hs
    ·rw[hs] at h3;simp at h3
   refine Pi hl (Oc hz hs0 hl) (fun t=>?_) h2
   rw[List.getElem?_set]
   split
   ·rename_i e;subst e
    rw[Ie (HL.1 hs).1];exact .inr rfl
   ·exact hi t
  ·exact h.elim
noncomputable def d9(r i:Nat)(s:Sc)(env:List D)(σ:St)(K:Sc->List D->St->Prop):Prop:=
 Sc.rec (motive:=fun _=>List D->St->Prop)
  (fun env σ=>K .z env σ)
  (fun _ ih env σ=>∃a,ih a env σ)
  (fun s t _ _ env σ=>K (.b s t) env σ)
  (fun h s ih env σ=>match h with
   |.q r' i'=>cond (Nat.beq r r'&&Nat.beq i i') (ih env σ) (K (.h (.q r' i') s) env σ)
   |.un t=>FH env t fun d=>match d with
    |.acc _ xs=>CR env t (.v (.list xs)) fun env=>ih env σ
    |.rv x _=>CR env t (.v x) fun env=>ih env σ
    |_=>False
   |.ga t=>FH env t fun d=>match d with
    |.gro q n _=>CR env t (.arr q 0 n) fun env=>ih env σ
    |_=>False
   |.fa q ss=>match σ.H[q]? with
    |some (some cs)=>(match D8 cs with
     |some xs=>cond (xs.all fun x=> !x.isAgg) (SH q (.agg xs) ss env fun env=>CR σ.H q none fun H=>ih env ⟨H,σ.own⟩) False
     |none=>False)
    |_=>False
   |.f1 q ss=>match σ.H[q]? with
    |some (some [c])=>(match c.toV with
     |some x=>cond (!x.isAgg) (SH q x ss env fun env=>CR σ.H q none fun H=>ih env ⟨H,σ.own⟩) False
     |none=>False)
    |_=>False
   |.fl q t xs=>match σ.H[q]? with
    |some (some cs)=>FH env t fun d=>match d with
     |.arr q' 0 n=>cond (Nat.beq q' q) (cs=xs.map .v/\n=I xs/\CR env t (.v (.list xs)) fun env=>CR σ.H q none fun H=>ih env ⟨H,σ.own⟩) False
     |_=>False
    |_=>False
   |.cl q j k sz=>match σ.H[q]? with
    |some (some cs)=>(match cs[j]? with
     |some (.v .nils)=>cond (EE σ.own k&&Nat.blt 0 sz) (CR cs j (.acc k []) fun cs=>CR σ.H q (G cs) fun H=>ih env ⟨H,(k,sz,[])::σ.own⟩) False
     |_=>False)
    |_=>False
   |.nw t k sz=>FH env t fun d=>match d with
    |.v .nils=>cond (EE σ.own k&&Nat.blt 0 sz) (CR env t (.acc k []) fun env=>ih env ⟨σ.H,(k,sz,[])::σ.own⟩) False
    |_=>False
   |.cs σ'=>(AW σ.H fun H=>AW σ.own fun own=>∀e:List D,Cv e ⟨H,own⟩ e σ')/\ih env σ'
   |.ct t d σ'=>FH env t fun d0=>match d0 with
    |.undef=>False
    |d0=>(∀e:List D,e[t]?=G d0->Cv e σ (e.set t d) σ')/\CR env t d fun env=>ih env σ'
   |h=>K (.h h s) env σ) s env σ
theorem Apa{env:List D}{σ:St}{t:Nat}{x:V}{u:yz}(ht:env[t]?=G (.rv x u)):Cv env σ (env.set t (.v x)) σ:=fun E g a w hf=>by
 obtain⟨v,hv,hr⟩:=BA hf.env ht
 simp only[Ag] at hr
 refine⟨g,hf.wi,?_,hf.defers⟩
 have:=CJ hf.env t (d:=.v x) (u:=v) (by grind[Ag])
 grind[DA]
theorem Apb{env:List D}{σ:St}{t k sz:Nat}(ht:env[t]?=G (.v .nils))(hk:∀x∈σ.own,x.1≠k)(hsz:0<sz):Cv env σ (env.set t (.acc k [])) ⟨σ.H,(k,sz,[])::σ.own⟩:=fun E g a w hf=>by
 obtain⟨hw1,hle1⟩:=hf.wi.addOwn (k:=k) (sz:=sz) (xs:=[]) (u:=.slice none 0 0) hk ⟨hsz,by simp⟩ (DD _) (.inl ⟨none,rfl⟩) (fun b hb=>by grind[Co])
 obtain⟨u,hu,hr⟩:=BA hf.env ht
 simp only[Ag,CI] at hr
 subst hr
 refine⟨_,hw1,?_,hf.defers⟩
 have:=CJ (Af.mono hle1 _ _ hf.env) t (d:=.acc k []) (u:=.slice none 0 0) (by grind[Ag,DD])
 grind[DA]
theorem Apc{env:List D}{σ:St}{q t:Nat}{xs:List V}(hq:σ.H[q]?=G (G (xs.map .v)))(ht:env[t]?=G (.arr q 0 (I xs))):Cv env σ (env.set t (.v (.list xs))) ⟨σ.H.set q none,σ.own⟩:=fun E g a w hf=>by
 have hone:∀x∈xs,x.isAgg=O:=fun x hx=>by
  obtain⟨_,_,_,_,_,h1,_⟩:=hf.wi.rep.obj q _ hq
  have:=h1 (.v x) (I2.2 ⟨x,hx,rfl⟩)
  grind[D.one]
 have hfl:xs.flatMap V.cellsV=xs:=by
  clear hq ht hf
  induction xs with
  |nil=>rfl
  |cons x xs ih=>
   have hx:=hone x (by simp)
   have hc:x.cellsV=[x]:=by cases x<;>simp_all [V.cellsV,V.isAgg]
   grind
 have hz:Fz (EC [q] σ.H) env (env.set t (.v (.list xs))):=by
  refine Oc (n:=1) (Fz.refl env) ht (.inr (.inr ⟨q,0,1,xs.map .v,xs,.inl rfl,rfl,by omega,fun y hy=>?_,by grind[EC],fun j y hy=>?_⟩))
  ·have:=hone y hy;cases y<;>simp_all [V.size,V.isAgg]
  ·rw[hfl] at hy
   exact⟨hone y (HO hy),.v y,by grind,.v y,.same,rfl⟩
 obtain⟨g',hf'⟩:=RB [q] hz E g a w hf
 grind[MA]
theorem QM{r i:Nat}{K:Sc->List D->St->Prop}:∀{s:Sc} {env:List D} {σ:St},d9 r i s env σ K->∃s' env' σ',K s' env' σ'/\Cv env σ env' σ'/\env'.length=I env
 |.z,env,σ,h=>⟨_,_,_,h,MW,rfl⟩
 |.e f,env,σ,h=>by
  obtain⟨a,h⟩:=(h:∃a,d9 r i (f a) env σ K)
  exact QM h
 |.b s t,env,σ,h=>⟨_,_,_,h,MW,rfl⟩
 |.h hh s,env,σ,h=>by
  have tr:∀{env1:List D} {σ1:St},Cv env σ env1 σ1->I env1=I env->d9 r i s env1 σ1 K->∃s' env' σ',K s' env' σ'/\Cv env σ env' σ'/\env'.length=I env:=by
   intro env1 σ1 hc hl hp
   obtain⟨s',env',σ',h1,h2,h3⟩:=QM hp
   exact⟨s',env',σ',h1,fun E g a w hf=>by obtain⟨g1,hf1⟩:=hc E g a w hf;exact h2 E g1 a w hf1,h3.trans hl⟩
  cases hh with
  |q r' i'=>
   have h':cond (Nat.beq r r'&&Nat.beq i i') (d9 r i s env σ K) (K (.h (.q r' i') s) env σ):=h
   cases hb:(Nat.beq r r'&&Nat.beq i i') with
   |true=>rw[hb] at h';exact tr MW rfl h'
   |false=>rw[hb] at h';exact⟨_,_,_,h',MW,rfl⟩
  |un t=>
   have h':FH env t fun d=>match d with
    |.acc _ xs=>CR env t (.v (.list xs)) fun env=>d9 r i s env σ K
    |.rv x _=>CR env t (.v x) fun env=>d9 r i s env σ K
    |_=>False:=h
   rw[D4] at h'
   split at h'
   ·rename_i k xs hd
    rw[B8] at h'
    exact tr (AhM (DSL.set (getD_some hd (by simp)) .acc)) (by simp) h'
   ·rename_i x u hd
    rw[B8] at h'
    exact tr (Apa (getD_some hd (by simp))) (by simp) h'
   ·exact h'.elim
  |ga t=>
   have h':FH env t fun d=>match d with
    |.gro q n _=>CR env t (.arr q 0 n) fun env=>d9 r i s env σ K
    |_=>False:=h
   rw[D4] at h'
   split at h'
   ·rename_i q n sz hd
    rw[B8] at h'
    exact tr (AhM (DSL.set (getD_some hd (by simp)) .gro)) (by simp) h'
   ·exact h'.elim
  |fa q ss=>
   have h':match σ.H[q]? with
    |some (some cs)=>(match D8 cs with
     |some xs=>cond (xs.all fun x=> !x.isAgg) (SH q (.agg xs) ss env fun env=>CR σ.H q none fun H=>d9 r i s env ⟨H,σ.own⟩ K) False
     |none=>False)
    |_=>False:=h
   split at h'
   ·rename_i cs hq
    split at h'
    ·rename_i xs hx
     obtain⟨h1,h2⟩:=Ar h'
     obtain⟨env',h3,h4⟩:=Pi (env0:=env) (AfE hq hx h1) (Fz.refl env) (fun t=>.inl rfl) h2
     rw[B8] at h3
     have hl:I env'=I env:=by
      have:∀{a b:List D} {L},Fz L a b->I b=I a:=by
       intro a b L hz;induction hz<;>simp_all
      exact this h4
     exact tr (by have:=RB [q] h4;simpa[MA] using this) hl h3
    ·exact h'.elim
   ·exact h'.elim
  |f1 q ss=>
   have h':match σ.H[q]? with
    |some (some [c])=>(match c.toV with
     |some x=>cond (!x.isAgg) (SH q x ss env fun env=>CR σ.H q none fun H=>d9 r i s env ⟨H,σ.own⟩ K) False
     |none=>False)
    |_=>False:=h
   split at h'
   ·rename_i c hq
    split at h'
    ·rename_i x hx
     obtain⟨h1,h2⟩:=Ar h'
     obtain⟨env',h3,h4⟩:=Pi (env0:=env) (AfD hq hx (by simpa using h1)) (Fz.refl env) (fun t=>.inl rfl) h2
     rw[B8] at h3
     have hl:I env'=I env:=by
      have:∀{a b:List D} {L},Fz L a b->I b=I a:=by
       intro a b L hz;induction hz<;>simp_all
      exact this h4
     exact tr (by have:=RB [q] h4;simpa[MA] using this) hl h3
    ·exact h'.elim
   ·exact h'.elim
  |fl q t xs=>
   have h':match σ.H[q]? with
    |some (some cs)=>FH env t fun d=>match d with
     |.arr q' 0 n=>cond (Nat.beq q' q) (cs=xs.map .v/\n=I xs/\CR env t (.v (.list xs)) fun env=>CR σ.H q none fun H=>d9 r i s env ⟨H,σ.own⟩ K) False
     |_=>False
    |_=>False:=h
   split at h'
   ·rename_i cs hq
    rw[D4] at h'
    split at h'
    ·rename_i q' n hd
     obtain⟨h1,rfl,rfl,h2⟩:=Ar h'
     have:=Ii h1;subst this
     rw[B8,B8] at h2
     exact tr (Apc hq (getD_some hd (by simp))) (by simp) h2
    ·exact h'.elim
   ·exact h'.elim
  |cl q j k sz=>
   have h':match σ.H[q]? with
    |some (some cs)=>(match cs[j]? with
     |some (.v .nils)=>cond (EE σ.own k&&Nat.blt 0 sz) (CR cs j (.acc k []) fun cs=>CR σ.H q (G cs) fun H=>d9 r i s env ⟨H,(k,sz,[])::σ.own⟩ K) False
     |_=>False)
    |_=>False:=h
   split at h'
   ·rename_i cs hq
    split at h'
    ·rename_i hj
     obtain⟨h1,h2⟩:=Ar h'
     rw[HJ] at h1
     rw[B8,B8] at h2
     exact tr (Agr q j k sz hq hj (CL h1.1) (Io h1.2)) rfl h2
    ·exact h'.elim
   ·exact h'.elim
  |nw t k sz=>
   have h':FH env t fun d=>match d with
    |.v .nils=>cond (EE σ.own k&&Nat.blt 0 sz) (CR env t (.acc k []) fun env=>d9 r i s env ⟨σ.H,(k,sz,[])::σ.own⟩ K) False
    |_=>False:=h
   rw[D4] at h'
   split at h'
   ·rename_i hd
    obtain⟨h1,h2⟩:=Ar h'
    rw[HJ] at h1
    rw[B8] at h2
    exact tr (Apb (getD_some hd (by simp)) (CL h1.1) (Io h1.2)) (by simp) h2
   ·exact h'.elim
  |cs σ'=>
   obtain⟨h1,h2⟩:=(h:(AW σ.H fun H=>AW σ.own fun own=>∀e:List D,Cv e ⟨H,own⟩ e σ')/\d9 r i s env σ' K)
   rw[AQ,AQ] at h1
   exact tr (h1 env) rfl h2
  |ct t d σ'=>
   have h':FH env t fun d0=>match d0 with
    |.undef=>False
    |d0=>(∀e:List D,e[t]?=G d0->Cv e σ (e.set t d) σ')/\CR env t d fun env=>d9 r i s env σ' K:=h
   rw[D4] at h'
   split at h'
   ·exact h'.elim
   ·rename_i hne
    rw[B8] at h'
    exact tr (h'.1 env (getD_some rfl (fun e=>hne e))) (by simp) h'.2
  |_=>exact⟨_,_,_,h,MW,rfl⟩
noncomputable def p7(env:List D)(t:Option Nat)(b:Bool)(K:List D->Prop):Prop:=match t with
 |some t=>CR env t (.v (.bool b)) K
 |none=>K env
noncomputable def AdR(s:Sc)(b:Bool)(t:Option Nat)(env:List D)(K:Bool->Sc->List D->Prop):Prop:=match s with
 |.b s1 s2=>(b=J->p7 env t true fun env=>K true s1 env)/\(b=O->p7 env t false fun env=>K false s2 env)
 |.h .t s=>b=J/\p7 env t true fun env=>K true s env
 |.h .f s=>b=O/\p7 env t false fun env=>K false s env
 |.h .k s=>K b s env
 |s=>K b s env
theorem Ae7{env:List D}{t:Nat}{b:Bool}(h:env[t]?=G (.v (.bool b))):env.set t (.v (.bool b))=env:=DA h
theorem TX{s:Sc}{b:Bool}{t:Option Nat}{env:List D}{K:Bool->Sc->List D->Prop}(h:AdR s b t env K)(ht:∀t',t=G t'->env[t']?=G (.v (.bool b))):∃s',K b s' env:=by
 have up:∀{b':Bool} {K':List D->Prop},b=b'->p7 env t b' K'->K' env:=by
  intro b' K' e hu
  subst e
  cases t<;>grind[p7,B8,Ae7]
 unfold AdR at h
 split at h
 ·cases b<;>grind
 ·grind
 all_goals grind
noncomputable def Ald(ops:Array yy)(i j:Nat):Bool:=(ops.toList.take i).any fun o=>match o.guard with
 |some (j',_)=>Nat.beq j' j
 |none=>false
noncomputable def Hq(ops:Array yy)(i:Nat)(o:yy)(s:Sc)(env:List D)(K:Bool->Sc->List D->Prop):Prop:=match o.guard with
 |none=>K true s env
 |some (j,want)=>match (ops[j]?).bind (·.dst) with
  |some t=>FH env t fun d=>match d with
   |.v (.bool b)=>Bool.rec (AdR s b (G t) env fun b s env=>K (b==want) s env) (K (b==want) s env) (Ald ops i j)
   |.tup _=>K false s env
   |_=>False
  |none=>False
theorem LR{ops:Array yy}{i:Nat}{o:yy}{s:Sc}{env:List D}{K:Bool->Sc->List D->Prop}(h:Hq ops i o s env K):∃b s',K b s' env/\BV env ops o=G b:=by
 unfold Hq at h
 unfold BV
 split at h
 ·grind
 ·rename_i j want hg
  split at h
  ·rename_i t hj
   rw[D4] at h
   split at h
   ·rename_i b hd
    have ht:=getD_some hd (by simp)
    cases hs:Ald ops i j with
    |true=>rw[hs] at h;grind
    |false=>
     rw[hs] at h
     grind[TX]
   all_goals grind
  grind
noncomputable def W5(env:List D)(sl:List (Nat×Option D))(K:List (Nat×D)->Prop):Prop:=
 List.rec (motive:=fun _=>(List (Nat×D)->Prop)->Prop) (fun K=>K []) (fun p _ ih K=>FH env p.1 fun d0=>match p.2 with
  |none=>ih fun L=>K ((p.1,d0)::L)
  |some d=>d0=d/\ih fun L=>K ((p.1,d)::L)) sl K
theorem Lz{env:List D}:∀{sl:List (Nat×Option D)} {K:List (Nat×D)->Prop},W5 env sl K->∃L,K L/\∀p∈L,env.getD p.1 .undef=p.2
 |[],K,h=>⟨[],h,by simp⟩
 |(t,o)::sl,K,h=>by
  have h':FH env t fun d0=>match (generalizing:=false) o with
   |none=>W5 env sl fun L=>K ((t,d0)::L)
   |some d=>d0=d/\W5 env sl fun L=>K ((t,d)::L):=h
  rw[D4] at h'
  cases o with
  |none=>
   obtain⟨L,h1,h2⟩:=Lz h'
   refine⟨_,h1,fun p hp=>?_⟩
   rcases Iz.1 hp with rfl|hp
   ·rfl
   ·exact h2 p hp
  |some d=>
   obtain⟨L,h1,h2⟩:=Lz h'.2
   refine⟨_,h1,fun p hp=>?_⟩
   rcases Iz.1 hp with rfl|hp
   ·exact h'.1
   ·exact h2 p hp
theorem DN:∀(L:List (Nat×D)) (e:List D),I (L.foldl (fun e p=>e.set p.1 p.2) e)=I e
 |[],e=>rfl
 |p::L,e=>by rw[IX,DN L];simp
theorem Abk{env:List D}:∀{L:List (Nat×D)} {e:List D},(∀p∈L,env.getD p.1 .undef=p.2)->I e=I env->(∀(i:Nat) (d:D),e[i]?=G d->d=.undef∨env[i]?=G d)->∀(i:Nat) (d:D),(L.foldl (fun e p=>e.set p.1 p.2) e)[i]?=G d->d=.undef∨env[i]?=G d
 |[],e,_,_,h,i,d,hd=>h i d hd
 |p::L,e,hL,hl,h,i,d,hd=>by
  refine Abk (L:=L) (e:=e.set p.1 p.2) (fun q hq=>hL q (List.mem_cons_of_mem _ hq)) (by simp[hl]) (fun i d hd=>?_) i d hd
  rw[List.getElem?_set] at hd
  split at hd
  ·rename_i e1;subst e1
   split at hd
   ·rename_i hlt
    simp at hd;subst hd
    refine .inr ?_
    have:=hL p (List.mem_cons_self)
    rw[HQ] at this
    rw[HI (by omega)] at this⊢
    simpa using this
   ·simp at hd
  ·exact h i d hd
theorem NU{env:List D}{nt:Nat}{L:List (Nat×D)}(hn:I env=nt)(h2:∀p∈L,env.getD p.1 .undef=p.2):I (cy nt L)=I env/\∀(i:Nat) (d:D),(cy nt L)[i]?=G d->d=.undef∨env[i]?=G d:=
 by grind[cy,DN,Abk]
noncomputable def Y7(P:x7)(im:List Nat)(r:Nat)(ops:Array yy)(Z:List yy->List (Nat×D)->St->Prop)(L:List yy)(i:Nat)(s:Sc)(env:List D)(σ:St)(K:Sc->List D->St->Prop):Prop:=
 List.rec (motive:=fun _=>Nat->Sc->List D->St->Prop) (fun i s env σ=>d9 r i s env σ K)
  (fun o L ih i s env σ=>d9 r i s env σ fun s env σ=>match s with
   |.h (.s sl) _=>W5 env sl fun sl=>Z (o::L) sl σ
   |s=>Hq ops i o s env fun b s env=>
    Bool.rec (DE env o.dst (.tup []) fun env=>ih (Nat.succ i) s env σ)
     (VH env o.op.operands.toList fun ds=>ju P im o ds σ s fun s d σ _=>DE env o.dst d fun env=>ih (Nat.succ i) s env σ) b) L i s env σ
def Cg(C:cd->cd->Prop)(P:x7)(R:List D->St->Prop)(k:List KI)(ops:Array yy)(L:List yy)(env:List D)(σ:St):Prop:=
 ∀(E0 E:cd) (g:Gh) (a:Act) (w:x5) (B:Exit->Act->x5->Prop),C E0 E->FI E g σ env a w->
  (∀g' env' σ' a' w',FI E0 g' σ' env' a' w'->R env' σ'->B .ret a' w'/\B .normal a' w')->wpList P ops (KQ P B k) L a w
section
variable {C : cd -> cd -> Prop} {P : x7} {R : List D -> St -> Prop} {k : List KI}
theorem Cg.cv{ops:Array yy}{L:List yy}{env env':List D}{σ σ':St}(h:Cv env σ env' σ')(hk:Cg C P R k ops L env' σ'):Cg C P R k ops L env σ:=fun E0 E g a w B hC hf hB=>by
 obtain⟨g',hf'⟩:=h E g a w hf
 exact hk E0 E g' a w B hC hf' hB
theorem Cg.forget{ops:Array yy}{L:List yy}{env env':List D}{σ:St}(h:I env'=I env/\∀(i:Nat) (d:D),env'[i]?=G d->d=.undef∨env[i]?=G d)(hk:Cg C P R k ops L env' σ):Cg C P R k ops L env σ:=fun E0 E g a w B hC hf hB=>
 hk E0 E g a w B hC ⟨hf.wi,H5 hf.env h.1 h.2,hf.defers⟩ hB
theorem Cg.op{ops:Array yy}{L:List yy}{o:yy}{env:List D}{σ σ':St}{d:D}(hg:BV env ops o=G true)(h:Ah P o (o.op.operands.toList.map (lm env)) σ d σ')(hk:Cg C P R k ops L (B5 env o.dst d) σ'):Cg C P R k ops (o::L) env σ:=fun E0 E g a w B hC hf hB=>by
 unfold wpList
 rw[Ie (CG hf.env hg)]
 refine .inl (h E g a w _ _ hf.wi (QF hf.wi.rep.gl hf.env _) fun g' w' u hw' hg' hd=>?_)
 exact hk E0 E g' _ _ B hC (hf.put hw' hg' hd o.dst) hB
theorem Cg.skip{ops:Array yy}{L:List yy}{o:yy}{env:List D}{σ:St}(hg:BV env ops o=G false)(hk:Cg C P R k ops L (B5 env o.dst (.tup [])) σ):Cg C P R k ops (o::L) env σ:=fun E0 E g a w B hC hf hB=>by
 unfold wpList
 rw[HZ (by rw[CG hf.env hg];simp)]
 exact hk E0 E g _ _ B hC (hf.put hf.wi g.le_refl (NM g) o.dst) hB
theorem OV{im:List Nat}{r:Nat}{ops:Array yy}{Z:List yy->List (Nat×D)->St->Prop}{K:Sc->List D->St->Prop}{n:Nat}(hZ:∀L sl σ,Z L sl σ->Cg C P R k ops L (cy n sl) σ)(hK:∀s env σ,I env=n->K s env σ->A2 C P R k env σ):∀{L:List yy} {i:Nat} {s:Sc} {env:List D} {σ:St},I env=n->Y7 P im r ops Z L i s env σ K->Cg C P R k ops L env σ
 |[],i,s,env,σ,hl,h=>by
  obtain⟨s1,env1,σ1,h1,h2,h3⟩:=QM (show d9 r i s env σ K from h)
  exact Cg.cv h2 fun E0 E g a w B hC hf hB=>by
   unfold wpList;exact hK _ _ _ (h3.trans hl) h1 E0 E g a w B hC hf hB
 |o::L,i,s,env,σ,hl,h=>by
  have h':d9 r i s env σ fun s env σ=>match s with
   |.h (.s sl) _=>W5 env sl fun sl=>Z (o::L) sl σ
   |s=>Hq ops i o s env fun b s env=>
    Bool.rec (DE env o.dst (.tup []) fun env=>Y7 P im r ops Z L (Nat.succ i) s env σ K)
     (VH env o.op.operands.toList fun ds=>ju P im o ds σ s fun s d σ _=>DE env o.dst d fun env=>Y7 P im r ops Z L (Nat.succ i) s env σ K) b:=h
  obtain⟨s1,env1,σ1,h1,h2,h3⟩:=QM h'
  refine Cg.cv h2 ?_
  have main:(Hq ops i o s1 env1 fun b s env=>
    Bool.rec (DE env o.dst (.tup []) fun env=>Y7 P im r ops Z L (Nat.succ i) s env σ1 K)
     (VH env o.op.operands.toList fun ds=>ju P im o ds σ1 s fun s d σ _=>DE env o.dst d fun env=>Y7 P im r ops Z L (Nat.succ i) s env σ K) b)->Cg C P R k ops (o::L) env1 σ1:=by
   intro h1
   obtain⟨b,s2,h4,h5⟩:=LR h1
   cases b with
   |false=>
    have h6:DE env1 o.dst (.tup []) fun env=>Y7 P im r ops Z L (Nat.succ i) s2 env σ1 K:=h4
    rw[DF] at h6
    refine Cg.skip h5 (OV hZ hK ?_ h6)
    cases o.dst<;>simp[B5,h3,hl]
   |true=>
    have h6:VH env1 o.op.operands.toList fun ds=>ju P im o ds σ1 s2 fun s d σ _=>DE env1 o.dst d fun env=>Y7 P im r ops Z L (Nat.succ i) s env σ K:=h4
    rw[MU] at h6
    obtain⟨s3,d,σ3,kd,h7,h8⟩:=CH h6
    rw[DF] at h7
    refine Cg.op h5 h8.op (OV hZ hK ?_ h7)
    cases o.dst<;>simp[B5,h3,hl]
  grind[Lz,Cg.forget,NU]
end
inductive DK where
 |q
 |l (j q off n:Nat)
 |e
def DK.eff:DK->Bool
 |.e=>true
 |_=>false
noncomputable def AmQ(rec:List DK)(j:Nat):Option Nat:=
 List.rec (motive:=fun _=>Nat->Nat->Option Nat) (fun _ _=>none) (fun d _ ih i j=>Bool.rec (ih (Nat.succ i) j) (Nat.rec (motive:=fun _=>Option Nat) (G i) (fun j _=>ih (Nat.succ i) j) j) d.eff) rec 0 j
noncomputable def Ajd(ops:Array yy)(rec:List DK)(i j:Nat):Option Nat:=
 List.rec (motive:=fun _=>Nat->Option Nat) (fun _=>none) (fun _ _ ih j=>match AmQ rec j with
  |none=>none
  |some e=>cond (((Fp [] ops.toList).getD e 0).testBit i) (G j) (ih (Nat.succ j))) rec j
noncomputable def AoX(lim:Nat->Nat->Option Nat)(i:Nat):DK->Ef
 |.q=>(false,none)
 |.l j _ _ _=>(false,lim i j)
 |.e=>(true,none)
noncomputable def PH(lim:Nat->Nat->Option Nat):Nat->List DK->List Ef
 |_,[]=>[]
 |i,d::ds=>AoX lim i d::PH lim (i+1) ds
noncomputable def SI(q off n j:Nat)(c0:Option (List D))(lim:Option Nat)(sts:List St)(c:Nat):Prop:=
 List.rec (motive:=fun _=>Nat->Prop) (fun _=>True) (fun τ _ ih c=>Bool.rec
  (match lim with
   |some b=>Bool.rec (ih (Nat.succ c)) (Cb τ q off n=c0/\ih (Nat.succ c)) (Nat.ble c b)
   |none=>Cb τ q off n=c0/\ih (Nat.succ c)) (ih (Nat.succ c)) (Nat.beq c j)) sts c
theorem UD{q off n j:Nat}{c0:Option (List D)}{lim:Option Nat}:∀{sts:List St} {c:Nat},SI q off n j c0 lim sts c->∀x τ,sts[x]?=G τ->c+x≠j->(∀b,lim=G b->c+x<=b)->Cb τ q off n=c0
 |[],c,_,x,τ,hx,_,_=>by simp at hx
 |τ0::sts,c,h,x,τ,hx,hj,hb=>by
  have h':Bool.rec (match (generalizing:=false) lim with
   |some b=>Bool.rec (SI q off n j c0 lim sts (Nat.succ c)) (Cb τ0 q off n=c0/\SI q off n j c0 lim sts (Nat.succ c)) (Nat.ble c b)
   |none=>Cb τ0 q off n=c0/\SI q off n j c0 lim sts (Nat.succ c)) (SI q off n j c0 lim sts (Nat.succ c)) (Nat.beq c j):=h
  have rest:SI q off n j c0 lim sts (Nat.succ c):=by
   cases h1:Nat.beq c j with
   |true=>rw[h1] at h';exact h'
   |false=>
    rw[h1] at h'
    simp only at h'
    cases lim with
    |none=>exact h'.2
    |some b=>
     simp only at h'
     cases h2:Nat.ble c b with
     |true=>rw[h2] at h';exact h'.2
     |false=>rw[h2] at h';exact h'
  cases x with
  |succ x=>exact UD rest x τ (by simpa using hx) (by simp only[Nat.succ_eq_add_one];omega) (fun b e=>by have:=hb b e;simp only[Nat.succ_eq_add_one];omega)
  |zero=>
   simp at hx;subst hx
   have h1:Nat.beq c j=O:=by
    cases h1:Nat.beq c j with
    |false=>rfl
    |true=>exact absurd (Ii h1) (by simpa using hj)
   rw[h1] at h'
   simp only at h'
   cases lim with
   |none=>exact h'.1
   |some b=>
    have:Nat.ble c b=J:=Nat.ble_eq_true_of_le (by simpa using hb b rfl)
    simp only[this] at h'
    exact h'.1
noncomputable def Li(lim:Nat->Nat->Option Nat)(sts:List St)(rec:List DK)(i:Nat):Prop:=
 List.rec (motive:=fun _=>Nat->Prop) (fun _=>True) (fun d _ ih i=>match d with
  |.l j q off n=>(match sts[j]? with
   |some τ=>SI q off n j (Cb τ q off n) (lim i j) sts 0/\ih (Nat.succ i)
   |none=>False)
  |_=>ih (Nat.succ i)) rec i
def M8:List DK->Bool
 |[]=>true
 |.l .. ::_=>false
 |_::rec=>M8 rec
theorem KE{lim:Nat->Nat->Option Nat}{sts:List St}:∀{rec:List DK} {i:Nat},M8 rec=J->Li lim sts rec i
 |[],_,_=>trivial
 |.q::rec,i,h=>KE (rec:=rec) (i:=i+1) h
 |.e::rec,i,h=>KE (rec:=rec) (i:=i+1) h
 |.l .. ::_,_,h=>by grind[M8]
noncomputable def qy(s:Sc)(K:Sc->Prop):Prop:=
 Sc.rec (motive:=fun _=>Prop) (K .z) (fun _ ih=>∃a,ih a) (fun s t _ _=>K (.b s t)) (fun h s _=>K (.h h s)) s
theorem AbW{K:Sc->Prop}:∀{s:Sc},qy s K->∃s',K s'
 |.z,h=>⟨_,h⟩
 |.e f,h=>by obtain⟨a,h⟩:=(h:∃a,qy (f a) K);exact AbW h
 |.b s t,h=>⟨_,h⟩
 |.h i s,h=>⟨_,h⟩
abbrev KD:=List DK->List St->Sc->List D->Prop
noncomputable def jb(P:x7)(im:List Nat)(ops:Array yy)(L:List yy)(rec:List DK)(sts:List St)(j:Nat)(s:Sc)(env:List D)(σ:St)(K:KD):Prop:=
 List.rec (motive:=fun _=>List DK->List St->Nat->Sc->List D->St->Prop) (fun rec sts _ s env _=>K rec sts s env)
  (fun o _ ih rec sts j s env σ=>qy s fun s=>Hq ops (I rec) o s env fun b s env=>
   Bool.rec (DE env o.dst (.tup []) fun env=>AL rec .q fun rec=>ih rec sts j s env σ)
    (VH env o.op.operands.toList fun ds=>ju P im o ds σ s fun s d σ' kd=>DE env o.dst d fun env=>match kd with
     |.pure=>AL rec .q fun rec=>ih rec sts j s env σ
     |.load q off n=>AL rec (.l j q off n) fun rec=>ih rec sts j s env σ
     |.eff=>AL rec .e fun rec=>AL sts σ' fun sts=>ih rec sts (Nat.succ j) s env σ') b) L rec sts j s env σ
noncomputable def AkK(P:x7)(im:List Nat)(ops:Array yy)(s:Sc)(env:List D)(σ:St)(K:Sc->List D->St->Prop):Prop:=
 cond (Nat.blt ops.size 1000000) (jb P im ops ops.toList [] [σ] 0 s env σ fun rec sts s env=>
  cond (Ll ops (PH (Ajd ops rec) 0 rec)) (match sts.getLast? with
   |some σ=>Bool.rec (Li (Ajd ops rec) sts rec 0/\K s env σ) (K s env σ) (M8 rec)
   |none=>False) False) False
theorem G7{lim:Nat->Nat->Option Nat}{sts:List St}{d:DK}{rec:List DK}{i:Nat}(h:Li lim sts (d::rec) i):Li lim sts rec (i+1):=by
 grind[Li]
theorem Dd{P:x7}{o:yy}{env:List D}{σ σ':St}{d:D}(h:Ah P o (o.op.operands.toList.map (lm env)) σ d σ'):Ah P o (EH env o) σ d σ':=by
 intro E g a w K Q hw hds hK
 refine h E g a w K Q hw ?_ hK
 unfold EH at hds
 generalize o.op.operands.toList=l at hds⊢
 induction l with
 |nil=>rfl
 |cons x l ih=>
  simp only[Ik,Af] at hds⊢
  obtain⟨u,us,e,h1,h2⟩:=hds
  simp only[HV] at e
  obtain⟨rfl,rfl⟩:=e
  refine⟨_,_,rfl,?_,ih h2⟩
  cases x with
  |const u=>exact Vn
  |_=>exact h1
theorem Qu{P:x7}{im:List Nat}{ops:Array yy}{n:Nat}{K:KD}(hops:ops.size<1000000):∀{L:List yy} {rec:List DK} {sts:List St} {j:Nat} {s:Sc} {env:List D} {σ:St},I env=n->I sts=j+1->sts[j]?=G σ->jb P im ops L rec sts j s env σ K->
  ∃rec' sts' s' env' σ',K (rec++rec') (sts++sts') s' env'/\env'.length=n/\rec'.length=I L/\(sts++sts')[j+I sts']?=G σ'/\
   ∀lim:Nat->Nat->Option Nat,Li lim (sts++sts') rec' (I rec)->∃vals,GM P ops (fun _=>sts++sts') 1000000 L env j vals (PH lim (I rec) rec') env' (j+I sts')
 |[],rec,sts,j,s,env,σ,hn,hl,hs,h=>by
  refine⟨[],[],s,env,σ,?_,hn,rfl,by grind,fun lim _=>⟨[],.nil⟩⟩
  have h':K rec sts s env:=h
  grind
 |o::L,rec,sts,j,s,env,σ,hn,hl,hs,h=>by
  have h':qy s fun s=>Hq ops (I rec) o s env fun b s env=>
   Bool.rec (DE env o.dst (.tup []) fun env=>AL rec .q fun rec=>jb P im ops L rec sts j s env σ K)
    (VH env o.op.operands.toList fun ds=>ju P im o ds σ s fun s d σ' kd=>DE env o.dst d fun env=>match kd with
     |.pure=>AL rec .q fun rec=>jb P im ops L rec sts j s env σ K
     |.load q off n=>AL rec (.l j q off n) fun rec=>jb P im ops L rec sts j s env σ K
     |.eff=>AL rec .e fun rec=>AL sts σ' fun sts=>jb P im ops L rec sts (Nat.succ j) s env σ' K) b:=h
  have hne:ops.size- (I L+1)≠1000000:=by omega
  have hput:∀(d:D),I (B5 env o.dst d)=n:=fun d=>by cases o.dst<;>simp[B5,hn]
  obtain⟨s0,h'⟩:=AbW h'
  obtain⟨b,s1,h1,h2⟩:=LR h'
  cases b with
  |false=>
   have h3:DE env o.dst (.tup []) fun env=>AL rec .q fun rec=>jb P im ops L rec sts j s1 env σ K:=h1
   rw[DF,AK] at h3
   obtain⟨rec',sts',s',env',σ',k1,k2,k3,k4,k5⟩:=Qu hops (hput _) hl hs h3
   refine⟨.q::rec',sts',s',env',σ',by grind,k2,by grind,k4,fun lim hlo=>?_⟩
   obtain⟨vals,hv⟩:=k5 lim (by have:=G7 hlo;grind)
   refine⟨_,.skip hne h2 (by simpa[PH] using hv)⟩
  |true=>
   have h3:VH env o.op.operands.toList fun ds=>ju P im o ds σ s1 fun s d σ' kd=>DE env o.dst d fun env=>match kd with
     |.pure=>AL rec .q fun rec=>jb P im ops L rec sts j s env σ K
     |.load q off n=>AL rec (.l j q off n) fun rec=>jb P im ops L rec sts j s env σ K
     |.eff=>AL rec .e fun rec=>AL sts σ' fun sts=>jb P im ops L rec sts (Nat.succ j) s env σ' K:=h1
   rw[MU] at h3
   obtain⟨s2,d,σ2,kd,h4,h5⟩:=CH h3
   rw[DF] at h4
   have hidx:ops.size- (I L+1)≠1000000:=hne
   cases kd with
   |pure=>
    have h6:AL rec .q fun rec=>jb P im ops L rec sts j s2 (B5 env o.dst d) σ K:=h4
    rw[AK] at h6
    obtain⟨rec',sts',s',env',σ',k1,k2,k3,k4,k5⟩:=Qu hops (hput _) hl hs h6
    refine⟨.q::rec',sts',s',env',σ',by grind,k2,by grind,k4,fun lim hlo=>?_⟩
    obtain⟨vals,hv⟩:=k5 lim (by have:=G7 hlo;grind)
    exact⟨_,.quiet hne h2 (fun _ τ _=>Dd (h5.2 τ)) (by simpa[PH] using hv)⟩
   |load q off m=>
    have h6:AL rec (.l j q off m) fun rec=>jb P im ops L rec sts j s2 (B5 env o.dst d) σ K:=h4
    rw[AK] at h6
    obtain⟨rec',sts',s',env',σ',k1,k2,k3,k4,k5⟩:=Qu hops (hput _) hl hs h6
    refine⟨.l j q off m::rec',sts',s',env',σ',by grind,k2,by grind,k4,fun lim hlo=>?_⟩
    obtain⟨vals,hv⟩:=k5 lim (by have:=G7 hlo;grind)
    have hv':GM P ops (fun _=>sts++sts') 1000000 L (B5 env o.dst d) j vals (PH lim (I rec+1) rec') env' (j+I sts'):=by grind
    have hjs:(sts++sts')[j]?=G σ:=by grind
    have hsame:∀x τ,(sts++sts')[x]?=G τ->(∀b,lim (I rec) j=G b->x<=b)->Ah P o (EH env o) τ d τ:=by
     intro x τ hx hb
     refine Dd (h5.2.2 τ ?_)
     grind[Li,UD]
    cases hlim:lim (I rec) j with
    |none=>
     refine⟨d::vals,?_⟩
     simp only[PH,AoX,hlim]
     refine .quiet hne h2 (fun _ τ hτ=>?_) hv'
     grind[List.getElem?_of_mem]
    |some b=>
     refine⟨d::vals,?_⟩
     simp only[PH,AoX,hlim]
     exact .quietW b hne h2 (fun _ c τ hc hτ=>hsame c τ hτ (fun b' hb=>by grind)) hv'
   |eff=>
    have h6:AL rec .e fun rec=>AL sts σ2 fun sts=>jb P im ops L rec sts (Nat.succ j) s2 (B5 env o.dst d) σ2 K:=h4
    rw[AK,AK] at h6
    obtain⟨rec',sts',s',env',σ',k1,k2,k3,k4,k5⟩:=Qu hops (hput _) (by grind) (by grind) h6
    refine⟨.e::rec',σ2::sts',s',env',σ',by grind,k2,by grind,?_,fun lim hlo=>?_⟩
    ·have e:j+I (σ2::sts')=Nat.succ j+I sts':=by grind
     simp_all
    ·obtain⟨vals,hv⟩:=k5 lim (by have:=G7 hlo;grind)
     have hv':GM P ops (fun _=>sts++σ2::sts') 1000000 L (B5 env o.dst d) (j+1) vals (PH lim (I rec+1) rec') env' (j+I (σ2::sts')):=by
      grind
     refine⟨_,.eff hne h2 (fun _ τ hτ _=>⟨σ2,?_,?_⟩) hv'⟩
     ·grind
     ·rw[Ig (by omega),hs] at hτ
      simp at hτ;subst hτ
      exact Dd h5
theorem AdO{C:cd->cd->Prop}{P:x7}{R:List D->St->Prop}{k:List KI}(hm:P.follows .mixedOrders=J){im:List Nat}{id:Nat}{ops:Array yy}{s:Sc}{env:List D}{σ:St}{n:Nat}{K:Sc->List D->St->Prop}(hn:I env=n)
  (hK:∀s env σ,I env=n->K s env σ->A2 C P R k env σ) (h:AkK P im ops s env σ K):A2 C P R (.code (.region id ops true)::k) env σ:=by
 obtain⟨h1,h2⟩:=Ar h
 have hops:ops.size<1000000:=Io h1
 obtain⟨rec,sts,s',env',σ',k1,k2,k3,k4,k5⟩:=Qu hops hn (by simp) (by simp) h2
 obtain⟨h3,h5⟩:=Ar k1
 simp only[List.nil_append] at h3 h5
 simp only[I4] at k4
 split at h5
 ·rename_i τ hτ
  have h6:Li (Ajd ops rec) ([σ]++sts) rec 0/\K s' env' τ:=by
   cases hb:M8 rec with
   |true=>rw[hb] at h5;grind[KE]
   |false=>simp_all
  grind[JI]
 grind
structure Ld where
 q:Nat
 off:Nat
 n:Nat
 c:Option (List D)
noncomputable def PW(q off n:Nat)(c0:Option (List D))(sts:List St):Prop:=List.rec (motive:=fun _=>Prop) True (fun τ _ ih=>Cb τ q off n=c0/\ih) sts
theorem OJ{q off n:Nat}{c0:Option (List D)}:∀{sts:List St},PW q off n c0 sts->∀τ∈sts,Cb τ q off n=c0
 |[],_,τ,h=>absurd h (by simp)
 |σ::sts,h,τ,hτ=>by
  have h':Cb σ q off n=c0/\PW q off n c0 sts:=h
  rcases Iz.1 hτ with rfl|hτ
  ·exact h'.1
  ·exact OJ h'.2 τ hτ
noncomputable def xv(sts:List St)(l:List Ld):Prop:=List.rec (motive:=fun _=>Prop) True (fun x _ ih=>PW x.q x.off x.n x.c sts/\ih) l
theorem Tj{sts:List St}:∀{l:List Ld},xv sts l->∀x∈l,∀τ∈sts,Cb τ x.q x.off x.n=x.c
 |[],_,x,h=>absurd h (by simp)
 |y::l,h,x,hx=>by
  have h':PW y.q y.off y.n y.c sts/\xv sts l:=h
  rcases Iz.1 hx with rfl|hx
  ·exact OJ h'.1
  ·exact Tj h'.2 x hx
def Wy(cs:List D)(τ:St):St:=⟨τ.H++[G cs],τ.own⟩
def mb(ad τ:St):St:=⟨τ.H++ad.H,ad.own++τ.own⟩
noncomputable def xc(f:St->Prop)(l:List St):Prop:=List.rec (motive:=fun _=>Prop) True (fun τ _ p=>f τ/\p) l
theorem Wl{f:St->Prop}:∀{l:List St},xc f l->∀τ∈l,f τ
 |[],_,τ,h=>by simp at h
 |x::l,h,τ,hτ=>by
  have h:f x/\xc f l:=h
  rcases Iz.1 hτ with rfl|hτ
  ·exact h.1
  ·exact Wl h.2 τ hτ
abbrev KD2:=List St->List St->List Ld->List Ef->Sc->List D->Prop
noncomputable def Zs(P:x7)(im:List Nat)(ops:Array yy)(fr:Nat)(ad:St)(K:KD2)(L:List yy):Nat->Bool->(St->St->Prop)->List St->List St->List Ld->List Ef->Sc->List D->St->St->Prop:=
 List.rec (motive:=fun _=>Nat->Bool->(St->St->Prop)->List St->List St->List Ld->List Ef->Sc->List D->St->St->Prop) (fun _ _ _ LF LT lds ef s env _ _=>K LF LT lds ef s env)
  (fun o _ ih i af pd LF LT lds ef s env σF σT=>qy s fun s=>Hq ops i o s env fun b s env=>
   Bool.rec
    (Bool.rec (DE env o.dst (.tup []) fun env=>AL ef (false,none) fun ef=>ih (Nat.succ i) af pd LF LT lds ef s env σF σT) False (Nat.beq i fr))
    (Bool.rec
     (VH env o.op.operands.toList fun ds=>ju P im o ds (Bool.rec σF σT af) s fun s1 d σ1 kd=>match kd with
      |.pure=>DE env o.dst d fun env=>AL ef (false,none) fun ef=>ih (Nat.succ i) af pd LF LT lds ef s1 env σF σT
      |.load q off n=>DE env o.dst d fun env=>AL ef (false,none) fun ef=>AL lds ⟨q,off,n,Cb (Bool.rec σF σT af) q off n⟩ fun lds=>ih (Nat.succ i) af pd LF LT lds ef s1 env σF σT
      |.eff=>Bool.rec
       (ju P im o ds σT s fun _ d2 σ2 kd2=>match kd2 with
        |.eff=>d2=d/\DE env o.dst d fun env=>AL ef (true,none) fun ef=>AL LF σ1 fun LF=>AL LT σ2 fun LT=>ih (Nat.succ i) af pd LF LT lds ef s1 env σ1 σ2
        |_=>False)
       (cond (Xl ops i fr) (DE env o.dst d fun env=>AL ef (true,none) fun ef=>AL LT σ1 fun LT=>ih (Nat.succ i) af pd LF LT lds ef s1 env σF σ1)
        (cond (Nat.beq (I LF) (I LT)) (ju P im o ds σF s fun _ d2 σ2 kd2=>match kd2 with
         |.eff=>d2=d/\pd σ2 σ1/\DE env o.dst d fun env=>AL ef (true,none) fun ef=>AL LF σ2 fun LF=>AL LT σ1 fun LT=>ih (Nat.succ i) af pd LF LT lds ef s1 env σ2 σ1
         |_=>False) False)) af)
     (match (generalizing:=false) o.op,af with
      |.alloc e,false=>(match OO P e with
       |some xs=>cond (LF.all fun τ=>Nat.beq (I τ.H) (I σF.H)) (LT=LF.map (Wy (xs.map .v))/\DE env o.dst (.ptr (I σF.H) 0) fun env=>AL ef (false,none) fun ef=>ih (Nat.succ i) true (fun τ τ1=>τ1=Wy (xs.map .v) τ/\τ.H.length=I σF.H) LF LT lds ef s env σF σT) False
       |none=>False)
      |_,false=>(match s with
       |.h (.o d _) s=>VH env o.op.operands.toList fun ds=>LT=LF.map (mb ad)/\xc (fun τ=>Ah P o ds τ d (mb ad τ)) LF/\DE env o.dst d fun env=>AL ef (false,none) fun ef=>ih (Nat.succ i) true (fun τ τ1=>τ1=mb ad τ/\Ah P o ds τ d (mb ad τ)) LF LT lds ef s env σF σT
       |_=>False)
      |_,_=>False) (Nat.beq i fr)) b) L
theorem EO{P:x7}{im:List Nat}{ops:Array yy}{fr n:Nat}{ad:St}{K:KD2}:∀{L:List yy} {i:Nat} {af:Bool} {pd:St->St->Prop} {LF LT:List St} {lds:List Ld} {ef:List Ef} {s:Sc} {env:List D} {σF σT:St} {j:Nat},I env=n->i+I L=ops.size->I LT=j+1->LT[j]?=G σT->
  (af=O->I LF=j+1)->(I LF=j+1->LF[j]?=G σF)->I LF<=j+1->Zs P im ops fr ad K L i af pd LF LT lds ef s env σF σT->
  ∃LF' LT' lds' ef' s' env' σ',K (LF++LF') (LT++LT') (lds++lds') (ef++ef') s' env'/\env'.length=n/\(LT++LT')[j+I LT']?=G σ'/\(af=J->(I LF=I LT∨LF'=[])/\∀(c:Nat) (τ:St),LF'[c]?=G τ->∃τ1,LT'[c]?=G τ1/\pd τ τ1)/\
   ((∀x∈lds',∀τ∈ (LF++LF')++(LT++LT'),Cb τ x.q x.off x.n=x.c)->∃vals,GM P ops (DV (LF++LF') (LT++LT')) fr L env j vals ef' env' (j+I LT'))
 |[],i,af,pd,LF,LT,lds,ef,s,env,σF,σT,j,hn,hi,hl,hs,hF,hF2,hF3,h=>by
  refine⟨[],[],[],[],s,env,σT,?_,hn,by grind,fun _=>⟨.inr rfl,fun c τ hc=>by grind⟩,fun _=>⟨[],.nil⟩⟩
  have h':K LF LT lds ef s env:=h
  grind
 |o::L,i,af,pd,LF,LT,lds,ef,s,env,σF,σT,j,hn,hi,hl,hs,hF,hF2,hF3,h=>by
  have h':qy s fun s=>Hq ops i o s env fun b s env=>
   Bool.rec
    (Bool.rec (DE env o.dst (.tup []) fun env=>AL ef (false,none) fun ef=>Zs P im ops fr ad K L (Nat.succ i) af pd LF LT lds ef s env σF σT) False (Nat.beq i fr))
    (Bool.rec
     (VH env o.op.operands.toList fun ds=>ju P im o ds (Bool.rec σF σT af) s fun s1 d σ1 kd=>match kd with
      |.pure=>DE env o.dst d fun env=>AL ef (false,none) fun ef=>Zs P im ops fr ad K L (Nat.succ i) af pd LF LT lds ef s1 env σF σT
      |.load q off n=>DE env o.dst d fun env=>AL ef (false,none) fun ef=>AL lds ⟨q,off,n,Cb (Bool.rec σF σT af) q off n⟩ fun lds=>Zs P im ops fr ad K L (Nat.succ i) af pd LF LT lds ef s1 env σF σT
      |.eff=>Bool.rec
       (ju P im o ds σT s fun _ d2 σ2 kd2=>match kd2 with
        |.eff=>d2=d/\DE env o.dst d fun env=>AL ef (true,none) fun ef=>AL LF σ1 fun LF=>AL LT σ2 fun LT=>Zs P im ops fr ad K L (Nat.succ i) af pd LF LT lds ef s1 env σ1 σ2
        |_=>False)
       (cond (Xl ops i fr) (DE env o.dst d fun env=>AL ef (true,none) fun ef=>AL LT σ1 fun LT=>Zs P im ops fr ad K L (Nat.succ i) af pd LF LT lds ef s1 env σF σ1)
        (cond (Nat.beq (I LF) (I LT)) (ju P im o ds σF s fun _ d2 σ2 kd2=>match kd2 with
         |.eff=>d2=d/\pd σ2 σ1/\DE env o.dst d fun env=>AL ef (true,none) fun ef=>AL LF σ2 fun LF=>AL LT σ1 fun LT=>Zs P im ops fr ad K L (Nat.succ i) af pd LF LT lds ef s1 env σ2 σ1
         |_=>False) False)) af)
     (match (generalizing:=false) o.op,af with
      |.alloc e,false=>(match OO P e with
       |some xs=>cond (LF.all fun τ=>Nat.beq (I τ.H) (I σF.H)) (LT=LF.map (Wy (xs.map .v))/\DE env o.dst (.ptr (I σF.H) 0) fun env=>AL ef (false,none) fun ef=>Zs P im ops fr ad K L (Nat.succ i) true (fun τ τ1=>τ1=Wy (xs.map .v) τ/\τ.H.length=I σF.H) LF LT lds ef s env σF σT) False
       |none=>False)
      |_,false=>(match s with
       |.h (.o d _) s=>VH env o.op.operands.toList fun ds=>LT=LF.map (mb ad)/\xc (fun τ=>Ah P o ds τ d (mb ad τ)) LF/\DE env o.dst d fun env=>AL ef (false,none) fun ef=>Zs P im ops fr ad K L (Nat.succ i) true (fun τ τ1=>τ1=mb ad τ/\Ah P o ds τ d (mb ad τ)) LF LT lds ef s env σF σT
       |_=>False)
      |_,_=>False) (Nat.beq i fr)) b:=h
  clear h
  have hidx:ops.size- (I L+1)=i:=by grind
  have hi':Nat.succ i+I L=ops.size:=by grind
  have hput:∀(d:D),I (B5 env o.dst d)=n:=fun d=>by cases o.dst<;>simp[B5,hn]
  obtain⟨s0,h'⟩:=AbW h'
  obtain⟨b,s1,h1,h2⟩:=LR h'
  have snoc2:∀{α:Type} (a:List α) (x:α) (r:List α),a++[x]++r=a++x::r:=fun a x r=>by simp
  cases b with
  |false=>
   cases hb:Nat.beq i fr with
   |true=>simp_all
   |false=>
    have hne:ops.size- (I L+1)≠fr:=by grind[Nat.beq_refl]
    simp only[hb] at h1
    rw[DF,AK] at h1
    obtain⟨LF',LT',lds',ef',s',env',σ',k1,k2,k3,k4,k5⟩:=EO (hput _) hi' hl hs hF hF2 hF3 h1
    refine⟨LF',LT',lds',(false,none)::ef',s',env',σ',by grind,k2,k3,k4,fun hlo=>?_⟩
    obtain⟨vals,hv⟩:=k5 hlo
    exact⟨_,.skip hne h2 hv⟩
  |true=>
   cases hb:Nat.beq i fr with
   |true=>
    simp only[hb] at h1
    split at h1
    ·rename_i e heq _
     split at h1
     ·rename_i xs hz
      obtain⟨hall,h3,h4⟩:=Ar h1
      rw[DF,AK] at h4
      have hF1:=hF rfl
      obtain⟨LF',LT',lds',ef',s',env',σ',k1,k2,k3,k4,k5⟩:=EO (af:=true) (hput _) hi' hl hs (fun e=>by omega) hF2 hF3 h4
      refine⟨LF',LT',lds',(false,none)::ef',s',env',σ',by grind,k2,k3,fun e=>by grind,fun hlo=>?_⟩
      obtain⟨vals,hv⟩:=k5 hlo
      have hLF:=(k4 rfl).2
      refine⟨_,.free (by simp_all) h2 (fun c τ hc=>?_) hv⟩
      have hc:(LF++LF')[c]?=G τ:=by grind[DV]
      have hopA:∀τ:St,I τ.H=I σF.H->Ah P o (EH env o) τ (.ptr (I σF.H) 0) (Wy (xs.map .v) τ):=fun τ hlen=>by
       grind[M3,Op.operands,Wy,EH]
      rcases Nat.lt_or_ge c (I LF) with hcl|hcl
      rotate_left
      ·grind[DV]
      grind[DV,Nat.eq_of_beq_eq_true]
     grind
    ·split at h1
     ·rename_i d _ s2
      rw[MU] at h1
      obtain⟨h3,hop,h4⟩:=h1
      rw[DF,AK] at h4
      have hF1:=hF rfl
      obtain⟨LF',LT',lds',ef',s',env',σ',k1,k2,k3,k4,k5⟩:=EO (af:=true) (hput _) hi' hl hs (fun e=>by omega) hF2 hF3 h4
      refine⟨LF',LT',lds',(false,none)::ef',s',env',σ',by grind,k2,k3,fun e=>by grind,fun hlo=>?_⟩
      obtain⟨vals,hv⟩:=k5 hlo
      have hLF:=(k4 rfl).2
      refine⟨_,.free (by simp_all) h2 (fun c τ hc=>?_) hv⟩
      have hc:(LF++LF')[c]?=G τ:=by grind[DV]
      rcases Nat.lt_or_ge c (I LF) with hcl|hcl
      rotate_left
      ·grind[Dd,DV]
      rw[Ig hcl] at hc
      refine⟨mb ad τ,?_,Dd (Wl hop τ (HO hc))⟩
      grind[DV]
     grind
    grind
   |false=>
    have hne:ops.size- (I L+1)≠fr:=by grind[Nat.beq_refl]
    simp only[hb] at h1
    rw[MU] at h1
    obtain⟨s2,d,σ1,kd,h4,h5⟩:=CH h1
    cases kd with
    |pure=>
     simp only at h4
     rw[DF,AK] at h4
     obtain⟨LF',LT',lds',ef',s',env',σ',k1,k2,k3,k4,k5⟩:=EO (hput _) hi' hl hs hF hF2 hF3 h4
     refine⟨LF',LT',lds',(false,none)::ef',s',env',σ',by grind,k2,k3,k4,fun hlo=>?_⟩
     obtain⟨vals,hv⟩:=k5 hlo
     exact⟨_,.quiet hne h2 (fun _ τ _=>Dd (h5.2 τ)) hv⟩
    |load q off m=>
     simp only at h4
     rw[DF,AK,AK] at h4
     obtain⟨LF',LT',lds',ef',s',env',σ',k1,k2,k3,k4,k5⟩:=EO (hput _) hi' hl hs hF hF2 hF3 h4
     refine⟨LF',LT',_::lds',(false,none)::ef',s',env',σ',by simpa using k1,k2,k3,k4,fun hlo=>?_⟩
     obtain⟨vals,hv⟩:=k5 (fun x hx=>hlo x (List.mem_cons_of_mem _ hx))
     refine⟨_,.quiet hne h2 (fun b τ hτ=>Dd (h5.2.2 τ ?_)) hv⟩
     refine hlo _ (List.mem_cons_self ..) τ ?_
     cases b
     all_goals grind[DV]
    |eff=>
     cases af with
     |true=>
      simp only at h4
      cases hnd:Xl ops i fr with
      |true=>
       rw[hnd,cond_true] at h4
       have hneed:=hnd
       rw[DF,AK,AK] at h4
       obtain⟨LF',LT',lds',ef',s',env',σ',k1,k2,k3,k4,k5⟩:=EO (j:=j+1) (hput _) hi' (by grind) (by grind) (fun e=>by grind) (fun e=>by omega) (by omega) h4
       have e1:j+I (σ1::LT')=j+1+I LT':=by grind
       have hLF0:LF'=[]:=by
        grind
       rw[snoc2] at k1 k3
       refine⟨LF',σ1::LT',lds',(true,none)::ef',s',env',σ',by grind,k2,by simp_all,fun _=>⟨.inr hLF0,fun c τ hc=>by grind⟩,fun hlo=>?_⟩
       obtain⟨vals,hv⟩:=k5 (by grind)
       rw[snoc2] at hv
       rw[e1]
       refine⟨_,.eff hne h2 (fun b τ hτ hneedF=>?_) hv⟩
       cases b with
       |false=>grind
       |true=>
        have hτ:(LT++σ1::LT')[j]?=G τ:=by grind[DV]
        rw[Ig (by omega),hs] at hτ
        simp at hτ;subst hτ
        refine⟨σ1,?_,Dd h5⟩
        simp only[DV]
        grind
      |false=>
       rw[hnd,cond_false] at h4
       obtain⟨hlen,h4⟩:=Ar h4
       have hlen:=Ii hlen
       have hF1:I LF=j+1:=by omega
       obtain⟨s3,d2,σ2,kd2,h6,h7⟩:=CH h4
       cases kd2 with
       |pure=>grind
       |load=>grind
       |eff=>
        obtain⟨rfl,hpd,h6⟩:=h6
        rw[DF,AK,AK,AK] at h6
        obtain⟨LF',LT',lds',ef',s',env',σ',k1,k2,k3,k4,k5⟩:=EO (af:=true) (j:=j+1) (hput _) hi' (by grind) (by grind) (fun _=>by grind) (fun _=>by grind) (by grind) h6
        have e1:j+I (σ1::LT')=j+1+I LT':=by grind
        rw[snoc2] at k3
        rw[snoc2,snoc2] at k1
        refine⟨σ2::LF',σ1::LT',lds',(true,none)::ef',s',env',σ',by grind,k2,by simp_all,fun _=>⟨.inl hlen,fun c τ hc=>?k4⟩,fun hlo=>?_⟩
        case k4=>
         cases c<;>grind
        obtain⟨vals,hv⟩:=k5 (by grind)
        rw[snoc2,snoc2] at hv
        rw[e1]
        refine⟨_,.eff hne h2 (fun b τ hτ _=>?_) hv⟩
        cases b with
        |false=>
         have hτ:(LF++σ2::LF')[j]?=G τ:=by grind[DV]
         rw[Ig (by omega),hF2 hF1] at hτ
         simp at hτ;subst hτ
         refine⟨σ2,?_,Dd h7⟩
         simp only[DV]
         grind
        |true=>
         have hτ:(LT++σ1::LT')[j]?=G τ:=by grind[DV]
         rw[Ig (by omega),hs] at hτ
         simp at hτ;subst hτ
         refine⟨σ1,?_,Dd h5⟩
         simp only[DV]
         grind
     |false=>
      simp only at h4
      have hF1:=hF rfl
      obtain⟨s3,d2,σ2,kd2,h6,h7⟩:=CH h4
      cases kd2 with
      |pure=>grind
      |load=>grind
      |eff=>
       obtain⟨rfl,h6⟩:=h6
       rw[DF,AK,AK,AK] at h6
       obtain⟨LF',LT',lds',ef',s',env',σ',k1,k2,k3,k4,k5⟩:=EO (af:=false) (j:=j+1) (hput _) hi' (by grind) (by grind) (fun _=>by grind) (fun _=>by grind) (by grind) h6
       have e1:j+I (σ2::LT')=j+1+I LT':=by grind
       rw[snoc2] at k3
       rw[snoc2,snoc2] at k1
       refine⟨σ1::LF',σ2::LT',lds',(true,none)::ef',s',env',σ',by grind,k2,by simp_all,fun e=>by grind,fun hlo=>?_⟩
       obtain⟨vals,hv⟩:=k5 (by grind)
       rw[snoc2,snoc2] at hv
       rw[e1]
       refine⟨_,.eff hne h2 (fun b τ hτ _=>?_) hv⟩
       cases b with
       |false=>
        have hτ:(LF++σ1::LF')[j]?=G τ:=by grind[DV]
        rw[Ig (by omega),hF2 hF1] at hτ
        simp at hτ;subst hτ
        refine⟨σ1,?_,Dd h5⟩
        simp only[DV]
        grind
       |true=>
        have hτ:(LT++σ2::LT')[j]?=G τ:=by grind[DV]
        rw[Ig (by omega),hs] at hτ
        simp at hτ;subst hτ
        refine⟨σ2,?_,Dd h7⟩
        simp only[DV]
        grind
noncomputable def Aho(P:x7)(im:List Nat)(ops:Array yy)(fr:Nat)(s:Sc)(env:List D)(σ:St)(K:Sc->List D->St->Prop):Prop:=
 cond (Nat.blt fr ops.size) (match (ops[fr]?).map Oper.op with
  |some (.alloc e)=>(match OO P e with
   |some xs=>AW (xs.map .v) fun cs=>AL σ.H (G cs) fun H=>Zs P im ops fr σ (fun LF LT lds ef s env=>cond (Ll ops ef) (match LT.getLast? with
    |some τ=>xv (LF++LT) lds/\K s env τ
    |none=>False) False) ops.toList 0 false (fun _ _=>False) [σ] [⟨H,σ.own⟩] [] [] s env σ ⟨H,σ.own⟩
   |none=>False)
  |_=>(match s with
   |.h (.cs ad) s=>AW (σ.H++ad.H) fun H=>AW (ad.own++σ.own) fun own=>Zs P im ops fr ad (fun LF LT lds ef s env=>cond (Ll ops ef) (match LT.getLast? with
    |some τ=>xv (LF++LT) lds/\K s env τ
    |none=>False) False) ops.toList 0 false (fun _ _=>False) [σ] [⟨H,own⟩] [] [] s env σ ⟨H,own⟩
   |_=>False)) False
theorem Zr{C:cd->cd->Prop}{P:x7}{R:List D->St->Prop}{k:List KI}(hm:P.follows .mixedOrders=J){im:List Nat}{id:Nat}{ops:Array yy}{fr:Nat}{s:Sc}{env:List D}{σ:St}{n:Nat}{K:Sc->List D->St->Prop}(hn:I env=n)
  (hK:∀s env σ,I env=n->K s env σ->A2 C P R k env σ) (h:Aho P im ops fr s env σ K):A2 C P R (.code (.region id ops true)::k) env σ:=by
 obtain⟨h1,h2⟩:=Ar h
 have hfr:fr<ops.size:=Io h1
 split at h2
 ·split at h2
  ·rename_i xs hz
   rw[AQ,AK] at h2
   obtain⟨LF',LT',lds',ef',s',env',σ',k1,k2,k3,k4,k5⟩:=EO (j:=0) hn (by simp) (by simp) (by simp) (fun _=>by simp) (fun _=>by simp) (by simp) h2
   grind[Tj,JI,DV]
  grind
 ·split at h2
  ·rename_i ad s2
   rw[AQ,AQ] at h2
   obtain⟨LF',LT',lds',ef',s',env',σ',k1,k2,k3,k4,k5⟩:=EO (j:=0) hn (by simp) (by simp) (by simp) (fun _=>by simp) (fun _=>by simp) (by simp) h2
   grind[Tj,JI,DV]
  grind
noncomputable def TV(P:x7)(im:List Nat)(ops:Array yy)(s:Sc)(env:List D)(σ:St)(K:Sc->List D->St->Prop):Prop:=match s with
 |.h (.dr fr) s=>Aho P im ops fr s env σ K
 |s=>AkK P im ops s env σ K
theorem Zq{C:cd->cd->Prop}{P:x7}{R:List D->St->Prop}{k:List KI}(hm:P.follows .mixedOrders=J){im:List Nat}{id:Nat}{ops:Array yy}{s:Sc}{env:List D}{σ:St}{n:Nat}{K:Sc->List D->St->Prop}(hn:I env=n)
  (hK:∀s env σ,I env=n->K s env σ->A2 C P R k env σ) (h:TV P im ops s env σ K):A2 C P R (.code (.region id ops true)::k) env σ:=by
 unfold TV at h
 split at h
 ·exact Zr hm hn hK h
 ·exact AdO hm hn hK h
noncomputable def ny(ts:List Nat)(own:List (Nat×Nat×List V)):List (Nat×Nat×List V):=own.filter fun x=>ts.contains x.1
structure It(p:Prop):Prop where
 it:p
def Tv{α:Type}(a b:List α)(K:Prop):Prop:=match a with
 |[]=>K
 |x::a=>b=x::a/\K
theorem He{α:Type}{a b:List α}{K:Prop}(h:Tv a b K)(h0:a=[]->b=[]):b=a/\K:=by
 cases a with
 |nil=>exact⟨h0 rfl,h⟩
 |cons x a=>exact h
def xt(op:Bool)(b:Bool)(K:Prop):Prop:=match op with
 |true=>b=J/\K
 |false=>cond b K False
theorem Tc{op b:Bool}{K:Prop}(h:xt op b K):b=J/\K:=by
 cases op
 ·exact Ar h
 ·exact h
noncomputable def Zn(C:cd->cd->Prop)(m:Nat)(P:x7)(R:List D->St->Prop)(nt:Nat)(k:List KI)(sl:List (Nat×Option D))(σ':Option St)(op:Bool)(env:List D)(σ:St):Prop:=
 W5 env sl fun L=>match σ' with
  |none=>It (A2 C P R k (cy nt L) σ)
  |some σ'=>cond (Nat.ble m (I σ'.H)&&Nat.ble (I σ'.H) (I σ.H)&&D.okNs (I σ'.H) (σ'.own.map (·.1)) (L.map (·.2))) (xt op (cm (I σ'.H) (σ'.own.map (·.1)) (σ.H.take (I σ'.H)))
    (Tv σ'.H (σ.H.take (I σ'.H)) (Tv σ'.own (ny (σ'.own.map (·.1)) σ.own) (It (A2 C P R k (cy nt L) σ'))))) False
theorem Vj{h:Nat}{ts:List Nat}:∀{L:List (Nat×D)} {e:List D},D.okNs h ts (L.map (·.2))=J->D.okNs h ts e=J->D.okNs h ts (L.foldl (fun e p=>e.set p.1 p.2) e)=J
 |[],e,_,he=>he
 |p::L,e,hL,he=>by
  simp only[Ik,D.okNs,HJ] at hL
  refine Vj (L:=L) hL.2 ?_
  have:∀(e:List D) (i:Nat),D.okNs h ts e=J->D.okNs h ts (e.set i p.2)=J:=by
   intro e
   induction e with
   |nil=>intro i h;simpa using h
   |cons a e ih=>
    intro i h
    simp only[D.okNs,HJ] at h
    cases i with
    |zero=>simp only[List.set_cons_zero,D.okNs,HJ];exact⟨hL.1,h.2⟩
    |succ i=>simp only[Jn,D.okNs,HJ];exact⟨h.1,ih i h.2⟩
  exact this e p.1 he
theorem NT{h:Nat}{ts:List Nat}:∀n:Nat,D.okNs h ts (replicate n .undef)=J
 |0=>rfl
 |n+1=>by simp only[IC,D.okNs,D.okN,Is];exact NT n
section
variable {P : x7} {R : List D -> St -> Prop} {k : List KI}
theorem OW{C:cd->cd->Prop}{m:Nat}(hCm:∀E0 E,C E0 E->E.g.n<=m){nt:Nat}{sl:List (Nat×Option D)}{σ':Option St}{op:Bool}{env:List D}{σ:St}(hn:I env=nt)(h:Zn C m P R nt k sl σ' op env σ):A2 C P R k env σ:=by
 obtain⟨L,h1,h2⟩:=Lz h
 obtain⟨hl,hg⟩:=NU hn h2
 cases σ' with
 |none=>exact Hx hl hg h1.it
 |some σ'=>
  obtain⟨h3,h1⟩:=Ar h1
  obtain⟨h8,h1⟩:=Tc h1
  have h7:σ.H.take (I σ'.H)=σ'.H/\ny (σ'.own.map (·.1)) σ.own=σ'.own/\It (A2 C P R k (cy nt L) σ'):=by
   obtain⟨e1,h1⟩:=He h1 (fun e=>by grind)
   grind[He,ny,List.filter_eq_nil_iff]
  obtain⟨h4,h5,h6⟩:=h7
  simp only[HJ] at h3
  refine Hx hl hg (Alf hCm (h:=I σ'.H) h4.symm (Io h3.1.2) (Io h3.1.1) (Vj h3.2 (NT nt)) (by grind) ?_ h6.it)
  rw[←h5];exact List.filter_sublist
noncomputable def Aim(x:x8)(s:Sc)(env:List D)(K:Bool->Sc->List D->Prop):Prop:=match x with
 |.tmp t=>FH env t fun d=>match d with
  |.v (.bool b)=>AdR s b (G t) env K
  |_=>False
 |.const (.bool b)=>K b s env
 |_=>False
theorem AdP{x:x8}{s:Sc}{env:List D}{K:Bool->Sc->List D->Prop}(h:Aim x s env K):∃b s',K b s' env/\gr env x=.v (.bool b):=by
 unfold Aim at h
 split at h
 ·grind[D4,TX,gr]
 ·exact⟨_,_,h,rfl⟩
 grind
noncomputable def AdH(C:cd->cd->Prop)(m:Nat)(P:x7)(R:List D->St->Prop)(rk:Nat->List D->St->Prop)(nt:Nat)(im:List Nat)(T:List KI)(ih:Sc->List KI->List D->St->Prop)(ks:List KI)(s:Sc)(env:List D)(σ:St):Prop:=match ks with
  |[]=>(match s with
   |.h (.l sl σ') _=>Zn C m P R nt T sl σ' false env σ
   |.h (.lo sl σ') _=>Zn C m P R nt T sl (G σ') true env σ
   |.h .r _=>T=[]/\rk 0 env σ
   |.h .rn _=>T=[]/\rk 1 env σ
   |.h .ro _=>T=[]/\rk 2 env σ
   |.h .rd _=>T=[]/\rk 3 env σ
   |_=>False)
  |.blk _::ks=>ih s ks env σ
  |.lp c::ks=>(match s with
   |.h (.l sl σ') _=>Zn C m P R nt (.lp c::(ks++T)) sl σ' false env σ
   |.h (.lo sl σ') _=>Zn C m P R nt (.lp c::(ks++T)) sl (G σ') true env σ
   |.h .n s=>ih s (.code c:: .lp c::ks) env σ
   |_=>False)
  |.code c::ks=>(match c with
   |.seq x y=>ih s (.code x:: .code y::ks) env σ
   |.skip=>ih s ks env σ
   |.label _=>ih s ks env σ
   |.block id x=>ih s (.code x:: .blk id::ks) env σ
   |.loop x=>ih s (.lp x::ks) env σ
   |.exit id=>(match HA id ks with
    |some ks'=>ih s ks' env σ
    |none=>False)
   |.ret=>(match s with
    |.h .r _=>rk 0 env σ
    |.h .rn _=>rk 1 env σ
    |.h .ro _=>rk 2 env σ
    |.h .rd _=>rk 3 env σ
    |_=>False)
   |.cond t x y=>Aim t s env fun b s env=>Bool.rec (ih s (.code y::ks) env σ) (ih s (.code x::ks) env σ) b
   |.region r ops d=>Bool.rec (Y7 P im r ops (fun L sl σ=>It (Cg C P R (ks++T) ops L (cy nt sl) σ)) ops.toList 0 s env σ fun s env σ=>ih s ks env σ) (TV P im ops s env σ fun s env σ=>ih s ks env σ) d
   |_=>False)
noncomputable def vc(C:cd->cd->Prop)(m:Nat)(P:x7)(R:List D->St->Prop)(rk:Nat->List D->St->Prop)(nt:Nat)(im:List Nat)(T:List KI)(fuel:Nat)(s:Sc)(ks:List KI)(env:List D)(σ:St):Prop:=
 Nat.rec (motive:=fun _=>Sc->List KI->List D->St->Prop) (fun _ _ _ _=>False) (fun _ ih s ks env σ=>d9 1000000 0 s env σ (AdH C m P R rk nt im T ih ks)) fuel s ks env σ
theorem L6{T:List KI}{id:Nat}:∀{ks ks':List KI},HA id ks=G ks'->HA id (ks++T)=G (ks'++T)
 |[],ks',h=>by simp[HA] at h
 |.code c::ks,ks',h=>by simp only[HA] at h;simp only[Jz,HA];exact L6 h
 |.lp c::ks,ks',h=>by simp only[HA] at h;simp only[Jz,HA];exact L6 h
 |.blk i::ks,ks',h=>by
  simp only[HA] at h
  simp only[Jz,HA]
  by_cases e:i=id
  ·rw[Ie e] at h⊢;simp at h;subst h;rfl
  ·rw[HZ e] at h⊢;exact L6 h
theorem AdG{C:cd->cd->Prop}(L:N1 C){m:Nat}(hCm:∀E0 E,C E0 E->E.g.n<=m)(hm:P.follows .mixedOrders=J){rk:Nat->List D->St->Prop}{nt:Nat}{im:List Nat}{T:List KI}(hR:∀b env σ,I env=nt->rk b env σ->R env σ){ih:Sc->List KI->List D->St->Prop}
  (IH:∀{s:Sc} {ks:List KI} {env:List D} {σ:St},I env=nt->ih s ks env σ->A2 C P R (ks++T) env σ) {ks:List KI} {s:Sc} {env:List D} {σ:St} (hn:I env=nt) (h:AdH C m P R rk nt im T ih ks s env σ):A2 C P R (ks++T) env σ:=by
 unfold AdH at h
 split at h
 ·split at h
  ·grind[OW]
  ·grind[OW]
  ·grind[Pj]
  ·grind[Pj]
  all_goals grind[Pj]
 ·grind[ZY]
 ·grind[OW,Ahv]
 ·split at h
  ·grind[ZW]
  ·grind[UE]
  ·grind[ZX]
  ·grind[Q9]
  ·grind[fd]
  ·grind[UH,L6]
  ·grind[UF]
  ·obtain⟨b,s',h1,h2⟩:=AdP h
   refine UI h2 (fun hb=>?_) (fun hb=>?_)
   ·subst hb;exact IH hn h1
   ·subst hb;exact IH hn h1
  ·rename_i r ops d
   cases d with
   |false=>
    intro E0 E g a w B hC hf hB
    show KQ P B (.code (.region r ops false)::(_++T)) .normal a w
    simp only[KQ]
    exact wp_region_list (OV (n:=nt) (Z:=fun L sl σ=>It (Cg C P R (_++T) ops L (cy nt sl) σ)) (fun _ _ _ h=>h.it) (fun s env σ hl hk=>IH hl hk) hn (show Y7 P im r ops _ ops.toList 0 s env σ fun s env σ=>ih s _ env σ from h) E0 E g a w B hC hf hB)
   |true=>exact Zq hm hn (fun s env σ hl hk=>IH hl hk) (show TV P im ops s env σ fun s env σ=>ih s _ env σ from h)
  grind
theorem Qq{C:cd->cd->Prop}(L:N1 C){m:Nat}(hCm:∀E0 E,C E0 E->E.g.n<=m)(hm:P.follows .mixedOrders=J){rk:Nat->List D->St->Prop}{nt:Nat}{im:List Nat}{T:List KI}(hR:∀b env σ,I env=nt->rk b env σ->R env σ):
  ∀{fuel:Nat} {s:Sc} {ks:List KI} {env:List D} {σ:St},I env=nt->vc C m P R rk nt im T fuel s ks env σ->A2 C P R (ks++T) env σ
 |0,s,ks,env,σ,_,h=>(h:False).elim
 |fuel+1,s,ks,env,σ,hn,h=>by
  have h':d9 1000000 0 s env σ (AdH C m P R rk nt im T (vc C m P R rk nt im T fuel) ks):=h
  obtain⟨s1,env1,σ1,h1,h2,h3⟩:=QM h'
  exact Mh h2 (AdG L hCm hm hR (Qq L hCm hm hR) (h3.trans hn) h1)
noncomputable def mz(P:x7)(env:List D)(σ:St)(dg:Bool)(rs:List ResultVar)(K:List D->Prop):Prop:=
 List.rec (motive:=fun _=>(List D->Prop)->Prop) (fun K=>K []) (fun r _ ih K=>match r with
  |.tmp t=>cond (Nat.blt t (I env)) (FH env t fun d=>ih fun ds=>K (d::ds)) False
  |.cell a t=>FH env a fun d=>match d with
   |.ptr q off=>(match σ.H[q]?,DU P t with
    |some (some cs),some (1,false)=>(match cs[off]? with
     |some d=>ih fun ds=>K (d::ds)
     |none=>False)
    |some (some cs),some (n,true)=>cond (Nat.ble (off+n) (I cs)) (Bool.rec (match D8 ((cs.drop off).take n) with
     |some xs=>ih fun ds=>K (.v (.agg xs)::ds)
     |none=>False) (AW ((cs.drop off).take n) fun es=>ih fun ds=>K (.dagg es::ds)) dg) False
    |_,_=>False)
   |_=>False) rs K
theorem Hp{env:List D}{σ:St}{dg:Bool}:∀{rs:List ResultVar} {K:List D->Prop},mz P env σ dg rs K->∃ds,K ds/\Se P env σ rs ds
 |[],K,h=>⟨[],h,.nil⟩
 |.tmp t::rs,K,h=>by
  have h':cond (Nat.blt t (I env)) (FH env t fun d=>mz P env σ dg rs fun ds=>K (d::ds)) False:=h
  obtain⟨h1,h2⟩:=Ar h'
  rw[D4] at h2
  obtain⟨ds,h3,h4⟩:=Hp h2
  refine⟨_,h3,.tmp ?_ h4⟩
  have:t<I env:=Io h1
  rw[HQ,HI this];rfl
 |.cell a t::rs,K,h=>by
  have h':FH env a fun d=>match (generalizing:=false) d with
   |.ptr q off=>(match σ.H[q]?,DU P t with
    |some (some cs),some (1,false)=>(match cs[off]? with
     |some d=>mz P env σ dg rs fun ds=>K (d::ds)
     |none=>False)
    |some (some cs),some (n,true)=>cond (Nat.ble (off+n) (I cs)) (Bool.rec (match D8 ((cs.drop off).take n) with
     |some xs=>mz P env σ dg rs fun ds=>K (.v (.agg xs)::ds)
     |none=>False) (AW ((cs.drop off).take n) fun es=>mz P env σ dg rs fun ds=>K (.dagg es::ds)) dg) False
    |_,_=>False)
   |_=>False:=h
  rw[D4] at h'
  split at h'
  ·rename_i q off hd
   have ha:=getD_some hd (by simp)
   split at h'
   ·rename_i cs hq hz
    split at h'
    ·rename_i d hc
     obtain⟨ds,h3,h4⟩:=Hp h'
     exact⟨_,h3,.cell1 ha hq hz hc h4⟩
    ·exact h'.elim
   ·rename_i cs n hq hz
    obtain⟨h1,h2⟩:=Ar h'
    cases dg with
    |false=>
     have h2:(match D8 ((cs.drop off).take n) with
      |some xs=>mz P env σ false rs fun ds=>K (.v (.agg xs)::ds)
      |none=>False):=h2
     split at h2
     ·rename_i xs hx
      obtain⟨ds,h3,h4⟩:=Hp h2
      exact⟨_,h3,.cellA ha hq hz (Io h1) (GR hx) h4⟩
     ·exact h2.elim
    |true=>
     have h2:AW ((cs.drop off).take n) fun es=>mz P env σ true rs fun ds=>K (.dagg es::ds):=h2
     rw[AQ] at h2
     obtain⟨ds,h3,h4⟩:=Hp h2
     exact⟨_,h3,.cellD ha hq hz (Io h1) h4⟩
   ·exact h'.elim
  ·exact h'.elim
def nlV:V->V
 |.nils=>.list []
 |x=>x
theorem Aat{M:dy}:∀{xs:List V} {us:List yz},repA M xs us->repA M (xs.map nlV) us
 |[],us,h=>h
 |x::xs,us,h=>by
  simp only[repA] at h
  obtain⟨u,us',rfl,ha,h1,h2⟩:=h
  simp only[Ik,repA]
  refine⟨u,us',rfl,?_,?_,Aat h2⟩
  ·cases x<;>first|exact ha|rfl
  ·cases x with
   |nils=>
    have h3:repV M .nils u:=(BI (by rfl)).2 h1
    have h4:Ag (⟨M,fun _=>0,0,fun _ _=>none,fun _=>0⟩:Gh) (.v (.list [])) u:=FR (by simpa only[Ag] using h3)
    show repC M (.list []) [u]
    exact(BI (by rfl)).1 (by simpa only[Ag] using h4)
   |_=>exact h1
noncomputable def ip(ts:List Nat)(kn:Bool):D->D
 |.acc k xs=>Bool.rec (.v (.list xs)) (.acc k xs) (ts.any (Nat.beq k))
 |.v .nils=>Bool.rec (.v (.list [])) (.v .nils) kn
 |.v (.agg xs)=>Bool.rec (.v (.agg (xs.map nlV))) (.v (.agg xs)) kn
 |d=>d
theorem Aib{ts:List Nat}{kn:Bool}{g:Gh}{d:D}{u:yz}(h:Ag g d u):Ag g (ip ts kn d) u:=by
 unfold ip
 split
 ·cases ts.any _
  ·exact Po h
  omega
 ·cases kn
  all_goals grind[FR]
 ·cases kn
  all_goals grind[Ag,CY,Aat]
 omega
theorem D7{ts:List Nat}{kn:Bool}{g:Gh}:∀{ds:List D} {us:List yz},Af g ds us->Af g (ds.map (ip ts kn)) us
 |[],us,h=>by simpa using h
 |d::ds,us,h=>by
  simp only[Af,Ik] at h⊢
  obtain⟨u,us',e,h1,h2⟩:=h
  exact⟨u,us',e,Aib h1,D7 h2⟩
noncomputable def vq:List D->(D->Prop)->Prop
 |[d],K=>K d
 |ds,K=>AW ds fun ds=>K (.tup ds)
theorem Ps(ds:List D)(K:D->Prop):vq ds K=K (SS ds):=by
 match ds with
 |[]=>rfl
 |[d]=>rfl
 |a::b::ds=>grind[vq,SS,AQ]
noncomputable def Zj(P:x7)(rs:List ResultVar)(d:D)(σ':St)(md:Nat)(env:List D)(σ:St):Prop:=
 mz P env σ (Nat.beq md 3) rs fun ds=>AW (ds.map (ip (σ'.own.map (·.1)) (Nat.beq md 1))) fun ds=>vq ds fun d'=>
  cond (D.okN (I σ'.H) (σ'.own.map (·.1)) d&&Nat.ble (I σ'.H) (I σ.H)) (xt (Nat.beq md 2) (cm (I σ'.H) (σ'.own.map (·.1)) (σ.H.take (I σ'.H)))
   (Tv σ'.H (σ.H.take (I σ'.H)) (Tv σ'.own (ny (σ'.own.map (·.1)) σ.own) (d'=d)))) False
theorem OU{fn:yw}{d:D}{σ':St}{md:Nat}{env:List D}{σ:St}(h:Zj P fn.results.toList d σ' md env σ):AA P fn env σ d σ':=by
 obtain⟨ds,h1,hr⟩:=Hp h
 rw[AQ,Ps] at h1
 obtain⟨h2,h3⟩:=Ar h1
 obtain⟨h8,h3⟩:=Tc h3
 simp only[HJ] at h2
 generalize Nat.beq md 1=kn at h3
 have h4:SS (ds.map (ip (σ'.own.map (·.1)) kn))=d/\σ.H.take (I σ'.H)=σ'.H/\ny (σ'.own.map (·.1)) σ.own=σ'.own:=by
  obtain⟨e1,h3⟩:=He h3 (fun e=>by grind)
  grind[He,ny,List.filter_eq_nil_iff]
 obtain⟨rfl,hH,hown⟩:=h4
 intro E g a w hf hE
 obtain⟨us,h5,h6⟩:=hr.run hf
 have hrun:(results fn a.tmps).run P w=.ok (if h:I us=1 then us[0] else .tuple us.toArray) w:=by
  rw[Hz,Array.mapM_eq_mapM_toList]
  simp_all
 have hsub:σ'.own.Sublist σ.own:=by rw[←hown];exact List.filter_sublist
 refine⟨_,_,hrun,W0 hf.wi hH.symm (Io h2.2) hE (by grind) hsub,?_⟩
 refine Mm _ _ h2.1 ?_
 have h7:=D7 (ts:=σ'.own.map (·.1)) (kn:=kn) h6
 generalize ds.map (ip (σ'.own.map (·.1)) kn)=ds' at h7
 have hl:=A0 h7
 unfold SS
 split
 ·grind[AB]
 ·rename_i hne
  have:I us≠1:=by
   rw[hl]
   intro h
   match ds',h with
   |[d0],_=>grind
  grind[Ag]
theorem KY{f:yx}{fn:yw}{c:Code}{ds:List D}{σ σ':St}{d:D}(hf:P.funcs[f]?=G fn)(hb:fn.body=G c)(hn:(fn.name=="runtime.NumGoroutine")=O)
  (hH:I σ.H<=I σ'.H) (h:A2 (CN (I σ.H)) P (fun env σ1=>AA P fn env σ1 d σ') [.code c] (ds++replicate (fn.ntmps-I ds) .undef) σ):Aa P f ds σ d σ':=by
 refine⟨⟨fn,hf,hn,by grind⟩,fun g w args hw hargs=>?_⟩
 refine calls_of_wp hf hb ?_
 have hfi:FI ⟨g,w,σ⟩ g σ (ds++replicate (fn.ntmps-I ds) .undef) { tmps:=args.toArray++Array.replicate (fn.ntmps-args.toArray.size) undef,defers:=[]} w:=by
  refine⟨WI.start hw,?_,rfl⟩
  have hl:=A0 hargs
  simp only[Array.toList_append,Array.toList_replicate,IY,hl]
  refine Aw hargs ?_
  generalize fn.ntmps-I ds=m
  induction m<;>grind[Af,Ag]
 have:=h ⟨g,w,σ⟩ ⟨g,w,σ⟩ g _ w (bodyPost P fn fun e w'=>∃u g',e=.returned u/\WI ⟨g,w,σ⟩ g' σ' w'/\Ag g' d u) ⟨rfl,Nat.le_of_eq hw.n⟩ hfi ?_
 ·simp only[KQ] at this
  omega
 ·intro g' env' σ1 a' w' hfi' hR
  obtain⟨u,g2,h1,h2,h3⟩:=hR _ _ _ _ hfi' (by rw[hw.n];exact hH)
  have:a'.defers=[]/\∃v,(results fn a'.tmps).run P w'=.ok v w'/\∃u g',Ending.returned v=.returned u/\WI ⟨g,w,σ⟩ g' σ' w'/\Ag g' d u:=
   ⟨hfi'.defers,u,h1,u,g2,rfl,h2,h3⟩
  exact⟨this,this⟩
abbrev Rn(P:x7)(fn:yw)(C:Nat)(d:D)(σ':St)(k:List KI)(env:List D)(σ:St):Prop:=A2 (CN C) P (fun env σ1=>AA P fn env σ1 d σ') k env σ
theorem Ai2(hm:P.follows .mixedOrders=J){f:yx}{ds:List D}{σ σ':St}{d:D}(fn:yw)(c:Code)(hf:P.funcs[f]?=G fn)(hb:fn.body=G c)(hn:(fn.name=="runtime.NumGoroutine")=O)(hH:Nat.ble (I σ.H) (I σ'.H)=J)(nt:Nat)(hnt:I (ds++replicate (fn.ntmps-I ds) bj)=nt)
  (im:List Nat) (s:Sc)
  (h:AW (ds++replicate (fn.ntmps-I ds) bj) fun env=>vc (CN (I σ.H)) (I σ.H) P (fun env σ1=>AA P fn env σ1 d σ') (Zj P fn.results.toList d σ') nt im [] 10000 s [.code c] env σ):Aa P f ds σ d σ':=by
 rw[AQ] at h
 refine KY hf hb hn (Io hH) ?_
 exact Qq (ks:=[.code c]) (T:=[]) (N8 _) (fun _ _ h=>h.2) hm (fun b env σ _ h=>OU h) hnt h
theorem Ajc(hm:P.follows .mixedOrders=J){C:Nat}{fn:yw}{d:D}{σ':St}(nt:Nat)(im:List Nat){ks T:List KI}{L:List (Nat×D)}{σ:St}(s:Sc)
  (h:AW (cy nt L) fun env=>vc (CN C) C P (fun env σ1=>AA P fn env σ1 d σ') (Zj P fn.results.toList d σ') nt im T 10000 (.h .n s) ks env σ):Rn P fn C d σ' (ks++T) (cy nt L) σ:=by
 rw[AQ] at h
 exact Qq (N8 _) (fun _ _ h=>h.2) hm (fun b env σ _ h=>OU h) (by simp[cy,DN]) h
theorem Ahu(hm:P.follows .mixedOrders=J){C:cd->cd->Prop}(L:N1 C)(m:Nat)(hCm:∀E0 E,C E0 E->E.g.n<=m){fn:yw}{d:D}{σ':St}(nt:Nat)(im:List Nat){ks T:List KI}{E:List (Nat×D)}{σ:St}(s:Sc)
  (h:AW (cy nt E) fun env=>vc C m P (fun env σ1=>AA P fn env σ1 d σ') (Zj P fn.results.toList d σ') nt im T 10000 s ks env σ):A2 C P (fun env σ1=>AA P fn env σ1 d σ') (ks++T) (cy nt E) σ:=by
 grind[AQ,Qq,OU,cy,DN]
theorem Pm(hm:P.follows .mixedOrders=J){C:cd->cd->Prop}(Lk:N1 C)(m:Nat)(hCm:∀E0 E,C E0 E->E.g.n<=m){fn:yw}{d:D}{σ':St}(nt:Nat)(im:List Nat)(r i:Nat){ops:Array yy}{L:List yy}{ks T:List KI}{E:List (Nat×D)}{σ:St}(s:Sc)
  (h:AW (cy nt E) fun env=>Y7 P im r ops (fun L sl σ=>It (Cg C P (fun env σ1=>AA P fn env σ1 d σ') (ks++T) ops L (cy nt sl) σ)) L i s env σ fun s env σ=>vc C m P (fun env σ1=>AA P fn env σ1 d σ') (Zj P fn.results.toList d σ') nt im T 10000 s ks env σ):Cg C P (fun env σ1=>AA P fn env σ1 d σ') (ks++T) ops L (cy nt E) σ:=by
 rw[AQ] at h
 exact OV (n:=nt) (fun _ _ _ h=>h.it) (fun s env σ hl hk=>Qq Lk hCm hm (fun b env σ _ h=>OU h) hl hk) (by simp[cy,DN]) h
theorem fx{a b:Prop}(h:a=b)(ha:a):b:=h▸ha
end
end Go.Nv

namespace Go.Proofs.YtkkplhjidondkaaGreat
open Go.Dv Go.Nv
set_option maxRecDepth 20000
open List (drop_of_length_le flatten replicate take)
open Go.IntKind (u64)
open Go.IntKind renaming wrap → yu, i64 → yt
open List renaming length → I, map → U, drop → W
open Option renaming some → G
open Bool renaming true → J, false → O
open Decidable renaming decide → Y
open Int renaming toNat → Z
open Go.Dv.V renaming list → ai, str → ae, agg → ab, int → aa, ref → bz, fn → bw, nils → bv, bool → bu
open Go.Dv.D renaming v → bt, acc → br, ptr → bq, arr → bo, gro → bm, tup → bk, undef → bj, dagg → bi
open Go.Dv.St renaming mk → bh
open Go.Dv.KI renaming blk → bf
open _root_.ByteArray renaming mk → bc
open Go renaming Operand → x8, Program → x7, TypeId → x6, World → x5, Value → yz, Oper → yy, FuncId → yx, Func → yw, IntKind → yv
abbrev Q{α:Type}(a:α):Prop:=a=a
theorem yr{p:Prop}[Decidable p](h:p:=by omega):decide p=true:=decide_eq_true h
theorem yq{p:Prop}[Decidable p](h:¬p:=by omega):decide p=false:=decide_eq_false h
noncomputable abbrev yl(f:yw):Code:=f.body.getD .skip
theorem yk{α:Type}{l:List α}{k:Nat}(h:k<l.length):∃x,l[k]?=some x:=⟨_,List.getElem?_eq_getElem h⟩
abbrev yj(p:Prop):Prop:=p/\p/\p/\True
abbrev yi(p:Prop):Prop:=p/\p/\p/\p/\True
abbrev yh(p:Prop):Prop:=p/\p/\p/\p/\p/\p/\p/\True
abbrev yg(p:Prop):Prop:=p/\p/\p/\p/\p/\p/\p/\p/\p/\True
abbrev yf(p:Prop):Prop:=p/\p/\p/\p/\p/\p/\p/\p/\p/\p/\p/\True
abbrev yp:Prop:=True/\True
abbrev yo:Prop:=True/\True/\True
theorem yn:yp:=⟨trivial,trivial⟩
theorem ym:yo:=⟨trivial,trivial,trivial⟩
abbrev F0(f:yx)(ds:List D)(d:D):Prop:=Aa PP f ds ⟨[],[]⟩ d ⟨[],[]⟩
noncomputable abbrev N0:=fun(ds:List D)(σ:St)(d:D)(σ':St)=>∀(o:yy)(c:Call)(fo:x8),o.op=Op.call c->c.callee=Callee.value fo->Ah PP o ds σ d σ'
abbrev I0(fn:yw)(C:Nat)(d:D)(s:St)(k:List KI)(e:List D)(t:St):Prop:=It (Rn PP fn C d s k e t)
abbrev kl(c:Code)(p:List Nat):KI:=.lp (sub c p)
abbrev kc(c:Code)(p:List Nat):KI:=.code (sub c p)
abbrev dn:D:=.v .nils
abbrev fv:List D:=[bt (ae (bc #[]).data.toList),di 0,di 0,bt bv,bt bv,bt bv,di 0,di 0,di 0,bt bv,bt bv,bt bv,bt bv,di 0]
abbrev r6:List D:=[di 0,bt bv,bt bv,bt bv,bt bv,di 0,di 0,bt bv,di 0,bt bv]
theorem sv{f:yx}{ds:List D}{σ σ':St}{d:D}(fn:yw)(nt:Nat)(im:List Nat)(s:Sc)(a:Prop)(ha:a)(hf:PP.funcs[f]?=G fn:=by kernel_rfl)(hb:fn.body=G (fn.body.getD .skip):=by kernel_rfl)(hn:(fn.name=="runtime.NumGoroutine")=O:=by kernel_rfl)(hH:Nat.ble (I σ.H) (I σ'.H)=J:=by kernel_rfl)(hnt:I (ds++replicate (fn.ntmps-I ds) bj)=nt:=by kernel_rfl)
  (h:a=AW (ds++replicate (fn.ntmps-I ds) bj) fun env=>vc (CN (I σ.H)) (I σ.H) PP (fun env σ1=>AA PP fn env σ1 d σ') (Zj PP fn.results.toList d σ') nt im [] 10000 s [.code (fn.body.getD .skip)] env σ:=by kernel_rfl):Aa PP f ds σ d σ':=Ai2 mixed fn _ hf hb hn hH nt hnt im s (fx h ha)
theorem iK{p:Prop}(h:p):Nv.It p:=⟨h⟩
theorem lv{C:Nat}{fn:yw}{d:D}{σ':St}{ks T:List KI}{L:List (Nat×D)}{σ:St}(nt:Nat)(im:List Nat)(s:Sc)(a:Prop)(ha:a)
  (h:a=AW (cy nt L) fun env=>vc (CN C) C PP (fun env σ1=>AA PP fn env σ1 d σ') (Zj PP fn.results.toList d σ') nt im T 10000 (.h .n s) ks env σ:=by kernel_rfl):Rn PP fn C d σ' (ks++T) (cy nt L) σ:=Ajc mixed nt im s (fx h ha)
abbrev ba:St:=⟨[],[]⟩
abbrev dfn(f:yx):D:=.v (.fn f [] [])
abbrev dl(l:List V):D:=.v (.list l)
abbrev ke(t:Nat):Nat×Option D:=(t,none)
abbrev ch(t:Nat)(d:D):Nat×Option D:=(t,G d)
theorem Am{α:Type}{f:α->V}{a:List α}{i:Nat}{x:α}(h:a[i]?=G x):(a.map f)[((i:Nat):Int).toNat]?=G (f x):=by simp[h]
theorem Ak{n:Int}(h0: -9223372036854775808<=n:=by omega)(h1:n<=9223372036854775807:=by omega):yt.wrap n=n:=by grind[IntKind.wrap_i64]
theorem Ae{i:Nat}(h:i<9223372036854775807:=by omega):di (yt.wrap ((i:Int)+1))=di ((i+1:Nat):Int):=by grind[Ak]
inductive b9 where
 |mk (n:Int) (az:List b9)
 deriving Inhabited
def b9.n:b9->Int
 |.mk n _=>n
def b9.az:b9->List b9
 |.mk _ ks=>ks
mutual
def b9.enc:b9->V
 |.mk n ks=>.agg [vi n,.list (b9.encs ks)]
def b9.encs:List b9->List V
 |[]=>[]
 |v::vs=>v.enc::b9.encs vs
end
abbrev eV:b9->V:=b9.enc
abbrev dt(l:List b9):V:=.list (l.map eV)
abbrev Ac(v:b9):V:=.agg [vi v.n,dt v.az]
theorem encs_map:∀l:List b9,b9.encs l=l.map eV
 |[]=>rfl
 |v::l=>by simp[b9.encs,encs_map l]
theorem AG(v:b9):eV v=Ac v:=by cases v with|mk n ks=>simp only[eV,b9.enc,encs_map];rfl
abbrev dV(v:b9):D:=.v (Ac v)
abbrev cq(l:List b9):D:=.v (dt l)
theorem Ap{a:List b9}{i:Nat}{x:b9}(h:a[i]?=G x):(a.map eV)[((i:Nat):Int).toNat]?=G (Ac x):=by grind[AG]
theorem BL(a:List b9)(x:b9):a.map eV++[Ac x]=(a++[x]).map eV:=by grind[AG]
mutual
def b9.size:b9->Nat
 |.mk _ ks=>1+b9.sizes ks
def b9.sizes:List b9->Nat
 |[]=>0
 |v::vs=>v.size+b9.sizes vs
end
theorem b9.size_eq(v:b9):v.size=1+b9.sizes v.az:=by cases v;rfl
theorem b9.size_pos(v:b9):1<=v.size:=by grind[b9.size_eq]
theorem b9.size_mem{v:b9}:∀{l:List b9},v∈l->v.size<=b9.sizes l
 |w::l,h=>by
  rcases Iz.1 h with rfl|h
  ·simp[b9.sizes]
  ·have:=b9.size_mem h;grind[b9.sizes]
theorem b9.length_le:∀l:List b9,I l<=b9.sizes l
 |[]=>by grind
 |v::l=>by have:=b9.length_le l;have:=v.size_pos;grind[b9.sizes]
noncomputable abbrev Aqc:=Tryz.f133
theorem Afy(x:Int):F0 133 [di x] (db O):=by
 refine sv Aqc 6 [] .r (db (x !=x)=db O) ?_
 simp
def AJ(a b:Int):Int:=if a<b then-1 else if b<a then 1 else 0
noncomputable abbrev AoR:=Tryz.f72
theorem Kz(a b:Int):F0 72 [di a,di b] (di (AJ a b)):=by
 refine sv AoR 20 [] (.c (db O)<|.c (db O)<|.k<|.k<|.b .r<|.b .r .r) (F0 133 [di a] (db O)/\F0 133 [di b] (db O)/\(Y (a<b)=J->di (-1)=di (AJ a b))/\(Y (a<b)=O->(Y (a>b)=J->di 1=di (AJ a b))/\(Y (a>b)=O->di 0=di (AJ a b)))) ?_
 grind[Afy,AJ]
def jo:List Int->Int
 |[]=>0
 |x::l=>if x=0 then jo l else x
noncomputable abbrev sr:=Tryz.f71
noncomputable def qw:=yl sr
noncomputable abbrev ee:=[1,1,0,1,0,0]
theorem AiJ(l:List Int)(hl:I l<=1000000)(n:Nat):∀k:Nat,I l-k=n->
  Rn PP sr 0 (di (jo (l.drop k))) ba ([kl qw [1,1,0,1,0,0],.blk 0,kc qw [1,1,1]]++[]) (cy 18 [(3,di 0),(6,dl (l.map vi)),(7,di (I l)),(8,di k)]) ba:=by
 induction n using Nat.strongRecOn with
 |_ n ih=>
 intro k hn
 refine lv 18 [] (.b (.e fun x:Int=>.x (vi x)<|.b .r (.l [ke 3,ke 6,ke 7,ch 8 (di (k+1:Nat))])) .r) ((Y ((k:Int)<(I l:Int))=J->∃a,0<=(k:Int)/\(U vi l)[Z (k:Int)]?=G (vi a)/\((a !=0)=J->di a=di (jo (W k l)))/\((a !=0)=O->di (yu yt ((k:Int)+1))=di (↑(k+1):Int)/\Nv.It (A2 (CN 0) PP (fun env σ1=>AA PP sr env σ1 (di (jo (W k l))) ba) [kl qw ee,bf 0,kc qw [1,1,1]] (cy 18 [(3,di 0),(6,bt (ai (U vi l))),(7,di (I l:Int)),(8,di (↑(k+1):Int))]) ba)))/\(Y ((k:Int)<(I l:Int))=O->di 0=di (jo (W k l)))) ⟨fun h=>?_,fun h=>?_⟩
 ·have hk:k<I l:=by simpa using h
  have hx:l[k]?=G l[k]:=HI hk
  rw[HX hk]
  generalize l[k]=x at hx⊢
  refine⟨x,by omega,Am hx,fun hf=>?_,fun hf=>⟨Ae,⟨?_⟩⟩⟩
  ·have:x≠0:=by simpa using hf
   simp[jo,this]
  ·have:x=0:=by simpa using hf
   subst this
   exact ih (I l- (k+1)) (by omega) (k+1) rfl
 grind[drop_of_length_le,jo]
theorem AaH(l:List Int)(hl:I l<=1000000):F0 71 [dl (l.map vi)] (di (jo l)):=by
 refine sv sr 18 [] (.l [ke 3,ke 6,ch 7 (di (I l)),ch 8 (di (0:Nat))]) (di (I (U vi l):Int)=di (I l:Int)/\Q (di 0)/\I0 sr (I ba.H) (di (jo l)) ba [kl qw ee,bf 0,kc qw [1,1,1]] (cy 18 [(3,di 0),(6,dl (U vi l)),(7,di (I l:Int)),(8,di (↑0:Int))]) ba) ⟨by simp,rfl,⟨?_⟩⟩
 exact AiJ l hl _ 0 rfl
def AV{α:Type}(c:α->α->Int):List α->List α->Int
 |[],[]=>0
 |[],_::_=> -1
 |_::_,[]=>1
 |x::a,y::b=>if c x y=0 then AV c a b else c x y
noncomputable abbrev R1:=Tryz.f73
noncomputable def OC:=yl R1
noncomputable abbrev d6:=(bh [] [])
theorem XW(F:yx)(fs cs:List V)(c:b9->b9->Int)(a b:List b9)(ha:I a<=9223372036854775807)(hf:∀x∈a,∀y∈b,F0 F ((fs++[Ac x,Ac y]++cs).map .v) (di (c x y)))(n:Nat):∀k:Nat,I a-k=n->k<=I b->k<=I a->
  Rn PP R1 0 (di (AV c (a.drop k) (b.drop k))) ba ([kl OC [1,0,1,0,0],.blk 0,kc OC [1,1]]++[]) (cy 39 [(0,cq a),(1,cq b),(2,.v (.fn F fs cs)),(11,cq a),(12,di (I a)),(13,di k)]) ba:=by
 induction n using Nat.strongRecOn with
 |_ n ih=>
 intro k hn hkb hka
 refine lv 39 [] (.b (.e fun x:b9=>.x (Ac x)<|.b .r<|.e fun y:b9=>.x (Ac y)<|.c (di (c x y))<|.b .r (.ls [ke 0,ke 1,ke 2,ke 11,ke 12,ch 13 (di (k+1:Nat))] ba)) (.b .r .r)) ((Y ((k:Int)<(I a:Int))=J->∃a_2,0<=(k:Int)/\(U eV a)[Z (k:Int)]?=G (Ac a_2)/\(Y ((k:Int)>=(I (U eV b):Int))=J->di 1=di (AV c (W k a) (W k b)))/\(Y ((k:Int)>=(I (U eV b):Int))=O->∃a_4,0<=(k:Int)/\(U eV b)[Z (k:Int)]?=G (Ac a_4)/\Aa PP F (U bt (fs++[ab [vi a_2.n,dt a_2.az],ab [vi a_4.n,dt a_4.az]]++cs)) d6 (di (c a_2 a_4)) d6/\((c a_2 a_4 !=0)=J->di (c a_2 a_4)=di (AV c (W k a) (W k b)))/\((c a_2 a_4 !=0)=O->di (yu yt ((k:Int)+1))=di (↑(k+1):Int)/\Nv.It (A2 (CN 0) PP (fun env σ1=>AA PP R1 env σ1 (di (AV c (W k a) (W k b))) ba) [kl OC [1,0,1,0,0],bf 0,kc OC [1,1]] (cy 39 [(0,cq a),(1,cq b),(2,bt (bw F fs cs)),(11,cq a),(12,di (I a:Int)),(13,di (↑(k+1):Int))]) ba))))/\(Y ((k:Int)<(I a:Int))=O->(Y ((I (U eV a):Int)<(I (U eV b):Int))=J->di (-1)=di (AV c (W k a) (W k b)))/\(Y ((I (U eV a):Int)<(I (U eV b):Int))=O->di 0=di (AV c (W k a) (W k b))))) ⟨fun h=>?_,fun h=>?_⟩
 ·have hk:k<I a:=by grind
  have hx:a[k]?=G a[k]:=HI hk
  rw[HX hk]
  generalize a[k]=x at hx⊢
  refine⟨x,by omega,Ap hx,fun h1=>?_,fun h1=>?_⟩
  ·grind[drop_of_length_le,AV]
  ·have hk2:k<I b:=by grind
   have hy:b[k]?=G b[k]:=HI hk2
   rw[HX hk2]
   generalize b[k]=y at hy⊢
   refine⟨y,by omega,Ap hy,hf x (HO hx) y (HO hy),fun h2=>?_,fun h2=>⟨Ae,⟨?_⟩⟩⟩
   ·grind[AV]
   ·have:c x y=0:=by grind
    simp only[AV,this,IT]
    grind
 ·have hk:k=I a:=by grind
  subst hk
  rw[List.drop_length]
  refine⟨fun h1=>?_,fun h1=>?_⟩
  ·grind[List.drop_eq_getElem_cons,AV]
  grind[drop_of_length_le,AV]
theorem XV(F:yx)(fs cs:List V)(c:b9->b9->Int)(a b:List b9)(ha:I a<=9223372036854775807)(hf:∀x∈a,∀y∈b,F0 F ((fs++[Ac x,Ac y]++cs).map .v) (di (c x y))):
  F0 73 [cq a,cq b,.v (.fn F fs cs)] (di (AV c a b)):=by
 refine sv R1 39 [] (.l [ke 0,ke 1,ke 2,ke 11,ch 12 (di (I a)),ch 13 (di (0:Nat))]) (di (I (U eV a):Int)=di (I a:Int)/\Q (di 0)/\I0 R1 (I ba.H) (di (AV c a b)) ba [kl OC [1,0,1,0,0],bf 0,kc OC [1,1]] (cy 39 [(0,cq a),(1,cq b),(2,bt (bw F fs cs)),(11,cq a),(12,di (I a:Int)),(13,di (↑0:Int))]) ba) ⟨by simp,rfl,⟨?_⟩⟩
 exact XW F fs cs c a b ha hf _ 0 rfl (by omega) (by omega)
mutual
def As:b9->b9->Int
 |.mk n ks,.mk m ls=>if AJ n m=0 then(if AJ (I ks) (I ls)=0 then x9 ks ls else AJ (I ks) (I ls)) else AJ n m
def x9:List b9->List b9->Int
 |[],[]=>0
 |[],_::_=> -1
 |_::_,[]=>1
 |x::a,y::b=>if As x y=0 then x9 a b else As x y
end
theorem PM:∀a b:List b9,x9 a b=AV As a b
 |[],[]=>rfl
 |[],_::_=>rfl
 |_::_,[]=>rfl
 |x::a,y::b=>by simp only[x9,AV,PM a b]
theorem or3(x y z:Int):(if x=0 then(if y=0 then z else y) else x)=jo [x,y,z]:=by
 grind[jo]
theorem PN(a b:b9):As a b=jo [AJ a.n b.n,AJ (I a.az) (I b.az),AV As a.az b.az]:=by
 cases a;cases b
 rw[As,PM]
 exact or3 _ _ _
mutual
def b9.fit:b9->Prop
 |.mk _ l=>I l<=9223372036854775807/\b9.fits l
def b9.fits:List b9->Prop
 |[]=>True
 |v::l=>v.fit/\b9.fits l
end
theorem b9.fits_mem{v:b9}:∀{l:List b9},b9.fits l->v∈l->v.fit
 |w::l,h,hm=>by
  rcases Iz.1 hm with rfl|hm
  ·exact h.1
  ·exact b9.fits_mem h.2 hm
theorem b9.fit.len{v:b9}(h:v.fit):I v.az<=9223372036854775807:=by cases v;exact h.1
theorem b9.fit.mem{v x:b9}(h:v.fit)(hx:x∈v.az):x.fit:=by cases v;exact b9.fits_mem h.2 hx
mutual
theorem b9.fit_of:∀v:b9,v.size<=1000000->v.fit
 |.mk n l,h=>by
  have h1:1+b9.sizes l<=1000000:=h
  have h2:=b9.length_le l
  exact⟨by omega,b9.fit_ofs l (by omega)⟩
theorem b9.fit_ofs:∀l:List b9,b9.sizes l<=1000000->b9.fits l
 |[],_=>trivial
 |v::l,h=>by
  have h1:v.size+b9.sizes l<=1000000:=h
  exact⟨b9.fit_of v (by omega),b9.fit_ofs l (by omega)⟩
end
noncomputable abbrev AoQ:=Tryz.f41
noncomputable abbrev n5:=(bw 41 [] [])
noncomputable abbrev ce:=fun a₀=>(U eV a₀)
theorem VR(N:Nat):∀a b:b9,a.size<=N->a.fit->F0 41 [dV a,dV b] (di (As a b)):=by
 induction N with
 |zero=>intro a b h;have:=a.size_pos;omega
 |succ N ih=>
 intro a b ha hb
 refine sv AoQ 24 [2,3] (.c (di (AJ a.n b.n))<|.c (di (AJ (I a.az) (I b.az)))<|.c (di (AV As a.az b.az))<|.c (di (As a b)) .r) (F0 72 [di a.n,di b.n] (di (AJ a.n b.n))/\F0 72 [di (I (ce a.az):Int),di (I (ce b.az):Int)] (di (AJ (I a.az:Int) (I b.az:Int)))/\F0 73 [cq a.az,cq b.az,bt n5] (di (AV As a.az b.az))/\F0 71 [bt (ai [vi (AJ a.n b.n),vi (AJ (I a.az:Int) (I b.az:Int)),vi (AV As a.az b.az)])] (di (As a b))/\Q (di (As a b))) ?_
 have hs:=a.size_eq
 have hl:=hb.len
 refine⟨Kz _ _,by grind[Kz],XV _ _ _ As a.az b.az (by omega) (fun x hx y hy=>?_),?_,rfl⟩
 ·have:=b9.size_mem hx
  exact ih x y (by omega) (hb.mem hx)
 ·rw[PN];exact AaH [_,_,_] (by simp)
theorem Ky(N:Nat)(a b:b9)(_:a.size<=N)(h:a.size<=1000000):F0 41 [dV a,dV b] (di (As a b)):=by grind[VR,b9.fit_of]
def ez{α:Type}(p:α->Bool):List α->Nat->Int
 |[],_=> -1
 |x::l,k=>if p x then k else ez p l (k+1)
theorem HC{α:Type}(p:α->Bool):∀(l:List α) (k:Nat),Y (ez p l k>=0)=l.any p
 |[],k=>by rfl
 |x::l,k=>by
  simp only[ez,List.any_cons]
  by_cases h:p x=J
  ·simp[h]
  ·simp[h,HC p l]
noncomputable abbrev te:=Tryz.f162
noncomputable def qa:=yl te
noncomputable abbrev sb:=fun a₀=>[ke 0,ke 1,ke 7,ch 8 (di (a₀+1:Nat))]
theorem AfM(F:yx)(fs cs:List V)(p:Int->Bool)(l:List (Int))(hl:I l<=1000000)(hp:∀x∈l,F0 F ((fs++[vi x]++cs).map .v) (db (p x)))(n:Nat):∀k:Nat,I l-k=n->
  Rn PP te 0 (di (ez p (l.drop k) k)) ba ([kl qa [1,0,1,0,0],.blk 0,kc qa [1,1]]++[]) (cy 19 [(0,dl (l.map vi)),(1,.v (.fn F fs cs)),(7,di (I l)),(8,di k)]) ba:=by
 induction n using Nat.strongRecOn with
 |_ n ih=>
 intro k hn
 refine lv 19 [] (.b (.e fun x:Int=>.x (vi x)<|.c (db (p x))<|.b .r (.l (sb k))) .r) ((Y ((k:Int)<(I l:Int))=J->∃a,0<=(k:Int)/\(U vi l)[Z (k:Int)]?=G (vi a)/\Aa PP F (U bt (fs++[vi a]++cs)) d6 (db (p a)) d6/\(p a=J->di (k:Int)=di (ez p (W k l) k))/\(p a=O->di (yu yt ((k:Int)+1))=di (↑(k+1):Int)/\Nv.It (A2 (CN 0) PP (fun env σ1=>AA PP te env σ1 (di (ez p (W k l) k)) ba) [kl qa [1,0,1,0,0],bf 0,kc qa [1,1]] (cy 19 [(0,bt (ai (U vi l))),(1,bt (bw F fs cs)),(7,di (I l:Int)),(8,di (↑(k+1):Int))]) ba)))/\(Y ((k:Int)<(I l:Int))=O->di (-1)=di (ez p (W k l) k))) ⟨fun h=>?_,fun h=>?_⟩
 ·have hk:k<I l:=by simpa using h
  have hx:l[k]?=G l[k]:=HI hk
  rw[HX hk]
  generalize l[k]=x at hx⊢
  refine⟨x,by omega,Am hx,hp x (HO hx),fun hf=>by simp[ez,hf],fun hf=>⟨Ae,⟨?_⟩⟩⟩
  simp only[ez,hf]
  exact ih (I l- (k+1)) (by omega) (k+1) rfl
 grind[drop_of_length_le,ez]
theorem AfL(F:yx)(fs cs:List V)(p:Int->Bool)(l:List (Int))(hl:I l<=1000000)(hp:∀x∈l,F0 F ((fs++[vi x]++cs).map .v) (db (p x))):
  F0 162 [dl (l.map vi),.v (.fn F fs cs)] (di (ez p l 0)):=by
 refine sv te 19 [] (.l [ke 0,ke 1,ch 7 (di (I l)),ch 8 (di (0:Nat))]) (di (I (U vi l):Int)=di (I l:Int)/\Q (di 0)/\I0 te (I ba.H) (di (ez p l 0)) ba [kl qa [1,0,1,0,0],bf 0,kc qa [1,1]] (cy 19 [(0,dl (U vi l)),(1,bt (bw F fs cs)),(7,di (I l:Int)),(8,di (↑0:Int))]) ba) ⟨by simp,rfl,⟨?_⟩⟩
 exact AfM F fs cs p l hl hp _ 0 rfl
noncomputable abbrev AoM:=Tryz.f96
theorem Dh(F:yx)(fs cs:List V)(p:Int->Bool)(l:List (Int))(hl:I l<=1000000)(hp:∀x∈l,F0 F ((fs++[vi x]++cs).map .v) (db (p x))):
  F0 96 [dl (l.map vi),.v (.fn F fs cs)] (db (l.any p)):=by
 refine sv AoM 9 [] (.c (di (ez p l 0)) .r) (F0 162 [bt (ai (U vi l)),bt (bw F fs cs)] (di (ez p l 0))/\db (Y (ez p l 0>=0))=db (List.any l p)) ?_
 grind[AfL,HC]
noncomputable abbrev tb:=Tryz.f88
noncomputable def q7:=yl tb
theorem AfG(F:yx)(fs cs:List V)(p:b9->Bool)(l:List (b9))(hl:I l<=1000000)(hp:∀x∈l,F0 F ((fs++[Ac x]++cs).map .v) (db (p x)))(n:Nat):∀k:Nat,I l-k=n->
  Rn PP tb 0 (di (ez p (l.drop k) k)) ba ([kl q7 [1,0,1,0,0],.blk 0,kc q7 [1,1]]++[]) (cy 19 [(0,dl (l.map eV)),(1,.v (.fn F fs cs)),(7,di (I l)),(8,di k)]) ba:=by
 induction n using Nat.strongRecOn with
 |_ n ih=>
 intro k hn
 refine lv 19 [] (.b (.e fun x:b9=>.x (Ac x)<|.c (db (p x))<|.b .r (.l (sb k))) .r) ((Y ((k:Int)<(I l:Int))=J->∃a,0<=(k:Int)/\(U eV l)[Z (k:Int)]?=G (Ac a)/\Aa PP F (U bt (fs++[Ac a]++cs)) d6 (db (p a)) d6/\(p a=J->di (k:Int)=di (ez p (W k l) k))/\(p a=O->di (yu yt ((k:Int)+1))=di (↑(k+1):Int)/\Nv.It (A2 (CN 0) PP (fun env σ1=>AA PP tb env σ1 (di (ez p (W k l) k)) ba) [kl q7 [1,0,1,0,0],bf 0,kc q7 [1,1]] (cy 19 [(0,bt (ai (U eV l))),(1,bt (bw F fs cs)),(7,di (I l:Int)),(8,di (↑(k+1):Int))]) ba)))/\(Y ((k:Int)<(I l:Int))=O->di (-1)=di (ez p (W k l) k))) ⟨fun h=>?_,fun h=>?_⟩
 ·have hk:k<I l:=by simpa using h
  have hx:l[k]?=G l[k]:=HI hk
  rw[HX hk]
  generalize l[k]=x at hx⊢
  refine⟨x,by omega,Ap hx,hp x (HO hx),fun hf=>by simp[ez,hf],fun hf=>⟨Ae,⟨?_⟩⟩⟩
  simp only[ez,hf]
  exact ih (I l- (k+1)) (by omega) (k+1) rfl
 grind[drop_of_length_le,ez]
theorem V1(F:yx)(fs cs:List V)(p:b9->Bool)(l:List (b9))(hl:I l<=1000000)(hp:∀x∈l,F0 F ((fs++[Ac x]++cs).map .v) (db (p x))):
  F0 88 [dl (l.map eV),.v (.fn F fs cs)] (di (ez p l 0)):=by
 refine sv tb 19 [] (.l [ke 0,ke 1,ch 7 (di (I l)),ch 8 (di (0:Nat))]) (di (I (U eV l):Int)=di (I l:Int)/\Q (di 0)/\I0 tb (I ba.H) (di (ez p l 0)) ba [kl q7 [1,0,1,0,0],bf 0,kc q7 [1,1]] (cy 19 [(0,dl (U eV l)),(1,bt (bw F fs cs)),(7,di (I l:Int)),(8,di (↑0:Int))]) ba) ⟨by simp,rfl,⟨?_⟩⟩
 exact AfG F fs cs p l hl hp _ 0 rfl
noncomputable abbrev AoJ:=Tryz.f80
theorem GZ(F:yx)(fs cs:List V)(p:b9->Bool)(l:List (b9))(hl:I l<=1000000)(hp:∀x∈l,F0 F ((fs++[Ac x]++cs).map .v) (db (p x))):
  F0 80 [dl (l.map eV),.v (.fn F fs cs)] (db (l.any p)):=by
 refine sv AoJ 9 [] (.c (di (ez p l 0)) .r) (F0 88 [bt (ai (U eV l)),bt (bw F fs cs)] (di (ez p l 0))/\db (Y (ez p l 0>=0))=db (List.any l p)) ?_
 grind[V1,HC]
noncomputable abbrev ux:=Tryz.f259
noncomputable def qc:=yl ux
theorem Agj(a b:List (Int))(ha:I a<=1000000)(hab:I a=I b)(n:Nat):∀k:Nat,I a-k=n->
  Rn PP ux 0 (db (Y (a.drop k=b.drop k))) ba ([kl qc [1,1,0,1,0,0],.blk 0,kc qc [1,1,1]]++[]) (cy 26 [(0,dl (a.map vi)),(1,dl (b.map vi)),(12,di (I a)),(13,di k)]) ba:=by
 induction n using Nat.strongRecOn with
 |_ n ih=>
 intro k hn
 refine lv 26 [] (.b (.e fun x:Int=>.x (vi x)<|.e fun y:Int=>.x (vi y)<|.b .r (.l [ke 0,ke 1,ke 12,ch 13 (di (k+1:Nat))])) .r) ((Y ((k:Int)<(I a:Int))=J->∃a_2,0<=(k:Int)/\(U vi a)[Z (k:Int)]?=G (vi a_2)/\∃a_3,0<=(k:Int)/\(U vi b)[Z (k:Int)]?=G (vi a_3)/\((a_2 !=a_3)=J->db O=db (Y (W k a=W k b)))/\((a_2 !=a_3)=O->di (yu yt ((k:Int)+1))=di (↑(k+1):Int)/\Nv.It (A2 (CN 0) PP (fun env σ1=>AA PP ux env σ1 (db (Y (W k a=W k b))) ba) [kl qc ee,bf 0,kc qc [1,1,1]] (cy 26 [(0,bt (ai (U vi a))),(1,bt (ai (U vi b))),(12,di (I a:Int)),(13,di (↑(k+1):Int))]) d6)))/\(Y ((k:Int)<(I a:Int))=O->db J=db (Y (W k a=W k b)))) ⟨fun h=>?_,fun h=>?_⟩
 ·have hk:k<I a:=by simpa using h
  have hk2:k<I b:=by omega
  have hx:a[k]?=G a[k]:=HI hk
  have hy:b[k]?=G b[k]:=HI hk2
  rw[HX hk,HX hk2]
  generalize a[k]=x at hx⊢
  generalize b[k]=y at hy⊢
  refine⟨x,by omega,Am hx,y,by omega,Am hy,fun hf=>?_,fun hf=>⟨Ae,⟨?_⟩⟩⟩
  ·have:x≠y:=by simpa using hf
   simp[this]
  ·have:x=y:=by simpa using hf
   subst this
   simpa using ih (I a- (k+1)) (by omega) (k+1) rfl
 grind[drop_of_length_le]
theorem Er(a b:List (Int))(ha:I a<=1000000):F0 259 [dl (a.map vi),dl (b.map vi)] (db (Y (a=b))):=by
 refine sv ux 26 [] (.b .r (.l [ke 0,ke 1,ch 12 (di (I a)),ch 13 (di (0:Nat))])) ((((I (U vi a):Int) !=(I (U vi b):Int))=J->db O=db (Y (a=b)))/\(((I (U vi a):Int) !=(I (U vi b):Int))=O->di (I (U vi a):Int)=di (I a:Int)/\di 0=di (↑0:Int)/\I0 ux (I ba.H) (db (Y (a=b))) ba [kl qc ee,bf 0,kc qc [1,1,1]] (cy 26 [(0,dl (U vi a)),(1,dl (U vi b)),(12,di (I a:Int)),(13,di (↑0:Int))]) ba)) ⟨fun h=>?_,fun h=>⟨by simp,rfl,⟨?_⟩⟩⟩
 ·have h:I a≠b.length:=by grind
  rw[HM fun e=>h (by rw[e])]
 ·exact Agj a b ha (by grind) _ 0 rfl
theorem Ec{α:Type}{ls:List (List α)}{k:Nat}(hk:k<I ls):(ls.take (k+1)).flatten=(ls.take k).flatten++ls[k]:=by
 grind[List.take_succ_eq_append_getElem]
theorem GA{α:Type}(ls:List (List α))(k:Nat):(ls.take k).flatten.length<=I ls.flatten:=by
 grind[List.take_append_drop]
theorem NZ{α β:Type}{e:α->V}{f:β->V}{a:List α}{b:List β}{by':Nat}(h:I a+I b<=2000000)(hb:by'<=10000):Ao (I (a.map e)+I (b.map f)) by':=by
 rw[HH,HH]
 have:(I a+I b)*by'<=2000000*10000:=Nat.mul_le_mul h hb
 omega
abbrev cw(l:List Int):V:=.list (l.map vi)
abbrev cx(l:List Int):D:=.v (cw l)
abbrev cb(l:List Int):List D:=l.map di
theorem UB(l:List Int):∀y∈l.map vi,y.size=1:=by simp[V.size]
theorem Ajh(l:List Int):Ab (l.map vi)=cb l:=by
 unfold Ab cb
 induction l<;>grind[V.cellsV]
theorem BB(n:Nat)(ts:List Nat):∀l:List Int,D.okNs n ts (cb l)=J
 |[]=>rfl
 |x::l=>by exact BB n ts l
theorem Afs(l:List Int):cm 2 [] [none,G ([]++cb l)]=J:=by simp[cm,BB]
noncomputable abbrev vx:=Tryz.f66
theorem No(l:List Int)(hl:I l<=1000000):F0 66 [cx l] (cx l):=by
 by_cases h:l=[]
 ·subst h
  refine U7 (ds:=[]) (ds':=[]) fun a cap=>?_
  cases a with
  |none=>
   refine sv vx 8 [] .r (bt (ai [])=cx []) ?_
   rfl
  |some a=>
   refine sv vx 8 [] (.a 1<|.h (.q 3 2)<|.h (.un 6)<|.r) (Q nV/\Ao 0 8/\bt (ai [])=cx []) ?_
   grind
 ·refine sv vx 8 [] (.a 1<|.w .r) (U vi l≠ []/\Q nV/\Ao (I nV+I (U vi l)) 8/\(∀(y:V),y∈U vi l->V.size y=1)/\bt (ai ([]++U vi l))=cx l) ?_
  grind[V.size]
theorem Ox(l:List Int)(hl:I l<=1000000)(h:l≠ []):Aa PP 66 [cx l] ba (.arr 1 0 (I l)) ⟨[none,G (cb l)],[]⟩:=by
 refine sv vx 8 [] (.h .g<|.h (.q 3 3)<|.h (.ga 7) .ro) (U vi l≠ []/\Q 0/\U vi l≠ []/\(∀(y:V),y∈U vi l->V.size y=1)/\Ao (0+I (U vi l)) 8/\cm 2 [] [none,G ([]++Ab (U vi l))]=J/\[none,G ([]++Ab (U vi l))]=[none,G (cb l)]/\bo 1 0 (0+I (U vi l))=bo 1 0 (I l)) ?_
 grind[Ajh,Afs,V.size]
theorem Ae5(l:List (List UInt8)):∀y∈l.map ae,y.size=1:=by simp[V.size]
noncomputable abbrev Ap9:=Tryz.f246
noncomputable abbrev iw:=(br 1 [])
theorem AfT(n:Nat)(hn:n<=1000000):Aa PP 246 [.v .nils,di n] ba (.acc 1 []) ⟨[],[(1,1,[])]⟩:=by
 have h1:yt.wrap (0-0)=0:=by decide
 by_cases h:n=0
 ·subst h
  refine sv Ap9 27 [] (.f<|.f<|.h (.q 6 0)<|.h (.nw 0 1 1) .r) (Y ((↑0:Int)<0)=O/\Y (yu yt ((↑0:Int)-yu yt (0-0))>0)=O/\Q [(1,1,nV)]/\Q iw) ?_
  grind
 ·refine sv Ap9 27 [] (.f<|.t<|.a 1 .r) (Y ((n:Int)<0)=O/\Y (yu yt ((n:Int)-yu yt (0-0))>0)=J/\iz 0=0/\0<yu yt ((n:Int)-yu yt (0-0))/\Ao (Z (yu yt ((n:Int)-yu yt (0-0)))) 16/\iz 0=0/\Q [(1,1,nV)]/\Q iw) ?_
  grind[Ak]
noncomputable abbrev om:=Tryz.f195
noncomputable def YN:=yl om
abbrev Qs(ls:List (List (List UInt8))):List V:=ls.map fun l=>.list (l.map ae)
noncomputable abbrev ib:=[1,1,1,1,0,1,0,0]
noncomputable abbrev kh:=fun a₀=>(ai (U ae a₀))
noncomputable abbrev wu:=fun a₀=>(bh [] [(1,1,U ae (flatten a₀))])
theorem XQ(ls:List (List (List UInt8)))(hl:I ls<=1000)(ht:I ls.flatten<=1000000)(n:Nat):∀k:Nat,I ls-k=n->
  Rn PP om 0 (.acc 1 (ls.flatten.map ae)) ⟨[],[(1,1,ls.flatten.map ae)]⟩ ([kl YN [1,1,1,1,0,1,0,0],.blk 2,kc YN [1,1,1,1,1]]++[]) (cy 36 [(0,dl (Qs ls)),(6,.acc 1 ((ls.take k).flatten.map ae)),(25,dl (Qs ls)),(26,di (I ls)),(27,di k)]) ⟨[],[(1,1,(ls.take k).flatten.map ae)]⟩:=by
 induction n using Nat.strongRecOn with
 |_ n ih=>
 intro k hn
 refine lv 36 [] (.b (.e fun x:List (List UInt8)=>.x (.list (x.map ae))<|.w<|.ls [ke 0,ch 6 (.acc 1 ((ls.take (k+1)).flatten.map ae)),ke 25,ke 26,ch 27 (di (k+1:Nat))] ⟨[],[(1,1,(ls.take (k+1)).flatten.map ae)]⟩) .r) ((Y ((k:Int)<(I ls:Int))=J->∃a,0<=(k:Int)/\(Qs ls)[Z (k:Int)]?=G (kh a)/\U ae (flatten (take k ls))=U ae (flatten (take k ls))/\Ao (I (U ae (flatten (take k ls)))+I (U ae a)) 16/\(∀(y:V),y∈U ae a->V.size y=1)/\br 1 (U ae (flatten (take k ls))++U ae a)=br 1 (U ae (flatten (take (k+1) ls)))/\di (yu yt ((k:Int)+1))=di (↑(k+1):Int)/\[(1,1,U ae (flatten (take k ls))++U ae a)]=[(1,1,U ae (flatten (take (k+1) ls)))]/\Nv.It (A2 (CN 0) PP (fun env σ1=>AA PP om env σ1 (br 1 (U ae (flatten ls))) (wu ls)) [kl YN ib,bf 2,kc YN [1,1,1,1,1]] (cy 36 [(0,bt (ai (Qs ls))),(6,br 1 (U ae (flatten (take (k+1) ls)))),(25,bt (ai (Qs ls))),(26,di (I ls:Int)),(27,di (↑(k+1):Int))]) (bh [] [(1,1,U ae (flatten (take (k+1) ls)))])))/\(Y ((k:Int)<(I ls:Int))=O->[(1,1,U ae (flatten (take k ls)))]=[(1,1,U ae (flatten ls))]/\br 1 (U ae (flatten (take k ls)))=br 1 (U ae (flatten ls)))) ⟨fun h=>?_,fun h=>?_⟩
 ·have hk:k<I ls:=by simpa using h
  have hx:ls[k]?=G ls[k]:=HI hk
  have hf:=Ec hk
  have hle:=GA ls (k+1)
  have hih:=ih (I ls- (k+1)) (by omega) (k+1) rfl
  rw[hf] at hle hih⊢
  generalize ls[k]=x at hx hle hih⊢
  simp only[HW] at hle
  refine⟨x,by omega,by simp[hx],rfl,NZ (by omega) (by decide),Ae5 x,by simp,Ae,by simp,⟨hih⟩⟩
 grind[List.take_of_length_le]
noncomputable abbrev sf:=(bh [] [(1,1,[])])
theorem XR(ls:List (List (List UInt8)))(hl:I ls<=1000)(ht:I ls.flatten<=1000000)(n:Nat):∀k:Nat,I ls-k=n->
  Rn PP om 0 (.acc 1 (ls.flatten.map ae)) ⟨[],[(1,1,ls.flatten.map ae)]⟩ ([kl YN [1,1,0,1,0,0],.blk 0,kc YN [1,1,1]]++[]) (cy 36 [(0,dl (Qs ls)),(3,di ((ls.take k).flatten.length:Nat)),(9,dl (Qs ls)),(10,di (I ls)),(11,di k)]) ba:=by
 induction n using Nat.strongRecOn with
 |_ n ih=>
 intro k hn
 refine lv 36 [] (.b (.e fun x:List (List UInt8)=>.x (.list (x.map ae))<|.f<|.l [ke 0,ch 3 (di ((ls.take (k+1)).flatten.length:Nat)),ke 9,ke 10,ch 11 (di (k+1:Nat))]) (.h (.ckn 1 1 1 [])<|.ls [ke 0,ch 6 (.acc 1 ((ls.take 0).flatten.map ae)),ke 25,ch 26 (di (I ls)),ch 27 (di (0:Nat))] ⟨[],[(1,1,(ls.take 0).flatten.map ae)]⟩)) ((Y ((k:Int)<(I ls:Int))=J->∃a,0<=(k:Int)/\(Qs ls)[Z (k:Int)]?=G (kh a)/\Y (yu yt ((I (flatten (take k ls)):Int)+(I (U ae a):Int))<0)=O/\di (yu yt ((I (flatten (take k ls)):Int)+(I (U ae a):Int)))=di (I (flatten (take (k+1) ls)):Int)/\di (yu yt ((k:Int)+1))=di (↑(k+1):Int)/\Nv.It (A2 (CN 0) PP (fun env σ1=>AA PP om env σ1 (br 1 (U ae (flatten ls))) (wu ls)) [kl YN ee,bf 0,kc YN [1,1,1]] (cy 36 [(0,bt (ai (Qs ls))),(3,di (I (flatten (take (k+1) ls)):Int)),(9,bt (ai (Qs ls))),(10,di (I ls:Int)),(11,di (↑(k+1):Int))]) ba))/\(Y ((k:Int)<(I ls:Int))=O->Aa PP 246 [dn,di (I (flatten (take k ls)):Int)] d6 iw sf/\Q iw/\di (I (Qs ls):Int)=di (I ls:Int)/\di 0=di (↑0:Int)/\Q [(1,1,nV)]/\I0 om 0 (br 1 (U ae (flatten ls))) (wu ls) [kl YN ib,bf 2,kc YN [1,1,1,1,1]] (cy 36 [(0,bt (ai (Qs ls))),(6,br 1 []),(25,bt (ai (Qs ls))),(26,di (I ls:Int)),(27,di (↑0:Int))]) sf)) ⟨fun h=>?_,fun h=>?_⟩
 ·have hk:k<I ls:=by grind
  have hx:ls[k]?=G ls[k]:=HI hk
  have hf:=Ih I (Ec hk)
  rw[HW] at hf
  have hle:=GA ls (k+1)
  generalize ls[k]=x at hx hf⊢
  have h2:yt.wrap ((((ls.take k).flatten.length:Nat):Int)+(I (x.map ae):Int))=(((ls.take (k+1)).flatten.length:Nat):Int):=by rw[Ak (by omega) (by grind),hf];simp
  refine⟨x,by omega,by simp[hx],by grind,by rw[h2],Ae,⟨?_⟩⟩
  grind
 ·have hk:I ls<=k:=by grind
  rw[Im hk]
  refine⟨AfT (I ls.flatten) ht,rfl,by simp,rfl,rfl,⟨?_⟩⟩
  exact XQ ls hl ht _ 0 rfl
theorem Ac0(ls:List (List (List UInt8)))(hl:I ls<=1000)(ht:I ls.flatten<=1000000):Aa PP 195 [dl (Qs ls)] ba (.acc 1 (ls.flatten.map ae)) ⟨[],[(1,1,ls.flatten.map ae)]⟩:=by
 refine sv om 36 [] (.l [ke 0,ch 3 (di ((ls.take 0).flatten.length:Nat)),ke 9,ch 10 (di (I ls)),ch 11 (di (0:Nat))]) (Q (di 0)/\di (I (Qs ls):Int)=di (I ls:Int)/\Q (di 0)/\I0 om (I ba.H) (br 1 (U ae (flatten ls))) (wu ls) [kl YN ee,bf 0,kc YN [1,1,1]] (cy 36 [(0,dl (Qs ls)),(3,di (I (flatten (take 0 ls)):Int)),(9,dl (Qs ls)),(10,di (I ls:Int)),(11,di (↑0:Int))]) ba) ⟨rfl,by simp,rfl,⟨?_⟩⟩
 exact XR ls hl ht _ 0 rfl
structure Tk where
 place:Int
 low:Int
 high:Int
 deriving DecidableEq,Inhabited
abbrev dj(t:Tk):V:=.agg [vi t.place,vi t.low,vi t.high]
abbrev AD(l:List Tk):V:=.list (l.map dj)
structure cf where
 name:List UInt8
 aj:Int
 to:Int
 am:List Int
 ak:List Int
 move:List Int
 chan:Int
 act:Int
 letter:Int
 path:List Int
 next:List Int
 ar:List Tk
 aq:List Int
 second:Int
 deriving DecidableEq,Inhabited
abbrev Al(r:cf):V:=.agg [.str r.name,vi r.aj,vi r.to,cw r.am,cw r.ak,cw r.move,vi r.chan,vi r.act,vi r.letter,cw r.path,cw r.next,AD r.ar,cw r.aq,vi r.second]
abbrev BE(l:List cf):V:=.list (l.map Al)
abbrev cp(l:List (List UInt8)):V:=.list (l.map ae)
structure cz where
 kind:Int
 aw:List (List UInt8)
 ay:List (List UInt8)
 ax:List (List UInt8)
 au:List Int
 ao:Int
 age:Int
 av:List cf
 start:b9
 deriving Inhabited
abbrev A1(m:cz):V:=.agg [vi m.kind,cp m.aw,cp m.ay,cp m.ax,cw m.au,vi m.ao,vi m.age,BE m.av,vi m.start.n,dt m.start.az]
abbrev Ad(m:cz):D:=.v (A1 m)
abbrev BO(r:cf):D:=.v (Al r)
def A4(x a b:Int):Bool:=Y (a<=x)&&Y (x<=b)
noncomputable abbrev AoT:=Tryz.f142
theorem EN(x a b:Int):F0 142 [di x,di a,di b] (db (A4 x a b)):=by
 refine sv AoT 15 [] (.b .r .r) ((Y (x>=a)=J->db (Y (x<=b))=db (A4 x a b))/\(Y (x>=a)=O->db O=db (A4 x a b))) ?_
 grind[A4]
noncomputable abbrev Ajp:=Tryz.f198
theorem Eb(x:Int)(n:Nat)(hn:n<=1000000):F0 198 [di x,di n] (db (A4 x 0 (n-1))):=by
 refine sv Ajp 9 [] (.c (db (A4 x 0 (n-1))) .r) (F0 142 [di x,di 0,di (yu yt ((n:Int)-1))] (db (A4 x 0 ((n:Int)-1)))/\Q (db (A4 x 0 ((n:Int)-1)))) ?_
 grind[Ak,EN]
noncomputable abbrev AoC:=Tryz.f204
noncomputable abbrev Amo:=Tryz.f258
theorem Xr(F:yx)(fs cs:List V)(p:Int->Bool)(x:Int)(hp:F0 F ((fs++[vi x]++cs).map .v) (db (p x))):F0 258 [di x,.v (.ref (.fn F fs cs))] (db (!p x)):=by
 refine sv Amo 8 [] (.c (db (p x)) .r) (F0 F (U bt (fs++[vi x]++cs)) (db (p x))/\(db !p x)=db !p x) ?_
 grind
theorem JQ(F:yx)(fs cs:List V)(p:Int->Bool)(l:List Int)(hl:I l<=1000000)(hp:∀x∈l,F0 F ((fs++[vi x]++cs).map .v) (db (p x))):F0 204 [cx l,.v (.fn F fs cs)] (db (l.all p)):=by
 refine sv AoC 9 [3] (.c (db (l.any fun x=> !p x)) .r) (F0 96 [cx l,bt (bw 258 [] [bz (bw F fs cs)])] (db (List.any l fun x=> !p x))/\(db !List.any l fun x=> !p x)=db (List.all l p)) ?_
 refine⟨Dh _ [] _ (fun x=> !p x) l hl fun x hx=>Xr F fs cs p x (hp x hx),?_⟩
 grind
noncomputable abbrev Aqk:=Tryz.f199
noncomputable abbrev AoS:=Tryz.f251
abbrev DI(x:Int):Bool:=A4 x 0 16
theorem RK(x:Int):F0 251 [di x] (db (DI x)):=by
 refine sv AoS 5 [] (.c (db (DI x)) .r) (F0 142 [di x,di 0,di 16] (db (DI x))/\Q (db (DI x))) ?_
 grind[EN]
structure cf.short(r:cf):Prop where
 am:I r.am<=1000000
 ak:I r.ak<=1000000
 move:I r.move<=1000000
 path:I r.path<=1000000
 next:I r.next<=1000000
 ar:I r.ar<=1000000
 aq:I r.aq<=1000000
def Ci(m:cz)(r:cf):Bool:=((I r.am:Int)==I m.ay)&&(((I r.ak:Int)==I m.ay)&&(r.am.all DI&&r.ak.all DI))
noncomputable abbrev df:=fun a₀=>(U ae a₀)
noncomputable abbrev cc:=fun a₀=>(U vi a₀)
noncomputable abbrev Au7:=fun a₀=>F0 204 [cx a₀,bt (bw 251 [] [])] (db (List.all a₀ DI))
theorem AgC(m:cz)(r:cf)(hr:r.short):F0 199 [Ad m,BO r] (db (Ci m r)):=by
 refine sv Aqk 34 [2,3] (.b (.b (.c (db (r.am.all DI))<|.b (.c (db (r.ak.all DI)) .r) .r) .r) .r) ((((I (cc r.am):Int)==(I (df m.ay):Int))=J->(((I (cc r.ak):Int)==(I (df m.ay):Int))=J->Au7 r.am/\(List.all r.am DI=J->Au7 r.ak/\db (List.all r.ak DI)=db (Ci m r))/\(List.all r.am DI=O->db O=db (Ci m r)))/\(((I (cc r.ak):Int)==(I (df m.ay):Int))=O->db O=db (Ci m r)))/\(((I (cc r.am):Int)==(I (df m.ay):Int))=O->db O=db (Ci m r))) ?_
 refine⟨fun h1=>⟨fun h2=>⟨JQ _ [] [] DI _ hr.am fun x _=>RK x,fun h3=>⟨JQ _ [] [] DI _ hr.ak fun x _=>RK x,?_⟩,fun h3=>?_⟩,fun h2=>?_⟩,fun h1=>?_⟩<;>(simp only[HH] at*;simp[Ci, *])
noncomputable abbrev Aqd:=Tryz.f200
noncomputable abbrev AoA:=Tryz.f252
theorem Abd(n:Nat)(hn:n<=1000000)(x:Int):F0 252 [di x,.v (.ref (vi n))] (db (A4 x (-1) (n-1))):=by
 refine sv AoA 8 [] (.c (db (A4 x (-1) (n-1))) .r) (F0 142 [di x,di (-1),di (yu yt ((n:Int)-1))] (db (A4 x (-1) ((n:Int)-1)))/\Q (db (A4 x (-1) ((n:Int)-1)))) ?_
 grind[Ak,EN]
def Eo(m:cz)(r:cf):Bool:=((I r.move:Int)==0)||(((I r.move:Int)==I m.ay)&&r.move.all fun x=>A4 x (-1) (I m.ay-1))
theorem Afz(m:cz)(hm:I m.ay<=1000000)(r:cf)(_:r.short):F0 200 [Ad m,BO r] (db (Eo m r)):=by
 refine sv Aqd 26 [2,3] (.h (.q 2 0)<|.h (.f1 0 [5])<|.b .r (.b (.c (db (r.move.all fun x=>A4 x (-1) (I m.ay-1))) .r) .r)) ((((I (cc r.move):Int)==0)=J->db J=db (Eo m r))/\(((I (cc r.move):Int)==0)=O->(((I (cc r.move):Int)==(I (df m.ay):Int))=J->F0 204 [cx r.move,bt (bw 252 [] [bz (vi (I (df m.ay):Int))])] (db (List.all r.move fun x=>A4 x (-1) ((I m.ay:Int)-1)))/\db (List.all r.move fun x=>A4 x (-1) ((I m.ay:Int)-1))=db (Eo m r))/\(((I (cc r.move):Int)==(I (df m.ay):Int))=O->db O=db (Eo m r)))) ?_
 grind[JQ,Abd,Eo]
noncomputable abbrev AoU:=Tryz.f201
def Eu(m:cz)(r:cf):Bool:=if (r.act==0)=J then(r.chan==0)&&(r.letter==0) else A4 r.act 1 2&&(A4 r.chan 0 (I m.ay-1)&&A4 r.letter 0 (I m.ax-1))
noncomputable abbrev Ary:=fun a₀ b₀=>F0 198 [di a₀,di (I (df b₀):Int)] (db (A4 a₀ 0 ((I b₀:Int)-1)))
theorem Adb(m:cz)(hm:I m.ay<=1000000)(hl:I m.ax<=1000000)(r:cf):F0 201 [Ad m,BO r] (db (Eu m r)):=by
 refine sv AoU 35 [2,3] (.b (.b .r .r) (.c (db (A4 r.act 1 2))<|.b (.c (db (A4 r.chan 0 (I m.ay-1)))<|.b (.c (db (A4 r.letter 0 (I m.ax-1))) .r) .r) .r)) (((r.act==0)=J->((r.chan==0)=J->db (r.letter==0)=db (Eu m r))/\((r.chan==0)=O->db O=db (Eu m r)))/\((r.act==0)=O->F0 142 [di r.act,di 1,di 2] (db (A4 r.act 1 2))/\(A4 r.act 1 2=J->Ary r.chan m.ay/\(A4 r.chan 0 ((I m.ay:Int)-1)=J->Ary r.letter m.ax/\db (A4 r.letter 0 ((I m.ax:Int)-1))=db (Eu m r))/\(A4 r.chan 0 ((I m.ay:Int)-1)=O->db O=db (Eu m r)))/\(A4 r.act 1 2=O->db O=db (Eu m r)))) ?_
 grind[EN,Eb,Eu]
noncomputable abbrev ApB:=Tryz.f260
theorem AbX(a:List Tk):F0 260 [.v (AD a),.v (AD [])] (db (Y (a=[]))):=by
 refine sv ApB 26 [] (.b .r (.n<|.f .r)) ((((I (U dj a):Int) !=(I (U dj []):Int))=J->db O=db (Y (a=[])))/\(((I (U dj a):Int) !=(I (U dj []):Int))=O->Y (0<(I (U dj a):Int))=O/\db J=db (Y (a=[])))) ?_
 simp_all
def Ch(a b:cf):Bool:=(a.name==b.name)&&((a.aj==b.aj)&&((a.to==b.to)&&(Y (a.am=b.am)&&(Y (a.ak=b.ak)&&(Y (a.move=b.move)&&((a.chan==b.chan)&&((a.act==b.act)&&((a.letter==b.letter)&&(Y (a.path=b.path)&&(Y (a.next=b.next)&&(Y (a.ar=[])&&(Y (a.aq=b.aq)&&(a.second==b.second)))))))))))))
noncomputable abbrev Ama:=Tryz.f206
theorem Q6(a b:cf)(ha:a.short)(hb:b.ar=[]):F0 206 [BO a,BO b] (db (Ch a b)):=by
 refine sv Ama 101 [2,3] (.b (.b (.b (.c (db (Y (a.am=b.am)))<|.b (.c (db (Y (a.ak=b.ak)))<|.b (.c (db (Y (a.move=b.move)))<|.b (.b (.b (.b (.c (db (Y (a.path=b.path)))<|.b (.c (db (Y (a.next=b.next)))<|.b (.c (db (Y (a.ar=[])))<|.b (.c (db (Y (a.aq=b.aq)))<|.b .r .r) .r) .r) .r) .r) .r) .r) .r) .r) .r) .r) .r) .r) (((a.name==b.name)=J->((a.aj==b.aj)=J->((a.to==b.to)=J->F0 259 [cx a.am,cx b.am] (db (Y (a.am=b.am)))/\(Y (a.am=b.am)=J->F0 259 [cx a.ak,cx b.ak] (db (Y (a.ak=b.ak)))/\(Y (a.ak=b.ak)=J->F0 259 [cx a.move,cx b.move] (db (Y (a.move=b.move)))/\(Y (a.move=b.move)=J->((a.chan==b.chan)=J->((a.act==b.act)=J->((a.letter==b.letter)=J->F0 259 [cx a.path,cx b.path] (db (Y (a.path=b.path)))/\(Y (a.path=b.path)=J->F0 259 [cx a.next,cx b.next] (db (Y (a.next=b.next)))/\(Y (a.next=b.next)=J->F0 260 [bt (AD a.ar),bt (AD b.ar)] (db (Y (a.ar=[])))/\(Y (a.ar=[])=J->F0 259 [cx a.aq,cx b.aq] (db (Y (a.aq=b.aq)))/\(Y (a.aq=b.aq)=J->db (a.second==b.second)=db (Ch a b))/\(Y (a.aq=b.aq)=O->db O=db (Ch a b)))/\(Y (a.ar=[])=O->db O=db (Ch a b)))/\(Y (a.next=b.next)=O->db O=db (Ch a b)))/\(Y (a.path=b.path)=O->db O=db (Ch a b)))/\((a.letter==b.letter)=O->db O=db (Ch a b)))/\((a.act==b.act)=O->db O=db (Ch a b)))/\((a.chan==b.chan)=O->db O=db (Ch a b)))/\(Y (a.move=b.move)=O->db O=db (Ch a b)))/\(Y (a.ak=b.ak)=O->db O=db (Ch a b)))/\(Y (a.am=b.am)=O->db O=db (Ch a b)))/\((a.to==b.to)=O->db O=db (Ch a b)))/\((a.aj==b.aj)=O->db O=db (Ch a b)))/\((a.name==b.name)=O->db O=db (Ch a b))) ?_
 repeat' first|with_reducible refine And.intro ?_ ?_|intro _
 all_goals first|exact Er _ _ ha.am|exact Er _ _ ha.ak|exact Er _ _ ha.move|exact Er _ _ ha.path|exact Er _ _ ha.next|exact Er _ _ ha.aq|(rw[hb];exact AbX _)|simp[Ch, *]
def QV(r:cf):cf:={ name:=r.name,aj:=r.aj,to:=r.to,am:=r.am,ak:=r.ak,move:=r.move,chan:=0,act:=0,letter:=0,path:=[],next:=[],ar:=[],aq:=[],second:=0 }
def M4(r:cf):cf:={ name:=r.name,aj:=r.aj,to:=r.to,am:=[],ak:=[],move:=[],chan:=r.chan,act:=r.act,letter:=r.letter,path:=[],next:=[],ar:=[],aq:=[],second:=0 }
noncomputable abbrev AbI:=Tryz.f147
def E6(m:cz)(r:cf):Bool:=A4 r.to 0 (I m.aw-1)&&(A4 r.aj 0 (I m.aw-1)&&(Ci m r&&(Eo m r&&Ch r (QV r))))
structure cz.short(m:cz):Prop where
 aw:I m.aw<=1000000
 ay:I m.ay<=1000000
 ax:I m.ax<=1000000
 au:I m.au<=1000000
 av:I m.av<=1000000
 rule:∀r∈m.av,r.short
theorem SO(m:cz)(hm:m.short)(hk:m.kind=1)(r:cf)(hr:r.short):F0 147 [Ad m,BO r] (db (E6 m r)):=by
 refine sv AbI 142 [2,3] (.c (db (A4 r.to 0 (I m.aw-1)))<|.b .r<|.c (db (A4 r.aj 0 (I m.aw-1)))<|.b (.t .r)<|.k<|.t<|.c (db (Ci m r))<|.b (.c (db (Eo m r))<|.b (.c (db (Ch r (QV r))) .r) .r) .r) (F0 198 [di r.to,di (I (U ae m.aw):Int)] (db (A4 r.to 0 ((I m.aw:Int)-1)))/\((!A4 r.to 0 ((I m.aw:Int)-1))=J->db O=db (E6 m r))/\((!A4 r.to 0 ((I m.aw:Int)-1))=O->F0 198 [di r.aj,di (I (U ae m.aw):Int)] (db (A4 r.aj 0 ((I m.aw:Int)-1)))/\((!A4 r.aj 0 ((I m.aw:Int)-1))=J->(m.kind !=6)=J/\db O=db (E6 m r))/\((!A4 r.aj 0 ((I m.aw:Int)-1))=O->(m.kind==1)=J/\F0 199 [Ad m,BO r] (db (Ci m r))/\(Ci m r=J->F0 200 [Ad m,BO r] (db (Eo m r))/\(Eo m r=J->F0 206 [BO r,bt (ab [ae r.name,vi r.aj,vi r.to,cw r.am,cw r.ak,cw r.move,vi 0,vi 0,vi 0,ai [],ai [],ai [],ai [],vi 0])] (db (Ch r (QV r)))/\db (Ch r (QV r))=db (E6 m r))/\(Eo m r=O->db O=db (E6 m r)))/\(Ci m r=O->db O=db (E6 m r))))) ?_
 repeat' first|with_reducible refine And.intro ?_ ?_|intro _
 all_goals first|(simpa using Eb _ _ hm.aw)|exact AgC m r hr|exact Afz m hm.ay r hr|exact Q6 r (QV r) hr rfl|simp_all [E6]
def Fx(m:cz)(r:cf):Bool:=A4 r.to 0 (I m.aw-1)&&(A4 r.aj 0 (I m.aw-1)&&(Eu m r&&Ch r (M4 r)))
theorem SN(m:cz)(hm:m.short)(hk:m.kind=2∨m.kind=3)(r:cf)(hr:r.short):F0 147 [Ad m,BO r] (db (Fx m r)):=by
 refine sv AbI 142 [2,3] (.c (db (A4 r.to 0 (I m.aw-1)))<|.b .r<|.c (db (A4 r.aj 0 (I m.aw-1)))<|.b (.t .r)<|.k<|.f<|.b (.k<|.c (db (Eu m r))<|.b (.c (db (Ch r (M4 r))) .r) .r) (.t<|.c (db (Eu m r))<|.b (.c (db (Ch r (M4 r))) .r) .r)) (F0 198 [di r.to,di (I (U ae m.aw):Int)] (db (A4 r.to 0 ((I m.aw:Int)-1)))/\((!A4 r.to 0 ((I m.aw:Int)-1))=J->db O=db (Fx m r))/\((!A4 r.to 0 ((I m.aw:Int)-1))=O->F0 198 [di r.aj,di (I (U ae m.aw):Int)] (db (A4 r.aj 0 ((I m.aw:Int)-1)))/\((!A4 r.aj 0 ((I m.aw:Int)-1))=J->(m.kind !=6)=J/\db O=db (Fx m r))/\((!A4 r.aj 0 ((I m.aw:Int)-1))=O->(m.kind==1)=O/\((m.kind==2)=J->F0 201 [Ad m,BO r] (db (Eu m r))/\(Eu m r=J->F0 206 [BO r,bt (ab [ae r.name,vi r.aj,vi r.to,ai [],ai [],ai [],vi r.chan,vi r.act,vi r.letter,ai [],ai [],ai [],ai [],vi 0])] (db (Ch r (M4 r)))/\db (Ch r (M4 r))=db (Fx m r))/\(Eu m r=O->db O=db (Fx m r)))/\((m.kind==2)=O->(m.kind==3)=J/\F0 201 [Ad m,BO r] (db (Eu m r))/\(Eu m r=J->F0 206 [BO r,bt (ab [ae r.name,vi r.aj,vi r.to,ai [],ai [],ai [],vi r.chan,vi r.act,vi r.letter,ai [],ai [],ai [],ai [],vi 0])] (db (Ch r (M4 r)))/\db (Ch r (M4 r))=db (Fx m r))/\(Eu m r=O->db O=db (Fx m r)))))) ?_
 repeat' first|with_reducible refine And.intro ?_ ?_|intro _
 all_goals first|(simpa using Eb _ _ hm.aw)|exact Adb m hm.ay hm.ax r|exact Q6 r (M4 r) hr rfl|(rcases hk with hk|hk<;>simp_all [Fx])
end Go.Proofs.YtkkplhjidondkaaGreat

namespace Go.Nv
open Go.Dv
open Go.IntKind (u64)
open Go.IntKind renaming wrap → yu, i64 → yt
open List renaming length → I, map → U, drop → W
open Option renaming some → G
open Bool renaming true → J, false → O
open Decidable renaming decide → Y
open Int renaming toNat → Z
open Go.Dv.V renaming list → ai, str → ae, agg → ab, int → aa, ref → bz, fn → bw, nils → bv, bool → bu
open Go.Dv.D renaming v → bt, acc → br, ptr → bq, arr → bo, gro → bm, tup → bk, undef → bj, dagg → bi
open Go.Dv.St renaming mk → bh
open Go.Dv.KI renaming blk → bf
open _root_.ByteArray renaming mk → bc
open Go renaming Operand → x8, Program → x7, TypeId → x6, World → x5, Value → yz, Oper → yy, FuncId → yx, Func → yw, IntKind → yv
abbrev CS(m r:Nat)(l:List (List UInt8))(E0 E:cd):Prop:=ue r (Dq l) E0 E/\E.g.n<=m
theorem AlK(m r:Nat)(l:List (List UInt8)):N1 (CS m r l):=⟨fun h _ _ _ hw=>h.1.link _ _ _ hw⟩
section
variable {P : x7} {R : List D -> St -> Prop} {k : List KI} {env : List D} {σ : St} {ops : Array yy} {L : List yy} {o : yy}
theorem WN{m:Nat}(t:Nat){ty:x6}(hg:BV env ops o=G true)(ht:o.dst=G t)(hop:o.op=.makeMap ty none)
  (hk:∀r:Nat,Cg (CS (I σ.H) r []) P R k ops L (env.set t (.raw (.map (G r)))) σ):Cg (CN m) P R k ops (o::L) env σ:=by
 intro E0 E g a w B hC hf hB
 unfold wpList
 rw[Ie (CG hf.env hg)]
 refine .inl ?_
 have hw:=(N8 m).ok hC hf.wi
 have hput:=hf.put (hf.wi.alloc (.map #[] 0)) g.le_refl (d:=.raw (.map (G w.heap.size))) (u:=.map (G w.heap.size)) (by rfl) (G t)
 have hsize:(w.alloc (.map #[] 0)).heap.size=w.heap.size+1:=by simp
 obtain⟨h1,h2⟩:=ue.of (r:=w.heap.size) (ob:=.map #[] 0) (w1:=w.alloc (.map #[] 0)) hw
  (fun b hb=>by
   grind[World.alloc])
  (heap_alloc_new w _) (by omega) rfl rfl rfl hw.size (hw.rep.new_none (HP _)) (fun i cs hi=>Nat.ne_of_lt (hw.rep.obj_lt hi)) (fun x hx u hu hb=>by have:=hw.rep.own_lt hx hu hb;omega)
 have:=hk w.heap.size E0 _ g _ _ B ⟨h1,Nat.le_of_eq hw.rep.n⟩ ⟨h2,hput.env,hput.defers⟩ hB
 unfold Oper.wp execOp
 simpa[hop,Instr.makeMap,ht,Oper.upon] using this
theorem Aah{m:Nat}(t sm sk:Nat){ty kt et:x6}{r:Nat}{s:List UInt8}{l:List (List UInt8)}{inf:TypeInfo}(hg:BV env ops o=G true)(ht:o.dst=G t)(hop:o.op=.lookup ty (.tmp sm) (.tmp sk) false)
  (hty:P.underlying ty=G (.map kt et)) (hkt:P.underlying kt=G .string) (hi:P.info? et=G inf) (hz:inf.zero=G (.bool false)) (hm:env[sm]?=G (.raw (.map (G r)))) (hs:env[sk]?=G (.v (.str s)))
  (hk:Cg (CS m r l) P R k ops L (env.set t (.v (.bool (l.contains s)))) σ):Cg (CS m r l) P R k ops (o::L) env σ:=by
 intro E0 E g a w B hC hf hB
 unfold wpList
 rw[Ie (CG hf.env hg)]
 refine .inl ?_
 have e1:a.eval (.tmp sm)=.map (G r):=by have:=Ge hf.env sm;grind[VI,Ag]
 have e2:a.eval (.tmp sk)=.string ⟨s.toArray⟩:=by have:=Ge hf.env sk;grind[VI,Ag,Dr]
 have hnow:=(hC.1.side.now hf.wi).1
 obtain⟨q,hq⟩:=PE s l 0 0
 have:=hk E0 E g _ _ B hC (hf.put hf.wi g.le_refl (d:=.v (.bool (l.contains s))) (u:=.bool (l.contains s)) (by simp[Ag]) (G t)) hB
 have hrun:(Instr.lookup ty (.map (G r)) (.string ⟨s.toArray⟩) false).run P w=.ok (.bool (l.contains s)) w:=by
  have hget:(getObj r).run P w=.ok (Dq l) w:=by grind[getObj,Sem.run,Dq]
  have hfk:(Instr.findKey kt (.string ⟨s.toArray⟩) (GK 0 l)).run P w=.ok (if l.contains s then G (q,.bool true) else none) w:=by simp only[Instr.findKey,Sem.run_bind,run_underlying hkt,Result.andThen_ok,hq,Sem.run_pure]
  have hck:∀b,(Instr.checkKey b 10000 kt (.string ⟨s.toArray⟩)).run P w=.ok () w:=fun b=>by
   rw[show(10000:Nat)=9999+1 from rfl];unfold Instr.checkKey;simp[run_underlying hkt]
  unfold Instr.lookup
  simp only[Sem.run_bind,run_underlying hty,Result.andThen_ok,hget,Dq,Sem.run_pure,hck,hfk]
  cases hc:l.contains s with
  |true=>simp
  |false=>simp[zeroValue,typeInfo,hi,hz]
 grind[Oper.wp,execOp,Sem.run_bind,Result.andThen_ok,Sem.run_pure,Oper.upon]
theorem Aag{m:Nat}(sm sk:Nat){v:x8}{ty kt et:x6}{r:Nat}{s:List UInt8}{l:List (List UInt8)}(hg:BV env ops o=G true)(ht:o.dst=none)(hop:o.op=.mapUpdate ty (.tmp sm) (.tmp sk) v)(hv:gr env v=.v (.bool true))
  (hty:P.underlying ty=G (.map kt et)) (hkt:P.underlying kt=G .string) (hm:env[sm]?=G (.raw (.map (G r)))) (hs:env[sk]?=G (.v (.str s))) (hnew:l.contains s=O)
  (hk:Cg (CS (I σ.H) r (l++[s])) P R k ops L env σ):Cg (CS m r l) P R k ops (o::L) env σ:=by
 intro E0 E g a w B hC hf hB
 unfold wpList
 rw[Ie (CG hf.env hg)]
 refine .inl ?_
 have e1:a.eval (.tmp sm)=.map (G r):=by have:=Ge hf.env sm;grind[VI,Ag]
 have e2:a.eval (.tmp sk)=.string ⟨s.toArray⟩:=by have:=Ge hf.env sk;grind[VI,Ag,Dr]
 have e3:a.eval v=.bool true:=by have:=Mo hf.wi.rep.gl hf.env v;grind[Ag,DW]
 obtain⟨hnow,hM,hobj,hown⟩:=hC.1.side.now hf.wi
 obtain⟨q,hq⟩:=PE s l 0 0
 rw[hnew] at hq
 have hlt:r<w.heap.size:=(ID.1 hnow).1
 obtain⟨h1,h2⟩:=ue.of (r:=r) (ob:=Dq (l++[s])) (w1:={ w with heap:=w.heap.setIfInBounds r (Dq (l++[s]))}) (hC.1.link _ _ _ hf.wi) (fun b hb=>by grind) (by grind) (by simp) rfl rfl rfl hC.1.new hM hobj hown
 have:=hk E0 _ g a _ B ⟨h1,Nat.le_of_eq hf.wi.rep.n⟩ ⟨h2,hf.env,hf.defers⟩ hB
 have hrun:(Instr.mapUpdate ty (.map (G r)) (.string ⟨s.toArray⟩) (.bool true)).run P w=.ok () { w with heap:=w.heap.setIfInBounds r (Dq (l++[s]))}:=by
  have hget:(getObj r).run P w=.ok (Dq l) w:=by grind[getObj,Sem.run,Dq]
  have hfk:(Instr.findKey kt (.string ⟨s.toArray⟩) (GK 0 l)).run P w=.ok none w:=by simp only[Instr.findKey,Sem.run_bind,run_underlying hkt,Result.andThen_ok,hq,Sem.run_pure];rfl
  have hck:∀b,(Instr.checkKey b 10000 kt (.string ⟨s.toArray⟩)).run P w=.ok () w:=fun b=>by
   rw[show(10000:Nat)=9999+1 from rfl];unfold Instr.checkKey;simp[run_underlying hkt]
  have hset:∀ob,(setObj r ob).run P w=.ok () { w with heap:=w.heap.setIfInBounds r ob }:=fun ob=>by grind[setObj,Sem.run,Dq]
  unfold Instr.mapUpdate
  simp only[Sem.run_bind,run_underlying hty,Result.andThen_ok,hget,Dq,hck,hfk]
  grind[MV]
 unfold Oper.wp execOp
 simp only[hop,e1,e2,e3,Sem.run_bind,hrun,Result.andThen_ok]
 simp only[Sem.run_pure,Oper.upon,ht]
 exact this
end
def i7(L:List yy):yy:=match L with
 |o::_=>o
 |[]=>⟨none,.makeMap 0 none,0,"", #[],none⟩
theorem V9{L:List yy}(h:L.isEmpty=O):L=i7 L::L.tail:=by cases L with
 |nil=>grind
 |cons o L=>rfl
def mmQ:Op->Bool|.makeMap _ none=>true|_=>false
def pz:Op->x6|.makeMap t _=>t|.lookup t _ _ _=>t|.mapUpdate t _ _ _=>t|_=>0
def luQ(sm sk:Nat):Op->Bool|.lookup _ (.tmp a) (.tmp b) false=>a==sm&&b==sk|_=>false
def muQ(sm sk:Nat):Op->Bool|.mapUpdate _ (.tmp a) (.tmp b) (.const (.bool true))=>a==sm&&b==sk|_=>false
theorem AlG{o:Op}(h:mmQ o=J):o=.makeMap (pz o) none:=by
 unfold mmQ at h;split at h
 ·rfl
 grind
theorem AlH{sm sk:Nat}{o:Op}(h:luQ sm sk o=J):o=.lookup (pz o) (.tmp sm) (.tmp sk) false:=by
 unfold luQ at h;grind[pz]
theorem AlF{sm sk:Nat}{o:Op}(h:muQ sm sk o=J):o=.mapUpdate (pz o) (.tmp sm) (.tmp sk) (.const (.bool true)):=by
 unfold muQ at h;grind[pz]
def vn(P:x7)(ty:x6):Bool:=match P.underlying ty with
 |some (.map kt et)=>(match P.underlying kt with
  |some .string=>true
  |_=>false)&&(match P.info? et with
  |some inf=>(match inf.zero with
   |some (.bool false)=>true
   |_=>false)
  |_=>false)
 |_=>false
theorem Ahs{P:x7}{ty:x6}(h:vn P ty=J):∃kt et inf,P.underlying ty=G (.map kt et)/\P.underlying kt=G .string/\P.info? et=G inf/\inf.zero=G (.bool false):=by
 grind[vn]
theorem P3(n:Nat)(E:List (Nat×D))(t:Nat)(d:D):cy n (E++[(t,d)])=(cy n E).set t d:=by grind[cy]
section
variable {P : x7} {R : List D -> St -> Prop} {k : List KI} {nt : Nat} {E : List (Nat × D)} {σ : St} {ops : Array yy} {L0 : List yy}
theorem SM{m:Nat}(t:Nat)(h0:L0.isEmpty=O)(hg:BV (cy nt E) ops (i7 L0)=G true)(ht:(i7 L0).dst=G t)(hop:mmQ (i7 L0).op=J)
  (hk:∀r:Nat,Cg (CS (I σ.H) r []) P R k ops L0.tail (cy nt (E++[(t,.raw (.map (G r)))])) σ):Cg (CN m) P R k ops L0 (cy nt E) σ:=by
 rw[V9 h0]
 exact WN t hg ht (AlG hop) fun r=>by grind[P3]
theorem WO{m:Nat}(t sm sk:Nat){r:Nat}{s:List UInt8}{l:List (List UInt8)}(h0:L0.isEmpty=O)(hg:BV (cy nt E) ops (i7 L0)=G true)(ht:(i7 L0).dst=G t)(hop:luQ sm sk (i7 L0).op=J)
  (hty:vn P (pz (i7 L0).op)=J) (hm:(cy nt E)[sm]?=G (.raw (.map (G r)))) (hs:(cy nt E)[sk]?=G (.v (.str s)))
  (hk:Cg (CS m r l) P R k ops L0.tail (cy nt (E++[(t,.v (.bool (l.contains s)))])) σ):Cg (CS m r l) P R k ops L0 (cy nt E) σ:=by
 obtain⟨kt,et,inf,h1,h2,h3,h4⟩:=Ahs hty
 rw[V9 h0]
 exact Aah t sm sk hg ht (AlH hop) h1 h2 h3 h4 hm hs (by grind[P3])
theorem WM{m:Nat}(sm sk:Nat){r:Nat}{s:List UInt8}{l:List (List UInt8)}(h0:L0.isEmpty=O)(hg:BV (cy nt E) ops (i7 L0)=G true)(ht:(i7 L0).dst=none)(hop:muQ sm sk (i7 L0).op=J)
  (hty:vn P (pz (i7 L0).op)=J) (hm:(cy nt E)[sm]?=G (.raw (.map (G r)))) (hs:(cy nt E)[sk]?=G (.v (.str s))) (hnew:l.contains s=O)
  (hk:Cg (CS (I σ.H) r (l++[s])) P R k ops L0.tail (cy nt E) σ):Cg (CS m r l) P R k ops L0 (cy nt E) σ:=by
 obtain⟨kt,et,inf,h1,h2,h3,h4⟩:=Ahs hty
 rw[V9 h0]
 exact Aag sm sk hg ht (AlF hop) rfl h1 h2 hm hs hnew hk
end
section
variable {P : x7} {fn : yw} {d : D} {σ' : St} {m r : Nat} {l : List (List UInt8)} {k : List KI} {E : List (Nat × D)} {σ : St}
theorem Aap(hm:P.follows .mixedOrders=J)(nt:Nat)(im:List Nat)(rg i:Nat){ops:Array yy}{L:List yy}(s:Sc)
  (h:AW (cy nt E) fun env=>Y7 P im rg ops (fun L sl σ=>It (Cg (CS m r l) P (fun env σ1=>AA P fn env σ1 d σ') (k++[]) ops L (cy nt sl) σ)) L i s env σ fun s env σ=>vc (CS m r l) m P (fun env σ1=>AA P fn env σ1 d σ') (Zj P fn.results.toList d σ') nt im [] 10000 s k env σ):
  Cg (CS m r l) P (fun env σ1=>AA P fn env σ1 d σ') k ops L (cy nt E) σ:=by
 have:=Pm hm (AlK m r l) m (fun _ _ h=>h.2) nt im rg i s h
 grind
theorem Alg(hm:P.follows .mixedOrders=J)(nt:Nat)(im:List Nat)(s:Sc)
  (h:AW (cy nt E) fun env=>vc (CS m r l) m P (fun env σ1=>AA P fn env σ1 d σ') (Zj P fn.results.toList d σ') nt im [] 10000 (.h .n s) k env σ):
  A2 (CS m r l) P (fun env σ1=>AA P fn env σ1 d σ') k (cy nt E) σ:=by
 have:=Ahu (T:=[]) hm (AlK m r l) m (fun _ _ h=>h.2) nt im (.h .n s) h
 grind
end
end Go.Nv

namespace Go.Proofs.YtkkplhjidondkaaGreat
open Go.Dv Go.Nv
set_option maxRecDepth 20000
open List (headD replicate take)
open Go.IntKind (u64)
open Go.IntKind renaming wrap → yu, i64 → yt
open List renaming length → I, map → U, drop → W
open Option renaming some → G
open Bool renaming true → J, false → O
open Decidable renaming decide → Y
open Int renaming toNat → Z
open Go.Dv.V renaming list → ai, str → ae, agg → ab, int → aa, ref → bz, fn → bw, nils → bv, bool → bu
open Go.Dv.D renaming v → bt, acc → br, ptr → bq, arr → bo, gro → bm, tup → bk, undef → bj, dagg → bi
open Go.Dv.St renaming mk → bh
open Go.Dv.KI renaming blk → bf
open _root_.ByteArray renaming mk → bc
open Go renaming Operand → x8, Program → x7, TypeId → x6, World → x5, Value → yz, Oper → yy, FuncId → yx, Func → yw, IntKind → yv
noncomputable abbrev Aqg:=Tryz.f247
noncomputable abbrev Aqi:=Tryz.f280
noncomputable abbrev Ao1:=Tryz.f249
def Sk(c:UInt8):Bool:=Y ((c.toNat:Int)>=97)&&Y ((c.toNat:Int)<=122)
def l5(c:UInt8):Bool:=Y ((c.toNat:Int)>=48)&&Y ((c.toNat:Int)<=57)
def DZ(c:UInt8):Bool:=Sk c||(l5 c||((c.toNat:Int)==95))
theorem Vx(c:UInt8):F0 247 [.v (vb c)] (db (Sk c)):=by
 refine sv Aqg 9 [] (.b .r .r) ((Y ((↑(UInt8.toNat c):Int)>=97)=J->db (Y ((↑(UInt8.toNat c):Int)<=122))=db (Sk c))/\(Y ((↑(UInt8.toNat c):Int)>=97)=O->db O=db (Sk c))) ?_
 grind[Sk]
theorem Agn(c:UInt8):F0 280 [.v (vb c)] (db (l5 c)):=by
 refine sv Aqi 9 [] (.b .r .r) ((Y ((↑(UInt8.toNat c):Int)>=48)=J->db (Y ((↑(UInt8.toNat c):Int)<=57))=db (l5 c))/\(Y ((↑(UInt8.toNat c):Int)>=48)=O->db O=db (l5 c))) ?_
 grind[l5]
theorem AaC(c:UInt8):F0 249 [.v (vb c)] (db (DZ c)):=by
 refine sv Ao1 13 [] (.c (db (Sk c))<|.b .r<|.c (db (l5 c))<|.b .r .r) (F0 247 [bt (aa IntKind.u8 (↑(UInt8.toNat c):Int))] (db (Sk c))/\(Sk c=J->db J=db (DZ c))/\(Sk c=O->F0 280 [bt (aa IntKind.u8 (↑(UInt8.toNat c):Int))] (db (l5 c))/\(l5 c=J->db J=db (DZ c))/\(l5 c=O->db ((↑(UInt8.toNat c):Int)==95)=db (DZ c)))) ?_
 grind[Vx,Agn,DZ]
noncomputable abbrev ta:=Tryz.f248
noncomputable def q5:=yl ta
def Qf(p:UInt8->Bool):List UInt8->Nat
 |[]=>0
 |c::s=>if p c then Qf p s+1 else 0
noncomputable abbrev n8:=fun a₀=>(1,bt (bw a₀ [] []))
noncomputable abbrev sd:=fun a₀=>[ke 0,ke 1,ch 5 (di (a₀+1:Nat))]
theorem fd(F:yx)(p:UInt8->Bool)(s:List UInt8)(hs:I s<=1000000)(hp:∀c∈s,F0 F [.v (vb c)] (db (p c)))(n:Nat):∀k:Nat,I s-k=n->k<=I s->
  Rn PP ta 0 (di ((k+Qf p (s.drop k):Nat):Int)) ba ([kl q5 [1,1,0,0,0],.blk 0,kc q5 [1,1,1]]++[]) (cy 20 [(0,ds s),(1,.v (.fn F [] [])),(5,di k)]) ba:=by
 induction n using Nat.strongRecOn with
 |_ n ih=>
 intro k hn hk0
 refine lv 20 [] (.b (.e fun c:UInt8=>.y c<|.c (db (p c))<|.b (.l (sd k)) .r) (.k .r)) ((Y ((k:Int)<(I s:Int))=J->∃a,0<=(k:Int)/\s[Z (k:Int)]?=G a/\Aa PP F [bt (aa IntKind.u8 (↑(UInt8.toNat a):Int))] d6 (db (p a)) d6/\(p a=J->di (yu yt ((k:Int)+1))=di (↑(k+1):Int)/\Nv.It (A2 (CN 0) PP (fun env σ1=>AA PP ta env σ1 (di (↑(k+Qf p (W k s)):Int)) ba) [kl q5 [1,1,0,0,0],bf 0,kc q5 [1,1,1]] (cy 20 [(0,bt (ae s)),(n8 F),(5,di (↑(k+1):Int))]) ba))/\(p a=O->di (k:Int)=di (↑(k+Qf p (W k s)):Int)))/\(Y ((k:Int)<(I s:Int))=O->di (k:Int)=di (↑(k+Qf p (W k s)):Int))) ⟨fun h=>?_,fun h=>?_⟩
 ·have hk:k<I s:=by simpa using h
  have hx:s[k]?=G s[k]:=HI hk
  have hih:=ih (I s- (k+1)) (by omega) (k+1) rfl hk
  rw[HX hk]
  generalize s[k]=c at hx⊢
  refine⟨c,by omega,by simpa using hx,by simpa using hp c (HO hx),fun h2=>⟨Ae,⟨?_⟩⟩,fun h2=>?_⟩
  ·simp only[Qf,h2,IT]
   rw[show k+(Qf p (s.drop (k+1))+1)=k+1+Qf p (s.drop (k+1)) by omega]
   exact hih
  ·simp[Qf,h2]
 grind[Qf]
noncomputable abbrev wt:=[ke 0,ke 1,ch 5 (di (0:Nat))]
theorem AeA(F:yx)(p:UInt8->Bool)(s:List UInt8)(hs:I s<=1000000)(hp:∀c∈s,F0 F [.v (vb c)] (db (p c))):F0 248 [ds s,.v (.fn F [] [])] (di (Qf p s)):=by
 refine sv ta 20 [] (.l wt) (Q (di 0)/\I0 ta (I ba.H) (di (↑(Qf p s):Int)) ba [kl q5 [1,1,0,0,0],bf 0,kc q5 [1,1,1]] (cy 20 [(0,bt (ae s)),(n8 F),(5,di (↑0:Int))]) ba) ⟨rfl,⟨?_⟩⟩
 have:=fd F p s hs hp _ 0 rfl (by omega)
 grind
noncomputable abbrev Aop:=Tryz.f196
def Ew(s:List UInt8):Bool:=(s !=[])&&(Y ((I s:Int)<=12)&&(Sk (s.headD 0)&&((Qf DZ s:Int)==I s)))
theorem Ai4{s:List UInt8}(h:Y ((I s:Int)<=12)=J):I s<=1000000:=by
 grind
theorem YV(s:List UInt8):F0 196 [ds s] (db (Ew s)):=by
 refine sv Aop 22 [] (.b (.b (.y (s.headD 0)<|.c (db (Sk (s.headD 0)))<|.b (.c (di (Qf DZ s)) .r) .r) .r) .r) (((!s==(bc #[]).data.toList)=J->(Y ((I s:Int)<=12)=J->iz 0<=0/\s[Z 0]?=G (headD s 0)/\F0 247 [bt (aa IntKind.u8 (↑(UInt8.toNat (headD s 0)):Int))] (db (Sk (headD s 0)))/\(Sk (headD s 0)=J->F0 248 [bt (ae s),bt (bw 249 [] [])] (di (↑(Qf DZ s):Int))/\db ((↑(Qf DZ s):Int)==(I s:Int))=db (Ew s))/\(Sk (headD s 0)=O->db O=db (Ew s)))/\(Y ((I s:Int)<=12)=O->db O=db (Ew s)))/\((!s==(bc #[]).data.toList)=O->db O=db (Ew s))) ⟨fun h1=>⟨fun h2=>⟨by simp,?_,Vx _,fun h3=>⟨AeA _ DZ s (Ai4 h2) fun c _=>AaC c,?_⟩,fun h3=>?_⟩,fun h2=>?_⟩,fun h1=>?_⟩
 ·cases s with
  |nil=>simp[] at h1
  |cons a s=>rfl
 all_goals simp_all [Ew]
 omega
theorem CD{l:List (List UInt8)}{k:Nat}{s:List UInt8}(h:l[k]?=G s):(l.map ae)[Z (k:Int)]?=G (.str s):=by simp[h]
noncomputable abbrev tf:=Tryz.f281
noncomputable def qb:=yl tf
theorem AfP(l:List (List UInt8))(v:List UInt8)(hl:I l<=1000000)(n:Nat):∀k:Nat,I l-k=n->
  Rn PP tf 0 (di (ez (· ==v) (l.drop k) k)) ba ([kl qb [1,0,1,0,0],.blk 0,kc qb [1,1]]++[]) (cy 19 [(0,dl (l.map ae)),(1,.v (ae v)),(7,di (I l)),(8,di k)]) ba:=by
 induction n using Nat.strongRecOn with
 |_ n ih=>
 intro k hn
 refine lv 19 [] (.b (.e fun x:List UInt8=>.x (ae x)<|.b .r (.l (sb k))) .r) ((Y ((k:Int)<(I l:Int))=J->∃a,0<=(k:Int)/\(U ae l)[Z (k:Int)]?=G (ae a)/\((v==a)=J->di (k:Int)=di (ez (fun x=>x==v) (W k l) k))/\((v==a)=O->di (yu yt ((k:Int)+1))=di (↑(k+1):Int)/\Nv.It (A2 (CN 0) PP (fun env σ1=>AA PP tf env σ1 (di (ez (fun x=>x==v) (W k l) k)) ba) [kl qb [1,0,1,0,0],bf 0,kc qb [1,1]] (cy 19 [(0,bt (kh l)),(1,bt (ae v)),(7,di (I l:Int)),(8,di (↑(k+1):Int))]) ba)))/\(Y ((k:Int)<(I l:Int))=O->di (-1)=di (ez (fun x=>x==v) (W k l) k))) ⟨fun h=>?_,fun h=>?_⟩
 ·have hk:k<I l:=by simpa using h
  have hx:l[k]?=G l[k]:=HI hk
  rw[HX hk]
  generalize l[k]=x at hx⊢
  refine⟨x,by omega,CD hx,fun hf=>?_,fun hf=>⟨Ae,⟨?_⟩⟩⟩
  ·have:v=x:=by simpa using hf
   subst this;simp[ez]
  ·have h2:v≠x:=by simpa using hf
   have:(x==v)=O:=by simpa using fun e=>h2 e.symm
   simp only[ez,this]
   exact ih (I l- (k+1)) (by omega) (k+1) rfl
 grind[List.drop_of_length_le,ez]
theorem AfO(l:List (List UInt8))(v:List UInt8)(hl:I l<=1000000):F0 281 [dl (l.map ae),.v (ae v)] (di (ez (· ==v) l 0)):=by
 refine sv tf 19 [] (.l [ke 0,ke 1,ch 7 (di (I l)),ch 8 (di (0:Nat))]) (di (I (U ae l):Int)=di (I l:Int)/\Q (di 0)/\I0 tf (I ba.H) (di (ez (fun x=>x==v) l 0)) ba [kl qb [1,0,1,0,0],bf 0,kc qb [1,1]] (cy 19 [(0,dl (U ae l)),(1,bt (ae v)),(7,di (I l:Int)),(8,di (↑0:Int))]) ba) ⟨by simp,rfl,⟨?_⟩⟩
 exact AfP l v hl _ 0 rfl
noncomputable abbrev AoP:=Tryz.f250
theorem Acx(l:List (List UInt8))(v:List UInt8)(hl:I l<=1000000):F0 250 [dl (l.map ae),.v (ae v)] (db (l.any (· ==v))):=by
 refine sv AoP 9 [] (.c (di (ez (· ==v) l 0)) .r) (F0 281 [bt (kh l),bt (ae v)] (di (ez (fun x=>x==v) l 0))/\db (Y (ez (fun x=>x==v) l 0>=0))=db (List.any l fun x=>x==v)) ?_
 grind[AfO,HC]
def rm:List (List UInt8):=[[109,111,100,101,108],[115,116,97,116,101,115],[112,108,97,99,101,115],[108,101,116,116,101,114,115],[108,101,118,101,108,115],[97,103,101],[114,117,108,101],[110,101,101,100],[103,105,118,101],[109,111,118,101],[101,109,112,116,121],[115,101,110,100],[114,101,99,101,105,118,101],[112,97,116,104],[110,101,120,116],[116,97,107,101],[109,97,107,101],[115,116,97,114,116]]
def Xy(s:List UInt8):Bool:=rm.any (· ==s)
noncomputable abbrev fKw:=Tryz.f197
theorem Aje(s:List UInt8):F0 197 [ds s] (db (Xy s)):=by
 exact sv fKw 6 [] (.c (db (Xy s)) .r) (_/\Q (db (Xy s))) ⟨Acx rm s (by decide),rfl⟩
noncomputable abbrev k6:=Tryz.f145
noncomputable def EL:=yl k6
def gb(used:List (List UInt8)):List (List UInt8)->Bool
 |[]=>true
 |s::l=>Ew s&&(!Xy s&&(!used.contains s&&gb (used++[s]) l))
def Cj(m:cz):List (List UInt8):=[m.aw,m.ay,m.ax].flatten
def Gk(m:cz):List (List UInt8):=Cj m++m.av.map cf.name
def F1(m:cz):Bool:=gb [] (Gk m)
abbrev Wp(l:List (List UInt8)):D:=.acc 1 (l.map ae)
abbrev l0(l:List (List UInt8)):St:=⟨[],[(1,1,l.map ae)]⟩
noncomputable abbrev qt:=fun a₀=>(3,D.raw (Value.map (G a₀)))
theorem Abb(r:Nat)(l:List (List UInt8))(hl:I l<=1000000)(n:Nat):∀k:Nat,I l-k=n->k<=I l->
  A2 (CS 0 r (l.take k)) PP (fun env σ1=>AA PP k6 env σ1 (db (gb (l.take k) (l.drop k))) ba) [kl EL [1,1,1,1,0,1,0,0],.blk 2,kc EL [1,1,1,1,1]] (cy 52 [(3,.raw (.map (G r))),(31,dl (l.map ae)),(32,di (I l)),(33,di k)]) ba:=by
 induction n using Nat.strongRecOn with
 |_ n ih=>
 intro k hn hk0
 refine Alg mixed 52 [1] (.b (.e fun s:List UInt8=>.x (.str s)<|.c (db (Ew s))<|.b .r (.c (db (Xy s))<|.b .r (.h (.q 11 10)<|.h (.s [ke 3,ke 8,ke 31,ke 32,ke 33,ke 44,ke 45,ke 46]) .z))) .r) ?_
 refine fx (by kernel_rfl:((Y ((k:Int)<(I l:Int))=J->∃a,0<=(k:Int)/\(U ae l)[Z (k:Int)]?=G (ae a)/\Aa PP 196 [bt (ae a)] d6 (db (Ew a)) d6/\((!Ew a)=J->db O=db (gb (take k l) (W k l)))/\((!Ew a)=O->Aa PP 197 [bt (ae a)] d6 (db (Xy a)) d6/\(Xy a=J->db O=db (gb (take k l) (W k l)))/\(Xy a=O->Nv.It (Cg (CS 0 r (take k l)) PP (fun env σ1=>AA PP k6 env σ1 (db (gb (take k l) (W k l))) ba) [kc EL [1,1,1,1,0,1,0,0,1,1,0,0,1,0,1],kc EL [1,1,1,1,0,1,0,0,1,1,0,0,1,1],bf 3,kc EL [1,1,1,1,0,1,0,0,1,1,1],kl EL ib,bf 2,kc EL [1,1,1,1,1]] (Bz (sub EL [1,1,1,1,0,1,0,0,1,1,0,0,1,0,0])) (W 10 (Bz (sub EL [1,1,1,1,0,1,0,0,1,1,0,0,1,0,0])).toList) (cy 52 [(qt r),(8,bt (ae a)),(31,bt (kh l)),(32,di (I l:Int)),(33,di (k:Int)),(44,db O),(45,D.raw (Value.map (G r))),(46,bt (ae a))]) ba))))/\(Y ((k:Int)<(I l:Int))=O->db J=db (gb (take k l) (W k l))))=_) ?_
 refine⟨fun h=>?_,fun h=>?_⟩
 ·have hk:k<I l:=by simpa using h
  have hx:l[k]?=G l[k]:=HI hk
  have hih:=ih (I l- (k+1)) (by omega) (k+1) rfl hk
  rw[List.take_succ_eq_append_getElem hk] at hih
  rw[HX hk]
  generalize l[k]=s at hx hih⊢
  refine⟨s,by omega,by simp[hx],YV s,fun h1=>?_,fun h1=>⟨Aje s,fun h2=>?_,fun h2=>⟨?_⟩⟩⟩
  ·simp only[Bool.not_eq_eq_eq_not,Bool.not_true] at h1;simp[gb,h1]
  ·simp[gb,h2]
  ·have h1:Ew s=J:=by simpa using h1
   refine WO (s:=s) 47 45 46 rfl (by kernel_rfl) (by kernel_rfl) (by kernel_rfl) (by kernel_rfl) (by kernel_rfl) (by kernel_rfl) ?_
   refine Aap mixed 52 [1] 11 11 (.b .r (.h (.q 13 2)<|.h (.s [ke 3,ke 8,ke 31,ke 32,ke 33,ke 49,ke 50]) .z)) ?_
   refine fx (by kernel_rfl:((List.contains (take k l) s=J->db O=db (gb (take k l) (s::W (k+1) l)))/\(List.contains (take k l) s=O->Nv.It (Cg (CS 0 r (take k l)) PP (fun env σ1=>AA PP k6 env σ1 (db (gb (take k l) (s::W (k+1) l))) ba) [bf 3,kc EL [1,1,1,1,0,1,0,0,1,1,1],kl EL ib,bf 2,kc EL [1,1,1,1,1]] (Bz (sub EL [1,1,1,1,0,1,0,0,1,1,0,0,1,1])) (W 2 (Bz (sub EL [1,1,1,1,0,1,0,0,1,1,0,0,1,1])).toList) (cy 52 [(qt r),(8,bt (ae s)),(31,bt (kh l)),(32,di (I l:Int)),(33,di (k:Int)),(49,D.raw (Value.map (G r))),(50,bt (ae s))]) ba)))=_) ?_
   refine⟨fun h3=>?_,fun h3=>⟨?_⟩⟩
   ·simp only[gb,h3,Bool.not_true,Iq,Jv]
   ·refine WM (s:=s) 49 50 rfl (by kernel_rfl) (by kernel_rfl) (by kernel_rfl) (by kernel_rfl) (by kernel_rfl) (by kernel_rfl) h3 ?_
    refine Aap mixed 52 [1] 13 3 (.ls [ke 3,ke 31,ke 32,ch 33 (di (k+1:Nat))] ba) ?_
    refine fx (by kernel_rfl:(di (yu yt ((k:Int)+1))=di (↑(k+1):Int)/\Nv.It (A2 (CS (I ba.H) r (take k l++[s])) PP (fun env σ1=>AA PP k6 env σ1 (db (gb (take k l) (s::W (k+1) l))) ba) [kl EL ib,bf 2,kc EL [1,1,1,1,1]] (cy 52 [(qt r),(31,bt (kh l)),(32,di (I l:Int)),(33,di (↑(k+1):Int))]) ba))=_) ?_
    refine⟨Ae,⟨?_⟩⟩
    simp only[gb,h1,h2,h3,Bool.not_false,Is]
    exact hih
 grind[gb]
noncomputable abbrev iv:=[1,1,1,0,1,0,0]
theorem Abc(r:Nat)(m:cz)(b:List (List UInt8))(_:I m.av<=1000000)(hb:I b+I m.av<=1000000)(n:Nat):∀k:Nat,I m.av-k=n->k<=I m.av->
  A2 (CS 0 r []) PP (fun env σ1=>AA PP k6 env σ1 (db (gb [] (b++m.av.map cf.name))) ba) [kl EL [1,1,1,0,1,0,0],.blk 0,kc EL [1,1,1,1]] (cy 52 [(3,.raw (.map (G r))),(4,Wp (b++(m.av.take k).map cf.name)),(19,dl (m.av.map Al)),(20,di (I m.av)),(21,di k)]) (l0 (b++(m.av.take k).map cf.name)):=by
 induction n using Nat.strongRecOn with
 |_ n ih=>
 intro k hn hk0
 refine Alg mixed 52 [1] (.b (.e fun x:cf=>.h (.xs (Al x))<|.w<|.ls [ke 3,ch 4 (Wp (b++(m.av.take (k+1)).map cf.name)),ke 19,ke 20,ch 21 (di (k+1:Nat))] (l0 (b++(m.av.take (k+1)).map cf.name))) (.h (.q 8 0)<|.h (.un 4)<|.ls [ke 3,ch 31 (dl ((b++m.av.map cf.name).map ae)),ch 32 (di (I (b++m.av.map cf.name))),ch 33 (di (0:Nat))] ba)) ?_
 refine fx (by kernel_rfl:((Y ((k:Int)<(I m.av:Int))=J->∃a,14=14/\0<=(k:Int)/\(U Al m.av)[Z (k:Int)]?=G (Al a)/\U ae (b++U cf.name (take k m.av))=U ae (b++U cf.name (take k m.av))/\Ao (I (U ae (b++U cf.name (take k m.av)))+I (ae a.name::nV)) 16/\(∀(y:V),y∈ [ae a.name]->V.size y=1)/\br 1 (U ae (b++U cf.name (take k m.av))++[ae a.name])=Wp (b++U cf.name (take (k+1) m.av))/\di (yu yt ((k:Int)+1))=di (↑(k+1):Int)/\[(1,1,U ae (b++U cf.name (take k m.av))++ae a.name::nV)]=[(1,1,U ae (b++U cf.name (take (k+1) m.av)))]/\Nv.It (A2 (CS 0 r []) PP (fun env σ1=>AA PP k6 env σ1 (db (gb [] (b++U cf.name m.av))) ba) [kl EL iv,bf 0,kc EL [1,1,1,1]] (cy 52 [(qt r),(4,Wp (b++U cf.name (take (k+1) m.av))),(19,bt (ai (U Al m.av))),(20,di (I m.av:Int)),(21,di (↑(k+1):Int))]) (l0 (b++U cf.name (take (k+1) m.av)))))/\(Y ((k:Int)<(I m.av:Int))=O->bt (ai (U ae (b++U cf.name (take k m.av))))=dl (U ae (b++U cf.name m.av))/\di (I (U ae (b++U cf.name (take k m.av))):Int)=di (I (b++U cf.name m.av):Int)/\di 0=di (↑0:Int)/\Nv.It (A2 (CS 0 r []) PP (fun env σ1=>AA PP k6 env σ1 (db (gb [] (b++U cf.name m.av))) ba) [kl EL ib,bf 2,kc EL [1,1,1,1,1]] (cy 52 [(qt r),(31,dl (U ae (b++U cf.name m.av))),(32,di (I (b++U cf.name m.av):Int)),(33,di (↑0:Int))]) ba)))=_) ?_
 refine⟨fun h=>?_,fun h=>?_⟩
 ·have hk:k<I m.av:=by grind
  have hx:m.av[k]?=G m.av[k]:=HI hk
  have hih:=ih (I m.av- (k+1)) (by omega) (k+1) rfl hk
  have hl:I (b++(m.av.take k).map cf.name)<=1000000:=by simp;omega
  have ht:b++(m.av.take (k+1)).map cf.name=b++(m.av.take k).map cf.name++[(m.av[k]).name]:=by rw[List.take_succ_eq_append_getElem hk,IZ,IQ];rfl
  rw[ht] at hih⊢
  generalize m.av[k]=x at hx hih⊢
  generalize b++(m.av.take k).map cf.name=p at hl hih⊢
  refine⟨x,rfl,by omega,by simp[hx],rfl,?_,by simp[V.size],by simp,Ae,by simp,⟨hih⟩⟩
  exact⟨by grind[List.length_nil],by grind[List.length_nil]⟩
 ·have hk:I m.av<=k:=by grind
  rw[Im hk]
  refine⟨rfl,by simp,rfl,⟨?_⟩⟩
  exact Abb r _ (by grind) _ 0 rfl (by omega)
noncomputable abbrev iq:=fun a₀=>(bz (A1 a₀))
theorem Vp(m:cz)(h1:I (Cj m)+I m.av<=1000000):F0 145 [Ad m] (db (F1 m)):=by
 refine sv k6 52 [1] (.h (.q 1 0)<|.h (.s [ke 1]) .z) (Nv.It (Cg (CN (I ba.H)) PP (fun env σ1=>AA PP k6 env σ1 (db (F1 m)) ba) [kc EL [1,1]] (Bz (sub EL [1,0])) (W 0 (Bz (sub EL [1,0])).toList) (cy 52 [(1,bt (iq m))]) ba)) ⟨SM 9 rfl (by rfl) (by kernel_rfl) (by rfl) fun r=>?_⟩
 refine Aap mixed 52 [1] 1 1 (.h (.ck 1 1 1 ((Cj m).map ae))<|.ls [ke 3,ch 4 (Wp (Cj m++(m.av.take 0).map cf.name)),ke 19,ch 20 (di (I m.av)),ch 21 (di (0:Nat))] (l0 (Cj m++(m.av.take 0).map cf.name))) ?_
 refine fx (by kernel_rfl:(Aa PP 195 [bt (ai [cp m.aw,cp m.ay,cp m.ax])] d6 (br 1 (U ae (Cj m))) (bh [] [(1,1,U ae (Cj m))])/\br 1 (U ae (Cj m))=Wp (Cj m++U cf.name (take 0 m.av))/\di (I (U Al m.av):Int)=di (I m.av:Int)/\di 0=di (↑0:Int)/\[(1,1,U ae (Cj m))]=[(1,1,U ae (Cj m++[]))]/\Nv.It (A2 (CS (I ba.H) r []) PP (fun env σ1=>AA PP k6 env σ1 (db (F1 m)) ba) [kl EL iv,bf 0,kc EL [1,1,1,1]] (cy 52 [(qt r),(4,Wp (Cj m++U cf.name (take 0 m.av))),(19,bt (BE m.av)),(20,di (I m.av:Int)),(21,di (↑0:Int))]) (l0 (Cj m++U cf.name (take 0 m.av)))))=_) ?_
 refine⟨Ac0 [m.aw,m.ay,m.ax] (by grind) (by grind[Cj]),by simp,by simp,rfl,by simp,⟨?_⟩⟩
 exact Abc r m (Cj m) (by omega) h1 _ 0 rfl (by omega)
inductive cr where
 |nat
 |lab (n:Int)
 |prod (l:List cr)
 |word (t:cr)
 |bag (t:cr)
 |prio (n:Int) (r:List Int)
 deriving Inhabited
mutual
def cr.enc:cr->V
 |.nat=>.agg [vi 1,vi 0,.list [],.list []]
 |.lab n=>.agg [vi 2,vi n,.list [],.list []]
 |.prod l=>.agg [vi 3,vi 0,.list [],.list (cr.encs l)]
 |.word t=>.agg [vi 4,vi 0,.list [],.list [t.enc]]
 |.bag t=>.agg [vi 5,vi 0,.list [],.list [t.enc]]
 |.prio n r=>.agg [vi 7,vi n,cw r,.list []]
def cr.encs:List cr->List V
 |[]=>[]
 |t::l=>t.enc::cr.encs l
end
theorem cr.encs_map:∀l:List cr,cr.encs l=l.map cr.enc
 |[]=>rfl
 |t::l=>by simp[cr.encs,cr.encs_map l]
abbrev ly(k n:Int)(r:List Int)(l:List V):V:=.agg [vi k,vi n,cw r,.list l]
def cr.kd:cr->Int
 |.nat=>1|.lab _=>2|.prod _=>3|.word _=>4|.bag _=>5|.prio _ _=>7
def cr.sz:cr->Int
 |.lab n=>n|.prio n _=>n|_=>0
def cr.rk:cr->List Int
 |.prio _ r=>r|_=>[]
def cr.ps:cr->List cr
 |.prod l=>l|.word t=>[t]|.bag t=>[t]|_=>[]
abbrev eT:cr->V:=cr.enc
abbrev vT(t:cr):V:=ly t.kd t.sz t.rk (t.ps.map eT)
abbrev dT(t:cr):D:=.v (vT t)
theorem XF(t:cr):eT t=vT t:=by cases t<;>simp only[eT,cr.enc,cr.encs_map]<;>rfl
theorem PA{a:List cr}{i:Nat}{x:cr}(h:a[i]?=G x):(a.map eT)[((i:Nat):Int).toNat]?=G (vT x):=by grind[XF]
theorem OT(t:cr):vT (.word t)=ly 4 0 [] [vT t]:=by rw[←XF t];rfl
theorem TR(t:cr):vT (.bag t)=ly 5 0 [] [vT t]:=by rw[←XF t];rfl
noncomputable abbrev Aqh:=Tryz.f209
def CA(n:Int)(v:b9):Bool:=Y (v.n>=0)&&(Y (v.n<n)&&((I v.az:Int)==0))
theorem Vy(n:Int)(v:b9):F0 209 [dV v,di n] (db (CA n v)):=by
 refine sv Aqh 20 [2] (.b (.b .r .r) .r) ((Y (v.n>=0)=J->(Y (v.n<n)=J->db ((I (ce v.az):Int)==0)=db (CA n v))/\(Y (v.n<n)=O->db O=db (CA n v)))/\(Y (v.n>=0)=O->db O=db (CA n v))) ?_
 grind[CA]
noncomputable abbrev rq:=Tryz.f211
noncomputable def q0:=yl rq
def YA(l:List b9):Nat->Bool
 |0=>true
 |k+1=>if As (l.getD (k+1) default) (l.getD k default)<0 then false else YA l k
theorem Aet(l:List b9)(hs:b9.sizes l<=1000000)(k:Nat):k<I l->
  Rn PP rq 0 (db (YA l k)) ba ([kl q0 [1,0,1,0,0],.blk 0,kc q0 [1,1]]++[]) (cy 25 [(0,cq l),(1,dfn 41),(5,di k)]) ba:=by
 induction k with
 |zero=>
  intro hk
  exact lv 25 [] (.f .r) (Y ((↑0:Int)>0)=O/\Q (db J)) ⟨rfl,rfl⟩
 |succ k ih=>
  intro hk
  refine lv 25 [] (.t<|.x (Ac (l.getD (k+1) default))<|.x (Ac (l.getD k default))<|.c (di (As (l.getD (k+1) default) (l.getD k default)))<|.b .r (.l [ke 0,ke 1,ch 5 (di k)])) (Y ((↑(k+1):Int)>0)=J/\0<=(↑(k+1):Int)/\(U eV l)[Z (↑(k+1):Int)]?=G (Ac (List.getD l (k+1) default))/\0<=yu yt ((↑(k+1):Int)-1)/\(U eV l)[Z (yu yt ((↑(k+1):Int)-1))]?=G (Ac (List.getD l k default))/\F0 41 [bt (Ac (List.getD l (k+1) default)),bt (Ac (List.getD l k default))] (di (As (List.getD l (k+1) default) (List.getD l k default)))/\(Y (As (List.getD l (k+1) default) (List.getD l k default)<0)=J->db O=db (YA l (k+1)))/\(Y (As (List.getD l (k+1) default) (List.getD l k default)<0)=O->di (yu yt ((↑(k+1):Int)-1))=di (k:Int)/\I0 rq 0 (db (YA l (k+1))) ba [kl q0 [1,0,1,0,0],bf 0,kc q0 [1,1]] (cy 25 [(0,cq l),(1,bt n5),(5,di (k:Int))]) d6)) ?_
  have h1:yt.wrap (((k+1:Nat):Int)-1)=k:=by rw[Ak (by have:=b9.length_le l;omega) (by have:=b9.length_le l;omega)];omega
  have hx:l[k+1]?=G (l.getD (k+1) default):=by rw[HQ,HI hk];rfl
  have hy:l[k]?=G (l.getD k default):=by rw[HQ,HI (by omega)];rfl
  have hz:(l.getD (k+1) default).size<=1000000:=by have:=b9.size_mem (HO hx);omega
  rw[h1]
  refine⟨by simp,by omega,Ap hx,by omega,Ap hy,Ky _ _ _ (HP _) hz,fun h2=>?_,fun h2=>⟨rfl,⟨?_⟩⟩⟩
  all_goals grind[YA]
def WH(l:List b9):Bool:=YA l (I l-1)
theorem Aeq(l:List b9)(hs:b9.sizes l<=1000000):F0 211 [cq l,dfn 41] (db (WH l)):=by
 cases l with
 |nil=>
  exact sv rq 25 [] (.n<|.f .r) (Y (yu yt ((I (U eV []):Int)-1)>0)=O/\Q (db J)) ⟨rfl,rfl⟩
 |cons v l=>
  refine sv rq 25 [] (.l [ke 0,ke 1,ch 5 (di (I l:Nat))]) (di (yu yt ((I (U eV (v::l)):Int)-1))=di (I l:Int)/\I0 rq (I ba.H) (db (WH (v::l))) ba [kl q0 [1,0,1,0,0],bf 0,kc q0 [1,1]] (cy 25 [(0,cq (v::l)),(1,dfn 41),(5,di (I l:Int))]) ba) ?_
  have:=b9.length_le (v::l)
  have h1:yt.wrap ((I ((v::l).map eV):Int)-1)=I l:=by
   grind[Ak]
  rw[h1]
  exact⟨rfl,⟨Aet (v::l) hs (I l) (by simp)⟩⟩
mutual
def Ax:cr->b9->Bool
 |.nat,v=>Y (v.n>=0)&&(Y (v.n<=1048576)&&((I v.az:Int)==0))
 |.lab n,v=>CA n v
 |.prod l,v=>(v.n==0)&&(((I v.az:Int)==I l)&&BM l v.az)
 |.word t,v=>(v.n==0)&&(Y ((I v.az:Int)<=12)&&v.az.all (fun k=>Ax t k))
 |.bag t,v=>((v.n==0)&&(Y ((I v.az:Int)<=12)&&v.az.all (fun k=>Ax t k)))&&WH v.az
 |.prio n _,v=>(v.n==0)&&(Y ((I v.az:Int)<=12)&&v.az.all (fun k=>CA n k))
def BM:List cr->List b9->Bool
 |t::l,v::vs=>Ax t v&&BM l vs
 |_,_=>true
end
noncomputable abbrev l4:=Tryz.f151
noncomputable def r7:=yl l4
noncomputable abbrev AoD:=Tryz.f210
noncomputable abbrev Amp:=Tryz.f264
noncomputable abbrev Ao7:=Tryz.f213
theorem AjN{α:Type}(l:List α)(p:α->Bool):(!l.any fun k=> !p k)=l.all p:=by
 grind
theorem AaU(n:Int)(r:List Int)(v:b9):F0 213 [dV v,.v (.ref (vT (.prio n r)))] (db (!CA n v)):=by
 exact sv Ao7 9 [2] (.c (db (CA n v)) .r) (_/\Q (db !CA n v)) ⟨Vy n v,rfl⟩
theorem Xu(t:cr)(v:b9)(h:F0 151 [dT t,dV v] (db (Ax t v))):F0 264 [dV v,.v (.ref (vT t))] (db (!Ax t v)):=by
 refine sv Amp 8 [2] (.c (db (Ax t v)) .r) (F0 151 [bt (vT t),dV v] (db (Ax t v))/\(db !Ax t v)=db !Ax t v) ?_
 grind
def Gm(t:cr)(v:b9):Bool:=(v.n==0)&&(Y ((I v.az:Int)<=12)&&v.az.all (fun k=>Ax t k))
theorem QZ(t:cr)(v:b9)(h:∀k∈v.az,F0 151 [dT t,dV k] (db (Ax t k))):F0 210 [dV v,dT t] (db (Gm t v)):=by
 refine sv AoD 21 [2,3] (.b (.b (.c (db (v.az.any fun k=> !Ax t k)) .r) .r) .r) (((v.n==0)=J->(Y ((I (ce v.az):Int)<=12)=J->F0 80 [cq v.az,bt (bw 264 [] [bz (vT t)])] (db (List.any v.az fun k=> !Ax t k))/\(db !List.any v.az fun k=> !Ax t k)=db (Gm t v))/\(Y ((I (ce v.az):Int)<=12)=O->db O=db (Gm t v)))/\((v.n==0)=O->db O=db (Gm t v))) ?_
 grind[GZ,Xu,Gm]
theorem AiT(v:b9):F0 151 [dT .nat,dV v] (db (Ax .nat v)):=by
 refine sv l4 110 [2,3] (.k<|.b (.b .r .r) .r) ((Y (v.n>=0)=J->(Y (v.n<=1048576)=J->db ((I (ce v.az):Int)==0)=db (Ax cr.nat v))/\(Y (v.n<=1048576)=O->db O=db (Ax cr.nat v)))/\(Y (v.n>=0)=O->db O=db (Ax cr.nat v))) ?_
 grind[Ax]
theorem AiU(n:Int)(v:b9):F0 151 [dT (.lab n),dV v] (db (Ax (.lab n) v)):=by
 exact sv l4 110 [2,3] (.c (db (CA n v)) .r) (_/\db (CA n v)=db (Ax (cr.lab n) v)) ⟨Vy n v,by rfl⟩
noncomputable abbrev ge:=fun a₀ b₀=>(cr.prio a₀ b₀)
theorem Afq(n:Int)(r:List Int)(v:b9):F0 151 [dT (.prio n r),dV v] (db (Ax (.prio n r) v)):=by
 refine sv l4 110 [2,3] (.k<|.k<|.k<|.k<|.k<|.k<|.b (.b (.c (db (v.az.any fun k=> !CA n k)) .r) .r) .r) (((v.n==0)=J->(Y ((I (ce v.az):Int)<=12)=J->F0 80 [cq v.az,bt (bw 213 [] [bz (vT (ge n r))])] (db (List.any v.az fun k=> !CA n k))/\(db !List.any v.az fun k=> !CA n k)=db (Ax (ge n r) v))/\(Y ((I (ce v.az):Int)<=12)=O->db O=db (Ax (ge n r) v)))/\((v.n==0)=O->db O=db (Ax (ge n r) v))) ?_
 grind[GZ,AaU,Ax]
theorem Afn(t:cr)(v:b9)(h:∀k∈v.az,F0 151 [dT t,dV k] (db (Ax t k))):F0 151 [dT (.word t),dV v] (db (Ax (.word t) v)):=by
 rw[dT,OT]
 exact sv l4 110 [2,3] (.x (vT t)<|.c (db (Gm t v)) .r) (iz 0<=0/\Q (G (vT t))/\_/\db (Gm t v)=db (Ax (cr.word t) v)) ⟨by decide,rfl,QZ t v h,by simp only[Ax,Gm]⟩
theorem AiV(t:cr)(v:b9)(hv:v.size<=1000000)(h:∀k∈v.az,F0 151 [dT t,dV k] (db (Ax t k))):F0 151 [dT (.bag t),dV v] (db (Ax (.bag t) v)):=by
 rw[dT,TR]
 have:=b9.size_eq v
 refine sv l4 110 [2,3] (.x (vT t)<|.c (db (Gm t v))<|.b (.c (db (WH v.az)) .r) .r) (iz 0<=0/\Q (G (vT t))/\_/\(Gm t v=J->F0 211 [cq v.az,bt n5] (db (WH v.az))/\db (WH v.az)=db (Ax (cr.bag t) v))/\(Gm t v=O->db O=db (Ax (cr.bag t) v))) ⟨by decide,rfl,QZ t v h,fun h1=>⟨Aeq v.az (by omega),?_⟩,fun h1=>?_⟩
 ·simp only[Gm] at h1;simp only[Ax,h1,Is]
 ·simp only[Gm] at h1;simp only[Ax,h1,Iq]
noncomputable abbrev jw:=fun a₀=>(U eT (cr.ps (cr.prod a₀)))
noncomputable abbrev qp:=fun a₀=>(2,bt (bz (vT (cr.prod a₀))))
noncomputable abbrev Avi:=[kl r7 [1,0,1,0,1,1,1,1,1,0,1,0,1,0,0],bf 1,kc r7 [1,0,1,0,1,1,1,1,1,0,1,1],bf 0,kc r7 [1,1]]
theorem Aa5(l:List cr)(v:b9)(hl:I v.az=I l)(hv:I v.az<=1000000)(h:∀t∈l,∀k∈v.az,F0 151 [dT t,dV k] (db (Ax t k)))(n:Nat):∀k:Nat,I l-k=n->
  Rn PP l4 0 (db (BM (l.drop k) (v.az.drop k))) ba ([kl r7 [1,0,1,0,1,1,1,1,1,0,1,0,1,0,0],.blk 1,kc r7 [1,0,1,0,1,1,1,1,1,0,1,1],.blk 0,kc r7 [1,1]]++[]) (cy 110 [(2,.v (.ref (vT (.prod l)))),(46,cq v.az),(47,di (I v.az)),(48,di k)]) ba:=by
 induction n using Nat.strongRecOn with
 |_ n ih=>
 intro k hn
 refine lv 110 [2,3] (.b (.e fun x:b9=>.x (Ac x)<|.e fun t:cr=>.x (vT t)<|.c (db (Ax t x))<|.b .r (.ls [ke 2,ke 46,ke 47,ch 48 (di (k+1:Nat))] ba)) .r) ((Y ((k:Int)<(I v.az:Int))=J->∃a,0<=(k:Int)/\(ce v.az)[Z (k:Int)]?=G (Ac a)/\∃a_1,0<=(k:Int)/\(jw l)[Z (k:Int)]?=G (vT a_1)/\Aa PP 151 [bt (vT a_1),dV a] d6 (db (Ax a_1 a)) d6/\yp/\((!Ax a_1 a)=J->db O=db (BM (W k l) (W k v.az)))/\((!Ax a_1 a)=O->di (yu yt ((k:Int)+1))=di (↑(k+1):Int)/\Nv.It (A2 (CN 0) PP (fun env σ1=>AA PP l4 env σ1 (db (BM (W k l) (W k v.az))) ba) Avi (cy 110 [(qp l),(46,cq v.az),(47,di (I v.az:Int)),(48,di (↑(k+1):Int))]) ba)))/\(Y ((k:Int)<(I v.az:Int))=O->db J=db (BM (W k l) (W k v.az)))) ⟨fun h1=>?_,fun h1=>?_⟩
 ·have hk:k<I v.az:=by simpa using h1
  have hk2:k<I l:=by omega
  have hx:v.az[k]?=G v.az[k]:=HI hk
  have hy:l[k]?=G l[k]:=HI hk2
  rw[HX hk,HX hk2]
  generalize v.az[k]=x at hx⊢
  generalize l[k]=t at hy⊢
  refine⟨x,by omega,Ap hx,t,by omega,PA hy,h t (HO hy) x (HO hx),yn,fun h2=>?_,fun h2=>⟨Ae,⟨?_⟩⟩⟩
  ·have h2:Ax t x=O:=by simpa using h2
   simp only[BM,h2,Iq]
  ·have h2:Ax t x=J:=by simpa using h2
   simp only[BM,h2,Is]
   exact ih (I l- (k+1)) (by omega) (k+1) rfl
 grind[List.drop_of_length_le,BM]
theorem Afp(l:List cr)(v:b9)(hv:v.size<=1000000)(h:∀t∈l,∀k∈v.az,F0 151 [dT t,dV k] (db (Ax t k))):F0 151 [dT (.prod l),dV v] (db (Ax (.prod l) v)):=by
 have hlen:=b9.length_le v.az
 have hsz:=b9.size_eq v
 refine sv l4 110 [2,3] (.k<|.k<|.k<|.b .r (.b .r (.l [ke 2,ke 46,ch 47 (di (I v.az)),ch 48 (di (0:Nat))]))) (((v.n !=0)=J->db O=db (Ax (cr.prod l) v))/\((v.n !=0)=O->(((I (ce v.az):Int) !=(I (jw l):Int))=J->db O=db (Ax (cr.prod l) v))/\(((I (ce v.az):Int) !=(I (jw l):Int))=O->di (I (ce v.az):Int)=di (I v.az:Int)/\di 0=di (↑0:Int)/\I0 l4 (I ba.H) (db (Ax (cr.prod l) v)) ba Avi (cy 110 [(qp l),(46,cq v.az),(47,di (I v.az:Int)),(48,di (↑0:Int))]) ba))) ⟨fun h1=>?_,fun h1=>⟨fun h2=>?_,fun h2=>⟨by grind,rfl,⟨?_⟩⟩⟩⟩
 ·grind[Ax]
 ·grind[cr.ps,Ax]
 ·have h1:(v.n==0)=J:=by grind
  have h2:(I v.az:Int)=I l:=by grind[cr.ps]
  have h3:((I v.az:Int)==I l)=J:=by grind
  simp only[Ax,h1,h3,Is]
  exact Aa5 l v (by omega) (by omega) h _ 0 rfl
theorem Afo(N:Nat):∀(t:cr),SizeOf.sizeOf t<=N->∀v:b9,v.size<=1000000->F0 151 [dT t,dV v] (db (Ax t v)):=by
 induction N with
 |zero=>intro t ht;cases t<;>simp at ht<;>omega
 |succ N ih=>
  intro t ht v hv
  have hk:∀k∈v.az,k.size<=1000000:=fun k hk=>by have:=b9.size_mem hk;grind[b9.size_eq]
  cases t with
  |nat=>exact AiT v
  |lab n=>exact AiU n v
  |prio n r=>grind[Afq]
  |word t=>grind[Afn]
  |bag t=>grind[AiV]
  |prod l=>exact Afp l v hv fun t h k h'=>ih t (by have:=List.sizeOf_lt_of_mem h;grind) k (hk k h')
noncomputable abbrev tc:=Tryz.f286
noncomputable def q8:=yl tc
theorem AfI(F:yx)(fs cs:List V)(p:cr->Bool)(l:List (cr))(hl:I l<=1000000)(hp:∀x∈l,F0 F ((fs++[vT x]++cs).map .v) (db (p x)))(n:Nat):∀k:Nat,I l-k=n->
  Rn PP tc 0 (di (ez p (l.drop k) k)) ba ([kl q8 [1,0,1,0,0],.blk 0,kc q8 [1,1]]++[]) (cy 19 [(0,dl (l.map eT)),(1,.v (.fn F fs cs)),(7,di (I l)),(8,di k)]) ba:=by
 induction n using Nat.strongRecOn with
 |_ n ih=>
 intro k hn
 refine lv 19 [] (.b (.e fun x:cr=>.x (vT x)<|.c (db (p x))<|.b .r (.l (sb k))) .r) ((Y ((k:Int)<(I l:Int))=J->∃a,0<=(k:Int)/\(U eT l)[Z (k:Int)]?=G (vT a)/\Aa PP F (U bt (fs++[vT a]++cs)) d6 (db (p a)) d6/\(p a=J->di (k:Int)=di (ez p (W k l) k))/\(p a=O->di (yu yt ((k:Int)+1))=di (↑(k+1):Int)/\Nv.It (A2 (CN 0) PP (fun env σ1=>AA PP tc env σ1 (di (ez p (W k l) k)) ba) [kl q8 [1,0,1,0,0],bf 0,kc q8 [1,1]] (cy 19 [(0,bt (ai (U eT l))),(1,bt (bw F fs cs)),(7,di (I l:Int)),(8,di (↑(k+1):Int))]) ba)))/\(Y ((k:Int)<(I l:Int))=O->di (-1)=di (ez p (W k l) k))) ⟨fun h=>?_,fun h=>?_⟩
 ·have hk:k<I l:=by simpa using h
  have hx:l[k]?=G l[k]:=HI hk
  rw[HX hk]
  generalize l[k]=x at hx⊢
  refine⟨x,by omega,PA hx,hp x (HO hx),fun hf=>by simp[ez,hf],fun hf=>⟨Ae,⟨?_⟩⟩⟩
  simp only[ez,hf]
  exact ih (I l- (k+1)) (by omega) (k+1) rfl
 grind[List.drop_of_length_le,ez]
theorem AfH(F:yx)(fs cs:List V)(p:cr->Bool)(l:List (cr))(hl:I l<=1000000)(hp:∀x∈l,F0 F ((fs++[vT x]++cs).map .v) (db (p x))):
  F0 286 [dl (l.map eT),.v (.fn F fs cs)] (di (ez p l 0)):=by
 refine sv tc 19 [] (.l [ke 0,ke 1,ch 7 (di (I l)),ch 8 (di (0:Nat))]) (di (I (U eT l):Int)=di (I l:Int)/\Q (di 0)/\I0 tc (I ba.H) (di (ez p l 0)) ba [kl q8 [1,0,1,0,0],bf 0,kc q8 [1,1]] (cy 19 [(0,dl (U eT l)),(1,bt (bw F fs cs)),(7,di (I l:Int)),(8,di (↑0:Int))]) ba) ⟨by simp,rfl,⟨?_⟩⟩
 exact AfI F fs cs p l hl hp _ 0 rfl
noncomputable abbrev AoK:=Tryz.f262
theorem ME(F:yx)(fs cs:List V)(p:cr->Bool)(l:List (cr))(hl:I l<=1000000)(hp:∀x∈l,F0 F ((fs++[vT x]++cs).map .v) (db (p x))):
  F0 262 [dl (l.map eT),.v (.fn F fs cs)] (db (l.any p)):=by
 refine sv AoK 9 [] (.c (di (ez p l 0)) .r) (F0 286 [bt (ai (U eT l)),bt (bw F fs cs)] (di (ez p l 0))/\db (Y (ez p l 0>=0))=db (List.any l p)) ?_
 grind[AfH,HC]
noncomputable abbrev Aqa:=Tryz.f284
noncomputable abbrev Aox:=Tryz.f292
noncomputable abbrev Ao4:=Tryz.f261
def lz(x:Int):Bool:=Y (x<0)||Y (x>=6)
theorem AeF(x:Int):F0 292 [di x] (db (lz x)):=by
 refine sv Aox 9 [] (.b .r .r) ((Y (x<0)=J->db J=db (lz x))/\(Y (x<0)=O->db (Y (x>=6))=db (lz x))) ?_
 grind[lz]
def Db(r:List Int):Bool:=Y ((I r:Int)>=1)&&(Y ((I r:Int)<=6)&& !(r.any lz))
theorem AeE(r:List Int):F0 284 [cx r] (db (Db r)):=by
 refine sv Aqa 16 [] (.b (.b (.c (db (r.any lz)) .r) .r) .r) ((Y ((I (U vi r):Int)>=1)=J->(Y ((I (U vi r):Int)<=6)=J->F0 96 [cx r,bt (bw 292 [] [])] (db (List.any r lz))/\(db !List.any r lz)=db (Db r))/\(Y ((I (U vi r):Int)<=6)=O->db O=db (Db r)))/\(Y ((I (U vi r):Int)>=1)=O->db O=db (Db r))) ?_
 grind[Dh,AeF,Db]
theorem AeQ(r:List Int)(h:Db r=J):F0 261 [cx r,dl []] (db J):=by
 refine sv Ao4 18 [2] (.c (db (Db r))<|.t<|.k<|.c (db O) .r) (F0 284 [cx r] (db (Db r))/\Db r=J/\F0 96 [bt (ai []),bt (bw 285 [] [bz (cw r)])] (db O)/\(db !false)=db J) ?_
 exact⟨AeE r,h,Dh _ [] [_] (fun _=>false) [] (by simp) (fun x hx=>by grind),rfl⟩
noncomputable abbrev qz:=Tryz.f207
noncomputable abbrev ApZ:=Tryz.f263
def CO:Nat->cr->Bool
 |0,_=>false
 |_+1,.nat=>true
 |_+1,.lab n=>Y (n>=1)&&Y (n<=16)
 |_+1,.prio n r=>(n==I r)&&Db r
 |d+1,.word t=>CO d t
 |d+1,.bag t=>CO d t
 |d+1,.prod l=> !((I l:Int)==0)&&(!decide ((I l:Int)>8)&&l.all (CO d))
theorem J3(t:cr)(d:Nat)(hd:d<=100)(h:F0 207 [dT t,di d] (db J)):F0 263 [dT t,.v (.ref (vi ((d+1:Nat):Int)))] (db O):=by
 refine sv ApZ 9 [2] (.c (db J) .r) (F0 207 [bt (vT t),di (yu yt ((↑(d+1):Int)-1))] (db J)/\(db !true)=db O) ?_
 grind[Ak]
theorem Aaj(d:Nat):F0 207 [dT .nat,di ((d+1:Nat):Int)] (db J):=by
 refine sv qz 94 [2,3] (.f .r) (((↑(d+1):Int)==0)=O/\db (cr.sz cr.nat==0)=db J) ?_
 grind[cr.sz]
theorem Aak(d:Nat)(n:Int)(h1:1<=n)(h2:n<=16):F0 207 [dT (.lab n),di ((d+1:Nat):Int)] (db J):=by
 refine sv qz 94 [2,3] (.f<|.k<|.k<|.k<|.k<|.k<|.k<|.t .r) (((↑(d+1):Int)==0)=O/\Y (cr.sz (cr.lab n)>=1)=J/\db (Y (cr.sz (cr.lab n)<=16))=db J) ?_
 grind[cr.sz]
theorem WU(d:Nat)(n:Int)(r:List Int)(h1:n=I r)(h2:Db r=J):F0 207 [dT (.prio n r),di ((d+1:Nat):Int)] (db J):=by
 refine sv qz 94 [2,3] (.f<|.t<|.k<|.k<|.k<|.k<|.k<|.k<|.t<|.c (db J) .r) (((↑(d+1):Int)==0)=O/\Y ((I (U vi (cr.rk (ge n r))):Int)>0)=J/\(cr.sz (ge n r)==(I (U vi (cr.rk (ge n r))):Int))=J/\F0 261 [bt (cw (cr.rk (ge n r))),bt (ai [])] (db J)/\Q (db J)) ?_
 grind[Db,AeQ,cr.rk,cr.sz]
noncomputable abbrev Atl:=fun a₀ (b₀:Nat)=>F0 262 [bt (ai [eT a₀]),bt (bw 263 [] [bz (vi (↑(b₀+1):Int))])] (db O)
theorem WS(d:Nat)(t:cr)(hd:d<=100)(h:F0 207 [dT t,di d] (db J)):F0 207 [dT (.word t),di ((d+1:Nat):Int)] (db J):=by
 refine sv qz 94 [2,3] (.f<|.c (db O) .r) (((↑(d+1):Int)==0)=O/\Atl t d/\(db !false)=db J) ?_
 have hz:(((d+1:Nat):Int)==0)=O:=Iy.2 (by omega)
 exact⟨hz,ME _ [] [_] (fun _=>false) [t] (by simp) (fun x hx=>by grind[J3]),rfl⟩
theorem Aal(d:Nat)(t:cr)(hd:d<=100)(h:F0 207 [dT t,di d] (db J)):F0 207 [dT (.bag t),di ((d+1:Nat):Int)] (db J):=by
 refine sv qz 94 [2,3] (.f<|.c (db O) .r) (((↑(d+1):Int)==0)=O/\Atl t d/\(db !false)=db J) ?_
 have hz:(((d+1:Nat):Int)==0)=O:=Iy.2 (by omega)
 exact⟨hz,ME _ [] [_] (fun _=>false) [t] (by simp) (fun x hx=>by grind[J3]),rfl⟩
theorem WT(d:Nat)(l:List cr)(hd:d<=100)(h1:((I l:Int)==0)=O)(h2:Y ((I l:Int)>8)=O)(h:∀t∈l,F0 207 [dT t,di d] (db J)):F0 207 [dT (.prod l),di ((d+1:Nat):Int)] (db J):=by
 refine sv qz 94 [2,3] (.f<|.k<|.k<|.k<|.k<|.k<|.k<|.k<|.k<|.f<|.f<|.c (db O) .r) (((↑(d+1):Int)==0)=O/\((I (jw l):Int)==0)=O/\Y ((I (jw l):Int)>8)=O/\F0 262 [bt (ai (jw l)),bt (bw 263 [] [bz (vi (↑(d+1):Int))])] (db O)/\(db !false)=db J) ?_
 have h3:¬((I l:Int)>8):=I3 h2
 have:=ME 263 [] [.ref (vi ((d+1:Nat):Int))] (fun _=>false) l (by omega) (fun x hx=>J3 x d hd (h x hx))
 grind[cr.ps]
theorem Hy:∀(d:Nat) (t:cr),d<=100->CO d t=J->F0 207 [dT t,di d] (db J)
 |0,t,_,h=>by grind[CO]
 |d+1,.nat,_,h=>Aaj d
 |d+1,.lab n,_,h=>by
  grind[CO,Aak]
 |d+1,.prio n r,_,h=>by
  grind[CO,WU]
 |d+1,.word t,hd,h=>WS d t (by omega) (Hy d t (by omega) (by grind[CO]))
 |d+1,.bag t,hd,h=>Aal d t (by omega) (Hy d t (by omega) (by grind[CO]))
 |d+1,.prod l,hd,h=>by
  simp only[CO,HJ,IA,I5] at h
  exact WT d l (by omega) h.1 h.2.1 fun t ht=>Hy d t (by omega) (h.2.2 t ht)
noncomputable abbrev Ao9:=Tryz.f149
theorem Aba(t:cr)(h:CO 8 t=J):F0 149 [dT t] (di 0):=by
 exact sv Ao9 6 [1] (.c (db J) .r) (_/\Q (di 0)) ⟨Hy 8 t (by omega) h,rfl⟩
noncomputable abbrev uy:=Tryz.f208
noncomputable def qd:=yl uy
noncomputable abbrev ir:=fun a₀=>(b9.size a₀)
theorem Agx(N:Nat):∀v:b9,v.size<=N->∀m:Int,0<=m->m<=1000->F0 208 [dV v,di m] (di (min (v.size:Int) (m+1))):=by
 induction N with
 |zero=>intro v hv;have:=v.size_pos;omega
 |succ N ihN=>
  intro v hv m hm0 hm1
  have hsz:=v.size_eq
  have loop (n:Nat):∀(k:Nat) (a:Int),I v.az-k=n->k+1<=a->a<=m+1->
    Rn PP uy 0 (di (min (a+(b9.sizes (v.az.drop k):Int)) (m+1))) ba ([kl qd [1,1,0,1,0,0],.blk 0,kc qd [1,1,1]]++[]) (cy 27 [(1,di m),(5,di a),(9,cq v.az),(10,di (I v.az)),(11,di k)]) ba:=by
   induction n using Nat.strongRecOn with
   |_ n ih=>
   intro k a hn ha0 ha1
   refine lv 27 [2] (.b (.e fun x:b9=>.x (Ac x)<|.b .r<|.c (di (min (x.size:Int) (m-a+1)))<|.ls [ke 1,ch 5 (di (min (a+(x.size:Int)) (m+1))),ke 9,ke 10,ch 11 (di (k+1:Nat))] ba) .r) ((Y ((k:Int)<(I v.az:Int))=J->∃a_2,0<=(k:Int)/\(ce v.az)[Z (k:Int)]?=G (Ac a_2)/\(Y (a>m)=J->di a=di (min (a+(↑(b9.sizes (W k v.az)):Int)) (m+1)))/\(Y (a>m)=O->Aa PP 208 [dV a_2,di (yu yt (m-a))] d6 (di (min (↑(ir a_2):Int) (m-a+1))) d6/\di (yu yt (a+min (↑(ir a_2):Int) (m-a+1)))=di (min (a+(↑(ir a_2):Int)) (m+1))/\di (yu yt ((k:Int)+1))=di (↑(k+1):Int)/\Nv.It (A2 (CN 0) PP (fun env σ1=>AA PP uy env σ1 (di (min (a+(↑(b9.sizes (W k v.az)):Int)) (m+1))) ba) [kl qd ee,bf 0,kc qd [1,1,1]] (cy 27 [(1,di m),(5,di (min (a+(↑(ir a_2):Int)) (m+1))),(9,cq v.az),(10,di (I v.az:Int)),(11,di (↑(k+1):Int))]) ba)))/\(Y ((k:Int)<(I v.az:Int))=O->di a=di (min (a+(↑(b9.sizes (W k v.az)):Int)) (m+1)))) ⟨fun h=>?_,fun h=>?_⟩
   ·have hk:k<I v.az:=by simpa using h
    have hx:v.az[k]?=G v.az[k]:=HI hk
    rw[HX hk]
    generalize v.az[k]=x at hx⊢
    have hxs:=b9.size_mem (HO hx)
    have hx1:=x.size_pos
    simp only[b9.sizes]
    refine⟨x,by omega,Ap hx,fun h1=>?_,fun h1=>⟨?_,?_,Ae,⟨?_⟩⟩⟩
    ·have h1:=HT h1
     rw[II];split<;>congr 1<;>omega
    ·rw[Ak]
     have h1:=I3 h1
     exact ihN x (by omega) (m-a) (by omega) (by omega)
    ·have h1:=I3 h1
     rw[Ak (by rw[II];split<;>omega) (by rw[II];split<;>omega)]
     simp only[II];congr 1;split<;>split<;>omega
    ·have h1:=I3 h1
     have:=ih (I v.az- (k+1)) (by omega) (k+1) (min (a+(x.size:Int)) (m+1)) rfl (by rw[II];split<;>omega) (by rw[II];split<;>omega)
     rw[show min (min (a+(x.size:Int)) (m+1)+(b9.sizes (v.az.drop (k+1)):Int)) (m+1)=min (a+((x.size+b9.sizes (v.az.drop (k+1)):Nat):Int)) (m+1) by simp only[II];(repeat' split)<;>omega] at this
     exact this
   ·have hk:I v.az<=k:=by simpa using h
    rw[Ic hk]
    simp only[b9.sizes];rw[II];split<;>congr 1<;>omega
  refine sv uy 27 [2] (.l [ke 1,ch 5 (di 1),ke 9,ch 10 (di (I v.az)),ch 11 (di (0:Nat))]) (Q (di 1)/\di (I (ce v.az):Int)=di (I v.az:Int)/\Q (di 0)/\I0 uy (I ba.H) (di (min (↑(ir v):Int) (m+1))) ba [kl qd ee,bf 0,kc qd [1,1,1]] (cy 27 [(1,di m),(5,di 1),(9,cq v.az),(10,di (I v.az:Int)),(11,di (↑0:Int))]) ba) ⟨rfl,by rw[HH],rfl,⟨?_⟩⟩
  have:=loop _ 0 1 rfl (by omega) (by omega)
  grind
noncomputable abbrev Amm:=Tryz.f150
theorem WZ(v:b9):F0 150 [dV v] (di (min (v.size:Int) 129)):=by
 exact sv Amm 6 [1] (.c (di (min (v.size:Int) 129)) .r) (_/\di (if 129<min (↑(ir v):Int) 129 then 129 else min (↑(ir v):Int) 129)=di (min (↑(ir v):Int) 129)) ⟨Agx _ v (HP _) 128 (by decide) (by decide),by grind⟩
noncomputable abbrev Ao8:=Tryz.f85
def Ai(t:cr)(v:b9):Bool:=Y ((v.size:Int)<=128)&&Ax t v
theorem L7(t:cr)(h:CO 8 t=J)(v:b9):F0 85 [dT t,dV v] (db (Ai t v)):=by
 refine sv Ao8 18 [2,3] (.c (di 0)<|.c (di (min (v.size:Int) 129))<|.b (.c (db (Ax t v)) .r) .r) (_/\_/\(Y (min (↑(ir v):Int) 129<=128)=J->F0 151 [bt (vT t),dV v] (db (Ax t v))/\db (Ax t v)=db (Ai t v))/\(Y (min (↑(ir v):Int) 129<=128)=O->db O=db (Ai t v))) ⟨Aba t h,WZ v,fun h1=>?_,fun h1=>?_⟩
 ·have h1:=HT h1
  have h2:(v.size:Int)<=128:=by rw[II] at h1;split at h1<;>omega
  exact⟨Afo _ t (HP _) v (by omega),by rw[Ai,HK h2,Is]⟩
 grind[Ai]
noncomputable abbrev vg:=Tryz.f193
structure pn where
 pl:Int
 ph:Int
 ll:Int
 lh:Int
 vl:Int
 vh:Int
 al:Int
 ah:Int
abbrev k8(l:pn):D:=.v (.agg [vi l.pl,vi l.ph,vi l.ll,vi l.lh,vi l.vl,vi l.vh,vi l.al,vi l.ah])
abbrev Aom:pn:=⟨1,6,0,0,0,0,0,0⟩
abbrev ur:pn:=⟨1,2,1,6,0,0,0,0⟩
abbrev xu:pn:=⟨1,6,0,0,0,0,0,3⟩
theorem ApS:F0 193 [di 1] (k8 Aom):=by
 refine sv vg 29 [] .r (bt (ab [vi 1,vi 6,vi 0,vi 0,vi 0,vi 0,vi 0,vi 0])=k8 Aom) ?_
 rfl
theorem ApR:F0 193 [di 2] (k8 ur):=by
 refine sv vg 29 [] .r (bt (ab [vi 1,vi 2,vi 1,vi 6,vi 0,vi 0,vi 0,vi 0])=k8 ur) ?_
 rfl
theorem ApQ:F0 193 [di 3] (k8 ur):=by
 refine sv vg 29 [] .r (bt (ab [vi 1,vi 2,vi 1,vi 6,vi 0,vi 0,vi 0,vi 0])=k8 ur) ?_
 rfl
theorem ApP:F0 193 [di 5] (k8 xu):=by
 refine sv vg 29 [] .r (bt (ab [vi 1,vi 6,vi 0,vi 0,vi 0,vi 0,vi 0,vi 3])=k8 xu) ?_
 rfl
noncomputable abbrev AlZ:=Tryz.f143
def Dp(l:pn)(m:cz):Bool:=A4 (I m.aw) 1 8&&(Y ((I m.av:Int)<=12)&&(A4 (I m.ay) l.pl l.ph&&(A4 (I m.ax) l.ll l.lh&&(A4 m.ao l.vl l.vh&&A4 m.age l.al l.ah))))
theorem NI(l:pn)(m:cz)(h:F0 193 [di m.kind] (k8 l)):F0 143 [Ad m] (db (Dp l m)):=by
 refine sv AlZ 63 [1] (.c (k8 l)<|.c (db (A4 (I m.aw) 1 8))<|.b (.b (.c (db (A4 (I m.ay) l.pl l.ph))<|.b (.c (db (A4 (I m.ax) l.ll l.lh))<|.b (.c (db (A4 m.ao l.vl l.vh))<|.b (.c (db (A4 m.age l.al l.ah)) .r) .r) .r) .r) .r) .r) (F0 193 [di m.kind] (k8 l)/\F0 142 [di (I (df m.aw):Int),di 1,di 8] (db (A4 (I m.aw:Int) 1 8))/\(A4 (I m.aw:Int) 1 8=J->(Y ((I (U Al m.av):Int)<=12)=J->iz 0<=0/\0<(↑2:Int)/\iz 0<=1/\1<(↑2:Int)/\F0 142 [di (I (df m.ay):Int),di l.pl,di l.ph] (db (A4 (I m.ay:Int) l.pl l.ph))/\(A4 (I m.ay:Int) l.pl l.ph=J->iz 0<=0/\0<(↑2:Int)/\iz 0<=1/\1<(↑2:Int)/\F0 142 [di (I (df m.ax):Int),di l.ll,di l.lh] (db (A4 (I m.ax:Int) l.ll l.lh))/\(A4 (I m.ax:Int) l.ll l.lh=J->iz 0<=0/\0<(↑2:Int)/\iz 0<=1/\1<(↑2:Int)/\F0 142 [di m.ao,di l.vl,di l.vh] (db (A4 m.ao l.vl l.vh))/\(A4 m.ao l.vl l.vh=J->iz 0<=0/\0<(↑2:Int)/\iz 0<=1/\1<(↑2:Int)/\F0 142 [di m.age,di l.al,di l.ah] (db (A4 m.age l.al l.ah))/\db (A4 m.age l.al l.ah)=db (Dp l m))/\(A4 m.ao l.vl l.vh=O->db O=db (Dp l m)))/\(A4 (I m.ax:Int) l.ll l.lh=O->db O=db (Dp l m)))/\(A4 (I m.ay:Int) l.pl l.ph=O->db O=db (Dp l m)))/\(Y ((I (U Al m.av):Int)<=12)=O->db O=db (Dp l m)))/\(A4 (I m.aw:Int) 1 8=O->db O=db (Dp l m))) ?_
 grind[EN,Dp]
noncomputable abbrev Ajm:=Tryz.f144
noncomputable abbrev Agb:=Tryz.f194
theorem QI(x:Int):F0 194 [di x] (db (!A4 x 0 5)):=by
 refine sv Agb 6 [] (.c (db (A4 x 0 5)) .r) (F0 142 [di x,di 0,di 5] (db (A4 x 0 5))/\(db !A4 x 0 5)=db !A4 x 0 5) ?_
 grind[EN]
def C3(m:cz):Bool:=if (m.kind !=3)=J then(I m.au:Int)==0 else((I m.au:Int)==I m.ax)&&m.au.all fun x=>A4 x 0 5
theorem Mq(m:cz)(hm:I m.au<=1000000):F0 144 [Ad m] (db (C3 m)):=by
 refine sv Ajm 23 [1] (.b .r (.b (.c (db (m.au.any fun x=> !A4 x 0 5)) .r) .r)) (((m.kind !=3)=J->db ((I (cc m.au):Int)==0)=db (C3 m))/\((m.kind !=3)=O->(((I (cc m.au):Int)==(I (df m.ax):Int))=J->F0 96 [cx m.au,bt (bw 194 [] [])] (db (List.any m.au fun x=> !A4 x 0 5))/\(db !List.any m.au fun x=> !A4 x 0 5)=db (C3 m))/\(((I (cc m.au):Int)==(I (df m.ax):Int))=O->db O=db (C3 m)))) ?_
 grind[Dh,QI,C3]
noncomputable abbrev Ajo:=Tryz.f152
theorem EW(n:Int):F0 152 [di n] (dT (.lab n)):=by
 refine sv Ajo 5 [] .r (bt (ab [vi 2,vi n,ai [],ai []])=dT (cr.lab n)) ?_
 rfl
noncomputable abbrev AhE:=Tryz.f154
theorem Xp(t:cr):F0 154 [di 4,dT t] (dT (.word t)):=by
 refine sv AhE 9 [3] .r (bt (ab [vi 4,vi 0,ai [],ai [vT t]])=dT (cr.word t)) ?_
 grind[OT]
theorem Abi(t:cr):F0 154 [di 5,dT t] (dT (.bag t)):=by
 refine sv AhE 9 [3] .r (bt (ab [vi 5,vi 0,ai [],ai [vT t]])=dT (cr.bag t)) ?_
 grind[TR]
noncomputable abbrev GI:=Tryz.f86
noncomputable def Et:=yl GI
abbrev Qj(l:List cr):D:=.acc 1 (l.map eT)
abbrev mu(l:List cr):St:=⟨[G [di 0,di 0,.v .nils,.v .nils]],[(1,4,l.map eT)]⟩
theorem Cz(l:List cr)(t:cr):l.map eT++[vT t]=(l++[t]).map eT:=by grind[XF]
def EI(m:cz):cr:=if m.kind=1 then .nat else if m.kind=2 then .word (.lab (I m.ax)) else .prio (I m.ax) m.au
def AH(m:cz):cr:=.prod (.lab (I m.aw)::replicate (I m.ay) (EI m))
noncomputable abbrev qo:=fun a₀=>(ab [vi 3,vi 0,ai [],ai (U eT a₀)])
noncomputable abbrev Av6:=(vi 1::vi 0::ai nV::ai nV::nV)
theorem S5(m:cz)(hm:I m.ay<=1000)(hk:m.kind=1)(n:Nat):∀(k:Nat) (xs:List cr),I m.ay-k=n->k<=I m.ay->I xs<=k+1->
  Rn PP GI 0 (dT (.prod (xs++replicate n (.nat)))) ba ([kl Et [1,1,0,1,0,1,1,1,1,1,0,0],.blk 1,.blk 0,kc Et [1,1,1]]++[]) (cy 70 [(1,.v (.ref (A1 m))),(2,.ptr 0 0),(3,Qj xs),(14,di (I m.ay)),(15,di k)]) (mu xs):=by
 induction n with
 |zero=>
  intro k xs hn hk0 hxs
  refine lv 70 [1] (.f .r) (Y ((k:Int)<(I m.ay:Int))=O/\bt (qo xs)=dT (cr.prod (xs++replicate 0 cr.nat))) ⟨yq,?_⟩
  rw[List.replicate_zero,I8];rfl
 |succ n ih=>
  intro k xs hn hk0 hxs
  have h:=ih (k+1) (xs++[.nat]) (by omega) (by omega) (by grind)
  rw[IQ] at h
  refine lv 70 [1] (.t<|.f<|.f<|.ls [ke 1,ke 2,ch 3 (Qj (xs++[.nat])),ke 14,ch 15 (di (k+1:Nat))] (mu (xs++[.nat]))) (Y ((k:Int)<(I m.ay:Int))=J/\(m.kind==2)=O/\(m.kind==3)=O/\Q (U eT xs)/\Ao (I (U eT xs)+I (ab (aa yt 1::aa yt 0::ai nV::ai nV::nV)::nV)) 64/\br 1 (U eT xs++[ab [vi 1,vi 0,ai [],ai []]])=Qj (xs++[cr.nat])/\di (yu yt ((k:Int)+1))=di (↑(k+1):Int)/\Q (mu (xs++[.nat])).H/\[(1,4,U eT xs++ab Av6::nV)]=[(1,4,U eT (xs++[cr.nat]))]/\_) ⟨yr,by grind,by grind,rfl,⟨?_,?_⟩,?_,Ae,rfl,?_,iK h⟩
  ·grind
  ·grind
  ·rw[Qj, ←Cz];rfl
  ·rw[←Cz];rfl
noncomputable abbrev wc:=fun a₀=>F0 152 [di (I (df a₀):Int)] (dT (cr.lab (I a₀:Int)))
noncomputable abbrev kf:=[di 0,di 0,dn,dn]
noncomputable abbrev n9:=(2,bq 0 0)
theorem S4(m:cz)(hm:I m.ay<=1000)(hk:m.kind=2)(n:Nat):∀(k:Nat) (xs:List cr),I m.ay-k=n->k<=I m.ay->I xs<=k+1->
  Rn PP GI 0 (dT (.prod (xs++replicate n (.word (.lab (I m.ax)))))) ba ([kl Et [1,1,0,1,0,1,1,1,1,1,0,0],.blk 1,.blk 0,kc Et [1,1,1]]++[]) (cy 70 [(1,.v (.ref (A1 m))),(2,.ptr 0 0),(3,Qj xs),(14,di (I m.ay)),(15,di k)]) (mu xs):=by
 induction n with
 |zero=>
  intro k xs hn hk0 hxs
  refine lv 70 [1] (.f .r) (Y ((k:Int)<(I m.ay:Int))=O/\bt (qo xs)=dT (cr.prod (xs++replicate 0 (cr.word (cr.lab (I m.ax:Int)))))) ⟨yq,?_⟩
  rw[List.replicate_zero,I8];rfl
 |succ n ih=>
  intro k xs hn hk0 hxs
  refine lv 70 [1] (.t<|.t<|.c (dT (.lab (I m.ax)))<|.c (dT (.word (.lab (I m.ax))))<|.ls [ke 1,ke 2,ch 3 (Qj (xs++[.word (.lab (I m.ax))])),ke 14,ch 15 (di (k+1:Nat))] (mu (xs++[.word (.lab (I m.ax))]))) (Y ((k:Int)<(I m.ay:Int))=J/\(m.kind==2)=J/\wc m.ax/\F0 154 [di 4,bt (vT (cr.lab (I m.ax:Int)))] (dT (cr.word (cr.lab (I m.ax:Int))))/\Q (U eT xs)/\Ao (I (U eT xs)+I (ab (vi (cr.kd (cr.word (cr.lab (I m.ax:Int))))::vi (cr.sz (cr.word (cr.lab (I m.ax:Int))))::cw (cr.rk (cr.word (cr.lab (I m.ax:Int))))::ai (U eT (cr.ps (cr.word (cr.lab (I m.ax:Int)))))::nV)::nV)) 64/\br 1 (U eT xs++[ab [vi (cr.kd (cr.word (cr.lab (I m.ax:Int)))),vi (cr.sz (cr.word (cr.lab (I m.ax:Int)))),cw (cr.rk (cr.word (cr.lab (I m.ax:Int)))),ai [eT (cr.lab (I m.ax:Int))]]])=Qj (xs++[cr.word (cr.lab (I m.ax:Int))])/\di (yu yt ((k:Int)+1))=di (↑(k+1):Int)/\Q [G kf]/\[(1,4,U eT xs++ab (vi (cr.kd (cr.word (cr.lab (I m.ax:Int))))::vi (cr.sz (cr.word (cr.lab (I m.ax:Int))))::cw (cr.rk (cr.word (cr.lab (I m.ax:Int))))::ai (eT (cr.lab (I m.ax:Int))::nV)::nV)::nV)]=[(1,4,U eT (xs++[cr.word (cr.lab (I m.ax:Int))]))]/\I0 GI 0 (dT (cr.prod (xs++replicate (n+1) (cr.word (cr.lab (I m.ax:Int)))))) ba [kl Et [1,1,0,1,0,1,1,1,1,1,0,0],bf 1,bf 0,kc Et [1,1,1]] (cy 70 [(1,bt (iq m)),n9,(3,Qj (xs++[cr.word (cr.lab (I m.ax:Int))])),(14,di (I m.ay:Int)),(15,di (↑(k+1):Int))]) (mu (xs++[cr.word (cr.lab (I m.ax:Int))]))) ?_
  have h:=ih (k+1) (xs++[.word (.lab (I m.ax))]) (by omega) (by omega) (by grind)
  rw[IQ] at h
  refine⟨yr,by grind,by grind[EW],Xp _,rfl,⟨?_,?_⟩,?_,Ae,rfl,?_,⟨h⟩⟩
  ·grind
  ·grind
  ·rw[Qj, ←Cz];rfl
  ·rw[←Cz];rfl
theorem S3(m:cz)(hm:I m.ay<=1000)(hr:I m.au<=1000000)(hk:m.kind=3)(n:Nat):∀(k:Nat) (xs:List cr),I m.ay-k=n->k<=I m.ay->I xs<=k+1->
  Rn PP GI 0 (dT (.prod (xs++replicate n (.prio (I m.ax) m.au)))) ba ([kl Et [1,1,0,1,0,1,1,1,1,1,0,0],.blk 1,.blk 0,kc Et [1,1,1]]++[]) (cy 70 [(1,.v (.ref (A1 m))),(2,.ptr 0 0),(3,Qj xs),(14,di (I m.ay)),(15,di k)]) (mu xs):=by
 induction n with
 |zero=>
  intro k xs hn hk0 hxs
  refine lv 70 [1] (.f .r) (Y ((k:Int)<(I m.ay:Int))=O/\bt (qo xs)=dT (cr.prod (xs++replicate 0 (cr.prio (I m.ax:Int) m.au)))) ⟨yq,?_⟩
  rw[List.replicate_zero,I8];rfl
 |succ n ih=>
  intro k xs hn hk0 hxs
  have h:=ih (k+1) (xs++[.prio (I m.ax) m.au]) (by omega) (by omega) (by grind)
  rw[IQ] at h
  refine lv 70 [1] (.t<|.f<|.t<|.c (cx m.au)<|.ls [ke 1,ke 2,ch 3 (Qj (xs++[.prio (I m.ax) m.au])),ke 14,ch 15 (di (k+1:Nat))] (mu (xs++[.prio (I m.ax) m.au]))) (Y ((k:Int)<(I m.ay:Int))=J/\(m.kind==2)=O/\(m.kind==3)=J/\_/\Q (U eT xs)/\Ao (I (U eT xs)+I (ab (aa yt 7::aa yt (I (df m.ax):Int)::cw m.au::ai nV::nV)::nV)) 64/\br 1 (U eT xs++[ab [vi 7,vi (I (df m.ax):Int),cw m.au,ai []]])=Qj (xs++[cr.prio (I m.ax:Int) m.au])/\di (yu yt ((k:Int)+1))=di (↑(k+1):Int)/\Q [G kf]/\[(1,4,U eT xs++ab (vi 7::vi (I (df m.ax):Int)::cw m.au::ai nV::nV)::nV)]=[(1,4,U eT (xs++[cr.prio (I m.ax:Int) m.au]))]/\_) ⟨yr,by grind,by grind,No m.au hr,rfl,⟨?_,?_⟩,?_,Ae,rfl,?_,iK h⟩
  ·grind
  ·grind
  ·rw[Qj, ←Cz];rw[HH];rfl
  ·rw[←Cz];rw[HH];rfl
theorem NE(m:cz)(hm:I m.ay<=1000)(hr:I m.au<=1000000)(hk:m.kind=1∨m.kind=2∨m.kind=3):F0 86 [Ad m] (dT (AH m)):=by
 refine sv GI 70 [1] (.c (dT (.lab (I m.aw)))<|.a 1<|.f<|.f<|.ls [ke 1,ke 2,ch 3 (Qj [.lab (I m.aw)]),ch 14 (di (I m.ay)),ch 15 (di (0:Nat))] (mu [.lab (I m.aw)])) (wc m.aw/\(m.kind==4)=O/\(m.kind==5)=O/\br 1 [vT (cr.lab (I m.aw:Int))]=Qj [cr.lab (I m.aw:Int)]/\di (I (df m.ay):Int)=di (I m.ay:Int)/\Q (di 0)/\Q [G kf]/\Q [(1,4,vT (cr.lab (I m.aw:Int))::nV)]/\I0 GI (I ba.H) (dT (AH m)) ba [kl Et [1,1,0,1,0,1,1,1,1,1,0,0],bf 1,bf 0,kc Et [1,1,1]] (cy 70 [(1,bt (iq m)),n9,(3,Qj [cr.lab (I m.aw:Int)]),(14,di (I m.ay:Int)),(15,di (↑0:Int))]) (mu [cr.lab (I m.aw:Int)])) ⟨by grind[EW],by grind,by grind,rfl,by grind,rfl,rfl,rfl,⟨?_⟩⟩
 rcases hk with h|h|h
 ·have:=S5 m hm h _ 0 [.lab (I m.aw)] rfl (by omega) (by simp)
  grind[AH,EI]
 ·have:=S4 m hm h _ 0 [.lab (I m.aw)] rfl (by omega) (by simp)
  grind[AH,EI]
 ·have:=S3 m hm hr h _ 0 [.lab (I m.aw)] rfl (by omega) (by simp)
  grind[AH,EI]
end Go.Proofs.YtkkplhjidondkaaGreat
