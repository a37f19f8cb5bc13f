/-
  A part of the proof.
-/
import Derived.Test.YtgigepkgakpjbaaGreatZe
import Derived.Test.YtgigepkgakpjbaaGreatZd
import Derived.Test.YtgigepkgakpjbaaGreatZc
import Derived.Test.YtgigepkgakpjbaaGreatZb
import Derived.Below
open Go.Proofs.Tryz renaming f17->Ad8,f4->AlE,f126->Ap2,f243->Apr,f188->ArK,f10->E9,f23->EI,f11->El,f30->F3,f19->Gz,f21->Ve,f3->gb,f8->qf,f13->vj
open Go.IntKind (u64)
open Go.IntKind renaming wrap->yu,i64->yt
open List renaming length->I,map->U,drop->W
open Option renaming some->G
open Bool renaming true->J,false->O
open Decidable renaming decide->Y
open Int renaming toNat->Z
open Go.Dv.V renaming list->ae,str->ab,agg->aa,int->a8,ref->bz,fn->bw,nils->bv,bool->bu
open Go.Dv.D renaming v->bt,acc->br,ptr->bq,arr->bo,gro->bm,tup->bl,undef->bk,dagg->bj
open Go.Dv.St renaming mk->bi
open Go.Dv.KI renaming blk->bh
open _root_.ByteArray renaming mk->bf
open Go renaming Operand->x8,Program->x7,TypeId->x6,World->x5,Value->yz,Oper->yy,FuncId->yx,Func->yw,IntKind->yv
namespace Go.Proofs.YtgigepkgakpjbaaGreat
open Go.Dv Go.Nv
set_option maxRecDepth 20000
open List (any_cons getElem?_of_mem length_set mem_range range_succ replicate take)
section
variable {m : cx} {t : cr} (hm : w9 m t)
include hm
theorem AoB(hk:m.kind≠1)(i:Int):F0 243 [Af m,di i] (di 15):=by
 exact sv Apr 23 [2] (.c (di 0)<|.k<|.t .r) (_/\(m.kind !=1)=J/\Q (di 15)) ⟨hm.chk,bne_iff_ne.2 hk,rfl⟩
theorem ArS(hk:m.kind≠1)(i:Int)(c:b9):F0 188 [Af m,di i,dV c] (.tup [db O,di 15]):=by
 refine sv ArK 26 [3,5] (.c (di 15)<|.k .r) (F0 243 [Af m,di i] (di 15)/\Q (bl [db O,di 15])) ?_
 grind[AoB]
theorem Aso(hk:m.kind≠1)(i:Int)(c:b9):F0 126 [Af m,di i,dV c] (dP (.mk 0 [],15)):=by
 exact sv Ap2 116 [3,5] (.c (.tup [db O,di 15])<|.k .r) (_/\Q (bl [bt nv,di 15])) ⟨ArS hm hk i c,rfl⟩
end
theorem m4.rf{m:cx}(hm:m4 m):w9 m (AM m):=⟨Dc m hm.ok,fun c _=>Rz m hm.ok c,by rcases hm.kind with h|h<;>simp[h],hm.few.1⟩
theorem BB.rf{m:cx}(hm:BB m):w9 m (Az m):=⟨Ta m hm,fun c _=>HC m hm c,.inr (.inr hm.kind),by have:=hm.count;omega⟩
theorem AiX{m:cx}(hm:BB m){c:b9}(hv:Al (Az m) c=J)(hl:∀i,(T8 m (Az m) c i).1.length<=1000):F0 41 [Af m,dV c] (fv (DD (T8 m (Az m) c) (I m.av+1) (-1) [])):=by
 have hcs:c.size<=1000:=by
  obtain⟨s,ps,rfl,hw⟩:=Qa hv
  rw[Hm];have:=hw.len;omega
 refine AeM hm.rf hcs hv _ hl fun i h1 h2=>?_
 by_cases h0:i<0
 ·have e:i= -1:=by omega
  subst e
  have ea:T8 m (Az m) c (-1)=([ot m c],0):=by rfl
  rw[ea]
  exact AeH hm.rf hcs hv _ (AnT hm.rf hcs hv hm.kind _ (XP m hm c hv))
 ·obtain⟨k,rfl⟩:∃k:Nat,i=k:=⟨i.toNat,by omega⟩
  obtain⟨r,hr⟩:∃r,m.av[k]?=G r:=⟨_,HK (show k<I m.av by omega)⟩
  have ea:T8 m (Az m) c (k:Nat)=R6 (Az m) r c:=by grind[T8]
  rw[ea]
  exact Aqf hm.rf hcs hv hm.kind k (by omega) _ (AeJ m hm k r hr c hv)
theorem AiZ{m:cx}(hm:m4 m){c:b9}(hv:Al (AM m) c=J)(hl:∀i,(jl m (AM m) c i).1.length<=1000):F0 41 [Af m,dV c] (fv (DD (jl m (AM m) c) (I m.av+1) (-1) [])):=by
 obtain⟨s,ws,rfl,h⟩:=Vv hm.kind hv
 have hcs:(dx s ws).size<=1000:=by grind[tc]
 refine AeM hm.rf hcs hv _ hl fun i h1 h2=>?_
 by_cases h0:i<0
 ·have e:i= -1:=by omega
  subst e
  have ea:jl m (AM m) (dx s ws) (-1)=(sortV (fp m (dx s ws) (I m.ay)),0):=by rfl
  rw[ea]
  refine AeH hm.rf hcs hv _ ?_
  rcases hm.kind with hk|hk
  ·exact AnV hm.rf hcs hv hk _ (OV hm h)
  ·exact AnU hm.rf hcs hv hk _ (OV hm h)
 ·obtain⟨k,rfl⟩:∃k:Nat,i=k:=⟨i.toNat,by omega⟩
  obtain⟨r,hr⟩:∃r,m.av[k]?=G r:=⟨_,HK (show k<I m.av by omega)⟩
  have ea:jl m (AM m) (dx s ws) (k:Nat)=C7 (ZS (AM m) r (dx s ws)):=by grind[jl]
  rw[ea]
  have hR:=hm.rule r (HQ hr)
  obtain⟨j,hj⟩:∃j:Nat,r.chan=j:=⟨r.chan.toNat,by have:=hR.chan;omega⟩
  obtain⟨w,hw⟩:∃w,ws[j]?=G w:=⟨_,HK (by have:=hR.chan;rw[h.len];omega)⟩
  exact Amw hm.rf hcs hv hm.kind k (by omega) _ _ (Aso hm.rf (by rcases hm.kind with h|h<;>rw[h]<;>decide) k (dx s ws)) (ZB hm h hr hj hw)
theorem N6:∀(l:List cr) (vs:List b9) (k:Nat) (t:cr) (v:b9),BU l vs=J->l[k]?=G t->vs[k]?=G v->A1 t v=J
 |[],_,_,_,_,_,h,_=>by grind
 |_::_,[],_,_,_,_,_,h=>by grind
 |s::l,x::vs,0,t,v,h,h1,h2=>by
  grind[BU]
 |s::l,x::vs,k+1,t,v,h,h1,h2=>by
  simp only[BU,HL] at h
  exact N6 l vs k t v h.2 (by grind) (by grind)
theorem L4{l:List cr}{c:b9}(h:Al (.prod l) c=J):c.size<=128/\c.az.length=I l/\BU l c.az=J:=by
 grind[Al,A1]
theorem Zq{m:cx}(hk:m.kind=2∨m.kind=3)(c:b9)(h:Al (AM m) c=J):ChC m c:=by
 obtain⟨h1,h2,h3⟩:=L4 h
 refine⟨h1,by rw[h2];simp;omega,fun k x hx=>?_⟩
 have hkl:=(HN.1 hx).1
 have ht:(cr.lab (I m.aw)::replicate (I m.ay) (Fg m))[1+k]?=G (Fg m):=by
  rw[show 1+k=k+1 by omega,JN,List.getElem?_replicate]
  rw[I4]
  simp at h2;omega
 have ho:=N6 _ _ _ _ _ h3 ht hx
 grind[Fg,A1]
theorem AeB{m:cx}(c:b9)(h:Al (Az m) c=J):wd c:=by
 obtain⟨h1,h2,h3⟩:=L4 h
 have hb:∀b,c.az[1]?=G b->A1 (.bag (.prod [.lab (I m.ay),.lab (m.age+2)])) b=J:=fun b hb=>N6 _ _ 1 _ _ h3 rfl hb
 refine⟨h1,h2,fun b hx=>?_,fun b v hx hv=>?_⟩
 all_goals grind[A1]
theorem G8.chm{K:Int}{m:cx}(hK:K=2∨K=3)(h:G8 K m):oa m (AM m):=by
 have hk:m.kind=2∨m.kind=3:=by rw[h.kind];exact hK
 have hpl:1<=I m.ay/\m.ay.length<=2:=by rcases h.ay with e|e<;>rw[e]<;>decide
 refine⟨(h.ok hK).int,G3 m (h.ok hK),hk,⟨by have:=h.count;omega,hpl.2⟩,fun r hr=>?_,Zq hk⟩
 obtain⟨i,hi⟩:=getElem?_of_mem hr
 have:=(h.av i r hi).act
 omega
theorem BB.tmm{m:cx}(h:BB m):m6 m (Az m):=by
 refine⟨h.int,Oi m h,h.kind,by have:=h.count;omega,fun r hr=>?_,AeB⟩
 obtain⟨i,hi⟩:=getElem?_of_mem hr
 have hr2:=h.av i r hi
 refine⟨?_,?_⟩
 ·rcases hr2.aq with e|⟨_,_,_,_,_,e⟩<;>rw[e]<;>simp
 ·rcases hr2.ao with e|⟨_,_,e⟩<;>rw[e]<;>simp
theorem Mq{t:cr}{c:b9}(h:Al t c=J):c.size<=128:=by
 grind[Al]
structure Aqj(m:cx)(C:b9->Prop)(S:b9->List er×Int):Prop where
 walks:F0 36 [Af m] (di 0)
 start:C m.start
 size:∀v,C v->v.size<=1000
 all:∀v,C v->F0 38 [Af m,dV v] (fv (S v))
 len:∀v,C v->(S v).1.length<=256
 next:∀v,C v->∀s∈ (S v).1,C s.2
theorem W9:∀{ks:List b9},(∀k∈ks,k.az=[])->ks=(ks.map b9.n).map fun x=>b9.mk x []
 |[],_=>rfl
 |k::ks,h=>by
  have h1:=h k (by simp)
  rw[I9,I9, ←W9 fun x hx=>h x (by grind)]
  cases k<;>grind[b9.az,b9.n]
theorem Sk:∀(n:Nat) (vs:List b9),I vs=n->BU (replicate n .nat) vs=J->∀v∈vs,(0<=v.n/\v.n<=1048576)/\v.az=[]
 |0,[],_,_,v,hv=>by grind
 |n+1,[],hl,_,_,_=>by grind
 |0,_::_,hl,_,_,_=>by grind
 |n+1,x::vs,hl,h,v,hv=>by
  rw[Jk] at h
  simp only[BU,HL] at h
  rcases IN.1 hv with rfl|hv
  ·grind[A1,List.length_eq_zero_iff]
  ·exact Sk n vs (by grind) h.2 v hv
theorem Vn{m:cx}(hk:m.kind=1){c:b9}(h:Al (AM m) c=J):BO m c:=by
 have hn:c.n=0:=by
  grind[Al,AM,A1]
 rw[AM,show Fg m=.nat by grind[Fg]] at h
 obtain⟨_,h2,h3⟩:=L4 h
 cases c with
 |mk n ks=>
  subst hn
  simp only[b9.az] at h2 h3
  cases ks with
  |nil=>simp at h2
  |cons x vs=>
   simp only[BU,HL] at h3
   have hl:I vs=I m.ay:=by simpa using h2
   have hx:=Hu (show CI (I m.aw) x=J by simpa only[A1] using h3.1)
   have hv:=Sk _ vs hl h3.2
   have e:b9.mk 0 (x::vs)=DQ x.n (vs.map b9.n):=by
    rw[DQ]
    congr 1
    have:=W9 (ks:=vs) fun k hk=>(hv k hk).2
    rw[←this]
    congr 1
    exact hx.1
   rw[e]
   exact vd m x.n ⟨hx.2.1,hx.2.2⟩ _ (by rw[HJ,hl]) fun y hy=>by
    obtain⟨v,hv1,rfl⟩:=IQ.1 hy
    exact(hv v hv1).1
theorem GU.ctm{m:cx}(h:GU m):iv m:=⟨h.ok,h.kind,Vn h.kind h.ok.start⟩
abbrev x9(m:cx):cr:=if m.kind=5 then Az m else AM m
def qx(m:cx)(c:b9)(i:Int):List b9×Int:=if m.kind=1 then j7 m c i else if m.kind=5 then T8 m (Az m) c i else jl m (AM m) c i
def CX(m:cx)(c:b9):List er×Int:=DD (qx m c) (I m.av+1) (-1) []
abbrev X6(m:cx)(v:b9):Prop:=Al (x9 m) v=J
theorem G8.chr{K:Int}{m:cx}(_:K=2∨K=3)(h:G8 K m):∀r∈m.av,w7 m r:=fun r hr=>by
 obtain⟨i,hi⟩:=getElem?_of_mem hr
 have h1:=h.av i r hi
 have hp:1<=I m.ay:=by rcases h.ay with e|e<;>rw[e]<;>decide
 refine⟨h1.to,?_,fun ha=>?_⟩
 ·rcases h1.act with⟨_,e,_⟩|⟨_,e,_⟩<;>omega
 ·rcases h1.act with⟨e,_,_⟩|⟨_,_,e⟩<;>omega
theorem DE.kinds{m:cx}(h:DE m):(iv m/\m.kind=1)∨(∃K,(K=2∨K=3)/\G8 K m/\m.kind=K)∨(BB m/\m.kind=5):=by
 cases h with
 |cM h=>exact .inl ⟨h.ctm,h.kind⟩
 |c h=>exact .inl ⟨h.ctm,h.kind⟩
 |l2 h=>exact .inr (.inl ⟨2,.inl rfl,h,h.kind⟩)
 |l3 h=>exact .inr (.inl ⟨3,.inr rfl,h,h.kind⟩)
 |tm h=>exact .inr (.inr ⟨h,h.kind⟩)
theorem O9{m:cx}(h:m.kind≠5):x9 m=AM m:=Iz h
theorem Aa4{m:cx}(h:m.kind=5):x9 m=Az m:=I4 h
theorem Aqc{m:cx}(h:m.kind=1):qx m=j7 m:=by grind[qx]
theorem Aqb{m:cx}(h:m.kind=5):qx m=T8 m (Az m):=by grind[qx]
theorem Aqa{m:cx}{K:Int}(hK:K=2∨K=3)(h:m.kind=K):qx m=jl m (AM m):=by grind[qx]
theorem DE.int{m:cx}(h:DE m):X3 m (x9 m):=by
 rcases h.kinds with⟨h,hk⟩|⟨K,hK,h,hk⟩|⟨h,hk⟩
 ·rw[O9 (by omega)];exact h.ok.int
 ·rw[O9 (by omega)];exact(h.ok hK).int
 ·rw[Aa4 hk];exact h.int
theorem G8.rks{K:Int}{m:cx}(h:G8 K m):I m.au<=1000:=by
 have h1:=h.au
 have h2:I m.ax<=2:=by rcases h.ax with e|e<;>rw[e]<;>simp
 grind
theorem DE.steps{m:cx}(h:DE m):Aqj m (X6 m) (CX m):=by
 have hI:=h.int
 rcases h.kinds with⟨h,hk⟩|⟨K,hK,h,hk⟩|⟨h,hk⟩
 ·have eT:=O9 (m:=m) (by omega)
  have eA:=Aqc hk
  have hC:∀v,X6 m v->BO m v:=fun v hv=>Vn hk (by rw[←eT];exact hv)
  have hS:∀v,CX m v=HH m v:=fun v=>by rw[CX,eA];rfl
  exact⟨hI.walks,by rw[X6,eT];exact h.ok.start,fun v hv=>by have:=(hC v hv).sizeM h;omega,fun v hv=>by rw[hS];exact XZ m h v (hC v hv),fun v hv=>by rw[hS];have:=(R9 h (hC v hv)).2.1;omega,fun v hv s hs=>by
   rw[hS] at hs
   rw[X6,eT]
   exact((R9 h (hC v hv)).2.2 s hs).ok.validM h⟩
 ·have eT:=O9 (m:=m) (by omega)
  have eA:=Aqa hK hk
  have hst:=(h.chm hK).st h.rks
  have hpl:I m.ay<=2:=by rcases h.ay with e|e<;>rw[e]<;>decide
  have hS:∀v,Al (AM m) v=J->CX m v=RI m (AM m) (jl m (AM m)) v:=fun v hv=>by rw[CX,eA,RI,I4 hv]
  refine⟨hI.walks,by rw[X6,eT];exact(h.ok hK).start,fun v hv=>by grind[Mq],fun v hv=>?_,fun v hv=>?_,fun v hv s hs=>?_⟩
  all_goals
   have hv':=hv
   rw[X6,eT] at hv'
   have h1:=AnB hst v (by have:=Mq hv;omega)
  ·grind
  ·grind
  ·rw[X6,eT]
   rw[CX,eA] at hs
   exact(Xy (ap:=jl m (AM m) v) (Q:=fun s=>Al (AM m) s.2=J) (fun i v' hv2=>(AeG (by omega) hpl (h.chr hK) hv' i).2 v' hv2) _ _) s hs
 ·have eT:=Aa4 hk
  have eA:=Aqb hk
  have hst:=h.tmm.st
  have hag:=h.age
  have hS:∀v,Al (Az m) v=J->CX m v=RI m (Az m) (T8 m (Az m)) v:=fun v hv=>by rw[CX,eA,RI,I4 hv]
  refine⟨hI.walks,by rw[X6,eT];exact h.start_ok,fun v hv=>by grind[Mq],fun v hv=>?_,fun v hv=>?_,fun v hv s hs=>?_⟩
  all_goals
   have hv':=hv
   rw[X6,eT] at hv'
   have h1:=AnB hst v (by have:=Mq hv;omega)
  ·grind
  ·grind
  ·rw[X6,eT]
   rw[CX,eA] at hs
   exact(Xy (ap:=T8 m (Az m) v) (Q:=fun s=>Al (Az m) s.2=J) (fun i v' hv2=>(ZC (by omega) hv' i).2 v' hv2) _ _) s hs
theorem G8.chx{K:Int}{m:cx}(hK:K=2∨K=3)(h:G8 K m):m4 m:=by
 have hp:1<=I m.ay/\m.ay.length<=2:=by rcases h.ay with e|e<;>rw[e]<;>decide
 have hl:I m.ax<=2:=by rcases h.ax with e|e<;>rw[e]<;>decide
 refine⟨h.ok hK,by have:=h.kind;omega,⟨by have:=h.count;omega,hp.1,hp.2⟩,by omega,fun h3=>?_,h.chr hK⟩
 have hk:=h.kind
 have e:K=3:=by omega
 subst e
 have hr:=h.au
 have hl1:1<=I m.ax:=by rcases h.ax with e|e<;>rw[e]<;>decide
 grind[lj,Df]
theorem DE.all22{m:cx}(h:DE m){c:b9}(hc:X6 m c):F0 41 [Af m,dV c] (fv (CX m c)):=by
 rcases h.kinds with⟨h,hk⟩|⟨K,hK,h,hk⟩|⟨h,hk⟩
 ·have eT:=O9 (m:=m) (by omega)
  rw[CX,Aqc hk]
  exact Aqg h (Vn hk (by grind))
 ·have eT:=O9 (m:=m) (by omega)
  have hv:Al (AM m) c=J:=by grind
  rw[CX,Aqa hK hk]
  exact AiZ (h.chx hK) hv fun i=>(((h.chm hK).st h.rks).bp c hv i).1
 ·have eT:=Aa4 hk
  have hv:Al (Az m) c=J:=by grind
  rw[CX,Aqb hk]
  exact AiX h hv fun i=>(h.tmm.st.bp c hv i).1
def ZJ(x:cx):Prop:=∀k:Int,∃(G:Gph) (e:Int),BT G/\F0 10 [Af x,di k] (.tup [dG G,di e])/\F0 11 [Af x,di k] (.tup [dG G,di e])
theorem Aq0:BT ⟨[],[]⟩:=⟨by decide,by decide,fun l hl=>(by cases hl),fun v hv=>(by cases hv)⟩
theorem WO{x:cx}{e:Int}(h:F0 36 [Af x] (di e))(hne:(e !=0)=J)(k:Int):F0 10 [Af x,di k] (.tup [dG ⟨[],[]⟩,di e]):=by
 exact sv E9 97 [2] (.c (di e)<|.t .r) (_/\_/\Q (bl [dG nz,di e])) ⟨h,hne,rfl⟩
theorem AgB{x:cx}{e:Int}(h:F0 40 [Af x] (di e))(hne:(e !=0)=J)(k:Int):F0 11 [Af x,di k] (.tup [dG ⟨[],[]⟩,di e]):=by
 exact sv El 108 [2] (.c (di e)<|.t .r) (_/\_/\Q (bl [dG nz,di e])) ⟨h,hne,rfl⟩
theorem AnR{x:cx}(h:F0 40 [Af x] (di 0))(hk:(x.kind==6)=J)(k:Int):F0 11 [Af x,di k] (.tup [dG ⟨[],[]⟩,di 15]):=by
 exact sv El 108 [2] (.c (di 0)<|.k<|.t .r) (_/\_/\Q (bl [dG nz,di 15])) ⟨h,hk,rfl⟩
theorem Amk{x:cx}(h1:F0 36 [Af x] (di 0))(h2:F0 40 [Af x] (di 0))(h3:(x.kind==6)=O)(k:Int)(hk:¬(1<=k/\k<=128)):F0 10 [Af x,di k] (.tup [dG ⟨[],[]⟩,di 2])/\F0 11 [Af x,di k] (.tup [dG ⟨[],[]⟩,di 2]):=by
 by_cases hl:Y (k<1)=J
 ·constructor
  ·exact sv E9 97 [2] (.c (di 0)<|.k<|.t<|.k .r) (_/\_/\Q (bl [dG nz,di 2])) ⟨h1,hl,rfl⟩
  ·exact sv El 108 [2] (.c (di 0)<|.k<|.f<|.t<|.k .r) (_/\_/\_/\Q (bl [dG nz,di 2])) ⟨h2,h3,hl,rfl⟩
 ·have hl:=HW hl
  have hg:Y (k>128)=J:=HM (by grind)
  constructor
  ·exact sv E9 97 [2] (.c (di 0)<|.k<|.f<|.t .r) (_/\_/\_/\Q (bl [dG nz,di 2])) ⟨h1,hl,hg,rfl⟩
  ·exact sv El 108 [2] (.c (di 0)<|.k<|.f<|.f<|.t .r) (_/\_/\_/\_/\Q (bl [dG nz,di 2])) ⟨h2,h3,hl,hg,rfl⟩
theorem Rm.both{x:cx}{e:Int}(h:Rm x e):ZJ x:=fun k=>by
 rcases h.ref with h1|⟨h1,h2,rfl⟩
 ·exact⟨_,e,Aq0,WO h.walks h.ne k,AgB h1 h.ne k⟩
 ·exact⟨_,15,Aq0,WO h.walks h.ne k,AnR h1 h2 k⟩
theorem Xt{S:b9->List er×Int}{most:Int}:∀(n:Nat) (cs:List b9) (A:As),(Ra S most n cs A).2≠0->(Ra S most n cs A).1=([],[])
 |0,cs,A,h=>absurd rfl h
 |n+1,cs,A,h=>by
  rw[Ra] at h⊢
  cases hc:cs[I A]? with
  |none=>grind
  |some c=>
   rw[hc] at h
   dsimp only at h⊢
   by_cases hz:((S c).2 !=0)=J
   ·grind
   ·rw[Iz hz] at h⊢
    cases hb:ia most (S c).1 cs [] with
    |none=>rfl
    |some p=>
     rw[hb] at h
     exact Xt n _ _ h
theorem DE.bldM{m:cx}(h:DE m):Aq5 m (CX m) (X6 m):=⟨h.steps.walks,h.steps.all,h.steps.next,h.steps.start,h.steps.size,fun c hc=>by have:=h.steps.len c hc;omega⟩
theorem DE.kne{m:cx}(h:DE m):(m.kind==6)=O:=by
 rcases h.kinds with⟨_,hk⟩|⟨K,hK,_,hk⟩|⟨_,hk⟩<;>rw[IM]<;>omega
theorem DE.bldR{m:cx}(h:DE m):Ass m (CX m) (X6 m):=⟨h.c15,IM.1 h.kne,fun c hc=>h.all22 hc,h.steps.next,h.steps.start,h.steps.size,fun c hc=>by have:=h.steps.len c hc;omega⟩
theorem DE.bfit{m:cx}(h:DE m){k:Int}(hk:1<=k/\k<=128){R:(List b9×As)×Int}(hR:Ra (CX m) k (k.toNat+1) [m.start] []=R):BT ⟨R.1.1,R.1.2⟩:=by
 by_cases he:R.2=0
 ·have hb:=AeC (S:=CX m) (C:=X6 m) (st:=m.start) (most:=k) h.steps.next (k.toNat+1) [m.start] [] (ta.first hk.1 h.steps.start) (by omega) (by grind)
  rw[hR] at hb
  obtain⟨b1,b2⟩:=hb
  have hl:=b1.fi.len
  refine⟨by grind,by grind,fun l hl=>?_,fun v hv=>b9.fit_of v (by have:=h.steps.size v (b1.fi.cfg v hv);omega)⟩
  obtain⟨i,hi⟩:=getElem?_of_mem hl
  obtain⟨c,h1,_,h3,_⟩:=b1.row i l hi
  have:=h.steps.len c (b1.fi.cfg c (HQ h1))
  omega
 grind[Xt,Aq0]
theorem DE.both{m:cx}(h:DE m):ZJ m:=fun k=>by
 by_cases hk:1<=k/\k<=128
 ·obtain⟨R,hR⟩:∃R,Ra (CX m) k (k.toNat+1) [m.start] []=R:=⟨_,rfl⟩
  exact⟨_,R.2,h.bfit hk hR,Sr h.bldM k hk.1 hk.2 R hR,AbK h.bldR k hk.1 hk.2 R hR⟩
 ·obtain⟨h1,h2⟩:=Amk h.steps.walks h.c15 h.kne k hk
  grind[Aq0]
theorem fc{l:List Int}{i:Nat}{x:Int}(h:l[i]?=some x):(l.map vi)[Z (i:Int)]?=some (vi x):=by simp[h]
theorem WL{l:List (List Int)}{i:Nat}{x:List Int}(h:l[i]?=some x):(l.map cy)[Z (i:Int)]?=some (cy x):=by simp[h]
theorem Q6{n:Nat}{p:Nat->Bool}(h:n<=1000):I (AJ n p)<=1000:=Jn (Hq n p) h
theorem AkX{G:Gph}(h:BT G)(x:Int):I (pv G x)<=1000:=by
 unfold pv;split
 ·exact Q6 h.cs
 ·simp
theorem Al3{G:Gph}(h:BT G):I (mj G)<=1000:=by
 unfold mj;split
 ·exact Q6 h.cs
 ·simp
theorem AlP{G:Gph}(h:BT G):I (nj G)<=1000:=by
 unfold nj;split
 ·exact Q6 h.cs
 ·simp
theorem Vx{n:Nat}(hn:n<=1000)(R:List (List Bool)):∀k:Nat,∀c∈C9 n R k,I c<=1000
 |0,c,h=>by cases h
 |k+1,c,h=>by
  rw[C9] at h
  split at h
  ·rcases IV.1 h with h|h
   ·exact Vx hn R k c h
   grind[Q6]
  ·exact Vx hn R k c h
theorem Ame{G:Gph}(h:BT G):I (nh G)<=1000/\∀c∈nh G,I c<=1000:=by
 unfold nh;split
 ·exact⟨Jn (MB _ _ _) h.cs,Vx h.cs _ _⟩
 ·simp
theorem Akq{G:Gph}(h:BT G)(x y:Int):(Hi G x y).1.length<=1000:=by
 unfold Hi;split
 ·rename_i hb
  simp only[HL,HU] at hb
  obtain⟨hg,hx,hy⟩:=Als hb.1
  have hln:=(GM hg).len
  have hlt:=SN (GM hg).ok (t:=y.toNat) (i:=x.toNat) (by omega)
  have:=h.cs
  grind[VC]
 ·simp
theorem Lo{α:Type}{p:α->α->Bool}(hp:∀x,p x x=J):∀l:List α,fx p l l=J
 |[]=>rfl
 |x::l=>by rw[fx,hp,Lo hp l];rfl
theorem RH(G:Gph):qh G G=J:=by
 grind[qh,Lo,XY,EB]
noncomputable def Z0:=yl Ad8
theorem AcV(a:List Int)(ha:I a<=1000000)(n:Nat):∀k:Nat,I a-k=n->
  Rn PP Ad8 0 (db J) bd ([kl Z0 [1,1,0,1,0,0],.blk 0,kc Z0 [1,1,1]]++[]) (cz 26 [(0,cw a),(1,cw a),(12,di (I a)),(13,di k)]) bd:=by
 induction n with
 |zero=>
  intro k hn
  exact lv 26 [] (.f .r) (Y ((k:Int)<(I a:Int))=O/\Q (db J)) ⟨yq,rfl⟩
 |succ n ih=>
  intro k hn
  obtain⟨x,hx⟩:=yk (show k<I a by omega)
  exact lv 26 [] (.t<|.x (vi x)<|.x (vi x)<|.f<|.ls [ke 0,ke 1,ke 12,ch 13 (di (k+1:Nat))] bd) (Y ((k:Int)<(I a:Int))=J/\0<=(k:Int)/\(U vi a)[Z (k:Int)]?=some (vi x)/\0<=(k:Int)/\(U vi a)[Z (k:Int)]?=some (vi x)/\(x !=x)=O/\di (yu yt ((k:Int)+1))=di (↑(k+1):Int)/\_) ⟨yr,by omega,fc hx,by omega,fc hx,by simp,by rw[Ac],iK (ih (k+1) (by omega))⟩
theorem Lf(a:List Int)(ha:I a<=1000000):F0 17 [cw a,cw a] (db J):=by
 exact zq Ad8 26 (.f<|.ls [ke 0,ke 1,ch 12 (di (I a)),ch 13 (di (0:Nat))] bd) (((I (U vi a):Int) !=(I (U vi a):Int))=O/\di (I (U vi a):Int)=di (I a:Int)/\Q (di 0)/\_) ⟨by simp,by simp,rfl,iK (AcV a ha _ 0 rfl)⟩
def AnG(n:UInt8)(f t:Int):cm:=⟨[n],f,t,[0],[0],[],0,0,0,[],[],[],[],0⟩
def ZP:cx:=⟨1,[[97],[98]],[[120]],[],[],0,0,[AnG 114 0 1,AnG 115 1 0],DQ 0 [0]⟩
theorem AcG:ZP.ok where
 kind:=.inl rfl
 sized:=by kernel_rfl
 ranked:=by kernel_rfl
 named:=by kernel_rfl
 rshort:=fun r hr=>by
  simp only[ZP,IN,JE,or_false] at hr
  rcases hr with rfl|rfl<;>exact⟨by decide,by decide,by decide,by decide,by decide,by decide,by decide⟩
 right:=fun r hr=>by
  simp only[ZP,IN,JE,or_false] at hr
  rcases hr with rfl|rfl<;>rfl
 start:=by kernel_rfl
 ssize:=by show(DQ 0 [0]).size<=1000000;decide
theorem KX:i9 ZP where
 ok:=AcG
 kind:=rfl
 move:=fun r hr=>by
  simp only[ZP,IN,JE,or_false] at hr
  rcases hr with rfl|rfl<;>rfl
 start:=vd ZP 0 (by decide) [0] rfl (by grind)
 few:=by decide
theorem Ahu:Aq5 ZP (Gr ZP) (BO ZP):=⟨AcG.int.walks,fun c hc=>Abf ZP KX c hc,fun c hc s hs=>((MO KX hc).2.2 s hs).ok,KX.start,fun c hc=>by have:=hc.size KX;omega,fun c hc=>by grind[MO,KX]⟩
def fm:Gph:=⟨[DQ 0 [0],DQ 1 [0]],[[(0,1)],[(1,0)]]⟩
theorem b35:Ra (Gr ZP) 9 ((9:Int).toNat+1) [ZP.start] []=((fm.cs,fm.ar),0):=by kernel_rfl
theorem LH:BT fm:=⟨by decide,by decide,fun l hl=>by
  grind[fm],fun v hv=>by
  simp only[fm,IN,JE,or_false] at hv
  rcases hv with rfl|rfl<;>exact b9.fit_of _ (by decide)⟩
theorem AoA:fz fm=J:=by kernel_rfl
theorem a01:nr fm.ar 0 1:=⟨_,rfl,(0,1),by simp,rfl⟩
theorem a10:nr fm.ar 1 0:=⟨_,rfl,(1,0),by simp,rfl⟩
theorem wm:BR fm (I fm.cs)=[[true,true],[true,true]]:=by
 have h:∀i j:Nat,i<2->j<2->lw fm.ar i j:=fun i j hi hj=>by
  rcases(show i=0∨i=1 by omega) with rfl|rfl<;>rcases(show j=0∨j=1 by omega) with rfl|rfl
  ·exact⟨0,.nil 0⟩
  ·exact⟨1,.cons a01 (.nil 1)⟩
  ·exact⟨1,.cons a10 (.nil 0)⟩
  ·exact⟨0,.nil 1⟩
 show(List.range 2).map (C0 fm.ar)=_
 have e:∀i:Nat,i<2->C0 fm.ar i=[true,true]:=fun i hi=>by
  grind[C0,range_succ,fm]
 grind[range_succ]
theorem w35:Hi fm 0 1=([(0,1)],true):=by
 have d:dst fm.ar 1 0=(1:Nat):=SM ⟨.cons a01 (.nil 1),fun m h=>by
  cases m with
  |zero=>cases h
  |succ m=>omega⟩
 show(if (true&&Y (0<=dst fm.ar 1 0))=J then(Hj fm.ar 1 (dst fm.ar 1 0).toNat 0,true) else([],false))=_
 rw[d]
 grind[Hj,Tz,E7,Lp,fm]
theorem Ks:F0 4 [] (db J):=by
 have h1:=Sr Ahu 9 (by decide) (by decide) _ b35
 have h2:=Ss fm LH 0 1
 rw[w35] at h2
 have h3:=Sw fm LH
 rw[show mj fm=[0,1] by rw[mj,I4 AoA,wm];kernel_rfl] at h3
 have h4:=Sx fm LH
 rw[show nj fm=[] by kernel_rfl] at h4
 have h5:=Lh fm LH 0
 rw[show lk fm 0=J by rw[lk,wm];kernel_rfl] at h5
 have h6:=Lh fm LH 1
 rw[show lk fm 1=J by rw[lk,wm];kernel_rfl] at h6
 have h7:=Lh fm LH 2
 rw[show lk fm 2=O by rw[lk,wm];kernel_rfl] at h7
 exact zq AlE 78 (.c (.tup [dG fm,di 0])<|.c (.tup [.v (Ai [(0,1)]),db J])<|.k<|.k<|.c (cw [0,1])<|.k<|.c (cw [])<|.k<|.c (db J)<|.k<|.c (db J)<|.k<|.c (db O)<|.x (cg (0,1)) .r) (_/\_/\_/\_/\_/\_/\_/\iz 0<=0/\Q (some (cg (0,1)))/\Q (db J)) ⟨h1,h2,h3,h4,h5,h6,h7,IA _,rfl,rfl⟩
noncomputable def ej:=yl gb
abbrev kg(m:cx):List D:=[di m.kind,.v (cc m.aw),.v (cc m.ay),.v (cc m.ax),.v (cy m.au),di m.am,di m.age,.v (Hk m.av),di m.start.n,co m.start.az]
abbrev RB(l:List UInt8)(a:Nat)(m:cx):St:=⟨[G (cn l a),G (kg m)],[]⟩
noncomputable abbrev Aus:=[zu gb 521420,bh 2,bh 1,zt gb 16295,zu gb 2036,bh 0,zt gb 255]
noncomputable abbrev Avu:=fun a₀=>[ke 2,ke 3,ke 4,ke 5,ke 7,ke 13,ke 14,ke 16,ke 65,ke 66,ke 67,ke 72,ke 73,ch 74 (zw a₀)]
theorem Arf(l:List UInt8)(a:Nat)(m:cx)(raw:Gph)(fr to lb mo:Int)(Ms:List cx)(hMs:I Ms<=1000)(i:Nat)(hi:i<I Ms)(x:cx)(hx:ZJ x)(ks:List Int)(hks:I ks<=1000)(res:D)(σ':St)
  (next:Rn PP gb 0 res σ' ([kl ej [1,1,1,1,1,1,0,1,0,0],.blk 0,kc ej [1,1,1,1,1,1,1]]++[]) (cz 264 [(2,di fr),(3,di to),(4,di lb),(5,di mo),(7,.v (.ref (vG raw))),(13,.ptr 0 0),(14,.ptr 1 0),(65,.v (.list (Ms.map Aq))),(66,di (I Ms)),(67,di (i+1:Nat))]) (RB l a m)) (n:Nat):∀j:Nat,I ks-j=n->
  Rn PP gb 0 res σ' ([kl ej [1,1,1,1,1,1,0,1,0,0,1,1,0,0,1,1,0,0],.blk 2,.blk 1,kc ej [1,1,1,1,1,1,0,1,0,0,1,1,1],kl ej [1,1,1,1,1,1,0,1,0,0],.blk 0,kc ej [1,1,1,1,1,1,1]]++[]) (cz 264 [(2,di fr),(3,di to),(4,di lb),(5,di mo),(7,.v (.ref (vG raw))),(13,.ptr 0 0),(14,.ptr 1 0),(16,.v (.ref (Aq x))),(65,.v (.list (Ms.map Aq))),(66,di (I Ms)),(67,di i),(72,cw ks),(73,di (I ks)),(74,di j)]) (RB l a m):=by
 induction n with
 |zero=>
  intro j hn
  exact lv 264 [7] (.f<|.lo [ke 2,ke 3,ke 4,ke 5,ke 7,ke 13,ke 14,ke 65,ke 66,ch 67 (di (i+1:Nat))] (RB l a m)) (Y ((j:Int)<(I ks:Int))=O/\di (yu yt ((i:Int)+1))=di (↑(i+1):Int)/\Q J/\Q (RB l a m).H/\_) ⟨yq,by rw[Ac],rfl,rfl,iK next⟩
 |succ n ih=>
  intro j hn
  obtain⟨k,hk⟩:=yk (show j<I ks by omega)
  have hih:=ih (j+1) (by omega)
  obtain⟨G1,e1,f1,p1,p2⟩:=hx 60
  obtain⟨G2,e2,f2,q1,q2⟩:=hx k
  have s1:=RH G1▸MX G1 G1 f1
  have s2:=RH G2▸MX G2 G2 f2
  exact lv 264 [7] (.t<|.x (vi k)<|.b (.b (.c (.tup [dG G1,di e1])<|.c (.tup [dG G1,di e1])<|.f<|.c (db J)<|.k<|.lo (Avu j) (RB l a m)) (.c (.tup [dG G2,di e2])<|.c (.tup [dG G2,di e2])<|.f<|.c (db J)<|.k<|.lo (Avu j) (RB l a m))) (.c (.tup [dG G2,di e2])<|.c (.tup [dG G2,di e2])<|.f<|.c (db J)<|.k<|.lo (Avu j) (RB l a m))) (Y ((j:Int)<(I ks:Int))=J/\0<=(j:Int)/\(U vi ks)[Z (j:Int)]?=G (vi k)/\(Y (k>60)=J->(Y (k<=128)=J->type_of% p1/\type_of% p2/\(e1 !=e1)=O/\type_of% s1/\di (yu yt ((j:Int)+1))=di (↑(j+1):Int)/\Q J/\Q [G (cn l a),G (kg m)]/\I0 gb 0 res σ' Aus (cz 264 [(2,di fr),(3,di to),(4,di lb),(5,di mo),(7,bt (bz (vG raw))),(13,bq 0 0),(14,bq 1 0),(16,bt (g7 x)),(65,bt (ae (U Aq Ms))),(66,di (I Ms:Int)),(67,di (i:Int)),(72,cw ks),(73,di (I ks:Int)),(74,di (↑(j+1):Int))]) (RB l a m))/\(Y (k<=128)=O->type_of% q1/\type_of% q2/\(e2 !=e2)=O/\type_of% s2/\di (yu yt ((j:Int)+1))=di (↑(j+1):Int)/\Q J/\Q [G (cn l a),G (kg m)]/\I0 gb 0 res σ' Aus (cz 264 [(2,di fr),(3,di to),(4,di lb),(5,di mo),(7,bt (bz (vG raw))),(13,bq 0 0),(14,bq 1 0),(16,bt (g7 x)),(65,bt (ae (U Aq Ms))),(66,di (I Ms:Int)),(67,di (i:Int)),(72,cw ks),(73,di (I ks:Int)),(74,di (↑(j+1):Int))]) (RB l a m)))/\(Y (k>60)=O->type_of% q1/\type_of% q2/\(e2 !=e2)=O/\type_of% s2/\di (yu yt ((j:Int)+1))=di (↑(j+1):Int)/\Q J/\Q [G (cn l a),G (kg m)]/\I0 gb 0 res σ' Aus (cz 264 [(2,di fr),(3,di to),(4,di lb),(5,di mo),(7,bt (bz (vG raw))),(13,bq 0 0),(14,bq 1 0),(16,bt (g7 x)),(65,bt (ae (U Aq Ms))),(66,di (I Ms:Int)),(67,di (i:Int)),(72,cw ks),(73,di (I ks:Int)),(74,di (↑(j+1):Int))]) (RB l a m))) ⟨yr,by omega,fc hk,fun _=>⟨fun _=>⟨p1,p2,by simp,s1,by rw[Ac],rfl,rfl,⟨hih⟩⟩,fun _=>⟨q1,q2,by simp,s2,by rw[Ac],rfl,rfl,⟨hih⟩⟩⟩,fun _=>⟨q1,q2,by simp,s2,by rw[Ac],rfl,rfl,⟨hih⟩⟩⟩
noncomputable def Eu(A:As)(i k:Nat):Nat:=(List.range i).countP fun s=>(C0 A s).getD k false
theorem Aep(A:As)(i k:Nat):Eu A (i+1) k=Eu A i k+(if (C0 A i).getD k false=J then 1 else 0):=by
 grind[Eu,range_succ]
theorem AlV(A:As)(i k:Nat):Eu A i k<=i:=by
 grind[List.countP_le_length,Eu]
def ET(f g:Nat->Nat)(k j:Nat):Nat:=if j<k then g j else f j
abbrev fk(n:Nat)(f:Nat->Nat):List Int:=(List.range n).map fun j=>(f j:Int)
noncomputable def Cu:=yl Gz
abbrev Tx(n:Nat)(f:Nat->Nat):St:=⟨[some (cb (fk n f))],[]⟩
theorem pk(n:Nat)(f:Nat->Nat)(m:Nat)(ts:List Nat):cp m ts [some (cb (fk n f))]=J:=by grind[Ce,cp]
theorem Amh(L:List Int)(k:Nat)(v:Int):List.set (cb L) (0+Z (k:Int)*1) (di v)=cb (L.set k v):=by simp_all
theorem Amg{n k:Nat}{f g:Nat->Nat}(h:g k=f k+1)(hk:k<n):(fk n (ET f g k)).set k ((f k+1:Nat):Int)=fk n (ET f g (k+1)):=by
 apply List.ext_getElem?
 grind[ET]
theorem AiK(n:Nat){k:Nat}{f g:Nat->Nat}(h:g k=f k):fk n (ET f g k)=fk n (ET f g (k+1)):=by grind[ET]
theorem AkR(G:Gph)(n:Nat)(hn:n<=1000)(i:Nat)(r:List Bool)(hr:I r=n)(f g:Nat->Nat)(hf:∀k,f k<=1000)(hg:∀k,g k=f k+(if r.getD k false=J then 1 else 0))(res:D)
  (next:Rn PP Gz 0 res bd ([kl Cu [1,1,1,0,1,0,0],.blk 0,kc Cu [1,1,1,1]]++[]) (cz 60 [(1,.v (.ref (vG G))),(3,.arr 0 0 n),(4,di (i+1:Nat))]) (Tx n g)) (hi:i<=1000) (N:Nat):∀k:Nat,n-k=N->k<=n->
  Rn PP Gz 0 res bd ([kl Cu [1,1,1,0,1,0,0,1,0,0,1,1,0,0],.blk 2,.blk 1,kc Cu [1,1,1,0,1,0,0,1,1],kl Cu [1,1,1,0,1,0,0],.blk 0,kc Cu [1,1,1,1]]++[]) (cz 60 [(1,.v (.ref (vG G))),(3,.arr 0 0 n),(4,di i),(5,.v (Ar r)),(6,di k)]) (Tx n (ET f g k)):=by
 induction N with
 |zero=>
  intro k hN hk
  have e:fk n (ET f g k)=fk n g:=List.map_congr_left fun j hj=>by rw[ET,I4 (by have:=mem_range.1 hj;omega)]
  rw[Tx,e]
  exact lv 60 [1] (.f<|.lo (ux i) (Tx n g)) (Y ((k:Int)<(I (U d5 r):Int))=O/\di (yu yt ((i:Int)+1))=di (↑(i+1):Int)/\cp 1 [] [some (cb (fk n g))]=J/\Q (Tx n g).H/\_) ⟨HO (by rw[HJ];omega),by rw[Ac],pk _ _ _ _,rfl,iK next⟩
 |succ N ih=>
  intro k hN hk
  obtain⟨b,hb⟩:=@yk _ r k (by omega)
  have hih:=ih (k+1) (by omega) (by omega)
  have hgk:=hg k
  have hfk:=hf k
  rw[HS,hb,JD] at hgk
  have hck:(cb (fk n (ET f g k)))[0+Z (k:Int)*1]?=some (di (f k)):=by
   simp[cb,show k<n by omega,ET]
  have hcl:0+Z (k:Int)*1<I (cb (fk n (ET f g k))):=by simp[cb];omega
  cases b with
  |true=>
   have es:List.set (cb (fk n (ET f g k))) (0+Z (k:Int)*1) (di ((f k+1:Nat):Int))=cb (fk n (ET f g (k+1))):=by
    rw[Amh,Amg hgk (show k<n by omega)]
   refine lv 60 [1] (.t<|.x (d5 true)<|.k<|.h (.q 12 3)<|.m (di (f k))<|.h (.q 12 6)<|.w<|.lo [ke 1,ke 3,ke 4,ke 5,ch 6 (di (k+1:Nat))] (Tx n (ET f g (k+1)))) (Y ((k:Int)<(I (U d5 r):Int))=J/\0<=(k:Int)/\(U d5 r)[Z (k:Int)]?=some (d5 true)/\0<=(k:Int)/\(k:Int)<(n:Int)/\type_of% hck/\0<=(k:Int)/\(k:Int)<(n:Int)/\type_of% hcl/\di (yu yt ((k:Int)+1))=di (↑(k+1):Int)/\cp 1 [] [some (List.set (cb (fk n (ET f g k))) (0+Z (k:Int)*1) (di (yu yt ((↑(f k):Int)+1))))]=J/\[some (List.set (cb (fk n (ET f g k))) (0+Z (k:Int)*1) (di (yu yt ((↑(f k):Int)+1))))]=[some (cb (fk n (ET f g (k+1))))]/\It (type_of% hih)) ?_
   rw[show yt.wrap ((f k:Int)+1)=((f k+1:Nat):Int) by rw[An];omega,es]
   exact⟨HM (by rw[HJ];omega),by omega,Ae hb,by omega,by omega,hck,by omega,by omega,hcl,by rw[Ac],pk _ _ _ _,rfl,⟨hih⟩⟩
  |false=>
   have e:=AiK n (show g k=f k from hgk)
   rw[Tx, ←e] at hih
   exact lv 60 [1] (.t<|.x (d5 false)<|.k<|.lo [ke 1,ke 3,ke 4,ke 5,ch 6 (di (k+1:Nat))] (Tx n (ET f g k))) (Y ((k:Int)<(I (U d5 r):Int))=J/\0<=(k:Int)/\(U d5 r)[Z (k:Int)]?=some (d5 false)/\di (yu yt ((k:Int)+1))=di (↑(k+1):Int)/\cp 1 [] [some (cb (fk n (ET f g k)))]=J/\Q (Tx n (ET f g k)).H/\_) ⟨HM (by rw[HJ];omega),by omega,Ae hb,by rw[Ac],pk _ _ _ _,rfl,iK hih⟩
theorem AkQ(n:Nat)(hn:n<=1000)(f:Nat->Nat)(N:Nat):∀k:Nat,n-k=N->k<=n->
  Rn PP Gz 0 (cw (AJ n fun k=>(f k:Int)==n)) bd ([zu Gz 1012,.blk 4,zt Gz 127]++[]) (cz 60 [(3,.arr 0 0 n),(7,.acc 1 ((AJ k fun k=>(f k:Int)==n).map vi)),(8,di k)]) ⟨[some (cb (fk n f))],[(1,1,(AJ k fun k=>(f k:Int)==n).map vi)]⟩:=by
 induction N with
 |zero=>
  intro k hN hk
  refine zo [1] (.f .r) (yd k n/\bt (ae (U vi (AJ k fun k=>(↑(f k):Int)==(n:Int))))=cw (AJ n fun k=>(↑(f k):Int)==(n:Int))) ?_
  grind
 |succ N ih=>
  intro k hN hk
  have hih:=ih (k+1) (by omega) (by omega)
  have hln:=Hq k (fun k=>(f k:Int)==n)
  rw[Hp] at hih
  generalize AJ k (fun k=>(f k:Int)==n)=L at*
  have hck:(cb (fk n f))[0+Z (k:Int)*1]?=some (di (f k)):=by simp[cb,show k<n by omega]
  cases hb:((f k:Int)==n) with
  |true=>
   rw[I4 hb] at hih
   refine zo [1] (.t<|.h (.q 17 3)<|.m (di (f k))<|.t<|.lo [ke 3,ke 7,ch 8 (zw k)] ⟨[some (cb (fk n f))],[(1,1,(L++[(k:Int)]).map vi)]⟩) (ye k n/\y6 k/\y5 k n/\type_of% hck/\type_of% hb/\Q (U vi L)/\Ao (I (U vi L)+I (a8 yt (k:Int)::nV)) 8/\zx k/\cp 1 [1] [some (cb (fk n f))]=J/\Q [some (cb (fk n f))]/\[(1,1,U vi L++vi (k:Int)::nV)]=[(1,1,U vi (L++[(k:Int)]))]/\I0 Gz 0 (cw (AJ n fun k=>(↑(f k):Int)==(n:Int))) bd [kl Cu mr,bh 4,kc Cu mu] (cz 60 [(3,bo 0 0 n),(7,br 1 (U vi L++[vi (k:Int)])),(8,zw k)]) (bi [some (cb (fk n f))] [(1,1,U vi (L++[(k:Int)]))])) ?_
   have e:(L++[(k:Int)]).map vi=L.map vi++[vi k]:=by simp
   rw[e] at hih⊢
   refine⟨yr,by omega,by omega,hck,hb,rfl,⟨?_,?_⟩,Ac,pk _ _ _ _,rfl,rfl,⟨hih⟩⟩
   all_goals grind
  |false=>
   rw[Iz (by grind)] at hih
   exact zo [1] (.t<|.h (.q 17 3)<|.m (di (f k))<|.f<|.lo [ke 3,ke 7,ch 8 (zw k)] ⟨[some (cb (fk n f))],[(1,1,L.map vi)]⟩) (ye k n/\y6 k/\y5 k n/\_/\_/\zx k/\cp 1 [1] [some (cb (fk n f))]=J/\Q [some (cb (fk n f))]/\Q [(1,1,U vi L)]/\_) ⟨yr,by omega,by omega,hck,hb,Ac,pk _ _ _ _,rfl,rfl,iK hih⟩
theorem Ag5(G:Gph)(h:BT G)(hg:GR G)(N:Nat):∀i:Nat,I G.cs-i=N->i<=I G.cs->
  Rn PP Gz 0 (cw (AJ (I G.cs) fun k=>(Eu G.ar (I G.cs) k:Int)==I G.cs)) bd ([zu Gz 244,.blk 0,zt Gz 31]++[]) (cz 60 [(1,.v (.ref (vG G))),(3,.arr 0 0 (I G.cs)),(4,di i)]) (Tx (I G.cs) (Eu G.ar i)):=by
 have hle:=hg.le
 have hln:=hg.len
 induction N with
 |zero=>
  intro i hN hi
  obtain rfl:i=I G.cs:=by omega
  have hl2:=AkQ (I G.cs) (by omega) (Eu G.ar (I G.cs)) _ 0 rfl (II _)
  exact zo [1] (.f<|.h (.q 14 0)<|.h (.nw 7 1 1)<|.lo [ke 3,ke 7,ch 8 (di (0:Nat))] ⟨[some (cb (fk (I G.cs) (Eu G.ar (I G.cs))))],[(1,1,[])]⟩) (yd (I G.cs) (I (U eV G.cs))/\Q (di 0)/\cp 1 [1] [some (cb (fk (I G.cs) (Eu G.ar (I G.cs))))]=J/\Q [some (cb (fk (I G.cs) (Eu G.ar (I G.cs))))]/\Q [(1,1,nV)]/\_) ⟨HO (by rw[HJ];omega),rfl,pk _ _ _ _,rfl,rfl,iK hl2⟩
 |succ N ih=>
  intro i hN hi
  have hs:=KJ G h hg.ok (by omega) hln.symm i (by omega)
  have hin:=AkR G (I G.cs) (by omega) i (C0 G.ar i) (by rw[Gu,hln]) (Eu G.ar i) (Eu G.ar (i+1)) (fun k=>by have:=AlV G.ar i k;omega) (Aep G.ar i) _ (ih (i+1) (by omega) (by omega)) (by omega) _ 0 rfl (II _)
  have e:fk (I G.cs) (ET (Eu G.ar i) (Eu G.ar (i+1)) 0)=fk (I G.cs) (Eu G.ar i):=List.map_congr_left fun j _=>by simp[ET]
  rw[Tx,e] at hin
  generalize C0 G.ar i=r at*
  exact zo [1] (.t<|.c (.v (Ar r))<|.lo [ke 1,ke 3,ke 4,ke 5,ch 6 (di (0:Nat))] (Tx (I G.cs) (Eu G.ar i))) (ye i (I (U eV G.cs))/\_/\Q (di 0)/\cp 1 [] [some (cb (fk (I G.cs) (Eu G.ar i)))]=J/\Q (Tx (I G.cs) (Eu G.ar i)).H/\_) ⟨HM (by rw[HJ];omega),hs,rfl,pk _ _ _ _,rfl,iK hin⟩
theorem AhP(G:Gph)(n:Nat):(AJ n fun k=>(Eu G.ar n k:Int)==n)=AJ n (YB (BR G n)):=by
 grind[Yy,YB,BR,Eu,List.countP_eq_length]
theorem Ab3(G:Gph)(h:BT G):F0 19 [dG G] (cw (mj G)):=by
 have hv:=Ge G h
 rw[mj]
 cases hb:fz G with
 |false=>
  refine sv Gz 60 [1] (.c (di 45)<|.k<|.r) (F0 15 [bt (vG G)] (di 45)/\Q (bt (ae []))) ?_
  grind
 |true=>
  rw[hb,I4 rfl] at hv
  have hg:=GM hb
  have hle:=hg.le
  have hlp:=Ag5 G h hg _ 0 rfl (II _)
  rw[AhP] at hlp
  have e0:replicate (I G.cs) (di 0)=cb (fk (I G.cs) (Eu G.ar 0)):=by
   apply List.ext_getElem?
   grind[Eu]
  generalize AJ (I G.cs) (YB (BR G (I G.cs)))=L at*
  refine sv Gz 60 [1] (.c (di 0)<|.k<|.lo [ke 1,ch 3 (.arr 0 0 (I G.cs)),ke 4] (Tx (I G.cs) (Eu G.ar 0))) (type_of% hv/\Q (I (U eV G.cs):Int)/\y6 (I (U eV G.cs))/\(8:Int)*(I (U eV G.cs):Int)<=281474976710656/\(I (U eV G.cs):Int)<=9223372036854775807/\bo 0 0 (Z (I (U eV G.cs):Int))=bo 0 0 (I G.cs)/\cp 1 [] [some (replicate (Z (I (U eV G.cs):Int)) (di 0))]=J/\[some (replicate (Z (I (U eV G.cs):Int)) (di 0))]=[some (cb (fk (I G.cs) (Eu G.ar 0)))]/\It (type_of% hlp)) ?_
  rw[HJ,Jy,e0]
  exact⟨hv,rfl,by omega,by omega,by omega,rfl,pk _ _ _ _,rfl,⟨hlp⟩⟩
noncomputable def Tg:=yl Ve
theorem AbH(G:Gph)(hl:I G.ar<=1000)(n:Nat)(hn:n=I G.ar)(N:Nat):∀k:Nat,n-k=N->k<=n->
  Rn PP Ve 0 (cw (AJ n (GC G.ar))) bd ([zu Ve 244,.blk 0,zt Ve 31]++[]) (cz 27 [(1,.v (.ref (vG G))),(3,.acc 1 ((AJ k (GC G.ar)).map vi)),(4,di k)]) ⟨[],[(1,1,(AJ k (GC G.ar)).map vi)]⟩:=by
 induction N with
 |zero=>
  intro k hN hk
  refine zo [1] (.f .r) (yd k (I (U Ai G.ar))/\bt (ae (U vi (AJ k (GC G.ar))))=cw (AJ n (GC G.ar))) ?_
  grind
 |succ N ih=>
  intro k hN hk
  obtain⟨row,hr⟩:∃b,G.ar[k]?=some b:=⟨_,HK (by omega)⟩
  have hih:=ih (k+1) (by omega) (by omega)
  have hln:=Hq k (GC G.ar)
  have hd:GC G.ar k=((I (row.map cg):Int)==0):=by grind[GC]
  rw[Hp,hd] at hih
  generalize AJ k (GC G.ar)=L at*
  cases hb:((I (row.map cg):Int)==0) with
  |true=>
   rw[I4 hb] at hih
   refine zo [1] (.t<|.x (Ai row)<|.t<|.lo (ux k) ⟨[],[(1,1,(L++[(k:Int)]).map vi)]⟩) (ye k (I (U Ai G.ar))/\y6 k/\(U Ai G.ar)[Z (k:Int)]?=some (Ai row)/\type_of% hb/\Q (U vi L)/\Ao (I (U vi L)+I (a8 yt (k:Int)::nV)) 8/\zx k/\cp 0 [1] []=J/\[(1,1,U vi L++vi (k:Int)::nV)]=[(1,1,U vi (L++[(k:Int)]))]/\I0 Ve 0 (cw (AJ n (GC G.ar))) bd [kl Tg fd,bh 0,zt Ve 31] (cz 27 [(1,bt (bz (vG G))),(3,br 1 (U vi L++[vi (k:Int)])),(4,zw k)]) (bi [] [(1,1,U vi (L++[(k:Int)]))])) ?_
   have e:(L++[(k:Int)]).map vi=L.map vi++[vi k]:=by simp
   rw[e] at hih⊢
   refine⟨HM (by rw[HJ];omega),by omega,Ae hr,hb,rfl,⟨?_,?_⟩,Ac,rfl,rfl,⟨hih⟩⟩
   all_goals grind
  |false=>
   rw[Iz (by grind)] at hih
   exact zo [1] (.t<|.x (Ai row)<|.f<|.lo (ux k) ⟨[],[(1,1,L.map vi)]⟩) (ye k (I (U Ai G.ar))/\y6 k/\(U Ai G.ar)[Z (k:Int)]?=some (Ai row)/\_/\zx k/\cp 0 [1] []=J/\Q [(1,1,U vi L)]/\_) ⟨HM (by grind),by omega,Ae hr,hb,Ac,rfl,rfl,iK hih⟩
theorem AbG(G:Gph)(h:BT G):F0 21 [dG G] (cw (nj G)):=by
 have hv:=Ge G h
 rw[nj]
 cases hb:fz G with
 |false=>
  refine sv Ve 27 [1] (.c (di 45)<|.k<|.r) (F0 15 [bt (vG G)] (di 45)/\Q (bt (ae []))) ?_
  grind
 |true=>
  rw[hb,I4 rfl] at hv
  have hg:=GM hb
  have hle:=hg.le
  have hln:=hg.len
  have hlp:=AbH G (by omega) (I G.cs) (by omega) _ 0 rfl (II _)
  exact sv Ve 27 [1] (.c (di 0)<|.k<|.h (.q 4 0)<|.h (.nw 3 1 1)<|.lo [ke 1,ke 3,ke 4] ⟨[],[(1,1,[])]⟩) (_/\cp 0 [1] []=J/\Q [(1,1,nV)]/\_) ⟨hv,rfl,rfl,iK hlp⟩
noncomputable def AL:=yl F3
theorem AnK(G:Gph)(lb:Int)(i k:Nat)(r:List Bool)(row:List Aw)(hr:G.ar[k]?=some row)(hrl:I row<=9223372036854775807)(hb:r[k]?=some true)(hk:k<=1000)(res:D)(f:Bool)
  (next:Rn PP F3 0 res bd ([zu F3 59700,.blk 2,zt F3 7463,.blk 1,zt F3 467,zu F3 116,.blk 0,zt F3 15]++[]) (cz 61 [(1,di lb),(2,.v (.ref (vG G))),(5,di i),(6,.v (Ar r)),(7,db f),(8,zw k)]) bd) (N:Nat):∀(j:Nat) (s:Bool),I row-j=N->(s||(row.drop j).any fun a=>a.1==lb)=f->
  Rn PP F3 0 res bd ([zu F3 3820836,.blk 4,.blk 3,zt F3 238803,zu F3 59700,.blk 2,zt F3 7463,.blk 1,zt F3 467,zu F3 116,.blk 0,zt F3 15]++[]) (cz 61 [(1,di lb),(2,.v (.ref (vG G))),(5,di i),(6,.v (Ar r)),(7,db s),(8,di k),(9,di j)]) bd:=by
 have hbk:=Ae (f:=d5) hb
 have hrk:=Ae (f:=Ai) hr
 induction N with
 |zero=>
  intro j s hN hf
  rw[I3 (by omega),List.any_nil,Bool.or_false] at hf
  subst hf
  exact zo [2] (.x (d5 true)<|.k<|.x (Ai row)<|.f<|.l [ke 1,ke 2,ke 5,ke 6,ke 7,ch 8 (zw k)]) (y6 k/\_/\y6 k/\_/\yd j (I (U cg row))/\zx k/\_) ⟨by omega,hbk,by omega,hrk,HO (by grind),by grind[Ac],iK next⟩
 |succ N ih=>
  intro j s hN hf
  obtain⟨a,ha⟩:=@yk _ row j (by omega)
  have e1:row.drop j=a::row.drop (j+1):=by grind[List.drop_eq_getElem_cons]
  have hlt:Y ((j:Int)<(I (row.map cg):Int))=J:=HM (by grind)
  rw[e1,any_cons] at hf
  cases s with
  |true=>
   have hih:=ih (j+1) true (by omega) (by grind)
   exact zo [2] (.x (d5 true)<|.k<|.x (Ai row)<|.t<|.k<|.l [ke 1,ke 2,ke 5,ke 6,ke 7,ke 8,ch 9 (zw j)]) (y6 k/\_/\y6 k/\_/\_/\zx j/\_) ⟨by omega,hbk,by omega,hrk,hlt,by grind[Ac],iK hih⟩
  |false=>
   have hih:=ih (j+1) (a.1==lb) (by omega) (by grind)
   exact zo [2] (.x (d5 true)<|.k<|.x (Ai row)<|.t<|.k<|.x (Ai row)<|.x (cg a)<|.l [ke 1,ke 2,ke 5,ke 6,ke 7,ke 8,ch 9 (zw j)]) (y6 k/\_/\y6 k/\_/\_/\y6 k/\_/\y6 j/\(U cg row)[Z (j:Int)]?=some (cg a)/\zx j/\_) ⟨by omega,hbk,by omega,hrk,hlt,by omega,hrk,by omega,Ae ha,by grind[Ac],iK hih⟩
theorem AnJ(G:Gph)(h:BT G)(hl:I G.ar<=1000)(lb:Int)(i:Nat)(hi:i<=1000)(r:List Bool)(hrl:I r=I G.ar)(res:D)(f:Bool)
  (next:f=J->Rn PP F3 0 res bd ([kl AL [1,1,0,1,0,0],.blk 0,kc AL [1,1,1]]++[]) (cz 61 [(1,di lb),(2,.v (.ref (vG G))),(5,di (i+1:Nat))]) bd) (hres:f=O->res=db O) (N:Nat):∀(k:Nat) (s:Bool),I r-k=N->k<=I r->(s||((List.range (I r)).drop k).any fun x=>l4 G.ar lb r x)=f->
  Rn PP F3 0 res bd ([kl AL [1,1,0,1,0,0,1,0,0,1,1,0,1,0,0],.blk 2,kc AL [1,1,0,1,0,0,1,0,0,1,1,1],.blk 1,kc AL [1,1,0,1,0,0,1,1],kl AL [1,1,0,1,0,0],.blk 0,kc AL [1,1,1]]++[]) (cz 61 [(1,di lb),(2,.v (.ref (vG G))),(5,di i),(6,.v (Ar r)),(7,db s),(8,di k)]) bd:=by
 induction N with
 |zero=>
  intro k s hN hk hf
  rw[I3 (by rw[List.length_range];omega),List.any_nil,Bool.or_false] at hf
  subst hf
  cases s with
  |true=>
   have hnx:=next rfl
   exact lv 61 [2] (.f<|.k<|.l [ke 1,ke 2,ch 5 (di (i+1:Nat))]) (Y ((k:Int)<(I (U d5 r):Int))=O/\di (yu yt ((i:Int)+1))=di (↑(i+1):Int)/\_) ⟨HO (by rw[HJ];omega),by rw[Ac],iK hnx⟩
  |false=>
   rw[hres rfl]
   exact lv 61 [2] (.f<|.k<|.r) (Y ((k:Int)<(I (U d5 r):Int))=O/\Q (db O)) ⟨HO (by rw[HJ];omega),rfl⟩
 |succ N ih=>
  intro k s hN hk hf
  obtain⟨b,hb⟩:=@yk _ r k (by omega)
  obtain⟨row,hr⟩:∃b,G.ar[k]?=some b:=⟨_,HK (by omega)⟩
  have e1:(List.range (I r)).drop k=k::(List.range (I r)).drop (k+1):=by rw[HZ (by rw[List.length_range];omega)];simp
  have e2:l4 G.ar lb r k=(b&&row.any fun a=>a.1==lb):=by simp[l4,vy,hb,hr]
  rw[e1,any_cons,e2] at hf
  have hj:Rn PP F3 0 res bd ([kl AL [1,1,0,1,0,0,1,0,0,1,1,0,1,0,0,1,0,0,1,0,0],.blk 4,.blk 3,kc AL [1,1,0,1,0,0,1,0,0,1,1,0,1,0,0,1,1],kl AL [1,1,0,1,0,0,1,0,0,1,1,0,1,0,0],.blk 2,kc AL [1,1,0,1,0,0,1,0,0,1,1,1],.blk 1,kc AL [1,1,0,1,0,0,1,1],kl AL [1,1,0,1,0,0],.blk 0,kc AL [1,1,1]]++[]) (cz 61 [(1,di lb),(2,.v (.ref (vG G))),(5,di i),(6,.v (Ar r)),(7,db s),(8,di k),(9,di (0:Nat))]) bd:=by
   cases b with
   |true=>exact AnK G lb i k r row hr (h.row row (HQ hr)) hb (by omega) res _ (ih (k+1) (s||row.any fun a=>a.1==lb) (by omega) (by omega) (by rw[Bool.or_assoc];simpa using hf)) _ 0 s rfl rfl
   |false=>
    have hih:=ih (k+1) s (by omega) (by omega) (by simpa using hf)
    exact lv 61 [2] (.x (d5 false)<|.k<|.k<|.l [ke 1,ke 2,ke 5,ke 6,ke 7,ch 8 (di (k+1:Nat))]) (0<=(k:Int)/\(U d5 r)[Z (k:Int)]?=some (d5 false)/\di (yu yt ((k:Int)+1))=di (↑(k+1):Int)/\_) ⟨by omega,Ae hb,by rw[Ac],iK hih⟩
  exact lv 61 [2] (.t<|.l [ke 1,ke 2,ke 5,ke 6,ke 7,ke 8,ch 9 (di (0:Nat))]) (Y ((k:Int)<(I (U d5 r):Int))=J/\Q (di 0)/\_) ⟨HM (by rw[HJ];omega),rfl,iK hj⟩
theorem Ahl(n:Nat)(p:Nat->Bool):(!((I (AJ n p):Int)==0))=(List.range n).any p:=by
 rw[Bool.eq_iff_iff,IZ,IM,List.any_eq_true]
 constructor
 ·intro h
  have hp:0<I ((List.range n).filter p):=by grind[AJ]
  simp_all
 ·rintro ⟨x,hx⟩
  have:=List.length_pos_of_mem (List.mem_filter.2 hx)
  grind[AJ]
theorem Ag2(G:Gph)(h:BT G)(hg:GR G)(lb:Int)(N:Nat):∀i:Nat,I G.cs-i=N->i<=I G.cs->
  Rn PP F3 0 (db (Sl G lb (I G.cs) ((BR G (I G.cs)).drop i))) bd ([zu F3 116,.blk 0,zt F3 15]++[]) (cz 61 [(1,di lb),(2,.v (.ref (vG G))),(5,di i)]) bd:=by
 have hle:=hg.le
 have hln:=hg.len
 have hal:=Xz G (I G.cs)
 induction N with
 |zero=>
  intro i hN hi
  rw[I3 (by omega)]
  exact zo [2] (.f .r) (yd i (I (U eV G.cs))/\Q (db J)) ⟨HO (by rw[HJ];omega),rfl⟩
 |succ N ih=>
  intro i hN hi
  have hs:=KJ G h hg.ok (by omega) hln.symm i (by omega)
  have hrl:I (C0 G.ar i)=I G.ar:=Gu _ _
  have hih:=ih (i+1) (by omega) (by omega)
  have e1:(BR G (I G.cs)).drop i=C0 G.ar i::(BR G (I G.cs)).drop (i+1):=by
   have:=Rd (G:=G) (n:=I G.cs) (i:=i) (by omega)
   rw[HZ (by omega)];congr 1
   rw[HK (by omega)] at this;simpa using this
  rw[e1,Sl,List.all_cons, ←Sl,Ahl]
  have hk:=AnJ G h (by omega) lb i (by omega) (C0 G.ar i) hrl (db ((List.range (I G.cs)).any (l4 G.ar lb (C0 G.ar i))&&Sl G lb (I G.cs) ((BR G (I G.cs)).drop (i+1)))) _ (fun hf=>by rw[hrl,hln,JG,Bool.false_or] at hf;rw[hf,IG];exact hih) (fun hf=>by rw[hrl,hln,JG,Bool.false_or] at hf;rw[hf,IE]) _ 0 false rfl (II _) rfl
  generalize ((List.range (I G.cs)).any (l4 G.ar lb (C0 G.ar i))&&Sl G lb (I G.cs) ((BR G (I G.cs)).drop (i+1)))=z at*
  generalize C0 G.ar i=r at*
  exact zo [2] (.t<|.c (.v (Ar r))<|.l [ke 1,ke 2,ke 5,ke 6,ke 7,ch 8 (di (0:Nat))]) (ye i (I (U eV G.cs))/\_/\Q (di 0)/\_) ⟨HM (by rw[HJ];omega),hs,rfl,iK hk⟩
theorem Abx(G:Gph)(h:BT G)(lb:Int):F0 30 [dG G,di lb] (db (lk G lb)):=by
 have hv:=Ge G h
 rw[lk]
 cases hb:fz G with
 |false=>
  refine sv F3 61 [2] (.c (di 45)<|.k<|.r) (F0 15 [bt (vG G)] (di 45)/\Q (db O)) ?_
  grind
 |true=>
  rw[hb,I4 rfl] at hv
  have hlp:=Ag2 G h (GM hb) lb _ 0 rfl (II _)
  rw[JG] at hlp
  generalize Sl G lb (I G.cs) (BR G (I G.cs))=z at*
  exact sv F3 61 [2] (.c (di 0)<|.k<|.l [ke 1,ke 2,ke 5]) (_/\_) ⟨hv,iK hlp⟩
noncomputable def B9:=yl EI
theorem AkV(n:Nat)(hn:n<=1000)(R:List (List Bool))(hR:qw n R)(i:Nat)(hi:i<n)(res:D)(O:List V)(hO:I O<=1000)(h:Int)(hh:(AJ n (FU R i))[0]?=some h)
  (nx1:h=(i:Int)->Rn PP EI 0 res bd ([kl B9 [1,1,1,1,1,0,1,0,0],.blk 2,kc B9 [1,1,1,1,1,1]]++[]) (cz 67 [(3,.acc 1 (R.map Ar)),(5,.acc 2 (O++[cy (AJ n (FU R i))])),(6,di (i+1:Nat))]) ⟨[],[(2,1,O++[cy (AJ n (FU R i))]),(1,1,R.map Ar)]⟩)
  (nx2:h≠ (i:Int)->Rn PP EI 0 res bd ([kl B9 [1,1,1,1,1,0,1,0,0],.blk 2,kc B9 [1,1,1,1,1,1]]++[]) (cz 67 [(3,.acc 1 (R.map Ar)),(5,.acc 2 O),(6,di (i+1:Nat))]) ⟨[],[(2,1,O),(1,1,R.map Ar)]⟩) (N:Nat):∀k:Nat,n-k=N->k<=n->
  Rn PP EI 0 res bd ([kl B9 [1,1,1,1,1,0,1,0,0,1,0,0,1,0,1,0,0],.blk 4,kc B9 [1,1,1,1,1,0,1,0,0,1,0,0,1,1],.blk 3,kc B9 [1,1,1,1,1,0,1,0,0,1,1],kl B9 [1,1,1,1,1,0,1,0,0],.blk 2,kc B9 [1,1,1,1,1,1]]++[]) (cz 67 [(3,.acc 1 (R.map Ar)),(5,.acc 2 O),(6,di i),(7,.acc 3 ((AJ k (FU R i)).map vi)),(8,di k)]) ⟨[],[(3,1,(AJ k (FU R i)).map vi),(2,1,O),(1,1,R.map Ar)]⟩:=by
 have hRl:=hR.1
 induction N with
 |zero=>
  intro k hN hk
  obtain rfl:k=n:=by omega
  have hl0:=Ae (f:=vi) (i:=0) hh
  generalize AJ k (FU R i)=L at*
  by_cases hb:h=(i:Int)
  ·have hnx:=nx1 hb
   refine lv 67 [1] (.f<|.x (vi h)<|.t<|.lo [ke 3,ke 5,ch 6 (di (i+1:Nat))] ⟨[],[(2,1,O++[cy L]),(1,1,R.map Ar)]⟩) (Y ((k:Int)<(I (U Ar R):Int))=false/\iz 0<=0/\_/\(h==(i:Int))=J/\Q O/\Ao (I O+I (ae (U vi L)::nV)) 24/\di (yu yt ((i:Int)+1))=di (↑(i+1):Int)/\cp 0 [2,1] []=J/\Q [(2,1,O++cy L::nV),(1,1,U Ar R)]/\_) ⟨HO (by rw[HJ];omega),by decide,hl0,IJ.2 hb,rfl,⟨?_,?_⟩,by rw[Ac],rfl,rfl,iK hnx⟩
   all_goals simp;omega
  ·have hnx:=nx2 hb
   exact lv 67 [1] (.f<|.x (vi h)<|.f<|.lo [ke 3,ke 5,ch 6 (di (i+1:Nat))] ⟨[],[(2,1,O),(1,1,R.map Ar)]⟩) (Y ((k:Int)<(I (U Ar R):Int))=false/\iz 0<=0/\_/\(h==(i:Int))=false/\di (yu yt ((i:Int)+1))=di (↑(i+1):Int)/\cp 0 [2,1] []=J/\Q [(2,1,O),(1,1,U Ar R)]/\_) ⟨HO (by rw[HJ];omega),by decide,hl0,IM.2 hb,by rw[Ac],rfl,rfl,iK hnx⟩
 |succ N ih=>
  intro k hN hk
  obtain⟨r,hr⟩:=@yk _ R i (by omega)
  obtain⟨q,hq⟩:=@yk _ R k (by omega)
  obtain⟨b,hb⟩:∃b,r[k]?=some b:=⟨_,HK (by rw[hR.2 r (HQ hr)];omega)⟩
  obtain⟨c,hc⟩:∃b,q[i]?=some b:=⟨_,HK (by rw[hR.2 q (HQ hq)];omega)⟩
  have e:FU R i k=(b&&c):=by simp[FU,hr,hq,hb,hc]
  have hlt:Y ((k:Int)<(I (R.map Ar):Int))=J:=HM (by rw[HJ];omega)
  have hih:=ih (k+1) (by omega) (by omega)
  have hln:=Hq k (FU R i)
  rw[Hp,e] at hih
  have h1:=Ae (f:=Ar) hr
  have h2:=Ae (f:=d5) hb
  have h3:=Ae (f:=Ar) hq
  have h4:=Ae (f:=d5) hc
  generalize AJ k (FU R i)=L at*
  cases b with
  |false=>
   rw[Iz (by simp)] at hih
   exact lv 67 [1] (.t<|.x (Ar r)<|.x (d5 false)<|.k<|.k<|.lo [ke 3,ke 5,ke 6,ke 7,ch 8 (di (k+1:Nat))] ⟨[],[(3,1,L.map vi),(2,1,O),(1,1,R.map Ar)]⟩) (_/\0<=(i:Int)/\_/\0<=(k:Int)/\_/\di (yu yt ((k:Int)+1))=di (↑(k+1):Int)/\cp 0 [3,2,1] []=J/\Q [(3,1,U vi L),(2,1,O),(1,1,U Ar R)]/\_) ⟨hlt,by omega,h1,by omega,h2,by rw[Ac],rfl,rfl,iK hih⟩
  |true=>
   cases c with
   |false=>
    rw[Iz (by simp)] at hih
    exact lv 67 [1] (.t<|.x (Ar r)<|.x (d5 true)<|.k<|.x (Ar q)<|.x (d5 false)<|.k<|.lo [ke 3,ke 5,ke 6,ke 7,ch 8 (di (k+1:Nat))] ⟨[],[(3,1,L.map vi),(2,1,O),(1,1,R.map Ar)]⟩) (_/\0<=(i:Int)/\_/\0<=(k:Int)/\_/\0<=(k:Int)/\_/\0<=(i:Int)/\_/\di (yu yt ((k:Int)+1))=di (↑(k+1):Int)/\cp 0 [3,2,1] []=J/\Q [(3,1,U vi L),(2,1,O),(1,1,U Ar R)]/\_) ⟨hlt,by omega,h1,by omega,h2,by omega,h3,by omega,h4,by rw[Ac],rfl,rfl,iK hih⟩
   |true=>
    rw[I4 (by simp)] at hih
    refine lv 67 [1] (.t<|.x (Ar r)<|.x (d5 true)<|.k<|.x (Ar q)<|.x (d5 true)<|.k<|.lo [ke 3,ke 5,ke 6,ke 7,ch 8 (di (k+1:Nat))] ⟨[],[(3,1,(L++[(k:Int)]).map vi),(2,1,O),(1,1,R.map Ar)]⟩) (type_of% hlt/\0<=(i:Int)/\type_of% h1/\0<=(k:Int)/\type_of% h2/\0<=(k:Int)/\type_of% h3/\0<=(i:Int)/\type_of% h4/\Q (U vi L)/\Ao (I (U vi L)+I (a8 yt (k:Int)::nV)) 8/\di (yu yt ((k:Int)+1))=di (↑(k+1):Int)/\cp 0 [3,2,1] []=J/\[(3,1,U vi L++vi (k:Int)::nV),(2,1,O),(1,1,U Ar R)]=[(3,1,U vi (L++[(k:Int)])),(2,1,O),(1,1,U Ar R)]/\I0 EI 0 res bd [kl B9 [1,1,1,1,1,0,1,0,0,1,0,0,1,0,1,0,0],bh 4,kc B9 [1,1,1,1,1,0,1,0,0,1,0,0,1,1],bh 3,kc B9 [1,1,1,1,1,0,1,0,0,1,1],kl B9 mr,bh 2,kc B9 mu] (cz 67 [(3,br 1 (U Ar R)),(5,br 2 O),(6,di (i:Int)),(7,br 3 (U vi L++[vi (k:Int)])),(8,di (↑(k+1):Int))]) (bi [] [(3,1,U vi (L++[(k:Int)])),(2,1,O),(1,1,U Ar R)])) ?_
    have e:(L++[(k:Int)]).map vi=L.map vi++[vi k]:=by simp
    rw[e] at hih⊢
    refine⟨hlt,by omega,h1,by omega,h2,by omega,h3,by omega,h4,rfl,⟨?_,?_⟩,by rw[Ac],rfl,rfl,⟨hih⟩⟩
    all_goals simp;omega
theorem AkT(n:Nat)(hn:n<=128)(R:List (List Bool))(hR:qw n R)(hs:∀i<n,FU R i i=J)(N:Nat):∀i:Nat,n-i=N->i<=n->
  Rn PP EI 0 (.v (Ey (C9 n R n))) bd ([zu EI 1012,.blk 2,zt EI 127]++[]) (cz 67 [(3,.acc 1 (R.map Ar)),(5,.acc 2 ((C9 n R i).map cy)),(6,di i)]) ⟨[],[(2,1,(C9 n R i).map cy),(1,1,R.map Ar)]⟩:=by
 have hRl:=hR.1
 induction N with
 |zero=>
  intro i hN hi
  obtain rfl:i=n:=by omega
  exact zo [1] (.f .r) (Y ((i:Int)<(I (U Ar R):Int))=false/\Q (bt (Ey (C9 i R i)))) ⟨HO (by rw[HJ];omega),rfl⟩
 |succ N ih=>
  intro i hN hi
  have hih:=ih (i+1) (by omega) (by omega)
  have hln:=MB n R i
  have hmem:(i:Int)∈AJ n (FU R i):=IQ.2 ⟨i,List.mem_filter.2 ⟨mem_range.2 (by omega),hs i (by omega)⟩,rfl⟩
  obtain⟨h,hh⟩:∃h,(AJ n (FU R i))[0]?=some h:=⟨_,HK (List.length_pos_of_mem hmem)⟩
  rw[C9,List.head?_eq_getElem?,hh] at hih
  have hin:=AkV n (by omega) R hR i (by omega) (.v (Ey (C9 n R n))) ((C9 n R i).map cy) (by simp;omega) h hh (fun hb=>by
   rw[I4 (by rw[hb]),J5] at hih
   exact hih) (fun hb=>by
   rw[Iz (by simpa using hb)] at hih
   exact hih) _ 0 rfl (II _)
  exact zo [1] (.t<|.h (.q 13 0)<|.h (.nw 7 3 1)<|.lo [ke 3,ke 5,ke 6,ke 7,ch 8 (di (0:Nat))] ⟨[],[(3,1,[]),(2,1,(C9 n R i).map cy),(1,1,R.map Ar)]⟩) (ye i (I (U Ar R))/\Q (di 0)/\cp 0 [3,2,1] []=J/\Q [(3,1,nV),(2,1,U cy (C9 n R i)),(1,1,U Ar R)]/\_) ⟨HM (by rw[HJ];omega),rfl,rfl,rfl,iK hin⟩
theorem AkU(G:Gph)(h:BT G)(hg:GR G)(res:D)
  (next:Rn PP EI 0 res bd ([zu EI 1012,.blk 2,zt EI 127]++[]) (cz 67 [(3,.acc 1 ((BR G (I G.cs)).map Ar)),(5,.acc 2 []),(6,di (0:Nat))]) ⟨[],[(2,1,[]),(1,1,(BR G (I G.cs)).map Ar)]⟩) (N:Nat):∀k:Nat,I G.cs-k=N->k<=I G.cs->
  Rn PP EI 0 res bd ([zu EI 244,.blk 0,zt EI 31]++[]) (cz 67 [(1,.v (.ref (vG G))),(3,.acc 1 ((BR G k).map Ar)),(4,di k)]) ⟨[],[(1,1,(BR G k).map Ar)]⟩:=by
 have hle:=hg.le
 have hln:=hg.len
 induction N with
 |zero=>
  intro k hN hk
  obtain rfl:k=I G.cs:=by omega
  exact zo [1] (.f<|.h (.q 9 0)<|.h (.nw 5 2 1)<|.lo [ke 3,ke 5,ch 6 (di (0:Nat))] ⟨[],[(2,1,[]),(1,1,(BR G (I G.cs)).map Ar)]⟩) (Y ((I G.cs:Int)<(I (U eV G.cs):Int))=false/\Q (di 0)/\cp 0 [2,1] []=J/\Q [(2,1,nV),(1,1,U Ar (BR G (I G.cs)))]/\_) ⟨HO (by rw[HJ];omega),rfl,rfl,rfl,iK next⟩
 |succ N ih=>
  intro k hN hk
  have hr:=KJ G h hg.ok (by omega) hln.symm k (by omega)
  have hih:=ih (k+1) (by omega) (by omega)
  have e:(BR G (k+1)).map Ar=(BR G k).map Ar++[Ar (C0 G.ar k)]:=by simp[BR,range_succ]
  have hl:I ((BR G k).map Ar)=k:=by simp[BR]
  rw[e] at hih
  generalize (BR G k).map Ar=L at*
  generalize C0 G.ar k=r at*
  refine zo [1] (.t<|.c (.v (Ar r))<|.lo (ux k) ⟨[],[(1,1,L++[Ar r])]⟩) (ye k (I (U eV G.cs))/\_/\Q L/\Ao (I L+I (Ar r::nV)) 24/\zx k/\cp 0 [1] []=J/\Q [(1,1,L++Ar r::nV)]/\_) ⟨HM (by rw[HJ];omega),hr,rfl,⟨?_,?_⟩,Ac,rfl,rfl,iK hih⟩
  all_goals simp;omega
theorem AbI(G:Gph)(h:BT G):F0 23 [dG G] (.v (Ey (nh G))):=by
 have hv:=Ge G h
 rw[nh]
 cases hb:fz G with
 |false=>
  rw[hb,Iz (by simp)] at hv
  exact sv EI 67 [1] (.c (di 45)<|.k<|.r) (_/\Q (bt (ae []))) ⟨hv,rfl⟩
 |true=>
  rw[hb,I4 rfl] at hv
  have hg:=GM hb
  have hl2:=AkT (I G.cs) hg.le _ (Re hg) (fun i hi=>by
   have:=(Wp (A:=G.ar) (i:=i) (j:=i) (by rw[hg.len];exact hi)).2 ⟨0,.nil i⟩
   simp[FU,Rd hi,this]) _ 0 rfl (II _)
  have hlp:=AkU G h hg _ hl2 _ 0 rfl (II _)
  rw[I4 rfl]
  generalize C9 (I G.cs) (BR G (I G.cs)) (I G.cs)=z at*
  exact sv EI 67 [1] (.c (di 0)<|.k<|.h (.q 4 0)<|.h (.nw 3 1 1)<|.lo [ke 1,ke 3,ke 4] ⟨[],[(1,1,[])]⟩) (_/\cp 0 [1] []=J/\Q [(1,1,nV)]/\_) ⟨hv,rfl,rfl,iK hlp⟩
theorem Arg(l:List UInt8)(_:I l<=200)(fr to lb:Int)(g x:Gph)(hx:BT x)(xs:List Gph)(hxs:I xs<=1000)(i:Nat)(hi:i<I xs)(a:Nat)(next:Rn PP gb 0 (db J) bd ([zu gb 131060,.blk 4,zt gb 16383]++[]) (cz 264 [(2,di fr),(3,di to),(4,di lb),(13,.ptr 0 0),(25,.v (.ref (vG g))),(136,.v (.list (xs.map vG))),(137,di (I xs)),(138,zw i)]) (dz l a))(ls:List Int)(hls:I ls<=1000)(n:Nat):∀j:Nat,I ls-j=n->
  Rn PP gb 0 (db J) bd ([zu gb 1073650172,.blk 12,.blk 5,zt gb 1048487,zu gb 131060,.blk 4,zt gb 16383]++[]) (cz 264 [(2,di fr),(3,di to),(4,di lb),(13,.ptr 0 0),(25,.v (.ref (vG g))),(28,.v (.ref (vG x))),(136,.v (.list (xs.map vG))),(137,di (I xs)),(138,di i),(249,cw ls),(250,di (I ls)),(251,di j)]) (dz l a):=by
 induction n with
 |zero=>
  intro j hn
  exact zo [7] (.f<|.lo [ke 2,ke 3,ke 4,ke 13,ke 25,ke 136,ke 137,ch 138 (zw i)] (dz l a)) (yd j (I ls)/\zx i/\cp 1 [] (gp l a)=J/\Q (dz l a).H/\_) ⟨yq,by grind[Ac],rfl,rfl,iK next⟩
 |succ n ih=>
  intro j hn
  obtain⟨k,hk⟩:=yk (show j<I ls by omega)
  have h1:=Lh x hx k
  have h2:=Abx x hx k
  generalize lk x k=b at h1 h2
  exact zo [7] (.t<|.x (vi k)<|.c (db b)<|.c (db b)<|.f<|.lo [ke 2,ke 3,ke 4,ke 13,ke 25,ke 28,ke 136,ke 137,ke 138,ke 249,ke 250,ch 251 (zw j)] (dz l a)) (ye j (I ls)/\y6 j/\zy (U vi ls) j (vi k)/\_/\_/\(b !=b)=O/\zx j/\cp 1 [] (gp l a)=J/\Q (dz l a).H/\_) ⟨yr,by omega,fc hk,h1,h2,by simp,by grind[Ac],rfl,rfl,iK (ih (j+1) (by omega))⟩
theorem Arh(l:List UInt8)(_:I l<=200)(fr to lb:Int)(g x:Gph)(hx:BT x)(xs:List Gph)(_:I xs<=1000)(i:Nat)(_:i<I xs)(ks:List Int)(hks:I ks<=1000)(j:Nat)(hj:j<I ks)(k:Int)(a:Nat)(next:Rn PP gb 0 (db J) bd ([zu gb 1073650164,.blk 8,zt gb 134206271,.blk 5,zt gb 1048487,zu gb 131060,.blk 4,zt gb 16383]++[]) (cz 264 [(2,di fr),(3,di to),(4,di lb),(13,.ptr 0 0),(25,.v (.ref (vG g))),(28,.v (.ref (vG x))),(136,.v (.list (xs.map vG))),(137,di (I xs)),(138,di i),(200,cw ks),(201,di (I ks)),(202,zw j)]) (dz l a))(js:List Int)(hjs:I js<=1000)(n:Nat):∀p:Nat,I js-p=n->
  Rn PP gb 0 (db J) bd ([.lp (sub ej (1::1::1::1::1::1::1::[1,1,1,1,1,0,1,0,0,1,1,0,0,1,1,1,1,1,0,1,0,0,1,1,0,0,1,1,1,0,0])),.blk 10,.blk 9,.code (sub ej (1::[1,1,1,1,1,1,1,1,1,1,1,0,1,0,0,1,1,0,0,1,1,1,1,1,0,1,0,0,1,1,1])),zu gb 1073650164,.blk 8,zt gb 134206271,.blk 5,zt gb 1048487,zu gb 131060,.blk 4,zt gb 16383]++[]) (cz 264 [(2,di fr),(3,di to),(4,di lb),(13,.ptr 0 0),(25,.v (.ref (vG g))),(28,.v (.ref (vG x))),(33,di k),(136,.v (.list (xs.map vG))),(137,di (I xs)),(138,di i),(200,cw ks),(201,di (I ks)),(202,di j),(217,cw js),(218,di (I js)),(219,di p)]) (dz l a):=by
 induction n with
 |zero=>
  intro p hn
  exact zo [7] (.f<|.lo [ke 2,ke 3,ke 4,ke 13,ke 25,ke 28,ke 136,ke 137,ke 138,ke 200,ke 201,ch 202 (zw j)] (dz l a)) (yd p (I js)/\zx j/\cp 1 [] (gp l a)=J/\Q (dz l a).H/\_) ⟨yq,by grind[Ac],rfl,rfl,iK next⟩
 |succ n ih=>
  intro p hn
  obtain⟨y,hy⟩:=yk (show p<I js by omega)
  have h1:=Ss x hx k y
  have h2:=Abg x hx k y
  have h3:=RM (Hi x k y).1 (Hi x k y).1 (by grind[Akq])
  rw[Lo (fun a=>by simp)] at h3
  generalize Hi x k y=w at h1 h2 h3
  exact zo [7] (.t<|.x (vi y)<|.c (.tup [.v (Ai w.1),db w.2])<|.c (.tup [.v (Ai w.1),db w.2])<|.f<|.c (db J)<|.k<|.lo [ke 2,ke 3,ke 4,ke 13,ke 25,ke 28,ke 33,ke 136,ke 137,ke 138,ke 200,ke 201,ke 202,ke 217,ke 218,ch 219 (zw p)] (dz l a)) (ye p (I js)/\y6 p/\zy (U vi js) p (vi y)/\_/\_/\(w.snd !=w.snd)=O/\_/\zx p/\cp 1 [] (gp l a)=J/\Q (dz l a).H/\_) ⟨yr,by omega,fc hy,h1,h2,by simp,h3,by grind[Ac],rfl,rfl,iK (ih (p+1) (by omega))⟩
theorem AsQ(l:List UInt8)(hl:I l<=200)(fr to lb:Int)(g x:Gph)(hx:BT x)(xs:List Gph)(hxs:I xs<=1000)(i:Nat)(hi:i<I xs)(next:∀a,a<=I l->Rn PP gb 0 (db J) bd ([zu gb 131060,.blk 4,zt gb 16383]++[]) (cz 264 [(2,di fr),(3,di to),(4,di lb),(13,.ptr 0 0),(25,.v (.ref (vG g))),(136,.v (.list (xs.map vG))),(137,di (I xs)),(138,zw i)]) (dz l a))(ks:List Int)(hks:I ks<=1000)(n:Nat):∀(j a:Nat),a<=I l->I ks-j=n->
  Rn PP gb 0 (db J) bd ([zu gb 1073650164,.blk 8,zt gb 134206271,.blk 5,zt gb 1048487,zu gb 131060,.blk 4,zt gb 16383]++[]) (cz 264 [(2,di fr),(3,di to),(4,di lb),(13,.ptr 0 0),(25,.v (.ref (vG g))),(28,.v (.ref (vG x))),(136,.v (.list (xs.map vG))),(137,di (I xs)),(138,di i),(200,cw ks),(201,di (I ks)),(202,di j)]) (dz l a):=by
 induction n with
 |zero=>
  intro j a ha hn
  have h:=Arg l hl fr to lb g x hx xs hxs i hi a (next a ha) [lb, -1,0,1,2] (by simp) _ 0 rfl
  exact zo [7] (.f<|.lo [ke 2,ke 3,ke 4,ke 13,ke 25,ke 28,ke 136,ke 137,ke 138,ch 249 (cw [lb, -1,0,1,2]),ch 250 (di 5),ch 251 (di (0:Nat))] (dz l a)) (yd j (I ks)/\Q (cw [lb, -1,0,1,2])/\Q (di 5)/\Q (di 0)/\cp 1 [] (gp l a)=J/\Q (dz l a).H/\_) ⟨yq,rfl,rfl,rfl,rfl,rfl,iK h⟩
 |succ n ih=>
  intro j a ha hn
  obtain⟨k,hk⟩:=yk (show j<I ks by omega)
  obtain⟨r,a1,p1,p2,p3,p4⟩:=A6 l hl a ha 6 (by decide) (by decide)
  have h1:=Ade x hx k
  have h2:=Abr x hx k
  have h3:=Lf (pv x k) (by grind[AkX])
  have h:=Arh l hl fr to lb g x hx xs hxs i hi ks hks j (by omega) k a1 (ih (j+1) a1 p3 (by omega)) [to,0,r] (by simp) _ 0 rfl
  generalize pv x k=R at h1 h2 h3
  exact zo [7] (.t<|.x (vi k)<|.c (cw R)<|.c (cw R)<|.c (db J)<|.k<|.c1 (cn l a1) (di r)<|.lo [ke 2,ke 3,ke 4,ke 13,ke 25,ke 28,ke 33,ke 136,ke 137,ke 138,ke 200,ke 201,ke 202,ch 217 (cw [to,0,r]),ch 218 (di 3),ch 219 (di (0:Nat))] (dz l a1)) (ye j (I ks)/\y6 j/\zy (U vi ks) j (vi k)/\_/\_/\_/\_/\Q (cw [to,0,r])/\Q (di 3)/\Q (di 0)/\cp 1 [] (gp l a1)=J/\Q (dz l a1).H/\_) ⟨yr,by omega,fc hk,h1,h2,h3,p4,rfl,rfl,rfl,rfl,rfl,iK h⟩
theorem AsR(l:List UInt8)(hl:I l<=200)(fr to lb:Int)(g x:Gph)(hx:BT x)(xs:List Gph)(hxs:I xs<=1000)(i:Nat)(hi:i<I xs)(next:∀a,a<=I l->Rn PP gb 0 (db J) bd ([kl ej [1,1,1,1,1,1,1,1,1,1,1,1,0,1,0,0],.blk 4,kc ej [1,1,1,1,1,1,1,1,1,1,1,1,1]]++[]) (cz 264 [(2,di fr),(3,di to),(4,di lb),(13,.ptr 0 0),(25,.v (.ref (vG g))),(136,.v (.list (xs.map vG))),(137,di (I xs)),(138,di (i+1:Nat))]) (dz l a))(C:List (List Int))(hC:I C<=1000/\∀c∈C,I c<=1000)(a:Nat)(ha:a<=I l)(n:Nat):∀(k:Nat),I C-k=n->
  Rn PP gb 0 (db J) bd ([kl ej [1,1,1,1,1,1,1,1,1,1,1,1,0,1,0,0,1,1,0,0,1,1,1,1,0,1,0,0],.blk 6,kc ej [1,1,1,1,1,1,1,1,1,1,1,1,0,1,0,0,1,1,0,0,1,1,1,1,1],.blk 5,kc ej [1,1,1,1,1,1,1,1,1,1,1,1,0,1,0,0,1,1,1],kl ej [1,1,1,1,1,1,1,1,1,1,1,1,0,1,0,0],.blk 4,kc ej [1,1,1,1,1,1,1,1,1,1,1,1,1]]++[]) (cz 264 [(2,di fr),(3,di to),(4,di lb),(13,.ptr 0 0),(25,.v (.ref (vG g))),(28,.v (.ref (vG x))),(29,.v (Ey C)),(30,.v (Ey C)),(136,.v (.list (xs.map vG))),(137,di (I xs)),(138,di i),(181,.v (Ey C)),(182,di (I C)),(183,di k)]) (dz l a):=by
 induction n with
 |zero=>
  intro k hn
  obtain⟨r,a1,p1,p2,p3,p4⟩:=A6 l hl a ha 6 (by decide) (by decide)
  have h:=AsQ l hl fr to lb g x hx xs hxs i hi next [fr,0,r, -1] (by simp) _ 0 a1 p3 rfl
  exact lv 264 [7] (.f<|.c1 (cn l a1) (di r)<|.lo [ke 2,ke 3,ke 4,ke 13,ke 25,ke 28,ke 136,ke 137,ke 138,ch 200 (cw [fr,0,r, -1]),ch 201 (di 4),ch 202 (di (0:Nat))] (dz l a1)) (Y ((k:Int)<(I C:Int))=O/\_/\Q (cw [fr,0,r, -1])/\Q (di 4)/\Q (di 0)/\cp 1 [] (gp l a1)=J/\Q (dz l a1).H/\_) ⟨yq,p4,rfl,rfl,rfl,rfl,rfl,iK h⟩
 |succ n ih=>
  intro k hn
  obtain⟨c,hc⟩:=yk (show k<I C by omega)
  have h3:=Lf c (by have:=hC.2 c (HQ hc);omega)
  exact lv 264 [7] (.t<|.x (cy c)<|.x (cy c)<|.c (db J)<|.k<|.lo [ke 2,ke 3,ke 4,ke 13,ke 25,ke 28,ke 29,ke 30,ke 136,ke 137,ke 138,ke 181,ke 182,ch 183 (di (k+1:Nat))] (dz l a)) (Y ((k:Int)<(I C:Int))=J/\0<=(k:Int)/\(U cy C)[Z (k:Int)]?=G (cy c)/\0<=(k:Int)/\(U cy C)[Z (k:Int)]?=G (cy c)/\_/\di (yu yt ((k:Int)+1))=di (↑(k+1):Int)/\cp 1 [] (gp l a)=J/\Q (dz l a).H/\_) ⟨yr,by omega,WL hc,by omega,WL hc,h3,by rw[Ac],rfl,rfl,iK (ih (k+1) (by omega))⟩
theorem AsS(l:List UInt8)(hl:I l<=200)(fr to lb:Int)(g:Gph)(xs:List Gph)(hxs:I xs<=1000)(hx:∀x∈xs,BT x)(n:Nat):∀(i a:Nat),a<=I l->I xs-i=n->
  Rn PP gb 0 (db J) bd ([kl ej [1,1,1,1,1,1,1,1,1,1,1,1,0,1,0,0],.blk 4,kc ej [1,1,1,1,1,1,1,1,1,1,1,1,1]]++[]) (cz 264 [(2,di fr),(3,di to),(4,di lb),(13,.ptr 0 0),(25,.v (.ref (vG g))),(136,.v (.list (xs.map vG))),(137,di (I xs)),(138,di i)]) (dz l a):=by
 induction n with
 |zero=>
  intro i a ha hn
  refine lv 264 [7] (.f .r) (Y ((i:Int)<(I xs:Int))=O/\Q (db J)) ?_
  grind
 |succ n ih=>
  intro i a ha hn
  obtain⟨x,hxi⟩:=yk (show i<I xs by omega)
  have hxf:=hx x (HQ hxi)
  have h1:=Sy x hxf
  have h2:=Ge x hxf
  have h3:=AcX x g hxf
  have h4:=MX x g hxf
  have h5:=Sw x hxf
  have h6:=Ab3 x hxf
  have h7:=Lf (mj x) (by grind[Al3])
  have h8:=Sx x hxf
  have h9:=AbG x hxf
  have h10:=Lf (nj x) (by grind[AlP])
  have h11:=Adu x hxf
  have h12:=AbI x hxf
  have h:=AsR l hl fr to lb g x hxf xs hxs i (by omega) (fun a ha=>ih (i+1) a ha (by omega)) (nh x) (Ame hxf) a ha _ 0 rfl
  generalize (if fz x=J then(0:Int) else 45)=c at h1 h2
  generalize qh x g=s at h3 h4
  generalize mj x=H at h5 h6 h7
  generalize nj x=D1 at h8 h9 h10
  generalize nh x=C at h11 h12 h
  exact lv 264 [7] (.t<|.x (vG x)<|.c (di c)<|.c (di c)<|.f<|.c (db s)<|.c (db s)<|.f<|.c (cw H)<|.c (cw H)<|.c (db J)<|.k<|.c (cw D1)<|.c (cw D1)<|.c (db J)<|.k<|.c (.v (Ey C))<|.c (.v (Ey C))<|.h (.q 34 0)<|.h (.fa 1 [28])<|.f<|.lo [ke 2,ke 3,ke 4,ke 13,ke 25,ke 28,ke 29,ke 30,ke 136,ke 137,ke 138,ch 181 (.v (Ey C)),ch 182 (di (I C)),ch 183 (di (0:Nat))] (dz l a)) (Y ((i:Int)<(I xs:Int))=J/\0<=(i:Int)/\(U vG xs)[Z (i:Int)]?=G (vG x)/\_/\_/\(c !=c)=O/\_/\_/\(s !=s)=O/\_/\_/\_/\_/\_/\_/\(True/\True/\True/\True/\True/\True/\True/\True/\True)/\_/\_/\yo/\((I (U cy C):Int) !=(I (U cy C):Int))=O/\Q (bt (Ey C))/\di (I (U cy C):Int)=di (I C:Int)/\Q (di 0)/\cp 1 [] (gp l a)=J/\Q (dz l a).H/\_) ⟨yr,by omega,by simp[hxi],h1,h2,by simp,h3,h4,by simp,h5,h6,h7,h8,h9,h10,⟨trivial,trivial,trivial,trivial,trivial,trivial,trivial,trivial,trivial⟩,h11,h12,ym,by simp,rfl,by grind,rfl,rfl,rfl,iK h⟩
noncomputable def G6:=yl vj
abbrev wo(l:List UInt8)(a:Nat)(cs:List b9)(A:As):St:=⟨[some (cn l a),some f7,some [.acc 1 (cs.map eV),.acc 2 (A.map Ai)]],[(2,1,A.map Ai),(1,2,cs.map eV)]⟩
abbrev An3(l:List UInt8)(a:Nat)(cs:List b9)(A:As)(row:List Aw):St:=⟨[some (cn l a),some f7,some [.acc 1 (cs.map eV),.acc 2 (A.map Ai)]],[(3,2,row.map cg),(2,1,A.map Ai),(1,2,cs.map eV)]⟩
theorem AjD(l:List UInt8)(hl:I l<=200)(n:Int)(hn:1<=n/\n<=6)(i:Nat)(hi:i<=1000)(cs:List b9)(A:As)(hA:I A<=1000):∀(k a:Nat) (row:List Aw),a<=I l->I row+k<=1000->∃(row':List Aw) (a':Nat),a'<=I l/\row'.length<=1000/\∀(res:D) (σ':St),
  Rn PP vj 1 res σ' ([kl G6 [1,1,1,0,1,0,0],.blk 0,kc G6 [1,1,1,1]]++[]) (cz 45 [(0,.ptr 0 0),(2,.ptr 1 0),(3,.ptr 2 0),(4,di n),(5,di (i+1:Nat))]) (wo l a' cs (A++[row']))->
  Rn PP vj 1 res σ' ([kl G6 [1,1,1,0,1,0,0,1,0,0,1,1,0,1,0,0],.blk 2,kc G6 [1,1,1,0,1,0,0,1,0,0,1,1,1],.blk 1,kc G6 [1,1,1,0,1,0,0,1,1],kl G6 [1,1,1,0,1,0,0],.blk 0,kc G6 [1,1,1,1]]++[]) (cz 45 [(0,.ptr 0 0),(2,.ptr 1 0),(3,.ptr 2 0),(4,di n),(5,di i),(6,.acc 3 (row.map cg)),(7,di k)]) (An3 l a cs A row)
 |0,a,row,ha,hr=>by
  refine⟨row,a,ha,by omega,fun res σ' h=>?_⟩
  exact lv 45 [] (.f<|.h (.q 12 0)<|.h (.un 6)<|.lo [ke 0,ke 2,ke 3,ke 4,ch 5 (di (i+1:Nat))] (wo l a cs (A++[row]))) (Y ((↑0:Int)>0)=O/\Q (U Ai A)/\Ao (I (U Ai A)+I (ae (U cg row)::nV)) 24/\di (yu yt ((i:Int)+1))=di (↑(i+1):Int)/\Q J/\[some (cn l a),some f7,some [br 1 (U eV cs),br 2 (U Ai A++ae (U cg row)::nV)]]=[some (cn l a),some f7,some [br 1 (U eV cs),br 2 (U Ai (A++[row]))]]/\[(2,1,U Ai A++ae (U cg row)::nV),(1,2,U eV cs)]=[(2,1,U Ai (A++[row])),(1,2,U eV cs)]/\_) ⟨rfl,rfl,⟨by simp;omega,by simp;omega⟩,by rw[Ac],rfl,by simp,by simp,iK h⟩
 |k+1,a,row,ha,hr=>by
  obtain⟨r1,a1,h1,h2,h3,h4⟩:=A6 l hl a ha 3 (by decide) (by decide)
  obtain⟨r2,a2,g1,g2,g3,g4⟩:=A6 l hl a1 h3 n hn.1 (by omega)
  obtain⟨row',a',k1,k2,k3⟩:=AjD l hl n hn i hi cs A hA k a2 (row++[(r1,r2)]) g3 (by simp;omega)
  refine⟨row',a',k1,k2,fun res σ' h=>?_⟩
  have hk:=k3 res σ' h
  rw[J5,List.map_singleton] at hk
  exact lv 45 [] (.t<|.c1 (cn l a1) (di r1)<|.c1 (cn l a2) (di r2)<|.lo [ke 0,ke 2,ke 3,ke 4,ke 5,ch 6 (.acc 3 (row.map cg++[cg (r1,r2)])),ch 7 (di k)] (An3 l a2 cs A (row++[(r1,r2)]))) (Y ((↑(k+1):Int)>0)=J/\_/\_/\Q (U cg row)/\Ao (I (U cg row)+I (aa (a8 yt r1::a8 yt r2::nV)::nV)) 16/\Q (br 3 (U cg row++[cg (r1,r2)]))/\di (yu yt ((↑(k+1):Int)-1))=di (k:Int)/\Q J/\Q (An3 l a2 cs A (row++[(r1,r2)])).H/\[(3,2,U cg row++aa (vi r1::vi r2::nV)::nV),(2,1,U Ai A),(1,2,U eV cs)]=[(3,2,U cg (row++[(r1,r2)])),(2,1,U Ai A),(1,2,U eV cs)]/\_) ⟨yr,h4,g4,rfl,⟨by simp;omega,by simp;omega⟩,rfl,I6 di (by rw[An];omega),rfl,rfl,by simp,iK hk⟩
theorem Ari(l:List UInt8)(hl:I l<=200)(n:Nat)(hn:1<=n/\n<=6)(m:Nat):∀(i a:Nat) (cs:List b9) (A:As),n-i=m->i<=n->a<=I l->I cs=i->I A=i->(∀v∈cs,v.size<=1)->(∀r∈A,I r<=1000)->
  ∃(G:Gph) (a':Nat),(BT G/\1<=I G.cs/\G.cs.length<=6)/\a'<=I l/\Rn PP vj 1 (dG G) (dz l a') ([zu vj 244,.blk 0,zt vj 31]++[]) (cz 45 [(0,.ptr 0 0),(2,.ptr 1 0),(3,.ptr 2 0),(4,di n),(5,di i)]) (wo l a cs A):=by
 induction m with
 |zero=>
  intro i a cs A hm hi ha hc hA hcs hr
  refine⟨⟨cs,A⟩,a,⟨⟨by show I cs<=1000;omega,by show I A<=1000;omega,fun l hl=>by have:=hr l hl;omega,fun v hv=>b9.fit_of v (by have:=hcs v hv;omega)⟩,by show 1<=I cs;omega,by show I cs<=6;omega⟩,ha,?_⟩
  exact zp (.f .r) (yd i n/\Q [some (cn l a)]/\Q (dG (Gph.mk cs A))) ⟨yq,rfl,rfl⟩
 |succ m ih=>
  intro i a cs A hm hi ha hc hA hcs hr
  obtain⟨r,a1,h1,h2,h3,h4⟩:=A6 l hl a ha 4 (by decide) (by decide)
  obtain⟨k,hk⟩:∃k:Nat,r=k:=⟨r.toNat,by omega⟩
  subst hk
  obtain⟨row',a2,k1,k2,k3⟩:=AjD l hl n (by omega) i (by omega) (cs++[.mk i []]) A (by omega) k a1 [] h3 (by simp;omega)
  obtain⟨G,a',g1,g2,g3⟩:=ih (i+1) a2 (cs++[.mk i []]) (A++[row']) (by omega) (by omega) k1 (by simp[hc]) (by simp[hA]) (fun v hv=>by
   rcases IV.1 hv with hv|hv
   ·exact hcs v hv
   ·rw[Ia.1 hv];exact HR 1) (fun r hr'=>by
   rcases IV.1 hr' with hr'|hr'
   ·exact hr r hr'
   ·rw[Ia.1 hr'];exact k2)
  refine⟨G,a',g1,g2,?_⟩
  have hk:=k3 _ _ g3
  exact zp (.t<|.h (.q 8 0)<|.h (.nw 6 3 2)<|.c1 (cn l a1) (di k)<|.lo [ke 0,ke 2,ke 3,ke 4,ke 5,ch 6 (.acc 3 []),ch 7 (di k)] (An3 l a1 (cs++[.mk i []]) A [])) (ye i n/\Q (U eV cs)/\Ao (I (U eV cs)+I (aa (a8 yt (i:Int)::ae nV::nV)::nV)) 32/\_/\Q (br 3 [])/\Q (di (k:Int))/\Q J/\[some (cn l a1),some f7,some [br 1 (U eV cs++aa (vi (i:Int)::ae nV::nV)::nV),br 2 (U Ai A)]]=[some (cn l a1),some f7,some [br 1 (U eV (cs++[b9.mk (i:Int) []])),br 2 (U Ai A)]]/\[(3,2,nV),(2,1,U Ai A),(1,2,U eV cs++aa (vi (i:Int)::ae nV::nV)::nV)]=[(3,2,nV),(2,1,U Ai A),(1,2,U eV (cs++[b9.mk (i:Int) []]))]/\_) ⟨yr,rfl,⟨by simp;omega,by simp;omega⟩,h4,rfl,rfl,rfl,by rw[J5];rfl,by rw[J5];rfl,iK hk⟩
theorem AjE(l:List UInt8)(hl:I l<=200)(a:Nat)(ha:a<=I l):∃(G:Gph) (a':Nat),(BT G/\1<=I G.cs/\G.cs.length<=6)/\a'<=I l/\Aa PP 13 [.ptr 0 0] (dz l a) (dG G) (dz l a'):=by
 obtain⟨r,a1,h1,h2,h3,h4⟩:=A6 l hl a ha 6 (by decide) (by decide)
 obtain⟨k,hk⟩:∃k:Nat,r=k:=⟨r.toNat,by omega⟩
 subst hk
 obtain⟨G,a',g1,g2,g3⟩:=Ari l hl (1+k) (by omega) _ 0 a1 [] [] rfl (II _) h3 rfl rfl (fun v hv=>by cases hv) (fun v hv=>by cases hv)
 refine⟨G,a',g1,g2,?_⟩
 exact zq vj 45 (.c1 (cn l a1) (di k)<|.h (.q 3 0)<|.h (.cl 2 0 1 2)<|.h (.cl 2 1 2 1)<|.lo [ke 0,ke 2,ke 3,ch 4 (di (1+k:Nat)),ch 5 (di (0:Nat))] (wo l a1 [] [])) (_/\di (yu yt (1+(k:Int)))=di (↑(1+k):Int)/\Q (di 0)/\Q J/\Q [some (cn l a1),some f7,some [br 1 nV,br 2 nV]]/\Q [(2,1,nV),(1,2,nV)]/\_) ⟨h4,I6 di (by rw[An];omega),rfl,rfl,rfl,rfl,iK g3⟩
theorem Q4(n:Nat)(ts:List Nat):∀l:List V,D.okNs n ts (l.map .v)=J
 |[]=>rfl
 |x::l=>by simp only[I9,D.okNs,D.okN,Q4 n ts l,IG]
theorem Ajp:∀{l:List Int},I l=2->∃a b,l=[a,b]
 |[a,b],_=>⟨a,b,rfl⟩
theorem YF(r:cm)(l:List cm):Ab ((r::l).map Aj)=cR r++Ab (l.map Aj):=by
 rfl
theorem Ad1(a b:List cm):Ab ((a++b).map Aj)=Ab (a.map Aj)++Ab (b.map Aj):=by
 grind[Ab]
theorem K6{l:List cm}{k:Nat}{r:cm}(h:l[k]?=G r):Ab (l.map Aj)=Ab ((l.take k).map Aj)++(cR r++Ab ((l.drop (k+1)).map Aj)):=by
 obtain⟨hk,rfl⟩:=HN.1 h
 conv=>lhs;rw[←List.take_append_drop k l,HZ hk]
 rw[Ad1,YF]
theorem M2{l:List cm}{k:Nat}(hk:k<I l):I (Ab ((l.take k).map Aj))=k*14:=by grind[Lm]
theorem AhX{l:List cm}{k:Nat}{r:cm}(h:l[k]?=G r):((Ab (l.map Aj)).drop (k*14)).take 14=cR r:=by
 have hk:=(HN.1 h).1
 rw[K6 h,List.drop_left' (M2 hk)]
 rfl
theorem S1{l:List cm}{k:Nat}{nm:List UInt8}{f t:Int}{nd gv:List Int}(h:l[k]?=G (c8 nm f t nd gv)):((Ab (l.map Aj)).set (k*14+3) (cw gv)).set (k*14+4) (cw nd)=Ab ((l.set k (c8 nm f t gv nd)).map Aj):=by
 have hk:=(HN.1 h).1
 have h2:(l.set k (c8 nm f t gv nd))[k]?=G (c8 nm f t gv nd):=by grind
 rw[K6 h,K6 h2,List.set_append_right _ _ (by grind[M2]),List.set_append_right _ _ (by grind[M2]),M2 hk]
 rw[List.take_set_of_le (HR _),List.drop_set_of_lt (by omega),show k*14+3-k*14=3 by omega,show k*14+4-k*14=4 by omega]
 rfl
theorem Ahy{S Pl:List (List UInt8)}{rs:List cm}{c:b9}{k:Nat}{nm:List UInt8}{f t:Int}{nd gv:List Int}(hm:GU ⟨1,S,Pl,[],[],0,0,rs,c⟩)(h:rs[k]?=G (c8 nm f t nd gv)):GU ⟨1,S,Pl,[],[],0,0,rs.set k (c8 nm f t gv nd),c⟩:=by
 refine⟨rfl,hm.aw,hm.ay,rfl,rfl,rfl,rfl,by show(rs.set k _).length<=3;rw[length_set];exact hm.count,by show 1<=I (rs.set k _);rw[length_set];exact hm.pos,fun i r hi=>?_,hm.start⟩
 by_cases hik:i=k
 ·subst hik
  rw[List.getElem?_set_self (HN.1 h).1] at hi
  cases hi
  have hr:=hm.av i _ h
  exact⟨hr.name,hr.ai,hr.to,hr.aj,hr.ak,rfl⟩
 ·rw[List.getElem?_set_ne (fun e=>hik e.symm)] at hi
  exact hm.av i r hi
noncomputable def ZU:=yl qf
abbrev ZL(l:List UInt8)(a:Nat)(S Pl:List (List UInt8))(n:Nat)(c:b9)(rs:List cm):St:=⟨[G (cn l a),G zM,G (Ab (rs.map Aj)),G (f8 S Pl (.arr 2 0 n) c)],[]⟩
theorem AfU(l:List UInt8)(a:Nat)(S Pl:List (List UInt8))(c:b9)(n:Nat)(hn3:n<=3)(N:Nat):∀(k:Nat) (rs:List cm),n-k=N->I rs=n->GU ⟨1,S,Pl,[],[],0,0,rs,c⟩->
  ∃m,GU m/\Rn PP qf 1 (Af m) (dz l a) ([kl ZU [1,1,0,1,0,0],.blk 0,kc ZU [1,1,1]]++[]) (cz 62 [(2,.ptr 1 0),(3,.ptr 3 0),(4,di k)]) (ZL l a S Pl n c rs):=by
 induction N with
 |zero=>
  intro k rs hn hrs hm
  refine⟨_,hm,?_⟩
  refine lv 62 [] (.f<|.h (.q 13 0)<|.h (.cs ⟨[G (cn l a),G zM,none,G (f8 S Pl (.v (Hk rs)) c)],[]⟩) .r) (Y ((k:Int)<(n:Int))=O/\(∀(e:List D) (E:c9) (g:Gh) (a_1:Act) (w:x5),FI E g (bi [G (cn l a),G zM,G (Ab (U Aj rs)),G (f8 S Pl (bo 2 0 n) c)] []) e a_1 w->∃g',FI E g' (bi [G (cn l a),G zM,none,G (f8 S Pl (bt (Hk rs)) c)] []) e a_1 w)/\Q [G (cn l a)]/\Q (Af (cx.mk 1 S Pl [] [] 0 0 rs c))) ⟨yq,fun e=>?_,rfl,rfl⟩
  exact BA (σ:=ZL l a S Pl n c rs) (p:=3) (q:=2) (i:=7) (sz:=14) (cs:=f8 S Pl (.arr 2 0 n) c) (xs:=rs.map Aj) (by decide) rfl rfl (by decide) (by rw[HJ,hrs];rfl) (fun x hx=>by obtain⟨z,_,rfl⟩:=IQ.1 hx;rfl) e
 |succ N ih=>
  intro k rs hn hrs hm
  obtain⟨r,hr⟩:=yk (show k<I rs by omega)
  have hR:=hm.av k r hr
  obtain⟨nm,f,t,nd,gv,rfl⟩:∃nm f t nd gv,r=c8 nm f t nd gv:=⟨_,_,_,_,_,hR.rest⟩
  have hms:=Ahy hm hr
  have hat:=AhX hr
  have hk:k<n:=by omega
  have hln:k*14+14<=I (Ab (rs.map Aj)):=by rw[Lm];omega
  have okS:∀l':List cm,cp 4 [] [G (cn l a),G zM,G (Ab (l'.map Aj)),G (f8 S Pl (.arr 2 0 n) c)]=J:=fun l'=>by
   have:D.okNs 4 [] (Ab (l'.map Aj))=J:=Q4 _ _ _
   simp[cp,D.okNs,D.okN,this]
  have e0:0+Z (k:Int)*14=k*14:=by omega
  have hnl:I nd=I Pl:=hR.ak.1
  have hgl:I gv=I Pl:=hR.aj.1
  rcases hm.ay with hP|hP
  ·have hP:Pl=[[120]]:=hP
   rw[hP] at hnl hgl
   obtain⟨x1,rfl⟩:=List.length_eq_one_iff.1 hnl
   obtain⟨y1,rfl⟩:=List.length_eq_one_iff.1 hgl
   by_cases hg:Y (yu yt (0+y1)>yu yt (0+x1))=J
   ·obtain⟨m,m1,m2⟩:=ih (k+1) (rs.set k (c8 nm f t [y1] [x1])) (by omega) (by rw[length_set];exact hrs) hms
    refine⟨m,m1,?_⟩
    refine lv 62 [] (.t<|.m (.arr 2 0 n)<|.m (BK (c8 nm f t [x1] [y1]))<|.n<|.x (vi x1)<|.x (vi y1)<|.n<|.f<|.t<|.w<|.w<|.lo [ke 2,ke 3,ch 4 (di (k+1:Nat))] (ZL l a S Pl n c (rs.set k (c8 nm f t [y1] [x1])))) (Y ((k:Int)<(n:Int))=J/\Q (G (bo 2 0 n))/\0<=(k:Int)/\(k:Int)<(n:Int)/\0+Z (k:Int)*14+14<=I (Ab (U Aj rs))/\take 14 (W (0+Z (k:Int)*14) (Ab (U Aj rs)))=[bt (ab (c8 nm f t [x1] [y1]).name),di (c8 nm f t [x1] [y1]).ai,di (c8 nm f t [x1] [y1]).to,bt (cy (c8 nm f t [x1] [y1]).ak),bt (cy (c8 nm f t [x1] [y1]).aj),bt (cy (c8 nm f t [x1] [y1]).move),di (c8 nm f t [x1] [y1]).chan,di (c8 nm f t [x1] [y1]).act,di (c8 nm f t [x1] [y1]).letter,bt (cy (c8 nm f t [x1] [y1]).path),bt (cy (c8 nm f t [x1] [y1]).next),bt (AH (c8 nm f t [x1] [y1]).aq),bt (cy (c8 nm f t [x1] [y1]).ao),di (c8 nm f t [x1] [y1]).second]/\iz 0<=0/\Q (G (vi x1))/\iz 0<=0/\Q (G (vi y1))/\yo/\Q O/\type_of% hg/\0<=(k:Int)/\(k:Int)<(n:Int)/\((0+Z (k:Int)*14)+3)<I (Ab (U Aj rs))/\0<=(k:Int)/\(k:Int)<(n:Int)/\((0+Z (k:Int)*14)+4)<I (List.set (Ab (U Aj rs)) (((0+Z (k:Int)*14)+3)) (bt (cy (c8 nm f t [x1] [y1]).aj)))/\(True/\(Q (G [bo 2 0 n])/\True)/\True/\(Q (G [bt (cy (c8 nm f t [x1] [y1]).ak)])/\True)/\True)/\di (yu yt ((k:Int)+1))=di (↑(k+1):Int)/\cp 4 [] [G (cn l a),G zM,G (List.set (List.set (Ab (U Aj rs)) (((0+Z (k:Int)*14)+3)) (bt (cy (c8 nm f t [x1] [y1]).aj))) (((0+Z (k:Int)*14)+4)) (bt (cy (c8 nm f t [x1] [y1]).ak))),G (f8 S Pl (bo 2 0 n) c)]=J/\[G (cn l a),G zM,G (List.set (List.set (Ab (U Aj rs)) (((0+Z (k:Int)*14)+3)) (bt (cy (c8 nm f t [x1] [y1]).aj))) (((0+Z (k:Int)*14)+4)) (bt (cy (c8 nm f t [x1] [y1]).ak))),G (f8 S Pl (bo 2 0 n) c)]=[G (cn l a),G zM,G (Ab (U Aj (List.set rs k (c8 nm f t [y1] [x1])))),G (f8 S Pl (bo 2 0 n) c)]/\It (type_of% m2)) ?_
    rw[Ac,e0]
    refine⟨yr,rfl,by omega,by omega,hln,hat,?_⟩
    rw[show((Ab (rs.map Aj)).set (k*14+3) (bt (cy (c8 nm f t [x1] [y1]).aj))).set (k*14+4) (bt (cy (c8 nm f t [x1] [y1]).ak))=Ab ((rs.set k (c8 nm f t [y1] [x1])).map Aj) from S1 hr]
    repeat' first|with_reducible refine And.intro ?_ ?_
    all_goals first|exact⟨m2⟩|exact okS _|exact hg|rfl|decide|omega|(rw[length_set];omega)
   ·obtain⟨m,m1,m2⟩:=ih (k+1) rs (by omega) hrs hm
    refine⟨m,m1,?_⟩
    refine lv 62 [] (.t<|.m (.arr 2 0 n)<|.m (BK (c8 nm f t [x1] [y1]))<|.n<|.x (vi x1)<|.x (vi y1)<|.n<|.f<|.f<|.lo [ke 2,ke 3,ch 4 (di (k+1:Nat))] (ZL l a S Pl n c rs)) (Y ((k:Int)<(n:Int))=J/\Q (G (bo 2 0 n))/\0<=(k:Int)/\(k:Int)<(n:Int)/\0+Z (k:Int)*14+14<=I (Ab (U Aj rs))/\take 14 (W (0+Z (k:Int)*14) (Ab (U Aj rs)))=[bt (ab (c8 nm f t [x1] [y1]).name),di (c8 nm f t [x1] [y1]).ai,di (c8 nm f t [x1] [y1]).to,bt (cy (c8 nm f t [x1] [y1]).ak),bt (cy (c8 nm f t [x1] [y1]).aj),bt (cy (c8 nm f t [x1] [y1]).move),di (c8 nm f t [x1] [y1]).chan,di (c8 nm f t [x1] [y1]).act,di (c8 nm f t [x1] [y1]).letter,bt (cy (c8 nm f t [x1] [y1]).path),bt (cy (c8 nm f t [x1] [y1]).next),bt (AH (c8 nm f t [x1] [y1]).aq),bt (cy (c8 nm f t [x1] [y1]).ao),di (c8 nm f t [x1] [y1]).second]/\iz 0<=0/\Q (G (vi x1))/\iz 0<=0/\Q (G (vi y1))/\yo/\Q O/\Y (yu yt (0+y1)>yu yt (0+x1))=O/\di (yu yt ((k:Int)+1))=di (↑(k+1):Int)/\cp 4 [] [G (cn l a),G zM,G (Ab (U Aj rs)),G (f8 S Pl (bo 2 0 n) c)]=J/\Q (ZL l a S Pl n c rs).H/\It (type_of% m2)) ?_
    rw[Ac]
    refine⟨yr,rfl,by omega,by omega,by rw[e0];exact hln,by rw[e0];exact hat,?_⟩
    repeat' first|with_reducible refine And.intro ?_ ?_
    all_goals first|exact⟨m2⟩|exact okS _|exact HW hg|rfl|decide|omega
  ·have hP:Pl=[[120],[121]]:=hP
   rw[hP] at hnl hgl
   obtain⟨x1,x2,rfl⟩:=Ajp hnl
   obtain⟨y1,y2,rfl⟩:=Ajp hgl
   by_cases hg:Y (yu yt (yu yt (0+y1)+y2)>yu yt (yu yt (0+x1)+x2))=J
   ·obtain⟨m,m1,m2⟩:=ih (k+1) (rs.set k (c8 nm f t [y1,y2] [x1,x2])) (by omega) (by rw[length_set];exact hrs) hms
    refine⟨m,m1,?_⟩
    refine lv 62 [] (.t<|.m (.arr 2 0 n)<|.m (BK (c8 nm f t [x1,x2] [y1,y2]))<|.n<|.x (vi x1)<|.x (vi y1)<|.n<|.t<|.x (vi x2)<|.x (vi y2)<|.n<|.f<|.t<|.w<|.w<|.lo [ke 2,ke 3,ch 4 (di (k+1:Nat))] (ZL l a S Pl n c (rs.set k (c8 nm f t [y1,y2] [x1,x2])))) (Y ((k:Int)<(n:Int))=J/\Q (G (bo 2 0 n))/\0<=(k:Int)/\(k:Int)<(n:Int)/\0+Z (k:Int)*14+14<=I (Ab (U Aj rs))/\take 14 (W (0+Z (k:Int)*14) (Ab (U Aj rs)))=[bt (ab (c8 nm f t [x1,x2] [y1,y2]).name),di (c8 nm f t [x1,x2] [y1,y2]).ai,di (c8 nm f t [x1,x2] [y1,y2]).to,bt (cy (c8 nm f t [x1,x2] [y1,y2]).ak),bt (cy (c8 nm f t [x1,x2] [y1,y2]).aj),bt (cy (c8 nm f t [x1,x2] [y1,y2]).move),di (c8 nm f t [x1,x2] [y1,y2]).chan,di (c8 nm f t [x1,x2] [y1,y2]).act,di (c8 nm f t [x1,x2] [y1,y2]).letter,bt (cy (c8 nm f t [x1,x2] [y1,y2]).path),bt (cy (c8 nm f t [x1,x2] [y1,y2]).next),bt (AH (c8 nm f t [x1,x2] [y1,y2]).aq),bt (cy (c8 nm f t [x1,x2] [y1,y2]).ao),di (c8 nm f t [x1,x2] [y1,y2]).second]/\iz 0<=0/\Q (G (vi x1))/\iz 0<=0/\Q (G (vi y1))/\yo/\Q J/\0<=yu yt (0+1)/\Q (G (vi x2))/\0<=yu yt (0+1)/\Q (G (vi y2))/\yo/\Q O/\type_of% hg/\0<=(k:Int)/\(k:Int)<(n:Int)/\((0+Z (k:Int)*14)+3)<I (Ab (U Aj rs))/\0<=(k:Int)/\(k:Int)<(n:Int)/\((0+Z (k:Int)*14)+4)<I (List.set (Ab (U Aj rs)) (((0+Z (k:Int)*14)+3)) (bt (cy (c8 nm f t [x1,x2] [y1,y2]).aj)))/\(True/\(Q (G [bo 2 0 n])/\True)/\True/\(Q (G [bt (cy (c8 nm f t [x1,x2] [y1,y2]).ak)])/\True)/\True)/\di (yu yt ((k:Int)+1))=di (↑(k+1):Int)/\cp 4 [] [G (cn l a),G zM,G (List.set (List.set (Ab (U Aj rs)) (((0+Z (k:Int)*14)+3)) (bt (cy (c8 nm f t [x1,x2] [y1,y2]).aj))) (((0+Z (k:Int)*14)+4)) (bt (cy (c8 nm f t [x1,x2] [y1,y2]).ak))),G (f8 S Pl (bo 2 0 n) c)]=J/\[G (cn l a),G zM,G (List.set (List.set (Ab (U Aj rs)) (((0+Z (k:Int)*14)+3)) (bt (cy (c8 nm f t [x1,x2] [y1,y2]).aj))) (((0+Z (k:Int)*14)+4)) (bt (cy (c8 nm f t [x1,x2] [y1,y2]).ak))),G (f8 S Pl (bo 2 0 n) c)]=[G (cn l a),G zM,G (Ab (U Aj (List.set rs k (c8 nm f t [y1,y2] [x1,x2])))),G (f8 S Pl (bo 2 0 n) c)]/\It (type_of% m2)) ?_
    rw[Ac,e0]
    refine⟨yr,rfl,by omega,by omega,hln,hat,?_⟩
    rw[show((Ab (rs.map Aj)).set (k*14+3) (bt (cy (c8 nm f t [x1,x2] [y1,y2]).aj))).set (k*14+4) (bt (cy (c8 nm f t [x1,x2] [y1,y2]).ak))=Ab ((rs.set k (c8 nm f t [y1,y2] [x1,x2])).map Aj) from S1 hr]
    repeat' first|with_reducible refine And.intro ?_ ?_
    all_goals first|exact⟨m2⟩|exact okS _|exact hg|rfl|decide|omega|(rw[length_set];omega)
   ·obtain⟨m,m1,m2⟩:=ih (k+1) rs (by omega) hrs hm
    refine⟨m,m1,?_⟩
    refine lv 62 [] (.t<|.m (.arr 2 0 n)<|.m (BK (c8 nm f t [x1,x2] [y1,y2]))<|.n<|.x (vi x1)<|.x (vi y1)<|.n<|.t<|.x (vi x2)<|.x (vi y2)<|.n<|.f<|.f<|.lo [ke 2,ke 3,ch 4 (di (k+1:Nat))] (ZL l a S Pl n c rs)) (Y ((k:Int)<(n:Int))=J/\Q (G (bo 2 0 n))/\0<=(k:Int)/\(k:Int)<(n:Int)/\0+Z (k:Int)*14+14<=I (Ab (U Aj rs))/\take 14 (W (0+Z (k:Int)*14) (Ab (U Aj rs)))=[bt (ab (c8 nm f t [x1,x2] [y1,y2]).name),di (c8 nm f t [x1,x2] [y1,y2]).ai,di (c8 nm f t [x1,x2] [y1,y2]).to,bt (cy (c8 nm f t [x1,x2] [y1,y2]).ak),bt (cy (c8 nm f t [x1,x2] [y1,y2]).aj),bt (cy (c8 nm f t [x1,x2] [y1,y2]).move),di (c8 nm f t [x1,x2] [y1,y2]).chan,di (c8 nm f t [x1,x2] [y1,y2]).act,di (c8 nm f t [x1,x2] [y1,y2]).letter,bt (cy (c8 nm f t [x1,x2] [y1,y2]).path),bt (cy (c8 nm f t [x1,x2] [y1,y2]).next),bt (AH (c8 nm f t [x1,x2] [y1,y2]).aq),bt (cy (c8 nm f t [x1,x2] [y1,y2]).ao),di (c8 nm f t [x1,x2] [y1,y2]).second]/\iz 0<=0/\Q (G (vi x1))/\iz 0<=0/\Q (G (vi y1))/\yo/\Q J/\0<=yu yt (0+1)/\Q (G (vi x2))/\0<=yu yt (0+1)/\Q (G (vi y2))/\yo/\Q O/\Y (yu yt (yu yt (0+y1)+y2)>yu yt (yu yt (0+x1)+x2))=O/\di (yu yt ((k:Int)+1))=di (↑(k+1):Int)/\cp 4 [] [G (cn l a),G zM,G (Ab (U Aj rs)),G (f8 S Pl (bo 2 0 n) c)]=J/\Q (ZL l a S Pl n c rs).H/\It (type_of% m2)) ?_
    rw[Ac]
    refine⟨yr,rfl,by omega,by omega,by rw[e0];exact hln,by rw[e0];exact hat,?_⟩
    repeat' first|with_reducible refine And.intro ?_ ?_
    all_goals first|exact⟨m2⟩|exact okS _|exact HW hg|rfl|decide|omega
theorem AbC(ρ τ:Nat->Nat):∀l:List V,D.rens ρ τ (l.map .v)=l.map .v
 |[]=>rfl
 |x::l=>by simp only[I9,D.rens,D.ren,AbC ρ τ l]
theorem AaS(l:List UInt8)(hl:I l<=200)(a:Nat)(ha:a<=I l):
  ∃(m:cx) (a':Nat),GU m/\a'<=I l/\Aa PP 8 [.ptr 0 0] (dz l a) (Af m) (dz l a'):=by
 obtain⟨S,Pl,rs,c,a1,h1,h2,h3⟩:=Aea l hl a ha
 obtain⟨m,m1,m2⟩:=AfU l a1 S Pl c (I rs) h1.count _ 0 rs rfl rfl h1
 refine⟨m,a1,m1,h2,?_⟩
 refine zq qf 62 (.h (.oc (.dagg (f8 S Pl (.arr 2 0 (I rs)) c)) ⟨[G (cn l a1),G zM,G (Ab (rs.map Aj))],[]⟩)<|.lo [ke 2,ke 3,ch 4 (di (0:Nat))] (ZL l a1 S Pl (I rs) c rs)) ((N0 [bt (bw 31 [] []),bq 0 0,db O] (bi [G (cn l a),G jo] []) (bj (f8 S Pl (bo 2 0 (I rs)) c)) (bi [G (cn l a1),G zM,G (o5 rs)] []))/\Q (di 0)/\cp 4 [] [G (cn l a1),G zM,G (o5 rs),G [di 1,bt (cc S),bt (cc Pl),dn,dn,di 0,di 0,bo 2 0 (I rs),di c.n,co c.az]]=J/\Q [G (cn l a1),G zM,G (o5 rs),G (f8 S Pl (bo 2 0 (I rs)) c)]/\_) ⟨fun o cl fo ho hc=>?_,rfl,?_,rfl,iK m2⟩
 ·have h:=BE (σ:=⟨[G (cn l a),G zM],[]⟩) ho hc (fD:=.v (.fn 31 [] [])) rfl (ds:=[.ptr 0 0,db O]) [0] id h3 (.cons (.ren (dc:=.ptr 0 0) rfl) (.cons (.ren (dc:=db O) rfl) .nil))
   (.cons rfl (.cons (.ren (dc:=.v (j1 l)) rfl) (.cons (.ren (dc:=di a) rfl) .nil)) (by rfl) .nil) (by simp) rfl (by simp) (by simp) (by simp[D.okN,D.okNs]) (by simp[cp,D.okNs,D.okN,Ab,Q4])
  have e1:D.rens (d6 2 [0]) id (Ab (rs.map Aj))=Ab (rs.map Aj):=AbC _ _ _
  simp[Dn,CG,E5,D.ren,D.rens,e1,d6] at h
  exact h
 ·have:D.okNs 4 [] (Ab (rs.map Aj))=J:=Q4 _ _ _
  simp[cp,D.okNs,D.okN,this]
end Go.Proofs.YtgigepkgakpjbaaGreat

namespace Go.Proofs.YtgigepkgakpjbaaGreat
open Go.Dv Go.Nv Go.RowKit
def IsRow(k:yv)(w:x5)(a:Option Addr)(len cap:Nat)(zs:List Int):Prop:=
 (a=none/\len=0/\cap=0/\zs=[])∨
 ∃x,a=G x/\len<=cap/\cap<=maxLen/\zs.length=cap/\(∀i,i<I zs->w.cell? (x.add i)=G (.int k (zs.getD i 0)))/\∀n∈zs,(Lit.int k n).wf=J
def memOf(w:x5):c6:=fun b o=>w.cell? ⟨b,o,none⟩
def g0(w:x5):Gh:={ M:=memOf w,β:=fun _=>0,n:=0,ι:=fun _ _=>none,κ:=fun _=>0 }
theorem wrep0(w:x5):dh (g0 w) ⟨[],[]⟩ w where
 n:=rfl
 mem:=fun b o v h=>h
 obj:=fun i cs hi=>by grind
 inj:=fun i j cs ds hi=>by grind
 own:=fun k sz xs hx=>by grind
 tags:=by simp
 sep:=fun x hx=>by grind
 ownObj:=fun x hx=>by grind
 fresh:=fun _ _ _=>rfl
 gl:=⟨fun p hp=>by grind[Aq3],trivial⟩
 gw:=fun p hp=>by grind[GA]
theorem RP(M:c6)(k:yv):∀xs:List Int,repE M 1 (xs.map (a8 k)) (xs.map (Value.int k))
 |[]=>by rfl
 |x::xs=>by exact⟨[.int k x],xs.map (Value.int k),rfl,rfl,by simp[repC],RP M k xs⟩
theorem kz{k:yv}{w:x5}{a:Option Addr}{len cap:Nat}{zs:List Int}(h:IsRow k w a len cap zs):repV (memOf w) (.list ((zs.take len).map (a8 k))) (.slice a len cap):=by
 rw[B6]
 rcases h with⟨rfl,rfl,rfl,rfl⟩|⟨x,rfl,hl,_,hz,hc,_⟩
 ·simp_all
 ·have hlen:I ((zs.take len).map (a8 k))=len:=by grind
  refine⟨G x,cap,by grind,by omega,?_⟩
  rcases Nat.eq_zero_or_pos len with h0|hpos
  ·grind
  ·right
   have hspot:x.spot=none:=by
    have h0:=hc 0 (by omega)
    cases hs:x.spot with
    |none=>rfl
    |some s=>
     have:x.add 0=x:=by simp[Addr.add]
     rw[this] at h0
     unfold World.cell? at h0
     split at h0
     ·rw[hs] at h0;simp at h0
     ·simp at h0
   obtain⟨b,off,spot⟩:=x
   subst hspot
   refine⟨b,off,1,(zs.take len).map (Value.int k),rfl,by omega,fun j v hj=>?_,RP _ k _⟩
   grind[Addr.add_lit,memOf]
theorem ly{w w':x5}{g':Gh}{σ':St}(h:WI ⟨g0 w,w,⟨[],[]⟩⟩ g' σ' w'):Below w.heap.size w w':=by
 exact⟨h.os,h.tape,h.output,h.size,fun b hb=>(h.keep b hb F1).1⟩
theorem Ami{n:Int}(h:(Lit.int .u8 n).wf=J):0<=n/\n<256:=by
 simp only[Lit.wf,HL,HU,show IntKind.u8.min=0 from by decide,show IntKind.u8.max=255 from by decide] at h
 omega
theorem lz{w:x5}{a:Option Addr}{len cap:Nat}{zs:List Int}(h:IsRow .u8 w a len cap zs):∀x∈zs.take len,0<=x/\x<256:=by
 intro x hx
 rcases h with⟨_,_,_,rfl⟩|⟨_,_,_,_,_,_,hw⟩
 ·grind
 ·exact Ami (hw x (J6 hx))
theorem jt:∀l:List Int,(∀x∈l,0<=x/\x<256)->∃s:List UInt8,l.map (a8 .u8)=s.map vb
 |[],_=>⟨[],rfl⟩
 |x::l,h=>by
  obtain⟨s,hs⟩:=jt l fun y hy=>h y (by simp[hy])
  have hx:=h x (by simp)
  refine⟨UInt8.ofNat x.toNat::s,?_⟩
  have:((UInt8.ofNat x.toNat).toNat:Int)=x:=by
   have h1:(UInt8.ofNat x.toNat).toNat=x.toNat%256:=by simp
   rw[h1];omega
  grind
end Go.Proofs.YtgigepkgakpjbaaGreat
