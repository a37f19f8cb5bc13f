/-
  A part of the proof.
-/
import Derived.Test.YtkkplhjidondkaaGreatZe
import Derived.Test.YtkkplhjidondkaaGreatZd
import Derived.Laws.StructEq
import Derived.ChangeKeysEq
namespace Go.Proofs.YtkkplhjidondkaaGreat
open Go.Dv Go.Nv
set_option maxRecDepth 20000
open List (ext_getElem? flatten length_set map_set replicate take zipWith)
open Go.IntKind (u64)
open Go.IntKind renaming wrap → yu, i64 → yt
open List renaming length → I, map → U, drop → W
open Option renaming some → G
open Bool renaming true → J, false → O
open Decidable renaming decide → Y
open Int renaming toNat → Z
open Go.Dv.V renaming list → ai, str → ae, agg → ab, int → aa, ref → bz, fn → bw, nils → bv, bool → bu
open Go.Dv.D renaming v → bt, acc → br, ptr → bq, arr → bo, gro → bm, tup → bk, undef → bj, dagg → bi
open Go.Dv.St renaming mk → bh
open Go.Dv.KI renaming blk → bf
open _root_.ByteArray renaming mk → bc
open Go renaming Operand → x8, Program → x7, TypeId → x6, World → x5, Value → yz, Oper → yy, FuncId → yx, Func → yw, IntKind → yv
theorem Af8{rs:List cf}(_:I rs<=4){ns np nl:Nat}(h:∀k r,rs[k]?=G r->ON ns np nl k r):rs.map cf.name=sq.take (I rs):=by
 apply ext_getElem?
 intro i
 by_cases hi:i<I rs
 ·have hx:rs[i]?=G rs[i]:=HI hi
  rw[I1,hx,List.getElem?_take_of_lt hi,(h i _ hx).name];rfl
 grind
theorem Ad5{L:Int}{v:b9}(h:GE L v):(v.n==0)=J/\Y ((I v.az:Int)<=12)=J/\(v.az.all fun k=>CA L k)=J:=by
 obtain⟨ks,h1,h2,rfl⟩:=h
 grind[b9.az,CA,b9.n]
theorem Qm(t:cr)(L:Int)(ht:∀v,GE L v->Ax t v=J):∀(n:Nat) (ys:List b9),I ys=n->(∀y∈ys,GE L y)->BM (replicate n t) ys=J
 |0,ys,h,_=>by
  rfl
 |n+1,ys,h,hy=>by
  cases ys with
  |nil=>rfl
  |cons y ys=>
   simp only[IC,BM,HJ]
   exact⟨ht y (hy y (by simp)),Qm t L ht n ys (by grind) fun z hz=>hy z (by grind)⟩
theorem OQ(L:Int):∀(ys:List b9),(∀y∈ys,GE L y)->b9.sizes ys<=3*I ys
 |[],_=>HP _
 |y::ys,h=>by
  have h1:=(h y (by simp)).size
  have h2:=OQ L ys fun z hz=>h z (by grind)
  grind[b9.sizes]
theorem Yj(m:cz)(hk:m.kind=2∨m.kind=3)(hpl:I m.ay<=2)(s:Int)(hs:0<=s/\s<I m.aw)(ys:List b9)(hy:I ys=I m.ay)(h:∀y∈ys,GE (I m.ax) y):Ai (AH m) (.mk 0 (.mk s []::ys))=J:=by
 have hsz:=OQ _ ys h
 rw[Ai,HK (by grind[b9.size,b9.sizes]),Is,AH]
 have he:∀v,GE (I m.ax) v->Ax (EI m) v=J:=fun v hv=>by
  obtain⟨h1,h2,h3⟩:=Ad5 hv
  grind[EI,Ax]
 simp only[Ax,b9.n,b9.az,BM,CA,HJ,Iv]
 refine⟨?_,by grind,⟨HK hs.1,HK hs.2,by rfl⟩,Qm _ _ he _ ys hy h⟩
 grind
theorem Gt.ok{K:Int}{m:cz}(hK:K=2∨K=3)(h:Gt K m):m.ok:=by
 have hk:=h.kind
 have hk1:¬m.kind=1:=by omega
 have hst:1<=I m.aw/\m.aw.length<=3:=by obtain⟨n,h1,h2,e⟩:=h.aw;grind
 have hpl:1<=I m.ay/\m.ay.length<=2:=by rcases h.ay with e|e<;>rw[e]<;>decide
 have hll:1<=I m.ax/\m.ax.length<=2:=by rcases h.ax with e|e<;>rw[e]<;>decide
 have hb:∀{x a b:Int},a<=x->x<=b->A4 x a b=J:=fun h1 h2=>by grind[A4]
 have hget:∀r∈m.av,ON (I m.aw) (I m.ay) (I m.ax) (m.av.idxOf r) r:=fun r hr=>by
  exact h.av _ r (by grind)
 have hc:=h.count
 refine⟨.inr (by omega),?_,?_,?_,?_,?_,?_,?_⟩
 ·simp only[Dp,Ti,HZ hk1,HJ,HS,h.ao,h.age]
  grind
 ·have hr:=h.au
  grind[C3]
 ·have hn:=Af8 h.count h.av
  obtain⟨n,n1,n2,e⟩:=h.aw
  rw[F1,Gk,hn,Cj]
  have:I m.av=0∨m.av.length=1∨m.av.length=2∨m.av.length=3∨m.av.length=4:=by omega
  rcases(show n=1∨n=2∨n=3 by omega) with rfl|rfl|rfl<;>rcases h.ay with e'|e'<;>rcases h.ax with e3|e3<;>rcases this with e2|e2|e2|e2|e2<;>rw[e,e',e2,e3]<;>decide+kernel
 ·intro r hr
  rw[(hget r hr).rest]
  exact⟨Iu _,Iu _,Iu _,Iu _,Iu _,Iu _,Iu _⟩
 ·intro r hr
  have hm:=hget r hr
  obtain⟨f1,f2⟩:=hm.aj
  obtain⟨t1,t2⟩:=hm.to
  have ha:=hm.act
  have hr:=hm.rest
  grind[Fw,Fx,Ch,M4,ik,Eu]
 ·obtain⟨ys,y1,y2,y3⟩:=h.start
  grind[Yj]
 ·obtain⟨ys,y1,y2,y3⟩:=h.start
  have:=OQ _ ys y2
  grind[b9.size,b9.sizes]
noncomputable abbrev B0:=Tryz.f83
noncomputable def A9:=yl B0
abbrev jq(n:Int)(l:List b9):St:=⟨[G [di 0,.v .nils],G [di n,.acc 1 (l.map eV)]],[(1,2,l.map eV)]⟩
theorem XP(v:b9)(hv:v.size<=1000000)(hk:∀x∈v.az,F0 83 [dV x] (dV x))(n:Nat):∀k:Nat,I v.az-k=n->
  Rn PP B0 0 (dV v) ba ([kl A9 [1,1,0,1,0,0],.blk 0,kc A9 [1,1,1]]++[]) (cy 27 [(1,.v (.ref (Ac v))),(2,.ptr 0 0),(3,.ptr 1 0),(4,di k)]) (jq v.n (v.az.take k)):=by
 have hs:=v.size_eq
 have hl:=b9.length_le v.az
 induction n with
 |zero=>
  intro k hn
  refine lv 27 [1] (.f .r) (Y ((k:Int)<(I (ce v.az):Int))=O/\bt (ab [vi v.n,ai (U eV (take k v.az))])=dV v) ?_
  grind[List.take_of_length_le]
 |succ n ih=>
  intro k hn
  obtain⟨x,hx⟩:∃x,v.az[k]?=G x:=⟨_,HI (show k<I v.az by omega)⟩
  have ht:v.az.take (k+1)=v.az.take k++[x]:=by grind[List.take_add_one]
  refine lv 27 [1] (.t<|.h (.xs (Ac x))<|.c (dV x)<|.ls [ke 1,ke 2,ke 3,ch 4 (di (k+1:Nat))] (jq v.n (v.az.take (k+1)))) (Y ((k:Int)<(I (ce v.az):Int))=J/\Q 2/\0<=(k:Int)/\(ce v.az)[Z (k:Int)]?=G (Ac x)/\_/\Q (U eV (take k v.az))/\Ao (I (U eV (take k v.az))+I (Ac x::nV)) 32/\yp/\di (yu yt ((k:Int)+1))=di (↑(k+1):Int)/\[G [di 0,dn],G [di v.n,br 1 (U eV (take k v.az)++Ac x::nV)]]=[G [di 0,dn],G [di v.n,br 1 (U eV (take (k+1) v.az))]]/\[(1,2,U eV (take k v.az)++Ac x::nV)]=[(1,2,U eV (take (k+1) v.az))]/\_) ⟨HK (by grind),rfl,by omega,Ap hx,hk x (HO hx),rfl,⟨?_,?_⟩,yn,Ae,?_,?_,iK (ih (k+1) (by omega))⟩
  all_goals grind[BL]
noncomputable abbrev sc:=[kl A9 ee,bf 0,kc A9 [1,1,1]]
theorem DO(N:Nat):∀v:b9,v.size<=N->v.size<=1000000->F0 83 [dV v] (dV v):=by
 induction N with
 |zero=>intro v h;have:=v.size_pos;omega
 |succ N ih=>
  intro v hN hv
  have hs:=v.size_eq
  have:=XP v hv (fun x hx=>by have:=b9.size_mem hx;grind) _ 0 rfl
  exact sv B0 27 [1] (.h .rn<|.h (.q 2 0)<|.h (.cl 1 1 1 2)<|.ls [ke 1,ke 2,ke 3,ch 4 (di (0:Nat))] (jq v.n [])) (Q (di 0)/\Q (jq v.n []).H/\Q [(1,2,nV)]/\I0 B0 (I ba.H) (dV v) ba sc (cy 27 [(1,bt (jy v)),n9,(3,bq 1 0),(4,di (↑0:Int))]) (jq v.n [])) ⟨rfl,rfl,rfl,⟨by grind⟩⟩
noncomputable abbrev Rv:=Tryz.f45
noncomputable def O7:=yl Rv
def AR(v:b9):List b9->Nat
 |[]=>0
 |x::l=>if As x v<0 then AR v l+1 else 0
def BS(l:List b9)(v:b9):List b9:=match l[AR v l]? with
 |some x=>if (As x v==0)=J then l else l.take (AR v l)++v::l.drop (AR v l)
 |none=>l.take (AR v l)++v::l.drop (AR v l)
theorem Aa1(v:b9):∀l:List b9,AR v l<=I l
 |[]=>HP _
 |x::l=>by
  have:=Aa1 v l
  grind[AR]
theorem Aa0(v:b9):∀(l:List b9) (k:Nat),k<AR v l->∃x,l[k]?=G x/\As x v<0
 |[],k,h=>by grind[AR]
 |x::l,k,h=>by
  unfold AR at h
  split at h
  ·rename_i hx
   cases k with
   |zero=>grind
   |succ k=>exact Aa0 v l k (by omega)
  ·omega
theorem Aa2(v:b9):∀(l:List b9) (x:b9),l[AR v l]?=G x->¬As x v<0
 |[],x,h=>by grind
 |y::l,x,h=>by
  unfold AR at h
  split at h
  ·exact Aa2 v l x (by grind)
  grind
theorem Ajw(l:List b9):∀x∈l.map eV,x.size=2:=by grind[AG,V.size]
theorem AmR(l:List b9)(i j:Nat):∀x∈ ((l.map eV).take j).drop i,x.size=2:=by grind[Ajw]
theorem AiE(l:List b9)(v:b9)(k:Nat):take k (l.map eV)++[Ac v]++W k (l.map eV)=(l.take k++v::l.drop k).map eV:=by
 rw[←AG];simp_all
theorem Aaz(l:List b9)(v:b9)(k:Nat):bt (ai (W 0 (take ((k:Nat):Int).toNat (l.map eV))++[Ac v]++W ((k:Nat):Int).toNat (take (I (l.map eV)) (l.map eV))))=cq (l.take k++v::l.drop k):=by
 grind[AiE]
noncomputable abbrev tz:=fun a₀ b₀=>F0 31 [dV a₀,dV b₀] (di (As a₀ b₀))
noncomputable abbrev Avp:=fun a₀=>F0 83 [dV a₀] (dV a₀)
theorem AeR(l:List b9)(v:b9)(hl:b9.sizes l<=1000000)(hv:v.size<=1000000)(n:Nat):∀k:Nat,AR v l-k=n->k<=AR v l->
  Rn PP Rv 0 (cq (BS l v)) ba ([kl O7 [1,1,0,0,0],.blk 0,kc O7 [1,1,1]]++[]) (cy 46 [(0,cq l),(3,.v (.ref (Ac v))),(5,di k)]) ba:=by
 have hil:=Aa1 v l
 have hll:=b9.length_le l
 induction n with
 |zero=>
  intro k hn hk0
  have hk:k=AR v l:=by omega
  subst hk
  cases hx:l[AR v l]? with
  |none=>
   have e1:BS l v=l.take (AR v l)++v::l.drop (AR v l):=by rw[BS,hx]
   have hlt:I l<=AR v l:=List.getElem?_eq_none_iff.1 hx
   rw[e1]
   refine lv 46 [3] (.f<|.k<|.f<|.k<|.a 1<|.w<|.c (dV v)<|.w<|.w<|.r) (Y ((↑(AR v l):Int)<(I (U eV l):Int))=O/\Y ((↑(AR v l):Int)<(I (U eV l):Int))=O/\(∀(x:V),x∈U eV l->V.size x=2)/\0<=(fun x=>x.snd) (yt,(↑(AR v l):Int))/\(fun x=>x.snd) (yt,(↑(AR v l):Int))<=(I (U eV l):Int)/\Ao (I (W 0 (take (Z ((fun x=>x.snd) (yt,(↑(AR v l):Int)))) (U eV l)))) 32/\(∀(y:V),y∈W 0 (take (Z ((fun x=>x.snd) (yt,(↑(AR v l):Int)))) (U eV l))->V.size y=2)/\Avp v/\Q (W 0 (take (Z ((fun x=>x.snd) (yt,(↑(AR v l):Int)))) (U eV l)))/\Ao (I (W 0 (take (Z ((fun x=>x.snd) (yt,(↑(AR v l):Int)))) (U eV l)))+I (Ac v::nV)) 32/\(∀(y:V),y∈ [Ac v]->V.size y=2)/\(∀(x:V),x∈U eV l->V.size x=2)/\0<=(fun x=>x.snd) (yt,(↑(AR v l):Int))/\(fun x=>x.snd) (yt,(↑(AR v l):Int))<=(I (U eV l):Int)/\Q (W 0 (take (Z ((fun x=>x.snd) (yt,(↑(AR v l):Int)))) (U eV l))++Ac v::nV)/\Ao (I (W 0 (take (Z ((fun x=>x.snd) (yt,(↑(AR v l):Int)))) (U eV l))++Ac v::nV)+I (W (Z ((fun x=>x.snd) (yt,(↑(AR v l):Int)))) (take (I (U eV l)) (U eV l)))) 32/\(∀(y:V),y∈W (Z ((fun x=>x.snd) (yt,(↑(AR v l):Int)))) (take (I (U eV l)) (U eV l))->V.size y=2)/\bt (ai (W 0 (take (Z ((fun x=>x.snd) (yt,(↑(AR v l):Int)))) (U eV l))++[Ac v]++W (Z ((fun x=>x.snd) (yt,(↑(AR v l):Int)))) (take (I (U eV l)) (U eV l))))=cq (take (AR v l) l++v::W (AR v l) l)) ?_
   have z0:(0:Int)<=(AR v l:Int):=by omega
   have z1:(AR v l:Int)<=(I (l.map eV):Int):=by rw[HH];omega
   have z2:∀y∈ [Ac v],y.size=2:=fun y hy=>by rw[HY.1 hy];rfl
   repeat' first|with_reducible refine And.intro ?_ ?_
   all_goals first|exact HM (by rw[HH];omega)|exact Ajw l|exact AmR l _ _|exact z2|exact DO _ v (HP _) hv|exact z0|exact z1|exact Iu _|rfl|(simp only[HW,IP,Ip,HH,HN,HR];omega)|exact Aaz l v _
  |some x=>
   have hlt:=(HL.1 hx).1
   have hc:=Aa2 v l x hx
   have hsz:=b9.size_mem (HO hx)
   have z0':(0:Int)<=(AR v l:Int):=by omega
   by_cases he:(As x v==0)=J
   ·have e1:BS l v=l:=by rw[BS,hx];simp only[he,IT]
    rw[e1]
    exact lv 46 [3] (.t<|.h (.xs (Ac x))<|.c (di (As x v))<|.f<|.t<|.h (.xs (Ac x))<|.c (db (As x v==0))<|.t<|.r) (Y ((↑(AR v l):Int)<(I (U eV l):Int))=J/\Q 2/\_/\(U eV l)[Z (↑(AR v l):Int)]?=G (Ac x)/\_/\Y (As x v<0)=O/\Y ((↑(AR v l):Int)<(I (U eV l):Int))=J/\Q 2/\_/\(U eV l)[Z (↑(AR v l):Int)]?=G (Ac x)/\_/\_/\Q (cq l)) ⟨HK (by rw[HH];omega),rfl,z0',Ap hx,EJ _ x v (HP _) (by omega),HM hc,HK (by rw[HH];omega),rfl,z0',Ap hx,NJ x v (by omega),he,rfl⟩
   ·have e1:BS l v=l.take (AR v l)++v::l.drop (AR v l):=by rw[BS,hx];simp only[he];rfl
    have he2:(As x v==0)=O:=by simpa using he
    rw[e1]
    refine lv 46 [3] (.t<|.h (.xs (Ac x))<|.c (di (As x v))<|.f<|.t<|.h (.xs (Ac x))<|.c (db (As x v==0))<|.f<|.a 1<|.w<|.c (dV v)<|.w<|.w<|.r) (Y ((↑(AR v l):Int)<(I (U eV l):Int))=J/\Q 2/\0<=(↑(AR v l):Int)/\(U eV l)[Z (↑(AR v l):Int)]?=G (Ac x)/\tz x v/\Y (As x v<0)=O/\Y ((↑(AR v l):Int)<(I (U eV l):Int))=J/\Q 2/\0<=(↑(AR v l):Int)/\(U eV l)[Z (↑(AR v l):Int)]?=G (Ac x)/\F0 13 [dV x,dV v] (db (As x v==0))/\(As x v==0)=O/\(∀(x:V),x∈U eV l->V.size x=2)/\0<=(fun x=>x.snd) (yt,(↑(AR v l):Int))/\(fun x=>x.snd) (yt,(↑(AR v l):Int))<=(I (U eV l):Int)/\Ao (I (W 0 (take (Z ((fun x=>x.snd) (yt,(↑(AR v l):Int)))) (U eV l)))) 32/\(∀(y:V),y∈W 0 (take (Z ((fun x=>x.snd) (yt,(↑(AR v l):Int)))) (U eV l))->V.size y=2)/\Avp v/\Q (W 0 (take (Z ((fun x=>x.snd) (yt,(↑(AR v l):Int)))) (U eV l)))/\Ao (I (W 0 (take (Z ((fun x=>x.snd) (yt,(↑(AR v l):Int)))) (U eV l)))+I (Ac v::nV)) 32/\(∀(y:V),y∈ [Ac v]->V.size y=2)/\(∀(x:V),x∈U eV l->V.size x=2)/\0<=(fun x=>x.snd) (yt,(↑(AR v l):Int))/\(fun x=>x.snd) (yt,(↑(AR v l):Int))<=(I (U eV l):Int)/\Q (W 0 (take (Z ((fun x=>x.snd) (yt,(↑(AR v l):Int)))) (U eV l))++Ac v::nV)/\Ao (I (W 0 (take (Z ((fun x=>x.snd) (yt,(↑(AR v l):Int)))) (U eV l))++Ac v::nV)+I (W (Z ((fun x=>x.snd) (yt,(↑(AR v l):Int)))) (take (I (U eV l)) (U eV l)))) 32/\(∀(y:V),y∈W (Z ((fun x=>x.snd) (yt,(↑(AR v l):Int)))) (take (I (U eV l)) (U eV l))->V.size y=2)/\bt (ai (W 0 (take (Z ((fun x=>x.snd) (yt,(↑(AR v l):Int)))) (U eV l))++[Ac v]++W (Z ((fun x=>x.snd) (yt,(↑(AR v l):Int)))) (take (I (U eV l)) (U eV l))))=cq (take (AR v l) l++v::W (AR v l) l)) ?_
    have z0:(0:Int)<=(AR v l:Int):=by omega
    have z1:(AR v l:Int)<=(I (l.map eV):Int):=by rw[HH];omega
    have z2:∀y∈ [Ac v],y.size=2:=fun y hy=>by rw[HY.1 hy];rfl
    repeat' first|with_reducible refine And.intro ?_ ?_
    all_goals first|exact HK (by rw[HH];omega)|exact Ap hx|exact EJ _ x v (HP _) (by omega)|exact HM hc|exact NJ x v (by omega)|exact he2|exact Ajw l|exact AmR l _ _|exact z2|exact DO _ v (HP _) hv|exact z0|exact z1|exact Iu _|rfl|(simp only[HW,IP,Ip,HH,HN,HR];omega)|exact Aaz l v _
 |succ n ih=>
  intro k hn hk0
  obtain⟨x,hx,hc⟩:=Aa0 v l k (by omega)
  have hlt:=(HL.1 hx).1
  have hsz:=b9.size_mem (HO hx)
  exact lv 46 [3] (.t<|.h (.xs (Ac x))<|.c (di (As x v))<|.t<|.l [ke 0,ke 3,ch 5 (di (k+1:Nat))]) (Y ((k:Int)<(I (U eV l):Int))=J/\Q 2/\0<=(k:Int)/\(U eV l)[Z (k:Int)]?=G (Ac x)/\_/\Y (As x v<0)=J/\di (yu yt ((k:Int)+1))=di (↑(k+1):Int)/\_) ⟨HK (by rw[HH];omega),rfl,by omega,Ap hx,EJ _ x v (HP _) (by omega),HK hc,Ae,iK (ih (k+1) (by omega) (by omega))⟩
theorem Pq(l:List b9)(v:b9)(hl:b9.sizes l<=1000000)(hv:v.size<=1000000):F0 45 [cq l,dV v] (cq (BS l v)):=by
 exact sv Rv 46 [3] (.l [ke 0,ke 3,ch 5 (di (0:Nat))]) (Q (di 0)/\_) ⟨rfl,iK (AeR l v hl hv _ 0 rfl (Iu _))⟩
def ox(np age:Int)(v:b9):Prop:=∃p g:Int,(0<=p/\p<np)/\(0<=g/\g<age+2)/\v=.mk 0 [.mk p [],.mk g []]
structure pj(np age:Int)(n:Nat)(ts:List b9):Prop where
 tok:∀t∈ts,ox np age t
 len:I ts<=n
 asc:∀i x y,ts[i]?=G x->ts[i+1]?=G y->As x y<0
theorem ox.sz{np age:Int}{v:b9}(h:ox np age v):v.size=3:=by
 obtain⟨p,g,_,_,rfl⟩:=h;rfl
theorem Zw{np age:Int}:∀(ts:List b9),(∀t∈ts,ox np age t)->b9.sizes ts=3*I ts
 |[],_=>rfl
 |t::ts,h=>by
  have h1:=(h t (by simp)).sz
  have h2:=Zw ts fun z hz=>h z (by grind)
  grind[b9.sizes]
theorem tj{np age:Int}{v:b9}(h:ox np age v):pj np age 1 [v]:=⟨fun t ht=>by grind,by simp,fun i x y _ hy=>by grind⟩
theorem AiD{np age:Int}{ts:List b9}{v:b9}(h:pj np age 1 ts)(hv:ox np age v):pj np age 2 (BS ts v):=by
 match ts,h with
 |[],_=>exact⟨(tj hv).tok,by grind[BS],(tj hv).asc⟩
 |[x],h=>
  have hx:=h.tok x (by simp)
  by_cases hc:As x v<0
  ·have e:BS [x] v=[x,v]:=by grind[BS,AR]
   rw[e]
   refine⟨fun t ht=>?_,by simp,fun i a b ha hb=>?_⟩
   all_goals grind
  ·by_cases he:(As x v==0)=J
   ·have e:BS [x] v=[x]:=by grind[BS,AR]
    rw[e]
    exact⟨h.tok,by simp,fun i a b ha hb=>by grind⟩
   ·have e:BS [x] v=[v,x]:=by grind[BS,AR]
    rw[e]
    refine⟨fun t ht=>?_,by simp,fun i a b ha hb=>?_⟩
    ·grind
    ·match i,ha,hb with
     |0,ha,hb=>
      have:=(B6.swap v x trivial trivial).2
      grind
     |i+1,_,hb=>grind
 |_::_::_,h=>exact absurd h.len (by simp)
noncomputable abbrev ma:=Tryz.f26
noncomputable def Wf:=yl ma
abbrev ZK(l:List UInt8)(a:Nat):St:=⟨[G (cn l a),G [di 0,.v .nils]],[]⟩
noncomputable abbrev qg:=fun a₀ b₀=>[ab [vi a₀,ai []],ab [vi b₀,ai []]]
theorem PU(l:List UInt8)(hl:I l<=200)(m:cz)(hpl:1<=I m.ay/\m.ay.length<=2)(hag:0<=m.age/\m.age<=3)(k:Nat)(hk:k<=2)(a:Nat)(ha:a<=I l)(ts:List b9)(hts:b9.sizes ts<=1000):
  ∃(t:b9) (a':Nat),ox (I m.ay) m.age t/\a'<=I l/\∀(d:D) (σ':St),Rn PP ma 1 d σ' ([kl Wf [1,1,0,1,0,0],.blk 0,kc Wf [1,1,1]]++[]) (cy 43 [(0,.ptr 0 0),(4,.v (.ref (A1 m))),(6,.ptr 1 0),(7,cq (BS ts t)),(8,di k)]) (ZK l a')->
   Rn PP ma 1 d σ' ([kl Wf [1,1,0,1,0,0],.blk 0,kc Wf [1,1,1]]++[]) (cy 43 [(0,.ptr 0 0),(4,.v (.ref (A1 m))),(6,.ptr 1 0),(7,cq ts),(8,di (k+1:Nat))]) (ZK l a):=by
 obtain⟨p,a1,p1,p2,p3,p4⟩:=A7 l hl a ha (I m.ay) (by omega) (by omega)
 obtain⟨g,a2,q1,q2,q3,q4⟩:=A7 l hl a1 p3 (m.age+2) (by omega) (by omega)
 obtain⟨t,ht⟩:∃t:b9,t=.mk 0 [.mk p [],.mk g []]:=⟨_,rfl⟩
 refine⟨t,a2,⟨p,g,⟨p1,p2⟩,⟨q1,q2⟩,ht⟩,q3,fun d σ' hrn=>?_⟩
 refine lv 43 [4] (.t<|.c1 (cn l a1) (di p)<|.c1 (cn l a2) (di g)<|.c (cq (BS ts t))<|.ls [ke 0,ke 4,ke 6,ch 7 (cq (BS ts t)),ch 8 (di k)] (ZK l a2)) (Y ((↑(k+1):Int)>0)=J/\Arx m.ay l a p a1/\Aa PP 14 [bq 0 0,di (yu yt (m.age+2))] (dz l a1) (di g) (dz l a2)/\F0 45 [cq ts,bt (ab [vi 0,ai (qg p g)])] (cq (BS ts t))/\Q (cq (BS ts t))/\di (yu yt ((↑(k+1):Int)-1))=di (k:Int)/\Q (ZK l a2).H/\I0 ma 1 d σ' [kl Wf ee,bf 0,kc Wf [1,1,1]] (cy 43 [jh,(4,bt (iq m)),(6,bq 1 0),(7,cq (BS ts t)),(8,di (k:Int))]) (ZK l a2)) ?_
 rw[show yu yt (m.age+2)=m.age+2 from Ak,show yu yt ((k+1:Nat)-1:Int)=(k:Int) from by grind[Ak]]
 refine⟨yr,by grind,q4,?_,rfl,rfl,rfl,⟨hrn⟩⟩
 subst ht
 exact Pq ts (.mk 0 [.mk p [],.mk g []]) (by omega) (by show 3<=1000000;decide)
theorem ln:BR PP 29=G (31,2,32,G (.agg #[.int .i64 0,.slice none 0 0])):=by rfl
theorem Aj9{o:yy}{σ:St}(ho:o.op=.buildSlice 29 2 #[(0,.tmp 38),(1,.tmp 40)])(x y:b9):Ah PP o [.v (Ac x),.v (Ac y)] σ (.gro (I σ.H) 2 2) ⟨σ.H++[G (Ab [Ac x,Ac y])],σ.own⟩:=
 N5 ho (by rfl) rfl ln rfl (ds:=[.v (Ac x),.v (Ac y)]) (xs:=[Ac x,Ac y]) rfl (fun z hz=>by simp at hz;rcases hz with rfl|rfl<;>rfl) (by decide) (by decide) (by decide)
theorem AgO(l:List UInt8)(hl:I l<=200)(m:cz)(hst:1<=I m.aw/\m.aw.length<=3)(a:Nat)(ha:a<=I l)(ts:List b9):
  ∃(s:Int) (a':Nat),(0<=s/\s<I m.aw)/\a'<=I l/\Rn PP ma 1 (.dagg [di 0,.gro 2 2 2]) ⟨[G (cn l a'),G [di 0,.gro 2 2 2],G (Ab [Ac (.mk s []),Ac (.mk 0 ts)])],[]⟩ ([kl Wf [1,1,0,1,0,0],.blk 0,kc Wf [1,1,1]]++[]) (cy 43 [(0,.ptr 0 0),(4,.v (.ref (A1 m))),(6,.ptr 1 0),(7,cq ts),(8,di (0:Nat))]) (ZK l a):=by
 obtain⟨s,a1,p1,p2,p3,p4⟩:=A7 l hl a ha (I m.aw) (by omega) (by omega)
 refine⟨s,a1,⟨p1,p2⟩,p3,?_⟩
 exact lv 43 [4] (.f<|.c1 (cn l a1) (di s)<|.h (.q 6 8)<|.h (.o (.gro 2 2 2) ⟨[G (cn l a1),G [di 0,.v .nils],G (Ab [Ac (.mk s []),Ac (.mk 0 ts)])],[]⟩)<|.h .g<|.h .ww<|.rd) (Y ((↑0:Int)>0)=O/\Arx m.aw l a s a1/\Ah PP (Oper.mk (G 41) (Op.buildSlice 29 2 #[(0,Operand.tmp 38),(1,Operand.tmp 40)]) 29 "play.go:141" #[Edge.mk 5 Ground.data,Edge.mk 7 Ground.data] none) [bt (ab [vi s,ai []]),bt (ab [vi 0,dt ts])] (bh [G (cn l a1),G [di 0,dn]] []) (bm 2 2 2) (bh [G (cn l a1),G [di 0,dn],G [di (b9.n (fm s)),bt (dt (b9.az (fm s))),di (b9.n (b9.mk 0 ts)),bt (dt (b9.az (b9.mk 0 ts)))]] [])/\2<=2/\Q [G (cn l a1),G [di 0,bm 2 2 2],G [di (b9.n (fm s)),bt (dt (b9.az (fm s))),di (b9.n (b9.mk 0 ts)),bt (dt (b9.az (b9.mk 0 ts)))]]/\Q (bi [di 0,bm 2 2 2])) ⟨by decide,by grind,Aj9 (σ:=⟨[G (cn l a1),G [di 0,.v .nils]],[]⟩) rfl (.mk s []) (.mk 0 ts),by decide,rfl,rfl⟩
theorem ua{σ:St}{t:Nat}(e:List D)(he:e[t]?=G (.v .nils)):Cv e σ (e.set t (.v (.list []))) σ:=fun E g a w hf=>by
 obtain⟨u,hu,hr⟩:=BA hf.env he
 refine⟨g,hf.wi,?_,hf.defers⟩
 have:=CJ hf.env t (d:=.v (.list [])) (u:=u) (FR hr)
 grind[DA]
theorem AgN(l:List UInt8)(hl:I l<=200)(m:cz)(hpl:1<=I m.ay/\m.ay.length<=2)(hag:0<=m.age/\m.age<=3)(a:Nat)(ha:a<=I l)(r:Nat)(hr:r<=2):
  ∃(ts:List b9) (a':Nat),pj (I m.ay) m.age 2 ts/\a'<=I l/\∀(d:D) (σ':St),Rn PP ma 1 d σ' ([kl Wf [1,1,0,1,0,0],.blk 0,kc Wf [1,1,1]]++[]) (cy 43 [(0,.ptr 0 0),(4,.v (.ref (A1 m))),(6,.ptr 1 0),(7,cq ts),(8,di (0:Nat))]) (ZK l a')->
   Rn PP ma 1 d σ' ([kl Wf [1,1,0,1,0,0],.blk 0,kc Wf [1,1,1]]++[]) (cy 43 [(0,.ptr 0 0),(4,.v (.ref (A1 m))),(6,.ptr 1 0),(7,cq []),(8,di (r:Nat))]) (ZK l a):=by
 rcases(show r=0∨r=1∨r=2 by omega) with rfl|rfl|rfl
 ·exact⟨[],a,⟨fun t ht=>by grind,by simp,fun i x y hx=>by grind⟩,ha,fun d σ' h=>h⟩
 ·obtain⟨t,a1,h1,h2,h3⟩:=PU l hl m hpl hag 0 (by omega) a ha [] (by decide)
  exact⟨BS [] t,a1,⟨(tj h1).tok,by grind[BS],(tj h1).asc⟩,h2,h3⟩
 ·obtain⟨t,a1,h1,h2,h3⟩:=PU l hl m hpl hag 1 (by omega) a ha [] (by decide)
  obtain⟨t2,a2,h4,h5,h6⟩:=PU l hl m hpl hag 0 (by omega) a1 h2 [t] (by simp only[b9.sizes,h1.sz];decide)
  exact⟨BS [t] t2,a2,AiD (tj h1) h4,h5,fun d σ' h=>h3 d σ' (h6 d σ' h)⟩
theorem AjA(l:List UInt8)(hl:I l<=200)(m:cz)(hst:1<=I m.aw/\m.aw.length<=3)(hpl:1<=I m.ay/\m.ay.length<=2)(hag:0<=m.age/\m.age<=3)(a:Nat)(ha:a<=I l):
  ∃(s:Int) (ts:List b9) (a':Nat),(0<=s/\s<I m.aw)/\pj (I m.ay) m.age 2 ts/\a'<=I l/\Aa PP 26 [.ptr 0 0,Ad m,di 2] (dz l a) (.dagg [di 0,.arr 1 0 2]) ⟨[G (cn l a'),G [di s,cq [],di 0,cq ts]],[]⟩:=by
 obtain⟨r,a1,p1,p2,p3,p4⟩:=A7 l hl a ha 3 (by decide) (by decide)
 obtain⟨r,rfl⟩:∃n:Nat,r=n:=⟨r.toNat,by omega⟩
 obtain⟨ts,a2,h1,h2,h3⟩:=AgN l hl m hpl hag a1 p3 r (by omega)
 obtain⟨s,a3,h4,h5,h6⟩:=AgO l hl m hst a2 h2 ts
 refine⟨s,ts,a3,h4,h1,h5,?_⟩
 have hrn:=h3 _ _ h6
 refine Ae0 (c1:=[di 0]) (c2:=[]) (T:=[G [di 0,.gro 2 2 2],G (Ab [Ac (.mk s []),Ac (.mk 0 ts)])]) (q:=1) (sz:=2) rfl rfl rfl rfl rfl ?_
 refine sv ma 43 [4] (.h (.q 2 0)<|.h (.ct 7 (cq []) (ZK l a))<|.c1 (cn l a1) (di r)<|.ls [ke 0,ke 4,ke 6,ch 7 (cq []),ch 8 (di r)] (ZK l a1)) ((∀(e:List D),e[7]?=G (dn)->∀(E:cd) (g:Gh) (a_2:Act) (w:x5),FI E g (bh [G (cn l a),G [bt io,dn]] (dz l a).own) e a_2 w->∃g',FI E g' (ZK l a) (List.set e 7 (cq [])) a_2 w)/\Aa PP 14 [bq 0 0,di (yu yt (2+1))] (dz l a) (di (r:Int)) (dz l a1)/\Q (cq [])/\Q (di (r:Int))/\Q (ZK l a1).H/\I0 ma (I (dz l a).H) (bi ([di 0]++[bm (1+1) 2 2])) (bh [G (cn l a3),G [di 0,bm 2 2 2],G (Ab [Ac (fm s),Ac (b9.mk 0 ts)])] []) [kl Wf ee,bf 0,kc Wf [1,1,1]] (cy 43 [jh,(4,bt (iq m)),(6,bq 1 0),(7,cq []),(8,di (r:Int))]) (ZK l a1)) ?_
 have w3:yu yt (2+1)=3:=by decide
 rw[w3]
 exact⟨fun e he=>ua e he,p4,rfl,rfl,rfl,⟨hrn⟩⟩
abbrev sp:List (List UInt8):=[[114],[115]]
def ey(nm:List UInt8)(f t:Int)(tk:List Tk)(mk:List Int):cf:=⟨nm,f,t,[],[],[],0,0,0,[],[],tk,mk,0⟩
abbrev gq(S Pl:List (List UInt8))(ag:Int)(rs:List cf):List D:=[di 5,.v (cp S),.v (cp Pl),.v .nils,.v .nils,di 0,di ag,.acc 2 (rs.map Al),di 0,.v .nils]
abbrev ZI(l:List UInt8)(a:Nat)(S Pl:List (List UInt8))(ag:Int)(rs:List cf):St:=⟨[G (cn l a),G zM,G (gq S Pl ag rs)],[(2,14,rs.map Al)]⟩
structure OM(ns np:Nat)(ag:Int)(k:Nat)(r:cf):Prop where
 name:sp[k]?=G r.name
 aj:0<=r.aj/\r.aj<ns
 to:0<=r.to/\r.to<ns
 ar:r.ar=[]∨∃p lo hi:Int,(0<=p/\p<np)/\(0<=lo/\lo<=hi/\hi<=ag+1)/\r.ar=[⟨p,lo,hi⟩]
 aq:r.aq=[]∨∃p:Int,(0<=p/\p<np)/\r.aq=[p]
 rest:r=ey r.name r.aj r.to r.ar r.aq
structure BG(m:cz):Prop where
 kind:m.kind=5
 aw:m.aw=[[97]]∨m.aw=[[97],[98]]
 ay:m.ay=[[120]]∨m.ay=[[120],[121]]
 ax:m.ax=[]
 au:m.au=[]
 ao:m.ao=0
 age:0<=m.age/\m.age<=1
 count:I m.av<=2
 pos:1<=I m.av
 av:∀k r,m.av[k]?=G r->OM (I m.aw) (I m.ay) m.age k r
 start:∃ts:List b9,pj (I m.ay) m.age 2 ts/\m.start=.mk 0 [.mk 0 [],.mk 0 ts]
theorem Vt{ns np:Nat}{ag:Int}{rs:List cf}{k:Nat}{nm:List UInt8}{f t:Int}{tk:List Tk}{mk:List Int}(hnm:sp[k]?=G nm)(hf:0<=f/\f<ns)(ht:0<=t/\t<ns)(h1:tk=[]∨∃p lo hi:Int,(0<=p/\p<np)/\(0<=lo/\lo<=hi/\hi<=ag+1)/\tk=[⟨p,lo,hi⟩])(h2:mk=[]∨∃p:Int,(0<=p/\p<np)/\mk=[p])(hrs:I rs=k)(hR:∀i r,rs[i]?=G r->OM ns np ag i r):∀i r,(rs++[ey nm f t tk mk])[i]?=G r->OM ns np ag i r:=fun i r hi=>by
 by_cases hik:i<I rs
 ·grind
 ·rw[Ib (by omega)] at hi
  have h0:i-I rs=0:=by
   grind
  rw[h0] at hi
  simp at hi;subst hi
  have hik2:i=k:=by omega
  subst hik2
  exact⟨hnm,hf,ht,h1,h2,rfl⟩
noncomputable abbrev og:=Tryz.f17
noncomputable def YJ:=yl og
noncomputable abbrev Aqx:=fun a₀ b₀ c₀ d₀=>Aa PP 14 [bq 0 0,di 2] (dz a₀ b₀) (di c₀) (dz a₀ d₀)
noncomputable abbrev Atd:=fun (a₀:Nat)=>(cy 94 [jh,(2,bq 1 0),(3,bq 2 0),(4,di (↑(a₀+1):Int))])
noncomputable abbrev Aug:=[kl YJ ee,bf 0,kc YJ [1,1,1]]
noncomputable abbrev Au3:=fun a₀=>[ke 0,ke 2,ke 3,ch 4 (di (a₀+1:Nat))]
noncomputable abbrev Au8:=fun a₀ b₀ c₀ d₀=>(ae a₀::vi b₀::vi c₀::ai nV::ai nV::ai nV::vi 0::vi 0::vi 0::ai nV::ai nV::ai nV::ai (vi d₀::nV)::vi 0::nV)
theorem Aee(l:List UInt8)(hl:I l<=200)(S Pl:List (List UInt8))(ag:Int)(hS:S=[[97]]∨S=[[97],[98]])(hP:Pl=[[120]]∨Pl=[[120],[121]])(hag:0<=ag/\ag<=1)(n:Nat):∀(k a:Nat) (rs:List cf),2-k=n->a<=I l->k<=2->I rs=k->(∀i r,rs[i]?=G r->OM (I S) (I Pl) ag i r)->
  ∃(m:cz) (a':Nat),BG m/\a'<=I l/\Rn PP og 1 (Ad m) (dz l a') ([kl YJ [1,1,0,1,0,0],.blk 0,kc YJ [1,1,1]]++[]) (cy 94 [(0,.ptr 0 0),(2,.ptr 1 0),(3,.ptr 2 0),(4,di k)]) (ZI l a S Pl ag rs):=by
 induction n using Nat.strongRecOn with
 |_ n ih=>
 intro k a rs hn ha hk2 hrs hR
 have hSl:1<=I S/\S.length<=2:=by grind
 have hPl:1<=I Pl/\Pl.length<=2:=by grind
 have hSm:(I (S.map ae):Int)=(I S:Int):=by grind
 have hPm:(I (Pl.map ae):Int)=(I Pl:Int):=by grind
 have wag:yu yt (ag+2)=ag+2:=Ak
 obtain⟨r,a1,h1,h2,h3,h4⟩:=A7 l hl a ha 2 (by decide) (by decide)
 by_cases hk:(k:Int)<1+r
 ·obtain⟨f,a2,f1,f2,f3,f4⟩:=A7 l hl a1 h3 (I S) (by omega) (by omega)
  obtain⟨t,a3,t1,t2,t3,t4⟩:=A7 l hl a2 f3 (I S) (by omega) (by omega)
  obtain⟨nm,hnm⟩:∃nm,sp[k]?=G nm:=⟨_,HI (show k<I sp by grind)⟩
  have hkr:Y ((k:Int)<yu yt (1+r))=J:=by grind[Ak]
  obtain⟨u,a4,u1,u2,u3,u4⟩:=A7 l hl a3 t3 2 (by decide) (by decide)
  by_cases hu:(u==0)=J
  ·obtain⟨lo,a5,lo1,lo2,lo3,lo4⟩:=A7 l hl a4 u3 (ag+2) (by omega) (by omega)
   obtain⟨p,a6,p1,p2,p3,p4⟩:=A7 l hl a5 lo3 (I Pl) (by omega) (by omega)
   obtain⟨hi,a7,hi1,hi2,hi3,hi4⟩:=A7 l hl a6 p3 (ag+2-lo) (by omega) (by omega)
   obtain⟨x,a8,x1,x2,x3,x4⟩:=A7 l hl a7 hi3 2 (by decide) (by decide)
   have wlo:yu yt (ag+2-lo)=ag+2-lo:=Ak
   have whi:yu yt (lo+hi)=lo+hi:=Ak
   have htk:([⟨p,lo,lo+hi⟩]:List Tk)=[]∨∃p' lo' hi':Int,(0<=p'/\p'<I Pl)/\(0<=lo'/\lo'<=hi'/\hi'<=ag+1)/\([⟨p,lo,lo+hi⟩]:List Tk)=[⟨p',lo',hi'⟩]:=.inr ⟨p,lo,lo+hi,⟨p1,p2⟩,⟨lo1,by omega,by omega⟩,rfl⟩
   by_cases hx:(x==0)=J
   ·obtain⟨q,a9,q1,q2,q3,q4⟩:=A7 l hl a8 x3 (I Pl) (by omega) (by omega)
    obtain⟨m,a',m1,m2,m3⟩:=ih (2- (k+1)) (by omega) (k+1) a9 (rs++[ey nm f t [⟨p,lo,lo+hi⟩] [q]]) rfl q3 (by omega) (by simp[hrs]) (Vt hnm ⟨f1,f2⟩ ⟨t1,t2⟩ htk (.inr ⟨q,⟨q1,q2⟩,rfl⟩) hrs hR)
    refine⟨m,a',m1,m2,?_⟩
    refine lv 94 [] (.c1 (cn l a1) (di r)<|.t<|.h (.dr 15)<|.x (.str nm)<|.c1 (cn l a2) (di f)<|.c1 (cn l a3) (di t)<|.c1 (cn l a4) (di u)<|.t<|.c1 (cn l a5) (di lo)<|.c1 (cn l a6) (di p)<|.c1 (cn l a7) (di hi)<|.c1 (cn l a8) (di x)<|.t<|.c1 (cn l a9) (di q)<|.ls [ke 0,ke 2,ke 3,ch 4 (di (k+1:Nat))] (ZI l a9 S Pl ag (rs++[ey nm f t [⟨p,lo,lo+hi⟩] [q]]))) (Aa PP 14 [bq 0 0,di 2] (dz l a) (di r) (dz l a1)/\Y ((k:Int)<yu yt (1+r))=J/\0<=(k:Int)/\[ae (bc #[114]).data.toList,ae (bc #[115]).data.toList][Z (k:Int)]?=G (ae nm)/\Aa PP 14 [bq 0 0,di (I (U ae S):Int)] (dz l a1) (di f) (dz l a2)/\Aa PP 14 [bq 0 0,di (I (U ae S):Int)] (dz l a1) (di f) (dz l a2)/\Q (di f)/\Aa PP 14 [bq 0 0,di (I (U ae S):Int)] (dz l a2) (di t) (dz l a3)/\Aa PP 14 [bq 0 0,di (I (U ae S):Int)] (dz l a2) (di t) (dz l a3)/\Q (di t)/\Q [bh [G (cn l a1),G zM,G (gq S Pl ag rs),G fv] [(2,14,U Al rs)],bh [G (cn l a2),G zM,G (gq S Pl ag rs),G fv] [(2,14,U Al rs)],bh [G (cn l a3),G zM,G (gq S Pl ag rs),G fv] [(2,14,U Al rs)]]/\((yh (Q (G [bt (cp S)])))/\(yh (Q (G [bt (cp S)])))/\True)/\Aa PP 14 [bq 0 0,di 2] (dz l a3) (di u) (dz l a4)/\(u==0)=J/\Aa PP 14 [bq 0 0,di (yu yt (ag+2))] (dz l a4) (di lo) (dz l a5)/\Aa PP 14 [bq 0 0,di (I (U ae Pl):Int)] (dz l a5) (di p) (dz l a6)/\Aa PP 14 [bq 0 0,di (yu yt (yu yt (ag+2)-lo))] (dz l a6) (di hi) (dz l a7)/\(True/\(Q (G [di ag])/\True)/\True)/\Aa PP 14 [bq 0 0,di 2] (dz l a7) (di x) (dz l a8)/\(x==0)=J/\Aa PP 14 [bq 0 0,di (I (U ae Pl):Int)] (dz l a8) (di q) (dz l a9)/\Q (U Al rs)/\Ao (I (U Al rs)+I (ab (ae nm::aa yt f::aa yt t::ai nV::ai nV::ai nV::aa yt 0::aa yt 0::aa yt 0::ai nV::ai nV::ai (ab (aa yt p::aa yt lo::aa yt (yu yt (lo+hi))::nV)::nV)::ai (aa yt q::nV)::aa yt 0::nV)::nV)) 232/\di (yu yt ((k:Int)+1))=di (↑(k+1):Int)/\[G (cn l a9),G zM,G [di 5,bt (cp S),bt (cp Pl),dn,dn,di 0,di ag,br 2 (U Al rs++ab (ae nm::vi f::vi t::ai nV::ai nV::ai nV::vi 0::vi 0::vi 0::ai nV::ai nV::ai (ab (vi p::vi lo::vi (yu yt (lo+hi))::nV)::nV)::ai (vi q::nV)::vi 0::nV)::nV),di 0,dn]]=[G (cn l a9),G zM,G (gq S Pl ag (rs++[ey nm f t [Tk.mk p lo (lo+hi)] [q]]))]/\[(2,14,U Al rs++ab (ae nm::vi f::vi t::ai nV::ai nV::ai nV::vi 0::vi 0::vi 0::ai nV::ai nV::ai (ab (vi p::vi lo::vi (yu yt (lo+hi))::nV)::nV)::ai (vi q::nV)::vi 0::nV)::nV)]=[(2,14,U Al (rs++[ey nm f t [Tk.mk p lo (lo+hi)] [q]]))]/\I0 og 1 (Ad m) (dz l a') [kl YJ [1,1,0,1,0,0],bf 0,kc YJ [1,1,1]] (cy 94 [(0,bq 0 0),(2,bq 1 0),(3,bq 2 0),(4,di (↑(k+1):Int))]) (ZI l a9 S Pl ag (rs++[ey nm f t [Tk.mk p lo (lo+hi)] [q]]))) ?_
    rw[hSm,hPm,wag,wlo,whi]
    repeat' first|with_reducible refine And.intro ?_ ?_
    all_goals first|exact h4|exact hkr|exact f4|exact t4|exact u4|exact lo4|exact p4|exact hi4|exact hu|exact hx|exact x4|exact q4|  exact CD hnm|exact⟨m3⟩|exact Ae|omega|rfl|trivial|skip
    all_goals first|exact Ih (fun z=>[G (cn l a9),G zM,G [di 5,.v (cp S),.v (cp Pl),.v .nils,.v .nils,di 0,di ag,.acc 2 z,di 0,.v .nils]]) (AX rs (ey nm f t [⟨p,lo,lo+hi⟩] [q]))|exact Ih (fun z=>[(2,14,z)]) (AX rs (ey nm f t [⟨p,lo,lo+hi⟩] [q]))|(simp only[HH,HN,HR];omega)
   ·have hx:(x==0)=O:=by grind
    obtain⟨m,a',m1,m2,m3⟩:=ih (2- (k+1)) (by omega) (k+1) a8 (rs++[ey nm f t [⟨p,lo,lo+hi⟩] []]) rfl x3 (by omega) (by simp[hrs]) (Vt hnm ⟨f1,f2⟩ ⟨t1,t2⟩ htk (.inl rfl) hrs hR)
    refine⟨m,a',m1,m2,?_⟩
    refine lv 94 [] (.c1 (cn l a1) (di r)<|.t<|.h (.dr 15)<|.x (.str nm)<|.c1 (cn l a2) (di f)<|.c1 (cn l a3) (di t)<|.c1 (cn l a4) (di u)<|.t<|.c1 (cn l a5) (di lo)<|.c1 (cn l a6) (di p)<|.c1 (cn l a7) (di hi)<|.c1 (cn l a8) (di x)<|.f<|.ls [ke 0,ke 2,ke 3,ch 4 (di (k+1:Nat))] (ZI l a8 S Pl ag (rs++[ey nm f t [⟨p,lo,lo+hi⟩] []]))) (Aa PP 14 [bq 0 0,di 2] (dz l a) (di r) (dz l a1)/\Y ((k:Int)<yu yt (1+r))=J/\0<=(k:Int)/\[ae (bc #[114]).data.toList,ae (bc #[115]).data.toList][Z (k:Int)]?=G (ae nm)/\Aa PP 14 [bq 0 0,di (I (U ae S):Int)] (dz l a1) (di f) (dz l a2)/\Aa PP 14 [bq 0 0,di (I (U ae S):Int)] (dz l a1) (di f) (dz l a2)/\Q (di f)/\Aa PP 14 [bq 0 0,di (I (U ae S):Int)] (dz l a2) (di t) (dz l a3)/\Aa PP 14 [bq 0 0,di (I (U ae S):Int)] (dz l a2) (di t) (dz l a3)/\Q (di t)/\Q [bh [G (cn l a1),G zM,G (gq S Pl ag rs),G fv] [(2,14,U Al rs)],bh [G (cn l a2),G zM,G (gq S Pl ag rs),G fv] [(2,14,U Al rs)],bh [G (cn l a3),G zM,G (gq S Pl ag rs),G fv] [(2,14,U Al rs)]]/\((yh (Q (G [bt (cp S)])))/\(yh (Q (G [bt (cp S)])))/\True)/\Aa PP 14 [bq 0 0,di 2] (dz l a3) (di u) (dz l a4)/\(u==0)=J/\Aa PP 14 [bq 0 0,di (yu yt (ag+2))] (dz l a4) (di lo) (dz l a5)/\Aa PP 14 [bq 0 0,di (I (U ae Pl):Int)] (dz l a5) (di p) (dz l a6)/\Aa PP 14 [bq 0 0,di (yu yt (yu yt (ag+2)-lo))] (dz l a6) (di hi) (dz l a7)/\(True/\(Q (G [di ag])/\True)/\True)/\Aa PP 14 [bq 0 0,di 2] (dz l a7) (di x) (dz l a8)/\(x==0)=O/\Q (U Al rs)/\Ao (I (U Al rs)+I (ab (ae nm::aa yt f::aa yt t::ai nV::ai nV::ai nV::aa yt 0::aa yt 0::aa yt 0::ai nV::ai nV::ai (ab (aa yt p::aa yt lo::aa yt (yu yt (lo+hi))::nV)::nV)::ai nV::aa yt 0::nV)::nV)) 232/\di (yu yt ((k:Int)+1))=di (↑(k+1):Int)/\[G (cn l a8),G zM,G [di 5,bt (cp S),bt (cp Pl),dn,dn,di 0,di ag,br 2 (U Al rs++ab (ae nm::vi f::vi t::ai nV::ai nV::ai nV::vi 0::vi 0::vi 0::ai nV::ai nV::ai (ab (vi p::vi lo::vi (yu yt (lo+hi))::nV)::nV)::ai nV::vi 0::nV)::nV),di 0,dn]]=[G (cn l a8),G zM,G (gq S Pl ag (rs++[ey nm f t [Tk.mk p lo (lo+hi)] []]))]/\[(2,14,U Al rs++ab (ae nm::vi f::vi t::ai nV::ai nV::ai nV::vi 0::vi 0::vi 0::ai nV::ai nV::ai (ab (vi p::vi lo::vi (yu yt (lo+hi))::nV)::nV)::ai nV::vi 0::nV)::nV)]=[(2,14,U Al (rs++[ey nm f t [Tk.mk p lo (lo+hi)] []]))]/\I0 og 1 (Ad m) (dz l a') [kl YJ [1,1,0,1,0,0],bf 0,kc YJ [1,1,1]] (cy 94 [(0,bq 0 0),(2,bq 1 0),(3,bq 2 0),(4,di (↑(k+1):Int))]) (ZI l a8 S Pl ag (rs++[ey nm f t [Tk.mk p lo (lo+hi)] []]))) ?_
    rw[hSm,hPm,wag,wlo,whi]
    repeat' first|with_reducible refine And.intro ?_ ?_
    all_goals first|exact h4|exact hkr|exact f4|exact t4|exact u4|exact lo4|exact p4|exact hi4|exact hu|exact hx|exact x4|  exact CD hnm|exact⟨m3⟩|exact Ae|omega|rfl|trivial|skip
    all_goals first|exact Ih (fun z=>[G (cn l a8),G zM,G [di 5,.v (cp S),.v (cp Pl),.v .nils,.v .nils,di 0,di ag,.acc 2 z,di 0,.v .nils]]) (AX rs (ey nm f t [⟨p,lo,lo+hi⟩] []))|exact Ih (fun z=>[(2,14,z)]) (AX rs (ey nm f t [⟨p,lo,lo+hi⟩] []))|(simp only[HH,HN,HR];omega)
  ·have hu:(u==0)=O:=by grind
   obtain⟨x,a8,x1,x2,x3,x4⟩:=A7 l hl a4 u3 2 (by decide) (by decide)
   by_cases hx:(x==0)=J
   ·obtain⟨q,a9,q1,q2,q3,q4⟩:=A7 l hl a8 x3 (I Pl) (by omega) (by omega)
    obtain⟨m,a',m1,m2,m3⟩:=ih (2- (k+1)) (by omega) (k+1) a9 (rs++[ey nm f t [] [q]]) rfl q3 (by omega) (by simp[hrs]) (Vt hnm ⟨f1,f2⟩ ⟨t1,t2⟩ (.inl rfl) (.inr ⟨q,⟨q1,q2⟩,rfl⟩) hrs hR)
    refine⟨m,a',m1,m2,?_⟩
    refine lv 94 [] (.c1 (cn l a1) (di r)<|.t<|.h (.dr 15)<|.x (.str nm)<|.c1 (cn l a2) (di f)<|.c1 (cn l a3) (di t)<|.c1 (cn l a4) (di u)<|.f<|.c1 (cn l a8) (di x)<|.t<|.c1 (cn l a9) (di q)<|.ls [ke 0,ke 2,ke 3,ch 4 (di (k+1:Nat))] (ZI l a9 S Pl ag (rs++[ey nm f t [] [q]]))) (Aa PP 14 [bq 0 0,di 2] (dz l a) (di r) (dz l a1)/\Y ((k:Int)<yu yt (1+r))=J/\0<=(k:Int)/\[ae (bc #[114]).data.toList,ae (bc #[115]).data.toList][Z (k:Int)]?=G (ae nm)/\Aa PP 14 [bq 0 0,di (I (U ae S):Int)] (dz l a1) (di f) (dz l a2)/\Aa PP 14 [bq 0 0,di (I (U ae S):Int)] (dz l a1) (di f) (dz l a2)/\Q (di f)/\Aa PP 14 [bq 0 0,di (I (U ae S):Int)] (dz l a2) (di t) (dz l a3)/\Aa PP 14 [bq 0 0,di (I (U ae S):Int)] (dz l a2) (di t) (dz l a3)/\Q (di t)/\Q [bh [G (cn l a1),G zM,G (gq S Pl ag rs),G fv] [(2,14,U Al rs)],bh [G (cn l a2),G zM,G (gq S Pl ag rs),G fv] [(2,14,U Al rs)],bh [G (cn l a3),G zM,G (gq S Pl ag rs),G fv] [(2,14,U Al rs)]]/\((yh (Q (G [bt (cp S)])))/\(yh (Q (G [bt (cp S)])))/\True)/\Aa PP 14 [bq 0 0,di 2] (dz l a3) (di u) (dz l a4)/\(u==0)=O/\Aa PP 14 [bq 0 0,di 2] (dz l a4) (di x) (dz l a8)/\(x==0)=J/\Aa PP 14 [bq 0 0,di (I (U ae Pl):Int)] (dz l a8) (di q) (dz l a9)/\Q (U Al rs)/\Ao (I (U Al rs)+I (ab (ae nm::aa yt f::aa yt t::ai nV::ai nV::ai nV::aa yt 0::aa yt 0::aa yt 0::ai nV::ai nV::ai nV::ai (aa yt q::nV)::aa yt 0::nV)::nV)) 232/\di (yu yt ((k:Int)+1))=di (↑(k+1):Int)/\[G (cn l a9),G zM,G [di 5,bt (cp S),bt (cp Pl),dn,dn,di 0,di ag,br 2 (U Al rs++ab (ae nm::vi f::vi t::ai nV::ai nV::ai nV::vi 0::vi 0::vi 0::ai nV::ai nV::ai nV::ai (vi q::nV)::vi 0::nV)::nV),di 0,dn]]=[G (cn l a9),G zM,G (gq S Pl ag (rs++[ey nm f t [] [q]]))]/\[(2,14,U Al rs++ab (ae nm::vi f::vi t::ai nV::ai nV::ai nV::vi 0::vi 0::vi 0::ai nV::ai nV::ai nV::ai (vi q::nV)::vi 0::nV)::nV)]=[(2,14,U Al (rs++[ey nm f t [] [q]]))]/\I0 og 1 (Ad m) (dz l a') [kl YJ [1,1,0,1,0,0],bf 0,kc YJ [1,1,1]] (cy 94 [(0,bq 0 0),(2,bq 1 0),(3,bq 2 0),(4,di (↑(k+1):Int))]) (ZI l a9 S Pl ag (rs++[ey nm f t [] [q]]))) ?_
    repeat' first|with_reducible refine And.intro ?_ ?_
    all_goals first|exact h4|exact hkr|exact f4|exact t4|exact u4|exact hu|exact hx|exact x4|exact q4|  exact CD hnm|exact⟨m3⟩|exact Ae|omega|rfl|trivial|skip
    all_goals first|exact Ih (fun z=>[G (cn l a9),G zM,G [di 5,.v (cp S),.v (cp Pl),.v .nils,.v .nils,di 0,di ag,.acc 2 z,di 0,.v .nils]]) (AX rs (ey nm f t [] [q]))|exact Ih (fun z=>[(2,14,z)]) (AX rs (ey nm f t [] [q]))|(simp only[HH,HN,HR];omega)
   ·have hx:(x==0)=O:=by simpa using hx
    obtain⟨m,a',m1,m2,m3⟩:=ih (2- (k+1)) (by omega) (k+1) a8 (rs++[ey nm f t [] []]) rfl x3 (by omega) (by simp[hrs]) (Vt hnm ⟨f1,f2⟩ ⟨t1,t2⟩ (.inl rfl) (.inl rfl) hrs hR)
    refine⟨m,a',m1,m2,?_⟩
    refine lv 94 [] (.c1 (cn l a1) (di r)<|.t<|.h (.dr 15)<|.x (.str nm)<|.c1 (cn l a2) (di f)<|.c1 (cn l a3) (di t)<|.c1 (cn l a4) (di u)<|.f<|.c1 (cn l a8) (di x)<|.f<|.ls [ke 0,ke 2,ke 3,ch 4 (di (k+1:Nat))] (ZI l a8 S Pl ag (rs++[ey nm f t [] []]))) (Aa PP 14 [bq 0 0,di 2] (dz l a) (di r) (dz l a1)/\Y ((k:Int)<yu yt (1+r))=J/\0<=(k:Int)/\[ae (bc #[114]).data.toList,ae (bc #[115]).data.toList][Z (k:Int)]?=G (ae nm)/\Aa PP 14 [bq 0 0,di (I (U ae S):Int)] (dz l a1) (di f) (dz l a2)/\Aa PP 14 [bq 0 0,di (I (U ae S):Int)] (dz l a1) (di f) (dz l a2)/\Q (di f)/\Aa PP 14 [bq 0 0,di (I (U ae S):Int)] (dz l a2) (di t) (dz l a3)/\Aa PP 14 [bq 0 0,di (I (U ae S):Int)] (dz l a2) (di t) (dz l a3)/\Q (di t)/\Q [bh [G (cn l a1),G zM,G (gq S Pl ag rs),G fv] [(2,14,U Al rs)],bh [G (cn l a2),G zM,G (gq S Pl ag rs),G fv] [(2,14,U Al rs)],bh [G (cn l a3),G zM,G (gq S Pl ag rs),G fv] [(2,14,U Al rs)]]/\((yh (Q (G [bt (cp S)])))/\(yh (Q (G [bt (cp S)])))/\True)/\Aa PP 14 [bq 0 0,di 2] (dz l a3) (di u) (dz l a4)/\(u==0)=O/\Aa PP 14 [bq 0 0,di 2] (dz l a4) (di x) (dz l a8)/\(x==0)=O/\Q (U Al rs)/\Ao (I (U Al rs)+I (ab (ae nm::aa yt f::aa yt t::ai nV::ai nV::ai nV::aa yt 0::aa yt 0::aa yt 0::ai nV::ai nV::ai nV::ai nV::aa yt 0::nV)::nV)) 232/\di (yu yt ((k:Int)+1))=di (↑(k+1):Int)/\[G (cn l a8),G zM,G [di 5,bt (cp S),bt (cp Pl),dn,dn,di 0,di ag,br 2 (U Al rs++ab (ae nm::vi f::vi t::ai nV::ai nV::ai nV::vi 0::vi 0::vi 0::ai nV::ai nV::ai nV::ai nV::vi 0::nV)::nV),di 0,dn]]=[G (cn l a8),G zM,G (gq S Pl ag (rs++[ey nm f t [] []]))]/\[(2,14,U Al rs++ab (ae nm::vi f::vi t::ai nV::ai nV::ai nV::vi 0::vi 0::vi 0::ai nV::ai nV::ai nV::ai nV::vi 0::nV)::nV)]=[(2,14,U Al (rs++[ey nm f t [] []]))]/\I0 og 1 (Ad m) (dz l a') [kl YJ [1,1,0,1,0,0],bf 0,kc YJ [1,1,1]] (cy 94 [(0,bq 0 0),(2,bq 1 0),(3,bq 2 0),(4,di (↑(k+1):Int))]) (ZI l a8 S Pl ag (rs++[ey nm f t [] []]))) ?_
    repeat' first|with_reducible refine And.intro ?_ ?_
    all_goals first|exact h4|exact hkr|exact f4|exact t4|exact u4|exact hu|exact hx|exact x4|  exact CD hnm|exact⟨m3⟩|exact Ae|omega|rfl|trivial|skip
    all_goals first|exact Ih (fun z=>[G (cn l a8),G zM,G [di 5,.v (cp S),.v (cp Pl),.v .nils,.v .nils,di 0,di ag,.acc 2 z,di 0,.v .nils]]) (AX rs (ey nm f t [] []))|exact Ih (fun z=>[(2,14,z)]) (AX rs (ey nm f t [] []))|(simp only[HH,HN,HR];omega)
 ·obtain⟨m0',hm0⟩:∃m0':cz,m0'=⟨5,S,Pl,[],[],0,ag,rs,.mk 0 []⟩:=⟨_,rfl⟩
  obtain⟨s,ts,a2,s1,s2,s3,s4⟩:=AjA l hl m0' (by grind) (by grind) (by grind) a1 h3
  refine⟨⟨5,S,Pl,[],[],0,ag,rs,.mk 0 [.mk 0 [],.mk 0 ts]⟩,a2,⟨rfl,hS,hP,rfl,rfl,rfl,hag,by grind,by grind,hR,ts,by grind,rfl⟩,s3,?_⟩
  refine lv 94 [] (.c1 (cn l a1) (di r)<|.f<|.h (.oc (.dagg [di 0,.arr 3 0 2]) ⟨[G (cn l a2),G zM,G (gq S Pl ag rs),G [di s,cq [],di 0,cq ts]],[(2,14,rs.map Al)]⟩)<|.h .ww<|.m (.arr 3 0 2)<|.h (.q 14 0)<|.h (.cs ⟨[G (cn l a2),G zM,G [di 5,.v (cp S),.v (cp Pl),.v .nils,.v .nils,di 0,di ag,.acc 2 (rs.map Al),di 0,.v (.list [Ac (.mk 0 []),Ac (.mk 0 ts)])],none],[(2,14,rs.map Al)]⟩) .r) (_/\Y ((k:Int)<yu yt (1+r))=O/\(∀(o:yy) (c:Call) (fo:x8),o.op=Op.call c->c.callee=Callee.value fo->Ah PP o [bt (bw 26 [] []),bq 0 0,bt (ab [vi 5,cp S,cp Pl,bv,bv,vi 0,vi ag,ai (U Al rs),vi 0,bv]),di 2] (bh [G (cn l a1),G zM,G (gq S Pl ag rs)] [(2,14,U Al rs)]) (bi [di 0,bo 3 0 2]) (bh [G (cn l a2),G zM,G (gq S Pl ag rs),G [di s,cq [],di 0,cq ts]] [(2,14,U Al rs)]))/\10<=10/\Q (G (bo 3 0 2))/\iz 0<=0/\0<(↑2:Int)/\(∀(e:List D) (E:cd) (g:Gh) (a:Act) (w:x5),FI E g (bh [G (cn l a2),G zM,G (take (Nat.add 0 8) (gq S Pl ag rs)++Az (bi [di 0,bo 3 0 2])++W (Nat.add 0 8+2) (gq S Pl ag rs)),G [lm [(0,bq 0 0).snd,bj,(2,bq 1 0).snd,(3,bq 2 0).snd,(4,di (k:Int)).snd,bj,bj,bj,bj,bj,bj,bj,bj,bj,bj,bj,bj,bj,bj,bj,(4,di (k:Int)).snd,(0,bq 0 0).snd,di r,bt (aa yt (yu yt (1+r))),bt (bu false),bj,bj,bj,bj,bj,bj,bj,bj,bj,bj,bj,bj,bj,bj,bj,bj,bj,bj,bj,bj,bj,bj,bj,bj,bj,bj,bj,bj,bj,bj,bj,bj,bj,bj,bj,bj,bj,bj,bj,bj,bj,bj,bj,bj,bj,bj,bj,bj,bj,bj,bj,bj,bj,bj,bj,bj,bj,bj,bj,(0,bq 0 0).snd,bt (ab [aa yt 5,cp S,cp Pl,bv,bv,aa yt 0,aa yt ag,ai (U Al rs),aa yt 0,bv]),bi [di 0,bo 3 0 2],bq 2 (Nat.add 0 8),bq 2 (Nat.add 0 8),bq 2 (Nat.add (Nat.add 0 8) 1),bo 3 0 2,bq 3 (0+Z 0*2),bq 3 (Nat.add (0+Z 0*2) 0),bj] (Operand.const (Value.int yt 0)),cq [],di 0,cq ts]] [(2,14,U Al rs)]) e a w->∃g',FI E g' (bh [G (cn l a2),G zM,G [di 5,bt (cp S),bt (cp Pl),dn,dn,di 0,di ag,br 2 (U Al rs),di 0,bt (ai [Ac (b9.mk 0 []),Ac (b9.mk 0 ts)])],none] [(2,14,U Al rs)]) e a w)/\Q [G (cn l a2)]/\bt (ab [vi 5,ai (U ae S),ai (U ae Pl),ai [],ai [],vi 0,vi ag,ai (U Al rs),vi 0,ai [Ac (b9.mk 0 []),Ac (b9.mk 0 ts)]])=Ad (cz.mk 5 S Pl [] [] 0 ag rs (b9.mk 0 [b9.mk 0 [],b9.mk 0 ts]))) ⟨h4,HM (by grind[Ak]),fun o c fo ho hc=>?_,by decide,rfl,by decide,by decide,?_,rfl,?_⟩
  ·refine BQ (ds':=[.v (.fn 26 [] []),.ptr 0 0,Ad m0',di 2]) (fun g us h=>by rw[hm0];exact D7 (ts:=[]) (kn:=false) h) ?_
   have h:=B3 (σ:=⟨[G (cn l a1),G zM,G (gq S Pl ag rs)],[(2,14,rs.map Al)]⟩) ho hc (fD:=.v (.fn 26 [] [])) rfl (ds:=[.ptr 0 0,Ad m0',di 2]) [0] id s4 (.cons (.ren (dc:=.ptr 0 0) rfl) (.cons (.ren (dc:=Ad m0') rfl) (.cons (.ren (dc:=di 2) rfl) .nil)))
    (.cons rfl (.cons (.ren (dc:=.v (jt l)) rfl) (.cons (.ren (dc:=di a1) rfl) .nil)) (by rfl) .nil) (by simp) rfl (by simp) (by simp) (by simp[D.okN,D.okNs]) (by simp[cm,D.okNs,D.okN])
   exact h
  ·intro e
   exact BY (σ:=⟨[G (cn l a2),G zM,G [di 5,.v (cp S),.v (cp Pl),.v .nils,.v .nils,di 0,di ag,.acc 2 (rs.map Al),di 0,.arr 3 0 2],G (Ab [Ac (.mk 0 []),Ac (.mk 0 ts)])],[(2,14,rs.map Al)]⟩) (p:=2) (q:=3) (i:=9) (sz:=2) (cs:=[di 5,.v (cp S),.v (cp Pl),.v .nils,.v .nils,di 0,di ag,.acc 2 (rs.map Al),di 0,.arr 3 0 2]) (xs:=[Ac (.mk 0 []),Ac (.mk 0 ts)]) (by decide) rfl rfl (by decide) rfl (fun x hx=>by simp at hx;rcases hx with rfl|rfl<;>rfl) e
  ·show bt (ab [vi 5,cp S,cp Pl,cp [],cw [],vi 0,vi ag,BE rs,vi 0,ai [Ac (.mk 0 []),Ac (.mk 0 ts)]])=_
   rw[←AG, ←AG];rfl
theorem AkT(l:List UInt8)(hl:I l<=200)(a:Nat)(ha:a<=I l):
  ∃(m:cz) (a':Nat),BG m/\a'<=I l/\Aa PP 17 [.ptr 0 0] (dz l a) (Ad m) (dz l a'):=by
 obtain⟨r1,a1,p1,p2,p3,p4⟩:=A7 l hl a ha 2 (by decide) (by decide)
 obtain⟨r2,a2,q1,q2,q3,q4⟩:=A7 l hl a1 p3 2 (by decide) (by decide)
 obtain⟨ag,a3,u1,u2,u3,u4⟩:=A7 l hl a2 q3 2 (by decide) (by decide)
 obtain⟨n1,rfl⟩:∃n:Nat,r1=n:=⟨r1.toNat,by omega⟩
 obtain⟨n2,rfl⟩:∃n:Nat,r2=n:=⟨r2.toNat,by omega⟩
 obtain⟨S,hS⟩:∃S,S=([[97],[98]]:List (List UInt8)).take (1+n1):=⟨_,rfl⟩
 obtain⟨Pl,hPl⟩:∃S,S=([[120],[121]]:List (List UInt8)).take (1+n2):=⟨_,rfl⟩
 have hSx:S=[[97]]∨S=[[97],[98]]:=by
  rcases(show n1=0∨n1=1 by omega) with rfl|rfl
  ·exact .inl hS
  ·exact .inr hS
 have hPx:Pl=[[120]]∨Pl=[[120],[121]]:=by
  rcases(show n2=0∨n2=1 by omega) with rfl|rfl
  ·exact .inl hPl
  ·exact .inr hPl
 obtain⟨m,a',m1,m2,m3⟩:=Aee l hl S Pl ag hSx hPx ⟨u1,by omega⟩ _ 0 a3 [] rfl u3 (by omega) rfl (by simp)
 refine⟨m,a',m1,m2,?_⟩
 refine sv og 94 [] (.h (.dr 13)<|.c1 (cn l a1) (di n1)<|.c1 (cn l a2) (di n2)<|.c1 (cn l a3) (di ag)<|.h .rn<|.h (.q 2 0)<|.h (.cl 2 7 2 14)<|.ls [ke 0,ke 2,ke 3,ch 4 (di (0:Nat))] (ZI l a3 S Pl ag [])) (kw l a n1 a1/\kw l a n1 a1/\Q (di (n1:Int))/\(∀(x:V),x∈ qk->V.size x=1)/\0<=(fun x=>x.snd) (yt,yu yt (gt n1))/\(fun x=>x.snd) (yt,yu yt (gt n1))<=(↑(I qk):Int)/\kw l a1 n2 a2/\kw l a1 n2 a2/\Q (di (n2:Int))/\(∀(x:V),x∈ kv->V.size x=1)/\0<=(fun x=>x.snd) (yt,yu yt (gt n2))/\(fun x=>x.snd) (yt,yu yt (gt n2))<=(↑(I kv):Int)/\Aqx l a2 ag a3/\Aqx l a2 ag a3/\Q (di ag)/\Q [bh (il l a) [],bh (il l a1) [],bh (il l a2) [],bh (il l a3) []]/\True/\di 0=di (↑0:Int)/\[G (cn l a3),G r6,G [di 5,bt (ai (W 0 (take (Z ((fun x=>x.snd) (yt,yu yt (gt n1)))) Ath))),bt (ai (W 0 (take (Z ((fun x=>x.snd) (yt,yu yt (gt n2)))) tu))),dn,dn,di 0,di ag,br 2 nV,di 0,dn]]=[G (cn l a3),G zM,G (gq S Pl ag [])]/\Q [(2,14,nV)]/\I0 og (I (dz l a).H) (Ad m) (dz l a') Aug (cy 94 [jh,(2,bq 1 0),(3,bq 2 0),(4,di (↑0:Int))]) (ZI l a3 S Pl ag [])) ?_
 have w1:yu yt (1+(n1:Int))=1+n1:=Ak
 have w2:yu yt (1+(n2:Int))=1+n2:=Ak
 have z1:∀x∈ [ae [97],ae [98]],x.size=1:=by simp[V.size]
 have z2:∀x∈ [ae [120],ae [121]],x.size=1:=by simp[V.size]
 have k1:ai (W 0 (take (1+(n1:Int)).toNat [ae [97],ae [98]]))=cp S:=by
  rw[hS,Jt,show(1+(n1:Int)).toNat=1+n1 by omega]
  rcases(show n1=0∨n1=1 by omega) with rfl|rfl<;>rfl
 have k2:ai (W 0 (take (1+(n2:Int)).toNat [ae [120],ae [121]]))=cp Pl:=by
  rw[hPl,Jt,show(1+(n2:Int)).toNat=1+n2 by omega]
  rcases(show n2=0∨n2=1 by omega) with rfl|rfl<;>rfl
 rw[w1,w2]
 refine⟨p4,p4,rfl,z1,by show 0<=1+(n1:Int);omega,by show 1+(n1:Int)<=2;omega,q4,q4,rfl,z2,by show 0<=1+(n2:Int);omega,by show 1+(n2:Int)<=2;omega,u4,u4,rfl,rfl,trivial,rfl,?_,rfl,⟨m3⟩⟩
 grind
def vz(P:x7)(t:x6):Bool:=match P.underlying t with
 |some (.int .i64)=>true
 |_=>false
theorem P9{P:x7}{t:x6}(h:vz P t=J):P.underlying t=G (.int .i64):=by
 grind[vz]
def LX(P:x7)(t:x6):Bool:=match (P.fieldsOf t).toList with
 |[f,g,h]=>f.name !="_"&&g.name !="_"&&h.name !="_"&&f.offset==0&&g.offset==1&&h.offset==2&&P.plainKey f.type&&P.plainKey g.type&&P.plainKey h.type&&vz P f.type&&vz P g.type&&vz P h.type
 |_=>false
theorem Ai7{P:x7}{t:x6}(h2:LX P t=J)(ht:P.underlying t=G (.struct (P.fieldsOf t)))(hp:P.stoodInHeld t=O)(d:Nat)(a b c:Int)(w:x5):
  (Op.equalIn (d+2) t (.agg #[.int .i64 a,.int .i64 b,.int .i64 c]) (.agg #[.int .i64 a,.int .i64 b,.int .i64 c])).run P w=.ok true w:=by
 rw[run_equalIn_struct w (d+1) t _ _ ht hp]
 unfold LX at h2
 split at h2
 ·rename_i f g h hfs
  rw[hfs]
  simp only[HJ,bne_iff_ne,Iv] at h2
  obtain⟨⟨⟨⟨⟨⟨⟨⟨⟨⟨⟨n1,n2⟩,n3⟩,o1⟩,o2⟩,o3⟩,p1⟩,p2⟩,p3⟩,u1⟩,u2⟩,u3⟩:=h2
  have e1:∀w,(part f.type #[.int .i64 a,.int .i64 b,.int .i64 c] f.offset).run P w=.ok (.int .i64 a) w:=fun w=>run_part_plain w p1 (by grind)
  have e3:∀w,(part g.type #[.int .i64 a,.int .i64 b,.int .i64 c] g.offset).run P w=.ok (.int .i64 b) w:=fun w=>run_part_plain w p2 (by grind)
  have e5:∀w,(part h.type #[.int .i64 a,.int .i64 b,.int .i64 c] h.offset).run P w=.ok (.int .i64 c) w:=fun w=>run_part_plain w p3 (by grind)
  simp only[Op.eqFields,ne_eq,n1,n2,n3,not_false_eq_true,IT,Sem.run_bind,e1,Result.andThen_ok,run_equalIn_int _ d _ .i64 .i64 _ _ (P9 u1)]
  have u2':=fun w=>run_equalIn_int (P:=P) w d g.type .i64 .i64 b b (P9 u2)
  have u3':=fun w=>run_equalIn_int (P:=P) w d h.type .i64 .i64 c c (P9 u3)
  simp_all
 grind
abbrev nk:x6:=81
theorem Aea:LX PP nk=J:=by rfl
theorem AnZ:PP.underlying nk=G (.struct (PP.fieldsOf nk)):=by rfl
theorem Aiw:PP.stoodInHeld nk=O:=by rfl
theorem Aeb:PP.eqGuardType PP.depth nk=O:=by kernel_rfl
theorem AkR:Y6 PP nk 3:=by rfl
theorem Afb{o:yy}{σ:St}{ty:x6}{x y:x8}(ho:o.op=.binOp .neq nk x y ty)(a:Tk):Ah PP o [.v (dj a),.v (dj a)] σ (db O) σ:=by
 refine A5 fun E g ρ w hw hds=>?_
 simp only[ho,Op.operands,Au] at hds
 obtain⟨u,v,e,h1,h2'⟩:=hds
 simp only[Ik,IF,HV,Ix] at e
 obtain⟨e1,e2⟩:=e
 simp only[Ag,CY] at h1 h2'
 obtain⟨ws,h1,rfl⟩:=h1
 obtain⟨vs,h3,rfl⟩:=h2'
 have hw1:ws=[.int .i64 a.1,.int .i64 a.2,.int .i64 a.3]:=by
  grind[repA,repC]
 have hw2:vs=[.int .i64 a.1,.int .i64 a.2,.int .i64 a.3]:=by
  grind[repA,repC]
 subst hw1 hw2
 refine⟨.bool false,?_,by simp[Ag]⟩
 have hr:=Ai7 Aea AnZ Aiw 9998 a.1 a.2 a.3 w
 simp[execOp,ho,e1,e2,run_eqGuard_agg w .neq nk x y _ _ Aeb,run_neq_struct,hr]
theorem Ajv(a:Tk):F0 260 [.v (AD [a]),.v (AD [a])] (db J):=by
 exact sv ApB 26 [] (.n<|.x (dj a)<|.x (dj a)<|.h (.p (.v (dj a)))<|.h (.p (db O))<|.n<|.r) (iz 0<=0/\Q (G (dj a))/\iz 0<=0/\Q (G (dj a))/\(∀(τ:St),Ah PP (Oper.mk (G 23) (Op.load 81 (Operand.tmp 22)) 81 "slices.go:25" #[Edge.mk 6 Ground.data] none) [bt (bz (dj a))] τ (bt (dj a)) τ)/\(∀(τ:St),Ah PP (Oper.mk (G 24) (Op.binOp BinOp.neq 81 (Operand.tmp 19) (Operand.tmp 23) 81) 4 "slices.go:25" #[Edge.mk 3 Ground.data,Edge.mk 7 Ground.data] none) [bt (dj a),bt (dj a)] τ (db O) τ)/\Q (db J)) ⟨by decide,rfl,by decide,rfl,fun τ=>QR rfl AkR,fun τ=>Afb rfl a,rfl⟩
theorem Agi(l:List Tk)(h:I l<=1):F0 260 [.v (AD l),.v (AD l)] (db J):=by
 match l,h with
 |[],_=>exact AbX []
 |[a],_=>exact Ajv a
noncomputable abbrev Ap6:=Tryz.f254
theorem Aex(l:List Int)(h:I l<=1):F0 254 [cx l] (db J):=by
 match l,h with
 |[],_=>
  refine sv Ap6 21 [] (.n<|.r) (Q (db J)) ?_
  rfl
 |[a],_=>
  refine sv Ap6 21 [] (.n<|.r) (Q (db J)) ?_
  rfl
noncomputable abbrev Aqp:=Tryz.f255
theorem Ahb(n:Nat)(hn:n<=1000000)(x:Int):F0 255 [di x,.v (.ref (vi n))] (db (A4 x 0 (n-1))):=by
 refine sv Aqp 7 [] (.c (db (A4 x 0 (n-1))) .r) (F0 198 [di x,di (n:Int)] (db (A4 x 0 ((n:Int)-1)))/\Q (db (A4 x 0 ((n:Int)-1)))) ?_
 grind[Eb]
noncomputable abbrev Aqo:=Tryz.f257
theorem Anz(m:cz)(hm:I m.ay<=1000000)(hag:0<=m.age/\m.age<=1000)(t:Tk)(h1:0<=t.place/\t.place<I m.ay)(h2:0<=t.low/\t.low<=t.high/\t.high<=m.age+1):F0 257 [.v (dj t),.v (.ref (vi (I m.ay))),.v (.ref (A1 m))] (db O):=by
 refine sv Aqo 30 [3] (.c (db J)<|.k<|.f<|.f<|.r) (F0 198 [di t.place,di (I m.ay:Int)] (db J)/\Y (t.low<0)=O/\Y (t.low>t.high)=O/\db (Y (t.high>yu yt (m.age+1)))=db O) ?_
 grind[Eb,A4,Ak]
noncomputable abbrev Amu:=Tryz.f283
noncomputable abbrev Am7:=Tryz.f256
theorem X1(F:yx)(cs:List V)(l:List Tk)(h:I l<=1)(hp:∀x∈l,F0 F ((([]:List V)++[dj x]++cs).map .v) (db O)):F0 256 [.v (AD l),.v (.fn F [] cs)] (db O):=by
 have hi:F0 283 [.v (AD l),.v (.fn F [] cs)] (di (-1)):=by
  match l,h with
  |[],_=>
   refine sv Amu 19 [] (.n<|.r) (Q (di (-1))) ?_
   rfl
  |[a],_=>
   exact sv Amu 19 [] (.n<|.x (dj a)<|.c (db O)<|.n<|.r) (iz 0<=0/\Q (G (dj a))/\F0 F (bt (dj a)::U bt ([]++cs)) (db O)/\Q (di (-1))) ⟨by decide,rfl,by simpa using hp a (by simp),rfl⟩
 refine sv Am7 9 [] (.c (di (-1)) .r) (F0 283 [bt (AD l),bt (bw F [] cs)] (di (-1))/\db (Y (-1>=0))=db O) ?_
 grind
noncomputable abbrev Aqn:=Tryz.f203
theorem Anx(m:cz)(hm:I m.ay<=1000000)(hag:0<=m.age/\m.age<=1000)(r:cf)(h1:I r.ar<=1)(h2:I r.aq<=1)(h3:∀t∈r.ar,(0<=t.place/\t.place<I m.ay)/\(0<=t.low/\t.low<=t.high/\t.high<=m.age+1))(h4:∀x∈r.aq,0<=x/\x<I m.ay):F0 203 [Ad m,BO r] (db J):=by
 refine sv Aqn 37 [2,3] (.h (.q 2 0)<|.h (.f1 0 [5])<|.t<|.t<|.c (db J)<|.k<|.c (db J)<|.k<|.c (db O)<|.r) (Y ((I (U dj r.ar):Int)<=3)=J/\Y ((I (cc r.aq):Int)<=3)=J/\_/\F0 204 [cx r.aq,bt (bw 255 [] [bz (vi (I (df m.ay):Int))])] (db J)/\F0 256 [bt (AD r.ar),bt (bw 257 [] [bz (vi (I (df m.ay):Int)),bz (A1 m)])] (db O)/\Q (db J)) ⟨HK (by grind),HK (by grind),Aex _ h2,?_,?_,rfl⟩
 ·have h:=JQ 255 [] [.ref (vi (I m.ay))] (fun x=>A4 x 0 ((I m.ay:Int)-1)) r.aq (by omega) (fun x _=>Ahb (I m.ay) hm x)
  grind[A4]
 ·rw[HH]
  exact X1 _ _ r.ar h1 fun x hx=>Anz m hm hag x (h3 x hx).1 (h3 x hx).2
theorem Ae8(nm:List UInt8)(f t:Int)(tk:List Tk)(mk:List Int)(h1:I tk<=1)(h2:I mk<=1):F0 206 [BO (ey nm f t tk mk),BO (ey nm f t tk mk)] (db J):=by
 refine sv Ama 101 [2,3] (.t<|.t<|.t<|.c (db J)<|.k<|.c (db J)<|.k<|.c (db J)<|.k<|.k<|.k<|.k<|.c (db J)<|.k<|.c (db J)<|.k<|.c (db J)<|.k<|.c (db J)<|.k<|.r) (((ey nm f t tk mk).name==(ey nm f t tk mk).name)=J/\((ey nm f t tk mk).aj==(ey nm f t tk mk).aj)=J/\((ey nm f t tk mk).to==(ey nm f t tk mk).to)=J/\F0 259 [bt (cw (ey nm f t tk mk).am),bt (cw (ey nm f t tk mk).am)] (db J)/\F0 259 [bt (cw (ey nm f t tk mk).ak),bt (cw (ey nm f t tk mk).ak)] (db J)/\F0 259 [bt (cw (ey nm f t tk mk).move),bt (cw (ey nm f t tk mk).move)] (db J)/\F0 259 [bt (cw (ey nm f t tk mk).path),bt (cw (ey nm f t tk mk).path)] (db J)/\F0 259 [bt (cw (ey nm f t tk mk).next),bt (cw (ey nm f t tk mk).next)] (db J)/\F0 260 [bt (AD (ey nm f t tk mk).ar),bt (AD (ey nm f t tk mk).ar)] (db J)/\F0 259 [bt (cw (ey nm f t tk mk).aq),bt (cw (ey nm f t tk mk).aq)] (db J)/\db ((ey nm f t tk mk).second==(ey nm f t tk mk).second)=db J) ?_
 grind[Er,Agi,ey]
theorem Aam(m:cz)(hm:I m.ay<=1000000)(hst:I m.aw<=1000000)(hk:m.kind=5)(hag:0<=m.age/\m.age<=1000)(nm:List UInt8)(f t:Int)(tk:List Tk)(mk:List Int)(hf:0<=f/\f<I m.aw)(ht:0<=t/\t<I m.aw)(h1:I tk<=1)(h2:I mk<=1)(h3:∀t∈tk,(0<=t.place/\t.place<I m.ay)/\(0<=t.low/\t.low<=t.high/\t.high<=m.age+1))(h4:∀x∈mk,0<=x/\x<I m.ay):F0 147 [Ad m,BO (ey nm f t tk mk)] (db J):=by
 have hx:∀x:Int,0<=x->x<I m.aw->F0 198 [di x,di (I (m.aw.map ae):Int)] (db J):=fun x h0 h1=>by
  grind[Eb,A4]
 exact sv AbI 142 [2,3] (.c (db J)<|.k<|.c (db J)<|.k<|.k<|.f<|.f<|.f<|.f<|.t<|.c (db J)<|.k<|.c (db J) .r) (_/\_/\(m.kind==1)=O/\(m.kind==2)=O/\(m.kind==3)=O/\(m.kind==4)=O/\(m.kind==5)=J/\_/\_/\Q (db J)) ⟨hx t ht.1 ht.2,hx f hf.1 hf.2,by grind,by grind,by grind,by grind,by grind,Anx m hm hag (ey nm f t tk mk) h1 h2 h3 h4,Ae8 nm f t tk mk h1 h2,rfl⟩
def Av(m:cz):cr:=.prod [.lab (I m.aw),.bag (.prod [.lab (I m.ay),.lab (m.age+2)])]
theorem LS(m:cz)(hk:m.kind=5)(hag:0<=m.age/\m.age<=1000):F0 86 [Ad m] (dT (Av m)):=by
 exact sv GI 70 [1] (.c (dT (.lab (I m.aw)))<|.a 1<|.f<|.t<|.c (dT (.lab (I m.ay)))<|.c (dT (.lab (m.age+2)))<|.c (dT (.bag (.prod [.lab (I m.ay),.lab (m.age+2)])))<|.r) (wc m.aw/\(m.kind==4)=O/\(m.kind==5)=J/\wc m.ay/\F0 152 [di (yu yt (m.age+2))] (dT (cr.lab (m.age+2)))/\_/\Q (vT (cr.lab (I m.aw:Int))::nV)/\Ao 2 64/\bt (ab [vi 3,vi 0,ai [],ai [vT (cr.lab (I m.aw:Int)),vT (cr.bag (cr.prod [cr.lab (I m.ay:Int),cr.lab (m.age+2)]))]])=dT (Av m)) ⟨by grind[EW],by grind,by grind,by grind[EW],by grind[Ak,EW],Abi (.prod [.lab (I m.ay),.lab (m.age+2)]),rfl,⟨by decide,by decide⟩,rfl⟩
theorem Aon(m:cz)(hst:1<=I m.aw/\m.aw.length<=16)(hpl:1<=I m.ay/\m.ay.length<=16)(hag:0<=m.age/\m.age<=3):CO 8 (Av m)=J:=by
 simp only[Av,CO,HN,HR,List.all_cons,List.all_nil,Bool.and_true,HJ,IA,Iy,Jk,HS]
 omega
theorem AkO(np age:Int)(t:b9)(h:ox np age t):Ax (.prod [.lab np,.lab (age+2)]) t=J:=by
 obtain⟨p,g,h1,h2,rfl⟩:=h
 grind[Ax,b9.n,b9.az,BM,CA]
theorem U6(l:List b9)(h:∀i x y,l[i]?=G x->l[i+1]?=G y->As x y<0):∀k,k<I l->YA l k=J
 |0,_=>rfl
 |k+1,hk=>by
  have h1:l[k]?=G l[k]:=HI (by omega)
  have h2:l[k+1]?=G l[k+1]:=HI hk
  have h3:=h k _ _ h1 h2
  have h4:=(B6.swap _ _ trivial trivial).1 h3
  rw[YA,HQ,HQ,h1,h2,HZ (by grind)]
  exact U6 l h k (by omega)
theorem AcK(m:cz)(s:Int)(hs:0<=s/\s<I m.aw)(ts:List b9)(h:pj (I m.ay) m.age 2 ts):Ai (Av m) (.mk 0 [.mk s [],.mk 0 ts])=J:=by
 have hsz:=Zw ts h.tok
 have hl:=h.len
 have hsr:WH ts=J:=by
  unfold WH
  cases ts with
  |nil=>rfl
  |cons t ts=>exact U6 _ h.asc _ (by simp)
 rw[Ai,HK (by grind[b9.size,b9.sizes]),Is,Av]
 simp only[Ax,b9.n,b9.az,BM,CA,HJ,Iv,I5]
 refine⟨?_,?_,⟨?_,?_,?_⟩,⟨⟨?_,?_,?_⟩,?_⟩,?_⟩
 all_goals first|exact HK hs.1|exact HK hs.2|exact hsr|(intro t ht;obtain⟨p,g,h1,h2,rfl⟩:=h.tok t ht;have:=AkO _ _ _ ⟨p,g,h1,h2,rfl⟩;simp only[Ax,HJ] at this;exact⟨rfl,rfl,this.2.2⟩)|rfl|trivial|grind
def g9(r:cf)(k:Nat):Int:=if r.move=[] then k else r.move.getD k 0
def j2(r:cf)(k:Nat)(x:Int)(ws:List Int):List Int:=if g9 r k>=0 then ws.set (g9 r k).toNat (ws.getD (g9 r k).toNat 0+x) else ws
def gj(r:cf):Nat->List Int->List Int->List Int->List Int
 |k,y::ys,n::ns,ws=>gj r (k+1) ys ns (j2 r k (y-n) ws)
 |_,_,_,ws=>ws
def m6(r:cf)(ys:List Int):List Int:=gj r 0 ys r.am (replicate (I ys) 0)
theorem Tg(r:cf)(k:Nat)(ns ws:List Int):gj r k [] ns ws=ws:=by rfl
theorem Abg(r:cf)(k:Nat)(x:Int)(ws:List Int):I (j2 r k x ws)=I ws:=by
 grind[j2]
theorem Th(r:cf):∀(ys ns:List Int) (k:Nat) (ws:List Int),I (gj r k ys ns ws)=I ws
 |[],_,_,_=>by rfl
 |_::_,[],_,_=>by rfl
 |y::ys,n::ns,k,ws=>by rw[gj,Th r ys ns,Abg]
def pm(r:cf)(N:Nat):Prop:=r.move=[]∨r.move.length=N/\∀t∈r.move, -1<=t/\t<N
theorem Ah2{r:cf}{N k:Nat}(h:pm r N)(hk:k<N): -1<=g9 r k/\g9 r k<N:=by
 unfold g9
 rcases h with h|⟨h1,h2⟩
 all_goals grind[List.getElem_mem]
noncomputable abbrev Auv:=[kl F8 [1,1,1,1,1,1,0,1,0,0],bf 0,kc F8 [1,1,1,1,1,1,1]]
theorem AgT(r:cf)(c:b9)(s:Int)(ys:List Int)(hc:km c s ys)(hl:I r.am=I ys)(hg:I r.ak=I ys)(hy:I ys<=6)(by1:∀y∈ys,0<=y/\y<=1048576)(bn:∀y∈r.am,0<=y/\y<=16)(bg:∀y∈r.ak,0<=y/\y<=16)(N:Nat)(hN:N=I ys)(hm:pm r N)(n:Nat):∀(k:Nat) (ws:List Int),N-k=n->k<=N->I ws=N->(∀w∈ws, -(1048576*(k:Int))<=w/\w<=1048576*(k:Int))->
  Rn PP MT 0 (nv [lf r.to] (gj r k (ys.drop k) (r.am.drop k) ws) r.ak) ba ([kl F8 [1,1,1,1,1,1,0,1,0,0],.blk 0,kc F8 [1,1,1,1,1,1,1]]++[]) (cy 116 [(5,.v (.ref (Ac c))),(6,.ptr 0 0),(10,.ptr 1 0),(11,.arr 2 0 N),(12,di k)]) (gz r ws):=by
 induction n with
 |zero=>
  intro k ws hn hkN hx hb
  refine lv 116 [3,5] (.f<|.a 1<|.h .g<|.lo [ke 6,ke 10,ke 11,ke 14,ch 15 (di (0:Nat))] (j3 r ws [lf r.to])) (Y ((k:Int)<(N:Int))=O/\di 0=di (↑0:Int)/\cm 4 [1] [G [di 0,dn],G (cR r),G (cb ws),G [di 0,br 1 [ab [vi r.to,ai []]]]]=J/\[G [di 0,dn],G (cR r),G (cb ws),G [di 0,br 1 (ab (ia r.to)::nV)]]=[G [di 0,dn],G (cR r),G (cb ws),G [di 0,br 1 (eV (lf r.to)::nV)]]/\[(1,2,ab (ia r.to)::nV)]=[(1,2,eV (lf r.to)::nV)]/\I0 MT 0 (nv [lf r.to] (gj r k (W k ys) (W k r.am) ws) r.ak) ba [kl F8 [1,1,1,1,1,1,1,1,0,1,0,0],bf 2,kc F8 [1,1,1,1,1,1,1,1,1]] (cy 116 [jk,(10,bq 1 0),(11,bo 2 0 N),(14,bq 3 0),(15,di (↑0:Int))]) (j3 r ws [lf r.to])) ?_
  rw[Ic (show I ys<=k by omega),Tg]
  refine⟨yq,rfl,by simp[cm,D.okNs,D.okN,BB],rfl,rfl,⟨?_⟩⟩
  have:=AjM r ws (by omega) (by omega) (fun w hw=>by have:=hb w hw;omega) (fun w hw=>by have:=bg w hw;omega) _ 0 [lf r.to] rfl (by simp)
  rw[hx] at this
  exact this
 |succ n ih=>
  intro k ws hn hkN hx hb
  have hk:k<N:=by omega
  have okS:∀l:List Int,cm 3 [] [G [di 0,.v .nils],G (cR r),G (cb l)]=J:=fun l=>by simp[cm,D.okNs,D.okN,BB]
  obtain⟨y,hy1⟩:=@yk _ ys k (by omega)
  obtain⟨x,hn1⟩:∃x,r.am[k]?=G x:=⟨_,HI (by omega)⟩
  have e3:ys.drop k=y::ys.drop (k+1):=by rw[HX (by omega)];congr 1;rw[HI (by omega)] at hy1;simpa using hy1
  have e4:r.am.drop k=x::r.am.drop (k+1):=by rw[HX (by omega)];congr 1;rw[HI (by omega)] at hn1;simpa using hn1
  have hcy:=hc.at' k _ hy1
  have b1:=by1 _ (HO hy1)
  have b2:=bn _ (HO hn1)
  have ht:=Ah2 hm hk
  obtain⟨t,hte⟩:∃t,t=g9 r k:=⟨_,rfl⟩
  have e1:yt.wrap (1+(k:Int))=((k+1:Nat):Int):=by rw[Ak];omega
  rw[e3,e4,gj,j2, ←hte]
  by_cases h0:t>=0
  ·rw[Ie h0]
   obtain⟨w,hw⟩:∃w,ws[t.toNat]?=G w:=⟨_,HI (by omega)⟩
   rw[show ws.getD t.toNat 0=w by rw[HQ,hw];rfl]
   by_cases hmv:r.move=[]
   ·refine lv 116 [3,5] (.t<|.f<|.t<|.m (di w)<|.h (.xs (Ac (lf y)))<|.x (vi x)<|.w<|.lo [ke 5,ke 6,ke 10,ke 11,ch 12 (di (k+1:Nat))] (gz r (ws.set t.toNat (w+(y-x))))) (Y ((k:Int)<(N:Int))=J/\Y ((I (cc r.move):Int)>0)=O/\Y ((k:Int)>=0)=J/\0<=(k:Int)/\(k:Int)<(N:Int)/\(cb ws)[0+Z (k:Int)*1]?=G (di w)/\Q 2/\0<=yu yt (1+(k:Int))/\(ce c.az)[Z (yu yt (1+(k:Int)))]?=G (Ac (lf y))/\0<=(k:Int)/\(cc r.am)[Z (k:Int)]?=G (vi x)/\0<=(k:Int)/\(k:Int)<(N:Int)/\0+Z (k:Int)*1<I (cb ws)/\yo/\di (yu yt ((k:Int)+1))=di (↑(k+1):Int)/\cm 3 [] [G [di 0,dn],G (cR r),G (List.set (cb ws) (0+Z (k:Int)*1) (di (yu yt (w+yu yt (b9.n (lf y)-x)))))]=J/\[G [di 0,dn],G (cR r),G (List.set (cb ws) (0+Z (k:Int)*1) (di (yu yt (w+yu yt (b9.n (lf y)-x)))))]=[G [di 0,dn],G (cR r),G (cb (List.set ws (Z t) (w+(y-x))))]/\I0 MT 0 (nv [lf r.to] (gj r (k+1) (W (k+1) ys) (W (k+1) r.am) (List.set ws (Z t) (w+(y-x)))) r.ak) ba Auv (cy 116 [(5,bt (jy c)),jk,(10,bq 1 0),(11,bo 2 0 N),(12,di (↑(k+1):Int))]) (gz r (List.set ws (Z t) (w+(y-x))))) ?_
    have htk:t=(k:Int):=by rw[hte,g9,Ie hmv]
    have hwb:=hb w (HO hw)
    have ew:yt.wrap (w+yt.wrap (b9.n (lf y)-x))=w+(y-x):=by
     rw[show b9.n (lf y)=y from rfl,Ak (n:=y-x),Ak]
    have es:List.set (cb ws) (0+Z (k:Int)*1) (di (w+(y-x)))=cb (ws.set t.toNat (w+(y-x))):=by
     rw[htk,IR];simp[cb,map_set]
    have hi:=ih (k+1) (ws.set t.toNat (w+(y-x))) (by omega) (by omega) (by rw[length_set];exact hx) (fun v hv=>by
     rcases IN hv with hv|hv
     ·have:=hb v hv;omega
     ·rw[hv];omega)
    rw[ew,es,e1]
    refine⟨yr,vk _ hmv,yr,by omega,by omega,?_,rfl,by omega,Ap hcy,by omega,Am hn1,by omega,by omega,by simp[cb];omega,ym,Ae,okS _,rfl,⟨hi⟩⟩
    rw[htk,IR] at hw
    simp[cb,hw]
   ·refine lv 116 [3,5] (.t<|.t<|.x (vi t)<|.t<|.m (di w)<|.h (.xs (Ac (lf y)))<|.x (vi x)<|.w<|.lo [ke 5,ke 6,ke 10,ke 11,ch 12 (di (k+1:Nat))] (gz r (ws.set t.toNat (w+(y-x))))) (Y ((k:Int)<(N:Int))=J/\Y ((I (cc r.move):Int)>0)=J/\0<=(k:Int)/\(cc r.move)[Z (k:Int)]?=G (vi t)/\Y (t>=0)=J/\0<=t/\t<(N:Int)/\(cb ws)[0+Z t*1]?=G (di w)/\Q 2/\0<=yu yt (1+(k:Int))/\(ce c.az)[Z (yu yt (1+(k:Int)))]?=G (Ac (lf y))/\0<=(k:Int)/\(cc r.am)[Z (k:Int)]?=G (vi x)/\0<=t/\t<(N:Int)/\0+Z t*1<I (cb ws)/\yo/\di (yu yt ((k:Int)+1))=di (↑(k+1):Int)/\cm 3 [] [G [di 0,dn],G (cR r),G (List.set (cb ws) (0+Z t*1) (di (yu yt (w+yu yt (b9.n (lf y)-x)))))]=J/\[G [di 0,dn],G (cR r),G (List.set (cb ws) (0+Z t*1) (di (yu yt (w+yu yt (b9.n (lf y)-x)))))]=[G [di 0,dn],G (cR r),G (cb (List.set ws (Z t) (w+(y-x))))]/\I0 MT 0 (nv [lf r.to] (gj r (k+1) (W (k+1) ys) (W (k+1) r.am) (List.set ws (Z t) (w+(y-x)))) r.ak) ba Auv (cy 116 [(5,bt (jy c)),jk,(10,bq 1 0),(11,bo 2 0 N),(12,di (↑(k+1):Int))]) (gz r (List.set ws (Z t) (w+(y-x))))) ?_
    have hml:I r.move=N/\∀t∈r.move, -1<=t/\t<N:=hm.resolve_left hmv
    have hti:r.move[k]?=G t:=by rw[hte,g9,HZ hmv,HQ,HI (show k<I r.move by omega)];rfl
    have hmp:Y ((I (r.move.map vi):Int)>0)=J:=HK (by rw[HH];omega)
    have hwb:=hb w (HO hw)
    have ew:yt.wrap (w+yt.wrap (b9.n (lf y)-x))=w+(y-x):=by
     rw[show b9.n (lf y)=y from rfl,Ak (n:=y-x),Ak]
    have es:List.set (cb ws) (0+Z t*1) (di (w+(y-x)))=cb (ws.set t.toNat (w+(y-x))):=by
      simp[cb,map_set]
    have hi:=ih (k+1) (ws.set t.toNat (w+(y-x))) (by omega) (by omega) (by rw[length_set];exact hx) (fun v hv=>by
     rcases IN hv with hv|hv
     ·have:=hb v hv;omega
     ·rw[hv];omega)
    rw[ew,es,e1]
    exact⟨yr,hmp,by omega,Am hti,yr,by omega,by omega,by simp[cb,hw],rfl,by omega,Ap hcy,by omega,Am hn1,by omega,by omega,by simp[cb];omega,ym,Ae,okS _,rfl,⟨hi⟩⟩
  ·rw[HZ h0]
   have hmv:r.move≠ []:=fun e=>by rw[hte,g9,Ie e] at h0;omega
   have hml:I r.move=N/\∀t∈r.move, -1<=t/\t<N:=hm.resolve_left hmv
   have hti:r.move[k]?=G t:=by rw[hte,g9,HZ hmv,HQ,HI (show k<I r.move by omega)];rfl
   have hmp:Y ((I (r.move.map vi):Int)>0)=J:=HK (by rw[HH];omega)
   exact lv 116 [3,5] (.t<|.t<|.x (vi t)<|.f<|.lo [ke 5,ke 6,ke 10,ke 11,ch 12 (di (k+1:Nat))] (gz r ws)) (Y ((k:Int)<(N:Int))=J/\_/\0<=(k:Int)/\(cc r.move)[Z (k:Int)]?=G (vi t)/\Y (t>=0)=O/\di (yu yt ((k:Int)+1))=di (↑(k+1):Int)/\cm 3 [] [G [di 0,dn],G (cR r),G (cb ws)]=J/\Q (gz r ws).H/\_) ⟨yr,hmp,by omega,Am hti,yq,Ae,okS _,rfl,iK (ih (k+1) ws (by omega) (by omega) hx (fun w hw=>by have:=hb w hw;omega))⟩
def iu(r:cf)(s:Int)(ys:List Int):b9×Int:=if gf r s ys=J then SW [lf r.to] (m6 r ys) r.ak else(.mk 0 [],18)
theorem Y1(m:cz)(hm:m.ok)(hk:m.kind=1)(i:Nat)(r:cf)(hi:m.av[i]?=G r)(c:b9)(hcs:c.size<=1000000)(hv:Ai (AH m) c=J)(s:Int)(ys:List Int)(hc:km c s ys)(hl:I r.am=I ys)(hg:I r.ak=I ys)(hy:I ys<=6)(hmv:pm r (I ys))(by1:∀y∈ys,0<=y/\y<=1048576)(bn:∀y∈r.am,0<=y/\y<=16)(bg:∀y∈r.ak,0<=y/\y<=16):
  F0 63 [Ad m,di i,dV c] (dP (iu r s ys)):=by
 have he:=XD m hm hk i r hi c hcs hv s ys hc hl (by omega)
 cases hb:gf r s ys with
 |false=>
  rw[hb] at he
  exact sv MT 116 [3,5] (.c (.tup [db O,di 0]) .r) (_/\bk [bt mg,di 18]=dP (iu r s ys)) ⟨he,by rw[iu,hb];rfl⟩
 |true=>
  rw[hb] at he
  obtain⟨N,hN⟩:∃N,N=I ys:=⟨_,rfl⟩
  obtain⟨ws,hws⟩:∃ws:List Int,ws=replicate N 0:=⟨_,rfl⟩
  refine sv MT 116 [3,5] (.c (.tup [db J,di 0])<|.x (Al r)<|.lo [ke 5,ke 6,ke 10,ch 11 (.arr 2 0 N),ch 12 (di (0:Nat))] (gz r ws)) (F0 120 [Ad m,di (i:Int),dV c] (bk [db J,di 0])/\0<=(i:Int)/\(U Al m.av)[Z (i:Int)]?=G (Al r)/\Q (I (cc r.am):Int)/\0<=(I (cc r.am):Int)/\(8:Int)*(I (cc r.am):Int)<=281474976710656/\(I (cc r.am):Int)<=9223372036854775807/\bo 2 0 (Z (I (cc r.am):Int))=bo 2 0 N/\di 0=di (↑0:Int)/\cm 3 [] [G [di 0,dn],G [bt (ae r.name),di r.aj,di r.to,cx r.am,cx r.ak,cx r.move,di r.chan,di r.act,di r.letter,cx r.path,cx r.next,bt (AD r.ar),cx r.aq,di r.second],G (replicate (Z (I (cc r.am):Int)) (di 0))]=J/\[G [di 0,dn],G [bt (ae r.name),di r.aj,di r.to,cx r.am,cx r.ak,cx r.move,di r.chan,di r.act,di r.letter,cx r.path,cx r.next,bt (AD r.ar),cx r.aq,di r.second],G (replicate (Z (I (cc r.am):Int)) (di 0))]=[G [di 0,dn],G (cR r),G (cb ws)]/\I0 MT (I ba.H) (dP (iu r s ys)) ba Auv (cy 116 [(5,bt (jy c)),jk,(10,bq 1 0),(11,bo 2 0 N),(12,di (↑0:Int))]) (gz r ws)) ?_
  have hlen:Z (I (r.am.map vi):Int)=N:=by rw[HH,IR];omega
  have hrep:replicate N (di 0)=cb ws:=by rw[hws,cb,List.map_replicate]
  rw[hlen,hrep]
  refine⟨he,by omega,Am hi,rfl,by omega,by rw[HH];omega,by rw[HH];omega,rfl,rfl,by simp[cm,D.okNs,D.okN,BB],rfl,⟨?_⟩⟩
  have:=AgT r c s ys hc hl hg hy by1 bn bg N hN (hN▸hmv) _ 0 ws rfl (by omega) (by rw[hws,List.length_replicate]) (fun w hw=>by rw[hws] at hw;rw[(List.mem_replicate.1 hw).2];omega)
  grind[iu,m6]
structure gu(m:cz):Prop where
 ok:m.ok
 kind:m.kind=1
 start:AN m m.start
structure Apt(m:cz)(r:cf):Prop where
 aj:0<=r.aj/\r.aj<I m.aw
 to:0<=r.to/\r.to<I m.aw
 needL:I r.am=I m.ay
 giveL:I r.ak=I m.ay
 am:∀x∈r.am,0<=x/\x<=16
 ak:∀x∈r.ak,0<=x/\x<=16
 move:pm r (I m.ay)
theorem gu.rule{m:cz}(h:gu m){r:cf}(hr:r∈m.av):Apt m r:=by
 have h1:=h.ok.right r hr
 rw[Fw,Ie h.kind] at h1
 simp only[E6,Ci,Eo,HJ,Bool.or_eq_true,I5,Iv] at h1
 obtain⟨h2,h3,⟨h4,h5,h6,h7⟩,h8,_⟩:=h1
 have h2:=Ct h2
 have h3:=Ct h3
 refine⟨⟨h3.1,by omega⟩,⟨h2.1,by omega⟩,by omega,by omega,fun x hx=>Ct (h6 x hx),fun x hx=>Ct (h7 x hx),?_⟩
 rcases h8 with h8|⟨h8,h9⟩
 ·exact .inl (List.length_eq_zero_iff.1 (by omega))
 ·exact .inr ⟨by omega,fun t ht=>by have:=Ct (h9 t ht);omega⟩
theorem gu.ay{m:cz}(h:gu m):1<=I m.ay/\m.ay.length<=6/\1<=I m.aw/\m.aw.length<=8/\m.av.length<=12:=by
 obtain⟨h1,h2,h3,h4,h5,_⟩:=h.ok.sz
 omega
theorem AN.sizeM{m:cz}(hm:gu m){c:b9}(h:AN m c):c.size<=8:=by
 rw[h.eq,Hi,h.len]
 have:=hm.ay;omega
theorem AN.validM{m:cz}(hm:gu m){c:b9}(h:AN m c):Ai (AH m) c=J:=by
 rw[h.eq]
 exact K0 m hm.kind (by have:=hm.ay;omega) _ h.st _ h.len h.nm
theorem AiW(r:cf)(k:Nat)(x:Int)(ws gs:List Int)(h:I ws=I gs):j2 r k x (zipWith (fun w g=>w+g) ws gs)=zipWith (fun w g=>w+g) (j2 r k x ws) gs:=by
 unfold j2
 split
 ·apply ext_getElem?
  grind
 ·rfl
theorem Abh(r:cf)(gs:List Int):∀(ys ns:List Int) (k:Nat) (ws:List Int),I ws=I gs->gj r k ys ns (zipWith (fun w g=>w+g) ws gs)=zipWith (fun w g=>w+g) (gj r k ys ns ws) gs
 |[],_,_,_,_=>by rfl
 |_::_,[],_,_,_=>by rfl
 |y::ys,n::ns,k,ws,h=>by
  rw[gj,gj,AiW r k _ ws gs h,Abh r gs ys ns (k+1) _ (by grind[Abg])]
theorem TI:∀gs:List Int,zipWith (fun w g=>w+g) (replicate (I gs) 0) gs=gs
 |[]=>rfl
 |g::gs=>by simp[IC,TI gs]
def k7(r:cf)(ys:List Int):List Int:=zipWith (fun w g=>w+g) (m6 r ys) r.ak
theorem AjO(r:cf)(ys:List Int)(h:I r.ak=I ys):gj r 0 ys r.am r.ak=k7 r ys:=by
 grind[k7,m6,Abh,TI]
theorem Yo(m:cz)(hm:gu m)(i:Nat)(hi:i<I m.av)(c:b9)(hc:AN m c):F0 216 [Ad m,di i,dV c] (di 0):=by
 have hsz:=hc.sizeM hm
 have h1:=EA m hm.ok c (by omega)
 rw[hc.validM hm] at h1
 exact sv AmK 32 [3,5] (.c (di 0)<|.k<|.f<|.f<|.f<|.c (db J) .r) (_/\(m.kind !=1)=O/\Y ((i:Int)<0)=O/\Y ((i:Int)>=(I (U Al m.av):Int))=O/\_/\Q (di 0)) ⟨Es m hm.ok,by rw[hm.kind];rfl,yq,by grind,h1,rfl⟩
theorem Abe(r:cf)(i N:Nat)(h:pm r N)(hi:i<N):F0 218 [BO r,di i] (di (g9 r i)):=by
 by_cases hr:r.move=[]
 ·refine sv AoB 15 [2] (.t .r) (((I (cc r.move):Int)==0)=J/\di (i:Int)=di (g9 r i)) ?_
  grind[g9]
 ·have hl:=(h.resolve_left hr).1
  have hti:r.move[i]?=G (g9 r i):=by rw[g9,HZ hr,HQ,HI (show i<I r.move by omega)];rfl
  generalize g9 r i=t at*
  refine sv AoB 15 [2] (.f<|.x (vi t) .r) (((I (cc r.move):Int)==0)=O/\0<=(i:Int)/\(cc r.move)[Z (i:Int)]?=G (vi t)/\Q (di t)) ?_
  grind
theorem Aj7(r:cf)(ys:List Int)(hl:I r.am=I ys)(hy:I ys<=6)(by1:∀y∈ys,0<=y/\y<=1048576)(bn:∀y∈r.am,0<=y/\y<=16)(N:Nat)(hN:N=I ys)(hm:pm r N)(n:Nat):∀(k:Nat) (ws:List Int),N-k=n->k<=N->I ws=N->(∀w∈ws, -(1048576*(k:Int))<=w/\w<=1048576*(k:Int)+16)->
  Rn PP Sl 0 (dP (Sj [lf r.to] (gj r k (ys.drop k) (r.am.drop k) ws))) ba ([kl Gy [1,1,1,1,1,0,1,0,0],.blk 0,kc Gy [1,1,1,1,1,1]]++[]) (cy 90 [(6,.ptr 0 0),(9,.ptr 1 0),(10,.arr 2 0 N),(40,cq (ys.map lf)),(41,di (I ys)),(42,di k)]) (gz r ws):=by
 induction n with
 |zero=>
  intro k ws hn hkN hx hb
  refine lv 90 [3,5] (.f<|.a 1<|.h .g<|.lo [ke 6,ke 14,ch 72 (.arr 2 0 N),ch 73 (di N),ch 74 (di (0:Nat))] (j3 r ws [lf r.to])) (Y ((k:Int)<(I ys:Int))=O/\Q (bo 2 0 N)/\Q (di (N:Int))/\di 0=di (↑0:Int)/\cm 4 [1] [G [di 0,dn],G (cR r),G (cb ws),G [di 0,br 1 [ab [vi r.to,ai []]]]]=J/\[G [di 0,dn],G (cR r),G (cb ws),G [di 0,br 1 (ab (ia r.to)::nV)]]=[G [di 0,dn],G (cR r),G (cb ws),G [di 0,br 1 (eV (lf r.to)::nV)]]/\[(1,2,ab (ia r.to)::nV)]=[(1,2,eV (lf r.to)::nV)]/\I0 Sl 0 (dP (Sj [lf r.to] (gj r k (W k ys) (W k r.am) ws))) ba Aul (cy 90 [jk,(14,bq 3 0),(72,bo 2 0 N),(73,di (N:Int)),(74,di (↑0:Int))]) (j3 r ws [lf r.to])) ?_
  rw[Ic (show I ys<=k by omega),Tg]
  refine⟨yq,rfl,rfl,rfl,by simp[cm,D.okNs,D.okN,BB],rfl,rfl,⟨?_⟩⟩
  have:=AhR r ws (by omega) _ 0 [lf r.to] rfl (by simp)
  rw[hx] at this
  exact this
 |succ n ih=>
  intro k ws hn hkN hx hb
  have hk:k<N:=by omega
  have okS:∀l:List Int,cm 3 [] [G [di 0,.v .nils],G (cR r),G (cb l)]=J:=fun l=>by simp[cm,D.okNs,D.okN,BB]
  obtain⟨y,hy1⟩:=@yk _ ys k (by omega)
  obtain⟨x,hn1⟩:∃x,r.am[k]?=G x:=⟨_,HI (by omega)⟩
  have e3:ys.drop k=y::ys.drop (k+1):=by rw[HX (by omega)];congr 1;rw[HI (by omega)] at hy1;simpa using hy1
  have e4:r.am.drop k=x::r.am.drop (k+1):=by rw[HX (by omega)];congr 1;rw[HI (by omega)] at hn1;simpa using hn1
  have b1:=by1 _ (HO hy1)
  have b2:=bn _ (HO hn1)
  have ht:=Ah2 hm hk
  have hmd:=Abe r k N hm hk
  have hyv:((ys.map lf).map eV)[Z (k:Int)]?=G (Ac (lf y)):=Ap (by rw[I1,hy1];rfl)
  rw[e3,e4,gj,j2]
  generalize g9 r k=t at*
  by_cases h0:t>=0
  ·rw[Ie h0]
   obtain⟨w,hw⟩:∃w,ws[t.toNat]?=G w:=⟨_,HI (by omega)⟩
   rw[show ws.getD t.toNat 0=w by rw[HQ,hw];rfl]
   refine lv 90 [3,5] (.t<|.h (.xs (Ac (lf y)))<|.c (di t)<|.t<|.m (di w)<|.x (vi x)<|.w<|.lo (Avz k) (gz r (ws.set t.toNat (w+(y-x))))) (Y ((k:Int)<(I ys:Int))=J/\Q 2/\0<=(k:Int)/\(U eV (U lf ys))[Z (k:Int)]?=G (Ac (lf y))/\F0 218 [BO r,di (k:Int)] (di t)/\Y (t>=0)=J/\0<=t/\t<(N:Int)/\(cb ws)[0+Z t*1]?=G (di w)/\0<=(k:Int)/\(cc r.am)[Z (k:Int)]?=G (vi x)/\0<=t/\t<(N:Int)/\0+Z t*1<I (cb ws)/\(yj (True))/\di (yu yt ((k:Int)+1))=di (↑(k+1):Int)/\cm 3 [] [G [di 0,dn],G (cR r),G (List.set (cb ws) (0+Z t*1) (di (yu yt (w+yu yt (b9.n (lf y)-x)))))]=J/\[G [di 0,dn],G (cR r),G (List.set (cb ws) (0+Z t*1) (di (yu yt (w+yu yt (b9.n (lf y)-x)))))]=[G [di 0,dn],G (cR r),G (cb (List.set ws (Z t) (w+(y-x))))]/\I0 Sl 0 (dP (Sj [lf r.to] (gj r (k+1) (W (k+1) ys) (W (k+1) r.am) (List.set ws (Z t) (w+(y-x)))))) ba Au9 (cy 90 [jk,(9,bq 1 0),(10,bo 2 0 N),(40,bt (dt (U lf ys))),(41,di (I ys:Int)),(42,di (↑(k+1):Int))]) (gz r (List.set ws (Z t) (w+(y-x))))) ?_
   have hwb:=hb w (HO hw)
   have ew:yt.wrap (w+yt.wrap (b9.n (lf y)-x))=w+(y-x):=by
    rw[show b9.n (lf y)=y from rfl,Ak (n:=y-x),Ak]
   have es:List.set (cb ws) (0+Z t*1) (di (w+(y-x)))=cb (ws.set t.toNat (w+(y-x))):=by simp[cb,map_set]
   have hi:=ih (k+1) (ws.set t.toNat (w+(y-x))) (by omega) (by omega) (by rw[length_set];exact hx) (fun v hv=>by
    rcases IN hv with hv|hv
    ·have:=hb v hv;omega
    ·rw[hv];omega)
   rw[ew,es]
   exact⟨yr,rfl,by omega,hyv,hmd,yr,by omega,by omega,by simp[cb,hw],by omega,Am hn1,by omega,by omega,by simp[cb];omega,⟨trivial,trivial,trivial,trivial⟩,Ae,okS _,rfl,⟨hi⟩⟩
  ·rw[HZ h0]
   exact lv 90 [3,5] (.t<|.h (.xs (Ac (lf y)))<|.c (di t)<|.f<|.lo (Avz k) (gz r ws)) (Y ((k:Int)<(I ys:Int))=J/\Q 2/\0<=(k:Int)/\_/\_/\Y (t>=0)=O/\di (yu yt ((k:Int)+1))=di (↑(k+1):Int)/\cm 3 [] [G [di 0,dn],G (cR r),G (cb ws)]=J/\Q (gz r ws).H/\_) ⟨yr,rfl,by omega,hyv,hmd,yq,Ae,okS _,rfl,iK (ih (k+1) ws (by omega) (by omega) hx (fun w hw=>by have:=hb w hw;omega))⟩
theorem AcG(m:cz)(hm:gu m)(i:Nat)(r:cf)(hi:m.av[i]?=G r)(c:b9)(hc:AN m c):F0 157 [Ad m,di i,dV c] (dP (iu r (ej c) (d7 c))):=by
 have hr:=hm.rule (HO hi)
 have hp:=hm.ay
 have hil:=(HL.1 hi).1
 have hck:=Yo m hm i hil c hc
 have hcc:=hc.isC
 have hyl:=hc.len
 have hnm:=hc.nm
 have he:=Wb r c _ _ hcc (by rw[hr.needL,hc.len]) (by omega)
 generalize ej c=s at*
 generalize d7 c=ys at*
 cases hb:gf r s ys with
 |false=>
  rw[hb] at he
  exact sv Sl 90 [3,5] (.c (di 0)<|.x (Al r)<|.c (db O) .r) (_/\0<=(i:Int)/\(U Al m.av)[Z (i:Int)]?=G (Al r)/\_/\bk [bt mg,di 18]=dP (iu r s ys)) ⟨hck,by omega,Am hi,he,by rw[iu,hb];rfl⟩
 |true=>
  rw[hb] at he
  obtain⟨N,hN⟩:∃N,N=I ys:=⟨_,rfl⟩
  have hN0:r.ak≠ []:=by intro h;have:=hr.giveL;grind
  have hgl:I r.ak=N:=by rw[hr.giveL];omega
  have hd:=JT hcc
  have hlen:I c.az=I ys+1:=hcc.len
  refine sv Sl 90 [3,5] (.c (di 0)<|.x (Al r)<|.c (db J)<|.h (.q 7 2)<|.h (.oc (.arr 2 0 N) (gz r r.ak))<|.lo [ke 6,ke 9,ke 10,ch 40 (cq (ys.map lf)),ch 41 (di (I ys)),ch 42 (di (0:Nat))] (gz r r.ak)) (_/\0<=(i:Int)/\(U Al m.av)[Z (i:Int)]?=G (Al r)/\_/\(N0 [bt (bw 66 [] []),cx r.ak] (bh [G [di 0,dn],G [bt (ae r.name),di r.aj,di r.to,cx r.am,cx r.ak,cx r.move,di r.chan,di r.act,di r.letter,cx r.path,cx r.next,bt (AD r.ar),cx r.aq,di r.second]] []) (bo 2 0 N) (gz r r.ak))/\(∀(x:V),x∈U eV c.az->V.size x=2)/\0<=(1:Int)/\(1:Int)<=(I (ce c.az):Int)/\bt (ai (W (Z ((1:Int))) (take (I (ce c.az)) (ce c.az))))=cq (U lf ys)/\di (I (W (Z ((1:Int))) (take (I (ce c.az)) (ce c.az))):Int)=di (I ys:Int)/\Q (di 0)/\cm 3 [] [G [di 0,dn],G (cR r),G (cb r.ak)]=J/\Q (gz r r.ak).H/\I0 Sl (I ba.H) (dP (iu r s ys)) ba Au9 (cy 90 [jk,(9,bq 1 0),(10,bo 2 0 N),(40,cq (U lf ys)),(41,di (I ys:Int)),(42,di (↑0:Int))]) (gz r r.ak)) ⟨hck,by omega,Am hi,he,fun o c' fo ho hc'=>?_,?_,by omega,?_,?_,?_,rfl,by simp[cm,D.okNs,D.okN,BB],rfl,⟨?_⟩⟩
  ·exact EP (σ:=⟨[G [di 0,.v .nils],G (cR r)],[]⟩) (fs:=[]) (cs:=[]) (ds:=[cx r.ak]) ho hc' rfl (Hc:=[none,G (cb r.ak)]) (j:=1) rfl (AaA _) (by grind[Ox])
  ·grind[AG,V.size]
  ·grind
  ·grind
  ·grind
  ·have h1:=Aj7 r ys (by rw[hr.needL];omega) (by omega) hnm hr.am N hN (by rw[hN,hyl];exact hr.move) _ 0 r.ak rfl (by omega) hgl (fun w hw=>by have:=hr.ak w hw;omega)
   rw[Jt,Jt,AjO r ys (by omega),k7,SU _ _ _ (by grind[m6,Th])] at h1
   rw[iu,Ie hb]
   exact h1
theorem AlE{r:cf}{k:Nat}{x:Int}(hx:0<=x){ws:List Int}(h:∀w∈ws,0<=w):∀w∈j2 r k x ws,0<=w:=by
 intro w hw
 unfold j2 at hw
 split at hw
 ·rcases IN hw with hw|hw
  ·grind
  ·cases hi:ws[(g9 r k).toNat]? with
   |none=>grind
   |some v=>have:=h v (HO hi);grind
 grind
theorem Ah4(r:cf):∀(ys ns:List Int) (k:Nat) (ws:List Int),Ea ns ys=J->(∀w∈ws,0<=w)->∀w∈gj r k ys ns ws,0<=w
 |[],ns,k,ws,_,h=>by grind[Tg]
 |y::ys,[],k,ws,_,h=>by grind[gj]
 |y::ys,n::ns,k,ws,hn,h=>by
  simp only[Ea,HJ,IA,Jk] at hn
  exact Ah4 r ys ns (k+1) _ hn.2 (AlE (by omega) h)
theorem Ahc{m:cz}{r:cf}(hr:Apt m r){ys:List Int}(hy:I ys=I m.ay):I (k7 r ys)=I m.ay:=by
 have h2:=hr.giveL
 grind[k7,m6,Th]
theorem Anq{m:cz}{r:cf}(hr:Apt m r){c:b9}(hc:AN m c):
  ((iu r (ej c) (d7 c)).2=0/\ej c=r.aj/\(iu r (ej c) (d7 c)).1=De r.to (k7 r (d7 c))/\AN m (De r.to (k7 r (d7 c))))∨(iu r (ej c) (d7 c)).2=1∨(iu r (ej c) (d7 c)).2=18:=by
 unfold iu
 split
 ·rename_i he
  simp only[gf,HJ,Iv] at he
  rcases SV (m6 r (d7 c)) r.ak [lf r.to] with⟨h1,h2,h3⟩|h1
  ·refine .inl ⟨h1,he.1,by rw[h2];rfl,RN m _ hr.to _ (Ahc hr hc.len) fun z hz=>⟨?_,h3 z hz⟩⟩
   obtain⟨i,hi⟩:=List.getElem?_of_mem hz
   rw[k7,List.getElem?_zipWith] at hi
   split at hi
   ·rename_i w g hw hg
    cases hi
    have b1:=Ah4 r (d7 c) r.am 0 (replicate (I (d7 c)) 0) he.2 (fun w hw=>by grind) w (HO hw)
    have b2:=(hr.ak g (HO hg)).1
    omega
   grind
  grind
 omega
def i6(m:cz)(c:b9)(i:Int):List b9×Int:=if i<0 then([],0) else match m.av[i.toNat]? with
 |some r=>Cu (iu r (ej c) (d7 c))
 |none=>([],0)
def GF(m:cz)(c:b9):List c9×Int:=CV (i6 m c) (I m.av+1) (-1) []
structure ud(m:cz)(c:b9)(s:c9):Prop where
 rule:∃(i:Nat) (r:cf),s.1=i/\m.av[i]?=G r/\ej c=r.aj/\s.2=De r.to (k7 r (d7 c))/\iu r (ej c) (d7 c)=(s.2,0)
 ok:AN m s.2
theorem OI{m:cz}(hm:gu m){c:b9}(hc:AN m c)(i:Int):((i6 m c i).2=0∨(i6 m c i).2=1)/\(i6 m c i).1.length<=1/\∀v∈ (i6 m c i).1,ud m c (i,v):=by
 unfold i6
 split
 ·grind
 ·split
  ·rename_i r hi
   have hr:=hm.rule (HO hi)
   rcases Anq hr hc with⟨h1,h2,h3,h4⟩|h1|h1
   ·have:Cu (iu r (ej c) (d7 c))=([De r.to (k7 r (d7 c))],0):=by
     grind[Cu]
    rw[this]
    refine⟨.inl rfl,by simp,fun v hv=>?_⟩
    rw[HY.1 hv]
    exact⟨⟨i.toNat,r,by omega,hi,h2,rfl,by grind⟩,h4⟩
   all_goals grind[Cu]
  grind
theorem Ma{m:cz}(hm:gu m){c:b9}(hc:AN m c):((GF m c).2=0∨(GF m c).2=1)/\(GF m c).1.length<=13/\∀s∈ (GF m c).1,ud m c s:=by
 have:=hm.ay
 obtain⟨h1,h2,h3⟩:=TD (ap:=i6 m c) (fun i=>(OI hm hc i).1) (fun i=>(OI hm hc i).2.1) (Q:=ud m c) (fun i=>(OI hm hc i).2.2) (I m.av+1) (-1) [] (by simp)
 grind[GF]
theorem Apr(m:cz)(hm:gu m)(c:b9)(hc:AN m c)(i:Int)(h1: -1<=i)(h2:i<I m.av):F0 34 [Ad m,di i,dV c] (dq (i6 m c i)):=by
 have hsz:=hc.sizeM hm
 by_cases h0:i<0
 ·have:i= -1:=by omega
  subst this
  exact Ans m hm.ok hm.kind c (by omega) (hc.validM hm)
 ·obtain⟨k,rfl⟩:∃k:Nat,i=k:=⟨i.toNat,by omega⟩
  have hk:k<I m.av:=by omega
  have hr:m.av[k]?=G m.av[k]:=HI hk
  have hro:=hm.rule (HO hr)
  rw[i6,HZ h0,show((k:Nat):Int).toNat=k by omega,hr]
  generalize m.av[k]=r at hr hro
  have hp:=hm.ay
  exact Ant m hm.ok hm.kind k hk c (by omega) (hc.validM hm) _ (Y1 m hm.ok hm.kind k r hr c (by omega) (hc.validM hm) _ _ hc.isC (by rw[hro.needL,hc.len]) (by rw[hro.giveL,hc.len]) (by rw[hc.len];omega) (by rw[hc.len];exact hro.move) hc.nm hro.am hro.ak)
theorem Anw{m:cz}(hm:gu m){c:b9}(hc:AN m c):F0 18 [Ad m,dV c] (fp (GF m c)):=by
 have hsz:=hc.sizeM hm
 exact Y2 m hm.ok c (by omega) (hc.validM hm) (i6 m c) (fun i=>by grind[OI]) (fun i h1 h2=>Apr m hm c hc i h1 h2)
theorem WE(m:cz)(hm:gu m):F0 141 [Ad m] (di 0):=by
 exact sv Ajl 12 [1] (.c (di 0)<|.k<|.f .r) (_/\(m.kind==6)=O/\Q (di 0)) ⟨Es m hm.ok,by rw[hm.kind];rfl,rfl⟩
theorem WK(m:cz)(hm:gu m)(c:b9)(hc:AN m c):F0 90 [Ad m,dV c] (di 0):=by
 refine sv AfZ 15 [2,3] (.c (di 0)<|.c (db J) .r) (s8 m/\s9 m c/\Q (di 0)) ?_
 have hsz:=hc.sizeM hm
 have h1:=EA m hm.ok c (by omega)
 rw[hc.validM hm] at h1
 grind[WE]
theorem ZM(m:cz)(hm:gu m)(c:b9):F0 155 [Ad m,dV c] (cq []):=by
 exact sv t8 31 [2,3] (.f<|.f<|.f .r) ((m.kind==2)=O/\(m.kind==3)=O/\(m.kind==5)=O/\Q (cq [])) ⟨by rw[hm.kind];rfl,by rw[hm.kind];rfl,by rw[hm.kind];rfl,rfl⟩
theorem Anl(m:cz)(hm:gu m)(c:b9):F0 91 [Ad m,di (-1),dV c] (dq ([],0)):=by
 refine sv pr 56 [3,5] (.c (cq []) .r) (F0 155 [Ad m,dV c] (cq [])/\bk [bt (dt []),di 0]=dq ([],0)) ?_
 grind[ZM]
theorem Ank(m:cz)(hm:gu m)(i:Nat)(c:b9)(p:b9×Int)(hp:F0 157 [Ad m,di i,dV c] (dP p)):F0 91 [Ad m,di i,dV c] (dq (Cu p)):=by
 exact sv pr 56 [3,5] (.f<|.t<|.c (dP p)<|.c (dq (Cu p)) .r) (((i:Int)== -1)=O/\(m.kind==1)=J/\_/\_/\bk [bt (dt (Cu p).fst),di (Cu p).snd]=dq (Cu p)) ⟨Iy.2 (by omega),by rw[hm.kind];rfl,hp,Mc p,rfl⟩
theorem RU(m:cz)(hm:gu m)(c:b9)(hc:AN m c)(i:Int)(h1: -1<=i)(h2:i<I m.av):F0 91 [Ad m,di i,dV c] (dq (i6 m c i)):=by
 grind[Anl,i6,Ank,AcG]
theorem WL(m:cz)(hm:gu m)(c:b9)(hc:AN m c):F0 50 [Ad m,dV c] (fp (GF m c)):=by
 have hp:=hm.ay
 refine sv GB 53 [2,3] (.c (di 0)<|.h (.q 5 0)<|.h (.nw 7 1 3)<|.ls sa (FE [])) (_/\Q (di (-1))/\Q [(1,3,nV)]/\I0 GB (I ba.H) (fp (GF m c)) ba [kl Dk iv,bf 0,kc Dk [1,1,1,1]] (cy 53 (tx m c)) (FE [])) ⟨WK m hm c hc,rfl,rfl,⟨?_⟩⟩
 exact Mg m (by omega) c (i6 m c) (fun i=>by grind[OI]) (fun i h1 h2=>RU m hm c hc i h1 h2) (I m.av+1) (-1) [] (by omega) (by omega) (by omega) (by simp)
def du(nm:List UInt8)(f t:Int)(nd gv mv:List Int):cf:=⟨nm,f,t,nd,gv,mv,0,0,0,[],[],[],[],0⟩
structure Sg(ns np:Nat)(k:Nat)(r:cf):Prop where
 name:mp[k]?=G r.name
 aj:0<=r.aj/\r.aj<ns
 to:0<=r.to/\r.to<ns
 am:I r.am=np/\∀x∈r.am,0<=x/\x<=2
 ak:I r.ak=np/\∀x∈r.ak,0<=x/\x<=2
 move:pm r np
 rest:r=du r.name r.aj r.to r.am r.ak r.move
structure TG(m:cz):Prop where
 kind:m.kind=1
 aw:m.aw=[[97]]∨m.aw=[[97],[98]]
 ay:m.ay=[[120]]∨m.ay=[[120],[121]]
 ax:m.ax=[]
 au:m.au=[]
 ao:m.ao=0
 age:m.age=0
 count:I m.av<=3
 pos:1<=I m.av
 av:∀k r,m.av[k]?=G r->Sg (I m.aw) (I m.ay) k r
 start:∃ys:List Int,I ys=I m.ay/\(∀x∈ys,0<=x/\x<=3)/\m.start=De 0 ys
theorem Abj{ns np:Nat}{rs:List cf}{k:Nat}{nm:List UInt8}{f t:Int}{nd gv mv:List Int}(hnm:mp[k]?=G nm)(hf:0<=f/\f<ns)(ht:0<=t/\t<ns)(hn:I nd=np/\∀x∈nd,0<=x/\x<=2)(hg:I gv=np/\∀x∈gv,0<=x/\x<=2)(hm:mv=[]∨mv.length=np/\∀t∈mv, -1<=t/\t<np)(hrs:I rs=k)(hR:∀i r,rs[i]?=G r->Sg ns np i r):∀i r,(rs++[du nm f t nd gv mv])[i]?=G r->Sg ns np i r:=fun i r hi=>by
 by_cases hik:i<I rs
 ·grind
 ·rw[Ib (by omega)] at hi
  have h1:i-I rs=0:=by
   grind
  rw[h1] at hi
  simp at hi;subst hi
  have hik2:i=k:=by omega
  subst hik2
  exact⟨hnm,hf,ht,hn,hg,hm,rfl⟩
theorem Ack{H:List (Option (List D))}{own:List (Nat×Nat×List V)}{q tag:Nat}{nm:List UInt8}{f t:Int}{nd gv xs:List Int}(hq:H[q]?=G (G [.v (.str nm),di f,di t,.v (cw nd),.v (cw gv),.acc tag (xs.map vi),di 0,di 0,di 0,.v .nils,.v .nils,.v .nils,.v .nils,di 0]))(e:List D):Cv e ⟨H,own⟩ e ⟨H.set q (G (cR (du nm f t nd gv xs))),own⟩:=
 Dw (σ:=⟨H,own⟩) (q:=q) hq (fun g us hr=>by
  have:=D7 (ts:=[]) (kn:=false) hr
  exact this) (fun _ x hx=>by
  simp only[cR,Iz,Jr,or_false] at hx
  rcases hx with rfl|rfl|rfl|rfl|rfl|rfl|rfl|rfl|rfl|rfl|rfl|rfl|rfl|rfl<;>rfl) e
noncomputable abbrev Aqy:=fun a₀ b₀ c₀ d₀=>Aa PP 14 [bq 0 0,di 2] (dz a₀ b₀) (di c₀) (dz a₀ d₀)
noncomputable abbrev Arw:=fun a₀ b₀ c₀ d₀=>Aa PP 24 [bq 0 0,di (↑(I [[120],[121]]):Int),di 2] (dz a₀ b₀) (cx c₀) (dz a₀ d₀)
noncomputable abbrev Ar5:=fun a₀ b₀ c₀ d₀=>Aa PP 24 [bq 0 0,di (↑(I [[120]]):Int),di 2] (dz a₀ b₀) (cx c₀) (dz a₀ d₀)
noncomputable abbrev Asm:=(aa yt 0)
noncomputable abbrev Atk:=[[120],[121]]
noncomputable abbrev Avb:=fun a₀ b₀ c₀ d₀=>[G (cn a₀ b₀),G zM,G (cM c₀ [[120]] d₀),G fv]
theorem Acn(l:List UInt8)(hl:I l<=200)(S Pl:List (List UInt8))(hS:S=[[97]]∨S=[[97],[98]])(hP:Pl=[[120]]∨Pl=[[120],[121]])(n:Nat):∀(k a:Nat) (rs:List cf),3-k=n->a<=I l->k<=3->I rs=k->(∀i r,rs[i]?=G r->Sg (I S) (I Pl) i r)->
  ∃(m:cz) (a':Nat),TG m/\a'<=I l/\Rn PP nn 1 (Ad m) (dz l a') ([kl Sp [1,1,1,0,1,0,0],.blk 0,kc Sp [1,1,1,1]]++[]) (cy 85 [(0,.ptr 0 0),(1,db J),(4,.ptr 1 0),(5,.ptr 2 0),(6,di (I Pl)),(7,di k)]) (j4 l a S Pl rs):=by
 induction n using Nat.strongRecOn with
 |_ n ih=>
 intro k a rs hn ha hk3 hrs hR
 have hSl:1<=I S/\S.length<=2:=by rcases hS with rfl|rfl<;>decide
 have hPl:1<=I Pl/\Pl.length<=2:=by rcases hP with rfl|rfl<;>decide
 obtain⟨r,a1,h1,h2,h3,h4⟩:=A7 l hl a ha 3 (by decide) (by decide)
 by_cases hk:(k:Int)<1+r
 ·obtain⟨f,a2,f1,f2,f3,f4⟩:=A7 l hl a1 h3 (I S) (by omega) (by omega)
  obtain⟨t,a3,t1,t2,t3,t4⟩:=A7 l hl a2 f3 (I S) (by omega) (by omega)
  obtain⟨nd,a4,n1,n2,n3,n4⟩:=HD l hl a3 t3 (I Pl) (by omega) 2 (by decide) (by decide)
  obtain⟨gv,a5,g1,g2,g3,g4⟩:=HD l hl a4 n1 (I Pl) (by omega) 2 (by decide) (by decide)
  obtain⟨nm,hnm⟩:∃nm,mp[k]?=G nm:=⟨_,HI (show k<I mp by show k<3;omega)⟩
  obtain⟨w,a6,w1,w2,w3,w4⟩:=A7 l hl a5 g1 2 (by decide) (by decide)
  have hkr:Y ((k:Int)<yu yt (1+r))=J:=by rw[Ak];exact HK hk
  have hSm:(I (S.map ae):Int)=(I S:Int):=by rw[HH]
  by_cases hw:(w==0)=J
  ·rcases hP with hP|hP
   ·obtain⟨v1,a7,v11,v12,v13,v14⟩:=A7 l hl a6 w3 2 (by decide) (by decide)
    obtain⟨m,a',m1,m2,m3⟩:=ih (3- (k+1)) (by omega) (k+1) a7 (rs++[du nm f t nd gv [v1-1]]) rfl v13 (by omega) (by simp[hrs]) (Abj hnm ⟨f1,f2⟩ ⟨t1,t2⟩ ⟨n2,n3⟩ ⟨g2,g3⟩ (.inr ⟨by rw[hP];rfl,fun t ht=>by rw[HY.1 ht,hP];show-1<=v1-1/\v1-1<((1:Nat):Int);omega⟩) hrs hR)
    refine⟨m,a',m1,m2,?_⟩
    subst hP
    refine lv 85 [] (.c1 (cn l a1) (di r)<|.t<|.h (.dr 21)<|.x (.str nm)<|.c1 (cn l a2) (di f)<|.c1 (cn l a3) (di t)<|.c1 (cn l a4) (cx nd)<|.c1 (cn l a5) (cx gv)<|.h .rn<|.c1 (cn l a6) (di w)<|.t<|.h (.q 8 0)<|.h (.cl 3 5 3 1)<|.n<|.m (.acc 3 [])<|.c1 (cn l a7) (di v1)<|.n<|.f<|.h (.q 12 2)<|.h (.cs ⟨[G (cn l a7),G zM,G (cM S [[120]] rs),G (cR (du nm f t nd gv [v1-1]))],[(3,1,[vi (v1-1)]),(2,14,rs.map Al)]⟩)<|.ls [ke 0,ke 1,ke 4,ke 5,ke 6,ch 7 (di (k+1:Nat))] (j4 l a7 S [[120]] (rs++[du nm f t nd gv [v1-1]]))) (Aa PP 14 [bq 0 0,di 3] (dz l a) (di r) (dz l a1)/\Y ((k:Int)<yu yt (1+r))=J/\0<=(k:Int)/\[ae (bc #[114]).data.toList,ae (bc #[115]).data.toList,ae (bc #[116]).data.toList][Z (k:Int)]?=G (ae nm)/\Aa PP 14 [bq 0 0,di (I (U ae S):Int)] (dz l a1) (di f) (dz l a2)/\Aa PP 14 [bq 0 0,di (I (U ae S):Int)] (dz l a1) (di f) (dz l a2)/\Q (di f)/\Aa PP 14 [bq 0 0,di (I (U ae S):Int)] (dz l a2) (di t) (dz l a3)/\Aa PP 14 [bq 0 0,di (I (U ae S):Int)] (dz l a2) (di t) (dz l a3)/\Q (di t)/\Aa PP 24 [bq 0 0,di (↑(I [[120]]):Int),di 2] (dz l a3) (cx nd) (dz l a4)/\Aa PP 24 [bq 0 0,di (↑(I [[120]]):Int),di 2] (dz l a3) (cx nd) (dz l a4)/\Q (cx nd)/\Aa PP 24 [bq 0 0,di (↑(I [[120]]):Int),di 2] (dz l a4) (cx gv) (dz l a5)/\Aa PP 24 [bq 0 0,di (↑(I [[120]]):Int),di 2] (dz l a4) (cx gv) (dz l a5)/\Q (cx gv)/\Q [bh [G (cn l a1),G zM,G (cM S [[120]] rs),G fv] [(2,14,U Al rs)],bh [G (cn l a2),G zM,G (cM S [[120]] rs),G fv] [(2,14,U Al rs)],bh [G (cn l a3),G zM,G (cM S [[120]] rs),G fv] [(2,14,U Al rs)],bh [G (cn l a4),G zM,G (cM S [[120]] rs),G fv] [(2,14,U Al rs)],bh [G (cn l a5),G zM,G (cM S [[120]] rs),G fv] [(2,14,U Al rs)]]/\((yf (Q (G [bt (cp S)])))/\(yf (Q (G [bt (cp S)])))/\True)/\Aa PP 14 [bq 0 0,di 2] (dz l a5) (di w) (dz l a6)/\(w==0)=J/\Q (G (br 3 []))/\Aa PP 14 [bq 0 0,di (yu yt ((↑(I [[120]]):Int)+1))] (dz l a6) (di v1) (dz l a7)/\Q nV/\Ao 1 8/\((Q (G [br 3 []])/\True)/\True)/\Y (yu yt (0+1)<(↑(I [[120]]):Int))=O/\(∀(e:List D) (E:cd) (g:Gh) (a:Act) (w:x5),FI E g (bh [G (cn l a7),G zM,G (cM S [[120]] rs),G [bt (ae nm),bt (aa yt f),bt (aa yt t),cx nd,cx gv,br 3 ([]++[aa yt (yu yt (v1-1))]),bt (aa yt 0),bt (aa yt 0),bt (aa yt 0),dn,dn,dn,dn,bt (aa yt 0)]] [(3,1,[]++[aa yt (yu yt (v1-1))]),(2,14,U Al rs)]) e a w->∃g',FI E g' (bh [G (cn l a7),G zM,G (cM S [[120]] rs),G (cR (du nm f t nd gv [v1-1]))] [(3,1,[vi (v1-1)]),(2,14,U Al rs)]) e a w)/\Q (U Al rs)/\Ao (I (U Al rs)+I (ab (ae (du nm f t nd gv [v1-1]).name::aa yt (du nm f t nd gv [v1-1]).aj::aa yt (du nm f t nd gv [v1-1]).to::cw (du nm f t nd gv [v1-1]).am::cw (du nm f t nd gv [v1-1]).ak::cw (du nm f t nd gv [v1-1]).move::aa yt (du nm f t nd gv [v1-1]).chan::aa yt (du nm f t nd gv [v1-1]).act::aa yt (du nm f t nd gv [v1-1]).letter::cw (du nm f t nd gv [v1-1]).path::cw (du nm f t nd gv [v1-1]).next::AD (du nm f t nd gv [v1-1]).ar::cw (du nm f t nd gv [v1-1]).aq::aa yt (du nm f t nd gv [v1-1]).second::nV)::nV)) 232/\di (yu yt ((k:Int)+1))=di (↑(k+1):Int)/\[G (cn l a7),G zM,G [di 1,bt (cp S),bt (cp [[120]]),dn,dn,di 0,di 0,br 2 (U Al rs++ab (ae (du nm f t nd gv [v1-1]).name::vi (du nm f t nd gv [v1-1]).aj::vi (du nm f t nd gv [v1-1]).to::cw (du nm f t nd gv [v1-1]).am::cw (du nm f t nd gv [v1-1]).ak::cw (du nm f t nd gv [v1-1]).move::vi (du nm f t nd gv [v1-1]).chan::vi (du nm f t nd gv [v1-1]).act::vi (du nm f t nd gv [v1-1]).letter::cw (du nm f t nd gv [v1-1]).path::cw (du nm f t nd gv [v1-1]).next::AD (du nm f t nd gv [v1-1]).ar::cw (du nm f t nd gv [v1-1]).aq::vi (du nm f t nd gv [v1-1]).second::nV)::nV),di 0,dn]]=[G (cn l a7),G zM,G (cM S [[120]] (rs++[du nm f t nd gv [v1-1]]))]/\[(2,14,U Al rs++ab (ae (du nm f t nd gv [v1-1]).name::vi (du nm f t nd gv [v1-1]).aj::vi (du nm f t nd gv [v1-1]).to::cw (du nm f t nd gv [v1-1]).am::cw (du nm f t nd gv [v1-1]).ak::cw (du nm f t nd gv [v1-1]).move::vi (du nm f t nd gv [v1-1]).chan::vi (du nm f t nd gv [v1-1]).act::vi (du nm f t nd gv [v1-1]).letter::cw (du nm f t nd gv [v1-1]).path::cw (du nm f t nd gv [v1-1]).next::AD (du nm f t nd gv [v1-1]).ar::cw (du nm f t nd gv [v1-1]).aq::vi (du nm f t nd gv [v1-1]).second::nV)::nV)]=[(2,14,U Al (rs++[du nm f t nd gv [v1-1]]))]/\I0 nn 1 (Ad m) (dz l a') [kl Sp [1,1,1,0,1,0,0],bf 0,kc Sp [1,1,1,1]] (cy 85 [(0,bq 0 0),(1,db J),(4,bq 1 0),(5,bq 2 0),(6,di (↑(I [[120]]):Int)),(7,di (↑(k+1):Int))]) (j4 l a7 S [[120]] (rs++[du nm f t nd gv [v1-1]]))) ?_
    rw[hSm,Ak (n:=v1-1)]
    repeat' first|with_reducible refine And.intro ?_ ?_
    all_goals first|exact h4|exact hkr|exact f4|exact t4|exact n4|exact g4|exact w4|exact hw|exact v14|exact CD hnm|exact⟨m3⟩|exact Ae|omega|rfl|trivial|skip
    all_goals first|exact Ih (fun z=>[G (cn l a7),G zM,G [di 1,.v (cp S),.v (cp [[120]]),.v .nils,.v .nils,di 0,di 0,.acc 2 z,di 0,.v .nils]]) (AX rs (du nm f t nd gv [v1-1]))|exact Ih (fun z=>[(2,14,z)]) (AX rs (du nm f t nd gv [v1-1]))|(simp only[HH,HN,HR];omega)|exact(fun e=>Ack (H:=[G (cn l a7),G zM,G (cM S [[120]] rs),G [.v (.str nm),di f,di t,.v (cw nd),.v (cw gv),.acc 3 ([v1-1].map vi),di 0,di 0,di 0,.v .nils,.v .nils,.v .nils,.v .nils,di 0]]) (own:=[(3,1,[v1-1].map vi),(2,14,rs.map Al)]) (q:=3) (tag:=3) (nm:=nm) (f:=f) (t:=t) (nd:=nd) (gv:=gv) (xs:=[v1-1]) rfl e)
   ·obtain⟨v1,a7,v11,v12,v13,v14⟩:=A7 l hl a6 w3 3 (by decide) (by decide)
    obtain⟨v2,a8,v21,v22,v23,v24⟩:=A7 l hl a7 v13 3 (by decide) (by decide)
    obtain⟨m,a',m1,m2,m3⟩:=ih (3- (k+1)) (by omega) (k+1) a8 (rs++[du nm f t nd gv [v1-1,v2-1]]) rfl v23 (by omega) (by simp[hrs]) (Abj hnm ⟨f1,f2⟩ ⟨t1,t2⟩ ⟨n2,n3⟩ ⟨g2,g3⟩ (.inr ⟨by rw[hP];rfl,fun t ht=>by
     rw[hP];show-1<=t/\t<((2:Nat):Int)
     simp only[Iz,Jr,or_false] at ht
     omega⟩) hrs hR)
    refine⟨m,a',m1,m2,?_⟩
    subst hP
    refine lv 85 [] (.c1 (cn l a1) (di r)<|.t<|.h (.dr 21)<|.x (.str nm)<|.c1 (cn l a2) (di f)<|.c1 (cn l a3) (di t)<|.c1 (cn l a4) (cx nd)<|.c1 (cn l a5) (cx gv)<|.h .rn<|.c1 (cn l a6) (di w)<|.t<|.h (.q 8 0)<|.h (.cl 3 5 3 1)<|.n<|.m (.acc 3 [])<|.c1 (cn l a7) (di v1)<|.n<|.t<|.m (.acc 3 [vi (v1-1)])<|.c1 (cn l a8) (di v2)<|.n<|.f<|.h (.q 12 2)<|.h (.cs ⟨[G (cn l a8),G zM,G (cM S [[120],[121]] rs),G (cR (du nm f t nd gv [v1-1,v2-1]))],[(3,1,[vi (v1-1),vi (v2-1)]),(2,14,rs.map Al)]⟩)<|.ls [ke 0,ke 1,ke 4,ke 5,ke 6,ch 7 (di (k+1:Nat))] (j4 l a8 S [[120],[121]] (rs++[du nm f t nd gv [v1-1,v2-1]]))) (Aa PP 14 [bq 0 0,di 3] (dz l a) (di r) (dz l a1)/\Y ((k:Int)<yu yt (1+r))=J/\0<=(k:Int)/\[ae (bc #[114]).data.toList,ae (bc #[115]).data.toList,ae (bc #[116]).data.toList][Z (k:Int)]?=G (ae nm)/\Aa PP 14 [bq 0 0,di (I (U ae S):Int)] (dz l a1) (di f) (dz l a2)/\Aa PP 14 [bq 0 0,di (I (U ae S):Int)] (dz l a1) (di f) (dz l a2)/\Q (di f)/\Aa PP 14 [bq 0 0,di (I (U ae S):Int)] (dz l a2) (di t) (dz l a3)/\Aa PP 14 [bq 0 0,di (I (U ae S):Int)] (dz l a2) (di t) (dz l a3)/\Q (di t)/\Aa PP 24 [bq 0 0,di (↑(I [[120],[121]]):Int),di 2] (dz l a3) (cx nd) (dz l a4)/\Aa PP 24 [bq 0 0,di (↑(I [[120],[121]]):Int),di 2] (dz l a3) (cx nd) (dz l a4)/\Q (cx nd)/\Aa PP 24 [bq 0 0,di (↑(I [[120],[121]]):Int),di 2] (dz l a4) (cx gv) (dz l a5)/\Aa PP 24 [bq 0 0,di (↑(I [[120],[121]]):Int),di 2] (dz l a4) (cx gv) (dz l a5)/\Q (cx gv)/\Q [bh [G (cn l a1),G zM,G (cM S [[120],[121]] rs),G fv] [(2,14,U Al rs)],bh [G (cn l a2),G zM,G (cM S [[120],[121]] rs),G fv] [(2,14,U Al rs)],bh [G (cn l a3),G zM,G (cM S [[120],[121]] rs),G fv] [(2,14,U Al rs)],bh [G (cn l a4),G zM,G (cM S [[120],[121]] rs),G fv] [(2,14,U Al rs)],bh [G (cn l a5),G zM,G (cM S [[120],[121]] rs),G fv] [(2,14,U Al rs)]]/\((yf (Q (G [bt (cp S)])))/\(yf (Q (G [bt (cp S)])))/\True)/\Aa PP 14 [bq 0 0,di 2] (dz l a5) (di w) (dz l a6)/\(w==0)=J/\Q (G (br 3 []))/\Aa PP 14 [bq 0 0,di (yu yt ((↑(I [[120],[121]]):Int)+1))] (dz l a6) (di v1) (dz l a7)/\Q nV/\Ao 1 8/\((Q (G [br 3 []])/\True)/\True)/\Y (yu yt (0+1)<(↑(I [[120],[121]]):Int))=J/\G (br 3 [vi (yu yt (v1-1))])=G (br 3 [vi (v1-1)])/\Aa PP 14 [bq 0 0,di (yu yt ((↑(I [[120],[121]]):Int)+1))] (dz l a7) (di v2) (dz l a8)/\vi (yu yt (v1-1))::nV=vi (v1-1)::nV/\Ao 2 8/\((Q (G [br 3 [vi (yu yt (v1-1))]])/\True)/\True)/\Y (yu yt (yu yt (0+1)+1)<(↑(I [[120],[121]]):Int))=O/\(∀(e:List D) (E:cd) (g:Gh) (a:Act) (w:x5),FI E g (bh [G (cn l a8),G zM,G (cM S [[120],[121]] rs),G [bt (ae nm),bt (aa yt f),bt (aa yt t),cx nd,cx gv,br 3 ([vi (v1-1)]++[aa yt (yu yt (v2-1))]),bt (aa yt 0),bt (aa yt 0),bt (aa yt 0),dn,dn,dn,dn,bt (aa yt 0)]] [(3,1,[vi (v1-1)]++[aa yt (yu yt (v2-1))]),(2,14,U Al rs)]) e a w->∃g',FI E g' (bh [G (cn l a8),G zM,G (cM S [[120],[121]] rs),G (cR (du nm f t nd gv [v1-1,v2-1]))] [(3,1,[vi (v1-1),vi (v2-1)]),(2,14,U Al rs)]) e a w)/\Q (U Al rs)/\Ao (I (U Al rs)+I (ab (ae (du nm f t nd gv [v1-1,v2-1]).name::aa yt (du nm f t nd gv [v1-1,v2-1]).aj::aa yt (du nm f t nd gv [v1-1,v2-1]).to::cw (du nm f t nd gv [v1-1,v2-1]).am::cw (du nm f t nd gv [v1-1,v2-1]).ak::cw (du nm f t nd gv [v1-1,v2-1]).move::aa yt (du nm f t nd gv [v1-1,v2-1]).chan::aa yt (du nm f t nd gv [v1-1,v2-1]).act::aa yt (du nm f t nd gv [v1-1,v2-1]).letter::cw (du nm f t nd gv [v1-1,v2-1]).path::cw (du nm f t nd gv [v1-1,v2-1]).next::AD (du nm f t nd gv [v1-1,v2-1]).ar::cw (du nm f t nd gv [v1-1,v2-1]).aq::aa yt (du nm f t nd gv [v1-1,v2-1]).second::nV)::nV)) 232/\di (yu yt ((k:Int)+1))=di (↑(k+1):Int)/\[G (cn l a8),G zM,G [di 1,bt (cp S),bt (cp [[120],[121]]),dn,dn,di 0,di 0,br 2 (U Al rs++ab (ae (du nm f t nd gv [v1-1,v2-1]).name::vi (du nm f t nd gv [v1-1,v2-1]).aj::vi (du nm f t nd gv [v1-1,v2-1]).to::cw (du nm f t nd gv [v1-1,v2-1]).am::cw (du nm f t nd gv [v1-1,v2-1]).ak::cw (du nm f t nd gv [v1-1,v2-1]).move::vi (du nm f t nd gv [v1-1,v2-1]).chan::vi (du nm f t nd gv [v1-1,v2-1]).act::vi (du nm f t nd gv [v1-1,v2-1]).letter::cw (du nm f t nd gv [v1-1,v2-1]).path::cw (du nm f t nd gv [v1-1,v2-1]).next::AD (du nm f t nd gv [v1-1,v2-1]).ar::cw (du nm f t nd gv [v1-1,v2-1]).aq::vi (du nm f t nd gv [v1-1,v2-1]).second::nV)::nV),di 0,dn]]=[G (cn l a8),G zM,G (cM S [[120],[121]] (rs++[du nm f t nd gv [v1-1,v2-1]]))]/\[(2,14,U Al rs++ab (ae (du nm f t nd gv [v1-1,v2-1]).name::vi (du nm f t nd gv [v1-1,v2-1]).aj::vi (du nm f t nd gv [v1-1,v2-1]).to::cw (du nm f t nd gv [v1-1,v2-1]).am::cw (du nm f t nd gv [v1-1,v2-1]).ak::cw (du nm f t nd gv [v1-1,v2-1]).move::vi (du nm f t nd gv [v1-1,v2-1]).chan::vi (du nm f t nd gv [v1-1,v2-1]).act::vi (du nm f t nd gv [v1-1,v2-1]).letter::cw (du nm f t nd gv [v1-1,v2-1]).path::cw (du nm f t nd gv [v1-1,v2-1]).next::AD (du nm f t nd gv [v1-1,v2-1]).ar::cw (du nm f t nd gv [v1-1,v2-1]).aq::vi (du nm f t nd gv [v1-1,v2-1]).second::nV)::nV)]=[(2,14,U Al (rs++[du nm f t nd gv [v1-1,v2-1]]))]/\I0 nn 1 (Ad m) (dz l a') [kl Sp [1,1,1,0,1,0,0],bf 0,kc Sp [1,1,1,1]] (cy 85 [(0,bq 0 0),(1,db J),(4,bq 1 0),(5,bq 2 0),(6,di (↑(I [[120],[121]]):Int)),(7,di (↑(k+1):Int))]) (j4 l a8 S [[120],[121]] (rs++[du nm f t nd gv [v1-1,v2-1]]))) ?_
    rw[hSm,Ak (n:=v1-1),Ak (n:=v2-1)]
    repeat' first|with_reducible refine And.intro ?_ ?_
    all_goals first|exact h4|exact hkr|exact f4|exact t4|exact n4|exact g4|exact w4|exact hw|exact v14|exact v24|exact CD hnm|exact⟨m3⟩|exact Ae|omega|rfl|trivial|skip
    all_goals first|exact Ih (fun z=>[G (cn l a8),G zM,G [di 1,.v (cp S),.v (cp [[120],[121]]),.v .nils,.v .nils,di 0,di 0,.acc 2 z,di 0,.v .nils]]) (AX rs (du nm f t nd gv [v1-1,v2-1]))|exact Ih (fun z=>[(2,14,z)]) (AX rs (du nm f t nd gv [v1-1,v2-1]))|(simp only[HH,HN,HR];omega)|exact(fun e=>Ack (H:=[G (cn l a8),G zM,G (cM S [[120],[121]] rs),G [.v (.str nm),di f,di t,.v (cw nd),.v (cw gv),.acc 3 ([v1-1,v2-1].map vi),di 0,di 0,di 0,.v .nils,.v .nils,.v .nils,.v .nils,di 0]]) (own:=[(3,1,[v1-1,v2-1].map vi),(2,14,rs.map Al)]) (q:=3) (tag:=3) (nm:=nm) (f:=f) (t:=t) (nd:=nd) (gv:=gv) (xs:=[v1-1,v2-1]) rfl e)
  ·obtain⟨m,a',m1,m2,m3⟩:=ih (3- (k+1)) (by omega) (k+1) a6 (rs++[du nm f t nd gv []]) rfl w3 (by omega) (by simp[hrs]) (Abj hnm ⟨f1,f2⟩ ⟨t1,t2⟩ ⟨n2,n3⟩ ⟨g2,g3⟩ (.inl rfl) hrs hR)
   refine⟨m,a',m1,m2,?_⟩
   refine lv 85 [] (.c1 (cn l a1) (di r)<|.t<|.h (.dr 21)<|.x (.str nm)<|.c1 (cn l a2) (di f)<|.c1 (cn l a3) (di t)<|.c1 (cn l a4) (cx nd)<|.c1 (cn l a5) (cx gv)<|.c1 (cn l a6) (di w)<|.f<|.ls [ke 0,ke 1,ke 4,ke 5,ke 6,ch 7 (di (k+1:Nat))] (j4 l a6 S Pl (rs++[du nm f t nd gv []]))) (Aa PP 14 [bq 0 0,di 3] (dz l a) (di r) (dz l a1)/\Y ((k:Int)<yu yt (1+r))=J/\0<=(k:Int)/\[ae (bc #[114]).data.toList,ae (bc #[115]).data.toList,ae (bc #[116]).data.toList][Z (k:Int)]?=G (ae nm)/\Aa PP 14 [bq 0 0,di (I (U ae S):Int)] (dz l a1) (di f) (dz l a2)/\Aa PP 14 [bq 0 0,di (I (U ae S):Int)] (dz l a1) (di f) (dz l a2)/\Q (di f)/\Aa PP 14 [bq 0 0,di (I (U ae S):Int)] (dz l a2) (di t) (dz l a3)/\Aa PP 14 [bq 0 0,di (I (U ae S):Int)] (dz l a2) (di t) (dz l a3)/\Q (di t)/\Aa PP 24 [bq 0 0,di (I Pl:Int),di 2] (dz l a3) (cx nd) (dz l a4)/\Aa PP 24 [bq 0 0,di (I Pl:Int),di 2] (dz l a3) (cx nd) (dz l a4)/\Q (cx nd)/\Aa PP 24 [bq 0 0,di (I Pl:Int),di 2] (dz l a4) (cx gv) (dz l a5)/\Aa PP 24 [bq 0 0,di (I Pl:Int),di 2] (dz l a4) (cx gv) (dz l a5)/\Q (cx gv)/\Q [bh [G (cn l a1),G zM,G (cM S Pl rs),G fv] [(2,14,U Al rs)],bh [G (cn l a2),G zM,G (cM S Pl rs),G fv] [(2,14,U Al rs)],bh [G (cn l a3),G zM,G (cM S Pl rs),G fv] [(2,14,U Al rs)],bh [G (cn l a4),G zM,G (cM S Pl rs),G fv] [(2,14,U Al rs)],bh [G (cn l a5),G zM,G (cM S Pl rs),G fv] [(2,14,U Al rs)]]/\((yf (Q (G [bt (cp S)])))/\(yf (Q (G [bt (cp S)])))/\True)/\Aa PP 14 [bq 0 0,di 2] (dz l a5) (di w) (dz l a6)/\(w==0)=O/\Q (U Al rs)/\Ao (I (U Al rs)+I (ab (ae nm::aa yt f::aa yt t::cw nd::cw gv::ai nV::aa yt 0::aa yt 0::aa yt 0::ai nV::ai nV::ai nV::ai nV::aa yt 0::nV)::nV)) 232/\di (yu yt ((k:Int)+1))=di (↑(k+1):Int)/\[G (cn l a6),G zM,G [di 1,bt (cp S),bt (cp Pl),dn,dn,di 0,di 0,br 2 (U Al rs++ab (ae nm::vi f::vi t::cw nd::cw gv::ai nV::vi 0::vi 0::vi 0::ai nV::ai nV::ai nV::ai nV::vi 0::nV)::nV),di 0,dn]]=[G (cn l a6),G zM,G (cM S Pl (rs++[du nm f t nd gv []]))]/\[(2,14,U Al rs++ab (ae nm::vi f::vi t::cw nd::cw gv::ai nV::vi 0::vi 0::vi 0::ai nV::ai nV::ai nV::ai nV::vi 0::nV)::nV)]=[(2,14,U Al (rs++[du nm f t nd gv []]))]/\I0 nn 1 (Ad m) (dz l a') [kl Sp [1,1,1,0,1,0,0],bf 0,kc Sp [1,1,1,1]] (cy 85 [(0,bq 0 0),(1,db J),(4,bq 1 0),(5,bq 2 0),(6,di (I Pl:Int)),(7,di (↑(k+1):Int))]) (j4 l a6 S Pl (rs++[du nm f t nd gv []]))) ?_
   rw[hSm]
   repeat' first|with_reducible refine And.intro ?_ ?_
   all_goals first|exact h4|exact hkr|exact f4|exact t4|exact n4|exact g4|exact w4|exact HU hw|exact CD hnm|exact⟨m3⟩|exact Ae|omega|rfl|trivial|skip
   all_goals first|exact Ih (fun z=>[G (cn l a6),G zM,G [di 1,.v (cp S),.v (cp Pl),.v .nils,.v .nils,di 0,di 0,.acc 2 z,di 0,.v .nils]]) (AX rs (du nm f t nd gv []))|exact Ih (fun z=>[(2,14,z)]) (AX rs (du nm f t nd gv []))|(simp only[HH,HN,HR];omega)
 ·obtain⟨ys,a2,y1,y2,y3,y4⟩:=HD l hl a1 h3 (I Pl) (by omega) 3 (by decide) (by decide)
  obtain⟨c,hc⟩:∃c,c=De 0 ys:=⟨_,rfl⟩
  refine⟨⟨1,S,Pl,[],[],0,0,rs,c⟩,a2,⟨rfl,hS,hP,rfl,rfl,rfl,rfl,by show I rs<=3;omega,by show 1<=I rs;omega,hR,ys,y2,y3,hc⟩,y1,?_⟩
  refine lv 85 [] (.c1 (cn l a1) (di r)<|.f<|.c1 (cn l a2) (cx ys)<|.c (dV c) .r) (_/\Y ((k:Int)<yu yt (1+r))=O/\_/\F0 23 [di 0,cx ys] (dV c)/\Q [G (cn l a2)]/\bt (ab [vi 1,ai (U ae S),ai (U ae Pl),ai [],ai [],vi 0,vi 0,ai (U Al rs),vi c.n,ai (U eV c.az)])=Ad (cz.mk 1 S Pl [] [] 0 0 rs c)) ⟨h4,?_,y4,hc▸Oz ys (by omega) 0,rfl,rfl⟩
  rw[Ak];exact HM hk
theorem Ajx(l:List UInt8)(hl:I l<=200)(a:Nat)(ha:a<=I l):
  ∃(m:cz) (a':Nat),TG m/\a'<=I l/\Aa PP 15 [.ptr 0 0,db J] (dz l a) (Ad m) (dz l a'):=by
 obtain⟨r1,a1,h1,h2,h3,h4⟩:=A7 l hl a ha 2 (by decide) (by decide)
 obtain⟨r2,a2,h5,h6,h7,h8⟩:=A7 l hl a1 h3 2 (by decide) (by decide)
 obtain⟨S,hS,hS2⟩:∃S:List (List UInt8),(S=[[97]]∨S=[[97],[98]])/\(r1=0/\S=[[97]]∨r1=1/\S=[[97],[98]]):=by
  rcases(show r1=0∨r1=1 by omega) with h|h
  all_goals simp_all
 obtain⟨Pl,hP,hP2⟩:∃S:List (List UInt8),(S=[[120]]∨S=[[120],[121]])/\(r2=0/\S=[[120]]∨r2=1/\S=[[120],[121]]):=by
  rcases(show r2=0∨r2=1 by omega) with h|h
  all_goals simp_all
 obtain⟨m,a',m1,m2,m3⟩:=Acn l hl S Pl hS hP _ 0 a2 [] rfl h7 (by omega) rfl (fun i r h=>by grind)
 refine⟨m,a',m1,m2,?_⟩
 refine sv nn 85 [] (.h (.dr 11)<|.c1 (cn l a1) (di r1)<|.c1 (cn l a2) (di r2)<|.h .rn<|.h (.q 3 0)<|.h (.cl 2 7 2 14)<|.ls [ke 0,ke 1,ke 4,ke 5,ch 6 (di (I Pl)),ch 7 (di (0:Nat))] (j4 l a2 S Pl [])) (_/\_/\Q (di r1)/\(∀(x:V),x∈ qk->V.size x=1)/\0<=(fun x=>x.snd) (yt,yu yt (1+r1))/\(fun x=>x.snd) (yt,yu yt (1+r1))<=(↑(I qk):Int)/\_/\_/\Q (di r2)/\(∀(x:V),x∈ kv->V.size x=1)/\0<=(fun x=>x.snd) (yt,yu yt (1+r2))/\(fun x=>x.snd) (yt,yu yt (1+r2))<=(↑(I kv):Int)/\Q [bh (il l a) [],bh (il l a1) [],bh (il l a2) []]/\True/\di (I (W 0 (take (Z ((fun x=>x.snd) (yt,yu yt (1+r2)))) tu)):Int)=di (I Pl:Int)/\Q (di 0)/\[G (cn l a2),G r6,G [di 1,bt (ai (W 0 (take (Z ((fun x=>x.snd) (yt,yu yt (1+r1)))) Ath))),bt (ai (W 0 (take (Z ((fun x=>x.snd) (yt,yu yt (1+r2)))) tu))),dn,dn,di 0,di 0,br 2 nV,di 0,dn]]=[G (cn l a2),G zM,G (cM S Pl [])]/\Q [(2,14,nV)]/\_) ⟨h4,h4,rfl,by simp[V.size],?_,?_,h8,h8,rfl,by simp[V.size],?_,?_,rfl,trivial,?_,rfl,?_,rfl,iK m3⟩
 ·grind[Ak]
 ·grind[Ak]
 ·grind[Ak]
 ·grind[Ak]
 ·rcases hP2 with⟨rfl,rfl⟩|⟨rfl,rfl⟩<;>rfl
 ·rcases hS2 with⟨rfl,rfl⟩|⟨rfl,rfl⟩<;>rcases hP2 with⟨rfl,rfl⟩|⟨rfl,rfl⟩<;>rfl
theorem Sg.short{ns np k:Nat}{r:cf}(h:Sg ns np k r)(hnp:np<=2):r.short:=by
 have h1:=h.am.1
 have h2:=h.ak.1
 have h3:I r.move<=2:=by
  rcases h.move with e|e
  all_goals grind
 rw[h.rest]
 exact⟨by show I r.am<=_;omega,by show I r.ak<=_;omega,by show I r.move<=_;omega,Iu _,Iu _,Iu _,Iu _⟩
theorem Af6{rs:List cf}(_:I rs<=3){ns np:Nat}(h:∀k r,rs[k]?=G r->Sg ns np k r):rs.map cf.name=mp.take (I rs):=by
 apply ext_getElem?
 intro i
 by_cases hi:i<I rs
 ·have hx:rs[i]?=G rs[i]:=HI hi
  rw[I1,hx,List.getElem?_take_of_lt hi,(h i _ hx).name];rfl
 grind
theorem TG.ok{m:cz}(h:TG m):m.ok:=by
 have hst:1<=I m.aw/\m.aw.length<=2:=by rcases h.aw with e|e<;>rw[e]<;>decide
 have hpl:1<=I m.ay/\m.ay.length<=2:=by rcases h.ay with e|e<;>rw[e]<;>decide
 have hb:∀{x a b:Int},a<=x->x<=b->A4 x a b=J:=fun h1 h2=>by grind[A4]
 have hget:∀r∈m.av,Sg (I m.aw) (I m.ay) (m.av.idxOf r) r:=fun r hr=>by
  exact h.av _ r (by grind)
 have hc:=h.count
 refine⟨.inl h.kind,?_,?_,?_,?_,?_,?_,?_⟩
 ·simp only[Dp,Ti,Ie h.kind,HJ,HS,h.ax,h.ao,h.age]
  grind
 ·rw[C3,Ie (by rw[h.kind];rfl),h.au];rfl
 ·have hn:=Af6 h.count h.av
  rw[F1,Gk,hn,Cj,h.ax]
  have:I m.av=0∨m.av.length=1∨m.av.length=2∨m.av.length=3:=by omega
  rcases h.aw with e|e<;>rcases h.ay with e'|e'<;>rcases this with e2|e2|e2|e2<;>rw[e,e',e2]<;>decide
 ·intro r hr
  have hm:=hget r hr
  exact hm.short (by omega)
 ·intro r hr
  have hm:=hget r hr
  obtain⟨f1,f2⟩:=hm.aj
  obtain⟨t1,t2⟩:=hm.to
  obtain⟨n1,n2⟩:=hm.am
  obtain⟨g1,g2⟩:=hm.ak
  have hmv:r.move=[]∨r.move.length=I m.ay/\∀t∈r.move, -1<=t/\t<I m.ay:=hm.move
  have hr:=hm.rest
  rw[Fw,Ie h.kind]
  grind[E6,Ci,Ch,QV,du,Eo]
 ·obtain⟨ys,y1,y2,y3⟩:=h.start
  rw[y3]
  exact K0 m h.kind (by omega) 0 ⟨by omega,by omega⟩ ys y1 fun x hx=>by grind
 ·obtain⟨ys,y1,y2,y3⟩:=h.start
  grind[Hi]
theorem TG.ctm{m:cz}(h:TG m):gu m:=by
 have hst:1<=I m.aw:=by rcases h.aw with e|e<;>rw[e]<;>decide
 refine⟨h.ok,h.kind,?_⟩
 obtain⟨ys,y1,y2,y3⟩:=h.start
 grind[RN]
theorem Af7{rs:List cf}(_:I rs<=2){ns np:Nat}{ag:Int}(h:∀k r,rs[k]?=G r->OM ns np ag k r):rs.map cf.name=sp.take (I rs):=by
 apply ext_getElem?
 intro i
 by_cases hi:i<I rs
 ·have hx:rs[i]?=G rs[i]:=HI hi
  rw[I1,hx,List.getElem?_take_of_lt hi,(h i _ hx).name];rfl
 grind
structure Dz(m:cz):Prop where
 kind:m.kind=5
 aw:m.aw=[[97]]∨m.aw=[[97],[98]]
 ay:m.ay=[[120]]∨m.ay=[[120],[121]]
 ax:m.ax=[]
 au:m.au=[]
 ao:m.ao=0
 age:0<=m.age/\m.age<=1
 count:I m.av<=2
 named:F1 m=J
structure GL(m:cz):Prop where
 n:Dz m
 av:∀k r,m.av[k]?=G r->OM (I m.aw) (I m.ay) m.age k r
theorem BG.n{m:cz}(h:BG m):Dz m:=⟨h.kind,h.aw,h.ay,h.ax,h.au,h.ao,h.age,h.count,by
 have hn:=Af7 h.count h.av
 have hc:=h.count
 rw[F1,Gk,hn,Cj,h.ax]
 have:I m.av=0∨m.av.length=1∨m.av.length=2:=by omega
 rcases h.aw with e|e<;>rcases h.ay with e'|e'<;>rcases this with e2|e2|e2<;>rw[e,e',e2]<;>decide+kernel⟩
theorem BG.s{m:cz}(h:BG m):GL m:=⟨h.n,h.av⟩
instance {m:cz}:Coe (BG m) (Dz m):=⟨BG.n⟩
instance {m:cz}:Coe (GL m) (Dz m):=⟨GL.n⟩
instance {m:cz}:Coe (BG m) (GL m):=⟨BG.s⟩
theorem Dz.sz{m:cz}(h:Dz m):(1<=I m.aw/\m.aw.length<=2)/\(1<=I m.ay/\m.ay.length<=2):=
 ⟨by rcases h.aw with e|e<;>rw[e]<;>decide,by rcases h.ay with e|e<;>rw[e]<;>decide⟩
theorem BG.sz{m:cz}(h:BG m):(1<=I m.aw/\m.aw.length<=2)/\(1<=I m.ay/\m.ay.length<=2):=h.n.sz
theorem GL.right{m:cz}(h:GL m)(r:cf)(hr:r∈m.av):F0 147 [Ad m,BO r] (db J):=by
 obtain⟨hst,hpl⟩:=h.n.sz
 have hag:=h.n.age
 have hi:=List.idxOf_lt_length_of_mem hr
 have hm:=h.av _ r (by rw[HI hi,List.getElem_idxOf])
 rw[hm.rest]
 refine Aam m (by omega) (by omega) h.n.kind (by omega) _ _ _ _ _ hm.aj hm.to ?_ ?_ ?_ ?_
 ·rcases hm.ar with e|⟨p,lo,hi,_,_,e⟩<;>rw[e]<;>simp
 ·rcases hm.aq with e|⟨p,_,e⟩<;>rw[e]<;>simp
 ·rcases hm.ar with e|⟨p,lo,hi,h1,h2,e⟩
  ·rw[e];simp
  ·rw[e];intro t ht;rw[HY.1 ht];exact⟨h1,h2⟩
 ·rcases hm.aq with e|⟨p,h1,e⟩
  ·rw[e];simp
  ·rw[e];intro t ht;rw[HY.1 ht];exact h1
theorem BG.right{m:cz}(h:BG m)(r:cf)(hr:r∈m.av):F0 147 [Ad m,BO r] (db J):=h.s.right r hr
theorem Yd(m:cz)(hm:GL m)(r:cf)(hr:r∈m.av):F0 146 [BO r,.v (.ref (A1 m))] (db O):=by
 exact sv AmH 8 [2] (.c (db J) .r) (_/\Q (db O)) ⟨hm.right r hr,rfl⟩
theorem Dz.good{m:cz}(h:Dz m):CO 8 (Av m)=J:=Aon m (by have:=h.sz;omega) (by have:=h.sz;omega) (by have:=h.age;omega)
theorem BG.good{m:cz}(h:BG m):CO 8 (Av m)=J:=h.n.good
theorem BG.start_ok{m:cz}(h:BG m):Ai (Av m) m.start=J:=by
 obtain⟨ts,h1,h2⟩:=h.start
 have:=h.sz
 rw[h2];exact AcK m 0 ⟨by omega,by omega⟩ ts h1
theorem AgB(m:cz)(hm:GL m):F0 84 [Ad m] (di (if Ai (Av m) m.start then 0 else 17)):=by
 obtain⟨hst,hpl⟩:=hm.n.sz
 have hag:=hm.n.age
 have hc:=hm.n.count
 have hb:∀{x a b:Int},a<=x->x<=b->A4 x a b=J:=fun h1 h2=>by simp[A4,h1,h2]
 have:=Ac9 m true true true true false (Ai (Av m) m.start) (by rw[hm.n.kind];rfl) (fun _=>?_) (fun _=>?_) (fun _=>?_) (fun _=>?_) (fun _=>AhU m _ _ (by rw[hm.n.kind];rfl) (LS m hm.n.kind (by omega)) (L7 _ hm.n.good _))
 ·exact this
 ·have:=NI xu m (by rw[hm.n.kind];exact ApP)
  rwa[show Dp xu m=J by
   simp only[Dp,HJ,HS,hm.n.ax,hm.n.ao]
   exact⟨hb (by omega) (by omega),by omega,hb (by omega) (by omega),by decide,by decide,hb (by omega) (by omega)⟩] at this
 ·have:=Mq m (by rw[hm.n.au];decide)
  rwa[show C3 m=J by rw[C3,Ie (by rw[hm.n.kind];rfl),hm.n.au];rfl] at this
 ·have:=Vp m (by simp only[Cj,Jp,List.flatten_nil,HW,HR,hm.n.ax];omega)
  rwa[hm.n.named] at this
 ·have:=MF 146 [] [.ref (A1 m)] (fun _=>false) m.av (by omega) (fun r hr=>Yd m hm r hr)
  rw[show m.av.any (fun _=>false)=O by simp] at this
  exact this
theorem Np(m:cz)(hm:BG m):F0 84 [Ad m] (di 0):=by
 have:=AgB m hm
 rwa[hm.start_ok,Ie rfl] at this
theorem Abf(m:cz)(hm:BG m)(v:b9):F0 47 [Ad m,dV v] (db (Ai (Av m) v)):=by
 exact sv Amn 14 [2,3] (.c (di 0)<|.c (dT (Av m))<|.c (db (Ai (Av m) v)) .r) (_/\_/\_/\Q (db (Ai (Av m) v))) ⟨Np m hm,LS m hm.kind (by have:=hm.age;omega),L7 _ hm.good v,rfl⟩
theorem Xo(m:cz)(hm:BG m)(v:b9)(_:v.size<=1000000):F0 47 [Ad m,dV v] (db (Ai (Av m) v)):=Abf m hm v
theorem YW(m:cz)(hm:BG m):F0 46 [Ad m] (di 0):=by
 exact sv Ap5 12 [1] (.c (di 0)<|.k<|.f .r) (_/\(m.kind==6)=O/\Q (di 0)) ⟨Np m hm,by rw[hm.kind];rfl,rfl⟩
theorem BG.int{m:cz}(h:BG m):Sf m (Av m):=⟨YW m h,L4 m (by have:=h.count;omega),fun v hv=>Xo m h v hv,by have:=h.sz;omega⟩
inductive Ft (m:cz):Prop where
 |cM (h:TG m)
 |l2 (h:Gt 2 m)
 |l3 (h:Gt 3 m)
 |tm (h:BG m)
 |c (h:Qa m)
theorem Ft.small{m:cz}(h:Ft m):(1<=I m.aw/\m.aw.length<=3)/\(m.ay=[[120]]∨m.ay=[[120],[121]])/\m.ax.length<=2/\m.age<=3:=by
 have two:∀S:List (List UInt8),(S=[[97]]∨S=[[97],[98]])->1<=I S/\S.length<=3:=fun S e=>by rcases e with e|e<;>rw[e]<;>decide
 cases h with
 |cM h=>exact⟨two _ h.aw,h.ay,by rw[h.ax];decide,by rw[h.age];decide⟩
 |c h=>exact⟨two _ h.aw,h.ay,by rw[h.ax];decide,by rw[h.age];decide⟩
 |tm h=>exact⟨two _ h.aw,h.ay,by rw[h.ax];decide,by have:=h.age;omega⟩
 |l2 h=>exact⟨by obtain⟨n,h1,h2,e⟩:=h.aw;rw[e,Ip];simp only[HN,HR];omega,h.ay,by rcases h.ax with e|e<;>rw[e]<;>decide,by rw[h.age];decide⟩
 |l3 h=>exact⟨by obtain⟨n,h1,h2,e⟩:=h.aw;rw[e,Ip];simp only[HN,HR];omega,h.ay,by rcases h.ax with e|e<;>rw[e]<;>decide,by rw[h.age];decide⟩
noncomputable abbrev t7:=Tryz.f7
theorem Anv(l:List UInt8)(hl:I l<=200)(a:Nat)(ha:a<=I l):
  ∃(m:cz) (a':Nat),Ft m/\a'<=I l/\Aa PP 7 [.ptr 0 0] (dz l a) (Ad m) (dz l a'):=by
 obtain⟨r,a1,p1,p2,p3,p4⟩:=A7 l hl a ha 5 (by decide) (by decide)
 rcases(show r=0∨r=1∨r=2∨r=3∨r=4 by omega) with rfl|rfl|rfl|rfl|rfl
 ·obtain⟨m,a2,h1,h2,h3⟩:=Ajx l hl a1 p3
  refine⟨m,a2,.cM h1,h2,?_⟩
  refine sv t7 23 [] (.c1 (cn l a1) (di 0)<|.c1 (cn l a2) (Ad m) .r) (Aa PP 14 [bq 0 0,di 5] (dz l a) (di 0) (dz l a1)/\Aa PP 15 [bq 0 0,db J] (dz l a1) (Ad m) (dz l a2)/\Q [G (cn l a2)]/\bt (ab [vi m.kind,ai (df m.aw),ai (df m.ay),ai (df m.ax),ai (cc m.au),vi m.ao,vi m.age,ai (U Al m.av),vi m.start.n,ai (ce m.start.az)])=Ad m) ?_
  trivial
 ·obtain⟨m,a2,h1,h2,h3⟩:=AhN l hl a1 p3 2 (.inl rfl)
  refine⟨m,a2,.l2 h1,h2,?_⟩
  refine sv t7 23 [] (.c1 (cn l a1) (di 1)<|.c1 (cn l a2) (Ad m) .r) (Aa PP 14 [bq 0 0,di 5] (dz l a) (di 1) (dz l a1)/\Aa PP 16 [bq 0 0,di 2] (dz l a1) (Ad m) (dz l a2)/\Q [G (cn l a2)]/\bt (ab [vi m.kind,ai (df m.aw),ai (df m.ay),ai (df m.ax),ai (cc m.au),vi m.ao,vi m.age,ai (U Al m.av),vi m.start.n,ai (ce m.start.az)])=Ad m) ?_
  trivial
 ·obtain⟨m,a2,h1,h2,h3⟩:=AhN l hl a1 p3 3 (.inr rfl)
  refine⟨m,a2,.l3 h1,h2,?_⟩
  refine sv t7 23 [] (.c1 (cn l a1) (di 2)<|.c1 (cn l a2) (Ad m) .r) (Aa PP 14 [bq 0 0,di 5] (dz l a) (di 2) (dz l a1)/\Aa PP 16 [bq 0 0,di 3] (dz l a1) (Ad m) (dz l a2)/\Q [G (cn l a2)]/\bt (ab [vi m.kind,ai (df m.aw),ai (df m.ay),ai (df m.ax),ai (cc m.au),vi m.ao,vi m.age,ai (U Al m.av),vi m.start.n,ai (ce m.start.az)])=Ad m) ?_
  trivial
 ·obtain⟨m,a2,h1,h2,h3⟩:=AkT l hl a1 p3
  refine⟨m,a2,.tm h1,h2,?_⟩
  refine sv t7 23 [] (.c1 (cn l a1) (di 3)<|.c1 (cn l a2) (Ad m) .r) (Aa PP 14 [bq 0 0,di 5] (dz l a) (di 3) (dz l a1)/\Aa PP 17 [bq 0 0] (dz l a1) (Ad m) (dz l a2)/\Q [G (cn l a2)]/\bt (ab [vi m.kind,ai (df m.aw),ai (df m.ay),ai (df m.ax),ai (cc m.au),vi m.ao,vi m.age,ai (U Al m.av),vi m.start.n,ai (ce m.start.az)])=Ad m) ?_
  trivial
 ·obtain⟨m,a2,h1,h2,h3⟩:=AmX l hl a1 p3
  refine⟨m,a2,.c h1,h2,?_⟩
  refine sv t7 23 [] (.c1 (cn l a1) (di 4)<|.c1 (cn l a2) (Ad m) .r) (Aa PP 14 [bq 0 0,di 5] (dz l a) (di 4) (dz l a1)/\Aa PP 15 [bq 0 0,db O] (dz l a1) (Ad m) (dz l a2)/\Q [G (cn l a2)]/\bt (ab [vi m.kind,ai (df m.aw),ai (df m.ay),ai (df m.ax),ai (cc m.au),vi m.ao,vi m.age,ai (U Al m.av),vi m.start.n,ai (ce m.start.az)])=Ad m) ?_
  trivial
noncomputable abbrev ApC:=Tryz.f267
def EK(m:cz)(w:List Int):List (List Int):=if (m.kind==3)=J then Gf m.au w else FW w
theorem LK(m:cz)(w:List Int):I (EK m w)<=12/\∀v∈EK m w,I v<=12:=by
 grind[EK,WY,W1]
theorem AgF(m:cz)(hr:I m.au<=1000)(w:List Int)(hw:I w<=1000):F0 267 [Ad m,cx w] (dl ((EK m w).map cw)):=by
 unfold EK
 by_cases hk:(m.kind==3)=J
 ·have g3:=AeV m.au w hr hw
  generalize Gf m.au w=ws at g3⊢
  refine sv ApC 14 [2] (.t<|.c (dl (ws.map cw)) .r) ((m.kind==3)=J/\F0 288 [cx m.au,cx w] (dl (U cw ws))/\bt (lc ws)=dl (U cw (if (m.kind==3)=J then ws else FW w))) ?_
  grind
 ·have g3:=Ad8 w hw
  generalize FW w=ws at g3⊢
  refine sv ApC 14 [2] (.f<|.c (dl (ws.map cw)) .r) ((m.kind==3)=O/\F0 289 [cx w] (dl (U cw ws))/\bt (lc ws)=dl (U cw (if (m.kind==3)=J then Gf m.au w else ws))) ?_
  grind
noncomputable abbrev YD:=Tryz.f214
noncomputable def Ej:=yl YD
def o8(outs:List b9):St:=match outs with
 |[]=>ba
 |o::outs=>⟨[G (Ab ((o::outs).map eV))],[]⟩
def nh(outs:List b9):D:=match outs with
 |[]=>.v .nils
 |_::outs=>.gro 0 (I outs+1) 2
theorem VL{l:List b9}(h:l≠ []):nh l=.gro 0 (I l) 2:=by cases l with
 |nil=>grind
 |cons=>rfl
theorem Pc{l:List b9}(h:l≠ []):o8 l=⟨[G (Ab (l.map eV))],[]⟩:=by cases l with
 |nil=>grind
 |cons=>rfl
theorem pi{o:yy}{t:Nat}(x:b9)(τ:St)(ho:o.op=.buildSlice 29 1 #[(0,.tmp t)]):Ah PP o [dV x] τ (.v (.list [Ac x])) τ:=
 EQ ho rfl rfl ln rfl (xs:=[Ac x]) rfl (fun y hy=>by rw[HY.1 hy];rfl) (by decide) (by decide) (by decide)
theorem CU(l:List b9):(Ab (l.map eV)).all D.one=J:=by
 induction l with
 |nil=>rfl
 |cons x l ih=>rw[AF,List.all_append,ih];rfl
theorem EF(l:List b9)(x:b9):Ab (l.map eV)++[bt (vi x.n),bt (dt x.az)]=Ab ((l++[x]).map eV):=by rw[Ha,AF];rfl
def gh(c:b9)(k:Nat)(w:List Int):b9:=HG c k (c.az.getD 0 e8).n w
def fq(m:cz)(c:b9)(K:Nat):List b9:=(List.range K).flatMap fun k=>(EK m (AP (c.az.getD (1+k) (.mk 0 [])))).map (gh c k)
theorem LB(m:cz)(c:b9)(K:Nat):fq m c (K+1)=fq m c K++(EK m (AP (c.az.getD (1+K) (.mk 0 [])))).map (gh c K):=by simp[fq,List.range_succ]
theorem P6(m:cz)(c:b9)(K:Nat):I (fq m c K)<=12*K:=by
 induction K<;>grind[LK,LB,fq]
theorem Ah7{c s0 x:b9}{k:Nat}(h0:c.az[0]?=G s0)(hx:c.az[1+k]?=G x)(w:List Int):gh c k w=.mk c.n (BT c.az s0 x s0.n (1+k) w):=by
 grind[gh,RL]
theorem P4{c:b9}(hc:c.size<=128){k:Nat}(hk:1+k<I c.az){w:List Int}(hw:I w<=12):(gh c k w).size<=200:=by
 obtain⟨s0,h0⟩:∃x,c.az[0]?=G x:=⟨_,HI (by omega)⟩
 obtain⟨x,hx⟩:∃x,c.az[1+k]?=G x:=⟨_,HI hk⟩
 rw[Ah7 h0 hx]
 have:=K3 h0 hx s0.n w c.n
 have:=c.size_eq
 omega
theorem P5{m:cz}{c:b9}(hc:c.size<=128){K:Nat}(hK:K<I c.az){v:b9}(hv:v∈fq m c K):v.size<=200:=by
 obtain⟨k,hk,hv⟩:=List.mem_flatMap.1 hv
 grind[P4,LK]
theorem AlJ(m:cz)(c s0 x:b9)(k:Nat)(hk2:k<=1000)(hc:c.size<=128)(h0:c.az[0]?=G s0)(hx:c.az[1+k]?=G x)(ws:List (List Int))(hw:I ws<=12)(hws:∀v∈ws,I v<=12)(l o1:List b9)(ho1:I o1<=900)
  (l2:Rn PP YD 0 (dq (l,0)) ba ([kl Ej [1,1,1,0,1,0,0],.blk 0,kc Ej [1,1,1,1]]++[]) (cy 51 [(2,.v (.ref (A1 m))),(3,.v (.ref (Ac c))),(7,nh (o1++ws.map (gh c k))),(20,di (I m.ay)),(21,di (k+1:Nat))]) (o8 (o1++ws.map (gh c k)))) (n:Nat):
  ∀(j:Nat) (outs:List b9),I ws-j=n->outs=o1++(ws.take j).map (gh c k)->Rn PP YD 0 (dq (l,0)) ba ([kl Ej [1,1,1,0,1,0,0,1,1,0,0,1,1,0,0],.blk 2,.blk 1,kc Ej [1,1,1,0,1,0,0,1,1,1],kl Ej [1,1,1,0,1,0,0],.blk 0,kc Ej [1,1,1,1]]++[]) (cy 51 [(2,.v (.ref (A1 m))),(3,.v (.ref (Ac c))),(7,nh outs),(8,di k),(20,di (I m.ay)),(21,di k),(28,dl (ws.map cw)),(29,di (I ws)),(30,di j)]) (o8 outs):=by
 induction n with
 |zero=>
  intro j outs hn houts
  rw[Im (by omega)] at houts
  rw[←houts] at l2
  clear houts
  by_cases hne:outs=[]
  ·subst hne
   exact lv 51 [2,3] (.f<|.l [ke 2,ke 3,ke 7,ke 20,ch 21 (di (k+1:Nat))]) (Y ((j:Int)<(I ws:Int))=O/\di (yu yt ((k:Int)+1))=di (↑(k+1):Int)/\_) ⟨yq,Ae,iK l2⟩
  ·rw[VL hne,Pc hne] at l2⊢
   exact lv 51 [2,3] (.f<|.lo [ke 2,ke 3,ke 7,ke 20,ch 21 (di (k+1:Nat))] ⟨[G (Ab (outs.map eV))],[]⟩) (Y ((j:Int)<(I ws:Int))=O/\di (yu yt ((k:Int)+1))=di (↑(k+1):Int)/\cm 1 [] [G (em outs)]=J/\Q [G (em outs)]/\_) ⟨yq,Ae,Ia.2 ⟨Aj 1 [] _,rfl⟩,rfl,iK l2⟩
 |succ n ih=>
  intro j outs hn houts
  obtain⟨w,hw1⟩:=yk (show j<I ws by omega)
  have hwl:=hws w (HO hw1)
  have hsp:=Qo c (by omega) s0 x k h0 hx s0.n w (by omega)
  have hsz:=K3 h0 hx s0.n w c.n
  have hfw:=Ah7 h0 hx w
  have hol:I outs<=912:=by rw[houts,HW,HH,Ip];omega
  generalize b9.mk c.n (BT c.az s0 x s0.n (1+k) w)=v at hsp hsz hfw
  have hx0:(c.az.map eV)[Z 0]?=G (Ac s0):=Ap (i:=0) h0
  have l2:=ih (j+1) (outs++[v]) (by omega) (by rw[houts,IW,hw1, ←hfw];simp)
  clear houts
  rw[VL (by simp),Pc (by simp)] at l2
  by_cases hne:outs=[]
  ·subst hne
   rw[show nh ([]:List b9)=bt bv from rfl,show o8 []=ba from rfl]
   refine lv 51 [2,3] (.t<|.x (cw w)<|.h (.xs (Ac s0))<|.c (dV v)<|.h (.p (.v (.list [Ac v])))<|.h .g<|.lo [ke 2,ke 3,ch 7 (.gro 0 1 2),ke 8,ke 20,ke 21,ke 28,ke 29,ch 30 (di (j+1:Nat))] ⟨[G (Ab ([v].map eV))],[]⟩) (Y ((j:Int)<(I ws:Int))=J/\0<=(j:Int)/\(U cw ws)[Z (j:Int)]?=G (cw w)/\Q 2/\iz 0<=0/\_/\_/\(∀(τ:St),Ah PP (Oper.mk (G 44) (Op.buildSlice 29 1 #[(0,Operand.tmp 43)]) 29 "channel.go:118" #[Edge.mk 9 Ground.data] none) [dV v] τ (bt (ai [Ac v])) τ)/\[Ac v]≠ []/\(∀(y:V),y∈ [Ac v]->V.size y=2)/\Ao 1 32/\Q (bm 0 1 2)/\di (yu yt ((j:Int)+1))=di (↑(j+1):Int)/\cm 1 [] [G (dp v.n v.az)]=J/\[G (dp v.n v.az)]=[G (Ab (eV v::nV))]/\_) ⟨yr,by omega,by rw[IR,I1,hw1];rfl,rfl,Il _,hx0,hsp,fun τ=>pi v τ rfl,by simp,fun y hy=>by rw[HY.1 hy];rfl,⟨by decide,by decide⟩,rfl,Ae,rfl,?_,iK l2⟩
   show [G [di v.n,bt (dt v.az)]]=[G (Ab ([v].map eV))]
   rw[AF];rfl
  ·rw[VL hne,Pc hne]
   refine lv 51 [2,3] (.t<|.x (cw w)<|.h (.xs (Ac s0))<|.c (dV v)<|.lo [ke 2,ke 3,ch 7 (.gro 1 (I outs+1) 2),ke 8,ke 20,ke 21,ke 28,ke 29,ch 30 (di (j+1:Nat))] ⟨[none,G (Ab ((outs++[v]).map eV))],[]⟩) (Y ((j:Int)<(I ws:Int))=J/\0<=(j:Int)/\(U cw ws)[Z (j:Int)]?=G (cw w)/\Q 2/\iz 0<=0/\(ce c.az)[Z 0]?=G (Ac s0)/\F0 235 [dV c,di s0.n,di (k:Int),cx w] (dV v)/\I (em outs)=I outs*2/\[Ac v]≠ []/\(∀(y:V),y∈ [Ac v]->V.size y=2)/\Ao (I outs+I (Ac v::nV)) 32/\bm 1 (I outs+I (Ac v::nV)) 2=bm 1 (I outs+1) 2/\di (yu yt ((j:Int)+1))=di (↑(j+1):Int)/\cm 2 [] [none,G (Ab (U eV outs)++(dp v.n v.az))]=J/\[none,G (Ab (U eV outs)++(dp v.n v.az))]=[none,G (Ab (U eV (outs++[v])))]/\I0 YD 0 (dq (l,0)) ba [kl Ej [1,1,1,0,1,0,0,1,1,0,0,1,1,0,0],bf 2,bf 1,kc Ej [1,1,1,0,1,0,0,1,1,1],kl Ej iv,bf 0,kc Ej [1,1,1,1]] (cy 51 [(2,bt (iq m)),(jx c),(7,bm 1 (I outs+1) 2),(8,di (k:Int)),(20,di (I m.ay:Int)),(21,di (k:Int)),(28,bt (lc ws)),(29,di (I ws:Int)),(30,di (↑(j+1):Int))]) (bh [none,G (Ab (U eV (outs++[v])))] [])) ?_
   rw[EF]
   refine⟨yr,by omega,by rw[IR,I1,hw1];rfl,rfl,Il _,hx0,hsp,AT _,by simp,fun y hy=>by rw[HY.1 hy];rfl,⟨?_,?_⟩,rfl,Ae,?_,rfl,⟨?_⟩⟩
   ·simp only[HN,HR];omega
   ·simp only[HN,HR];omega
   ·simp[cm,Aj]
   ·rw[HW] at l2
    refine E4 (H0:=[none]) (fun E0 E h=>h.2) 1 rfl (fun cs hc=>?_) ?_ ?_ l2
    ·simp at hc;rw[hc];exact Ay _
    ·simp[cy,D.okNs,D.okN]
    ·simp[cy,D.rens,D.ren]
noncomputable abbrev Ar0:=(bw 40 [] [])
noncomputable abbrev se:=fun a₀=>(bh [G (em a₀)] [])
theorem Ajb(m:cz)(c s0:b9)(hc:c.size<=128)(hr:I m.au<=1000)(hp:I m.ay<=2)(h0:c.az[0]?=G s0)(hl:I c.az=1+I m.ay)(hw:∀(k:Nat) (x:b9),c.az[1+k]?=G x->I x.az<=12)(n:Nat):
  ∀(k:Nat) (outs:List b9),I m.ay-k=n->k<=I m.ay->outs=fq m c k->Rn PP YD 0 (dq (sortV (fq m c (I m.ay)),0)) ba ([kl Ej [1,1,1,0,1,0,0],.blk 0,kc Ej [1,1,1,1]]++[]) (cy 51 [(2,.v (.ref (A1 m))),(3,.v (.ref (Ac c))),(7,nh outs),(20,di (I m.ay)),(21,di k)]) (o8 outs):=by
 induction n with
 |zero=>
  intro k outs hn hkp houts
  rw[show I m.ay=k by omega, ←houts]
  have ho:=P6 m c k
  rw[←houts] at ho
  have hs:∀v∈outs,v.size<=200:=fun v hv=>P5 (m:=m) (K:=k) hc (by omega) (by rw[←houts];exact hv)
  clear houts
  cases outs with
  |nil=>
   rw[show sortV []=[] by simp[sortV]]
   rw[show nh ([]:List b9)=bt bv from rfl,show o8 []=ba from rfl]
   exact lv 51 [2,3] (.f<|.c (.tup []) .r) (Y ((k:Int)<(k:Int))=O/\_/\bk pw=dq ([],0)) ⟨yq,Md,rfl⟩
  |cons o outs=>
   rw[show nh (o::outs)=bm 0 (I (o::outs)) 2 from rfl,show o8 (o::outs)=⟨[G (Ab ((o::outs).map eV))],[]⟩ from rfl]
   generalize o::outs=ol at*
   have hsl:I (sortV ol)=I ol:=(AZ ol).length_eq
   refine lv 51 [2,3] (.f<|.h (.q 14 0)<|.h (.ga 7)<|.h (.oc (.tup []) ⟨[G (Ab ((sortV ol).map eV))],[]⟩)<|.h (.q 15 1)<|.h (.ct 50 (cq (sortV ol)) ⟨[none],[]⟩) .r) (Y ((k:Int)<(k:Int))=O/\(N0 [bt Ar0,bo 0 0 (I ol),bt n5] (se ol) (bk []) (bh [G (Ab (U eV (sortV ol)))] []))/\(∀(e:List D),e[50]?=G (bo 0 0 (I ol))->∀(E:cd) (g:Gh) (a:Act) (w:x5),FI E g (bh [G (Ab (U eV (sortV ol)))] []) e a w->∃g',FI E g' (bh [none] []) (List.set e 50 (cq (sortV ol))) a w)/\bk [bt (dt (sortV ol)),di 0]=dq (sortV ol,0)) ⟨yq,fun o cl fo hop hc=>?_,fun e he=>?_,rfl⟩
   ·exact Dt (H:=[Ab (ol.map eV)]) hop hc (fs:=[]) (cs:=[]) (ds:=[.arr 0 0 (I ol),dfn 41]) rfl (FZ ol (by omega) (fun v hv=>by have:=hs v hv;omega)) rfl (fun cs hm=>by rw[HY.1 hm];exact⟨Aj _ _ _,CU _⟩) rfl (Ia.2 ⟨Aj _ _ _,rfl⟩) (HP _)
   ·exact Om (σ:=⟨[G (Ab ((sortV ol).map eV))],[]⟩) (q:=0) (sz:=2) (by decide) (CX _) (by rw[HH,hsl]) rfl he
 |succ n ih=>
  intro k outs hn hkp houts
  obtain⟨x,hx⟩:∃x,c.az[1+k]?=G x:=⟨_,HI (by omega)⟩
  have hx12:=hw k x hx
  have hct:=RF c k x hx (by omega) (by omega)
  have w3:=AgF m hr (AP x) (by rw[HH];omega)
  obtain⟨w1,w2⟩:=LK m (AP x)
  have ho:=P6 m c k
  rw[←houts] at ho
  have hnx:=LB m c k
  rw[←houts,show c.az.getD (1+k) (.mk 0 [])=x by rw[HQ,hx];rfl] at hnx
  generalize EK m (AP x)=ws at w1 w2 w3 hnx
  have l2:=AlJ m c s0 x k (by omega) hc h0 hx ws w1 w2 (sortV (fq m c (I m.ay))) outs (by omega) (by rw[←hnx];exact ih (k+1) _ (by omega) (by omega) rfl) _ 0 outs rfl (by simp)
  clear houts hnx
  generalize sortV (fq m c (I m.ay))=l at l2⊢
  cases outs with
  |nil=>
   rw[show nh ([]:List b9)=bt bv from rfl,show o8 []=ba from rfl] at l2⊢
   exact lv 51 [2,3] (.t<|.c (cx (AP x))<|.c (dl (ws.map cw))<|.l [ke 2,ke 3,ke 7,ke 8,ke 20,ke 21,ke 28,ch 29 (di (I ws)),ch 30 (di (0:Nat))]) (Y ((k:Int)<(I m.ay:Int))=J/\_/\_/\di (I (U cw ws):Int)=di (I ws:Int)/\Q (di 0)/\_) ⟨yr,hct,w3,by rw[HH],rfl,iK l2⟩
  |cons o outs=>
   rw[VL (by simp),Pc (by simp)] at l2⊢
   generalize o::outs=ol at*
   exact lv 51 [2,3] (.t<|.c (cx (AP x))<|.c (dl (ws.map cw))<|.l [ke 2,ke 3,ke 7,ke 8,ke 20,ke 21,ke 28,ch 29 (di (I ws)),ch 30 (di (0:Nat))]) (Y ((k:Int)<(I m.ay:Int))=J/\_/\_/\di (I (U cw ws):Int)=di (I ws:Int)/\Q (di 0)/\_) ⟨yr,hct,w3,by rw[HH],rfl,iK l2⟩
theorem Af9(m:cz)(t:cr)(hm:nf m t)(hr:I m.au<=1000)(c:b9)(hv:Ai t c=J):F0 214 [Ad m,dV c] (dq (sortV (fq m c (I m.ay)),0)):=by
 have hsh:=hm.shape c hv
 have hsz:=hsh.size
 have hck:=AhQ m t hm c (by omega)
 rw[ov,Ie hv] at hck
 obtain⟨s0,h0⟩:∃x,c.az[0]?=G x:=⟨_,HI (by rw[hsh.len];omega)⟩
 have l2:=Ajb m c s0 hsz hr hm.few.2 h0 hsh.len hsh.word _ 0 [] rfl (by omega) rfl
 generalize sortV (fq m c (I m.ay))=l at l2⊢
 exact sv YD 51 [2,3] (.c (di 0)<|.k<|.l [ke 2,ke 3,ke 7,ch 20 (di (I m.ay)),ch 21 (di (0:Nat))]) (_/\di (I (df m.ay):Int)=di (I m.ay:Int)/\Q (di 0)/\_) ⟨hck,by rw[HH],rfl,iK l2⟩
structure vd(c:b9):Prop where
 size:c.size<=128
 len:I c.az=2
 few:∀b,c.az[1]?=G b->I b.az<=12
 toks:∀b v,c.az[1]?=G b->v∈b.az->I v.az=2
structure mn(m:cz)(t:cr):Prop where
 int:Sf m t
 chk:F0 84 [Ad m] (di 0)
 kind:m.kind=5
 few:I m.av<=12
 rule:∀r∈m.av,I r.ar<=2/\r.aq.length<=1
 shape:∀c,Ai t c=J->vd c
noncomputable abbrev oa:=Tryz.f227
noncomputable def YI:=yl oa
theorem AdV(l:List b9)(hl:I l<=1000)(ps:List (Int×Int))(hp:I ps=I l)(hv:∀(k:Nat) (v:b9),l[k]?=G v->∃a b,v.az[0]?=G a/\v.az[1]?=G b/\ps[k]?=G (a.n,b.n))(n:Nat):∀k:Nat,I l-k=n->
  Rn PP oa 0 (.acc 1 (ps.map co)) ⟨[],[(1,2,ps.map co)]⟩ ([kl YI [1,1,0,1,0,0],.blk 0,kc YI [1,1,1]]++[]) (cy 32 [(3,.acc 1 ((ps.take k).map co)),(10,cq l),(11,di (I l)),(12,di k)]) ⟨[],[(1,2,(ps.take k).map co)]⟩:=by
 induction n with
 |zero=>
  intro k hn
  refine lv 32 [1] (.f .r) (Y ((k:Int)<(I l:Int))=O/\[(1,2,U co (take k ps))]=[(1,2,U co ps)]/\br 1 (U co (take k ps))=br 1 (U co ps)) ?_
  rw[Im (by omega)]
  grind
 |succ n ih=>
  intro k hn
  obtain⟨x,hx⟩:=yk (show k<I l by omega)
  obtain⟨a,b,ha,hb,hpk⟩:=hv k x hx
  refine lv 32 [1] (.t<|.h (.xs (Ac x))<|.h (.xs (Ac a))<|.h (.xs (Ac b))<|.ls [ch 3 (.acc 1 ((ps.take (k+1)).map co)),ke 10,ke 11,ch 12 (di (k+1:Nat))] ⟨[],[(1,2,(ps.take (k+1)).map co)]⟩) (Y ((k:Int)<(I l:Int))=J/\Q 2/\0<=(k:Int)/\(U eV l)[Z (k:Int)]?=G (Ac x)/\Q 2/\iz 0<=0/\(ce x.az)[Z 0]?=G (Ac a)/\Q 2/\iz 0<=1/\(ce x.az)[Z 1]?=G (Ac b)/\Q (U co (take k ps))/\Ao (I (U co (take k ps))+I (ab (vi a.n::vi b.n::nV)::nV)) 16/\yo/\br 1 (U co (take k ps)++[ab [vi a.n,vi b.n]])=br 1 (U co (take (k+1) ps))/\di (yu yt ((k:Int)+1))=di (↑(k+1):Int)/\[(1,2,U co (take k ps)++ab (vi a.n::vi b.n::nV)::nV)]=[(1,2,U co (take (k+1) ps))]/\I0 oa 0 (br 1 (U co ps)) (bh [] [(1,2,U co ps)]) [kl YI ee,bf 0,kc YI [1,1,1]] (cy 32 [(3,br 1 (U co (take (k+1) ps))),(10,cq l),(11,di (I l:Int)),(12,di (↑(k+1):Int))]) (bh [] [(1,2,U co (take (k+1) ps))])) ?_
  have ht:(ps.take (k+1)).map co=(ps.take k).map co++[ab [vi a.n,vi b.n]]:=by rw[IW,hpk];simp
  rw[ht]
  refine⟨yr,rfl,by omega,Ap hx,rfl,Il _,Ap (i:=0) ha,rfl,by decide,Ap (i:=1) hb,rfl,⟨?_,?_⟩,ym,rfl,Ae,rfl,⟨?_⟩⟩
  all_goals grind
theorem U0(c b:b9)(hb:c.az[1]?=G b)(hl:I b.az<=1000)(ps:List (Int×Int))(hp:I ps=I b.az)(hv:∀(k:Nat) (v:b9),b.az[k]?=G v->∃a y,v.az[0]?=G a/\v.az[1]?=G y/\ps[k]?=G (a.n,y.n)):
  F0 227 [dV c] (A3 ps):=by
 have h:Aa PP 227 [dV c] ba (.acc 1 (ps.map co)) ⟨[],[(1,2,ps.map co)]⟩:=by
  exact sv oa 32 [1] (.h (.q 2 0)<|.h (.nw 3 1 2)<|.h (.xs (Ac b))<|.ls [ch 3 (.acc 1 []),ke 10,ch 11 (di (I b.az)),ch 12 (di (0:Nat))] ⟨[],[(1,2,[])]⟩) (Q 2/\iz 0<=1/\(ce c.az)[Z 1]?=G (Ac b)/\Q iw/\di (I (ce b.az):Int)=di (I b.az:Int)/\Q (di 0)/\Q [(1,2,nV)]/\_) ⟨rfl,by decide,Ap (i:=1) hb,rfl,by rw[HH],rfl,rfl,iK (AdV b.az hl ps hp hv _ 0 rfl)⟩
 exact Hu h
noncomputable abbrev ApV:=Tryz.f272
theorem TJ(s:Int)(b:b9)(hb:b.size<=10000):F0 272 [di s,dl [Ac b]] (dV (.mk 0 [.mk s [],b])):=by
 refine sv ApV 13 [] (.c (cq [b])<|.c (cq [.mk s [],b]) .r) (F0 82 [bt (ai [Ac b])] (cq [b])/\F0 291 [bt (ai [ai [ab [vi s,ai []]],dt [b]])] (cq [b9.mk s [],b])/\bt (ab [vi 0,ai [eV (fm s),eV b]])=dV (b9.mk 0 [b9.mk s [],b])) ?_
 have h1:=VO [b] (by simp) (fun x hx=>by rw[HY.1 hx];exact LH _ b (HP _) (by omega))
 rw[show cq [b]=dl [Ac b] from Ih (fun z=>dl [z]) (AG b)] at h1⊢
 have h2:=Agv [[.mk s []],[b]] (by simp) (by simp)
 refine⟨h1,?_,?_⟩
 ·have e2:bt (ai [ai [ab [vi s,ai []]],dt [b]])=dl (Qe [[.mk s []],[b]]):=by
   show _=bt (.list [.list [eV (.mk s [])],.list [eV b]])
   rw[AG];rfl
  rw[e2];exact h2
 ·rfl
abbrev uh(ps:List (Int×Int)):St:=⟨[G (Ab (ps.map co))],[]⟩
theorem KL(p:Int×Int)(l:List (Int×Int)):Ab ((p::l).map co)=[di p.1,di p.2]++Ab (l.map co):=rfl
theorem MM:∀l:List (Int×Int),I (Ab (l.map co))=I l*2
 |[]=>rfl
 |p::l=>by rw[KL,HW,MM l,HN];grind
theorem AbE(l k:List (Int×Int)):Ab ((l++k).map co)=Ab (l.map co)++Ab (k.map co):=by grind[Ab]
theorem Z4(l:List b9)(hl:I l<=1000)(ps:List (Int×Int))(hp:I ps=I l)(hv:∀(k:Nat) (v:b9),l[k]?=G v->∃a b,v.az[0]?=G a/\v.az[1]?=G b/\ps[k]?=G (a.n,b.n))(n:Nat):∀k:Nat,I l- (k+1)=n->k<I l->
  Rn PP oa 0 (.arr 0 0 (I ps)) (uh ps) ([kl YI [1,1,0,1,0,0],.blk 0,kc YI [1,1,1]]++[]) (cy 32 [(3,.gro 0 (k+1) 2),(10,cq l),(11,di (I l)),(12,di (k+1:Nat))]) (uh (ps.take (k+1))):=by
 induction n with
 |zero=>
  intro k hn hk
  refine lv 32 [1] (.f<|.h (.q 7 0)<|.h (.ga 3) .ro) (Y ((↑(k+1):Int)<(I l:Int))=O/\cm 1 [] [G (Ab (U co (take (k+1) ps)))]=J/\[G (Ab (U co (take (k+1) ps)))]=[G (Ab (U co ps))]/\bo 0 0 (k+1)=bo 0 0 (I ps)) ?_
  grind[Aj,cm]
 |succ n ih=>
  intro k hn hk
  obtain⟨x,hx⟩:=yk (show k+1<I l by omega)
  obtain⟨a,b,ha,hb,hpk⟩:=hv (k+1) x hx
  refine lv 32 [1] (.t<|.h (.xs (Ac x))<|.h (.xs (Ac a))<|.h (.xs (Ac b))<|.lo [ch 3 (.gro 2 (k+1+1) 2),ke 10,ke 11,ch 12 (di (k+1+1:Nat))] ⟨[none,G (dp x.n x.az),G (Ab ((ps.take (k+1+1)).map co))],[]⟩) (Y ((↑(k+1):Int)<(I l:Int))=J/\Q 2/\0<=(↑(k+1):Int)/\(U eV l)[Z (↑(k+1):Int)]?=G (Ac x)/\Q 2/\iz 0<=0/\(ce x.az)[Z 0]?=G (Ac a)/\Q 2/\iz 0<=1/\(ce x.az)[Z 1]?=G (Ac b)/\I (Ab (U co (take (k+1) ps)))=(k+1)*2/\[ab [vi a.n,vi b.n]]≠ []/\(∀(y:V),y∈ [ab [vi a.n,vi b.n]]->V.size y=2)/\Ao (k+1+I (ab (vi a.n::vi b.n::nV)::nV)) 16/\yo/\bm 2 (k+1+I (ab (vi a.n::vi b.n::nV)::nV)) 2=bm 2 (k+1+1) 2/\di (yu yt ((↑(k+1):Int)+1))=di (↑(k+1+1):Int)/\cm 3 [] [none,G (dp x.n x.az),G (Ab (U co (take (k+1) ps))++[di a.n,di b.n])]=J/\[none,G (dp x.n x.az),G (Ab (U co (take (k+1) ps))++[di a.n,di b.n])]=[none,G (dp x.n x.az),G (Ab (U co (take (k+1+1) ps)))]/\I0 oa 0 (bo 0 0 (I ps)) (uh ps) [kl YI ee,bf 0,kc YI [1,1,1]] (cy 32 [(3,bm 2 (k+1+1) 2),(10,cq l),(11,di (I l:Int)),(12,di (↑(k+1+1):Int))]) (bh [none,G (dp x.n x.az),G (Ab (U co (take (k+1+1) ps)))] [])) ?_
  have hk1:=(HL.1 hx).1
  have ht:(ps.take (k+1+1))=(ps.take (k+1))++[(a.n,b.n)]:=by rw[IW (i:=k+1),hpk];rfl
  have hf:Ab ((ps.take (k+1)).map co)++[di a.n,di b.n]=Ab ((ps.take (k+1+1)).map co):=by rw[ht,AbE];rfl
  have hih:=ih (k+1) (by omega) hk1
  rw[hf]
  refine⟨yr,rfl,by omega,Ap hx,rfl,Il _,Ap (i:=0) ha,rfl,by decide,Ap (i:=1) hb,by rw[MM,Ip];omega,by simp,fun y hy=>by rw[HY.1 hy];rfl,⟨?_,?_⟩,ym,rfl,Ae,?_,rfl,⟨?_⟩⟩
  ·grind
  ·grind
  ·simp[cm,D.okNs,D.okN,Aj]
  ·refine E4 (H0:=[none,G [di x.n,cq x.az]]) (fun E0 E h=>h.2) 2 rfl (fun cs hc=>?_) ?_ ?_ hih
   ·grind[Ay]
   all_goals rfl
theorem Aoo{o:yy}{t:Nat}(x:b9)(τ:St)(ho:o.op=.fieldAddr 31 (.tmp t) 0):Ah PP o [.v (.ref (Ac x))] τ (.v (.ref (vi x.n))) τ:=FU ho (fo:=0) (n:=1) (b:=false) (by kernel_rfl) (by decide) (fun _=>rfl) rfl
theorem ApU{o:yy}{t:Nat}(x:Int)(τ:St)(ho:o.op=.load 3 (.tmp t)):Ah PP o [.v (.ref (vi x))] τ (di x) τ:=FT ho (by rfl) rfl
theorem Apk{o:yy}{t t':Nat}(x y:Int)(τ:St)(ho:o.op=.build 205 #[(0,.tmp t),(1,.tmp t')]):Ah PP o [di x,di y] τ (.v (co (x,y))) τ:=UZ ho (z:=[vi 0,vi 0]) (ay:=[(0,1),(1,1)]) (by kernel_rfl) (xs:=[(0,vi x),(1,vi y)]) rfl rfl
theorem slP:BR PP 227=G (205,2,16,G (.agg #[.int .i64 0,.int .i64 0])):=by kernel_rfl
theorem Aqr{o:yy}{t:Nat}(p:Int×Int)(τ:St)(ho:o.op=.buildSlice 227 1 #[(0,.tmp t)]):Ah PP o [.v (co p)] τ (.v (.list [co p])) τ:=
 EQ ho rfl rfl slP rfl (xs:=[co p]) rfl (fun y hy=>by rw[HY.1 hy];rfl) (by decide) (by decide) (by decide)
theorem Z3(c b:b9)(hb:c.az[1]?=G b)(hl:I b.az<=1000)(hn:b.az≠ [])(ps:List (Int×Int))(hp:I ps=I b.az)(hv:∀(k:Nat) (v:b9),b.az[k]?=G v->∃a y,v.az[0]?=G a/\v.az[1]?=G y/\ps[k]?=G (a.n,y.n)):
  Aa PP 227 [dV c] ba (.arr 0 0 (I ps)) (uh ps):=by
 have hpos:=List.length_pos_iff.2 hn
 obtain⟨x,hx⟩:∃x,b.az[0]?=G x:=⟨_,HI hpos⟩
 obtain⟨a,y,ha,hy,hpk⟩:=hv 0 x hx
 have ht:ps.take 1=[(a.n,y.n)]:=by
  cases ps<;>grind
 have hih:=Z4 b.az hl ps hp hv _ 0 rfl hpos
 refine sv oa 32 [1] (.h (.xs (Ac b))<|.n<|.t<|.h (.xs (Ac x))<|.h (.xs (Ac a))<|.h (.xs (Ac y))<|.h (.p (.v (.ref (vi y.n))))<|.h (.p (di y.n))<|.h (.p (.v (co (a.n,y.n))))<|.h (.p (.v (.list [co (a.n,y.n)])))<|.h .g<|.lo [ch 3 (.gro 1 1 2),ke 10,ch 11 (di (I b.az)),ch 12 (di (1:Nat))] ⟨[G (dp x.n x.az),G (Ab ((ps.take 1).map co))],[]⟩) (Q 2/\iz 0<=1/\(ce c.az)[Z 1]?=G (Ac b)/\Y (0<(I (ce b.az):Int))=J/\Q 2/\iz 0<=0/\(ce b.az)[Z 0]?=G (Ac x)/\Q 2/\iz 0<=0/\(ce x.az)[Z 0]?=G (Ac a)/\Q 2/\iz 0<=1/\(ce x.az)[Z 1]?=G (Ac y)/\(∀(τ:St),Ah PP (Oper.mk (G 25) (Op.fieldAddr 31 (Operand.tmp 24) 0) 0 "timed.go:30" #[Edge.mk 8 Ground.data] none) [bt (jy y)] τ (bt (bz (vi y.n))) τ)/\(∀(τ:St),Ah PP (Oper.mk (G 26) (Op.load 3 (Operand.tmp 25)) 3 "timed.go:30" #[Edge.mk 9 Ground.data] none) [bt (bz (vi y.n))] τ (di y.n) τ)/\(∀(τ:St),Ah PP (Oper.mk (G 27) (Op.build 205 #[(0,Operand.tmp 21),(1,Operand.tmp 26)]) 205 "timed.go:30" #[Edge.mk 5 Ground.data,Edge.mk 10 Ground.data] none) [di a.n,di y.n] τ (bt (co (b9.n a,b9.n y))) τ)/\(∀(τ:St),Ah PP (Oper.mk (G 28) (Op.buildSlice 227 1 #[(0,Operand.tmp 27)]) 227 "timed.go:30" #[Edge.mk 11 Ground.data] none) [bt (co (b9.n a,b9.n y))] τ (bt (ai [co (b9.n a,b9.n y)])) τ)/\[co (b9.n a,b9.n y)]≠ []/\(∀(y_1:V),y_1∈ [co (b9.n a,b9.n y)]->V.size y_1=2)/\Ao 1 16/\yo/\Q (bm 1 1 2)/\di (I (ce b.az):Int)=di (I b.az:Int)/\di (yu yt (0+1))=di (↑1:Int)/\cm 2 [] [G (dp x.n x.az),G [di (b9.n a,b9.n y).fst,di (b9.n a,b9.n y).snd]]=J/\[G (dp x.n x.az),G [di (b9.n a,b9.n y).fst,di (b9.n a,b9.n y).snd]]=[G (dp x.n x.az),G (Ab (U co (take 1 ps)))]/\I0 oa (I ba.H) (bo 0 0 (I ps)) (uh ps) [kl YI ee,bf 0,kc YI [1,1,1]] (cy 32 [(3,bm 1 1 2),(10,cq b.az),(11,di (I b.az:Int)),(12,di (↑1:Int))]) (bh [G (dp x.n x.az),G (Ab (U co (take 1 ps)))] [])) ⟨rfl,by decide,Ap (i:=1) hb,HK (by grind),rfl,Il _,Ap (i:=0) hx,rfl,Il _,Ap (i:=0) ha,rfl,by decide,Ap (i:=1) hy,fun τ=>Aoo y τ rfl,fun τ=>ApU y.n τ rfl,fun τ=>Apk a.n y.n τ rfl,fun τ=>Aqr _ τ rfl,by simp,fun z hz=>by rw[HY.1 hz];rfl,⟨by decide,by decide⟩,ym,rfl,by rw[HH],Ih di (by decide),rfl,?_,⟨?_⟩⟩
 ·rw[ht];rfl
 ·refine E4 (H0:=[G [di x.n,cq x.az]]) (fun E0 E h=>h.2) 1 rfl (fun cs hc=>?_) ?_ ?_ hih
  ·grind[Ay]
  all_goals rfl
noncomputable abbrev rt:=Tryz.f229
noncomputable def rc:=yl rt
abbrev uj(xs:List b9):St:=⟨[G [di 0,.v .nils],G [di 0,.gro 2 (I xs) 2],G (Ab (xs.map eV))],[]⟩
abbrev pV(p:Int×Int):b9:=.mk 0 [.mk p.1 [],.mk p.2 []]
theorem AaE(p:Int×Int):(pV p).size=3:=rfl
theorem Aei{l k:List b9}(h:l.Perm k):b9.sizes l=b9.sizes k:=by
 induction h<;>grind[b9.sizes]
theorem ZD:∀l:List (Int×Int),b9.sizes (l.map pV)=3*I l
 |[]=>rfl
 |p::l=>by rw[Ik,b9.sizes,ZD l,AaE,HN];omega
theorem Wh(l:List (Int×Int))(hl:I l<=100):(b9.mk 0 (sortV (l.map pV))).size<=301:=by
 grind[b9.size,Aei,AZ,ZD]
theorem Apy(s:Int)(l:List (Int×Int))(hl:I l<=100):(b9.mk 0 [.mk s [],.mk 0 (sortV (l.map pV))]).size<=400:=by
 grind[Wh,b9.size,b9.sizes]
theorem vsz(s:Int)(l:List (Int×Int))(hl:I l<=100):(b9.mk 0 [.mk s [],.mk 0 (sortV (l.map pV))]).size<=1000000:=by
 grind[Apy]
theorem AgK{R:List D->St->Prop}{ks:List KI}{e e':List D}(n:Nat)(x:List D)(F:List V)(_:Nat)(_:(0:Nat)<=0)(_:(0:Nat)=0)(he:D.okNs 3 [] e'=J)(hee:e=D.rens (fun i=>if i<2 then i else i+2) id e')
  (h:A2 (CN 0) PP R ks e' ⟨[G [di 0,.v .nils],G [di 0,.gro 2 n 2],G (Ab F)],[]⟩):A2 (CN 0) PP R ks e ⟨[G [di 0,.v .nils],G [di 0,.gro 4 n 2],none,G x,G (Ab F)],[]⟩:=by
 refine C0 (σ:=⟨[G [di 0,.v .nils],G [di 0,.gro 4 n 2],none,G x,G (Ab F)],[]⟩) (e':=e') (H':=[G [di 0,.v .nils],G [di 0,.gro 2 n 2],G (Ab F)]) (m:=0) (fun _ _ h=>h.2) (fun i=>if i<2 then i else i+2) (Iu _) (fun i hi=>by omega) (fun i j _ _ h=>?_) (fun i cs hi=>?_) he hee h
 ·grind
 ·match i,hi with
  |0,hi=>simp at hi;subst hi;exact⟨rfl,rfl⟩
  |1,hi=>simp at hi;subst hi;exact⟨rfl,rfl⟩
  |2,hi=>
   grind[A6,Ay,Aj]
  |i+3,hi=>grind
theorem AcI{R:List D->St->Prop}{ks:List KI}{e e':List D}(n:Nat)(x:List D)(F:List V)(_:(0:Nat)<=0)(_:(0:Nat)=0)(he:D.okNs 3 [] e'=J)(hee:e=D.rens (fun i=>if i<2 then i else i+1) id e')
  (h:A2 (CN 0) PP R ks e' ⟨[G [di 0,.v .nils],G [di 0,.gro 2 n 2],G (Ab F)],[]⟩):A2 (CN 0) PP R ks e ⟨[G [di 0,.v .nils],G [di 0,.gro 3 n 2],G x,G (Ab F)],[]⟩:=by
 refine C0 (σ:=⟨[G [di 0,.v .nils],G [di 0,.gro 3 n 2],G x,G (Ab F)],[]⟩) (e':=e') (H':=[G [di 0,.v .nils],G [di 0,.gro 2 n 2],G (Ab F)]) (m:=0) (fun _ _ h=>h.2) (fun i=>if i<2 then i else i+1) (Iu _) (fun i hi=>by omega) (fun i j _ _ h=>?_) (fun i cs hi=>?_) he hee h
 ·grind
 ·match i,hi with
  |0,hi=>simp at hi;subst hi;exact⟨rfl,rfl⟩
  |1,hi=>simp at hi;subst hi;exact⟨rfl,rfl⟩
  |2,hi=>
   grind[A6,Ay,Aj]
  |i+3,hi=>grind
noncomputable abbrev Auq:=fun a₀ b₀=>(ab (aa yt 0::ai (ab (ia a₀)::ab (ia b₀)::nV)::nV)::nV)
noncomputable abbrev sh:=fun a₀ b₀=>(ab [vi a₀,ai (ce b₀)])
noncomputable abbrev Avx:=fun a₀ b₀=>(U pV (take (a₀+1) b₀))
theorem AgL(m:cz)(t:cr)(hm:Sf m t)(s:Int)(l:List (Int×Int))(hl:I l<=100)(v:b9)(b:Bool)(hv:v=.mk 0 [.mk s [],.mk 0 (sortV (l.map pV))])(hb:b=Ai t v)(n:Nat):∀k:Nat,I l- (k+1)=n->k<I l->
  Rn PP rt 0 (.tup [dV v,db b]) ba ([kl rc [1,1,0,1,0,0],.blk 0,kc rc [1,1,1]]++[]) (cy 44 [(1,di s),(3,.v (.ref (A1 m))),(6,.ptr 0 0),(8,.ptr 1 0),(13,A3 l),(14,di (I l)),(15,di (k+1:Nat))]) (uj ((l.take (k+1)).map pV)):=by
 induction n with
 |zero=>
  intro k hn hk
  refine lv 44 [3] (.f<|.h (.q 7 2)<|.h (.ga 34)<|.h (.oc (.tup []) ⟨[G [di 0,.v .nils],G [di 0,.gro 2 (I l) 2],G (Ab ((sortV (l.map pV)).map eV))],[]⟩)<|.h (.q 8 0)<|.h (.cs ⟨[G [di 0,.v .nils],G [di 0,cq (sortV (l.map pV))],none],[]⟩)<|.c (dV v)<|.c (db b) .r) (Y ((↑(k+1):Int)<(I l:Int))=O/\(∀(o:yy) (c:Call) (fo:x8),o.op=Op.call c->c.callee=Callee.value fo->Ah PP o [bt (bw 40 [] []),bo 2 0 (I (U pV (take (k+1) l))),bt (bw 41 [] [])] (uj (U pV (take (k+1) l))) (bk []) (bh [G [di 0,dn],G [di 0,bm 2 (I l) 2],G (Ab (U eV (sortV (U pV l))))] []))/\(∀(e:List D) (E:cd) (g:Gh) (a:Act) (w:x5),FI E g (bh [G [di 0,dn],G [di 0,bm 2 (I l) 2],G (Ab (U eV (sortV (U pV l))))] []) e a w->∃g',FI E g' (bh [G [di 0,dn],G [di 0,cq (sortV (U pV l))],none] []) e a w)/\F0 272 [di s,bt (ai [ab [vi 0,dt (sortV (U pV l))]])] (dV v)/\F0 47 [Ad m,dV v] (db b)/\yo/\bk [bt (ab [vi v.n,ai (U eV v.az)]),db b]=bk [dV v,db b]) ?_
  have e:k+1=I l:=by omega
  rw[e,Im (HP _)]
  have hsz:∀x∈l.map pV,x.size<=1000000:=fun x hx=>by obtain⟨p,_,rfl⟩:=I2.1 hx;grind[AaE]
  have hsl:I (sortV (l.map pV))=I l:=by rw[(AZ _).length_eq,HH]
  have hbs:=Wh l hl
  refine⟨yq,fun o cl fo hop hc=>?_,fun e=>?_,?_,hb▸hm.valid v (by grind[vsz]),ym,rfl⟩
  ·have:=JM (dc:=[.arr 0 0 (I l),dfn 41]) (σ:=uj (l.map pV)) (q:=2) (fs:=[]) (cs:=[]) (ds:=[.arr 2 0 (I (l.map pV)),dfn 41]) hop hc rfl (Ay _) (Ay _) (by rw[HH];exact .arr (.pl rfl .nil)) rfl (by have:=FZ (l.map pV) (by grind) hsz;rwa[HH] at this)
   grind
  ·exact Oo (σ:=⟨[G [di 0,.v .nils],G [di 0,.gro 2 (I l) 2],G (Ab ((sortV (l.map pV)).map eV))],[]⟩) (p:=1) (q:=2) (i:=1) (sz:=2) (cs:=[di 0,.gro 2 (I l) 2]) (xs:=(sortV (l.map pV)).map eV) (by decide) rfl rfl (by decide) (by grind) (CX _) e
  ·rw[hv];exact TJ s (.mk 0 (sortV (l.map pV))) (by omega)
 |succ n ih=>
  intro k hn hk
  obtain⟨x,hx⟩:=yk (show k+1<I l by omega)
  refine lv 44 [3] (.t<|.x (co x)<|.lo [ke 1,ke 3,ke 6,ke 8,ke 13,ke 14,ch 15 (di (k+1+1:Nat))] ⟨[G [di 0,.v .nils],G [di 0,.gro 4 (k+1+1) 2],none,G [di x.1,di x.2],G (Ab (((l.take (k+1+1)).map pV).map eV))],[]⟩) (Y ((↑(k+1):Int)<(I l:Int))=J/\0<=(↑(k+1):Int)/\(U co l)[Z (↑(k+1):Int)]?=G (co x)/\iz 0<=0/\0<(↑2:Int)/\iz 0<=1/\1<(↑2:Int)/\I (Ab (U eV (U pV (take (k+1) l))))=I (U pV (take (k+1) l))*2/\[ab [vi 0,ai [ab [vi x.fst,ai []],ab [vi x.snd,ai []]]]]≠ []/\(∀(y:V),y∈ [ab [vi 0,ai [ab [vi x.fst,ai []],ab [vi x.snd,ai []]]]]->V.size y=2)/\Ao (I (U pV (take (k+1) l))+I (ab (aa yt 0::ai (ab (vi x.fst::ai nV::nV)::ab (vi x.snd::ai nV::nV)::nV)::nV)::nV)) 32/\di (yu yt ((↑(k+1):Int)+1))=di (↑(k+1+1):Int)/\cm 5 [] [G [di 0,dn],G [di 0,bm 4 (I (U pV (take (k+1) l))+I (ab (aa yt 0::ai (ab (vi x.fst::ai nV::nV)::ab (vi x.snd::ai nV::nV)::nV)::nV)::nV)) 2],none,G [di x.fst,di x.snd],G (Ab (U eV (U pV (take (k+1) l)))++[di 0,bt (ai [ab [vi x.fst,ai []],ab [vi x.snd,ai []]])])]=J/\[G [di 0,dn],G [di 0,bm 4 (I (U pV (take (k+1) l))+I (ab (aa yt 0::ai (ab (vi x.fst::ai nV::nV)::ab (vi x.snd::ai nV::nV)::nV)::nV)::nV)) 2],none,G [di x.fst,di x.snd],G (Ab (U eV (U pV (take (k+1) l)))++[di 0,bt (ai (ab (vi x.fst::ai nV::nV)::ab (vi x.snd::ai nV::nV)::nV))])]=[G [di 0,dn],G [di 0,bm 4 (k+1+1) 2],none,G [di x.fst,di x.snd],G (Ab (U eV (U pV (take (k+1+1) l))))]/\I0 rt 0 (bk [dV v,db b]) ba [kl rc [1,1,0,1,0,0],bf 0,kc rc [1,1,1]] (cy 44 [(1,di s),(3,bt (bz (A1 m))),(6,bq 0 0),(8,bq 1 0),(13,bt (BU l)),(14,di (I l:Int)),(15,di (↑(k+1+1):Int))]) (bh [G [di 0,dn],G [di 0,bm 4 (k+1+1) 2],none,G [di x.fst,di x.snd],G (Ab (U eV (U pV (take (k+1+1) l))))] [])) ?_
  have hk1:=(HL.1 hx).1
  have ht:l.take (k+1+1)=l.take (k+1)++[x]:=by rw[IW (i:=k+1),hx];rfl
  have hpe:bt (ai [ab [vi x.1,ai []],ab [vi x.2,ai []]])=cq (pV x).az:=by
   rfl
  have hf:Ab (((l.take (k+1)).map pV).map eV)++[di 0,bt (ai [ab [vi x.1,ai []],ab [vi x.2,ai []]])]=Ab (((l.take (k+1+1)).map pV).map eV):=by
   rw[hpe,ht,IZ,Ha]
   congr 1
  have hih:=ih (k+1) (by omega) hk1
  have hll:I ((l.take (k+1)).map pV)=k+1:=by rw[HH,Ip];omega
  have hll2:I ((l.take (k+1+1)).map pV)=k+1+1:=by simp_all
  rw[hll,hf]
  refine⟨yr,by omega,Am hx,Il _,by decide,by decide,by decide,by rw[AT,hll],by simp,fun y hy=>by rw[HY.1 hy];rfl,⟨?_,?_⟩,Ae,?_,?_,⟨?_⟩⟩
  ·grind
  ·grind
  ·simp[cm,D.okNs,D.okN,Aj]
  ·rfl
  ·rw[uj,hll2] at hih
   exact AgK _ _ _ 0 (by decide) rfl (by rfl) (by rfl) hih
def Ek(s:Int)(l:List (Int×Int)):b9:=.mk 0 [.mk s [],.mk 0 (sortV (l.map pV))]
theorem Nr(s:Int)(l:List (Int×Int))(hl:I l<=100):(Ek s l).size<=400:=Apy s l hl
theorem PT(m:cz)(t:cr)(hm:Sf m t)(s:Int)(l:List (Int×Int))(hl:I l<=100):F0 229 [Ad m,di s,A3 l] (.tup [dV (Ek s l),db (Ai t (Ek s l))]):=by
 obtain⟨v,hv⟩:∃v:b9,v=Ek s l:=⟨_,rfl⟩
 rw[←hv]
 unfold Ek at hv
 ·cases l with
  |nil=>
   have hmv:=hm.valid v (by rw[hv];exact vsz s [] hl)
   have hn0:sortV ([].map pV)=[]:=(AZ _).eq_nil
   refine sv rt 44 [3] (.n<|.f<|.c (.tup [])<|.c (dV v)<|.c (db (Ai t v)) .r) (Y (0<(I (U co []):Int))=O/\_/\F0 272 [di s,bt (ai [ab [vi 0,ai []]])] (dV v)/\_/\yo/\Q (bk [dV v,db (Ai t v)])) ⟨by decide,Md,?_,hmv,ym,rfl⟩
   rw[hv,hn0]
   exact TJ s (.mk 0 []) (by decide)
  |cons x l=>
   have hpe:bt (ai [ab [vi x.1,ai []],ab [vi x.2,ai []]])=cq (pV x).az:=by
    show _=bt (.list [eV (.mk x.1 []),eV (.mk x.2 [])])
    rw[AG,AG];rfl
   have hf:[di 0,bt (ai [ab [vi x.1,ai []],ab [vi x.2,ai []]])]=Ab ([pV x].map eV):=by
    rw[hpe,AF];rfl
   have hlp:=AgL m t hm s (x::l) hl v _ hv rfl _ 0 rfl (by simp)
   refine sv rt 44 [3] (.h (.q 1 0)<|.h .rn<|.n<|.t<|.x (co x)<|.h (.q 5 11)<|.h .g<|.lo [ke 1,ke 3,ke 6,ke 8,ke 13,ch 14 (di (I (x::l))),ch 15 (di (1:Nat))] ⟨[G [di 0,.v .nils],G [di 0,.gro 3 1 2],G [di x.1,di x.2],G (Ab ([pV x].map eV))],[]⟩) (Y (0<(I (U co (x::l)):Int))=J/\iz 0<=0/\Q (G (co x))/\iz 0<=0/\0<(↑2:Int)/\iz 0<=1/\1<(↑2:Int)/\[ab [vi 0,ai (qg x.fst x.snd)]]≠ []/\(∀(y:V),y∈ [ab [vi 0,ai (qg x.fst x.snd)]]->V.size y=2)/\Ao 1 32/\di (I (U co (x::l)):Int)=di (I (x::l):Int)/\di (yu yt (0+1))=di (↑1:Int)/\cm 4 [] [G [di 0,dn],G [di 0,bm 3 1 2],G [di x.fst,di x.snd],G [di 0,bt (ai (qg x.fst x.snd))]]=J/\Q [G [di 0,dn],G [di 0,bm 3 1 2],G [di x.fst,di x.snd],G [di 0,bt (ai (ab (ia x.fst)::ab (ia x.snd)::nV))]]/\I0 rt (I ba.H) (bk [dV v,db (Ai t v)]) ba [kl rc ee,bf 0,kc rc [1,1,1]] (cy 44 [(1,di s),(3,bt (iq m)),jk,(8,bq 1 0),(13,A3 (x::l)),(14,di (I (x::l):Int)),(15,di (↑1:Int))]) (bh [G [di 0,dn],G [di 0,bm 3 1 2],G [di x.fst,di x.snd],G [di 0,bt (ai (qg x.fst x.snd))]] [])) ⟨HK (by simp only[HH,HN];omega),Il _,rfl,Il _,by decide,by decide,by decide,by simp,fun y hy=>by rw[HY.1 hy];rfl,⟨by decide,by decide⟩,by rw[HH],Ih di (by decide),rfl,rfl,⟨?_⟩⟩
   rw[hf]
   exact AcI _ _ _ (by decide) rfl (by simp[cy,D.okNs,D.okN]) (by simp[cy,D.rens,D.ren]) hlp
noncomputable abbrev Aoq:=Tryz.f268
theorem Z8(m:cz)(t:cr)(hm:mn m t)(c:b9)(hv:Ai t c=J):F0 268 [Ad m,dV c] (di 0):=by
 have h1:=hm.int.valid c (by have:=(hm.shape c hv).size;omega)
 rw[hv] at h1
 exact sv Aoq 20 [2,3] (.c (di 0)<|.k<|.f<|.c (db J) .r) (_/\(m.kind !=5)=O/\_/\Q (di 0)) ⟨hm.chk,by rw[hm.kind];rfl,h1,rfl⟩
def Qg(b:b9):List (Int×Int):=b.az.map fun v=>((v.az.getD 0 e8).n,(v.az.getD 1 e8).n)
theorem Pr(b:b9):I (Qg b)=I b.az:=HH _
theorem Aa4(b:b9)(h:∀v∈b.az,I v.az=2)(k:Nat)(v:b9)(hk:b.az[k]?=G v):∃a y,v.az[0]?=G a/\v.az[1]?=G y/\(Qg b)[k]?=G (a.n,y.n):=by
 grind[Qg]
def E9(m:cz)(x:Int):Int:=if yu yt (m.age+1)<yu yt (x+1) then yu yt (m.age+1) else yu yt (x+1)
theorem AbD{l:List (Int×Int)}{k:Nat}{x:Int×Int}(h:l[k]?=G x):(Ab (l.map co))[k*2+1]?=G (di x.2):=by
 induction l generalizing k with
 |nil=>grind
 |cons y l ih=>
  cases k<;>grind[KL]
theorem Rl{l:List (Int×Int)}{k:Nat}{x:Int×Int}(h:l[k]?=G x)(y:Int):(Ab (l.map co)).set (k*2+1) (di y)=Ab ((l.set k (x.1,y)).map co):=by
 induction l generalizing k with
 |nil=>rfl
 |cons z l ih=>
  cases k<;>grind[KL]
noncomputable abbrev xh:=Tryz.f215
noncomputable def Ako:=yl xh
def ft(m:cz)(ps:List (Int×Int)):List (Int×Int):=ps.map fun p=>(p.1,E9 m p.2)
noncomputable abbrev wb:=(TypeInfo.mk (TypeDesc.int yt) "int" 1 8 false 8 8 (G (Value.int yt 0)) true #[])
theorem Aef(m:cz)(c s0:b9)(h0:c.az[0]?=G s0)(ps:List (Int×Int))(N:Nat)(hpN:I ps=N)(hN:N<=100)(v:b9)(b:Bool)(v2:F0 229 [Ad m,di s0.n,A3 (ft m ps)] (.tup [dV v,db b]))(n:Nat):∀(k:Nat) (l:List (Int×Int)),N-k=n->I l=N->(∀i:Nat,l[i]?=if i<k then(ft m ps)[i]? else ps[i]?)->
  Rn PP xh 0 (.tup [dV v,di 0]) ba ([kl Ako [1,1,1,0,1,0,0],.blk 0,kc Ako [1,1,1,1]]++[]) (cy 52 [(2,.v (.ref (A1 m))),(3,.v (.ref (Ac c))),(4,.ptr 0 0),(7,.arr 1 0 N),(21,di N),(22,di k)]) ⟨[G [di 0,.v .nils],G (Ab (l.map co))],[]⟩:=by
 induction n with
 |zero=>
  intro k l hn hl hi
  have e:l=ft m ps:=ext_getElem? fun i=>by
   grind[ft]
  rw[←e] at v2
  clear hi e
  exact lv 52 [2,3] (.h (.q 6 0)<|.h (.ct 7 (A3 l) ⟨[G [di 0,.v .nils],none],[]⟩)<|.f<|.h (.dr 11)<|.h (.xs (Ac s0))<|.c (.tup [dV v,db b]) .r) ((∀(e:List D),e[7]?=G (bo 1 0 N)->∀(E:cd) (g:Gh) (a:Act) (w:x5),FI E g (bh [G [di 0,dn],G (Ab (U co l))] []) e a w->∃g',FI E g' (bh [G [di 0,dn],none] []) (List.set e 7 (A3 l)) a w)/\Y ((k:Int)<(N:Int))=O/\Q 2/\iz 0<=0/\(ce c.az)[Z 0]?=G (Ac s0)/\_/\Q [bh [G [di 0,dn],none,G [di 0,dn]] []]/\True/\Q (bk [dV v,di 0])) ⟨fun e he=>Om (σ:=⟨[G [di 0,.v .nils],G (Ab (l.map co))],[]⟩) (q:=1) (sz:=2) (by decide) (Q4 _) (by grind) rfl he,yq,rfl,Il _,Ap (i:=0) h0,v2,rfl,trivial,rfl⟩
 |succ n ih=>
  intro k l hn hl hi
  obtain⟨x,hx⟩:=yk (show k<I l by omega)
  have v2:=ih (k+1) (l.set k (x.1,E9 m x.2)) (by omega) (by rw[length_set];exact hl) (fun i=>by
   have hx':=hi k
   rw[hx,HZ (Nat.lt_irrefl k)] at hx'
   by_cases hik:i=k
   ·subst hik
    rw[List.getElem?_set_self (by omega),Ie (Nat.lt_succ_self i),ft,I1, ←hx'];rfl
   ·rw[List.getElem?_set_ne (fun h=>hik h.symm),hi i]
    by_cases h1:i<k
    ·rw[Ie h1,Ie (by omega)]
    ·rw[HZ h1,HZ (by omega)])
  have e1:0+Z (k:Int)*2+Z 1*1=k*2+1:=by omega
  refine lv 52 [2,3] (.t<|.m (di x.2)<|.w<|.lo [ke 2,ke 3,ke 4,ke 7,ke 21,ch 22 (di (k+1:Nat))] ⟨[G [di 0,.v .nils],G (Ab ((l.set k (x.1,E9 m x.2)).map co))],[]⟩) (Y ((k:Int)<(N:Int))=J/\0<=(k:Int)/\(k:Int)<(N:Int)/\iz 0<=1/\1<(↑2:Int)/\(Ab (U co l))[0+Z (k:Int)*2+Z 1*(1,match wb.desc with|TypeDesc.struct fields=>true|TypeDesc.array len elem=>true|x=>false).fst]?=G (di x.snd)/\0<=(k:Int)/\(k:Int)<(N:Int)/\iz 0<=1/\1<(↑2:Int)/\0+Z (k:Int)*2+Z 1*(1,match wb.desc with|TypeDesc.struct fields=>true|TypeDesc.array len elem=>true|x=>false).fst<I (Ab (U co l))/\yp/\di (yu yt ((k:Int)+1))=di (↑(k+1):Int)/\cm 2 [] [G [di 0,dn],G (List.set (Ab (U co l)) (0+Z (k:Int)*2+Z 1*(1,match wb.desc with|TypeDesc.struct fields=>true|TypeDesc.array len elem=>true|x=>false).fst) (di (if yu yt (m.age+1)<yu yt (x.snd+1) then yu yt (m.age+1) else yu yt (x.snd+1))))]=J/\[G [di 0,dn],G (List.set (Ab (U co l)) (0+Z (k:Int)*2+Z 1*(1,match wb.desc with|TypeDesc.struct fields=>true|TypeDesc.array len elem=>true|x=>false).fst) (di (if yu yt (m.age+1)<yu yt (x.snd+1) then yu yt (m.age+1) else yu yt (x.snd+1))))]=[G [di 0,dn],G (Ab (U co (List.set l k (x.fst,E9 m x.snd))))]/\_) ⟨yr,by omega,by omega,by decide,by decide,?_,by omega,by omega,by decide,by decide,?_,yn,Ae,?_,?_,iK v2⟩
  ·show(Ab (l.map co))[0+Z (k:Int)*2+Z 1*1]?=_
   rw[e1];exact AbD hx
  ·show 0+Z (k:Int)*2+Z 1*1<_
   rw[e1,MM];omega
  ·show cm 2 [] [G [di 0,bt bv],G ((Ab (l.map co)).set (0+Z (k:Int)*2+Z 1*1) (di (E9 m x.2)))]=J
   rw[e1,Rl hx];simp[cm,D.okNs,D.okN,Aj]
  grind[E9,Rl]
def nz(m:cz)(c:b9):b9:=Ek (c.az.getD 0 e8).n (ft m (Qg (c.az.getD 1 e8)))
theorem U2(m:cz)(t:cr)(hm:mn m t)(c:b9)(hv:Ai t c=J):(nz m c).size<=1000/\F0 215 [Ad m,dV c] (.tup [dV (nz m c),di 0]):=by
 have hsh:=hm.shape c hv
 have hck:=Z8 m t hm c hv
 obtain⟨s0,h0⟩:∃x,c.az[0]?=G x:=⟨_,HI (by rw[hsh.len];omega)⟩
 obtain⟨b,hb⟩:∃x,c.az[1]?=G x:=⟨_,HI (by rw[hsh.len];omega)⟩
 have hb12:=hsh.few b hb
 have hpl:=Pr b
 have hol:I (ft m (Qg b))=I b.az:=by grind[ft]
 have e0:c.az.getD 0 e8=s0:=by grind
 have e1:c.az.getD 1 e8=b:=by grind
 rw[nz,e0,e1]
 have v1:=Nr s0.n (ft m (Qg b)) (by omega)
 have v2:=PT m t hm.int s0.n (ft m (Qg b)) (by omega)
 refine⟨by omega,?_⟩
 generalize Ek s0.n (ft m (Qg b))=v at v1 v2⊢
 generalize Ai t v=x at v2
 by_cases hn:b.az=[]
 ·have ht:=U0 c b hb (by omega) [] (by grind) (fun k v hk=>by grind)
  rw[show ft m (Qg b)=[] by grind] at v2
  exact sv xh 52 [2,3] (.c (di 0)<|.k<|.c (A3 [])<|.n<|.f<|.h (.dr 11)<|.h (.xs (Ac s0))<|.c (.tup [dV v,db x]) .r) (_/\_/\Y (0<(I (U co []):Int))=O/\Q 2/\iz 0<=0/\(ce c.az)[Z 0]?=G (Ac s0)/\_/\Q [bh [G [di 0,dn],G [di 0,dn]] []]/\True/\Q (bk [dV v,di 0])) ⟨hck,ht,rfl,rfl,Il _,Ap (i:=0) h0,v2,rfl,trivial,rfl⟩
 ·have ht:=Z3 c b hb (by omega) hn (Qg b) hpl (Aa4 b fun v hv=>hsh.toks b v hb hv)
  have v3:=Aef m c s0 h0 (Qg b) (I (Qg b)) rfl (by omega) v x v2 _ 0 (Qg b) rfl rfl (fun i=>by rfl)
  clear v2
  generalize Qg b=ps at ht v3
  exact sv xh 52 [2,3] (.c (di 0)<|.k<|.h (.oc (.arr 1 0 (I ps)) ⟨[G [di 0,.v .nils],G (Ab (ps.map co))],[]⟩)<|.lo [ke 2,ke 3,ke 4,ke 7,ch 21 (di (I ps)),ch 22 (di (0:Nat))] ⟨[G [di 0,.v .nils],G (Ab (ps.map co))],[]⟩) (_/\(N0 [bt (bw 227 [] []),dV c] sg (bo 1 0 (I ps)) (bh [G [di 0,dn],G (Ab (U co ps))] []))/\Q (di (I ps:Int))/\Q (di 0)/\cm 2 [] [G [di 0,dn],G (Ab (U co ps))]=J/\Q [G [di 0,dn],G (Ab (U co ps))]/\_) ⟨hck,fun o cl fo ho hc=>D3 (σ:=⟨[G [di 0,.v .nils]],[]⟩) (fs:=[]) (cs:=[]) (ds:=[dV c]) ho hc rfl (Ay _) ht,rfl,rfl,by simp[cm,D.okNs,D.okN,Aj],rfl,iK v3⟩
theorem Adk(l:List b9):I (Ab (l.map eV))=I l*2:=AT l
theorem Ev{l:List b9}{i:Nat}{x:b9}(h:l[i]?=G x):i*2+2<=I (Ab (l.map eV)):=by
 grind[AT]
theorem FP{l:List b9}{i:Nat}{x:b9}(h:l[i]?=G x):((Ab (l.map eV)).drop (i*2)).take 2=[.v (vi x.n),.v (dt x.az)]:=Ep h
theorem Ws:∀(l:List b9) (k:Nat),(Ab (l.map eV)).take (k*2)=Ab ((l.take k).map eV)
 |[],k=>by simp[Ab]
 |v::l,0=>rfl
 |v::l,k+1=>by
  rw[AF,List.take_succ_cons,AF, ←Ws l k,show(k+1)*2=k*2+1+1 by omega];rfl
theorem Qd:∀(l:List b9) (k:Nat) (x:b9) (_:k<I l),(Ab (l.map eV)).take (k*2)++[bt (vi x.n),bt (dt x.az)]++(Ab (l.map eV)).drop (k*2+2)=Ab ((l.set k x).map eV)
 |v::l,0,x,_=>by grind[AF]
 |v::l,k+1,x,h=>by
  rw[Jn,AF,AF, ←Qd l k x (by grind),show(k+1)*2=k*2+1+1 by omega];rfl
theorem Ahk(k:Nat):(((replicate k [vi 0,bv]).flatten.map bt).all D.one)=J:=by
 induction k with
 |zero=>rfl
 |succ k ih=>simp only[IC,Jp,IZ,List.all_append,ih];rfl
theorem Ae4:BR PP 29=G (31,2,32,G (.agg #[.int .i64 0,.slice none 0 0])):=by kernel_rfl
theorem TH(l:List V){R:List D}(h:D.pls R=J):D.pls (Ab l++R)=J:=by grind[Ds,Ay]
noncomputable abbrev mx:=Tryz.f224
noncomputable def Fh:=yl mx
noncomputable abbrev Asa:=[kl Fh [1,1,0,1,0,0,1,0,0,1,0,1,0,1,0,0],bf 2,kc Fh [1,1,0,1,0,0,1,0,0,1,0,1,1],bf 1,kc Fh [1,1,0,1,0,0,1,1],kl Fh ee,bf 0,kc Fh [1,1,1]]
theorem An5(F:yx)(l:List b9)(q:b9->b9->Bool)(hl:I l<=1000)(hq:∀x∈l,∀y∈l,F0 F [dV x,dV y] (db (q x y)))(k0:Nat)(h0:1<=k0)(h1:k0<I l)(n:Nat):∀(k j:Nat) (A:List b9),I l-k0-j=n->1<=k->1<=j->k<k0+j->j<=I l-k0->I A=I l->(∀x∈A,x∈l)->(∀i:Nat,k0+j-1<=i->A[i]?=l[i]?)->(∀p,l[k0+j-1]?=G p->A.take k++Cf q p (l.drop (k0+j))=AM q l)->
  ∃(ys:List b9) (R:List D),ys=AM q l/\D.pls R=J/\R.all D.one=J/\Rn PP mx 1 (.arr 0 0 (I ys)) ⟨[G (Ab (ys.map eV)++R)],[]⟩ ([kl Fh [1,1,0,1,0,0,1,0,0,1,0,1,0,1,0,0],.blk 2,kc Fh [1,1,0,1,0,0,1,0,0,1,0,1,1],.blk 1,kc Fh [1,1,0,1,0,0,1,1],kl Fh [1,1,0,1,0,0],.blk 0,kc Fh [1,1,1]]++[]) (cy 66 [(0,.arr 0 0 (I l)),(1,dfn F),(5,di k),(6,.arr 0 (k0*2) (I l-k0)),(7,di j)]) ⟨[G (Ab (A.map eV))],[]⟩:=by
 induction n with
 |zero=>
  intro k j A hn hk hj hkj hjl hA hAl hAe hT
  refine⟨A.take k,(replicate (I l-k) [vi 0,bv]).flatten.map .v,?_,?_,?_,?_⟩
  ·obtain⟨p,hp⟩:∃p,l[k0+j-1]?=G p:=⟨_,HI (by omega)⟩
   have:=hT p hp
   rw[Ic (by omega),Cf,I8] at this
   exact this
  ·exact Ca _
  ·exact Ahk _
  have hkl:k<I l:=by omega
  have hsl:∀(o:yy) (x:x8) (y:x8) (τ:St),o.op=.slice 29 x (G y) none none->Ah PP o [.arr 0 0 (I l),di k] τ (.arr 0 (k*2) (I l-k)) τ:=fun o x y τ ho=>by
   have:=CT (P:=PP) (o:=o) (σ:=τ) ho Ae4 (q:=0) (off:=0) (len:=I l) (G (.i64,(k:Int))) none rfl rfl (l':=k) (h':=I l) (by simp[C9];omega) hkl
   rwa[I4] at this
  have hsh:∀(o:yy) (x:x8) (y:x8) (τ:St),o.op=.slice 29 x none (G y) none->Ah PP o [.arr 0 0 (I l),di k] τ (.arr 0 0 k) τ:=fun o x y τ ho=>by
   have:=CT (P:=PP) (o:=o) (σ:=τ) ho Ae4 (q:=0) (off:=0) (len:=I l) none (G (.i64,(k:Int))) rfl rfl (l':=0) (h':=k) (by simp[C9];omega) (by omega)
   rwa[Nat.zero_mul,IG,Nat.sub_zero] at this
  have hfl:I (Ab (A.map eV))=I l*2:=by rw[Adk,hA]
  have hcl:=fun(o:yy) (x:x8) (ho:o.op=.call { callee:=.builtin .clear,args:= #[x],argTypes:= #[29]})=>Mz (P:=PP) (o:=o) (σ:=⟨[G (Ab (A.map eV))],[]⟩) ho Ae4 (zs:=[vi 0,.nils]) rfl rfl (q:=0) (off:=k*2) (len:=I l-k) rfl (by omega) (by rw[hfl];omega)
  have hd:(Ab (A.map eV)).drop (k*2+(I l-k)*2)=[]:=Ic (by rw[hfl];omega)
  have htk:(Ab (A.map eV)).take (k*2)=Ab ((A.take k).map eV):=Ws A k
  rw[hd,htk,I8] at hcl
  refine lv 66 [] (.f<|.h (.q 14 2)<|.h (.o (.arr 0 (k*2) (I l-k)) ⟨[G (Ab (A.map eV))],[]⟩)<|.h (.o (.tup []) ⟨[G (Ab ((A.take k).map eV)++(replicate (I l-k) [vi 0,bv]).flatten.map .v)],[]⟩)<|.h (.q 15 2)<|.h (.o (.arr 0 0 k) ⟨[G (Ab ((A.take k).map eV)++(replicate (I l-k) [vi 0,bv]).flatten.map .v)],[]⟩) .ro) (Y ((j:Int)<(↑(I l-k0):Int))=O/\Ah PP (Oper.mk (G 61) (Op.slice 29 (Operand.tmp 59) (G (Operand.tmp 60)) none none) 29 "slices.go:410" #[Edge.mk 0 Ground.data,Edge.mk 1 Ground.data] none) [bo 0 0 (I l),di (k:Int)] (se A) (bo 0 (k*2) (I l-k)) (se A)/\Ah PP (Oper.mk none (Op.call (Call.mk (Callee.builtin Builtin.clear) #[Operand.tmp 61] #[29])) 0 "slices.go:410" #[Edge.mk 2 Ground.data] none) [bo 0 (k*2) (I l-k)] (se A) (bk []) (bh [G (Ab (jl k A)++U bt (flatten (replicate (I l-k) [vi 0,bv])))] [])/\Ah PP (Oper.mk (G 64) (Op.slice 29 (Operand.tmp 62) none (G (Operand.tmp 63)) none) 29 "slices.go:411" #[Edge.mk 0 Ground.data,Edge.mk 1 Ground.data] none) [bo 0 0 (I l),di (k:Int)] (bh [G (Ab (jl k A)++U bt (flatten (replicate (I l-k) [vi 0,bv])))] []) (bo 0 0 k) (bh [G (Ab (jl k A)++U bt (flatten (replicate (I l-k) [vi 0,bv])))] [])/\cm 1 [] [G (Ab (jl k A)++U bt (flatten (replicate (I l-k) [vi 0,bv])))]=J/\Q [G (Ab (jl k A)++U bt (flatten (replicate (I l-k) (vi 0::bv::nV))))]/\bo 0 0 k=bo 0 0 (I (take k A))) ⟨yq,hsl _ _ _ _ rfl,hcl _ _ rfl,hsh _ _ _ _ rfl,?_,rfl,by rw[Ip,hA,Nat.min_eq_left (by omega)]⟩
  exact Ia.2 ⟨AO (TH _ (Ca _)),rfl⟩
 |succ n ih=>
  intro k j A hn hk hj hkj hjl hA hAl hAe hT
  obtain⟨x,hx⟩:=yk (show k0+j<I A by omega)
  obtain⟨y,hy⟩:=yk (show k0+j-1<I A by omega)
  have hc:=hq x (hAl x (HO hx)) y (hAl y (HO hy))
  have hw1:yt.wrap ((j:Int)-1)=((j-1:Nat):Int):=by rw[Ak];omega
  have hT':=hT y (by rw[←hAe _ (HP _)];exact hy)
  have hx':l[k0+j]?=G x:=by rw[←hAe _ (by omega)];exact hx
  rw[de hx',Cf] at hT'
  cases hb:q x y with
  |true=>
   rw[hb] at hc
   obtain⟨ys,R,r1,r3,r5,r4⟩:=ih k (j+1) A (by omega) hk (by omega) (by omega) (by omega) hA hAl (fun i hi=>hAe i (by omega)) (fun p hp=>by
    have e:x=p:=Ij (hx'.symm.trans hp)
    rw[hb,Ie rfl,e] at hT';exact hT')
   refine⟨ys,R,r1,r3,r5,?_⟩
   refine lv 66 [] (.t<|.m (dV x)<|.m (dV y)<|.c (db J)<|.lo [ke 0,ke 1,ke 5,ke 6,ch 7 (di (j+1:Nat))] ⟨[G (Ab (A.map eV))],[]⟩) (Y ((j:Int)<(↑(I l-k0):Int))=J/\0<=(j:Int)/\(j:Int)<(↑(I l-k0):Int)/\k0*2+Z (j:Int)*2+2<=I (em A)/\take 2 (W (k0*2+Z (j:Int)*2) (em A))=(dp x.n x.az)/\0<=yu yt ((j:Int)-1)/\yu yt ((j:Int)-1)<(↑(I l-k0):Int)/\k0*2+Z (yu yt ((j:Int)-1))*2+2<=I (em A)/\take 2 (W (k0*2+Z (yu yt ((j:Int)-1))*2) (em A))=(dp y.n y.az)/\F0 F [dV x,dV y] (db J)/\yo/\di (yu yt ((j:Int)+1))=di (↑(j+1):Int)/\cm 1 [] [G (em A)]=J/\Q [G (em A)]/\I0 mx 1 (bo 0 0 (I ys)) (bh [G (Ab (U eV ys)++R)] []) Asa (cy 66 [(0,bo 0 0 (I l)),(n8 F),(5,di (k:Int)),(6,bo 0 (k0*2) (I l-k0)),(7,di (↑(j+1):Int))]) (se A)) ?_
   rw[hw1]
   refine⟨yr,by omega,by omega,by rw[show k0*2+Z (j:Int)*2=(k0+j)*2 by omega];have:=Ev hx;omega,by rw[show k0*2+Z (j:Int)*2=(k0+j)*2 by omega];exact FP hx,by omega,by omega,by rw[show k0*2+Z ((j-1:Nat):Int)*2=(k0+j-1)*2 by omega];have:=Ev hy;omega,by rw[show k0*2+Z ((j-1:Nat):Int)*2=(k0+j-1)*2 by omega];exact FP hy,hc,ym,Ae,Ia.2 ⟨Aj 1 [] _,rfl⟩,rfl,⟨r4⟩⟩
  |false=>
   rw[hb] at hc
   have hA2:∀z∈A.set k x,z∈l:=fun z hz=>by
    rcases IN hz with h|h
    ·exact hAl z h
    ·rw[h];exact hAl x (HO hx)
   obtain⟨ys,R,r1,r3,r5,r4⟩:=ih (k+1) (j+1) (A.set k x) (by omega) (by omega) (by omega) (by omega) (by omega) (by rw[length_set];exact hA) hA2 (fun i hi=>by rw[List.getElem?_set_ne (by omega)];exact hAe i (by omega)) (fun p hp=>by
    have e:x=p:=Ij (hx'.symm.trans hp)
    rw[hb,HZ (by decide)] at hT'
    rw[JF (by omega),IQ,List.singleton_append, ←e];exact hT')
   refine⟨ys,R,r1,r3,r5,?_⟩
   refine lv 66 [] (.t<|.m (dV x)<|.m (dV y)<|.c (db O)<|.m (dV x)<|.h .ww<|.lo [ke 0,ke 1,ch 5 (di (k+1:Nat)),ke 6,ch 7 (di (j+1:Nat))] ⟨[G (Ab ((A.set k x).map eV))],[]⟩) (Y ((j:Int)<(↑(I l-k0):Int))=J/\0<=(j:Int)/\(j:Int)<(↑(I l-k0):Int)/\k0*2+Z (j:Int)*2+2<=I (em A)/\take 2 (W (k0*2+Z (j:Int)*2) (em A))=(dp x.n x.az)/\0<=yu yt ((j:Int)-1)/\yu yt ((j:Int)-1)<(↑(I l-k0):Int)/\k0*2+Z (yu yt ((j:Int)-1))*2+2<=I (em A)/\take 2 (W (k0*2+Z (yu yt ((j:Int)-1))*2) (em A))=(dp y.n y.az)/\F0 F [dV x,dV y] (db O)/\yo/\0<=(j:Int)/\(j:Int)<(↑(I l-k0):Int)/\k0*2+Z (j:Int)*2+2<=I (em A)/\take 2 (W (k0*2+Z (j:Int)*2) (em A))=(dp x.n x.az)/\0<=(k:Int)/\(k:Int)<(I l:Int)/\0+Z (k:Int)*2+2<=I (em A)/\di (yu yt ((k:Int)+1))=di (↑(k+1):Int)/\di (yu yt ((j:Int)+1))=di (↑(j+1):Int)/\cm 1 [] [G (take (0+Z (k:Int)*2) (em A)++(dp x.n x.az)++W (0+Z (k:Int)*2+2) (em A))]=J/\[G (take (0+Z (k:Int)*2) (em A)++(dp x.n x.az)++W (0+Z (k:Int)*2+2) (em A))]=[G (Ab (U eV (List.set A k x)))]/\I0 mx 1 (bo 0 0 (I ys)) (bh [G (Ab (U eV ys)++R)] []) Asa (cy 66 [(0,bo 0 0 (I l)),(n8 F),(5,di (↑(k+1):Int)),(6,bo 0 (k0*2) (I l-k0)),(7,di (↑(j+1):Int))]) (bh [G (Ab (U eV (List.set A k x)))] [])) ?_
   rw[hw1]
   refine⟨yr,by omega,by omega,by rw[show k0*2+Z (j:Int)*2=(k0+j)*2 by omega];have:=Ev hx;omega,by rw[show k0*2+Z (j:Int)*2=(k0+j)*2 by omega];exact FP hx,by omega,by omega,by rw[show k0*2+Z ((j-1:Nat):Int)*2=(k0+j-1)*2 by omega];have:=Ev hy;omega,by rw[show k0*2+Z ((j-1:Nat):Int)*2=(k0+j-1)*2 by omega];exact FP hy,hc,ym,by omega,by omega,by rw[show k0*2+Z (j:Int)*2=(k0+j)*2 by omega];have:=Ev hx;omega,by rw[show k0*2+Z (j:Int)*2=(k0+j)*2 by omega];exact FP hx,by omega,by omega,by rw[Adk];omega,Ae,Ae,?_,?_,⟨r4⟩⟩
   ·rw[show 0+Z (k:Int)*2=k*2 by omega,Qd A k x (by omega)]
    exact Ia.2 ⟨Aj 1 [] _,rfl⟩
   ·rw[show 0+Z (k:Int)*2=k*2 by omega,Qd A k x (by omega)]
theorem AjX(F:yx)(l:List b9)(q:b9->b9->Bool)(hl:I l<=1000)(hq:∀x∈l,∀y∈l,F0 F [dV x,dV y] (db (q x y)))(n:Nat):∀(k:Nat),I l-k=n->1<=k->k<=I l->(∀p,l[k-1]?=G p->l.take k++Cf q p (l.drop k)=AM q l)->
  ∃(ys:List b9) (R:List D),ys=AM q l/\D.pls R=J/\R.all D.one=J/\Rn PP mx 1 (.arr 0 0 (I ys)) ⟨[G (Ab (ys.map eV)++R)],[]⟩ ([kl Fh [1,1,0,1,0,0],.blk 0,kc Fh [1,1,1]]++[]) (cy 66 [(0,.arr 0 0 (I l)),(1,dfn F),(5,di k)]) ⟨[G (Ab (l.map eV))],[]⟩:=by
 induction n with
 |zero=>
  intro k hn hk hkl hT
  refine⟨l,[],?_,rfl,rfl,?_⟩
  ·obtain⟨p,hp⟩:∃p,l[k-1]?=G p:=⟨_,HI (by omega)⟩
   have:=hT p hp
   rw[Ic (by omega),Cf,I8,Im (by omega)] at this
   exact this
  refine lv 66 [] (.f .ro) (Y ((k:Int)<(I l:Int))=O/\cm 1 [] [G (Ab (U eV l))]=J/\[G (Ab (U eV l))]=[G (Ab (U eV l)++[])]/\Q (bo 0 0 (I l))) ?_
  grind[Aj,cm]
 |succ n ih=>
  intro k hn hk hkl' hT
  obtain⟨x,hx⟩:=yk (show k<I l by omega)
  obtain⟨y,hy⟩:=yk (show k-1<I l by omega)
  have hc:=hq x (HO hx) y (HO hy)
  have hkl:k<I l:=by omega
  have hw1:yt.wrap ((k:Int)-1)=((k-1:Nat):Int):=by grind[Ak]
  have hT':=hT y hy
  rw[de hx,Cf] at hT'
  cases hb:q x y with
  |true=>
   rw[hb] at hc
   obtain⟨ys,R,r1,r3,r5,r4⟩:=An5 F l q hl hq k hk (by omega) _ k 1 l rfl hk (by omega) (by omega) (by omega) rfl (fun x h=>h) (fun _ _=>rfl) (fun p hp=>by
    grind)
   refine⟨ys,R,r1,r3,r5,?_⟩
   refine lv 66 [] (.t<|.m (dV x)<|.m (dV y)<|.c (db J)<|.k<|.h (.q 7 2)<|.h (.o (.arr 0 (k*2) (I l-k)) ⟨[G (Ab (l.map eV))],[]⟩)<|.lo [ke 0,ke 1,ke 5,ke 6,ch 7 (di (1:Nat))] ⟨[G (Ab (l.map eV))],[]⟩) (Y ((k:Int)<(I l:Int))=J/\0<=(k:Int)/\(k:Int)<(I l:Int)/\0+Z (k:Int)*2+2<=I (Ab (U eV l))/\take 2 (W (0+Z (k:Int)*2) (Ab (U eV l)))=[di x.n,cq x.az]/\0<=yu yt ((k:Int)-1)/\yu yt ((k:Int)-1)<(I l:Int)/\0+Z (yu yt ((k:Int)-1))*2+2<=I (Ab (U eV l))/\take 2 (W (0+Z (yu yt ((k:Int)-1))*2) (Ab (U eV l)))=[di y.n,cq y.az]/\F0 F [dV x,dV y] (db J)/\yo/\Ah PP (Oper.mk (G 31) (Op.slice 29 (Operand.tmp 29) (G (Operand.tmp 30)) none none) 29 "slices.go:402" #[Edge.mk 0 Ground.data,Edge.mk 1 Ground.data] none) [bo 0 0 (I l),di (k:Int)] (bh [G (Ab (U eV l))] []) (bo 0 (k*2) (I l-k)) (bh [G (Ab (U eV l))] [])/\di 1=di (↑1:Int)/\cm 1 [] [G (Ab (U eV l))]=J/\Q [G (Ab (U eV l))]/\I0 mx 1 (bo 0 0 (I ys)) (bh [G (Ab (U eV ys)++R)] []) [kl Fh [1,1,0,1,0,0,1,0,0,1,0,1,0,1,0,0],bf 2,kc Fh [1,1,0,1,0,0,1,0,0,1,0,1,1],bf 1,kc Fh [1,1,0,1,0,0,1,1],kl Fh [1,1,0,1,0,0],bf 0,kc Fh [1,1,1]] (cy 66 [(0,bo 0 0 (I l)),(1,bt (bw F [] [])),(5,di (k:Int)),(6,bo 0 (k*2) (I l-k)),(7,di (↑1:Int))]) (bh [G (Ab (U eV l))] [])) ?_
   have hsl:∀(o:yy) (x:x8) (y:x8) (τ:St),o.op=.slice 29 x (G y) none none->Ah PP o [.arr 0 0 (I l),di k] τ (.arr 0 (k*2) (I l-k)) τ:=fun o x y τ ho=>by
    have:=CT (P:=PP) (o:=o) (σ:=τ) ho Ae4 (q:=0) (off:=0) (len:=I l) (G (.i64,(k:Int))) none rfl rfl (l':=k) (h':=I l) (by simp[C9];omega) hkl
    rwa[I4] at this
   rw[hw1]
   exact⟨yr,by omega,by omega,by have:=Ev hx;omega,by grind[Int.toNat,FP],by omega,by omega,by have:=Ev hy;omega,by grind[Int.toNat,FP],hc,ym,hsl _ _ _ _ rfl,rfl,Ia.2 ⟨Aj 1 [] _,rfl⟩,rfl,⟨r4⟩⟩
  |false=>
   rw[hb] at hc
   obtain⟨ys,R,r1,r3,r5,r4⟩:=ih (k+1) (by omega) (by omega) (by omega) (fun p hp=>by
    grind[List.take_add_one])
   refine⟨ys,R,r1,r3,r5,?_⟩
   refine lv 66 [] (.t<|.m (dV x)<|.m (dV y)<|.c (db O)<|.lo [ke 0,ke 1,ch 5 (di (k+1:Nat))] ⟨[G (Ab (l.map eV))],[]⟩) (Y ((k:Int)<(I l:Int))=J/\0<=(k:Int)/\(k:Int)<(I l:Int)/\0+Z (k:Int)*2+2<=I (Ab (U eV l))/\take 2 (W (0+Z (k:Int)*2) (Ab (U eV l)))=[di x.n,cq x.az]/\0<=yu yt ((k:Int)-1)/\yu yt ((k:Int)-1)<(I l:Int)/\0+Z (yu yt ((k:Int)-1))*2+2<=I (Ab (U eV l))/\take 2 (W (0+Z (yu yt ((k:Int)-1))*2) (Ab (U eV l)))=[di y.n,cq y.az]/\F0 F [dV x,dV y] (db O)/\yo/\di (yu yt ((k:Int)+1))=di (↑(k+1):Int)/\cm 1 [] [G (Ab (U eV l))]=J/\Q [G (Ab (U eV l))]/\I0 mx 1 (bo 0 0 (I ys)) (bh [G (Ab (U eV ys)++R)] []) [kl Fh [1,1,0,1,0,0],bf 0,kc Fh [1,1,1]] (cy 66 [(0,bo 0 0 (I l)),(1,bt (bw F [] [])),(5,di (↑(k+1):Int))]) (bh [G (Ab (U eV l))] [])) ?_
   rw[hw1]
   exact⟨yr,by omega,by omega,by have:=Ev hx;omega,by grind[Int.toNat,FP],by omega,by omega,by have:=Ev hy;omega,by grind[Int.toNat,FP],hc,ym,Ae,Ia.2 ⟨Aj 1 [] _,rfl⟩,rfl,⟨r4⟩⟩
theorem An6(F:yx)(l:List b9)(q:b9->b9->Bool)(hl:I l<=1000)(hq:∀x∈l,∀y∈l,F0 F [dV x,dV y] (db (q x y))):
  ∃R:List D,D.pls R=J/\R.all D.one=J/\Aa PP 224 [.arr 0 0 (I l),dfn F] ⟨[G (Ab (l.map eV))],[]⟩ (.arr 0 0 (I (AM q l))) ⟨[G (Ab ((AM q l).map eV)++R)],[]⟩:=by
 by_cases h2:I l<2
 ·refine⟨[],rfl,rfl,?_⟩
  rw[JZ q h2]
  exact sv mx 66 [] (.t .ro) (Y ((I l:Int)<2)=J/\cm 1 [] [G (em l)]=J/\[G (em l)]=[G (Ab (U eV l)++[])]/\Q (bo 0 0 (I l))) ⟨yr,Ia.2 ⟨Aj 1 [] _,rfl⟩,by rw[I8],rfl⟩
 ·obtain⟨ys,R,r1,r3,r5,r4⟩:=AjX F l q hl hq _ 1 rfl (HP _) (by omega) (fun p hp=>MZ hp)
  subst r1
  refine⟨R,r3,r5,?_⟩
  exact sv mx 66 [] (.f<|.lo [ke 0,ke 1,ch 5 (di (1:Nat))] ⟨[G (Ab (l.map eV))],[]⟩) (Y ((I l:Int)<2)=O/\Q (di 1)/\cm 1 [] [G (em l)]=J/\Q [G (em l)]/\_) ⟨yq,rfl,Ia.2 ⟨Aj 1 [] _,rfl⟩,rfl,iK r4⟩
abbrev AnT(x:V):D:=.v (.ref x)
abbrev DP(m:cz)(r:cf)(ms:List (Int×Int)):List D:=[AnT (A1 m),AnT (Al r),AnT (BU ms),.ptr 0 0,.ptr 1 0]
abbrev CQ(b:Bool)(xs:List b9):St:=⟨[G [.gro 2 (I xs) 2],G [db b],G (Ab (xs.map eV))],[]⟩
abbrev FX(b:Bool)(xs:List b9):St:=⟨[G [.gro 3 (I xs) 2],G [db b],none,G (Ab (xs.map eV))],[]⟩
noncomputable abbrev VE:=Tryz.f228
noncomputable abbrev w0:=(Oper.mk (G 22) (Op.buildSlice 29 1 #[(0,Operand.tmp 21)]) 29 "timed.go:85" #[Edge.mk 1 Ground.data] none)
theorem AoZ(m:cz)(t:cr)(hm:Sf m t)(r:cf)(ms l:List (Int×Int))(hl:I l<=50)(hms:I ms<=50)(b:Bool):Aa PP 228 ([A3 l]++DP m r ms) ⟨[G [.v .nils],G [db b]],[]⟩ (.tup []) (CQ (b&&Ai t (Ek r.to (l++ms))) [Ek r.to (l++ms)]):=by
 have h2:=PT m t hm r.to (l++ms) (by grind)
 generalize Ai t (Ek r.to (l++ms))=ok at h2⊢
 generalize Ek r.to (l++ms)=v at h2⊢
 have hco:F0 230 [bt (ai [BU l,BU ms])] (A3 (l++ms)):=by
  have:=Nn [l,ms] (by simp) (by grind)
  grind
 have hfA:∀z:Bool,[G [bm 3 1 2],G [db z],G [di v.n,bt (dt v.az)],G [di v.n,bt (dt v.az)]]=[G [bm 3 1 2],G [db z],G [di v.n,cq v.az],G (Ab ([v].map eV))]:=fun z=>by rw[AF];rfl
 have h:Aa PP 228 ([A3 l]++DP m r ms) ⟨[G [.v .nils],G [db b]],[]⟩ (.tup []) ⟨[G [.gro 3 1 2],G [db (b&&ok)],G [di v.n,cq v.az],G (Ab ([v].map eV))],[]⟩:=by
  cases b with
  |true=>
   exact sv VE 28 [] (.h (.dr 11)<|.c (A3 (l++ms))<|.c (.tup [dV v,db ok])<|.m (.v .nils)<|.m (dV v)<|.h (.p (.v (.list [Ac v])))<|.h .g<|.ro) (_/\_/\Q [bh [G [dn],G [db J],G [di 0,dn]] []]/\True/\Q (G (dn))/\2<=2/\Q (dp v.n v.az)/\(∀(τ:St),Ah PP w0 [dV v] τ (bt (ai [Ac v])) τ)/\[Ac v]≠ []/\(∀(y:V),y∈ [Ac v]->V.size y=2)/\Ao 1 32/\(True/\True/\(Q (G [db J])/\True)/\True)/\([]:List KI)=[]/\cm 4 [] [G [bm 3 1 2],G [db ok],G (dp v.n v.az),G (dp v.n v.az)]=J/\[G [bm 3 1 2],G [db ok],G (dp v.n v.az),G (dp v.n v.az)]=[G [bm 3 1 2],G [db (true&&ok)],G (dp v.n v.az),G (Ab (eV v::nV))]/\Q (bk [])) ⟨hco,h2,rfl,trivial,rfl,HP _,rfl,fun τ=>pi v τ rfl,by simp,fun y hy=>by rw[HY.1 hy];rfl,⟨by decide,by decide⟩,⟨trivial,trivial,⟨rfl,trivial⟩,trivial⟩,rfl,rfl,hfA _,rfl⟩
  |false=>
   exact sv VE 28 [] (.h (.dr 11)<|.c (A3 (l++ms))<|.c (.tup [dV v,db ok])<|.m (.v .nils)<|.m (dV v)<|.h (.p (.v (.list [Ac v])))<|.h .g<|.ro) (_/\_/\Q [bh [G [dn],G [db O],G [di 0,dn]] []]/\True/\Q (G (dn))/\2<=2/\Q (dp v.n v.az)/\(∀(τ:St),Ah PP w0 [dV v] τ (bt (ai [Ac v])) τ)/\[Ac v]≠ []/\(∀(y:V),y∈ [Ac v]->V.size y=2)/\Ao 1 32/\(True/\True/\(Q (G [db O])/\True)/\True)/\([]:List KI)=[]/\cm 4 [] [G [bm 3 1 2],G [db O],G (dp v.n v.az),G (dp v.n v.az)]=J/\[G [bm 3 1 2],G [db O],G (dp v.n v.az),G (dp v.n v.az)]=[G [bm 3 1 2],G [db (false&&ok)],G (dp v.n v.az),G (Ab (eV v::nV))]/\Q (bk [])) ⟨hco,h2,rfl,trivial,rfl,HP _,rfl,fun τ=>pi v τ rfl,by simp,fun y hy=>by rw[HY.1 hy];rfl,⟨by decide,by decide⟩,⟨trivial,trivial,⟨rfl,trivial⟩,trivial⟩,rfl,rfl,hfA _,rfl⟩
 refine E3 (σ:=⟨[G [.v .nils],G [db b]],[]⟩) (fun i=>if i<2 then i else i+1) (show 2<=3 by decide) (fun i hi=>Ie hi) (fun i j _ _ h=>?_) (fun i hi=>?_) (fun i cs hi=>?_) rfl h
 ·grind
 ·grind
 ·match i,hi with
  |0,hi=>have hi:=Ij (Ij (hi:G (G _)=G (G cs)));subst hi;exact⟨rfl,rfl⟩
  |1,hi=>have hi:=Ij (Ij (hi:G (G _)=G (G cs)));subst hi;exact⟨rfl,rfl⟩
  |2,hi=>grind[A6,Ay,Aj]
  |i+3,hi=>grind
theorem AoY(m:cz)(t:cr)(hm:Sf m t)(r:cf)(ms l:List (Int×Int))(hl:I l<=50)(hms:I ms<=50)(xs:List b9)(hx:I xs<=100000)(b:Bool):Aa PP 228 ([A3 l]++DP m r ms) (CQ b xs) (.tup []) (FX (b&&Ai t (Ek r.to (l++ms))) (xs++[Ek r.to (l++ms)])):=by
 have h2:=PT m t hm r.to (l++ms) (by simp;omega)
 generalize Ai t (Ek r.to (l++ms))=ok at h2⊢
 generalize Ek r.to (l++ms)=v at h2⊢
 have hco:F0 230 [bt (ai [BU l,BU ms])] (A3 (l++ms)):=by
  have:=Nn [l,ms] (by simp) (by simp;omega)
  simp only[Jp,List.flatten_nil,I8] at this
  exact this
 have hfB:∀z:Bool,[G [bm 4 (I xs+[Ac v].length) 2],G [db z],none,G [di v.n,bt (dt v.az)],G (Ab (xs.map eV)++[di v.n,bt (dt v.az)])]=[G [bm 4 (I (xs++[v])) 2],G [db z],none,G [di v.n,cq v.az],G (Ab ((xs++[v]).map eV))]:=fun z=>by
  rw[EF,HW];rfl
 have hkB:∀z:Bool,cm 5 [] [G [bm 4 (I xs+[Ac v].length) 2],G [db z],none,G [di v.n,bt (dt v.az)],G (Ab (xs.map eV)++[di v.n,bt (dt v.az)])]=J:=fun z=>by
  rw[EF];simp[cm,D.okNs,D.okN,Aj]
 have h:Aa PP 228 ([A3 l]++DP m r ms) (CQ b xs) (.tup []) ⟨[G [.gro 4 (I (xs++[v])) 2],G [db (b&&ok)],none,G [di v.n,cq v.az],G (Ab ((xs++[v]).map eV))],[]⟩:=by
  cases b with
  |true=>
   exact sv VE 28 [] (.h (.dr 11)<|.c (A3 (l++ms))<|.c (.tup [dV v,db ok])<|.m (.gro 2 (I xs) 2)<|.m (dV v)<|.h (.p (.v (.list [Ac v])))<|.ro) (_/\_/\Q [bh [G [bm 2 (I xs) 2],G [db J],G (em xs),G [di 0,dn]] []]/\True/\Q (G (bm 2 (I xs) 2))/\2<=2/\Q (dp v.n v.az)/\(∀(τ:St),Ah PP w0 [dV v] τ (bt (ai [Ac v])) τ)/\I (em xs)=I xs*2/\[Ac v]≠ []/\(∀(y:V),y∈ [Ac v]->V.size y=2)/\Ao (I xs+I (Ac v::nV)) 32/\(True/\True/\(Q (G [db J])/\True)/\True)/\([]:List KI)=[]/\cm 5 [] [G [bm 4 (I xs+I (Ac v::nV)) 2],G [db ok],none,G (dp v.n v.az),G (Ab (U eV xs)++(dp v.n v.az))]=J/\[G [bm 4 (I xs+I (Ac v::nV)) 2],G [db ok],none,G (dp v.n v.az),G (Ab (U eV xs)++(dp v.n v.az))]=[G [bm 4 (I (xs++[v])) 2],G [db (true&&ok)],none,G (dp v.n v.az),G (Ab (U eV (xs++[v])))]/\Q (bk [])) ⟨hco,h2,rfl,trivial,rfl,HP _,rfl,fun τ=>pi v τ rfl,by rw[AT],by simp,fun y hy=>by rw[HY.1 hy];rfl,⟨by simp only[HN,HR];omega,by simp only[HN,HR];omega⟩,⟨trivial,trivial,⟨rfl,trivial⟩,trivial⟩,rfl,hkB _,hfB _,rfl⟩
  |false=>
   exact sv VE 28 [] (.h (.dr 11)<|.c (A3 (l++ms))<|.c (.tup [dV v,db ok])<|.m (.gro 2 (I xs) 2)<|.m (dV v)<|.h (.p (.v (.list [Ac v])))<|.ro) (_/\_/\Q [bh [G [bm 2 (I xs) 2],G [db O],G (em xs),G [di 0,dn]] []]/\True/\Q (G (bm 2 (I xs) 2))/\2<=2/\Q (dp v.n v.az)/\(∀(τ:St),Ah PP w0 [dV v] τ (bt (ai [Ac v])) τ)/\I (em xs)=I xs*2/\[Ac v]≠ []/\(∀(y:V),y∈ [Ac v]->V.size y=2)/\Ao (I xs+I (Ac v::nV)) 32/\(True/\True/\(Q (G [db O])/\True)/\True)/\([]:List KI)=[]/\cm 5 [] [G [bm 4 (I xs+I (Ac v::nV)) 2],G [db O],none,G (dp v.n v.az),G (Ab (U eV xs)++(dp v.n v.az))]=J/\[G [bm 4 (I xs+I (Ac v::nV)) 2],G [db O],none,G (dp v.n v.az),G (Ab (U eV xs)++(dp v.n v.az))]=[G [bm 4 (I (xs++[v])) 2],G [db (false&&ok)],none,G (dp v.n v.az),G (Ab (U eV (xs++[v])))]/\Q (bk [])) ⟨hco,h2,rfl,trivial,rfl,HP _,rfl,fun τ=>pi v τ rfl,by rw[AT],by simp,fun y hy=>by rw[HY.1 hy];rfl,⟨by simp only[HN,HR];omega,by simp only[HN,HR];omega⟩,⟨trivial,trivial,⟨rfl,trivial⟩,trivial⟩,rfl,hkB _,hfB _,rfl⟩
 refine E3 (σ:=CQ b xs) (fun i=>if i<3 then i else i+1) (show 3<=4 by decide) (fun i hi=>Ie hi) (fun i j _ _ h=>?_) (fun i hi=>?_) (fun i cs hi=>?_) rfl h
 ·have h:(if i<3 then i else i+1)=(if j<3 then j else j+1):=h
  split at h<;>split at h<;>omega
 ·have hi:i<4:=hi
  show(if i<3 then i else i+1)<5
  split<;>omega
 ·match i,hi with
  |0,hi=>have hi:=Ij (Ij (hi:G (G _)=G (G cs)));subst hi;exact⟨rfl,rfl⟩
  |1,hi=>have hi:=Ij (Ij (hi:G (G _)=G (G cs)));subst hi;exact⟨rfl,rfl⟩
  |2,hi=>simp at hi
  |3,hi=>have hi:=Ij (Ij (hi:G (G _)=G (G cs)));subst hi;exact⟨by rw[A6 (Ay _)];rfl,Aj _ _ _⟩
  |i+4,hi=>simp at hi
end Go.Proofs.YtkkplhjidondkaaGreat
