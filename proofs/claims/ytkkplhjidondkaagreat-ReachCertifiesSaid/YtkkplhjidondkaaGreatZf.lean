/-
  A part of the proof.
-/
import Derived.Test.YtkkplhjidondkaaGreatZe
import Derived.Test.YtkkplhjidondkaaGreatZd
import Derived.Laws.StructEq
import Derived.ChangeKeysEq
namespace Go.Proofs.YtkkplhjidondkaaGreat
open Go.Dv Go.Nv
set_option maxRecDepth 20000
open List (ext_getElem? flatten length_set map_set replicate take take_add_one zipWith)
open Go.IntKind (u64)
open Go.IntKind renaming wrap → yu, i64 → yt
open List renaming length → I, map → U, drop → W
open Option renaming some → G
open Bool renaming true → J, false → O
open Decidable renaming decide → Y
open Int renaming toNat → Z
open Go.Dv.V renaming list → ai, str → ae, agg → ab, int → aa, ref → bz, fn → bw, nils → bv, bool → bu
open Go.Dv.D renaming v → bt, acc → br, ptr → bq, arr → bo, gro → bm, tup → bk, undef → bj, dagg → bi
open Go.Dv.St renaming mk → bh
open Go.Dv.KI renaming blk → bf
open _root_.ByteArray renaming mk → bc
open Go renaming Operand → x8, Program → x7, TypeId → x6, World → x5, Value → yz, Oper → yy, FuncId → yx, Func → yw, IntKind → yv
noncomputable abbrev B0:=Tryz.f83
noncomputable def AA:=yl B0
abbrev jp(n:Int)(l:List b9):St:=⟨[G [di 0,.v .nils],G [di n,.acc 1 (l.map eV)]],[(1,2,l.map eV)]⟩
theorem Ye(v:b9)(hv:v.size<=1000000)(hk:∀x∈v.az,F0 83 [dV x] (dV x))(n:Nat):∀k:Nat,I v.az-k=n->
  Rn PP B0 0 (dV v) ba ([kl AA [1,1,0,1,0,0],.blk 0,kc AA [1,1,1]]++[]) (cy 27 [(1,.v (.ref (Ac v))),(2,.ptr 0 0),(3,.ptr 1 0),(4,di k)]) (jp v.n (v.az.take k)):=by
 have hs:=v.size_eq
 have hl:=b9.length_le v.az
 induction n with
 |zero=>
  intro k hn
  refine lv 27 [1] (.f .r) (Y ((k:Int)<(I (ce v.az):Int))=O/\bt (ab [vi v.n,ai (U eV (take k v.az))])=dV v) ?_
  grind[List.take_of_length_le]
 |succ n ih=>
  intro k hn
  obtain⟨x,hx⟩:∃x,v.az[k]?=G x:=⟨_,HI (show k<I v.az by omega)⟩
  have ht:v.az.take (k+1)=v.az.take k++[x]:=by grind[take_add_one]
  refine lv 27 [1] (.t<|.h (.xs (Ac x))<|.c (dV x)<|.ls [ke 1,ke 2,ke 3,ch 4 (di (k+1:Nat))] (jp v.n (v.az.take (k+1)))) (Y ((k:Int)<(I (ce v.az):Int))=J/\Q 2/\0<=(k:Int)/\(ce v.az)[Z (k:Int)]?=G (Ac x)/\_/\Q (U eV (take k v.az))/\Ao (I (U eV (take k v.az))+I (Ac x::nV)) 32/\yp/\di (yu yt ((k:Int)+1))=di (↑(k+1):Int)/\[G [di 0,dn],G [di v.n,br 1 (U eV (take k v.az)++Ac x::nV)]]=[G [di 0,dn],G [di v.n,br 1 (U eV (take (k+1) v.az))]]/\[(1,2,U eV (take k v.az)++Ac x::nV)]=[(1,2,U eV (take (k+1) v.az))]/\_) ⟨HK (by grind),rfl,by omega,Ap hx,hk x (HO hx),rfl,⟨?_,?_⟩,yn,Ae,?_,?_,iK (ih (k+1) (by omega))⟩
  all_goals grind[BM]
noncomputable abbrev tu:=[kl AA ee,bf 0,kc AA [1,1,1]]
theorem DO(N:Nat):∀v:b9,v.size<=N->v.size<=1000000->F0 83 [dV v] (dV v):=by
 induction N with
 |zero=>intro v h;have:=v.size_pos;omega
 |succ N ih=>
  intro v hN hv
  have hs:=v.size_eq
  have:=Ye v hv (fun x hx=>by have:=b9.size_mem hx;grind) _ 0 rfl
  exact sv B0 27 [1] (.h .rn<|.h (.q 2 0)<|.h (.cl 1 1 1 2)<|.ls [ke 1,ke 2,ke 3,ch 4 (di (0:Nat))] (jp v.n [])) (Q (di 0)/\Q (jp v.n []).H/\Q [(1,2,nV)]/\I0 B0 (I ba.H) (dV v) ba tu (cy 27 [(1,bt (jy v)),n7,(3,bq 1 0),(4,di (↑0:Int))]) (jp v.n [])) ⟨rfl,rfl,rfl,⟨by grind⟩⟩
noncomputable abbrev R6:=Tryz.f45
noncomputable def OE:=yl R6
def AS(v:b9):List b9->Nat
 |[]=>0
 |x::l=>if Ar x v<0 then AS v l+1 else 0
def BT(l:List b9)(v:b9):List b9:=match l[AS v l]? with
 |some x=>if (Ar x v==0)=J then l else l.take (AS v l)++v::l.drop (AS v l)
 |none=>l.take (AS v l)++v::l.drop (AS v l)
theorem Aa6(v:b9):∀l:List b9,AS v l<=I l
 |[]=>HP _
 |x::l=>by
  have:=Aa6 v l
  grind[AS]
theorem Aa5(v:b9):∀(l:List b9) (k:Nat),k<AS v l->∃x,l[k]?=G x/\Ar x v<0
 |[],k,h=>by grind[AS]
 |x::l,k,h=>by
  unfold AS at h
  split at h
  ·rename_i hx
   cases k with
   |zero=>grind
   |succ k=>exact Aa5 v l k (by omega)
  ·omega
theorem Aa7(v:b9):∀(l:List b9) (x:b9),l[AS v l]?=G x->¬Ar x v<0
 |[],x,h=>by grind
 |y::l,x,h=>by
  unfold AS at h
  split at h
  ·exact Aa7 v l x (by grind)
  grind
theorem AjL(l:List b9):∀x∈l.map eV,x.size=2:=by grind[AH,V.size]
theorem Anw(l:List b9)(i j:Nat):∀x∈ ((l.map eV).take j).drop i,x.size=2:=by grind[AjL]
theorem Ajf(l:List b9)(v:b9)(k:Nat):take k (l.map eV)++[Ac v]++W k (l.map eV)=(l.take k++v::l.drop k).map eV:=by
 rw[←AH];simp_all
theorem Aa4(l:List b9)(v:b9)(k:Nat):bt (ai (W 0 (take ((k:Nat):Int).toNat (l.map eV))++[Ac v]++W ((k:Nat):Int).toNat (take (I (l.map eV)) (l.map eV))))=cq (l.take k++v::l.drop k):=by
 grind[Ajf]
noncomputable abbrev tf:=fun a₀ b₀=>F0 31 [dV a₀,dV b₀] (di (Ar a₀ b₀))
noncomputable abbrev Av5:=fun a₀=>F0 83 [dV a₀] (dV a₀)
theorem Afc(l:List b9)(v:b9)(hl:b9.sizes l<=1000000)(hv:v.size<=1000000)(n:Nat):∀k:Nat,AS v l-k=n->k<=AS v l->
  Rn PP R6 0 (cq (BT l v)) ba ([kl OE [1,1,0,0,0],.blk 0,kc OE [1,1,1]]++[]) (cy 46 [(0,cq l),(3,.v (.ref (Ac v))),(5,di k)]) ba:=by
 have hil:=Aa6 v l
 have hll:=b9.length_le l
 induction n with
 |zero=>
  intro k hn hk0
  have hk:k=AS v l:=by omega
  subst hk
  cases hx:l[AS v l]? with
  |none=>
   have e1:BT l v=l.take (AS v l)++v::l.drop (AS v l):=by rw[BT,hx]
   have hlt:I l<=AS v l:=List.getElem?_eq_none_iff.1 hx
   rw[e1]
   refine lv 46 [3] (.f<|.k<|.f<|.k<|.a 1<|.w<|.c (dV v)<|.w<|.w<|.r) (Y ((↑(AS v l):Int)<(I (U eV l):Int))=O/\Y ((↑(AS v l):Int)<(I (U eV l):Int))=O/\(∀(x:V),x∈U eV l->V.size x=2)/\0<=(fun x=>x.snd) (yt,(↑(AS v l):Int))/\(fun x=>x.snd) (yt,(↑(AS v l):Int))<=(I (U eV l):Int)/\Ao (I (W 0 (take (Z ((fun x=>x.snd) (yt,(↑(AS v l):Int)))) (U eV l)))) 32/\(∀(y:V),y∈W 0 (take (Z ((fun x=>x.snd) (yt,(↑(AS v l):Int)))) (U eV l))->V.size y=2)/\Av5 v/\Q (W 0 (take (Z ((fun x=>x.snd) (yt,(↑(AS v l):Int)))) (U eV l)))/\Ao (I (W 0 (take (Z ((fun x=>x.snd) (yt,(↑(AS v l):Int)))) (U eV l)))+I (Ac v::nV)) 32/\(∀(y:V),y∈ [Ac v]->V.size y=2)/\(∀(x:V),x∈U eV l->V.size x=2)/\0<=(fun x=>x.snd) (yt,(↑(AS v l):Int))/\(fun x=>x.snd) (yt,(↑(AS v l):Int))<=(I (U eV l):Int)/\Q (W 0 (take (Z ((fun x=>x.snd) (yt,(↑(AS v l):Int)))) (U eV l))++Ac v::nV)/\Ao (I (W 0 (take (Z ((fun x=>x.snd) (yt,(↑(AS v l):Int)))) (U eV l))++Ac v::nV)+I (W (Z ((fun x=>x.snd) (yt,(↑(AS v l):Int)))) (take (I (U eV l)) (U eV l)))) 32/\(∀(y:V),y∈W (Z ((fun x=>x.snd) (yt,(↑(AS v l):Int)))) (take (I (U eV l)) (U eV l))->V.size y=2)/\bt (ai (W 0 (take (Z ((fun x=>x.snd) (yt,(↑(AS v l):Int)))) (U eV l))++[Ac v]++W (Z ((fun x=>x.snd) (yt,(↑(AS v l):Int)))) (take (I (U eV l)) (U eV l))))=cq (take (AS v l) l++v::W (AS v l) l)) ?_
   have z0:(0:Int)<=(AS v l:Int):=by omega
   have z1:(AS v l:Int)<=(I (l.map eV):Int):=by rw[HH];omega
   have z2:∀y∈ [Ac v],y.size=2:=fun y hy=>by rw[HY.1 hy];rfl
   repeat' first|with_reducible refine And.intro ?_ ?_
   all_goals first|exact HM (by rw[HH];omega)|exact AjL l|exact Anw l _ _|exact z2|exact DO _ v (HP _) hv|exact z0|exact z1|exact Iu _|rfl|(simp only[HW,IP,Ip,HH,HN,HR];omega)|exact Aa4 l v _
  |some x=>
   have hlt:=(HL.1 hx).1
   have hc:=Aa7 v l x hx
   have hsz:=b9.size_mem (HO hx)
   have z0':(0:Int)<=(AS v l:Int):=by omega
   by_cases he:(Ar x v==0)=J
   ·have e1:BT l v=l:=by rw[BT,hx];simp only[he,IT]
    rw[e1]
    exact lv 46 [3] (.t<|.h (.xs (Ac x))<|.c (di (Ar x v))<|.f<|.t<|.h (.xs (Ac x))<|.c (db (Ar x v==0))<|.t<|.r) (Y ((↑(AS v l):Int)<(I (U eV l):Int))=J/\Q 2/\_/\(U eV l)[Z (↑(AS v l):Int)]?=G (Ac x)/\_/\Y (Ar x v<0)=O/\Y ((↑(AS v l):Int)<(I (U eV l):Int))=J/\Q 2/\_/\(U eV l)[Z (↑(AS v l):Int)]?=G (Ac x)/\_/\_/\Q (cq l)) ⟨HK (by rw[HH];omega),rfl,z0',Ap hx,EL _ x v (HP _) (by omega),HM hc,HK (by rw[HH];omega),rfl,z0',Ap hx,KA x v (by omega),he,rfl⟩
   ·have e1:BT l v=l.take (AS v l)++v::l.drop (AS v l):=by rw[BT,hx];simp only[he];rfl
    have he2:(Ar x v==0)=O:=by simpa using he
    rw[e1]
    refine lv 46 [3] (.t<|.h (.xs (Ac x))<|.c (di (Ar x v))<|.f<|.t<|.h (.xs (Ac x))<|.c (db (Ar x v==0))<|.f<|.a 1<|.w<|.c (dV v)<|.w<|.w<|.r) (Y ((↑(AS v l):Int)<(I (U eV l):Int))=J/\Q 2/\0<=(↑(AS v l):Int)/\(U eV l)[Z (↑(AS v l):Int)]?=G (Ac x)/\tf x v/\Y (Ar x v<0)=O/\Y ((↑(AS v l):Int)<(I (U eV l):Int))=J/\Q 2/\0<=(↑(AS v l):Int)/\(U eV l)[Z (↑(AS v l):Int)]?=G (Ac x)/\F0 13 [dV x,dV v] (db (Ar x v==0))/\(Ar x v==0)=O/\(∀(x:V),x∈U eV l->V.size x=2)/\0<=(fun x=>x.snd) (yt,(↑(AS v l):Int))/\(fun x=>x.snd) (yt,(↑(AS v l):Int))<=(I (U eV l):Int)/\Ao (I (W 0 (take (Z ((fun x=>x.snd) (yt,(↑(AS v l):Int)))) (U eV l)))) 32/\(∀(y:V),y∈W 0 (take (Z ((fun x=>x.snd) (yt,(↑(AS v l):Int)))) (U eV l))->V.size y=2)/\Av5 v/\Q (W 0 (take (Z ((fun x=>x.snd) (yt,(↑(AS v l):Int)))) (U eV l)))/\Ao (I (W 0 (take (Z ((fun x=>x.snd) (yt,(↑(AS v l):Int)))) (U eV l)))+I (Ac v::nV)) 32/\(∀(y:V),y∈ [Ac v]->V.size y=2)/\(∀(x:V),x∈U eV l->V.size x=2)/\0<=(fun x=>x.snd) (yt,(↑(AS v l):Int))/\(fun x=>x.snd) (yt,(↑(AS v l):Int))<=(I (U eV l):Int)/\Q (W 0 (take (Z ((fun x=>x.snd) (yt,(↑(AS v l):Int)))) (U eV l))++Ac v::nV)/\Ao (I (W 0 (take (Z ((fun x=>x.snd) (yt,(↑(AS v l):Int)))) (U eV l))++Ac v::nV)+I (W (Z ((fun x=>x.snd) (yt,(↑(AS v l):Int)))) (take (I (U eV l)) (U eV l)))) 32/\(∀(y:V),y∈W (Z ((fun x=>x.snd) (yt,(↑(AS v l):Int)))) (take (I (U eV l)) (U eV l))->V.size y=2)/\bt (ai (W 0 (take (Z ((fun x=>x.snd) (yt,(↑(AS v l):Int)))) (U eV l))++[Ac v]++W (Z ((fun x=>x.snd) (yt,(↑(AS v l):Int)))) (take (I (U eV l)) (U eV l))))=cq (take (AS v l) l++v::W (AS v l) l)) ?_
    have z0:(0:Int)<=(AS v l:Int):=by omega
    have z1:(AS v l:Int)<=(I (l.map eV):Int):=by rw[HH];omega
    have z2:∀y∈ [Ac v],y.size=2:=fun y hy=>by rw[HY.1 hy];rfl
    repeat' first|with_reducible refine And.intro ?_ ?_
    all_goals first|exact HK (by rw[HH];omega)|exact Ap hx|exact EL _ x v (HP _) (by omega)|exact HM hc|exact KA x v (by omega)|exact he2|exact AjL l|exact Anw l _ _|exact z2|exact DO _ v (HP _) hv|exact z0|exact z1|exact Iu _|rfl|(simp only[HW,IP,Ip,HH,HN,HR];omega)|exact Aa4 l v _
 |succ n ih=>
  intro k hn hk0
  obtain⟨x,hx,hc⟩:=Aa5 v l k (by omega)
  have hlt:=(HL.1 hx).1
  have hsz:=b9.size_mem (HO hx)
  exact lv 46 [3] (.t<|.h (.xs (Ac x))<|.c (di (Ar x v))<|.t<|.l [ke 0,ke 3,ch 5 (di (k+1:Nat))]) (Y ((k:Int)<(I (U eV l):Int))=J/\Q 2/\0<=(k:Int)/\(U eV l)[Z (k:Int)]?=G (Ac x)/\_/\Y (Ar x v<0)=J/\di (yu yt ((k:Int)+1))=di (↑(k+1):Int)/\_) ⟨HK (by rw[HH];omega),rfl,by omega,Ap hx,EL _ x v (HP _) (by omega),HK hc,Ae,iK (ih (k+1) (by omega) (by omega))⟩
theorem Px(l:List b9)(v:b9)(hl:b9.sizes l<=1000000)(hv:v.size<=1000000):F0 45 [cq l,dV v] (cq (BT l v)):=by
 exact sv R6 46 [3] (.l [ke 0,ke 3,ch 5 (di (0:Nat))]) (Q (di 0)/\_) ⟨rfl,iK (Afc l v hl hv _ 0 rfl (Iu _))⟩
def oq(np age:Int)(v:b9):Prop:=∃p g:Int,(0<=p/\p<np)/\(0<=g/\g<age+2)/\v=.mk 0 [.mk p [],.mk g []]
structure m9(np age:Int)(n:Nat)(ts:List b9):Prop where
 tok:∀t∈ts,oq np age t
 len:I ts<=n
 asc:∀i x y,ts[i]?=G x->ts[i+1]?=G y->Ar x y<0
theorem oq.sz{np age:Int}{v:b9}(h:oq np age v):v.size=3:=by
 obtain⟨p,g,_,_,rfl⟩:=h;rfl
theorem Z4{np age:Int}:∀(ts:List b9),(∀t∈ts,oq np age t)->b9.sizes ts=3*I ts
 |[],_=>rfl
 |t::ts,h=>by
  have h1:=(h t (by simp)).sz
  have h2:=Z4 ts fun z hz=>h z (by grind)
  grind[b9.sizes]
theorem ux{np age:Int}{v:b9}(h:oq np age v):m9 np age 1 [v]:=⟨fun t ht=>by grind,by simp,fun i x y _ hy=>by grind⟩
theorem Aje{np age:Int}{ts:List b9}{v:b9}(h:m9 np age 1 ts)(hv:oq np age v):m9 np age 2 (BT ts v):=by
 match ts,h with
 |[],_=>exact⟨(ux hv).tok,by grind[BT],(ux hv).asc⟩
 |[x],h=>
  have hx:=h.tok x (by simp)
  by_cases hc:Ar x v<0
  ·have e:BT [x] v=[x,v]:=by grind[BT,AS]
   rw[e]
   refine⟨fun t ht=>?_,by simp,fun i a b ha hb=>?_⟩
   all_goals grind
  ·by_cases he:(Ar x v==0)=J
   ·have e:BT [x] v=[x]:=by grind[BT,AS]
    rw[e]
    exact⟨h.tok,by simp,fun i a b ha hb=>by grind⟩
   ·have e:BT [x] v=[v,x]:=by grind[BT,AS]
    rw[e]
    refine⟨fun t ht=>?_,by simp,fun i a b ha hb=>?_⟩
    ·grind
    ·match i,ha,hb with
     |0,ha,hb=>
      have:=(B6.swap v x trivial trivial).2
      grind
     |i+1,_,hb=>grind
 |_::_::_,h=>exact absurd h.len (by simp)
noncomputable abbrev YN:=Tryz.f26
noncomputable def Qr:=yl YN
abbrev Ss(l:List UInt8)(a:Nat):St:=⟨[G (co l a),G [di 0,.v .nils]],[]⟩
noncomputable abbrev qe:=fun a₀ b₀=>[ab [vi a₀,ai []],ab [vi b₀,ai []]]
theorem Qd(l:List UInt8)(hl:I l<=200)(m:cz)(hpl:1<=I m.ay/\m.ay.length<=2)(hag:0<=m.age/\m.age<=3)(k:Nat)(hk:k<=2)(a:Nat)(ha:a<=I l)(ts:List b9)(hts:b9.sizes ts<=1000):
  ∃(t:b9) (a':Nat),oq (I m.ay) m.age t/\a'<=I l/\∀(d:D) (σ':St),Rn PP YN 1 d σ' ([kl Qr [1,1,0,1,0,0],.blk 0,kc Qr [1,1,1]]++[]) (cy 43 [(0,.ptr 0 0),(4,.v (.ref (A0 m))),(6,.ptr 1 0),(7,cq (BT ts t)),(8,di k)]) (Ss l a')->
   Rn PP YN 1 d σ' ([kl Qr [1,1,0,1,0,0],.blk 0,kc Qr [1,1,1]]++[]) (cy 43 [(0,.ptr 0 0),(4,.v (.ref (A0 m))),(6,.ptr 1 0),(7,cq ts),(8,di (k+1:Nat))]) (Ss l a):=by
 obtain⟨p,a1,p1,p2,p3,p4⟩:=A5 l hl a ha (I m.ay) (by omega) (by omega)
 obtain⟨g,a2,q1,q2,q3,q4⟩:=A5 l hl a1 p3 (m.age+2) (by omega) (by omega)
 obtain⟨t,ht⟩:∃t:b9,t=.mk 0 [.mk p [],.mk g []]:=⟨_,rfl⟩
 refine⟨t,a2,⟨p,g,⟨p1,p2⟩,⟨q1,q2⟩,ht⟩,q3,fun d σ' hrn=>?_⟩
 refine lv 43 [4] (.t<|.c1 (co l a1) (di p)<|.c1 (co l a2) (di g)<|.c (cq (BT ts t))<|.ls [ke 0,ke 4,ke 6,ch 7 (cq (BT ts t)),ch 8 (di k)] (Ss l a2)) (Y ((↑(k+1):Int)>0)=J/\Asa m.ay l a p a1/\Aa PP 14 [bq 0 0,di (yu yt (m.age+2))] (dz l a1) (di g) (dz l a2)/\F0 45 [cq ts,bt (ab [vi 0,ai (qe p g)])] (cq (BT ts t))/\Q (cq (BT ts t))/\di (yu yt ((↑(k+1):Int)-1))=di (k:Int)/\Q (Ss l a2).H/\I0 YN 1 d σ' [kl Qr ee,bf 0,kc Qr [1,1,1]] (cy 43 [jx,(4,bt (gd m)),(6,bq 1 0),(7,cq (BT ts t)),(8,di (k:Int))]) (Ss l a2)) ?_
 rw[show yu yt (m.age+2)=m.age+2 from Ak,show yu yt ((k+1:Nat)-1:Int)=(k:Int) from by grind[Ak]]
 refine⟨yr,by grind,q4,?_,rfl,rfl,rfl,⟨hrn⟩⟩
 subst ht
 exact Px ts (.mk 0 [.mk p [],.mk g []]) (by omega) (by show 3<=1000000;decide)
theorem Akb(l:List UInt8)(hl:I l<=200)(m:cz)(hst:1<=I m.aw/\m.aw.length<=3)(a:Nat)(ha:a<=I l)(ts:List b9):
  ∃(s:Int) (a':Nat),(0<=s/\s<I m.aw)/\a'<=I l/\Rn PP YN 1 (dV (.mk 0 [.mk s [],.mk 0 ts])) (dz l a') ([kl Qr [1,1,0,1,0,0],.blk 0,kc Qr [1,1,1]]++[]) (cy 43 [(0,.ptr 0 0),(4,.v (.ref (A0 m))),(6,.ptr 1 0),(7,cq ts),(8,di (0:Nat))]) (Ss l a):=by
 obtain⟨s,a1,p1,p2,p3,p4⟩:=A5 l hl a ha (I m.aw) (by omega) (by omega)
 refine⟨s,a1,⟨p1,p2⟩,p3,?_⟩
 refine lv 43 [4] (.f<|.c1 (co l a1) (di s) .r) (Y ((↑0:Int)>0)=O/\Asa m.aw l a s a1/\Q [G (co l a1)]/\bt (ab [vi 0,ai [ab [vi s,ai []],ab [vi 0,dt ts]]])=dV (b9.mk 0 [b9.mk s [],b9.mk 0 ts])) ⟨by decide,by grind,rfl,?_⟩
 show bt (ab [vi 0,ai [Ac (.mk s []),Ac (.mk 0 ts)]])=_
 rw[←AH, ←AH];rfl
theorem kp:BS PP 29=G (31,2,32,G (.agg #[.int .i64 0,.slice none 0 0])):=by rfl
theorem AjZ{o:yy}{σ:St}(ho:o.op=.buildSlice 29 2 #[(0,.tmp 38),(1,.tmp 40)])(x y:b9):Ai PP o [.v (Ac x),.v (Ac y)] σ (.gro (I σ.H) 2 2) ⟨σ.H++[G (Ab [Ac x,Ac y])],σ.own⟩:=
 ND ho (by rfl) rfl kp rfl (ds:=[.v (Ac x),.v (Ac y)]) (xs:=[Ac x,Ac y]) rfl (fun z hz=>by simp at hz;rcases hz with rfl|rfl<;>rfl) (by decide) (by decide) (by decide)
noncomputable abbrev pm:=fun a₀ b₀=>(bh [G (co a₀ b₀),G [di 0,dn]] [])
theorem Ahh(l:List UInt8)(hl:I l<=200)(m:cz)(hst:1<=I m.aw/\m.aw.length<=3)(a:Nat)(ha:a<=I l)(ts:List b9):
  ∃(s:Int) (a':Nat),(0<=s/\s<I m.aw)/\a'<=I l/\Rn PP YN 1 (.dagg [di 0,.gro 2 2 2]) ⟨[G (co l a'),G [di 0,.gro 2 2 2],G (Ab [Ac (.mk s []),Ac (.mk 0 ts)])],[]⟩ ([kl Qr [1,1,0,1,0,0],.blk 0,kc Qr [1,1,1]]++[]) (cy 43 [(0,.ptr 0 0),(4,.v (.ref (A0 m))),(6,.ptr 1 0),(7,cq ts),(8,di (0:Nat))]) (Ss l a):=by
 obtain⟨s,a1,p1,p2,p3,p4⟩:=A5 l hl a ha (I m.aw) (by omega) (by omega)
 refine⟨s,a1,⟨p1,p2⟩,p3,?_⟩
 exact lv 43 [4] (.f<|.c1 (co l a1) (di s)<|.h (.q 6 8)<|.h (.o (.gro 2 2 2) ⟨[G (co l a1),G [di 0,.v .nils],G (Ab [Ac (.mk s []),Ac (.mk 0 ts)])],[]⟩)<|.h .g<|.h .ww<|.rd) (Y ((↑0:Int)>0)=O/\Asa m.aw l a s a1/\Ai PP (Oper.mk (G 41) (Op.buildSlice 29 2 #[(0,Operand.tmp 38),(1,Operand.tmp 40)]) 29 "play.go:141" #[Edge.mk 5 Ground.data,Edge.mk 7 Ground.data] none) [bt (ab [vi s,ai []]),bt (ab [vi 0,dt ts])] (pm l a1) (bm 2 2 2) (bh [G (co l a1),G [di 0,dn],G [di (b9.n (ey s)),bt (dt (b9.az (ey s))),di (b9.n (b9.mk 0 ts)),bt (dt (b9.az (b9.mk 0 ts)))]] [])/\2<=2/\Q [G (co l a1),G [di 0,bm 2 2 2],G [di (b9.n (ey s)),bt (dt (b9.az (ey s))),di (b9.n (b9.mk 0 ts)),bt (dt (b9.az (b9.mk 0 ts)))]]/\Q (bi [di 0,bm 2 2 2])) ⟨by decide,by grind,AjZ (σ:=⟨[G (co l a1),G [di 0,.v .nils]],[]⟩) rfl (.mk s []) (.mk 0 ts),by decide,rfl,rfl⟩
theorem XX{σ:St}{t:Nat}(e:List D)(he:e[t]?=G (.v .nils)):Cv e σ (e.set t (.v (.list []))) σ:=fun E g a w hf=>by
 obtain⟨u,hu,hr⟩:=BA hf.env he
 refine⟨g,hf.wi,?_,hf.defers⟩
 have:=CI hf.env t (d:=.v (.list [])) (u:=u) (FQ hr)
 grind[DA]
theorem Wr(l:List UInt8)(hl:I l<=200)(m:cz)(hpl:1<=I m.ay/\m.ay.length<=2)(hag:0<=m.age/\m.age<=3)(a:Nat)(ha:a<=I l)(r:Nat)(hr:r<=2):
  ∃(ts:List b9) (a':Nat),m9 (I m.ay) m.age 2 ts/\a'<=I l/\∀(d:D) (σ':St),Rn PP YN 1 d σ' ([kl Qr [1,1,0,1,0,0],.blk 0,kc Qr [1,1,1]]++[]) (cy 43 [(0,.ptr 0 0),(4,.v (.ref (A0 m))),(6,.ptr 1 0),(7,cq ts),(8,di (0:Nat))]) (Ss l a')->
   Rn PP YN 1 d σ' ([kl Qr [1,1,0,1,0,0],.blk 0,kc Qr [1,1,1]]++[]) (cy 43 [(0,.ptr 0 0),(4,.v (.ref (A0 m))),(6,.ptr 1 0),(7,cq []),(8,di (r:Nat))]) (Ss l a):=by
 rcases(show r=0∨r=1∨r=2 by omega) with rfl|rfl|rfl
 ·exact⟨[],a,⟨fun t ht=>by grind,by simp,fun i x y hx=>by grind⟩,ha,fun d σ' h=>h⟩
 ·obtain⟨t,a1,h1,h2,h3⟩:=Qd l hl m hpl hag 0 (by omega) a ha [] (by decide)
  exact⟨BT [] t,a1,⟨(ux h1).tok,by grind[BT],(ux h1).asc⟩,h2,h3⟩
 ·obtain⟨t,a1,h1,h2,h3⟩:=Qd l hl m hpl hag 1 (by omega) a ha [] (by decide)
  obtain⟨t2,a2,h4,h5,h6⟩:=Qd l hl m hpl hag 0 (by omega) a1 h2 [t] (by simp only[b9.sizes,h1.sz];decide)
  exact⟨BT [t] t2,a2,Aje (ux h1) h4,h5,fun d σ' h=>h3 d σ' (h6 d σ' h)⟩
theorem AnH(l:List UInt8)(hl:I l<=200)(m:cz)(hst:1<=I m.aw/\m.aw.length<=3)(hpl:1<=I m.ay/\m.ay.length<=2)(hag:0<=m.age/\m.age<=3)(a:Nat)(ha:a<=I l):
  ∃(s:Int) (ts:List b9) (a':Nat),(0<=s/\s<I m.aw)/\m9 (I m.ay) m.age 2 ts/\a'<=I l/\Aa PP 26 [.ptr 0 0,Ad m,di 2] (dz l a) (dV (.mk 0 [.mk s [],.mk 0 ts])) (dz l a'):=by
 obtain⟨r,a1,p1,p2,p3,p4⟩:=A5 l hl a ha 3 (by decide) (by decide)
 obtain⟨r,rfl⟩:∃n:Nat,r=n:=⟨r.toNat,by omega⟩
 obtain⟨ts,a2,h1,h2,h3⟩:=Wr l hl m hpl hag a1 p3 r (by omega)
 obtain⟨s,a3,h4,h5,h6⟩:=Akb l hl m hst a2 h2 ts
 refine⟨s,ts,a3,h4,h1,h5,?_⟩
 have hrn:=h3 _ _ h6
 refine sv YN 43 [4] (.h (.q 2 0)<|.h (.ct 7 (cq []) (Ss l a))<|.c1 (co l a1) (di r)<|.ls [ke 0,ke 4,ke 6,ch 7 (cq []),ch 8 (di r)] (Ss l a1)) ((∀(e:List D),e[7]?=G (dn)->∀(E:cd) (g:Gh) (a_2:Act) (w:x5),FI E g (bh [G (co l a),G [bt ip,dn]] (dz l a).own) e a_2 w->∃g',FI E g' (Ss l a) (List.set e 7 (cq [])) a_2 w)/\Aa PP 14 [bq 0 0,di (yu yt (2+1))] (dz l a) (di (r:Int)) (dz l a1)/\Q (cq [])/\Q (di (r:Int))/\Q (Ss l a1).H/\I0 YN (I (dz l a).H) (dV (b9.mk 0 [b9.mk s [],b9.mk 0 ts])) (dz l a3) [kl Qr ee,bf 0,kc Qr [1,1,1]] (cy 43 [jx,(4,bt (gd m)),(6,bq 1 0),(7,cq []),(8,di (r:Int))]) (Ss l a1)) ?_
 have w3:yu yt (2+1)=3:=by decide
 rw[w3]
 exact⟨fun e he=>XX e he,p4,rfl,rfl,rfl,⟨hrn⟩⟩
theorem Aka(l:List UInt8)(hl:I l<=200)(m:cz)(hst:1<=I m.aw/\m.aw.length<=3)(hpl:1<=I m.ay/\m.ay.length<=2)(hag:0<=m.age/\m.age<=3)(a:Nat)(ha:a<=I l):
  ∃(s:Int) (ts:List b9) (a':Nat),(0<=s/\s<I m.aw)/\m9 (I m.ay) m.age 2 ts/\a'<=I l/\Aa PP 26 [.ptr 0 0,Ad m,di 2] (dz l a) (.dagg [di 0,.arr 1 0 2]) ⟨[G (co l a'),G [di s,cq [],di 0,cq ts]],[]⟩:=by
 obtain⟨r,a1,p1,p2,p3,p4⟩:=A5 l hl a ha 3 (by decide) (by decide)
 obtain⟨r,rfl⟩:∃n:Nat,r=n:=⟨r.toNat,by omega⟩
 obtain⟨ts,a2,h1,h2,h3⟩:=Wr l hl m hpl hag a1 p3 r (by omega)
 obtain⟨s,a3,h4,h5,h6⟩:=Ahh l hl m hst a2 h2 ts
 refine⟨s,ts,a3,h4,h1,h5,?_⟩
 have hrn:=h3 _ _ h6
 refine AeA (c1:=[di 0]) (c2:=[]) (T:=[G [di 0,.gro 2 2 2],G (Ab [Ac (.mk s []),Ac (.mk 0 ts)])]) (q:=1) (sz:=2) rfl rfl rfl rfl rfl ?_
 refine sv YN 43 [4] (.h (.q 2 0)<|.h (.ct 7 (cq []) (Ss l a))<|.c1 (co l a1) (di r)<|.ls [ke 0,ke 4,ke 6,ch 7 (cq []),ch 8 (di r)] (Ss l a1)) ((∀(e:List D),e[7]?=G (dn)->∀(E:cd) (g:Gh) (a_2:Act) (w:x5),FI E g (bh [G (co l a),G [bt ip,dn]] (dz l a).own) e a_2 w->∃g',FI E g' (Ss l a) (List.set e 7 (cq [])) a_2 w)/\Aa PP 14 [bq 0 0,di (yu yt (2+1))] (dz l a) (di (r:Int)) (dz l a1)/\Q (cq [])/\Q (di (r:Int))/\Q (Ss l a1).H/\I0 YN (I (dz l a).H) (bi ([di 0]++[bm (1+1) 2 2])) (bh [G (co l a3),G [di 0,bm 2 2 2],G (Ab [Ac (ey s),Ac (b9.mk 0 ts)])] []) [kl Qr ee,bf 0,kc Qr [1,1,1]] (cy 43 [jx,(4,bt (gd m)),(6,bq 1 0),(7,cq []),(8,di (r:Int))]) (Ss l a1)) ?_
 have w3:yu yt (2+1)=3:=by decide
 rw[w3]
 exact⟨fun e he=>XX e he,p4,rfl,rfl,rfl,⟨hrn⟩⟩
abbrev sb:List (List UInt8):=[[114],[115]]
def e7(nm:List UInt8)(f t:Int)(tk:List Tk)(mk:List Int):cf:=⟨nm,f,t,[],[],[],0,0,0,[],[],tk,mk,0⟩
abbrev gq(S Pl:List (List UInt8))(ag:Int)(rs:List cf):List D:=[di 5,.v (cp S),.v (cp Pl),.v .nils,.v .nils,di 0,di ag,.acc 2 (rs.map Al),di 0,.v .nils]
abbrev ZP(l:List UInt8)(a:Nat)(S Pl:List (List UInt8))(ag:Int)(rs:List cf):St:=⟨[G (co l a),G zM,G (gq S Pl ag rs)],[(2,14,rs.map Al)]⟩
structure OS(ns np:Nat)(ag:Int)(k:Nat)(r:cf):Prop where
 name:sb[k]?=G r.name
 aj:0<=r.aj/\r.aj<ns
 to:0<=r.to/\r.to<ns
 ar:r.ar=[]∨∃p lo hi:Int,(0<=p/\p<np)/\(0<=lo/\lo<=hi/\hi<=ag+1)/\r.ar=[⟨p,lo,hi⟩]
 aq:r.aq=[]∨∃p:Int,(0<=p/\p<np)/\r.aq=[p]
 rest:r=e7 r.name r.aj r.to r.ar r.aq
structure BH(m:cz):Prop where
 kind:m.kind=5
 aw:m.aw=[[97]]∨m.aw=[[97],[98]]
 ay:m.ay=[[120]]∨m.ay=[[120],[121]]
 ax:m.ax=[]
 au:m.au=[]
 ao:m.ao=0
 age:0<=m.age/\m.age<=1
 count:I m.av<=2
 pos:1<=I m.av
 av:∀k r,m.av[k]?=G r->OS (I m.aw) (I m.ay) m.age k r
 start:∃ts:List b9,m9 (I m.ay) m.age 2 ts/\m.start=.mk 0 [.mk 0 [],.mk 0 ts]
theorem V4{ns np:Nat}{ag:Int}{rs:List cf}{k:Nat}{nm:List UInt8}{f t:Int}{tk:List Tk}{mk:List Int}(hnm:sb[k]?=G nm)(hf:0<=f/\f<ns)(ht:0<=t/\t<ns)(h1:tk=[]∨∃p lo hi:Int,(0<=p/\p<np)/\(0<=lo/\lo<=hi/\hi<=ag+1)/\tk=[⟨p,lo,hi⟩])(h2:mk=[]∨∃p:Int,(0<=p/\p<np)/\mk=[p])(hrs:I rs=k)(hR:∀i r,rs[i]?=G r->OS ns np ag i r):∀i r,(rs++[e7 nm f t tk mk])[i]?=G r->OS ns np ag i r:=fun i r hi=>by
 by_cases hik:i<I rs
 ·grind
 ·rw[Ib (by omega)] at hi
  have h0:i-I rs=0:=by
   grind
  rw[h0] at hi
  simp at hi;subst hi
  have hik2:i=k:=by omega
  subst hik2
  exact⟨hnm,hf,ht,h1,h2,rfl⟩
noncomputable abbrev o8:=Tryz.f17
noncomputable def YR:=yl o8
noncomputable abbrev Ara:=fun a₀ b₀ c₀ d₀=>Aa PP 14 [bq 0 0,di 2] (dz a₀ b₀) (di c₀) (dz a₀ d₀)
noncomputable abbrev Att:=fun (a₀:Nat)=>(cy 94 [jx,(2,bq 1 0),(3,bq 2 0),(4,di (↑(a₀+1):Int))])
noncomputable abbrev Auy:=[kl YR ee,bf 0,kc YR [1,1,1]]
noncomputable abbrev Avj:=fun a₀=>[ke 0,ke 2,ke 3,ch 4 (di (a₀+1:Nat))]
noncomputable abbrev Avn:=fun a₀ b₀ c₀ d₀=>(ae a₀::vi b₀::vi c₀::ai nV::ai nV::ai nV::vi 0::vi 0::vi 0::ai nV::ai nV::ai nV::ai (vi d₀::nV)::vi 0::nV)
theorem Aep(l:List UInt8)(hl:I l<=200)(S Pl:List (List UInt8))(ag:Int)(hS:S=[[97]]∨S=[[97],[98]])(hP:Pl=[[120]]∨Pl=[[120],[121]])(hag:0<=ag/\ag<=1)(n:Nat):∀(k a:Nat) (rs:List cf),2-k=n->a<=I l->k<=2->I rs=k->(∀i r,rs[i]?=G r->OS (I S) (I Pl) ag i r)->
  ∃(m:cz) (a':Nat),BH m/\a'<=I l/\Rn PP o8 1 (Ad m) (dz l a') ([kl YR [1,1,0,1,0,0],.blk 0,kc YR [1,1,1]]++[]) (cy 94 [(0,.ptr 0 0),(2,.ptr 1 0),(3,.ptr 2 0),(4,di k)]) (ZP l a S Pl ag rs):=by
 induction n using Nat.strongRecOn with
 |_ n ih=>
 intro k a rs hn ha hk2 hrs hR
 have hSl:1<=I S/\S.length<=2:=by grind
 have hPl:1<=I Pl/\Pl.length<=2:=by grind
 have hSm:(I (S.map ae):Int)=(I S:Int):=by grind
 have hPm:(I (Pl.map ae):Int)=(I Pl:Int):=by grind
 have wag:yu yt (ag+2)=ag+2:=Ak
 obtain⟨r,a1,h1,h2,h3,h4⟩:=A5 l hl a ha 2 (by decide) (by decide)
 by_cases hk:(k:Int)<1+r
 ·obtain⟨f,a2,f1,f2,f3,f4⟩:=A5 l hl a1 h3 (I S) (by omega) (by omega)
  obtain⟨t,a3,t1,t2,t3,t4⟩:=A5 l hl a2 f3 (I S) (by omega) (by omega)
  obtain⟨nm,hnm⟩:∃nm,sb[k]?=G nm:=⟨_,HI (show k<I sb by grind)⟩
  have hkr:Y ((k:Int)<yu yt (1+r))=J:=by grind[Ak]
  obtain⟨u,a4,u1,u2,u3,u4⟩:=A5 l hl a3 t3 2 (by decide) (by decide)
  by_cases hu:(u==0)=J
  ·obtain⟨lo,a5,lo1,lo2,lo3,lo4⟩:=A5 l hl a4 u3 (ag+2) (by omega) (by omega)
   obtain⟨p,a6,p1,p2,p3,p4⟩:=A5 l hl a5 lo3 (I Pl) (by omega) (by omega)
   obtain⟨hi,a7,hi1,hi2,hi3,hi4⟩:=A5 l hl a6 p3 (ag+2-lo) (by omega) (by omega)
   obtain⟨x,a8,x1,x2,x3,x4⟩:=A5 l hl a7 hi3 2 (by decide) (by decide)
   have wlo:yu yt (ag+2-lo)=ag+2-lo:=Ak
   have whi:yu yt (lo+hi)=lo+hi:=Ak
   have htk:([⟨p,lo,lo+hi⟩]:List Tk)=[]∨∃p' lo' hi':Int,(0<=p'/\p'<I Pl)/\(0<=lo'/\lo'<=hi'/\hi'<=ag+1)/\([⟨p,lo,lo+hi⟩]:List Tk)=[⟨p',lo',hi'⟩]:=.inr ⟨p,lo,lo+hi,⟨p1,p2⟩,⟨lo1,by omega,by omega⟩,rfl⟩
   by_cases hx:(x==0)=J
   ·obtain⟨q,a9,q1,q2,q3,q4⟩:=A5 l hl a8 x3 (I Pl) (by omega) (by omega)
    obtain⟨m,a',m1,m2,m3⟩:=ih (2- (k+1)) (by omega) (k+1) a9 (rs++[e7 nm f t [⟨p,lo,lo+hi⟩] [q]]) rfl q3 (by omega) (by simp[hrs]) (V4 hnm ⟨f1,f2⟩ ⟨t1,t2⟩ htk (.inr ⟨q,⟨q1,q2⟩,rfl⟩) hrs hR)
    refine⟨m,a',m1,m2,?_⟩
    refine lv 94 [] (.c1 (co l a1) (di r)<|.t<|.h (.dr 15)<|.x (.str nm)<|.c1 (co l a2) (di f)<|.c1 (co l a3) (di t)<|.c1 (co l a4) (di u)<|.t<|.c1 (co l a5) (di lo)<|.c1 (co l a6) (di p)<|.c1 (co l a7) (di hi)<|.c1 (co l a8) (di x)<|.t<|.c1 (co l a9) (di q)<|.ls [ke 0,ke 2,ke 3,ch 4 (di (k+1:Nat))] (ZP l a9 S Pl ag (rs++[e7 nm f t [⟨p,lo,lo+hi⟩] [q]]))) (Aa PP 14 [bq 0 0,di 2] (dz l a) (di r) (dz l a1)/\Y ((k:Int)<yu yt (1+r))=J/\0<=(k:Int)/\[ae (bc #[114]).data.toList,ae (bc #[115]).data.toList][Z (k:Int)]?=G (ae nm)/\Aa PP 14 [bq 0 0,di (I (U ae S):Int)] (dz l a1) (di f) (dz l a2)/\Aa PP 14 [bq 0 0,di (I (U ae S):Int)] (dz l a1) (di f) (dz l a2)/\Q (di f)/\Aa PP 14 [bq 0 0,di (I (U ae S):Int)] (dz l a2) (di t) (dz l a3)/\Aa PP 14 [bq 0 0,di (I (U ae S):Int)] (dz l a2) (di t) (dz l a3)/\Q (di t)/\Q [bh [G (co l a1),G zM,G (gq S Pl ag rs),G fq] [(2,14,U Al rs)],bh [G (co l a2),G zM,G (gq S Pl ag rs),G fq] [(2,14,U Al rs)],bh [G (co l a3),G zM,G (gq S Pl ag rs),G fq] [(2,14,U Al rs)]]/\((yh (Q (G [bt (cp S)])))/\(yh (Q (G [bt (cp S)])))/\True)/\Aa PP 14 [bq 0 0,di 2] (dz l a3) (di u) (dz l a4)/\(u==0)=J/\Aa PP 14 [bq 0 0,di (yu yt (ag+2))] (dz l a4) (di lo) (dz l a5)/\Aa PP 14 [bq 0 0,di (I (U ae Pl):Int)] (dz l a5) (di p) (dz l a6)/\Aa PP 14 [bq 0 0,di (yu yt (yu yt (ag+2)-lo))] (dz l a6) (di hi) (dz l a7)/\(True/\(Q (G [di ag])/\True)/\True)/\Aa PP 14 [bq 0 0,di 2] (dz l a7) (di x) (dz l a8)/\(x==0)=J/\Aa PP 14 [bq 0 0,di (I (U ae Pl):Int)] (dz l a8) (di q) (dz l a9)/\Q (U Al rs)/\Ao (I (U Al rs)+I (ab (ae nm::aa yt f::aa yt t::ai nV::ai nV::ai nV::aa yt 0::aa yt 0::aa yt 0::ai nV::ai nV::ai (ab (aa yt p::aa yt lo::aa yt (yu yt (lo+hi))::nV)::nV)::ai (aa yt q::nV)::aa yt 0::nV)::nV)) 232/\di (yu yt ((k:Int)+1))=di (↑(k+1):Int)/\[G (co l a9),G zM,G [di 5,bt (cp S),bt (cp Pl),dn,dn,di 0,di ag,br 2 (U Al rs++ab (ae nm::vi f::vi t::ai nV::ai nV::ai nV::vi 0::vi 0::vi 0::ai nV::ai nV::ai (ab (vi p::vi lo::vi (yu yt (lo+hi))::nV)::nV)::ai (vi q::nV)::vi 0::nV)::nV),di 0,dn]]=[G (co l a9),G zM,G (gq S Pl ag (rs++[e7 nm f t [Tk.mk p lo (lo+hi)] [q]]))]/\[(2,14,U Al rs++ab (ae nm::vi f::vi t::ai nV::ai nV::ai nV::vi 0::vi 0::vi 0::ai nV::ai nV::ai (ab (vi p::vi lo::vi (yu yt (lo+hi))::nV)::nV)::ai (vi q::nV)::vi 0::nV)::nV)]=[(2,14,U Al (rs++[e7 nm f t [Tk.mk p lo (lo+hi)] [q]]))]/\I0 o8 1 (Ad m) (dz l a') [kl YR [1,1,0,1,0,0],bf 0,kc YR [1,1,1]] (cy 94 [(0,bq 0 0),(2,bq 1 0),(3,bq 2 0),(4,di (↑(k+1):Int))]) (ZP l a9 S Pl ag (rs++[e7 nm f t [Tk.mk p lo (lo+hi)] [q]]))) ?_
    rw[hSm,hPm,wag,wlo,whi]
    repeat' first|with_reducible refine And.intro ?_ ?_
    all_goals first|exact h4|exact hkr|exact f4|exact t4|exact u4|exact lo4|exact p4|exact hi4|exact hu|exact hx|exact x4|exact q4|  exact CC hnm|exact⟨m3⟩|exact Ae|omega|rfl|trivial|skip
    all_goals first|exact Ih (fun z=>[G (co l a9),G zM,G [di 5,.v (cp S),.v (cp Pl),.v .nils,.v .nils,di 0,di ag,.acc 2 z,di 0,.v .nils]]) (AY rs (e7 nm f t [⟨p,lo,lo+hi⟩] [q]))|exact Ih (fun z=>[(2,14,z)]) (AY rs (e7 nm f t [⟨p,lo,lo+hi⟩] [q]))|(simp only[HH,HN,HR];omega)
   ·have hx:(x==0)=O:=by grind
    obtain⟨m,a',m1,m2,m3⟩:=ih (2- (k+1)) (by omega) (k+1) a8 (rs++[e7 nm f t [⟨p,lo,lo+hi⟩] []]) rfl x3 (by omega) (by simp[hrs]) (V4 hnm ⟨f1,f2⟩ ⟨t1,t2⟩ htk (.inl rfl) hrs hR)
    refine⟨m,a',m1,m2,?_⟩
    refine lv 94 [] (.c1 (co l a1) (di r)<|.t<|.h (.dr 15)<|.x (.str nm)<|.c1 (co l a2) (di f)<|.c1 (co l a3) (di t)<|.c1 (co l a4) (di u)<|.t<|.c1 (co l a5) (di lo)<|.c1 (co l a6) (di p)<|.c1 (co l a7) (di hi)<|.c1 (co l a8) (di x)<|.f<|.ls [ke 0,ke 2,ke 3,ch 4 (di (k+1:Nat))] (ZP l a8 S Pl ag (rs++[e7 nm f t [⟨p,lo,lo+hi⟩] []]))) (Aa PP 14 [bq 0 0,di 2] (dz l a) (di r) (dz l a1)/\Y ((k:Int)<yu yt (1+r))=J/\0<=(k:Int)/\[ae (bc #[114]).data.toList,ae (bc #[115]).data.toList][Z (k:Int)]?=G (ae nm)/\Aa PP 14 [bq 0 0,di (I (U ae S):Int)] (dz l a1) (di f) (dz l a2)/\Aa PP 14 [bq 0 0,di (I (U ae S):Int)] (dz l a1) (di f) (dz l a2)/\Q (di f)/\Aa PP 14 [bq 0 0,di (I (U ae S):Int)] (dz l a2) (di t) (dz l a3)/\Aa PP 14 [bq 0 0,di (I (U ae S):Int)] (dz l a2) (di t) (dz l a3)/\Q (di t)/\Q [bh [G (co l a1),G zM,G (gq S Pl ag rs),G fq] [(2,14,U Al rs)],bh [G (co l a2),G zM,G (gq S Pl ag rs),G fq] [(2,14,U Al rs)],bh [G (co l a3),G zM,G (gq S Pl ag rs),G fq] [(2,14,U Al rs)]]/\((yh (Q (G [bt (cp S)])))/\(yh (Q (G [bt (cp S)])))/\True)/\Aa PP 14 [bq 0 0,di 2] (dz l a3) (di u) (dz l a4)/\(u==0)=J/\Aa PP 14 [bq 0 0,di (yu yt (ag+2))] (dz l a4) (di lo) (dz l a5)/\Aa PP 14 [bq 0 0,di (I (U ae Pl):Int)] (dz l a5) (di p) (dz l a6)/\Aa PP 14 [bq 0 0,di (yu yt (yu yt (ag+2)-lo))] (dz l a6) (di hi) (dz l a7)/\(True/\(Q (G [di ag])/\True)/\True)/\Aa PP 14 [bq 0 0,di 2] (dz l a7) (di x) (dz l a8)/\(x==0)=O/\Q (U Al rs)/\Ao (I (U Al rs)+I (ab (ae nm::aa yt f::aa yt t::ai nV::ai nV::ai nV::aa yt 0::aa yt 0::aa yt 0::ai nV::ai nV::ai (ab (aa yt p::aa yt lo::aa yt (yu yt (lo+hi))::nV)::nV)::ai nV::aa yt 0::nV)::nV)) 232/\di (yu yt ((k:Int)+1))=di (↑(k+1):Int)/\[G (co l a8),G zM,G [di 5,bt (cp S),bt (cp Pl),dn,dn,di 0,di ag,br 2 (U Al rs++ab (ae nm::vi f::vi t::ai nV::ai nV::ai nV::vi 0::vi 0::vi 0::ai nV::ai nV::ai (ab (vi p::vi lo::vi (yu yt (lo+hi))::nV)::nV)::ai nV::vi 0::nV)::nV),di 0,dn]]=[G (co l a8),G zM,G (gq S Pl ag (rs++[e7 nm f t [Tk.mk p lo (lo+hi)] []]))]/\[(2,14,U Al rs++ab (ae nm::vi f::vi t::ai nV::ai nV::ai nV::vi 0::vi 0::vi 0::ai nV::ai nV::ai (ab (vi p::vi lo::vi (yu yt (lo+hi))::nV)::nV)::ai nV::vi 0::nV)::nV)]=[(2,14,U Al (rs++[e7 nm f t [Tk.mk p lo (lo+hi)] []]))]/\I0 o8 1 (Ad m) (dz l a') [kl YR [1,1,0,1,0,0],bf 0,kc YR [1,1,1]] (cy 94 [(0,bq 0 0),(2,bq 1 0),(3,bq 2 0),(4,di (↑(k+1):Int))]) (ZP l a8 S Pl ag (rs++[e7 nm f t [Tk.mk p lo (lo+hi)] []]))) ?_
    rw[hSm,hPm,wag,wlo,whi]
    repeat' first|with_reducible refine And.intro ?_ ?_
    all_goals first|exact h4|exact hkr|exact f4|exact t4|exact u4|exact lo4|exact p4|exact hi4|exact hu|exact hx|exact x4|  exact CC hnm|exact⟨m3⟩|exact Ae|omega|rfl|trivial|skip
    all_goals first|exact Ih (fun z=>[G (co l a8),G zM,G [di 5,.v (cp S),.v (cp Pl),.v .nils,.v .nils,di 0,di ag,.acc 2 z,di 0,.v .nils]]) (AY rs (e7 nm f t [⟨p,lo,lo+hi⟩] []))|exact Ih (fun z=>[(2,14,z)]) (AY rs (e7 nm f t [⟨p,lo,lo+hi⟩] []))|(simp only[HH,HN,HR];omega)
  ·have hu:(u==0)=O:=by grind
   obtain⟨x,a8,x1,x2,x3,x4⟩:=A5 l hl a4 u3 2 (by decide) (by decide)
   by_cases hx:(x==0)=J
   ·obtain⟨q,a9,q1,q2,q3,q4⟩:=A5 l hl a8 x3 (I Pl) (by omega) (by omega)
    obtain⟨m,a',m1,m2,m3⟩:=ih (2- (k+1)) (by omega) (k+1) a9 (rs++[e7 nm f t [] [q]]) rfl q3 (by omega) (by simp[hrs]) (V4 hnm ⟨f1,f2⟩ ⟨t1,t2⟩ (.inl rfl) (.inr ⟨q,⟨q1,q2⟩,rfl⟩) hrs hR)
    refine⟨m,a',m1,m2,?_⟩
    refine lv 94 [] (.c1 (co l a1) (di r)<|.t<|.h (.dr 15)<|.x (.str nm)<|.c1 (co l a2) (di f)<|.c1 (co l a3) (di t)<|.c1 (co l a4) (di u)<|.f<|.c1 (co l a8) (di x)<|.t<|.c1 (co l a9) (di q)<|.ls [ke 0,ke 2,ke 3,ch 4 (di (k+1:Nat))] (ZP l a9 S Pl ag (rs++[e7 nm f t [] [q]]))) (Aa PP 14 [bq 0 0,di 2] (dz l a) (di r) (dz l a1)/\Y ((k:Int)<yu yt (1+r))=J/\0<=(k:Int)/\[ae (bc #[114]).data.toList,ae (bc #[115]).data.toList][Z (k:Int)]?=G (ae nm)/\Aa PP 14 [bq 0 0,di (I (U ae S):Int)] (dz l a1) (di f) (dz l a2)/\Aa PP 14 [bq 0 0,di (I (U ae S):Int)] (dz l a1) (di f) (dz l a2)/\Q (di f)/\Aa PP 14 [bq 0 0,di (I (U ae S):Int)] (dz l a2) (di t) (dz l a3)/\Aa PP 14 [bq 0 0,di (I (U ae S):Int)] (dz l a2) (di t) (dz l a3)/\Q (di t)/\Q [bh [G (co l a1),G zM,G (gq S Pl ag rs),G fq] [(2,14,U Al rs)],bh [G (co l a2),G zM,G (gq S Pl ag rs),G fq] [(2,14,U Al rs)],bh [G (co l a3),G zM,G (gq S Pl ag rs),G fq] [(2,14,U Al rs)]]/\((yh (Q (G [bt (cp S)])))/\(yh (Q (G [bt (cp S)])))/\True)/\Aa PP 14 [bq 0 0,di 2] (dz l a3) (di u) (dz l a4)/\(u==0)=O/\Aa PP 14 [bq 0 0,di 2] (dz l a4) (di x) (dz l a8)/\(x==0)=J/\Aa PP 14 [bq 0 0,di (I (U ae Pl):Int)] (dz l a8) (di q) (dz l a9)/\Q (U Al rs)/\Ao (I (U Al rs)+I (ab (ae nm::aa yt f::aa yt t::ai nV::ai nV::ai nV::aa yt 0::aa yt 0::aa yt 0::ai nV::ai nV::ai nV::ai (aa yt q::nV)::aa yt 0::nV)::nV)) 232/\di (yu yt ((k:Int)+1))=di (↑(k+1):Int)/\[G (co l a9),G zM,G [di 5,bt (cp S),bt (cp Pl),dn,dn,di 0,di ag,br 2 (U Al rs++ab (ae nm::vi f::vi t::ai nV::ai nV::ai nV::vi 0::vi 0::vi 0::ai nV::ai nV::ai nV::ai (vi q::nV)::vi 0::nV)::nV),di 0,dn]]=[G (co l a9),G zM,G (gq S Pl ag (rs++[e7 nm f t [] [q]]))]/\[(2,14,U Al rs++ab (ae nm::vi f::vi t::ai nV::ai nV::ai nV::vi 0::vi 0::vi 0::ai nV::ai nV::ai nV::ai (vi q::nV)::vi 0::nV)::nV)]=[(2,14,U Al (rs++[e7 nm f t [] [q]]))]/\I0 o8 1 (Ad m) (dz l a') [kl YR [1,1,0,1,0,0],bf 0,kc YR [1,1,1]] (cy 94 [(0,bq 0 0),(2,bq 1 0),(3,bq 2 0),(4,di (↑(k+1):Int))]) (ZP l a9 S Pl ag (rs++[e7 nm f t [] [q]]))) ?_
    repeat' first|with_reducible refine And.intro ?_ ?_
    all_goals first|exact h4|exact hkr|exact f4|exact t4|exact u4|exact hu|exact hx|exact x4|exact q4|  exact CC hnm|exact⟨m3⟩|exact Ae|omega|rfl|trivial|skip
    all_goals first|exact Ih (fun z=>[G (co l a9),G zM,G [di 5,.v (cp S),.v (cp Pl),.v .nils,.v .nils,di 0,di ag,.acc 2 z,di 0,.v .nils]]) (AY rs (e7 nm f t [] [q]))|exact Ih (fun z=>[(2,14,z)]) (AY rs (e7 nm f t [] [q]))|(simp only[HH,HN,HR];omega)
   ·have hx:(x==0)=O:=by grind
    obtain⟨m,a',m1,m2,m3⟩:=ih (2- (k+1)) (by omega) (k+1) a8 (rs++[e7 nm f t [] []]) rfl x3 (by omega) (by simp[hrs]) (V4 hnm ⟨f1,f2⟩ ⟨t1,t2⟩ (.inl rfl) (.inl rfl) hrs hR)
    refine⟨m,a',m1,m2,?_⟩
    refine lv 94 [] (.c1 (co l a1) (di r)<|.t<|.h (.dr 15)<|.x (.str nm)<|.c1 (co l a2) (di f)<|.c1 (co l a3) (di t)<|.c1 (co l a4) (di u)<|.f<|.c1 (co l a8) (di x)<|.f<|.ls [ke 0,ke 2,ke 3,ch 4 (di (k+1:Nat))] (ZP l a8 S Pl ag (rs++[e7 nm f t [] []]))) (Aa PP 14 [bq 0 0,di 2] (dz l a) (di r) (dz l a1)/\Y ((k:Int)<yu yt (1+r))=J/\0<=(k:Int)/\[ae (bc #[114]).data.toList,ae (bc #[115]).data.toList][Z (k:Int)]?=G (ae nm)/\Aa PP 14 [bq 0 0,di (I (U ae S):Int)] (dz l a1) (di f) (dz l a2)/\Aa PP 14 [bq 0 0,di (I (U ae S):Int)] (dz l a1) (di f) (dz l a2)/\Q (di f)/\Aa PP 14 [bq 0 0,di (I (U ae S):Int)] (dz l a2) (di t) (dz l a3)/\Aa PP 14 [bq 0 0,di (I (U ae S):Int)] (dz l a2) (di t) (dz l a3)/\Q (di t)/\Q [bh [G (co l a1),G zM,G (gq S Pl ag rs),G fq] [(2,14,U Al rs)],bh [G (co l a2),G zM,G (gq S Pl ag rs),G fq] [(2,14,U Al rs)],bh [G (co l a3),G zM,G (gq S Pl ag rs),G fq] [(2,14,U Al rs)]]/\((yh (Q (G [bt (cp S)])))/\(yh (Q (G [bt (cp S)])))/\True)/\Aa PP 14 [bq 0 0,di 2] (dz l a3) (di u) (dz l a4)/\(u==0)=O/\Aa PP 14 [bq 0 0,di 2] (dz l a4) (di x) (dz l a8)/\(x==0)=O/\Q (U Al rs)/\Ao (I (U Al rs)+I (ab (ae nm::aa yt f::aa yt t::ai nV::ai nV::ai nV::aa yt 0::aa yt 0::aa yt 0::ai nV::ai nV::ai nV::ai nV::aa yt 0::nV)::nV)) 232/\di (yu yt ((k:Int)+1))=di (↑(k+1):Int)/\[G (co l a8),G zM,G [di 5,bt (cp S),bt (cp Pl),dn,dn,di 0,di ag,br 2 (U Al rs++ab (ae nm::vi f::vi t::ai nV::ai nV::ai nV::vi 0::vi 0::vi 0::ai nV::ai nV::ai nV::ai nV::vi 0::nV)::nV),di 0,dn]]=[G (co l a8),G zM,G (gq S Pl ag (rs++[e7 nm f t [] []]))]/\[(2,14,U Al rs++ab (ae nm::vi f::vi t::ai nV::ai nV::ai nV::vi 0::vi 0::vi 0::ai nV::ai nV::ai nV::ai nV::vi 0::nV)::nV)]=[(2,14,U Al (rs++[e7 nm f t [] []]))]/\I0 o8 1 (Ad m) (dz l a') [kl YR [1,1,0,1,0,0],bf 0,kc YR [1,1,1]] (cy 94 [(0,bq 0 0),(2,bq 1 0),(3,bq 2 0),(4,di (↑(k+1):Int))]) (ZP l a8 S Pl ag (rs++[e7 nm f t [] []]))) ?_
    repeat' first|with_reducible refine And.intro ?_ ?_
    all_goals first|exact h4|exact hkr|exact f4|exact t4|exact u4|exact hu|exact hx|exact x4|  exact CC hnm|exact⟨m3⟩|exact Ae|omega|rfl|trivial|skip
    all_goals first|exact Ih (fun z=>[G (co l a8),G zM,G [di 5,.v (cp S),.v (cp Pl),.v .nils,.v .nils,di 0,di ag,.acc 2 z,di 0,.v .nils]]) (AY rs (e7 nm f t [] []))|exact Ih (fun z=>[(2,14,z)]) (AY rs (e7 nm f t [] []))|(simp only[HH,HN,HR];omega)
 ·obtain⟨m0',hm0⟩:∃m0':cz,m0'=⟨5,S,Pl,[],[],0,ag,rs,.mk 0 []⟩:=⟨_,rfl⟩
  obtain⟨s,ts,a2,s1,s2,s3,s4⟩:=Aka l hl m0' (by grind) (by grind) (by grind) a1 h3
  refine⟨⟨5,S,Pl,[],[],0,ag,rs,.mk 0 [.mk 0 [],.mk 0 ts]⟩,a2,⟨rfl,hS,hP,rfl,rfl,rfl,hag,by grind,by grind,hR,ts,by grind,rfl⟩,s3,?_⟩
  refine lv 94 [] (.c1 (co l a1) (di r)<|.f<|.h (.oc (.dagg [di 0,.arr 3 0 2]) ⟨[G (co l a2),G zM,G (gq S Pl ag rs),G [di s,cq [],di 0,cq ts]],[(2,14,rs.map Al)]⟩)<|.h .ww<|.m (.arr 3 0 2)<|.h (.q 14 0)<|.h (.cs ⟨[G (co l a2),G zM,G [di 5,.v (cp S),.v (cp Pl),.v .nils,.v .nils,di 0,di ag,.acc 2 (rs.map Al),di 0,.v (.list [Ac (.mk 0 []),Ac (.mk 0 ts)])],none],[(2,14,rs.map Al)]⟩) .r) (_/\Y ((k:Int)<yu yt (1+r))=O/\(∀(o:yy) (c:Call) (fo:x8),o.op=Op.call c->c.callee=Callee.value fo->Ai PP o [bt (bw 26 [] []),bq 0 0,bt (ab [vi 5,cp S,cp Pl,bv,bv,vi 0,vi ag,ai (U Al rs),vi 0,bv]),di 2] (bh [G (co l a1),G zM,G (gq S Pl ag rs)] [(2,14,U Al rs)]) (bi [di 0,bo 3 0 2]) (bh [G (co l a2),G zM,G (gq S Pl ag rs),G [di s,cq [],di 0,cq ts]] [(2,14,U Al rs)]))/\10<=10/\Q (G (bo 3 0 2))/\iz 0<=0/\0<(↑2:Int)/\(∀(e:List D) (E:cd) (g:Gh) (a:Act) (w:x5),FI E g (bh [G (co l a2),G zM,G (take (Nat.add 0 8) (gq S Pl ag rs)++Az (bi [di 0,bo 3 0 2])++W (Nat.add 0 8+2) (gq S Pl ag rs)),G [lj [(0,bq 0 0).snd,bj,(2,bq 1 0).snd,(3,bq 2 0).snd,(4,di (k:Int)).snd,bj,bj,bj,bj,bj,bj,bj,bj,bj,bj,bj,bj,bj,bj,bj,(4,di (k:Int)).snd,(0,bq 0 0).snd,di r,bt (aa yt (yu yt (1+r))),bt (bu false),bj,bj,bj,bj,bj,bj,bj,bj,bj,bj,bj,bj,bj,bj,bj,bj,bj,bj,bj,bj,bj,bj,bj,bj,bj,bj,bj,bj,bj,bj,bj,bj,bj,bj,bj,bj,bj,bj,bj,bj,bj,bj,bj,bj,bj,bj,bj,bj,bj,bj,bj,bj,bj,bj,bj,bj,bj,bj,bj,(0,bq 0 0).snd,bt (ab [aa yt 5,cp S,cp Pl,bv,bv,aa yt 0,aa yt ag,ai (U Al rs),aa yt 0,bv]),bi [di 0,bo 3 0 2],bq 2 (Nat.add 0 8),bq 2 (Nat.add 0 8),bq 2 (Nat.add (Nat.add 0 8) 1),bo 3 0 2,bq 3 (0+Z 0*2),bq 3 (Nat.add (0+Z 0*2) 0),bj] (Operand.const (Value.int yt 0)),cq [],di 0,cq ts]] [(2,14,U Al rs)]) e a w->∃g',FI E g' (bh [G (co l a2),G zM,G [di 5,bt (cp S),bt (cp Pl),dn,dn,di 0,di ag,br 2 (U Al rs),di 0,bt (ai [Ac (b9.mk 0 []),Ac (b9.mk 0 ts)])],none] [(2,14,U Al rs)]) e a w)/\Q [G (co l a2)]/\bt (ab [vi 5,ai (U ae S),ai (U ae Pl),ai [],ai [],vi 0,vi ag,ai (U Al rs),vi 0,ai [Ac (b9.mk 0 []),Ac (b9.mk 0 ts)]])=Ad (cz.mk 5 S Pl [] [] 0 ag rs (b9.mk 0 [b9.mk 0 [],b9.mk 0 ts]))) ⟨h4,HM (by grind[Ak]),fun o c fo ho hc=>?_,by decide,rfl,by decide,by decide,?_,rfl,?_⟩
  ·refine BR (ds':=[.v (.fn 26 [] []),.ptr 0 0,Ad m0',di 2]) (fun g us h=>by rw[hm0];exact D7 (ts:=[]) (kn:=false) h) ?_
   have h:=B3 (σ:=⟨[G (co l a1),G zM,G (gq S Pl ag rs)],[(2,14,rs.map Al)]⟩) ho hc (fD:=.v (.fn 26 [] [])) rfl (ds:=[.ptr 0 0,Ad m0',di 2]) [0] id s4 (.cons (.ren (dc:=.ptr 0 0) rfl) (.cons (.ren (dc:=Ad m0') rfl) (.cons (.ren (dc:=di 2) rfl) .nil)))
    (.cons rfl (.cons (.ren (dc:=.v (jr l)) rfl) (.cons (.ren (dc:=di a1) rfl) .nil)) (by rfl) .nil) (by simp) rfl (by simp) (by simp) (by rfl) (by rfl)
   exact h
  ·intro e
   exact BY (σ:=⟨[G (co l a2),G zM,G [di 5,.v (cp S),.v (cp Pl),.v .nils,.v .nils,di 0,di ag,.acc 2 (rs.map Al),di 0,.arr 3 0 2],G (Ab [Ac (.mk 0 []),Ac (.mk 0 ts)])],[(2,14,rs.map Al)]⟩) (p:=2) (q:=3) (i:=9) (sz:=2) (cs:=[di 5,.v (cp S),.v (cp Pl),.v .nils,.v .nils,di 0,di ag,.acc 2 (rs.map Al),di 0,.arr 3 0 2]) (xs:=[Ac (.mk 0 []),Ac (.mk 0 ts)]) (by decide) rfl rfl (by decide) rfl (fun x hx=>by simp at hx;rcases hx with rfl|rfl<;>rfl) e
  ·show bt (ab [vi 5,cp S,cp Pl,cp [],cw [],vi 0,vi ag,BF rs,vi 0,ai [Ac (.mk 0 []),Ac (.mk 0 ts)]])=_
   rw[←AH, ←AH];rfl
theorem Alx(l:List UInt8)(hl:I l<=200)(a:Nat)(ha:a<=I l):
  ∃(m:cz) (a':Nat),BH m/\a'<=I l/\Aa PP 17 [.ptr 0 0] (dz l a) (Ad m) (dz l a'):=by
 obtain⟨r1,a1,p1,p2,p3,p4⟩:=A5 l hl a ha 2 (by decide) (by decide)
 obtain⟨r2,a2,q1,q2,q3,q4⟩:=A5 l hl a1 p3 2 (by decide) (by decide)
 obtain⟨ag,a3,u1,u2,u3,u4⟩:=A5 l hl a2 q3 2 (by decide) (by decide)
 obtain⟨n1,rfl⟩:∃n:Nat,r1=n:=⟨r1.toNat,by omega⟩
 obtain⟨n2,rfl⟩:∃n:Nat,r2=n:=⟨r2.toNat,by omega⟩
 obtain⟨S,hS⟩:∃S,S=([[97],[98]]:List (List UInt8)).take (1+n1):=⟨_,rfl⟩
 obtain⟨Pl,hPl⟩:∃S,S=([[120],[121]]:List (List UInt8)).take (1+n2):=⟨_,rfl⟩
 have hSx:S=[[97]]∨S=[[97],[98]]:=by
  rcases(show n1=0∨n1=1 by omega) with rfl|rfl
  all_goals grind
 have hPx:Pl=[[120]]∨Pl=[[120],[121]]:=by
  rcases(show n2=0∨n2=1 by omega) with rfl|rfl
  all_goals grind
 obtain⟨m,a',m1,m2,m3⟩:=Aep l hl S Pl ag hSx hPx ⟨u1,by omega⟩ _ 0 a3 [] rfl u3 (by omega) rfl (by simp)
 refine⟨m,a',m1,m2,?_⟩
 refine sv o8 94 [] (.h (.dr 13)<|.c1 (co l a1) (di n1)<|.c1 (co l a2) (di n2)<|.c1 (co l a3) (di ag)<|.h .rn<|.h (.q 2 0)<|.h (.cl 2 7 2 14)<|.ls [ke 0,ke 2,ke 3,ch 4 (di (0:Nat))] (ZP l a3 S Pl ag [])) (kv l a n1 a1/\kv l a n1 a1/\Q (di (n1:Int))/\(∀(x:V),x∈ q7->V.size x=1)/\0<=(fun x=>x.snd) (yt,yu yt (gt n1))/\(fun x=>x.snd) (yt,yu yt (gt n1))<=(↑(I q7):Int)/\kv l a1 n2 a2/\kv l a1 n2 a2/\Q (di (n2:Int))/\(∀(x:V),x∈ kw->V.size x=1)/\0<=(fun x=>x.snd) (yt,yu yt (gt n2))/\(fun x=>x.snd) (yt,yu yt (gt n2))<=(↑(I kw):Int)/\Ara l a2 ag a3/\Ara l a2 ag a3/\Q (di ag)/\Q [bh (il l a) [],bh (il l a1) [],bh (il l a2) [],bh (il l a3) []]/\True/\di 0=di (↑0:Int)/\[G (co l a3),G si,G [di 5,bt (ai (W 0 (take (Z ((fun x=>x.snd) (yt,yu yt (gt n1)))) Atx))),bt (ai (W 0 (take (Z ((fun x=>x.snd) (yt,yu yt (gt n2)))) tc))),dn,dn,di 0,di ag,br 2 nV,di 0,dn]]=[G (co l a3),G zM,G (gq S Pl ag [])]/\Q [(2,14,nV)]/\I0 o8 (I (dz l a).H) (Ad m) (dz l a') Auy (cy 94 [jx,(2,bq 1 0),(3,bq 2 0),(4,di (↑0:Int))]) (ZP l a3 S Pl ag [])) ?_
 have w1:yu yt (1+(n1:Int))=1+n1:=Ak
 have w2:yu yt (1+(n2:Int))=1+n2:=Ak
 have z1:∀x∈ [ae [97],ae [98]],x.size=1:=by simp[V.size]
 have z2:∀x∈ [ae [120],ae [121]],x.size=1:=by simp[V.size]
 have k1:ai (W 0 (take (1+(n1:Int)).toNat [ae [97],ae [98]]))=cp S:=by
  rw[hS,Jt,show(1+(n1:Int)).toNat=1+n1 by omega]
  simp_all
 have k2:ai (W 0 (take (1+(n2:Int)).toNat [ae [120],ae [121]]))=cp Pl:=by
  rw[hPl,Jt,show(1+(n2:Int)).toNat=1+n2 by omega]
  simp_all
 rw[w1,w2]
 refine⟨p4,p4,rfl,z1,by grind,by grind,q4,q4,rfl,z2,by grind,by grind,u4,u4,rfl,rfl,trivial,rfl,?_,rfl,⟨m3⟩⟩
 grind
def vj(P:x7)(t:x6):Bool:=match P.underlying t with
 |some (.int .i64)=>true
 |_=>false
theorem PH{P:x7}{t:x6}(h:vj P t=J):P.underlying t=G (.int .i64):=by
 unfold vj at h
 split at h
 ·assumption
 ·simp at h
def Mf(P:x7)(t:x6):Bool:=match (P.fieldsOf t).toList with
 |[f,g,h]=>f.name !="_"&&g.name !="_"&&h.name !="_"&&f.offset==0&&g.offset==1&&h.offset==2&&P.plainKey f.type&&P.plainKey g.type&&P.plainKey h.type&&vj P f.type&&vj P g.type&&vj P h.type
 |_=>false
theorem AiW{P:x7}{t:x6}(h2:Mf P t=J)(ht:P.underlying t=G (.struct (P.fieldsOf t)))(hp:P.stoodInHeld t=O)(d:Nat)(a b c:Int)(w:x5):
  (Op.equalIn (d+2) t (.agg #[.int .i64 a,.int .i64 b,.int .i64 c]) (.agg #[.int .i64 a,.int .i64 b,.int .i64 c])).run P w=.ok true w:=by
 rw[run_equalIn_struct w (d+1) t _ _ ht hp]
 unfold Mf at h2
 split at h2
 ·rename_i f g h hfs
  rw[hfs]
  simp only[HJ,bne_iff_ne,Iv] at h2
  obtain⟨⟨⟨⟨⟨⟨⟨⟨⟨⟨⟨n1,n2⟩,n3⟩,o1⟩,o2⟩,o3⟩,p1⟩,p2⟩,p3⟩,u1⟩,u2⟩,u3⟩:=h2
  have e1:∀w,(part f.type #[.int .i64 a,.int .i64 b,.int .i64 c] f.offset).run P w=.ok (.int .i64 a) w:=fun w=>run_part_plain w p1 (by rw[o1];rfl)
  have e3:∀w,(part g.type #[.int .i64 a,.int .i64 b,.int .i64 c] g.offset).run P w=.ok (.int .i64 b) w:=fun w=>run_part_plain w p2 (by rw[o2];rfl)
  have e5:∀w,(part h.type #[.int .i64 a,.int .i64 b,.int .i64 c] h.offset).run P w=.ok (.int .i64 c) w:=fun w=>run_part_plain w p3 (by rw[o3];rfl)
  simp only[Op.eqFields,ne_eq,n1,n2,n3,not_false_eq_true,IT,Sem.run_bind,e1,Result.andThen_ok,run_equalIn_int _ d _ .i64 .i64 _ _ (PH u1)]
  have u2':=fun w=>run_equalIn_int (P:=P) w d g.type .i64 .i64 b b (PH u2)
  have u3':=fun w=>run_equalIn_int (P:=P) w d h.type .i64 .i64 c c (PH u3)
  simp[Sem.run_ite,e3,u2',e5,u3']
 ·simp at h2
abbrev nf:x6:=81
theorem Ael:Mf PP nf=J:=by kernel_rfl
theorem Ao3:PP.underlying nf=G (.struct (PP.fieldsOf nf)):=by kernel_rfl
theorem AiK:PP.stoodInHeld nf=O:=by kernel_rfl
theorem Aem:PP.eqGuardType PP.depth nf=O:=by kernel_rfl
theorem Alv:TS PP nf 3:=by unfold TS;kernel_rfl
theorem Afm{o:yy}{σ:St}{ty:x6}{x y:x8}(ho:o.op=.binOp .neq nf x y ty)(a:Tk):Ai PP o [.v (dh a),.v (dh a)] σ (db O) σ:=by
 refine A6 fun E g ρ w hw hds=>?_
 simp only[ho,Op.operands,Au] at hds
 obtain⟨u,v,e,h1,h2'⟩:=hds
 simp only[Ik,IF,HV,Ix] at e
 obtain⟨e1,e2⟩:=e
 simp only[Ag,Db] at h1 h2'
 obtain⟨ws,h1,rfl⟩:=h1
 obtain⟨vs,h3,rfl⟩:=h2'
 have hw1:ws=[.int .i64 a.1,.int .i64 a.2,.int .i64 a.3]:=by
  simp only[repA,repC,HV,Ix] at h1
  obtain⟨u,us,rfl,_,rfl,u2,us2,rfl,_,rfl,u3,us3,rfl,_,rfl,rfl⟩:=h1;rfl
 have hw2:vs=[.int .i64 a.1,.int .i64 a.2,.int .i64 a.3]:=by
  simp only[repA,repC,HV,Ix] at h3
  obtain⟨u,us,rfl,_,rfl,u2,us2,rfl,_,rfl,u3,us3,rfl,_,rfl,rfl⟩:=h3;rfl
 subst hw1 hw2
 refine⟨.bool false,?_,by simp[Ag]⟩
 have hr:=AiW Ael Ao3 AiK 9998 a.1 a.2 a.3 w
 simp[execOp,ho,e1,e2,run_eqGuard_agg w .neq nf x y _ _ Aem,run_neq_struct,hr]
theorem AjK(a:Tk):F0 260 [.v (AD [a]),.v (AD [a])] (db J):=by
 exact sv Aqj 26 [] (.n<|.x (dh a)<|.x (dh a)<|.h (.p (.v (dh a)))<|.h (.p (db O))<|.n<|.r) (iz 0<=0/\Q (G (dh a))/\iz 0<=0/\Q (G (dh a))/\(∀(τ:St),Ai PP (Oper.mk (G 23) (Op.load 81 (Operand.tmp 22)) 81 "slices.go:25" #[Edge.mk 6 Ground.data] none) [bt (bz (dh a))] τ (bt (dh a)) τ)/\(∀(τ:St),Ai PP (Oper.mk (G 24) (Op.binOp BinOp.neq 81 (Operand.tmp 19) (Operand.tmp 23) 81) 4 "slices.go:25" #[Edge.mk 3 Ground.data,Edge.mk 7 Ground.data] none) [bt (dh a),bt (dh a)] τ (db O) τ)/\Q (db J)) ⟨by decide,rfl,by decide,rfl,fun τ=>Rb rfl Alv,fun τ=>Afm rfl a,rfl⟩
theorem Agy(l:List Tk)(h:I l<=1):F0 260 [.v (AD l),.v (AD l)] (db J):=by
 match l,h with
 |[],_=>exact Acd []
 |[a],_=>exact AjK a
noncomputable abbrev Aqd:=Tryz.f254
theorem Ae7(l:List Int)(h:I l<=1):F0 254 [cx l] (db J):=by
 match l,h with
 |[],_=>
  refine sv Aqd 21 [] (.n<|.r) (Q (db J)) ?_
  rfl
 |[a],_=>
  refine sv Aqd 21 [] (.n<|.r) (Q (db J)) ?_
  rfl
noncomputable abbrev AqQ:=Tryz.f255
theorem Ahv(n:Nat)(hn:n<=1000000)(x:Int):F0 255 [di x,.v (.ref (vi n))] (db (A3 x 0 (n-1))):=by
 exact sv AqQ 7 [] (.c (db (A3 x 0 (n-1))) .r) (_/\Q (db (A3 x 0 ((n:Int)-1)))) ⟨Eb x n hn,rfl⟩
noncomputable abbrev AqP:=Tryz.f257
theorem AnU(m:cz)(hm:I m.ay<=1000000)(hag:0<=m.age/\m.age<=1000)(t:Tk)(h1:0<=t.place/\t.place<I m.ay)(h2:0<=t.low/\t.low<=t.high/\t.high<=m.age+1):F0 257 [.v (dh t),.v (.ref (vi (I m.ay))),.v (.ref (A0 m))] (db O):=by
 refine sv AqP 30 [3] (.c (db J)<|.k<|.f<|.f<|.r) (F0 198 [di t.place,di (I m.ay:Int)] (db J)/\Y (t.low<0)=O/\Y (t.low>t.high)=O/\db (Y (t.high>yu yt (m.age+1)))=db O) ?_
 have h:=Eb t.place (I m.ay) hm
 rw[show A3 t.place 0 ((I m.ay:Int)-1)=J by simp[A3];omega] at h
 refine⟨h,yq,yq,?_⟩
 rw[Ak,yq]
noncomputable abbrev AmL:=Tryz.f283
noncomputable abbrev AmZ:=Tryz.f256
theorem XB(F:yx)(cs:List V)(l:List Tk)(h:I l<=1)(hp:∀x∈l,F0 F ((([]:List V)++[dh x]++cs).map .v) (db O)):F0 256 [.v (AD l),.v (.fn F [] cs)] (db O):=by
 have hi:F0 283 [.v (AD l),.v (.fn F [] cs)] (di (-1)):=by
  match l,h with
  |[],_=>
   refine sv AmL 19 [] (.n<|.r) (Q (di (-1))) ?_
   rfl
  |[a],_=>
   exact sv AmL 19 [] (.n<|.x (dh a)<|.c (db O)<|.n<|.r) (iz 0<=0/\Q (G (dh a))/\F0 F (bt (dh a)::U bt ([]++cs)) (db O)/\Q (di (-1))) ⟨by decide,rfl,by simpa using hp a (by simp),rfl⟩
 exact sv AmZ 9 [] (.c (di (-1)) .r) (_/\db (Y (-1>=0))=db O) ⟨hi,rfl⟩
noncomputable abbrev AqO:=Tryz.f203
theorem AnT(m:cz)(hm:I m.ay<=1000000)(hag:0<=m.age/\m.age<=1000)(r:cf)(h1:I r.ar<=1)(h2:I r.aq<=1)(h3:∀t∈r.ar,(0<=t.place/\t.place<I m.ay)/\(0<=t.low/\t.low<=t.high/\t.high<=m.age+1))(h4:∀x∈r.aq,0<=x/\x<I m.ay):F0 203 [Ad m,BP r] (db J):=by
 refine sv AqO 37 [2,3] (.h (.q 2 0)<|.h (.f1 0 [5])<|.t<|.t<|.c (db J)<|.k<|.c (db J)<|.k<|.c (db O)<|.r) (Y ((I (U dh r.ar):Int)<=3)=J/\Y ((I (cc r.aq):Int)<=3)=J/\_/\F0 204 [cx r.aq,bt (bw 255 [] [bz (vi (I (df m.ay):Int))])] (db J)/\F0 256 [bt (AD r.ar),bt (bw 257 [] [bz (vi (I (df m.ay):Int)),bz (A0 m)])] (db O)/\Q (db J)) ⟨HK (by rw[HH];omega),HK (by rw[HH];omega),Ae7 _ h2,?_,?_,rfl⟩
 ·rw[HH]
  have h:=JU 255 [] [.ref (vi (I m.ay))] (fun x=>A3 x 0 ((I m.ay:Int)-1)) r.aq (by omega) (fun x _=>Ahv (I m.ay) hm x)
  rwa[show(r.aq.all fun x=>A3 x 0 ((I m.ay:Int)-1))=J from by
   rw[I5];intro x hx;have:=h4 x hx;simp[A3];omega] at h
 ·rw[HH]
  exact XB _ _ r.ar h1 fun x hx=>AnU m hm hag x (h3 x hx).1 (h3 x hx).2
theorem AeI(nm:List UInt8)(f t:Int)(tk:List Tk)(mk:List Int)(h1:I tk<=1)(h2:I mk<=1):F0 206 [BP (e7 nm f t tk mk),BP (e7 nm f t tk mk)] (db J):=by
 have e:∀l:List Int,I l<=1000000->F0 259 [.v (cw l),.v (cw l)] (db J):=fun l hl=>by simpa using Er l l hl
 have n0:=e [] (by decide)
 exact sv Am1 101 [2,3] (.t<|.t<|.t<|.c (db J)<|.k<|.c (db J)<|.k<|.c (db J)<|.k<|.k<|.k<|.k<|.c (db J)<|.k<|.c (db J)<|.k<|.c (db J)<|.k<|.c (db J)<|.k<|.r) (((e7 nm f t tk mk).name==(e7 nm f t tk mk).name)=J/\((e7 nm f t tk mk).aj==(e7 nm f t tk mk).aj)=J/\((e7 nm f t tk mk).to==(e7 nm f t tk mk).to)=J/\_/\_/\_/\_/\_/\_/\_/\db ((e7 nm f t tk mk).second==(e7 nm f t tk mk).second)=db J) ⟨by simp,by simp,by simp,n0,n0,n0,n0,n0,Agy tk h1,e mk (by omega),by simp⟩
theorem Aar(m:cz)(hm:I m.ay<=1000000)(hst:I m.aw<=1000000)(hk:m.kind=5)(hag:0<=m.age/\m.age<=1000)(nm:List UInt8)(f t:Int)(tk:List Tk)(mk:List Int)(hf:0<=f/\f<I m.aw)(ht:0<=t/\t<I m.aw)(h1:I tk<=1)(h2:I mk<=1)(h3:∀t∈tk,(0<=t.place/\t.place<I m.ay)/\(0<=t.low/\t.low<=t.high/\t.high<=m.age+1))(h4:∀x∈mk,0<=x/\x<I m.ay):F0 147 [Ad m,BP (e7 nm f t tk mk)] (db J):=by
 have hx:∀x:Int,0<=x->x<I m.aw->F0 198 [di x,di (I (m.aw.map ae):Int)] (db J):=fun x h0 h1=>by
  rw[HH]
  have h:=Eb x (I m.aw) hst
  rwa[show A3 x 0 ((I m.aw:Int)-1)=J by simp[A3];omega] at h
 exact sv AbO 142 [2,3] (.c (db J)<|.k<|.c (db J)<|.k<|.k<|.f<|.f<|.f<|.f<|.t<|.c (db J)<|.k<|.c (db J) .r) (_/\_/\(m.kind==1)=O/\(m.kind==2)=O/\(m.kind==3)=O/\(m.kind==4)=O/\(m.kind==5)=J/\_/\_/\Q (db J)) ⟨hx t ht.1 ht.2,hx f hf.1 hf.2,by rw[hk];rfl,by rw[hk];rfl,by rw[hk];rfl,by rw[hk];rfl,by rw[hk];rfl,AnT m hm hag (e7 nm f t tk mk) h1 h2 h3 h4,AeI nm f t tk mk h1 h2,rfl⟩
def Av(m:cz):cr:=.prod [.lab (I m.aw),.bag (.prod [.lab (I m.ay),.lab (m.age+2)])]
theorem Ma(m:cz)(hk:m.kind=5)(hag:0<=m.age/\m.age<=1000):F0 86 [Ad m] (dT (Av m)):=by
 exact sv GN 70 [1] (.c (dT (.lab (I m.aw)))<|.a 1<|.f<|.t<|.c (dT (.lab (I m.ay)))<|.c (dT (.lab (m.age+2)))<|.c (dT (.bag (.prod [.lab (I m.ay),.lab (m.age+2)])))<|.r) (F0 152 [di (I (U ae m.aw):Int)] (dT (cr.lab (I m.aw:Int)))/\(m.kind==4)=O/\(m.kind==5)=J/\F0 152 [di (I (U ae m.ay):Int)] (dT (cr.lab (I m.ay:Int)))/\F0 152 [di (yu yt (m.age+2))] (dT (cr.lab (m.age+2)))/\_/\Q (vT (cr.lab (I m.aw:Int))::nV)/\Ao 2 64/\bt (ab [vi 3,vi 0,ai [],ai [vT (cr.lab (I m.aw:Int)),vT (cr.bag (cr.prod [cr.lab (I m.ay:Int),cr.lab (m.age+2)]))]])=dT (Av m)) ⟨by rw[HH];exact EZ _,by rw[hk];rfl,by rw[hk];rfl,by rw[HH];exact EZ _,by rw[Ak];exact EZ _,Abn (.prod [.lab (I m.ay),.lab (m.age+2)]),rfl,⟨by decide,by decide⟩,rfl⟩
theorem AoH(m:cz)(hst:1<=I m.aw/\m.aw.length<=16)(hpl:1<=I m.ay/\m.ay.length<=16)(hag:0<=m.age/\m.age<=3):CQ 8 (Av m)=J:=by
 simp only[Av,CQ,HN,HR,List.all_cons,List.all_nil,Bool.and_true,HJ,IA,Iy,Jk,HS]
 omega
theorem Als(np age:Int)(t:b9)(h:oq np age t):Ax (.prod [.lab np,.lab (age+2)]) t=J:=by
 obtain⟨p,g,h1,h2,rfl⟩:=h
 simp only[Ax,b9.n,b9.az,BN,C9,HJ,Iv]
 refine⟨?_,?_,⟨?_,?_,?_⟩,⟨?_,?_,?_⟩,?_⟩
 all_goals first|exact HK h1.1|exact HK h1.2|exact HK h2.1|exact HK h2.2|rfl|trivial
theorem UI(l:List b9)(h:∀i x y,l[i]?=G x->l[i+1]?=G y->Ar x y<0):∀k,k<I l->YK l k=J
 |0,_=>rfl
 |k+1,hk=>by
  have h1:l[k]?=G l[k]:=HI (by omega)
  have h2:l[k+1]?=G l[k+1]:=HI hk
  have h3:=h k _ _ h1 h2
  have h4:=(B6.swap _ _ trivial trivial).1 h3
  rw[YK,HQ,HQ,h1,h2,HZ (by show ¬Ar l[k+1] l[k]<0;omega)]
  exact UI l h k (by omega)
theorem Sg(m:cz)(s:Int)(hs:0<=s/\s<I m.aw)(ts:List b9)(h:m9 (I m.ay) m.age 2 ts):Ah (Av m) (.mk 0 [.mk s [],.mk 0 ts])=J:=by
 have hsz:=Z4 ts h.tok
 have hl:=h.len
 have hsr:WT ts=J:=by
  unfold WT
  cases ts with
  |nil=>rfl
  |cons t ts=>exact UI _ h.asc _ (by simp)
 rw[Ah,HK (by simp only[b9.size,b9.sizes];omega),Is,Av]
 simp only[Ax,b9.n,b9.az,BN,C9,HJ,Iv,I5]
 refine⟨?_,?_,⟨?_,?_,?_⟩,⟨⟨?_,?_,?_⟩,?_⟩,?_⟩
 all_goals first|exact HK hs.1|exact HK hs.2|exact hsr|(intro t ht;obtain⟨p,g,h1,h2,rfl⟩:=h.tok t ht;have:=Als _ _ _ ⟨p,g,h1,h2,rfl⟩;simp only[Ax,HJ] at this;exact⟨rfl,rfl,this.2.2⟩)|rfl|trivial|exact yr
def iw(r:cf)(k:Nat):Int:=if r.move=[] then k else r.move.getD k 0
def j2(r:cf)(k:Nat)(x:Int)(ws:List Int):List Int:=if iw r k>=0 then ws.set (iw r k).toNat (ws.getD (iw r k).toNat 0+x) else ws
def gj(r:cf):Nat->List Int->List Int->List Int->List Int
 |k,y::ys,n::ns,ws=>gj r (k+1) ys ns (j2 r k (y-n) ws)
 |_,_,_,ws=>ws
def nz(r:cf)(ys:List Int):List Int:=gj r 0 ys r.am (replicate (I ys) 0)
theorem Tr(r:cf)(k:Nat)(ns ws:List Int):gj r k [] ns ws=ws:=by rfl
theorem Abl(r:cf)(k:Nat)(x:Int)(ws:List Int):I (j2 r k x ws)=I ws:=by
 grind[j2]
theorem Ts(r:cf):∀(ys ns:List Int) (k:Nat) (ws:List Int),I (gj r k ys ns ws)=I ws
 |[],_,_,_=>by rfl
 |_::_,[],_,_=>by rfl
 |y::ys,n::ns,k,ws=>by rw[gj,Ts r ys ns,Abl]
def pg(r:cf)(N:Nat):Prop:=r.move=[]∨r.move.length=N/\∀t∈r.move, -1<=t/\t<N
theorem AhR{r:cf}{N k:Nat}(h:pg r N)(hk:k<N): -1<=iw r k/\iw r k<N:=by
 unfold iw
 rcases h with h|⟨h1,h2⟩
 all_goals grind[List.getElem_mem]
noncomputable abbrev Avd:=[kl FA [1,1,1,1,1,1,0,1,0,0],bf 0,kc FA [1,1,1,1,1,1,1]]
theorem Aho(r:cf)(c:b9)(s:Int)(ys:List Int)(hc:km c s ys)(hl:I r.am=I ys)(hg:I r.ak=I ys)(hy:I ys<=6)(by1:∀y∈ys,0<=y/\y<=1048576)(bn:∀y∈r.am,0<=y/\y<=16)(bg:∀y∈r.ak,0<=y/\y<=16)(N:Nat)(hN:N=I ys)(hm:pg r N)(n:Nat):∀(k:Nat) (ws:List Int),N-k=n->k<=N->I ws=N->(∀w∈ws, -(1048576*(k:Int))<=w/\w<=1048576*(k:Int))->
  Rn PP Nm 0 (nk [lf r.to] (gj r k (ys.drop k) (r.am.drop k) ws) r.ak) ba ([kl FA [1,1,1,1,1,1,0,1,0,0],.blk 0,kc FA [1,1,1,1,1,1,1]]++[]) (cy 116 [(5,.v (.ref (Ac c))),(6,.ptr 0 0),(10,.ptr 1 0),(11,.arr 2 0 N),(12,di k)]) (gz r ws):=by
 induction n with
 |zero=>
  intro k ws hn hkN hx hb
  refine lv 116 [3,5] (.f<|.a 1<|.h .g<|.lo [ke 6,ke 10,ke 11,ke 14,ch 15 (di (0:Nat))] (j3 r ws [lf r.to])) (Y ((k:Int)<(N:Int))=O/\di 0=di (↑0:Int)/\cm 4 [1] [G [di 0,dn],G (cR r),G (c9 ws),G [di 0,br 1 [ab [vi r.to,ai []]]]]=J/\[G [di 0,dn],G (cR r),G (c9 ws),G [di 0,br 1 (ab (ib r.to)::nV)]]=[G [di 0,dn],G (cR r),G (c9 ws),G [di 0,br 1 (eV (lf r.to)::nV)]]/\[(1,2,ab (ib r.to)::nV)]=[(1,2,eV (lf r.to)::nV)]/\I0 Nm 0 (nk [lf r.to] (gj r k (W k ys) (W k r.am) ws) r.ak) ba [kl FA [1,1,1,1,1,1,1,1,0,1,0,0],bf 2,kc FA [1,1,1,1,1,1,1,1,1]] (cy 116 [jh,(10,bq 1 0),(11,bo 2 0 N),(14,bq 3 0),(15,di (↑0:Int))]) (j3 r ws [lf r.to])) ?_
  rw[Ic (show I ys<=k by omega),Tr]
  refine⟨yq,rfl,by simp[cm,D.okNs,D.okN,BB],rfl,rfl,⟨?_⟩⟩
  have:=Akn r ws (by omega) (by omega) (fun w hw=>by have:=hb w hw;omega) (fun w hw=>by have:=bg w hw;omega) _ 0 [lf r.to] rfl (by simp)
  rw[hx] at this
  exact this
 |succ n ih=>
  intro k ws hn hkN hx hb
  have hk:k<N:=by omega
  have okS:∀l:List Int,cm 3 [] [G [di 0,.v .nils],G (cR r),G (c9 l)]=J:=fun l=>by simp[cm,D.okNs,D.okN,BB]
  obtain⟨y,hy1⟩:=@yk _ ys k (by omega)
  obtain⟨x,hn1⟩:∃x,r.am[k]?=G x:=⟨_,HI (by omega)⟩
  have e3:ys.drop k=y::ys.drop (k+1):=by rw[HX (by omega)];congr 1;rw[HI (by omega)] at hy1;simpa using hy1
  have e4:r.am.drop k=x::r.am.drop (k+1):=by rw[HX (by omega)];congr 1;rw[HI (by omega)] at hn1;simpa using hn1
  have hcy:=hc.at' k _ hy1
  have b1:=by1 _ (HO hy1)
  have b2:=bn _ (HO hn1)
  have ht:=AhR hm hk
  obtain⟨t,hte⟩:∃t,t=iw r k:=⟨_,rfl⟩
  have e1:yt.wrap (1+(k:Int))=((k+1:Nat):Int):=by rw[Ak];omega
  rw[e3,e4,gj,j2, ←hte]
  by_cases h0:t>=0
  ·rw[Ie h0]
   obtain⟨w,hw⟩:∃w,ws[t.toNat]?=G w:=⟨_,HI (by omega)⟩
   rw[show ws.getD t.toNat 0=w by rw[HQ,hw];rfl]
   by_cases hmv:r.move=[]
   ·refine lv 116 [3,5] (.t<|.f<|.t<|.m (di w)<|.h (.xs (Ac (lf y)))<|.x (vi x)<|.w<|.lo [ke 5,ke 6,ke 10,ke 11,ch 12 (di (k+1:Nat))] (gz r (ws.set t.toNat (w+(y-x))))) (Y ((k:Int)<(N:Int))=J/\Y ((I (cc r.move):Int)>0)=O/\Y ((k:Int)>=0)=J/\0<=(k:Int)/\(k:Int)<(N:Int)/\(c9 ws)[0+Z (k:Int)*1]?=G (di w)/\Q 2/\0<=yu yt (1+(k:Int))/\(ce c.az)[Z (yu yt (1+(k:Int)))]?=G (Ac (lf y))/\0<=(k:Int)/\(cc r.am)[Z (k:Int)]?=G (vi x)/\0<=(k:Int)/\(k:Int)<(N:Int)/\0+Z (k:Int)*1<I (c9 ws)/\yo/\di (yu yt ((k:Int)+1))=di (↑(k+1):Int)/\cm 3 [] [G [di 0,dn],G (cR r),G (List.set (c9 ws) (0+Z (k:Int)*1) (di (yu yt (w+yu yt (b9.n (lf y)-x)))))]=J/\[G [di 0,dn],G (cR r),G (List.set (c9 ws) (0+Z (k:Int)*1) (di (yu yt (w+yu yt (b9.n (lf y)-x)))))]=[G [di 0,dn],G (cR r),G (c9 (List.set ws (Z t) (w+(y-x))))]/\I0 Nm 0 (nk [lf r.to] (gj r (k+1) (W (k+1) ys) (W (k+1) r.am) (List.set ws (Z t) (w+(y-x)))) r.ak) ba Avd (cy 116 [(5,bt (jy c)),jh,(10,bq 1 0),(11,bo 2 0 N),(12,di (↑(k+1):Int))]) (gz r (List.set ws (Z t) (w+(y-x))))) ?_
    have htk:t=(k:Int):=by rw[hte,iw,Ie hmv]
    have hwb:=hb w (HO hw)
    have ew:yt.wrap (w+yt.wrap (b9.n (lf y)-x))=w+(y-x):=by
     rw[show b9.n (lf y)=y from rfl,Ak (n:=y-x),Ak]
    have es:List.set (c9 ws) (0+Z (k:Int)*1) (di (w+(y-x)))=c9 (ws.set t.toNat (w+(y-x))):=by
     rw[htk,IR];simp[c9,map_set]
    have hi:=ih (k+1) (ws.set t.toNat (w+(y-x))) (by omega) (by omega) (by rw[length_set];exact hx) (fun v hv=>by
     rcases IN hv with hv|hv
     ·have:=hb v hv;omega
     ·rw[hv];omega)
    rw[ew,es,e1]
    refine⟨yr,v7 _ hmv,yr,by omega,by omega,?_,rfl,by omega,Ap hcy,by omega,Am hn1,by omega,by omega,by simp[c9];omega,ym,Ae,okS _,rfl,⟨hi⟩⟩
    rw[htk,IR] at hw
    simp[c9,hw]
   ·refine lv 116 [3,5] (.t<|.t<|.x (vi t)<|.t<|.m (di w)<|.h (.xs (Ac (lf y)))<|.x (vi x)<|.w<|.lo [ke 5,ke 6,ke 10,ke 11,ch 12 (di (k+1:Nat))] (gz r (ws.set t.toNat (w+(y-x))))) (Y ((k:Int)<(N:Int))=J/\Y ((I (cc r.move):Int)>0)=J/\0<=(k:Int)/\(cc r.move)[Z (k:Int)]?=G (vi t)/\Y (t>=0)=J/\0<=t/\t<(N:Int)/\(c9 ws)[0+Z t*1]?=G (di w)/\Q 2/\0<=yu yt (1+(k:Int))/\(ce c.az)[Z (yu yt (1+(k:Int)))]?=G (Ac (lf y))/\0<=(k:Int)/\(cc r.am)[Z (k:Int)]?=G (vi x)/\0<=t/\t<(N:Int)/\0+Z t*1<I (c9 ws)/\yo/\di (yu yt ((k:Int)+1))=di (↑(k+1):Int)/\cm 3 [] [G [di 0,dn],G (cR r),G (List.set (c9 ws) (0+Z t*1) (di (yu yt (w+yu yt (b9.n (lf y)-x)))))]=J/\[G [di 0,dn],G (cR r),G (List.set (c9 ws) (0+Z t*1) (di (yu yt (w+yu yt (b9.n (lf y)-x)))))]=[G [di 0,dn],G (cR r),G (c9 (List.set ws (Z t) (w+(y-x))))]/\I0 Nm 0 (nk [lf r.to] (gj r (k+1) (W (k+1) ys) (W (k+1) r.am) (List.set ws (Z t) (w+(y-x)))) r.ak) ba Avd (cy 116 [(5,bt (jy c)),jh,(10,bq 1 0),(11,bo 2 0 N),(12,di (↑(k+1):Int))]) (gz r (List.set ws (Z t) (w+(y-x))))) ?_
    have hml:I r.move=N/\∀t∈r.move, -1<=t/\t<N:=hm.resolve_left hmv
    have hti:r.move[k]?=G t:=by rw[hte,iw,HZ hmv,HQ,HI (show k<I r.move by omega)];rfl
    have hmp:Y ((I (r.move.map vi):Int)>0)=J:=HK (by rw[HH];omega)
    have hwb:=hb w (HO hw)
    have ew:yt.wrap (w+yt.wrap (b9.n (lf y)-x))=w+(y-x):=by
     rw[show b9.n (lf y)=y from rfl,Ak (n:=y-x),Ak]
    have es:List.set (c9 ws) (0+Z t*1) (di (w+(y-x)))=c9 (ws.set t.toNat (w+(y-x))):=by
      simp[c9,map_set]
    have hi:=ih (k+1) (ws.set t.toNat (w+(y-x))) (by omega) (by omega) (by rw[length_set];exact hx) (fun v hv=>by
     rcases IN hv with hv|hv
     ·have:=hb v hv;omega
     ·rw[hv];omega)
    rw[ew,es,e1]
    exact⟨yr,hmp,by omega,Am hti,yr,by omega,by omega,by simp[c9,hw],rfl,by omega,Ap hcy,by omega,Am hn1,by omega,by omega,by simp[c9];omega,ym,Ae,okS _,rfl,⟨hi⟩⟩
  ·rw[HZ h0]
   have hmv:r.move≠ []:=fun e=>by rw[hte,iw,Ie e] at h0;omega
   have hml:I r.move=N/\∀t∈r.move, -1<=t/\t<N:=hm.resolve_left hmv
   have hti:r.move[k]?=G t:=by rw[hte,iw,HZ hmv,HQ,HI (show k<I r.move by omega)];rfl
   have hmp:Y ((I (r.move.map vi):Int)>0)=J:=HK (by rw[HH];omega)
   exact lv 116 [3,5] (.t<|.t<|.x (vi t)<|.f<|.lo [ke 5,ke 6,ke 10,ke 11,ch 12 (di (k+1:Nat))] (gz r ws)) (Y ((k:Int)<(N:Int))=J/\_/\0<=(k:Int)/\(cc r.move)[Z (k:Int)]?=G (vi t)/\Y (t>=0)=O/\di (yu yt ((k:Int)+1))=di (↑(k+1):Int)/\cm 3 [] [G [di 0,dn],G (cR r),G (c9 ws)]=J/\Q (gz r ws).H/\_) ⟨yr,hmp,by omega,Am hti,yq,Ae,okS _,rfl,iK (ih (k+1) ws (by omega) (by omega) hx (fun w hw=>by have:=hb w hw;omega))⟩
def ir(r:cf)(s:Int)(ys:List Int):b9×Int:=if gf r s ys=J then Tf [lf r.to] (nz r ys) r.ak else(.mk 0 [],18)
theorem YC(m:cz)(hm:m.ok)(hk:m.kind=1)(i:Nat)(r:cf)(hi:m.av[i]?=G r)(c:b9)(hcs:c.size<=1000000)(hv:Ah (AE m) c=J)(s:Int)(ys:List Int)(hc:km c s ys)(hl:I r.am=I ys)(hg:I r.ak=I ys)(hy:I ys<=6)(hmv:pg r (I ys))(by1:∀y∈ys,0<=y/\y<=1048576)(bn:∀y∈r.am,0<=y/\y<=16)(bg:∀y∈r.ak,0<=y/\y<=16):
  F0 63 [Ad m,di i,dV c] (dP (ir r s ys)):=by
 have he:=XO m hm hk i r hi c hcs hv s ys hc hl (by omega)
 cases hb:gf r s ys with
 |false=>
  rw[hb] at he
  exact sv Nm 116 [3,5] (.c (.tup [db O,di 0]) .r) (_/\bk [bt mf,di 18]=dP (ir r s ys)) ⟨he,by rw[ir,hb];rfl⟩
 |true=>
  rw[hb] at he
  obtain⟨N,hN⟩:∃N,N=I ys:=⟨_,rfl⟩
  obtain⟨ws,hws⟩:∃ws:List Int,ws=replicate N 0:=⟨_,rfl⟩
  refine sv Nm 116 [3,5] (.c (.tup [db J,di 0])<|.x (Al r)<|.lo [ke 5,ke 6,ke 10,ch 11 (.arr 2 0 N),ch 12 (di (0:Nat))] (gz r ws)) (F0 120 [Ad m,di (i:Int),dV c] (bk [db J,di 0])/\0<=(i:Int)/\(U Al m.av)[Z (i:Int)]?=G (Al r)/\Q (I (cc r.am):Int)/\0<=(I (cc r.am):Int)/\(8:Int)*(I (cc r.am):Int)<=281474976710656/\(I (cc r.am):Int)<=9223372036854775807/\bo 2 0 (Z (I (cc r.am):Int))=bo 2 0 N/\di 0=di (↑0:Int)/\cm 3 [] [G [di 0,dn],G [bt (ae r.name),di r.aj,di r.to,cx r.am,cx r.ak,cx r.move,di r.chan,di r.act,di r.letter,cx r.path,cx r.next,bt (AD r.ar),cx r.aq,di r.second],G (replicate (Z (I (cc r.am):Int)) (di 0))]=J/\[G [di 0,dn],G [bt (ae r.name),di r.aj,di r.to,cx r.am,cx r.ak,cx r.move,di r.chan,di r.act,di r.letter,cx r.path,cx r.next,bt (AD r.ar),cx r.aq,di r.second],G (replicate (Z (I (cc r.am):Int)) (di 0))]=[G [di 0,dn],G (cR r),G (c9 ws)]/\I0 Nm (I ba.H) (dP (ir r s ys)) ba Avd (cy 116 [(5,bt (jy c)),jh,(10,bq 1 0),(11,bo 2 0 N),(12,di (↑0:Int))]) (gz r ws)) ?_
  have hlen:Z (I (r.am.map vi):Int)=N:=by rw[HH,IR];omega
  have hrep:replicate N (di 0)=c9 ws:=by rw[hws,c9,List.map_replicate]
  rw[hlen,hrep]
  refine⟨he,by omega,Am hi,rfl,by omega,by rw[HH];omega,by rw[HH];omega,rfl,rfl,by simp[cm,D.okNs,D.okN,BB],rfl,⟨?_⟩⟩
  have:=Aho r c s ys hc hl hg hy by1 bn bg N hN (hN▸hmv) _ 0 ws rfl (by omega) (by rw[hws,List.length_replicate]) (fun w hw=>by rw[hws] at hw;rw[(List.mem_replicate.1 hw).2];omega)
  grind[ir,nz]
structure gu(m:cz):Prop where
 ok:m.ok
 kind:m.kind=1
 start:AN m m.start
structure ApQ(m:cz)(r:cf):Prop where
 aj:0<=r.aj/\r.aj<I m.aw
 to:0<=r.to/\r.to<I m.aw
 needL:I r.am=I m.ay
 giveL:I r.ak=I m.ay
 am:∀x∈r.am,0<=x/\x<=16
 ak:∀x∈r.ak,0<=x/\x<=16
 move:pg r (I m.ay)
theorem gu.rule{m:cz}(h:gu m){r:cf}(hr:r∈m.av):ApQ m r:=by
 have h1:=h.ok.right r hr
 rw[Fy,Ie h.kind] at h1
 simp only[E8,Ci,Eo,HJ,Bool.or_eq_true,I5,Iv] at h1
 obtain⟨h2,h3,⟨h4,h5,h6,h7⟩,h8,_⟩:=h1
 have h2:=Ct h2
 have h3:=Ct h3
 refine⟨⟨h3.1,by omega⟩,⟨h2.1,by omega⟩,by omega,by omega,fun x hx=>Ct (h6 x hx),fun x hx=>Ct (h7 x hx),?_⟩
 rcases h8 with h8|⟨h8,h9⟩
 ·exact .inl (List.length_eq_zero_iff.1 (by omega))
 ·exact .inr ⟨by omega,fun t ht=>by have:=Ct (h9 t ht);omega⟩
theorem gu.ay{m:cz}(h:gu m):1<=I m.ay/\m.ay.length<=6/\1<=I m.aw/\m.aw.length<=8/\m.av.length<=12:=by
 obtain⟨h1,h2,h3,h4,h5,_⟩:=h.ok.sz
 omega
theorem AN.sizeM{m:cz}(hm:gu m){c:b9}(h:AN m c):c.size<=8:=by
 rw[h.eq,Hn,h.len]
 have:=hm.ay;omega
theorem AN.validM{m:cz}(hm:gu m){c:b9}(h:AN m c):Ah (AE m) c=J:=by
 rw[h.eq]
 exact K4 m hm.kind (by have:=hm.ay;omega) _ h.st _ h.len h.nm
theorem Ajx(r:cf)(k:Nat)(x:Int)(ws gs:List Int)(h:I ws=I gs):j2 r k x (zipWith (fun w g=>w+g) ws gs)=zipWith (fun w g=>w+g) (j2 r k x ws) gs:=by
 unfold j2
 split
 ·apply ext_getElem?
  grind
 ·rfl
theorem Abm(r:cf)(gs:List Int):∀(ys ns:List Int) (k:Nat) (ws:List Int),I ws=I gs->gj r k ys ns (zipWith (fun w g=>w+g) ws gs)=zipWith (fun w g=>w+g) (gj r k ys ns ws) gs
 |[],_,_,_,_=>by rfl
 |_::_,[],_,_,_=>by rfl
 |y::ys,n::ns,k,ws,h=>by
  rw[gj,gj,Ajx r k _ ws gs h,Abm r gs ys ns (k+1) _ (by grind[Abl])]
theorem TT:∀gs:List Int,zipWith (fun w g=>w+g) (replicate (I gs) 0) gs=gs
 |[]=>rfl
 |g::gs=>by simp[IC,TT gs]
def k8(r:cf)(ys:List Int):List Int:=zipWith (fun w g=>w+g) (nz r ys) r.ak
theorem Akp(r:cf)(ys:List Int)(h:I r.ak=I ys):gj r 0 ys r.am r.ak=k8 r ys:=by
 grind[k8,nz,Abm,TT]
theorem Yz(m:cz)(hm:gu m)(i:Nat)(hi:i<I m.av)(c:b9)(hc:AN m c):F0 216 [Ad m,di i,dV c] (di 0):=by
 have hsz:=hc.sizeM hm
 have h1:=EC m hm.ok c (by omega)
 rw[hc.validM hm] at h1
 exact sv Ano 32 [3,5] (.c (di 0)<|.k<|.f<|.f<|.f<|.c (db J) .r) (_/\(m.kind !=1)=O/\Y ((i:Int)<0)=O/\Y ((i:Int)>=(I (U Al m.av):Int))=O/\_/\Q (di 0)) ⟨Es m hm.ok,by rw[hm.kind];rfl,yq,by grind,h1,rfl⟩
theorem Abj(r:cf)(i N:Nat)(h:pg r N)(hi:i<N):F0 218 [BP r,di i] (di (iw r i)):=by
 by_cases hr:r.move=[]
 ·refine sv Apf 15 [2] (.t .r) (((I (cc r.move):Int)==0)=J/\di (i:Int)=di (iw r i)) ?_
  grind[iw]
 ·have hl:=(h.resolve_left hr).1
  have hti:r.move[i]?=G (iw r i):=by rw[iw,HZ hr,HQ,HI (show i<I r.move by omega)];rfl
  generalize iw r i=t at*
  refine sv Apf 15 [2] (.f<|.x (vi t) .r) (((I (cc r.move):Int)==0)=O/\0<=(i:Int)/\(cc r.move)[Z (i:Int)]?=G (vi t)/\Q (di t)) ?_
  grind
theorem AjX(r:cf)(ys:List Int)(hl:I r.am=I ys)(hy:I ys<=6)(by1:∀y∈ys,0<=y/\y<=1048576)(bn:∀y∈r.am,0<=y/\y<=16)(N:Nat)(hN:N=I ys)(hm:pg r N)(n:Nat):∀(k:Nat) (ws:List Int),N-k=n->k<=N->I ws=N->(∀w∈ws, -(1048576*(k:Int))<=w/\w<=1048576*(k:Int)+16)->
  Rn PP Sw 0 (dP (Su [lf r.to] (gj r k (ys.drop k) (r.am.drop k) ws))) ba ([kl G1 [1,1,1,1,1,0,1,0,0],.blk 0,kc G1 [1,1,1,1,1,1]]++[]) (cy 90 [(6,.ptr 0 0),(9,.ptr 1 0),(10,.arr 2 0 N),(40,cq (ys.map lf)),(41,di (I ys)),(42,di k)]) (gz r ws):=by
 induction n with
 |zero=>
  intro k ws hn hkN hx hb
  refine lv 90 [3,5] (.f<|.a 1<|.h .g<|.lo [ke 6,ke 14,ch 72 (.arr 2 0 N),ch 73 (di N),ch 74 (di (0:Nat))] (j3 r ws [lf r.to])) (Y ((k:Int)<(I ys:Int))=O/\Q (bo 2 0 N)/\Q (di (N:Int))/\di 0=di (↑0:Int)/\cm 4 [1] [G [di 0,dn],G (cR r),G (c9 ws),G [di 0,br 1 [ab [vi r.to,ai []]]]]=J/\[G [di 0,dn],G (cR r),G (c9 ws),G [di 0,br 1 (ab (ib r.to)::nV)]]=[G [di 0,dn],G (cR r),G (c9 ws),G [di 0,br 1 (eV (lf r.to)::nV)]]/\[(1,2,ab (ib r.to)::nV)]=[(1,2,eV (lf r.to)::nV)]/\I0 Sw 0 (dP (Su [lf r.to] (gj r k (W k ys) (W k r.am) ws))) ba Au3 (cy 90 [jh,(14,bq 3 0),(72,bo 2 0 N),(73,di (N:Int)),(74,di (↑0:Int))]) (j3 r ws [lf r.to])) ?_
  rw[Ic (show I ys<=k by omega),Tr]
  refine⟨yq,rfl,rfl,rfl,by simp[cm,D.okNs,D.okN,BB],rfl,rfl,⟨?_⟩⟩
  have:=Aiq r ws (by omega) _ 0 [lf r.to] rfl (by simp)
  rw[hx] at this
  exact this
 |succ n ih=>
  intro k ws hn hkN hx hb
  have hk:k<N:=by omega
  have okS:∀l:List Int,cm 3 [] [G [di 0,.v .nils],G (cR r),G (c9 l)]=J:=fun l=>by simp[cm,D.okNs,D.okN,BB]
  obtain⟨y,hy1⟩:=@yk _ ys k (by omega)
  obtain⟨x,hn1⟩:∃x,r.am[k]?=G x:=⟨_,HI (by omega)⟩
  have e3:ys.drop k=y::ys.drop (k+1):=by rw[HX (by omega)];congr 1;rw[HI (by omega)] at hy1;simpa using hy1
  have e4:r.am.drop k=x::r.am.drop (k+1):=by rw[HX (by omega)];congr 1;rw[HI (by omega)] at hn1;simpa using hn1
  have b1:=by1 _ (HO hy1)
  have b2:=bn _ (HO hn1)
  have ht:=AhR hm hk
  have hmd:=Abj r k N hm hk
  have hyv:((ys.map lf).map eV)[Z (k:Int)]?=G (Ac (lf y)):=Ap (by rw[I1,hy1];rfl)
  rw[e3,e4,gj,j2]
  generalize iw r k=t at*
  by_cases h0:t>=0
  ·rw[Ie h0]
   obtain⟨w,hw⟩:∃w,ws[t.toNat]?=G w:=⟨_,HI (by omega)⟩
   rw[show ws.getD t.toNat 0=w by rw[HQ,hw];rfl]
   refine lv 90 [3,5] (.t<|.h (.xs (Ac (lf y)))<|.c (di t)<|.t<|.m (di w)<|.x (vi x)<|.w<|.lo (Awf k) (gz r (ws.set t.toNat (w+(y-x))))) (Y ((k:Int)<(I ys:Int))=J/\Q 2/\0<=(k:Int)/\(U eV (U lf ys))[Z (k:Int)]?=G (Ac (lf y))/\F0 218 [BP r,di (k:Int)] (di t)/\Y (t>=0)=J/\0<=t/\t<(N:Int)/\(c9 ws)[0+Z t*1]?=G (di w)/\0<=(k:Int)/\(cc r.am)[Z (k:Int)]?=G (vi x)/\0<=t/\t<(N:Int)/\0+Z t*1<I (c9 ws)/\(yj (True))/\di (yu yt ((k:Int)+1))=di (↑(k+1):Int)/\cm 3 [] [G [di 0,dn],G (cR r),G (List.set (c9 ws) (0+Z t*1) (di (yu yt (w+yu yt (b9.n (lf y)-x)))))]=J/\[G [di 0,dn],G (cR r),G (List.set (c9 ws) (0+Z t*1) (di (yu yt (w+yu yt (b9.n (lf y)-x)))))]=[G [di 0,dn],G (cR r),G (c9 (List.set ws (Z t) (w+(y-x))))]/\I0 Sw 0 (dP (Su [lf r.to] (gj r (k+1) (W (k+1) ys) (W (k+1) r.am) (List.set ws (Z t) (w+(y-x)))))) ba Avo (cy 90 [jh,(9,bq 1 0),(10,bo 2 0 N),(40,bt (dt (U lf ys))),(41,di (I ys:Int)),(42,di (↑(k+1):Int))]) (gz r (List.set ws (Z t) (w+(y-x))))) ?_
   have hwb:=hb w (HO hw)
   have ew:yt.wrap (w+yt.wrap (b9.n (lf y)-x))=w+(y-x):=by
    rw[show b9.n (lf y)=y from rfl,Ak (n:=y-x),Ak]
   have es:List.set (c9 ws) (0+Z t*1) (di (w+(y-x)))=c9 (ws.set t.toNat (w+(y-x))):=by simp[c9,map_set]
   have hi:=ih (k+1) (ws.set t.toNat (w+(y-x))) (by omega) (by omega) (by rw[length_set];exact hx) (fun v hv=>by
    rcases IN hv with hv|hv
    ·have:=hb v hv;omega
    ·rw[hv];omega)
   rw[ew,es]
   exact⟨yr,rfl,by omega,hyv,hmd,yr,by omega,by omega,by simp[c9,hw],by omega,Am hn1,by omega,by omega,by simp[c9];omega,⟨trivial,trivial,trivial,trivial⟩,Ae,okS _,rfl,⟨hi⟩⟩
  ·rw[HZ h0]
   exact lv 90 [3,5] (.t<|.h (.xs (Ac (lf y)))<|.c (di t)<|.f<|.lo (Awf k) (gz r ws)) (Y ((k:Int)<(I ys:Int))=J/\Q 2/\0<=(k:Int)/\_/\_/\Y (t>=0)=O/\di (yu yt ((k:Int)+1))=di (↑(k+1):Int)/\cm 3 [] [G [di 0,dn],G (cR r),G (c9 ws)]=J/\Q (gz r ws).H/\_) ⟨yr,rfl,by omega,hyv,hmd,yq,Ae,okS _,rfl,iK (ih (k+1) ws (by omega) (by omega) hx (fun w hw=>by have:=hb w hw;omega))⟩
theorem AcO(m:cz)(hm:gu m)(i:Nat)(r:cf)(hi:m.av[i]?=G r)(c:b9)(hc:AN m c):F0 157 [Ad m,di i,dV c] (dP (ir r (ei c) (d6 c))):=by
 have hr:=hm.rule (HO hi)
 have hp:=hm.ay
 have hil:=(HL.1 hi).1
 have hck:=Yz m hm i hil c hc
 have hcc:=hc.isC
 have hyl:=hc.len
 have hnm:=hc.nm
 have he:=Wm r c _ _ hcc (by rw[hr.needL,hc.len]) (by omega)
 generalize ei c=s at*
 generalize d6 c=ys at*
 cases hb:gf r s ys with
 |false=>
  rw[hb] at he
  exact sv Sw 90 [3,5] (.c (di 0)<|.x (Al r)<|.c (db O) .r) (_/\0<=(i:Int)/\(U Al m.av)[Z (i:Int)]?=G (Al r)/\_/\bk [bt mf,di 18]=dP (ir r s ys)) ⟨hck,by omega,Am hi,he,by rw[ir,hb];rfl⟩
 |true=>
  rw[hb] at he
  obtain⟨N,hN⟩:∃N,N=I ys:=⟨_,rfl⟩
  have hN0:r.ak≠ []:=by intro h;have:=hr.giveL;grind
  have hgl:I r.ak=N:=by rw[hr.giveL];omega
  have hd:=JX hcc
  have hlen:I c.az=I ys+1:=hcc.len
  refine sv Sw 90 [3,5] (.c (di 0)<|.x (Al r)<|.c (db J)<|.h (.q 7 2)<|.h (.oc (.arr 2 0 N) (gz r r.ak))<|.lo [ke 6,ke 9,ke 10,ch 40 (cq (ys.map lf)),ch 41 (di (I ys)),ch 42 (di (0:Nat))] (gz r r.ak)) (_/\0<=(i:Int)/\(U Al m.av)[Z (i:Int)]?=G (Al r)/\_/\(N0 [bt (bw 66 [] []),cx r.ak] (bh [G [di 0,dn],G [bt (ae r.name),di r.aj,di r.to,cx r.am,cx r.ak,cx r.move,di r.chan,di r.act,di r.letter,cx r.path,cx r.next,bt (AD r.ar),cx r.aq,di r.second]] []) (bo 2 0 N) (gz r r.ak))/\(∀(x:V),x∈U eV c.az->V.size x=2)/\0<=(1:Int)/\(1:Int)<=(I (ce c.az):Int)/\bt (ai (W (Z ((1:Int))) (take (I (ce c.az)) (ce c.az))))=cq (U lf ys)/\di (I (W (Z ((1:Int))) (take (I (ce c.az)) (ce c.az))):Int)=di (I ys:Int)/\Q (di 0)/\cm 3 [] [G [di 0,dn],G (cR r),G (c9 r.ak)]=J/\Q (gz r r.ak).H/\I0 Sw (I ba.H) (dP (ir r s ys)) ba Avo (cy 90 [jh,(9,bq 1 0),(10,bo 2 0 N),(40,cq (U lf ys)),(41,di (I ys:Int)),(42,di (↑0:Int))]) (gz r r.ak)) ⟨hck,by omega,Am hi,he,fun o c' fo ho hc'=>?_,?_,by omega,?_,?_,?_,rfl,by simp[cm,D.okNs,D.okN,BB],rfl,⟨?_⟩⟩
  ·exact ER (σ:=⟨[G [di 0,.v .nils],G (cR r)],[]⟩) (fs:=[]) (cs:=[]) (ds:=[cx r.ak]) ho hc' rfl (Hc:=[none,G (c9 r.ak)]) (j:=1) rfl (AaF _) (by grind[O4])
  ·grind[AH,V.size]
  ·grind
  ·grind
  ·grind
  ·have h1:=AjX r ys (by rw[hr.needL];omega) (by omega) hnm hr.am N hN (by rw[hN,hyl];exact hr.move) _ 0 r.ak rfl (by omega) hgl (fun w hw=>by have:=hr.ak w hw;omega)
   rw[Jt,Jt,Akp r ys (by omega),k8,Td _ _ _ (by grind[nz,Ts])] at h1
   rw[ir,Ie hb]
   exact h1
theorem Amg{r:cf}{k:Nat}{x:Int}(hx:0<=x){ws:List Int}(h:∀w∈ws,0<=w):∀w∈j2 r k x ws,0<=w:=by
 intro w hw
 unfold j2 at hw
 split at hw
 ·rcases IN hw with hw|hw
  ·grind
  ·cases hi:ws[(iw r k).toNat]? with
   |none=>grind
   |some v=>have:=h v (HO hi);grind
 grind
theorem AhT(r:cf):∀(ys ns:List Int) (k:Nat) (ws:List Int),Ea ns ys=J->(∀w∈ws,0<=w)->∀w∈gj r k ys ns ws,0<=w
 |[],ns,k,ws,_,h=>by grind[Tr]
 |y::ys,[],k,ws,_,h=>by grind[gj]
 |y::ys,n::ns,k,ws,hn,h=>by
  simp only[Ea,HJ,IA,Jk] at hn
  exact AhT r ys ns (k+1) _ hn.2 (Amg (by omega) h)
theorem Ahw{m:cz}{r:cf}(hr:ApQ m r){ys:List Int}(hy:I ys=I m.ay):I (k8 r ys)=I m.ay:=by
 have h2:=hr.giveL
 grind[k8,nz,Ts]
theorem AnM{m:cz}{r:cf}(hr:ApQ m r){c:b9}(hc:AN m c):
  ((ir r (ei c) (d6 c)).2=0/\ei c=r.aj/\(ir r (ei c) (d6 c)).1=CP r.to (k8 r (d6 c))/\AN m (CP r.to (k8 r (d6 c))))∨(ir r (ei c) (d6 c)).2=1∨(ir r (ei c) (d6 c)).2=18:=by
 unfold ir
 split
 ·rename_i he
  simp only[gf,HJ,Iv] at he
  rcases Te (nz r (d6 c)) r.ak [lf r.to] with⟨h1,h2,h3⟩|h1
  ·refine .inl ⟨h1,he.1,by rw[h2];rfl,PZ m _ hr.to _ (Ahw hr hc.len) fun z hz=>⟨?_,h3 z hz⟩⟩
   obtain⟨i,hi⟩:=List.getElem?_of_mem hz
   rw[k8,List.getElem?_zipWith] at hi
   split at hi
   ·rename_i w g hw hg
    cases hi
    have b1:=AhT r (d6 c) r.am 0 (replicate (I (d6 c)) 0) he.2 (fun w hw=>by grind) w (HO hw)
    have b2:=(hr.ak g (HO hg)).1
    omega
   grind
  grind
 omega
def i6(m:cz)(c:b9)(i:Int):List b9×Int:=if i<0 then([],0) else match m.av[i.toNat]? with
 |some r=>Cu (ir r (ei c) (d6 c))
 |none=>([],0)
def GK(m:cz)(c:b9):List cb×Int:=CX (i6 m c) (I m.av+1) (-1) []
structure vv(m:cz)(c:b9)(s:cb):Prop where
 rule:∃(i:Nat) (r:cf),s.1=i/\m.av[i]?=G r/\ei c=r.aj/\s.2=CP r.to (k8 r (d6 c))/\ir r (ei c) (d6 c)=(s.2,0)
 ok:AN m s.2
theorem OO{m:cz}(hm:gu m){c:b9}(hc:AN m c)(i:Int):((i6 m c i).2=0∨(i6 m c i).2=1)/\(i6 m c i).1.length<=1/\∀v∈ (i6 m c i).1,vv m c (i,v):=by
 unfold i6
 split
 ·grind
 ·split
  ·rename_i r hi
   have hr:=hm.rule (HO hi)
   rcases AnM hr hc with⟨h1,h2,h3,h4⟩|h1|h1
   ·have:Cu (ir r (ei c) (d6 c))=([CP r.to (k8 r (d6 c))],0):=by
     grind[Cu]
    rw[this]
    refine⟨.inl rfl,by simp,fun v hv=>?_⟩
    rw[HY.1 hv]
    exact⟨⟨i.toNat,r,by omega,hi,h2,rfl,by grind⟩,h4⟩
   all_goals grind[Cu]
  grind
theorem Mi{m:cz}(hm:gu m){c:b9}(hc:AN m c):((GK m c).2=0∨(GK m c).2=1)/\(GK m c).1.length<=13/\∀s∈ (GK m c).1,vv m c s:=by
 have:=hm.ay
 obtain⟨h1,h2,h3⟩:=TN (ap:=i6 m c) (fun i=>(OO hm hc i).1) (fun i=>(OO hm hc i).2.1) (Q:=vv m c) (fun i=>(OO hm hc i).2.2) (I m.av+1) (-1) [] (by simp)
 grind[GK]
theorem ApO(m:cz)(hm:gu m)(c:b9)(hc:AN m c)(i:Int)(h1: -1<=i)(h2:i<I m.av):F0 34 [Ad m,di i,dV c] (dq (i6 m c i)):=by
 have hsz:=hc.sizeM hm
 by_cases h0:i<0
 ·have:i= -1:=by omega
  subst this
  exact AnO m hm.ok hm.kind c (by omega) (hc.validM hm)
 ·obtain⟨k,rfl⟩:∃k:Nat,i=k:=⟨i.toNat,by omega⟩
  have hk:k<I m.av:=by omega
  have hr:m.av[k]?=G m.av[k]:=HI hk
  have hro:=hm.rule (HO hr)
  rw[i6,HZ h0,show((k:Nat):Int).toNat=k by omega,hr]
  generalize m.av[k]=r at hr hro
  have hp:=hm.ay
  exact AnP m hm.ok hm.kind k hk c (by omega) (hc.validM hm) _ (YC m hm.ok hm.kind k r hr c (by omega) (hc.validM hm) _ _ hc.isC (by rw[hro.needL,hc.len]) (by rw[hro.giveL,hc.len]) (by rw[hc.len];omega) (by rw[hc.len];exact hro.move) hc.nm hro.am hro.ak)
theorem AnS{m:cz}(hm:gu m){c:b9}(hc:AN m c):F0 18 [Ad m,dV c] (fw (GK m c)):=by
 have hsz:=hc.sizeM hm
 exact YD m hm.ok c (by omega) (hc.validM hm) (i6 m c) (fun i=>by grind[OO]) (fun i h1 h2=>ApO m hm c hc i h1 h2)
theorem WQ(m:cz)(hm:gu m):F0 141 [Ad m] (di 0):=by
 exact sv AjB 12 [1] (.c (di 0)<|.k<|.f .r) (_/\(m.kind==6)=O/\Q (di 0)) ⟨Es m hm.ok,by rw[hm.kind];rfl,rfl⟩
theorem WV(m:cz)(hm:gu m)(c:b9)(hc:AN m c):F0 90 [Ad m,dV c] (di 0):=by
 refine sv Ago 15 [2,3] (.c (di 0)<|.c (db J) .r) (tl m/\tg m c/\Q (di 0)) ?_
 have hsz:=hc.sizeM hm
 have h1:=EC m hm.ok c (by omega)
 rw[hc.validM hm] at h1
 grind[WQ]
theorem ZS(m:cz)(hm:gu m)(c:b9):F0 155 [Ad m,dV c] (cq []):=by
 exact sv uj 31 [2,3] (.f<|.f<|.f .r) ((m.kind==2)=O/\(m.kind==3)=O/\(m.kind==5)=O/\Q (cq [])) ⟨by rw[hm.kind];rfl,by rw[hm.kind];rfl,by rw[hm.kind];rfl,rfl⟩
theorem AnG(m:cz)(hm:gu m)(c:b9):F0 91 [Ad m,di (-1),dV c] (dq ([],0)):=by
 refine sv p9 56 [3,5] (.c (cq []) .r) (F0 155 [Ad m,dV c] (cq [])/\bk [bt (dt []),di 0]=dq ([],0)) ?_
 grind[ZS]
theorem AnF(m:cz)(hm:gu m)(i:Nat)(c:b9)(p:b9×Int)(hp:F0 157 [Ad m,di i,dV c] (dP p)):F0 91 [Ad m,di i,dV c] (dq (Cu p)):=by
 exact sv p9 56 [3,5] (.f<|.t<|.c (dP p)<|.c (dq (Cu p)) .r) (((i:Int)== -1)=O/\(m.kind==1)=J/\_/\_/\bk [bt (dt (Cu p).fst),di (Cu p).snd]=dq (Cu p)) ⟨Iy.2 (by omega),by rw[hm.kind];rfl,hp,Mk p,rfl⟩
theorem Sf(m:cz)(hm:gu m)(c:b9)(hc:AN m c)(i:Int)(h1: -1<=i)(h2:i<I m.av):F0 91 [Ad m,di i,dV c] (dq (i6 m c i)):=by
 grind[AnG,i6,AnF,AcO]
theorem WW(m:cz)(hm:gu m)(c:b9)(hc:AN m c):F0 50 [Ad m,dV c] (fw (GK m c)):=by
 have hp:=hm.ay
 refine sv GH 53 [2,3] (.c (di 0)<|.h (.q 5 0)<|.h (.nw 7 1 3)<|.ls tx (FF [])) (_/\Q (di (-1))/\Q [(1,3,nV)]/\I0 GH (I ba.H) (fw (GK m c)) ba [kl Dm gb,bf 0,kc Dm [1,1,1,1]] (cy 53 (te m c)) (FF [])) ⟨WV m hm c hc,rfl,rfl,⟨?_⟩⟩
 exact Mo m (by omega) c (i6 m c) (fun i=>by grind[OO]) (fun i h1 h2=>Sf m hm c hc i h1 h2) (I m.av+1) (-1) [] (by omega) (by omega) (by omega) (by simp)
def du(nm:List UInt8)(f t:Int)(nd gv mv:List Int):cf:=⟨nm,f,t,nd,gv,mv,0,0,0,[],[],[],[],0⟩
structure Sq(ns np:Nat)(k:Nat)(r:cf):Prop where
 name:mo[k]?=G r.name
 aj:0<=r.aj/\r.aj<ns
 to:0<=r.to/\r.to<ns
 am:I r.am=np/\∀x∈r.am,0<=x/\x<=2
 ak:I r.ak=np/\∀x∈r.ak,0<=x/\x<=2
 move:pg r np
 rest:r=du r.name r.aj r.to r.am r.ak r.move
structure TQ(m:cz):Prop where
 kind:m.kind=1
 aw:m.aw=[[97]]∨m.aw=[[97],[98]]
 ay:m.ay=[[120]]∨m.ay=[[120],[121]]
 ax:m.ax=[]
 au:m.au=[]
 ao:m.ao=0
 age:m.age=0
 count:I m.av<=3
 pos:1<=I m.av
 av:∀k r,m.av[k]?=G r->Sq (I m.aw) (I m.ay) k r
 start:∃ys:List Int,I ys=I m.ay/\(∀x∈ys,0<=x/\x<=3)/\m.start=CP 0 ys
theorem Abo{ns np:Nat}{rs:List cf}{k:Nat}{nm:List UInt8}{f t:Int}{nd gv mv:List Int}(hnm:mo[k]?=G nm)(hf:0<=f/\f<ns)(ht:0<=t/\t<ns)(hn:I nd=np/\∀x∈nd,0<=x/\x<=2)(hg:I gv=np/\∀x∈gv,0<=x/\x<=2)(hm:mv=[]∨mv.length=np/\∀t∈mv, -1<=t/\t<np)(hrs:I rs=k)(hR:∀i r,rs[i]?=G r->Sq ns np i r):∀i r,(rs++[du nm f t nd gv mv])[i]?=G r->Sq ns np i r:=fun i r hi=>by
 by_cases hik:i<I rs
 ·grind
 ·rw[Ib (by omega)] at hi
  have h1:i-I rs=0:=by
   grind
  rw[h1] at hi
  simp at hi;subst hi
  have hik2:i=k:=by omega
  subst hik2
  exact⟨hnm,hf,ht,hn,hg,hm,rfl⟩
theorem Acq{H:List (Option (List D))}{own:List (Nat×Nat×List V)}{q tag:Nat}{nm:List UInt8}{f t:Int}{nd gv xs:List Int}(hq:H[q]?=G (G [.v (.str nm),di f,di t,.v (cw nd),.v (cw gv),.acc tag (xs.map vi),di 0,di 0,di 0,.v .nils,.v .nils,.v .nils,.v .nils,di 0]))(e:List D):Cv e ⟨H,own⟩ e ⟨H.set q (G (cR (du nm f t nd gv xs))),own⟩:=
 D0 (σ:=⟨H,own⟩) (q:=q) hq (fun g us hr=>by
  have:=D7 (ts:=[]) (kn:=false) hr
  exact this) (fun _ x hx=>by
  simp only[cR,Iz,Jr,or_false] at hx
  rcases hx with rfl|rfl|rfl|rfl|rfl|rfl|rfl|rfl|rfl|rfl|rfl|rfl|rfl|rfl<;>rfl) e
noncomputable abbrev Arb:=fun a₀ b₀ c₀ d₀=>Aa PP 14 [bq 0 0,di 2] (dz a₀ b₀) (di c₀) (dz a₀ d₀)
noncomputable abbrev As1:=(aa yt 0)
noncomputable abbrev Asf:=fun a₀ b₀ c₀ d₀=>Aa PP 24 [bq 0 0,di (↑(I [[120],[121]]):Int),di 2] (dz a₀ b₀) (cx c₀) (dz a₀ d₀)
noncomputable abbrev Asl:=fun a₀ b₀ c₀ d₀=>Aa PP 24 [bq 0 0,di (↑(I [[120]]):Int),di 2] (dz a₀ b₀) (cx c₀) (dz a₀ d₀)
noncomputable abbrev At0:=[[120],[121]]
noncomputable abbrev Avq:=fun a₀ b₀ c₀ d₀=>[G (co a₀ b₀),G zM,G (cM c₀ [[120]] d₀),G fq]
theorem Acs(l:List UInt8)(hl:I l<=200)(S Pl:List (List UInt8))(hS:S=[[97]]∨S=[[97],[98]])(hP:Pl=[[120]]∨Pl=[[120],[121]])(n:Nat):∀(k a:Nat) (rs:List cf),3-k=n->a<=I l->k<=3->I rs=k->(∀i r,rs[i]?=G r->Sq (I S) (I Pl) i r)->
  ∃(m:cz) (a':Nat),TQ m/\a'<=I l/\Rn PP nh 1 (Ad m) (dz l a') ([kl S0 [1,1,1,0,1,0,0],.blk 0,kc S0 [1,1,1,1]]++[]) (cy 85 [(0,.ptr 0 0),(1,db J),(4,.ptr 1 0),(5,.ptr 2 0),(6,di (I Pl)),(7,di k)]) (j4 l a S Pl rs):=by
 induction n using Nat.strongRecOn with
 |_ n ih=>
 intro k a rs hn ha hk3 hrs hR
 have hSl:1<=I S/\S.length<=2:=by grind
 have hPl:1<=I Pl/\Pl.length<=2:=by grind
 obtain⟨r,a1,h1,h2,h3,h4⟩:=A5 l hl a ha 3 (by decide) (by decide)
 by_cases hk:(k:Int)<1+r
 ·obtain⟨f,a2,f1,f2,f3,f4⟩:=A5 l hl a1 h3 (I S) (by omega) (by omega)
  obtain⟨t,a3,t1,t2,t3,t4⟩:=A5 l hl a2 f3 (I S) (by omega) (by omega)
  obtain⟨nd,a4,n1,n2,n3,n4⟩:=GE l hl a3 t3 (I Pl) (by omega) 2 (by decide) (by decide)
  obtain⟨gv,a5,g1,g2,g3,g4⟩:=GE l hl a4 n1 (I Pl) (by omega) 2 (by decide) (by decide)
  obtain⟨nm,hnm⟩:∃nm,mo[k]?=G nm:=⟨_,HI (show k<I mo by grind)⟩
  obtain⟨w,a6,w1,w2,w3,w4⟩:=A5 l hl a5 g1 2 (by decide) (by decide)
  have hkr:Y ((k:Int)<yu yt (1+r))=J:=by grind[Ak]
  have hSm:(I (S.map ae):Int)=(I S:Int):=by rw[HH]
  by_cases hw:(w==0)=J
  ·rcases hP with hP|hP
   ·obtain⟨v1,a7,v11,v12,v13,v14⟩:=A5 l hl a6 w3 2 (by decide) (by decide)
    obtain⟨m,a',m1,m2,m3⟩:=ih (3- (k+1)) (by omega) (k+1) a7 (rs++[du nm f t nd gv [v1-1]]) rfl v13 (by omega) (by simp[hrs]) (Abo hnm ⟨f1,f2⟩ ⟨t1,t2⟩ ⟨n2,n3⟩ ⟨g2,g3⟩ (.inr ⟨by grind,fun t ht=>by grind⟩) hrs hR)
    refine⟨m,a',m1,m2,?_⟩
    subst hP
    refine lv 85 [] (.c1 (co l a1) (di r)<|.t<|.h (.dr 21)<|.x (.str nm)<|.c1 (co l a2) (di f)<|.c1 (co l a3) (di t)<|.c1 (co l a4) (cx nd)<|.c1 (co l a5) (cx gv)<|.h .rn<|.c1 (co l a6) (di w)<|.t<|.h (.q 8 0)<|.h (.cl 3 5 3 1)<|.n<|.m (.acc 3 [])<|.c1 (co l a7) (di v1)<|.n<|.f<|.h (.q 12 2)<|.h (.cs ⟨[G (co l a7),G zM,G (cM S [[120]] rs),G (cR (du nm f t nd gv [v1-1]))],[(3,1,[vi (v1-1)]),(2,14,rs.map Al)]⟩)<|.ls [ke 0,ke 1,ke 4,ke 5,ke 6,ch 7 (di (k+1:Nat))] (j4 l a7 S [[120]] (rs++[du nm f t nd gv [v1-1]]))) (Aa PP 14 [bq 0 0,di 3] (dz l a) (di r) (dz l a1)/\Y ((k:Int)<yu yt (1+r))=J/\0<=(k:Int)/\[ae (bc #[114]).data.toList,ae (bc #[115]).data.toList,ae (bc #[116]).data.toList][Z (k:Int)]?=G (ae nm)/\Aa PP 14 [bq 0 0,di (I (U ae S):Int)] (dz l a1) (di f) (dz l a2)/\Aa PP 14 [bq 0 0,di (I (U ae S):Int)] (dz l a1) (di f) (dz l a2)/\Q (di f)/\Aa PP 14 [bq 0 0,di (I (U ae S):Int)] (dz l a2) (di t) (dz l a3)/\Aa PP 14 [bq 0 0,di (I (U ae S):Int)] (dz l a2) (di t) (dz l a3)/\Q (di t)/\Aa PP 24 [bq 0 0,di (↑(I [[120]]):Int),di 2] (dz l a3) (cx nd) (dz l a4)/\Aa PP 24 [bq 0 0,di (↑(I [[120]]):Int),di 2] (dz l a3) (cx nd) (dz l a4)/\Q (cx nd)/\Aa PP 24 [bq 0 0,di (↑(I [[120]]):Int),di 2] (dz l a4) (cx gv) (dz l a5)/\Aa PP 24 [bq 0 0,di (↑(I [[120]]):Int),di 2] (dz l a4) (cx gv) (dz l a5)/\Q (cx gv)/\Q [bh [G (co l a1),G zM,G (cM S [[120]] rs),G fq] [(2,14,U Al rs)],bh [G (co l a2),G zM,G (cM S [[120]] rs),G fq] [(2,14,U Al rs)],bh [G (co l a3),G zM,G (cM S [[120]] rs),G fq] [(2,14,U Al rs)],bh [G (co l a4),G zM,G (cM S [[120]] rs),G fq] [(2,14,U Al rs)],bh [G (co l a5),G zM,G (cM S [[120]] rs),G fq] [(2,14,U Al rs)]]/\((yf (Q (G [bt (cp S)])))/\(yf (Q (G [bt (cp S)])))/\True)/\Aa PP 14 [bq 0 0,di 2] (dz l a5) (di w) (dz l a6)/\(w==0)=J/\Q (G (br 3 []))/\Aa PP 14 [bq 0 0,di (yu yt ((↑(I [[120]]):Int)+1))] (dz l a6) (di v1) (dz l a7)/\Q nV/\Ao 1 8/\((Q (G [br 3 []])/\True)/\True)/\Y (yu yt (0+1)<(↑(I [[120]]):Int))=O/\(∀(e:List D) (E:cd) (g:Gh) (a:Act) (w:x5),FI E g (bh [G (co l a7),G zM,G (cM S [[120]] rs),G [bt (ae nm),bt (aa yt f),bt (aa yt t),cx nd,cx gv,br 3 ([]++[aa yt (yu yt (v1-1))]),bt (aa yt 0),bt (aa yt 0),bt (aa yt 0),dn,dn,dn,dn,bt (aa yt 0)]] [(3,1,[]++[aa yt (yu yt (v1-1))]),(2,14,U Al rs)]) e a w->∃g',FI E g' (bh [G (co l a7),G zM,G (cM S [[120]] rs),G (cR (du nm f t nd gv [v1-1]))] [(3,1,[vi (v1-1)]),(2,14,U Al rs)]) e a w)/\Q (U Al rs)/\Ao (I (U Al rs)+I (ab (ae (du nm f t nd gv [v1-1]).name::aa yt (du nm f t nd gv [v1-1]).aj::aa yt (du nm f t nd gv [v1-1]).to::cw (du nm f t nd gv [v1-1]).am::cw (du nm f t nd gv [v1-1]).ak::cw (du nm f t nd gv [v1-1]).move::aa yt (du nm f t nd gv [v1-1]).chan::aa yt (du nm f t nd gv [v1-1]).act::aa yt (du nm f t nd gv [v1-1]).letter::cw (du nm f t nd gv [v1-1]).path::cw (du nm f t nd gv [v1-1]).next::AD (du nm f t nd gv [v1-1]).ar::cw (du nm f t nd gv [v1-1]).aq::aa yt (du nm f t nd gv [v1-1]).second::nV)::nV)) 232/\di (yu yt ((k:Int)+1))=di (↑(k+1):Int)/\[G (co l a7),G zM,G [di 1,bt (cp S),bt (cp [[120]]),dn,dn,di 0,di 0,br 2 (U Al rs++ab (ae (du nm f t nd gv [v1-1]).name::vi (du nm f t nd gv [v1-1]).aj::vi (du nm f t nd gv [v1-1]).to::cw (du nm f t nd gv [v1-1]).am::cw (du nm f t nd gv [v1-1]).ak::cw (du nm f t nd gv [v1-1]).move::vi (du nm f t nd gv [v1-1]).chan::vi (du nm f t nd gv [v1-1]).act::vi (du nm f t nd gv [v1-1]).letter::cw (du nm f t nd gv [v1-1]).path::cw (du nm f t nd gv [v1-1]).next::AD (du nm f t nd gv [v1-1]).ar::cw (du nm f t nd gv [v1-1]).aq::vi (du nm f t nd gv [v1-1]).second::nV)::nV),di 0,dn]]=[G (co l a7),G zM,G (cM S [[120]] (rs++[du nm f t nd gv [v1-1]]))]/\[(2,14,U Al rs++ab (ae (du nm f t nd gv [v1-1]).name::vi (du nm f t nd gv [v1-1]).aj::vi (du nm f t nd gv [v1-1]).to::cw (du nm f t nd gv [v1-1]).am::cw (du nm f t nd gv [v1-1]).ak::cw (du nm f t nd gv [v1-1]).move::vi (du nm f t nd gv [v1-1]).chan::vi (du nm f t nd gv [v1-1]).act::vi (du nm f t nd gv [v1-1]).letter::cw (du nm f t nd gv [v1-1]).path::cw (du nm f t nd gv [v1-1]).next::AD (du nm f t nd gv [v1-1]).ar::cw (du nm f t nd gv [v1-1]).aq::vi (du nm f t nd gv [v1-1]).second::nV)::nV)]=[(2,14,U Al (rs++[du nm f t nd gv [v1-1]]))]/\I0 nh 1 (Ad m) (dz l a') [kl S0 [1,1,1,0,1,0,0],bf 0,kc S0 [1,1,1,1]] (cy 85 [(0,bq 0 0),(1,db J),(4,bq 1 0),(5,bq 2 0),(6,di (↑(I [[120]]):Int)),(7,di (↑(k+1):Int))]) (j4 l a7 S [[120]] (rs++[du nm f t nd gv [v1-1]]))) ?_
    rw[hSm,Ak (n:=v1-1)]
    repeat' first|with_reducible refine And.intro ?_ ?_
    all_goals first|exact h4|exact hkr|exact f4|exact t4|exact n4|exact g4|exact w4|exact hw|exact v14|exact CC hnm|exact⟨m3⟩|exact Ae|omega|rfl|trivial|skip
    all_goals first|exact Ih (fun z=>[G (co l a7),G zM,G [di 1,.v (cp S),.v (cp [[120]]),.v .nils,.v .nils,di 0,di 0,.acc 2 z,di 0,.v .nils]]) (AY rs (du nm f t nd gv [v1-1]))|exact Ih (fun z=>[(2,14,z)]) (AY rs (du nm f t nd gv [v1-1]))|(simp only[HH,HN,HR];omega)|exact(fun e=>Acq (H:=[G (co l a7),G zM,G (cM S [[120]] rs),G [.v (.str nm),di f,di t,.v (cw nd),.v (cw gv),.acc 3 ([v1-1].map vi),di 0,di 0,di 0,.v .nils,.v .nils,.v .nils,.v .nils,di 0]]) (own:=[(3,1,[v1-1].map vi),(2,14,rs.map Al)]) (q:=3) (tag:=3) (nm:=nm) (f:=f) (t:=t) (nd:=nd) (gv:=gv) (xs:=[v1-1]) rfl e)
   ·obtain⟨v1,a7,v11,v12,v13,v14⟩:=A5 l hl a6 w3 3 (by decide) (by decide)
    obtain⟨v2,a8,v21,v22,v23,v24⟩:=A5 l hl a7 v13 3 (by decide) (by decide)
    obtain⟨m,a',m1,m2,m3⟩:=ih (3- (k+1)) (by omega) (k+1) a8 (rs++[du nm f t nd gv [v1-1,v2-1]]) rfl v23 (by omega) (by simp[hrs]) (Abo hnm ⟨f1,f2⟩ ⟨t1,t2⟩ ⟨n2,n3⟩ ⟨g2,g3⟩ (.inr ⟨by grind,fun t ht=>by
     rw[hP];show-1<=t/\t<((2:Nat):Int)
     simp only[Iz,Jr,or_false] at ht
     omega⟩) hrs hR)
    refine⟨m,a',m1,m2,?_⟩
    subst hP
    refine lv 85 [] (.c1 (co l a1) (di r)<|.t<|.h (.dr 21)<|.x (.str nm)<|.c1 (co l a2) (di f)<|.c1 (co l a3) (di t)<|.c1 (co l a4) (cx nd)<|.c1 (co l a5) (cx gv)<|.h .rn<|.c1 (co l a6) (di w)<|.t<|.h (.q 8 0)<|.h (.cl 3 5 3 1)<|.n<|.m (.acc 3 [])<|.c1 (co l a7) (di v1)<|.n<|.t<|.m (.acc 3 [vi (v1-1)])<|.c1 (co l a8) (di v2)<|.n<|.f<|.h (.q 12 2)<|.h (.cs ⟨[G (co l a8),G zM,G (cM S [[120],[121]] rs),G (cR (du nm f t nd gv [v1-1,v2-1]))],[(3,1,[vi (v1-1),vi (v2-1)]),(2,14,rs.map Al)]⟩)<|.ls [ke 0,ke 1,ke 4,ke 5,ke 6,ch 7 (di (k+1:Nat))] (j4 l a8 S [[120],[121]] (rs++[du nm f t nd gv [v1-1,v2-1]]))) (Aa PP 14 [bq 0 0,di 3] (dz l a) (di r) (dz l a1)/\Y ((k:Int)<yu yt (1+r))=J/\0<=(k:Int)/\[ae (bc #[114]).data.toList,ae (bc #[115]).data.toList,ae (bc #[116]).data.toList][Z (k:Int)]?=G (ae nm)/\Aa PP 14 [bq 0 0,di (I (U ae S):Int)] (dz l a1) (di f) (dz l a2)/\Aa PP 14 [bq 0 0,di (I (U ae S):Int)] (dz l a1) (di f) (dz l a2)/\Q (di f)/\Aa PP 14 [bq 0 0,di (I (U ae S):Int)] (dz l a2) (di t) (dz l a3)/\Aa PP 14 [bq 0 0,di (I (U ae S):Int)] (dz l a2) (di t) (dz l a3)/\Q (di t)/\Aa PP 24 [bq 0 0,di (↑(I [[120],[121]]):Int),di 2] (dz l a3) (cx nd) (dz l a4)/\Aa PP 24 [bq 0 0,di (↑(I [[120],[121]]):Int),di 2] (dz l a3) (cx nd) (dz l a4)/\Q (cx nd)/\Aa PP 24 [bq 0 0,di (↑(I [[120],[121]]):Int),di 2] (dz l a4) (cx gv) (dz l a5)/\Aa PP 24 [bq 0 0,di (↑(I [[120],[121]]):Int),di 2] (dz l a4) (cx gv) (dz l a5)/\Q (cx gv)/\Q [bh [G (co l a1),G zM,G (cM S [[120],[121]] rs),G fq] [(2,14,U Al rs)],bh [G (co l a2),G zM,G (cM S [[120],[121]] rs),G fq] [(2,14,U Al rs)],bh [G (co l a3),G zM,G (cM S [[120],[121]] rs),G fq] [(2,14,U Al rs)],bh [G (co l a4),G zM,G (cM S [[120],[121]] rs),G fq] [(2,14,U Al rs)],bh [G (co l a5),G zM,G (cM S [[120],[121]] rs),G fq] [(2,14,U Al rs)]]/\((yf (Q (G [bt (cp S)])))/\(yf (Q (G [bt (cp S)])))/\True)/\Aa PP 14 [bq 0 0,di 2] (dz l a5) (di w) (dz l a6)/\(w==0)=J/\Q (G (br 3 []))/\Aa PP 14 [bq 0 0,di (yu yt ((↑(I [[120],[121]]):Int)+1))] (dz l a6) (di v1) (dz l a7)/\Q nV/\Ao 1 8/\((Q (G [br 3 []])/\True)/\True)/\Y (yu yt (0+1)<(↑(I [[120],[121]]):Int))=J/\G (br 3 [vi (yu yt (v1-1))])=G (br 3 [vi (v1-1)])/\Aa PP 14 [bq 0 0,di (yu yt ((↑(I [[120],[121]]):Int)+1))] (dz l a7) (di v2) (dz l a8)/\vi (yu yt (v1-1))::nV=vi (v1-1)::nV/\Ao 2 8/\((Q (G [br 3 [vi (yu yt (v1-1))]])/\True)/\True)/\Y (yu yt (yu yt (0+1)+1)<(↑(I [[120],[121]]):Int))=O/\(∀(e:List D) (E:cd) (g:Gh) (a:Act) (w:x5),FI E g (bh [G (co l a8),G zM,G (cM S [[120],[121]] rs),G [bt (ae nm),bt (aa yt f),bt (aa yt t),cx nd,cx gv,br 3 ([vi (v1-1)]++[aa yt (yu yt (v2-1))]),bt (aa yt 0),bt (aa yt 0),bt (aa yt 0),dn,dn,dn,dn,bt (aa yt 0)]] [(3,1,[vi (v1-1)]++[aa yt (yu yt (v2-1))]),(2,14,U Al rs)]) e a w->∃g',FI E g' (bh [G (co l a8),G zM,G (cM S [[120],[121]] rs),G (cR (du nm f t nd gv [v1-1,v2-1]))] [(3,1,[vi (v1-1),vi (v2-1)]),(2,14,U Al rs)]) e a w)/\Q (U Al rs)/\Ao (I (U Al rs)+I (ab (ae (du nm f t nd gv [v1-1,v2-1]).name::aa yt (du nm f t nd gv [v1-1,v2-1]).aj::aa yt (du nm f t nd gv [v1-1,v2-1]).to::cw (du nm f t nd gv [v1-1,v2-1]).am::cw (du nm f t nd gv [v1-1,v2-1]).ak::cw (du nm f t nd gv [v1-1,v2-1]).move::aa yt (du nm f t nd gv [v1-1,v2-1]).chan::aa yt (du nm f t nd gv [v1-1,v2-1]).act::aa yt (du nm f t nd gv [v1-1,v2-1]).letter::cw (du nm f t nd gv [v1-1,v2-1]).path::cw (du nm f t nd gv [v1-1,v2-1]).next::AD (du nm f t nd gv [v1-1,v2-1]).ar::cw (du nm f t nd gv [v1-1,v2-1]).aq::aa yt (du nm f t nd gv [v1-1,v2-1]).second::nV)::nV)) 232/\di (yu yt ((k:Int)+1))=di (↑(k+1):Int)/\[G (co l a8),G zM,G [di 1,bt (cp S),bt (cp [[120],[121]]),dn,dn,di 0,di 0,br 2 (U Al rs++ab (ae (du nm f t nd gv [v1-1,v2-1]).name::vi (du nm f t nd gv [v1-1,v2-1]).aj::vi (du nm f t nd gv [v1-1,v2-1]).to::cw (du nm f t nd gv [v1-1,v2-1]).am::cw (du nm f t nd gv [v1-1,v2-1]).ak::cw (du nm f t nd gv [v1-1,v2-1]).move::vi (du nm f t nd gv [v1-1,v2-1]).chan::vi (du nm f t nd gv [v1-1,v2-1]).act::vi (du nm f t nd gv [v1-1,v2-1]).letter::cw (du nm f t nd gv [v1-1,v2-1]).path::cw (du nm f t nd gv [v1-1,v2-1]).next::AD (du nm f t nd gv [v1-1,v2-1]).ar::cw (du nm f t nd gv [v1-1,v2-1]).aq::vi (du nm f t nd gv [v1-1,v2-1]).second::nV)::nV),di 0,dn]]=[G (co l a8),G zM,G (cM S [[120],[121]] (rs++[du nm f t nd gv [v1-1,v2-1]]))]/\[(2,14,U Al rs++ab (ae (du nm f t nd gv [v1-1,v2-1]).name::vi (du nm f t nd gv [v1-1,v2-1]).aj::vi (du nm f t nd gv [v1-1,v2-1]).to::cw (du nm f t nd gv [v1-1,v2-1]).am::cw (du nm f t nd gv [v1-1,v2-1]).ak::cw (du nm f t nd gv [v1-1,v2-1]).move::vi (du nm f t nd gv [v1-1,v2-1]).chan::vi (du nm f t nd gv [v1-1,v2-1]).act::vi (du nm f t nd gv [v1-1,v2-1]).letter::cw (du nm f t nd gv [v1-1,v2-1]).path::cw (du nm f t nd gv [v1-1,v2-1]).next::AD (du nm f t nd gv [v1-1,v2-1]).ar::cw (du nm f t nd gv [v1-1,v2-1]).aq::vi (du nm f t nd gv [v1-1,v2-1]).second::nV)::nV)]=[(2,14,U Al (rs++[du nm f t nd gv [v1-1,v2-1]]))]/\I0 nh 1 (Ad m) (dz l a') [kl S0 [1,1,1,0,1,0,0],bf 0,kc S0 [1,1,1,1]] (cy 85 [(0,bq 0 0),(1,db J),(4,bq 1 0),(5,bq 2 0),(6,di (↑(I [[120],[121]]):Int)),(7,di (↑(k+1):Int))]) (j4 l a8 S [[120],[121]] (rs++[du nm f t nd gv [v1-1,v2-1]]))) ?_
    rw[hSm,Ak (n:=v1-1),Ak (n:=v2-1)]
    repeat' first|with_reducible refine And.intro ?_ ?_
    all_goals first|exact h4|exact hkr|exact f4|exact t4|exact n4|exact g4|exact w4|exact hw|exact v14|exact v24|exact CC hnm|exact⟨m3⟩|exact Ae|omega|rfl|trivial|skip
    all_goals first|exact Ih (fun z=>[G (co l a8),G zM,G [di 1,.v (cp S),.v (cp [[120],[121]]),.v .nils,.v .nils,di 0,di 0,.acc 2 z,di 0,.v .nils]]) (AY rs (du nm f t nd gv [v1-1,v2-1]))|exact Ih (fun z=>[(2,14,z)]) (AY rs (du nm f t nd gv [v1-1,v2-1]))|(simp only[HH,HN,HR];omega)|exact(fun e=>Acq (H:=[G (co l a8),G zM,G (cM S [[120],[121]] rs),G [.v (.str nm),di f,di t,.v (cw nd),.v (cw gv),.acc 3 ([v1-1,v2-1].map vi),di 0,di 0,di 0,.v .nils,.v .nils,.v .nils,.v .nils,di 0]]) (own:=[(3,1,[v1-1,v2-1].map vi),(2,14,rs.map Al)]) (q:=3) (tag:=3) (nm:=nm) (f:=f) (t:=t) (nd:=nd) (gv:=gv) (xs:=[v1-1,v2-1]) rfl e)
  ·obtain⟨m,a',m1,m2,m3⟩:=ih (3- (k+1)) (by omega) (k+1) a6 (rs++[du nm f t nd gv []]) rfl w3 (by omega) (by simp[hrs]) (Abo hnm ⟨f1,f2⟩ ⟨t1,t2⟩ ⟨n2,n3⟩ ⟨g2,g3⟩ (.inl rfl) hrs hR)
   refine⟨m,a',m1,m2,?_⟩
   refine lv 85 [] (.c1 (co l a1) (di r)<|.t<|.h (.dr 21)<|.x (.str nm)<|.c1 (co l a2) (di f)<|.c1 (co l a3) (di t)<|.c1 (co l a4) (cx nd)<|.c1 (co l a5) (cx gv)<|.c1 (co l a6) (di w)<|.f<|.ls [ke 0,ke 1,ke 4,ke 5,ke 6,ch 7 (di (k+1:Nat))] (j4 l a6 S Pl (rs++[du nm f t nd gv []]))) (Aa PP 14 [bq 0 0,di 3] (dz l a) (di r) (dz l a1)/\Y ((k:Int)<yu yt (1+r))=J/\0<=(k:Int)/\[ae (bc #[114]).data.toList,ae (bc #[115]).data.toList,ae (bc #[116]).data.toList][Z (k:Int)]?=G (ae nm)/\Aa PP 14 [bq 0 0,di (I (U ae S):Int)] (dz l a1) (di f) (dz l a2)/\Aa PP 14 [bq 0 0,di (I (U ae S):Int)] (dz l a1) (di f) (dz l a2)/\Q (di f)/\Aa PP 14 [bq 0 0,di (I (U ae S):Int)] (dz l a2) (di t) (dz l a3)/\Aa PP 14 [bq 0 0,di (I (U ae S):Int)] (dz l a2) (di t) (dz l a3)/\Q (di t)/\Aa PP 24 [bq 0 0,di (I Pl:Int),di 2] (dz l a3) (cx nd) (dz l a4)/\Aa PP 24 [bq 0 0,di (I Pl:Int),di 2] (dz l a3) (cx nd) (dz l a4)/\Q (cx nd)/\Aa PP 24 [bq 0 0,di (I Pl:Int),di 2] (dz l a4) (cx gv) (dz l a5)/\Aa PP 24 [bq 0 0,di (I Pl:Int),di 2] (dz l a4) (cx gv) (dz l a5)/\Q (cx gv)/\Q [bh [G (co l a1),G zM,G (cM S Pl rs),G fq] [(2,14,U Al rs)],bh [G (co l a2),G zM,G (cM S Pl rs),G fq] [(2,14,U Al rs)],bh [G (co l a3),G zM,G (cM S Pl rs),G fq] [(2,14,U Al rs)],bh [G (co l a4),G zM,G (cM S Pl rs),G fq] [(2,14,U Al rs)],bh [G (co l a5),G zM,G (cM S Pl rs),G fq] [(2,14,U Al rs)]]/\((yf (Q (G [bt (cp S)])))/\(yf (Q (G [bt (cp S)])))/\True)/\Aa PP 14 [bq 0 0,di 2] (dz l a5) (di w) (dz l a6)/\(w==0)=O/\Q (U Al rs)/\Ao (I (U Al rs)+I (ab (ae nm::aa yt f::aa yt t::cw nd::cw gv::ai nV::aa yt 0::aa yt 0::aa yt 0::ai nV::ai nV::ai nV::ai nV::aa yt 0::nV)::nV)) 232/\di (yu yt ((k:Int)+1))=di (↑(k+1):Int)/\[G (co l a6),G zM,G [di 1,bt (cp S),bt (cp Pl),dn,dn,di 0,di 0,br 2 (U Al rs++ab (ae nm::vi f::vi t::cw nd::cw gv::ai nV::vi 0::vi 0::vi 0::ai nV::ai nV::ai nV::ai nV::vi 0::nV)::nV),di 0,dn]]=[G (co l a6),G zM,G (cM S Pl (rs++[du nm f t nd gv []]))]/\[(2,14,U Al rs++ab (ae nm::vi f::vi t::cw nd::cw gv::ai nV::vi 0::vi 0::vi 0::ai nV::ai nV::ai nV::ai nV::vi 0::nV)::nV)]=[(2,14,U Al (rs++[du nm f t nd gv []]))]/\I0 nh 1 (Ad m) (dz l a') [kl S0 [1,1,1,0,1,0,0],bf 0,kc S0 [1,1,1,1]] (cy 85 [(0,bq 0 0),(1,db J),(4,bq 1 0),(5,bq 2 0),(6,di (I Pl:Int)),(7,di (↑(k+1):Int))]) (j4 l a6 S Pl (rs++[du nm f t nd gv []]))) ?_
   rw[hSm]
   repeat' first|with_reducible refine And.intro ?_ ?_
   all_goals first|exact h4|exact hkr|exact f4|exact t4|exact n4|exact g4|exact w4|exact HU hw|exact CC hnm|exact⟨m3⟩|exact Ae|omega|rfl|trivial|skip
   all_goals first|exact Ih (fun z=>[G (co l a6),G zM,G [di 1,.v (cp S),.v (cp Pl),.v .nils,.v .nils,di 0,di 0,.acc 2 z,di 0,.v .nils]]) (AY rs (du nm f t nd gv []))|exact Ih (fun z=>[(2,14,z)]) (AY rs (du nm f t nd gv []))|(simp only[HH,HN,HR];omega)
 ·obtain⟨ys,a2,y1,y2,y3,y4⟩:=GE l hl a1 h3 (I Pl) (by omega) 3 (by decide) (by decide)
  obtain⟨c,hc⟩:∃c,c=CP 0 ys:=⟨_,rfl⟩
  refine⟨⟨1,S,Pl,[],[],0,0,rs,c⟩,a2,⟨rfl,hS,hP,rfl,rfl,rfl,rfl,by grind,by grind,hR,ys,y2,y3,hc⟩,y1,?_⟩
  refine lv 85 [] (.c1 (co l a1) (di r)<|.f<|.c1 (co l a2) (cx ys)<|.c (dV c) .r) (_/\Y ((k:Int)<yu yt (1+r))=O/\_/\F0 23 [di 0,cx ys] (dV c)/\Q [G (co l a2)]/\bt (ab [vi 1,ai (U ae S),ai (U ae Pl),ai [],ai [],vi 0,vi 0,ai (U Al rs),vi c.n,ai (U eV c.az)])=Ad (cz.mk 1 S Pl [] [] 0 0 rs c)) ⟨h4,?_,y4,hc▸La ys (by omega) 0,rfl,rfl⟩
  grind[Ak]
theorem AjM(l:List UInt8)(hl:I l<=200)(a:Nat)(ha:a<=I l):
  ∃(m:cz) (a':Nat),TQ m/\a'<=I l/\Aa PP 15 [.ptr 0 0,db J] (dz l a) (Ad m) (dz l a'):=by
 obtain⟨r1,a1,h1,h2,h3,h4⟩:=A5 l hl a ha 2 (by decide) (by decide)
 obtain⟨r2,a2,h5,h6,h7,h8⟩:=A5 l hl a1 h3 2 (by decide) (by decide)
 obtain⟨S,hS,hS2⟩:∃S:List (List UInt8),(S=[[97]]∨S=[[97],[98]])/\(r1=0/\S=[[97]]∨r1=1/\S=[[97],[98]]):=by
  rcases(show r1=0∨r1=1 by omega) with h|h
  all_goals simp_all
 obtain⟨Pl,hP,hP2⟩:∃S:List (List UInt8),(S=[[120]]∨S=[[120],[121]])/\(r2=0/\S=[[120]]∨r2=1/\S=[[120],[121]]):=by
  rcases(show r2=0∨r2=1 by omega) with h|h
  all_goals simp_all
 obtain⟨m,a',m1,m2,m3⟩:=Acs l hl S Pl hS hP _ 0 a2 [] rfl h7 (by omega) rfl (fun i r h=>by grind)
 refine⟨m,a',m1,m2,?_⟩
 refine sv nh 85 [] (.h (.dr 11)<|.c1 (co l a1) (di r1)<|.c1 (co l a2) (di r2)<|.h .rn<|.h (.q 3 0)<|.h (.cl 2 7 2 14)<|.ls [ke 0,ke 1,ke 4,ke 5,ch 6 (di (I Pl)),ch 7 (di (0:Nat))] (j4 l a2 S Pl [])) (_/\_/\Q (di r1)/\(∀(x:V),x∈ q7->V.size x=1)/\0<=(fun x=>x.snd) (yt,yu yt (1+r1))/\(fun x=>x.snd) (yt,yu yt (1+r1))<=(↑(I q7):Int)/\_/\_/\Q (di r2)/\(∀(x:V),x∈ kw->V.size x=1)/\0<=(fun x=>x.snd) (yt,yu yt (1+r2))/\(fun x=>x.snd) (yt,yu yt (1+r2))<=(↑(I kw):Int)/\Q [bh (il l a) [],bh (il l a1) [],bh (il l a2) []]/\True/\di (I (W 0 (take (Z ((fun x=>x.snd) (yt,yu yt (1+r2)))) tc)):Int)=di (I Pl:Int)/\Q (di 0)/\[G (co l a2),G si,G [di 1,bt (ai (W 0 (take (Z ((fun x=>x.snd) (yt,yu yt (1+r1)))) Atx))),bt (ai (W 0 (take (Z ((fun x=>x.snd) (yt,yu yt (1+r2)))) tc))),dn,dn,di 0,di 0,br 2 nV,di 0,dn]]=[G (co l a2),G zM,G (cM S Pl [])]/\Q [(2,14,nV)]/\_) ⟨h4,h4,rfl,by simp[V.size],?_,?_,h8,h8,rfl,by simp[V.size],?_,?_,rfl,trivial,?_,rfl,?_,rfl,iK m3⟩
 ·grind[Ak]
 ·grind[Ak]
 ·grind[Ak]
 ·grind[Ak]
 ·rcases hP2 with⟨rfl,rfl⟩|⟨rfl,rfl⟩<;>rfl
 ·rcases hS2 with⟨rfl,rfl⟩|⟨rfl,rfl⟩<;>rcases hP2 with⟨rfl,rfl⟩|⟨rfl,rfl⟩<;>rfl
theorem Sq.short{ns np k:Nat}{r:cf}(h:Sq ns np k r)(hnp:np<=2):r.short:=by
 have h1:=h.am.1
 have h2:=h.ak.1
 have h3:I r.move<=2:=by
  rcases h.move with e|e
  all_goals grind
 rw[h.rest]
 exact⟨by show I r.am<=_;omega,by show I r.ak<=_;omega,by show I r.move<=_;omega,Iu _,Iu _,Iu _,Iu _⟩
theorem AfH{rs:List cf}(_:I rs<=3){ns np:Nat}(h:∀k r,rs[k]?=G r->Sq ns np k r):rs.map cf.name=mo.take (I rs):=by
 apply ext_getElem?
 intro i
 by_cases hi:i<I rs
 ·have hx:rs[i]?=G rs[i]:=HI hi
  rw[I1,hx,List.getElem?_take_of_lt hi,(h i _ hx).name];rfl
 grind
theorem TQ.ok{m:cz}(h:TQ m):m.ok:=by
 have hst:1<=I m.aw/\m.aw.length<=2:=by rcases h.aw with e|e<;>rw[e]<;>decide
 have hpl:1<=I m.ay/\m.ay.length<=2:=by rcases h.ay with e|e<;>rw[e]<;>decide
 have hb:∀{x a b:Int},a<=x->x<=b->A3 x a b=J:=fun h1 h2=>by grind[A3]
 have hget:∀r∈m.av,Sq (I m.aw) (I m.ay) (m.av.idxOf r) r:=fun r hr=>by
  exact h.av _ r (by grind)
 have hc:=h.count
 refine⟨.inl h.kind,?_,?_,?_,?_,?_,?_,?_⟩
 ·simp only[Dr,Tt,Ie h.kind,HJ,HS,h.ax,h.ao,h.age]
  grind
 ·rw[C4,Ie (by rw[h.kind];rfl),h.au];rfl
 ·have hn:=AfH h.count h.av
  rw[F3,Gm,hn,Cj,h.ax]
  have:I m.av=0∨m.av.length=1∨m.av.length=2∨m.av.length=3:=by omega
  rcases h.aw with e|e<;>rcases h.ay with e'|e'<;>rcases this with e2|e2|e2|e2<;>rw[e,e',e2]<;>decide
 ·intro r hr
  have hm:=hget r hr
  exact hm.short (by omega)
 ·intro r hr
  have hm:=hget r hr
  obtain⟨f1,f2⟩:=hm.aj
  obtain⟨t1,t2⟩:=hm.to
  obtain⟨n1,n2⟩:=hm.am
  obtain⟨g1,g2⟩:=hm.ak
  have hmv:r.move=[]∨r.move.length=I m.ay/\∀t∈r.move, -1<=t/\t<I m.ay:=hm.move
  have hr:=hm.rest
  rw[Fy,Ie h.kind]
  grind[E8,Ci,Ch,Rf,du,Eo]
 ·obtain⟨ys,y1,y2,y3⟩:=h.start
  rw[y3]
  exact K4 m h.kind (by omega) 0 ⟨by omega,by omega⟩ ys y1 fun x hx=>by grind
 ·obtain⟨ys,y1,y2,y3⟩:=h.start
  grind[Hn]
theorem TQ.ctm{m:cz}(h:TQ m):gu m:=by
 have hst:1<=I m.aw:=by rcases h.aw with e|e<;>rw[e]<;>decide
 refine⟨h.ok,h.kind,?_⟩
 obtain⟨ys,y1,y2,y3⟩:=h.start
 grind[PZ]
theorem AfI{rs:List cf}(_:I rs<=2){ns np:Nat}{ag:Int}(h:∀k r,rs[k]?=G r->OS ns np ag k r):rs.map cf.name=sb.take (I rs):=by
 apply ext_getElem?
 intro i
 by_cases hi:i<I rs
 ·have hx:rs[i]?=G rs[i]:=HI hi
  rw[I1,hx,List.getElem?_take_of_lt hi,(h i _ hx).name];rfl
 grind
structure D1(m:cz):Prop where
 kind:m.kind=5
 aw:m.aw=[[97]]∨m.aw=[[97],[98]]
 ay:m.ay=[[120]]∨m.ay=[[120],[121]]
 ax:m.ax=[]
 au:m.au=[]
 ao:m.ao=0
 age:0<=m.age/\m.age<=1
 count:I m.av<=2
 named:F3 m=J
structure GQ(m:cz):Prop where
 n:D1 m
 av:∀k r,m.av[k]?=G r->OS (I m.aw) (I m.ay) m.age k r
theorem BH.n{m:cz}(h:BH m):D1 m:=⟨h.kind,h.aw,h.ay,h.ax,h.au,h.ao,h.age,h.count,by
 have hn:=AfI h.count h.av
 have hc:=h.count
 rw[F3,Gm,hn,Cj,h.ax]
 have:I m.av=0∨m.av.length=1∨m.av.length=2:=by omega
 rcases h.aw with e|e<;>rcases h.ay with e'|e'<;>rcases this with e2|e2|e2<;>rw[e,e',e2]<;>decide+kernel⟩
theorem BH.s{m:cz}(h:BH m):GQ m:=⟨h.n,h.av⟩
instance {m:cz}:Coe (BH m) (D1 m):=⟨BH.n⟩
instance {m:cz}:Coe (GQ m) (D1 m):=⟨GQ.n⟩
instance {m:cz}:Coe (BH m) (GQ m):=⟨BH.s⟩
theorem D1.sz{m:cz}(h:D1 m):(1<=I m.aw/\m.aw.length<=2)/\(1<=I m.ay/\m.ay.length<=2):=
 ⟨by rcases h.aw with e|e<;>rw[e]<;>decide,by rcases h.ay with e|e<;>rw[e]<;>decide⟩
theorem BH.sz{m:cz}(h:BH m):(1<=I m.aw/\m.aw.length<=2)/\(1<=I m.ay/\m.ay.length<=2):=h.n.sz
theorem GQ.right{m:cz}(h:GQ m)(r:cf)(hr:r∈m.av):F0 147 [Ad m,BP r] (db J):=by
 obtain⟨hst,hpl⟩:=h.n.sz
 have hag:=h.n.age
 have hi:=List.idxOf_lt_length_of_mem hr
 have hm:=h.av _ r (by rw[HI hi,List.getElem_idxOf])
 rw[hm.rest]
 refine Aar m (by omega) (by omega) h.n.kind (by omega) _ _ _ _ _ hm.aj hm.to ?_ ?_ ?_ ?_
 ·rcases hm.ar with e|⟨p,lo,hi,_,_,e⟩<;>rw[e]<;>simp
 ·rcases hm.aq with e|⟨p,_,e⟩<;>rw[e]<;>simp
 ·rcases hm.ar with e|⟨p,lo,hi,h1,h2,e⟩
  ·rw[e];simp
  ·rw[e];intro t ht;rw[HY.1 ht];exact⟨h1,h2⟩
 ·rcases hm.aq with e|⟨p,h1,e⟩
  ·rw[e];simp
  ·rw[e];intro t ht;rw[HY.1 ht];exact h1
theorem BH.right{m:cz}(h:BH m)(r:cf)(hr:r∈m.av):F0 147 [Ad m,BP r] (db J):=h.s.right r hr
theorem Ys(m:cz)(hm:GQ m)(r:cf)(hr:r∈m.av):F0 146 [BP r,.v (.ref (A0 m))] (db O):=by
 exact sv Anl 8 [2] (.c (db J) .r) (_/\Q (db O)) ⟨hm.right r hr,rfl⟩
theorem D1.good{m:cz}(h:D1 m):CQ 8 (Av m)=J:=AoH m (by have:=h.sz;omega) (by have:=h.sz;omega) (by have:=h.age;omega)
theorem BH.good{m:cz}(h:BH m):CQ 8 (Av m)=J:=h.n.good
theorem BH.start_ok{m:cz}(h:BH m):Ah (Av m) m.start=J:=by
 obtain⟨ts,h1,h2⟩:=h.start
 have:=h.sz
 rw[h2];exact Sg m 0 ⟨by omega,by omega⟩ ts h1
theorem AgV(m:cz)(hm:GQ m):F0 84 [Ad m] (di (if Ah (Av m) m.start then 0 else 17)):=by
 obtain⟨hst,hpl⟩:=hm.n.sz
 have hag:=hm.n.age
 have hc:=hm.n.count
 have hb:∀{x a b:Int},a<=x->x<=b->A3 x a b=J:=fun h1 h2=>by simp[A3,h1,h2]
 have:=AcF m true true true true false (Ah (Av m) m.start) (by rw[hm.n.kind];rfl) (fun _=>?_) (fun _=>?_) (fun _=>?_) (fun _=>?_) (fun _=>Ait m _ _ (by rw[hm.n.kind];rfl) (Ma m hm.n.kind (by omega)) (LC _ hm.n.good _))
 ·exact this
 ·have:=NP xm m (by rw[hm.n.kind];exact Aqz)
  rwa[show Dr xm m=J by
   simp only[Dr,HJ,HS,hm.n.ax,hm.n.ao]
   exact⟨hb (by omega) (by omega),by omega,hb (by omega) (by omega),by decide,by decide,hb (by omega) (by omega)⟩] at this
 ·have:=My m (by rw[hm.n.au];decide)
  rwa[show C4 m=J by rw[C4,Ie (by rw[hm.n.kind];rfl),hm.n.au];rfl] at this
 ·have:=V1 m (by simp only[Cj,List.flatten_cons,List.flatten_nil,HW,HR,hm.n.ax];omega)
  rwa[hm.n.named] at this
 ·have:=MN 146 [] [.ref (A0 m)] (fun _=>false) m.av (by omega) (fun r hr=>Ys m hm r hr)
  rw[show m.av.any (fun _=>false)=O by simp] at this
  exact this
theorem N1(m:cz)(hm:BH m):F0 84 [Ad m] (di 0):=by
 have:=AgV m hm
 rwa[hm.start_ok,Ie rfl] at this
theorem Abk(m:cz)(hm:BH m)(v:b9):F0 47 [Ad m,dV v] (db (Ah (Av m) v)):=by
 exact sv AmE 14 [2,3] (.c (di 0)<|.c (dT (Av m))<|.c (db (Ah (Av m) v)) .r) (_/\_/\_/\Q (db (Ah (Av m) v))) ⟨N1 m hm,Ma m hm.kind (by have:=hm.age;omega),LC _ hm.good v,rfl⟩
theorem Xz(m:cz)(hm:BH m)(v:b9)(_:v.size<=1000000):F0 47 [Ad m,dV v] (db (Ah (Av m) v)):=Abk m hm v
theorem Ze(m:cz)(hm:BH m):F0 46 [Ad m] (di 0):=by
 exact sv Aqc 12 [1] (.c (di 0)<|.k<|.f .r) (_/\(m.kind==6)=O/\Q (di 0)) ⟨N1 m hm,by rw[hm.kind];rfl,rfl⟩
theorem BH.int{m:cz}(h:BH m):G2 m (Av m):=⟨Ze m h,L9 m (by have:=h.count;omega),fun v hv=>Xz m h v hv,by have:=h.sz;omega⟩
inductive El (m:cz):Prop where
 |cM (h:TQ m)
 |l2 (h:Gw 2 m)
 |l3 (h:Gw 3 m)
 |tm (h:BH m)
 |c (h:Qi m)
theorem El.small{m:cz}(h:El m):(1<=I m.aw/\m.aw.length<=3)/\(m.ay=[[120]]∨m.ay=[[120],[121]])/\m.ax.length<=2/\m.age<=3:=by
 have two:∀S:List (List UInt8),(S=[[97]]∨S=[[97],[98]])->1<=I S/\S.length<=3:=fun S e=>by rcases e with e|e<;>rw[e]<;>decide
 cases h with
 |cM h=>exact⟨two _ h.aw,h.ay,by rw[h.ax];decide,by rw[h.age];decide⟩
 |c h=>exact⟨two _ h.aw,h.ay,by rw[h.ax];decide,by rw[h.age];decide⟩
 |tm h=>exact⟨two _ h.aw,h.ay,by rw[h.ax];decide,by have:=h.age;omega⟩
 |l2 h=>exact⟨by obtain⟨n,h1,h2,e⟩:=h.aw;rw[e,Ip];simp only[HN,HR];omega,h.ay,by rcases h.ax with e|e<;>rw[e]<;>decide,by rw[h.age];decide⟩
 |l3 h=>exact⟨by obtain⟨n,h1,h2,e⟩:=h.aw;rw[e,Ip];simp only[HN,HR];omega,h.ay,by rcases h.ax with e|e<;>rw[e]<;>decide,by rw[h.age];decide⟩
noncomputable abbrev ta:=Tryz.f7
theorem AnR(l:List UInt8)(hl:I l<=200)(a:Nat)(ha:a<=I l):
  ∃(m:cz) (a':Nat),El m/\a'<=I l/\Aa PP 7 [.ptr 0 0] (dz l a) (Ad m) (dz l a'):=by
 obtain⟨r,a1,p1,p2,p3,p4⟩:=A5 l hl a ha 5 (by decide) (by decide)
 rcases(show r=0∨r=1∨r=2∨r=3∨r=4 by omega) with rfl|rfl|rfl|rfl|rfl
 ·obtain⟨m,a2,h1,h2,h3⟩:=AjM l hl a1 p3
  refine⟨m,a2,.cM h1,h2,?_⟩
  refine sv ta 23 [] (.c1 (co l a1) (di 0)<|.c1 (co l a2) (Ad m) .r) (Aa PP 14 [bq 0 0,di 5] (dz l a) (di 0) (dz l a1)/\Aa PP 15 [bq 0 0,db J] (dz l a1) (Ad m) (dz l a2)/\Q [G (co l a2)]/\bt (ab [vi m.kind,ai (df m.aw),ai (df m.ay),ai (df m.ax),ai (cc m.au),vi m.ao,vi m.age,ai (U Al m.av),vi m.start.n,ai (ce m.start.az)])=Ad m) ?_
  trivial
 ·obtain⟨m,a2,h1,h2,h3⟩:=Aim l hl a1 p3 2 (.inl rfl)
  refine⟨m,a2,.l2 h1,h2,?_⟩
  refine sv ta 23 [] (.c1 (co l a1) (di 1)<|.c1 (co l a2) (Ad m) .r) (Aa PP 14 [bq 0 0,di 5] (dz l a) (di 1) (dz l a1)/\Aa PP 16 [bq 0 0,di 2] (dz l a1) (Ad m) (dz l a2)/\Q [G (co l a2)]/\bt (ab [vi m.kind,ai (df m.aw),ai (df m.ay),ai (df m.ax),ai (cc m.au),vi m.ao,vi m.age,ai (U Al m.av),vi m.start.n,ai (ce m.start.az)])=Ad m) ?_
  trivial
 ·obtain⟨m,a2,h1,h2,h3⟩:=Aim l hl a1 p3 3 (.inr rfl)
  refine⟨m,a2,.l3 h1,h2,?_⟩
  refine sv ta 23 [] (.c1 (co l a1) (di 2)<|.c1 (co l a2) (Ad m) .r) (Aa PP 14 [bq 0 0,di 5] (dz l a) (di 2) (dz l a1)/\Aa PP 16 [bq 0 0,di 3] (dz l a1) (Ad m) (dz l a2)/\Q [G (co l a2)]/\bt (ab [vi m.kind,ai (df m.aw),ai (df m.ay),ai (df m.ax),ai (cc m.au),vi m.ao,vi m.age,ai (U Al m.av),vi m.start.n,ai (ce m.start.az)])=Ad m) ?_
  trivial
 ·obtain⟨m,a2,h1,h2,h3⟩:=Alx l hl a1 p3
  refine⟨m,a2,.tm h1,h2,?_⟩
  refine sv ta 23 [] (.c1 (co l a1) (di 3)<|.c1 (co l a2) (Ad m) .r) (Aa PP 14 [bq 0 0,di 5] (dz l a) (di 3) (dz l a1)/\Aa PP 17 [bq 0 0] (dz l a1) (Ad m) (dz l a2)/\Q [G (co l a2)]/\bt (ab [vi m.kind,ai (df m.aw),ai (df m.ay),ai (df m.ax),ai (cc m.au),vi m.ao,vi m.age,ai (U Al m.av),vi m.start.n,ai (ce m.start.az)])=Ad m) ?_
  trivial
 ·obtain⟨m,a2,h1,h2,h3⟩:=An3 l hl a1 p3
  refine⟨m,a2,.c h1,h2,?_⟩
  refine sv ta 23 [] (.c1 (co l a1) (di 4)<|.c1 (co l a2) (Ad m) .r) (Aa PP 14 [bq 0 0,di 5] (dz l a) (di 4) (dz l a1)/\Aa PP 15 [bq 0 0,db O] (dz l a1) (Ad m) (dz l a2)/\Q [G (co l a2)]/\bt (ab [vi m.kind,ai (df m.aw),ai (df m.ay),ai (df m.ax),ai (cc m.au),vi m.ao,vi m.age,ai (U Al m.av),vi m.start.n,ai (ce m.start.az)])=Ad m) ?_
  trivial
inductive q0 (m:cz) (c:b9):Prop where
 |ctr (hk:m.kind=1) (s:Int) (ys:List Int) (hs:0<=s/\s<I m.aw) (hy:I ys=I m.ay) (h:∀y∈ys,0<=y/\y<=3) (hc:c=CP s ys)
 |chan (hk:m.kind=2∨m.kind=3) (s:Int) (ys:List b9) (hs:0<=s/\s<I m.aw) (hy:I ys=I m.ay) (h:∀y∈ys,Gv (I m.ax) y) (hc:c=.mk 0 (.mk s []::ys))
 |bag (hk:m.kind=5) (s:Int) (ts:List b9) (hs:0<=s/\s<I m.aw) (h:m9 (I m.ay) m.age 2 ts) (hc:c=.mk 0 [.mk s [],.mk 0 ts])
theorem AcK(m:cz)(hk:m.kind=1)(hst:1<=I m.aw/\m.aw.length<=3)(hp:1<=I m.ay/\m.ay.length<=2)(l:List UInt8)(hl:I l<=200)(a:Nat)(ha:a<=I l):
  ∃(c:b9) (a':Nat),q0 m c/\a'<=I l/\Aa PP 11 [.ptr 0 0,Ad m] (dz l a) (dV c) (dz l a'):=by
 obtain⟨s,a1,s1,s2,s3,s4⟩:=A5 l hl a ha (I m.aw) (by omega) (by omega)
 obtain⟨ys,a2,y1,y2,y3,y4⟩:=GE l hl a1 s3 (I m.ay) (by omega) 3 (by decide) (by decide)
 obtain⟨c,hc⟩:∃c,c=CP s ys:=⟨_,rfl⟩
 refine⟨c,a2,.ctr hk s ys ⟨s1,s2⟩ y2 y3 hc,y1,?_⟩
 refine sv Agu 47 [3] (.t<|.c1 (co l a1) (di s)<|.c1 (co l a2) (cx ys)<|.c (dV c) .r) ((m.kind==1)=J/\Aa PP 14 [bq 0 0,di (I (U ae m.aw):Int)] (dz l a) (di s) (dz l a1)/\Aa PP 24 [bq 0 0,di (I (U ae m.ay):Int),di 3] (dz l a1) (cx ys) (dz l a2)/\F0 23 [di s,cx ys] (dV c)/\Q [G (co l a2)]/\Q (dV c)) ⟨by grind,by grind,by grind,hc▸La ys (by omega) s,rfl,rfl⟩
theorem AcQ{o:yy}(ho:o.op=.build 31 #[(0,.tmp 27)])(s:Int)(τ:St):Ai PP o [di s] τ (.v (Ac (.mk s []))) τ:=
 P6 ho (z:=[vi 0,.list []]) (ay:=[(0,1),(1,1)]) (by rfl) (xs:=[(0,vi s)]) rfl rfl
noncomputable abbrev qa:=(Oper.mk (G 29) (Op.buildSlice 29 1 #[(0,Operand.tmp 28)]) 29 "play.go:165" #[Edge.mk 5 Ground.data] none)
noncomputable abbrev ox:=fun a₀ b₀ c₀=>(bh [G (co a₀ b₀),G [di 0,dn]] [(1,2,[Ac (ey c₀)])])
noncomputable abbrev Aud:=(Oper.mk (G 28) (Op.build 31 #[(0,Operand.tmp 27)]) 31 "play.go:165" #[Edge.mk 4 Ground.data] none)
theorem AcJ(m:cz)(hk:m.kind=2∨m.kind=3)(hst:1<=I m.aw/\m.aw.length<=3)(hp:1<=I m.ay/\m.ay.length<=2)(hle:1<=I m.ax/\m.ax.length<=2)(l:List UInt8)(hl:I l<=200)(a:Nat)(ha:a<=I l):
  ∃(c:b9) (a':Nat),q0 m c/\a'<=I l/\Aa PP 11 [.ptr 0 0,Ad m] (dz l a) (dV c) (dz l a'):=by
 obtain⟨s,a1,s1,s2,s3,s4⟩:=A5 l hl a ha (I m.aw) (by omega) (by omega)
 obtain⟨ys,a2,y1,y2,y3,y4⟩:=Ah9 l hl a1 s3 (I m.ay) (by omega) (I m.ax) (by omega) (by omega)
 obtain⟨c,hc⟩:∃c:b9,c=.mk 0 (.mk s []::ys):=⟨_,rfl⟩
 refine⟨c,a2,.chan hk s ys ⟨s1,s2⟩ y2 y3 hc,y1,?_⟩
 have hpk:Aa PP 14 [bq 0 0,di (↑(I (U ae m.aw)):Int)] (bh [G (co l a)] []) (di s) (bh [G (co l a1)] []):=by grind
 have hwd:Aa PP 25 [bq 0 0,di (↑(I (U ae m.ay)):Int),di (↑(I (U ae m.ax)):Int),di 2] (bh [G (co l a1)] []) (cq ys) (bh [G (co l a2)] []):=by grind
 have hsl:∀(o:yy) (H:List (Option (List D))),o.op=.buildSlice 29 1 #[(0,.tmp 28)]->Ai PP o [.v (Ac (.mk s []))] ⟨H,[]⟩ (.acc 1 [Ac (.mk s [])]) ⟨H,[(1,2,[Ac (.mk s [])])]⟩:=fun o H ho=>J5 (σ:=⟨H,[]⟩) ho (by rfl) rfl kp rfl (ds:=[.v (Ac (.mk s []))]) (xs:=[Ac (.mk s [])]) rfl (fun z hz=>by rw[HY.1 hz];rfl) (by decide) (by decide) (by decide) 1 (by simp)
 rcases hk with hk|hk
 ·refine sv Agu 47 [3] (.f<|.t<|.k<|.h (.dr 6)<|.h (.cs ⟨[],[(1,2,[Ac (.mk s [])])]⟩)<|.c1 (co l a1) (di s)<|.h (.p (.v (Ac (.mk s []))))<|.h (.o (.acc 1 [Ac (.mk s [])]) ba)<|.c1 (co l a2) (cq ys)<|.w .r) ((m.kind==1)=O/\(m.kind==2)=J/\_/\_/\Q (di s)/\(∀(τ:St),Ai PP Aud [di s] τ (bt (Ac (ey s))) τ)/\Q [bh [G (co l a),G [di 0,dn]] [(1,2,Ac (ey s)::nV)],bh [G (co l a1),G [di 0,dn]] [(1,2,Ac (ey s)::nV)]]/\(Ai PP qa [bt (Ac (ey s))] (pm l a) (br 1 [Ac (ey s)]) (ox l a s)/\Ai PP qa [bt (Ac (ey s))] (pm l a1) (br 1 [Ac (ey s)]) (ox l a1 s)/\True)/\_/\_/\Q (cq ys)/\(Q (ox l a2 s)/\Ai PP qa [bt (Ac (ey s))] (pm l a2) (br 1 [Ac (ey s)]) (ox l a2 s))/\Q (Ac (ey s)::nV)/\Ao (I (Ac (ey s)::nV)+I (U eV ys)) 32/\(∀(y:V),y∈U eV ys->V.size y=2)/\True/\Q [G (co l a2)]/\bt (ab [vi 0,ai (Ac (ey s)::[]++(U eV ys))])=dV c) ⟨by grind,by grind,hpk,hpk,rfl,fun τ=>AcQ rfl s τ,rfl,⟨hsl _ _ rfl,hsl _ _ rfl,trivial⟩,hwd,hwd,rfl,⟨rfl,hsl _ _ rfl⟩,rfl,?_,fun y hy=>?_,trivial,rfl,?_⟩
  ·grind
  ·obtain⟨z,_,rfl⟩:=I2.1 hy
   cases z;rfl
  ·subst hc
   rfl
 ·refine sv Agu 47 [3] (.f<|.f<|.t<|.h (.dr 6)<|.h (.cs ⟨[],[(1,2,[Ac (.mk s [])])]⟩)<|.c1 (co l a1) (di s)<|.h (.p (.v (Ac (.mk s []))))<|.h (.o (.acc 1 [Ac (.mk s [])]) ba)<|.c1 (co l a2) (cq ys)<|.w .r) ((m.kind==1)=O/\(m.kind==2)=O/\(m.kind==3)=J/\_/\_/\Q (di s)/\(∀(τ:St),Ai PP Aud [di s] τ (bt (Ac (ey s))) τ)/\Q [bh [G (co l a),G [di 0,dn]] [(1,2,Ac (ey s)::nV)],bh [G (co l a1),G [di 0,dn]] [(1,2,Ac (ey s)::nV)]]/\(Ai PP qa [bt (Ac (ey s))] (pm l a) (br 1 [Ac (ey s)]) (ox l a s)/\Ai PP qa [bt (Ac (ey s))] (pm l a1) (br 1 [Ac (ey s)]) (ox l a1 s)/\True)/\_/\_/\Q (cq ys)/\(Q (ox l a2 s)/\Ai PP qa [bt (Ac (ey s))] (pm l a2) (br 1 [Ac (ey s)]) (ox l a2 s))/\Q (Ac (ey s)::nV)/\Ao (I (Ac (ey s)::nV)+I (U eV ys)) 32/\(∀(y:V),y∈U eV ys->V.size y=2)/\True/\Q [G (co l a2)]/\bt (ab [vi 0,ai (Ac (ey s)::[]++(U eV ys))])=dV c) ⟨by grind,by grind,by grind,hpk,hpk,rfl,fun τ=>AcQ rfl s τ,rfl,⟨hsl _ _ rfl,hsl _ _ rfl,trivial⟩,hwd,hwd,rfl,⟨rfl,hsl _ _ rfl⟩,rfl,?_,fun y hy=>?_,trivial,rfl,?_⟩
  ·grind
  ·obtain⟨z,_,rfl⟩:=I2.1 hy
   cases z;rfl
  ·subst hc
   rfl
theorem AjW(m:cz)(hk:m.kind=5)(hst:1<=I m.aw/\m.aw.length<=3)(hp:1<=I m.ay/\m.ay.length<=2)(hag:0<=m.age/\m.age<=3)(l:List UInt8)(hl:I l<=200)(a:Nat)(ha:a<=I l):
  ∃(c:b9) (a':Nat),q0 m c/\a'<=I l/\Aa PP 11 [.ptr 0 0,Ad m] (dz l a) (dV c) (dz l a'):=by
 obtain⟨s,ts,a1,h1,h2,h3,h4⟩:=AnH l hl m hst hp hag a ha
 obtain⟨c,hc⟩:∃c:b9,c=.mk 0 [.mk s [],.mk 0 ts]:=⟨_,rfl⟩
 rw[←hc] at h4
 refine⟨c,a1,.bag hk s ts h1 h2 hc,h3,?_⟩
 exact sv Agu 47 [3] (.f<|.f<|.f<|.t<|.c1 (co l a1) (dV c) .r) ((m.kind==1)=O/\(m.kind==2)=O/\(m.kind==3)=O/\(m.kind==5)=J/\_/\Q [G (co l a1)]/\Q (dV c)) ⟨by rw[hk];rfl,by rw[hk];rfl,by rw[hk];rfl,by rw[hk];rfl,h4,rfl,rfl⟩
theorem El.cfg_ex{m:cz}(h:El m)(l:List UInt8)(hl:I l<=200)(a:Nat)(ha:a<=I l):
  ∃(c:b9) (a':Nat),q0 m c/\a'<=I l/\Aa PP 11 [.ptr 0 0,Ad m] (dz l a) (dV c) (dz l a'):=by
 have hP:m.ay=[[120]]∨m.ay=[[120],[121]]:=by
  cases h with
  |cM h=>exact h.ay
  |l2 h=>exact h.ay
  |l3 h=>exact h.ay
  |tm h=>exact h.ay
  |c h=>exact h.ay
 have hpl:1<=I m.ay/\m.ay.length<=2:=by grind
 have two:∀S:List (List UInt8),(S=[[97]]∨S=[[97],[98]])->1<=I S/\S.length<=3:=fun S e=>by grind
 cases h with
 |cM h=>exact AcK m h.kind (two _ h.aw) hpl l hl a ha
 |c h=>exact AcK m h.kind (two _ h.aw) hpl l hl a ha
 |tm h=>exact AjW m h.kind (two _ h.aw) hpl (by have:=h.age;omega) l hl a ha
 |l2 h=>exact AcJ m (.inl h.kind) (by obtain⟨n,h1,h2,e⟩:=h.aw;grind) hpl (by rcases h.ax with e|e<;>rw[e]<;>decide) l hl a ha
 |l3 h=>exact AcJ m (.inr h.kind) (by obtain⟨n,h1,h2,e⟩:=h.aw;grind) hpl (by rcases h.ax with e|e<;>rw[e]<;>decide) l hl a ha
noncomputable abbrev Aqk:=Tryz.f267
def EM(m:cz)(w:List Int):List (List Int):=if (m.kind==3)=J then Gg m.au w else FW w
theorem LR(m:cz)(w:List Int):I (EM m w)<=12/\∀v∈EM m w,I v<=12:=by
 grind[EM,Xj,WC]
theorem AgZ(m:cz)(hr:I m.au<=1000)(w:List Int)(hw:I w<=1000):F0 267 [Ad m,cx w] (dl ((EM m w).map cw)):=by
 unfold EM
 by_cases hk:(m.kind==3)=J
 ·have g3:=Afg m.au w hr hw
  generalize Gg m.au w=ws at g3⊢
  refine sv Aqk 14 [2] (.t<|.c (dl (ws.map cw)) .r) ((m.kind==3)=J/\F0 288 [cx m.au,cx w] (dl (U cw ws))/\bt (lb ws)=dl (U cw (if (m.kind==3)=J then ws else FW w))) ?_
  grind
 ·have g3:=AdI w hw
  generalize FW w=ws at g3⊢
  refine sv Aqk 14 [2] (.f<|.c (dl (ws.map cw)) .r) ((m.kind==3)=O/\F0 289 [cx w] (dl (U cw ws))/\bt (lb ws)=dl (U cw (if (m.kind==3)=J then Gg m.au w else ws))) ?_
  grind
noncomputable abbrev YM:=Tryz.f214
noncomputable def Ej:=yl YM
def pz(outs:List b9):St:=match outs with
 |[]=>ba
 |o::outs=>⟨[G (Ab ((o::outs).map eV))],[]⟩
def na(outs:List b9):D:=match outs with
 |[]=>.v .nils
 |_::outs=>.gro 0 (I outs+1) 2
theorem VW{l:List b9}(h:l≠ []):na l=.gro 0 (I l) 2:=by cases l with
 |nil=>grind
 |cons=>rfl
theorem Pk{l:List b9}(h:l≠ []):pz l=⟨[G (Ab (l.map eV))],[]⟩:=by cases l with
 |nil=>grind
 |cons=>rfl
theorem pa{o:yy}{t:Nat}(x:b9)(τ:St)(ho:o.op=.buildSlice 29 1 #[(0,.tmp t)]):Ai PP o [dV x] τ (.v (.list [Ac x])) τ:=
 ES ho rfl rfl kp rfl (xs:=[Ac x]) rfl (fun y hy=>by rw[HY.1 hy];rfl) (by decide) (by decide) (by decide)
theorem CV(l:List b9):(Ab (l.map eV)).all D.one=J:=by
 induction l with
 |nil=>rfl
 |cons x l ih=>rw[AG,List.all_append,ih];rfl
theorem EH(l:List b9)(x:b9):Ab (l.map eV)++[bt (vi x.n),bt (dt x.az)]=Ab ((l++[x]).map eV):=by rw[Hf,AG];rfl
def gh(c:b9)(k:Nat)(w:List Int):b9:=K3 c k (c.az.getD 0 e6).n w
def fk(m:cz)(c:b9)(K:Nat):List b9:=(List.range K).flatMap fun k=>(EM m (AP (c.az.getD (1+k) (.mk 0 [])))).map (gh c k)
theorem LI(m:cz)(c:b9)(K:Nat):fk m c (K+1)=fk m c K++(EM m (AP (c.az.getD (1+K) (.mk 0 [])))).map (gh c K):=by simp[fk,List.range_succ]
theorem PE(m:cz)(c:b9)(K:Nat):I (fk m c K)<=12*K:=by
 induction K<;>grind[LR,LI,fk]
theorem AhW{c s0 x:b9}{k:Nat}(h0:c.az[0]?=G s0)(hx:c.az[1+k]?=G x)(w:List Int):gh c k w=.mk c.n (BU c.az s0 x s0.n (1+k) w):=by
 grind[gh,RW]
theorem PC{c:b9}(hc:c.size<=128){k:Nat}(hk:1+k<I c.az){w:List Int}(hw:I w<=12):(gh c k w).size<=200:=by
 obtain⟨s0,h0⟩:∃x,c.az[0]?=G x:=⟨_,HI (by omega)⟩
 obtain⟨x,hx⟩:∃x,c.az[1+k]?=G x:=⟨_,HI hk⟩
 rw[AhW h0 hx]
 have:=K7 h0 hx s0.n w c.n
 have:=c.size_eq
 omega
theorem PD{m:cz}{c:b9}(hc:c.size<=128){K:Nat}(hK:K<I c.az){v:b9}(hv:v∈fk m c K):v.size<=200:=by
 obtain⟨k,hk,hv⟩:=List.mem_flatMap.1 hv
 grind[PC,LR]
theorem Aml(m:cz)(c s0 x:b9)(k:Nat)(hk2:k<=1000)(hc:c.size<=128)(h0:c.az[0]?=G s0)(hx:c.az[1+k]?=G x)(ws:List (List Int))(hw:I ws<=12)(hws:∀v∈ws,I v<=12)(l o1:List b9)(ho1:I o1<=900)
  (l2:Rn PP YM 0 (dq (l,0)) ba ([kl Ej [1,1,1,0,1,0,0],.blk 0,kc Ej [1,1,1,1]]++[]) (cy 51 [(2,.v (.ref (A0 m))),(3,.v (.ref (Ac c))),(7,na (o1++ws.map (gh c k))),(20,di (I m.ay)),(21,di (k+1:Nat))]) (pz (o1++ws.map (gh c k)))) (n:Nat):
  ∀(j:Nat) (outs:List b9),I ws-j=n->outs=o1++(ws.take j).map (gh c k)->Rn PP YM 0 (dq (l,0)) ba ([kl Ej [1,1,1,0,1,0,0,1,1,0,0,1,1,0,0],.blk 2,.blk 1,kc Ej [1,1,1,0,1,0,0,1,1,1],kl Ej [1,1,1,0,1,0,0],.blk 0,kc Ej [1,1,1,1]]++[]) (cy 51 [(2,.v (.ref (A0 m))),(3,.v (.ref (Ac c))),(7,na outs),(8,di k),(20,di (I m.ay)),(21,di k),(28,dl (ws.map cw)),(29,di (I ws)),(30,di j)]) (pz outs):=by
 induction n with
 |zero=>
  intro j outs hn houts
  rw[Im (by omega)] at houts
  rw[←houts] at l2
  clear houts
  by_cases hne:outs=[]
  ·subst hne
   exact lv 51 [2,3] (.f<|.l [ke 2,ke 3,ke 7,ke 20,ch 21 (di (k+1:Nat))]) (Y ((j:Int)<(I ws:Int))=O/\di (yu yt ((k:Int)+1))=di (↑(k+1):Int)/\_) ⟨yq,Ae,iK l2⟩
  ·rw[VW hne,Pk hne] at l2⊢
   exact lv 51 [2,3] (.f<|.lo [ke 2,ke 3,ke 7,ke 20,ch 21 (di (k+1:Nat))] ⟨[G (Ab (outs.map eV))],[]⟩) (Y ((j:Int)<(I ws:Int))=O/\di (yu yt ((k:Int)+1))=di (↑(k+1):Int)/\cm 1 [] [G (ej outs)]=J/\Q [G (ej outs)]/\_) ⟨yq,Ae,Ia.2 ⟨Aj 1 [] _,rfl⟩,rfl,iK l2⟩
 |succ n ih=>
  intro j outs hn houts
  obtain⟨w,hw1⟩:=yk (show j<I ws by omega)
  have hwl:=hws w (HO hw1)
  have hsp:=Qx c (by omega) s0 x k h0 hx s0.n w (by omega)
  have hsz:=K7 h0 hx s0.n w c.n
  have hfw:=AhW h0 hx w
  have hol:I outs<=912:=by rw[houts,HW,HH,Ip];omega
  generalize b9.mk c.n (BU c.az s0 x s0.n (1+k) w)=v at hsp hsz hfw
  have hx0:(c.az.map eV)[Z 0]?=G (Ac s0):=Ap (i:=0) h0
  have l2:=ih (j+1) (outs++[v]) (by omega) (by rw[houts,IW,hw1, ←hfw];simp)
  clear houts
  rw[VW (by simp),Pk (by simp)] at l2
  by_cases hne:outs=[]
  ·subst hne
   rw[show na ([]:List b9)=bt bv from rfl,show pz []=ba from rfl]
   refine lv 51 [2,3] (.t<|.x (cw w)<|.h (.xs (Ac s0))<|.c (dV v)<|.h (.p (.v (.list [Ac v])))<|.h .g<|.lo [ke 2,ke 3,ch 7 (.gro 0 1 2),ke 8,ke 20,ke 21,ke 28,ke 29,ch 30 (di (j+1:Nat))] ⟨[G (Ab ([v].map eV))],[]⟩) (Y ((j:Int)<(I ws:Int))=J/\0<=(j:Int)/\(U cw ws)[Z (j:Int)]?=G (cw w)/\Q 2/\iz 0<=0/\_/\_/\(∀(τ:St),Ai PP (Oper.mk (G 44) (Op.buildSlice 29 1 #[(0,Operand.tmp 43)]) 29 "channel.go:118" #[Edge.mk 9 Ground.data] none) [dV v] τ (bt (ai [Ac v])) τ)/\[Ac v]≠ []/\(∀(y:V),y∈ [Ac v]->V.size y=2)/\Ao 1 32/\Q (bm 0 1 2)/\di (yu yt ((j:Int)+1))=di (↑(j+1):Int)/\cm 1 [] [G (dp v.n v.az)]=J/\[G (dp v.n v.az)]=[G (Ab (eV v::nV))]/\_) ⟨yr,by omega,by rw[IR,I1,hw1];rfl,rfl,Il _,hx0,hsp,fun τ=>pa v τ rfl,by simp,fun y hy=>by rw[HY.1 hy];rfl,⟨by decide,by decide⟩,rfl,Ae,rfl,?_,iK l2⟩
   show [G [di v.n,bt (dt v.az)]]=[G (Ab ([v].map eV))]
   rw[AG];rfl
  ·rw[VW hne,Pk hne]
   refine lv 51 [2,3] (.t<|.x (cw w)<|.h (.xs (Ac s0))<|.c (dV v)<|.lo [ke 2,ke 3,ch 7 (.gro 1 (I outs+1) 2),ke 8,ke 20,ke 21,ke 28,ke 29,ch 30 (di (j+1:Nat))] ⟨[none,G (Ab ((outs++[v]).map eV))],[]⟩) (Y ((j:Int)<(I ws:Int))=J/\0<=(j:Int)/\(U cw ws)[Z (j:Int)]?=G (cw w)/\Q 2/\iz 0<=0/\(ce c.az)[Z 0]?=G (Ac s0)/\F0 235 [dV c,di s0.n,di (k:Int),cx w] (dV v)/\I (ej outs)=I outs*2/\[Ac v]≠ []/\(∀(y:V),y∈ [Ac v]->V.size y=2)/\Ao (I outs+I (Ac v::nV)) 32/\bm 1 (I outs+I (Ac v::nV)) 2=bm 1 (I outs+1) 2/\di (yu yt ((j:Int)+1))=di (↑(j+1):Int)/\cm 2 [] [none,G (Ab (U eV outs)++(dp v.n v.az))]=J/\[none,G (Ab (U eV outs)++(dp v.n v.az))]=[none,G (Ab (U eV (outs++[v])))]/\I0 YM 0 (dq (l,0)) ba [kl Ej [1,1,1,0,1,0,0,1,1,0,0,1,1,0,0],bf 2,bf 1,kc Ej [1,1,1,0,1,0,0,1,1,1],kl Ej gb,bf 0,kc Ej [1,1,1,1]] (cy 51 [(2,bt (gd m)),(jw c),(7,bm 1 (I outs+1) 2),(8,di (k:Int)),(20,di (I m.ay:Int)),(21,di (k:Int)),(28,bt (lb ws)),(29,di (I ws:Int)),(30,di (↑(j+1):Int))]) (bh [none,G (Ab (U eV (outs++[v])))] [])) ?_
   rw[EH]
   refine⟨yr,by omega,by rw[IR,I1,hw1];rfl,rfl,Il _,hx0,hsp,AU _,by simp,fun y hy=>by rw[HY.1 hy];rfl,⟨?_,?_⟩,rfl,Ae,?_,rfl,⟨?_⟩⟩
   ·simp only[HN,HR];omega
   ·simp only[HN,HR];omega
   ·simp[cm,Aj]
   ·rw[HW] at l2
    refine E6 (H0:=[none]) (fun E0 E h=>h.2) 1 rfl (fun cs hc=>?_) ?_ ?_ l2
    ·simp at hc;rw[hc];exact Ay _
    ·simp[cy,D.okNs,D.okN]
    ·simp[cy,D.rens,D.ren]
noncomputable abbrev Asg:=(bw 40 [] [])
noncomputable abbrev tw:=fun a₀=>(bh [G (ej a₀)] [])
theorem Aj2(m:cz)(c s0:b9)(hc:c.size<=128)(hr:I m.au<=1000)(hp:I m.ay<=2)(h0:c.az[0]?=G s0)(hl:I c.az=1+I m.ay)(hw:∀(k:Nat) (x:b9),c.az[1+k]?=G x->I x.az<=12)(n:Nat):
  ∀(k:Nat) (outs:List b9),I m.ay-k=n->k<=I m.ay->outs=fk m c k->Rn PP YM 0 (dq (sortV (fk m c (I m.ay)),0)) ba ([kl Ej [1,1,1,0,1,0,0],.blk 0,kc Ej [1,1,1,1]]++[]) (cy 51 [(2,.v (.ref (A0 m))),(3,.v (.ref (Ac c))),(7,na outs),(20,di (I m.ay)),(21,di k)]) (pz outs):=by
 induction n with
 |zero=>
  intro k outs hn hkp houts
  rw[show I m.ay=k by omega, ←houts]
  have ho:=PE m c k
  rw[←houts] at ho
  have hs:∀v∈outs,v.size<=200:=fun v hv=>PD (m:=m) (K:=k) hc (by omega) (by rw[←houts];exact hv)
  clear houts
  cases outs with
  |nil=>
   rw[show sortV []=[] by simp[sortV]]
   rw[show na ([]:List b9)=bt bv from rfl,show pz []=ba from rfl]
   exact lv 51 [2,3] (.f<|.c (.tup []) .r) (Y ((k:Int)<(k:Int))=O/\_/\bk pp=dq ([],0)) ⟨yq,Ml,rfl⟩
  |cons o outs=>
   rw[show na (o::outs)=bm 0 (I (o::outs)) 2 from rfl,show pz (o::outs)=⟨[G (Ab ((o::outs).map eV))],[]⟩ from rfl]
   generalize o::outs=ol at*
   have hsl:I (sortV ol)=I ol:=(AR ol).length_eq
   refine lv 51 [2,3] (.f<|.h (.q 14 0)<|.h (.ga 7)<|.h (.oc (.tup []) ⟨[G (Ab ((sortV ol).map eV))],[]⟩)<|.h (.q 15 1)<|.h (.ct 50 (cq (sortV ol)) ⟨[none],[]⟩) .r) (Y ((k:Int)<(k:Int))=O/\(N0 [bt Asg,bo 0 0 (I ol),bt ov] (tw ol) (bk []) (bh [G (Ab (U eV (sortV ol)))] []))/\(∀(e:List D),e[50]?=G (bo 0 0 (I ol))->∀(E:cd) (g:Gh) (a:Act) (w:x5),FI E g (bh [G (Ab (U eV (sortV ol)))] []) e a w->∃g',FI E g' (bh [none] []) (List.set e 50 (cq (sortV ol))) a w)/\bk [bt (dt (sortV ol)),di 0]=dq (sortV ol,0)) ⟨yq,fun o cl fo hop hc=>?_,fun e he=>?_,rfl⟩
   ·exact Dw (H:=[Ab (ol.map eV)]) hop hc (fs:=[]) (cs:=[]) (ds:=[.arr 0 0 (I ol),dfn 41]) rfl (Ge ol (by omega) (fun v hv=>by have:=hs v hv;omega)) rfl (fun cs hm=>by rw[HY.1 hm];exact⟨Aj _ _ _,CV _⟩) rfl (Ia.2 ⟨Aj _ _ _,rfl⟩) (HP _)
   ·exact Ox (σ:=⟨[G (Ab ((sortV ol).map eV))],[]⟩) (q:=0) (sz:=2) (by decide) (Da _) (by rw[HH,hsl]) rfl he
 |succ n ih=>
  intro k outs hn hkp houts
  obtain⟨x,hx⟩:∃x,c.az[1+k]?=G x:=⟨_,HI (by omega)⟩
  have hx12:=hw k x hx
  have hct:=RQ c k x hx (by omega) (by omega)
  have w3:=AgZ m hr (AP x) (by rw[HH];omega)
  obtain⟨w1,w2⟩:=LR m (AP x)
  have ho:=PE m c k
  rw[←houts] at ho
  have hnx:=LI m c k
  rw[←houts,show c.az.getD (1+k) (.mk 0 [])=x by rw[HQ,hx];rfl] at hnx
  generalize EM m (AP x)=ws at w1 w2 w3 hnx
  have l2:=Aml m c s0 x k (by omega) hc h0 hx ws w1 w2 (sortV (fk m c (I m.ay))) outs (by omega) (by rw[←hnx];exact ih (k+1) _ (by omega) (by omega) rfl) _ 0 outs rfl (by simp)
  clear houts hnx
  generalize sortV (fk m c (I m.ay))=l at l2⊢
  cases outs with
  |nil=>
   rw[show na ([]:List b9)=bt bv from rfl,show pz []=ba from rfl] at l2⊢
   exact lv 51 [2,3] (.t<|.c (cx (AP x))<|.c (dl (ws.map cw))<|.l [ke 2,ke 3,ke 7,ke 8,ke 20,ke 21,ke 28,ch 29 (di (I ws)),ch 30 (di (0:Nat))]) (Y ((k:Int)<(I m.ay:Int))=J/\_/\_/\di (I (U cw ws):Int)=di (I ws:Int)/\Q (di 0)/\_) ⟨yr,hct,w3,by rw[HH],rfl,iK l2⟩
  |cons o outs=>
   rw[VW (by simp),Pk (by simp)] at l2⊢
   generalize o::outs=ol at*
   exact lv 51 [2,3] (.t<|.c (cx (AP x))<|.c (dl (ws.map cw))<|.l [ke 2,ke 3,ke 7,ke 8,ke 20,ke 21,ke 28,ch 29 (di (I ws)),ch 30 (di (0:Nat))]) (Y ((k:Int)<(I m.ay:Int))=J/\_/\_/\di (I (U cw ws):Int)=di (I ws:Int)/\Q (di 0)/\_) ⟨yr,hct,w3,by rw[HH],rfl,iK l2⟩
theorem AfK(m:cz)(t:cr)(hm:n9 m t)(hr:I m.au<=1000)(c:b9)(hv:Ah t c=J):F0 214 [Ad m,dV c] (dq (sortV (fk m c (I m.ay)),0)):=by
 have hsh:=hm.shape c hv
 have hsz:=hsh.size
 have hck:=Aip m t hm c (by omega)
 rw[om,Ie hv] at hck
 obtain⟨s0,h0⟩:∃x,c.az[0]?=G x:=⟨_,HI (by rw[hsh.len];omega)⟩
 have l2:=Aj2 m c s0 hsz hr hm.few.2 h0 hsh.len hsh.word _ 0 [] rfl (by omega) rfl
 generalize sortV (fk m c (I m.ay))=l at l2⊢
 exact sv YM 51 [2,3] (.c (di 0)<|.k<|.l [ke 2,ke 3,ke 7,ch 20 (di (I m.ay)),ch 21 (di (0:Nat))]) (_/\di (I (df m.ay):Int)=di (I m.ay:Int)/\Q (di 0)/\_) ⟨hck,by rw[HH],rfl,iK l2⟩
structure wv(c:b9):Prop where
 size:c.size<=128
 len:I c.az=2
 few:∀b,c.az[1]?=G b->I b.az<=12
 toks:∀b v,c.az[1]?=G b->v∈b.az->I v.az=2
structure mm(m:cz)(t:cr):Prop where
 int:G2 m t
 chk:F0 84 [Ad m] (di 0)
 kind:m.kind=5
 few:I m.av<=12
 rule:∀r∈m.av,I r.ar<=2/\r.aq.length<=1
 shape:∀c,Ah t c=J->wv c
noncomputable abbrev o4:=Tryz.f227
noncomputable def YQ:=yl o4
theorem Aeg(l:List b9)(hl:I l<=1000)(ps:List (Int×Int))(hp:I ps=I l)(hv:∀(k:Nat) (v:b9),l[k]?=G v->∃a b,v.az[0]?=G a/\v.az[1]?=G b/\ps[k]?=G (a.n,b.n))(n:Nat):∀k:Nat,I l-k=n->
  Rn PP o4 0 (.acc 1 (ps.map cn)) ⟨[],[(1,2,ps.map cn)]⟩ ([kl YQ [1,1,0,1,0,0],.blk 0,kc YQ [1,1,1]]++[]) (cy 32 [(3,.acc 1 ((ps.take k).map cn)),(10,cq l),(11,di (I l)),(12,di k)]) ⟨[],[(1,2,(ps.take k).map cn)]⟩:=by
 induction n with
 |zero=>
  intro k hn
  refine lv 32 [1] (.f .r) (Y ((k:Int)<(I l:Int))=O/\[(1,2,U cn (take k ps))]=[(1,2,U cn ps)]/\br 1 (U cn (take k ps))=br 1 (U cn ps)) ?_
  rw[Im (by omega)]
  grind
 |succ n ih=>
  intro k hn
  obtain⟨x,hx⟩:=yk (show k<I l by omega)
  obtain⟨a,b,ha,hb,hpk⟩:=hv k x hx
  refine lv 32 [1] (.t<|.h (.xs (Ac x))<|.h (.xs (Ac a))<|.h (.xs (Ac b))<|.ls [ch 3 (.acc 1 ((ps.take (k+1)).map cn)),ke 10,ke 11,ch 12 (di (k+1:Nat))] ⟨[],[(1,2,(ps.take (k+1)).map cn)]⟩) (Y ((k:Int)<(I l:Int))=J/\Q 2/\0<=(k:Int)/\(U eV l)[Z (k:Int)]?=G (Ac x)/\Q 2/\iz 0<=0/\(ce x.az)[Z 0]?=G (Ac a)/\Q 2/\iz 0<=1/\(ce x.az)[Z 1]?=G (Ac b)/\Q (U cn (take k ps))/\Ao (I (U cn (take k ps))+I (ab (vi a.n::vi b.n::nV)::nV)) 16/\yo/\br 1 (U cn (take k ps)++[ab [vi a.n,vi b.n]])=br 1 (U cn (take (k+1) ps))/\di (yu yt ((k:Int)+1))=di (↑(k+1):Int)/\[(1,2,U cn (take k ps)++ab (vi a.n::vi b.n::nV)::nV)]=[(1,2,U cn (take (k+1) ps))]/\I0 o4 0 (br 1 (U cn ps)) (bh [] [(1,2,U cn ps)]) [kl YQ ee,bf 0,kc YQ [1,1,1]] (cy 32 [(3,br 1 (U cn (take (k+1) ps))),(10,cq l),(11,di (I l:Int)),(12,di (↑(k+1):Int))]) (bh [] [(1,2,U cn (take (k+1) ps))])) ?_
  have ht:(ps.take (k+1)).map cn=(ps.take k).map cn++[ab [vi a.n,vi b.n]]:=by rw[IW,hpk];simp
  rw[ht]
  refine⟨yr,rfl,by omega,Ap hx,rfl,Il _,Ap (i:=0) ha,rfl,by decide,Ap (i:=1) hb,rfl,⟨?_,?_⟩,ym,rfl,Ae,rfl,⟨?_⟩⟩
  all_goals grind
theorem UB(c b:b9)(hb:c.az[1]?=G b)(hl:I b.az<=1000)(ps:List (Int×Int))(hp:I ps=I b.az)(hv:∀(k:Nat) (v:b9),b.az[k]?=G v->∃a y,v.az[0]?=G a/\v.az[1]?=G y/\ps[k]?=G (a.n,y.n)):
  F0 227 [dV c] (A4 ps):=by
 have h:Aa PP 227 [dV c] ba (.acc 1 (ps.map cn)) ⟨[],[(1,2,ps.map cn)]⟩:=by
  exact sv o4 32 [1] (.h (.q 2 0)<|.h (.nw 3 1 2)<|.h (.xs (Ac b))<|.ls [ch 3 (.acc 1 []),ke 10,ch 11 (di (I b.az)),ch 12 (di (0:Nat))] ⟨[],[(1,2,[])]⟩) (Q 2/\iz 0<=1/\(ce c.az)[Z 1]?=G (Ac b)/\Q iu/\di (I (ce b.az):Int)=di (I b.az:Int)/\Q (di 0)/\Q [(1,2,nV)]/\_) ⟨rfl,by decide,Ap (i:=1) hb,rfl,by grind,rfl,rfl,iK (Aeg b.az hl ps hp hv _ 0 rfl)⟩
 exact Hx h
noncomputable abbrev Aq5:=Tryz.f272
theorem TU(s:Int)(b:b9)(hb:b.size<=10000):F0 272 [di s,dl [Ac b]] (dV (.mk 0 [.mk s [],b])):=by
 refine sv Aq5 13 [] (.c (cq [b])<|.c (cq [.mk s [],b]) .r) (F0 82 [bt (ai [Ac b])] (cq [b])/\F0 291 [bt (ai [ai [ab [vi s,ai []]],dt [b]])] (cq [b9.mk s [],b])/\bt (ab [vi 0,ai [eV (ey s),eV b]])=dV (b9.mk 0 [b9.mk s [],b])) ?_
 have h1:=VZ [b] (by simp) (fun x hx=>by grind[LO])
 rw[show cq [b]=dl [Ac b] from Ih (fun z=>dl [z]) (AH b)] at h1⊢
 have h2:=AgC [[.mk s []],[b]] (by simp) (by simp)
 refine⟨h1,?_,?_⟩
 ·have e2:bt (ai [ai [ab [vi s,ai []]],dt [b]])=dl (Qm [[.mk s []],[b]]):=by
   rfl
  grind
 ·rfl
abbrev uh(ps:List (Int×Int)):St:=⟨[G (Ab (ps.map cn))],[]⟩
theorem KS(p:Int×Int)(l:List (Int×Int)):Ab ((p::l).map cn)=[di p.1,di p.2]++Ab (l.map cn):=rfl
theorem MU:∀l:List (Int×Int),I (Ab (l.map cn))=I l*2
 |[]=>rfl
 |p::l=>by rw[KS,HW,MU l,HN];grind
theorem AbK(l k:List (Int×Int)):Ab ((l++k).map cn)=Ab (l.map cn)++Ab (k.map cn):=by grind[Ab]
theorem ZB(l:List b9)(hl:I l<=1000)(ps:List (Int×Int))(hp:I ps=I l)(hv:∀(k:Nat) (v:b9),l[k]?=G v->∃a b,v.az[0]?=G a/\v.az[1]?=G b/\ps[k]?=G (a.n,b.n))(n:Nat):∀k:Nat,I l- (k+1)=n->k<I l->
  Rn PP o4 0 (.arr 0 0 (I ps)) (uh ps) ([kl YQ [1,1,0,1,0,0],.blk 0,kc YQ [1,1,1]]++[]) (cy 32 [(3,.gro 0 (k+1) 2),(10,cq l),(11,di (I l)),(12,di (k+1:Nat))]) (uh (ps.take (k+1))):=by
 induction n with
 |zero=>
  intro k hn hk
  refine lv 32 [1] (.f<|.h (.q 7 0)<|.h (.ga 3) .ro) (Y ((↑(k+1):Int)<(I l:Int))=O/\cm 1 [] [G (Ab (U cn (take (k+1) ps)))]=J/\[G (Ab (U cn (take (k+1) ps)))]=[G (Ab (U cn ps))]/\bo 0 0 (k+1)=bo 0 0 (I ps)) ?_
  grind[Aj,cm]
 |succ n ih=>
  intro k hn hk
  obtain⟨x,hx⟩:=yk (show k+1<I l by omega)
  obtain⟨a,b,ha,hb,hpk⟩:=hv (k+1) x hx
  refine lv 32 [1] (.t<|.h (.xs (Ac x))<|.h (.xs (Ac a))<|.h (.xs (Ac b))<|.lo [ch 3 (.gro 2 (k+1+1) 2),ke 10,ke 11,ch 12 (di (k+1+1:Nat))] ⟨[none,G (dp x.n x.az),G (Ab ((ps.take (k+1+1)).map cn))],[]⟩) (Y ((↑(k+1):Int)<(I l:Int))=J/\Q 2/\0<=(↑(k+1):Int)/\(U eV l)[Z (↑(k+1):Int)]?=G (Ac x)/\Q 2/\iz 0<=0/\(ce x.az)[Z 0]?=G (Ac a)/\Q 2/\iz 0<=1/\(ce x.az)[Z 1]?=G (Ac b)/\I (Ab (U cn (take (k+1) ps)))=(k+1)*2/\[ab [vi a.n,vi b.n]]≠ []/\(∀(y:V),y∈ [ab [vi a.n,vi b.n]]->V.size y=2)/\Ao (k+1+I (ab (vi a.n::vi b.n::nV)::nV)) 16/\yo/\bm 2 (k+1+I (ab (vi a.n::vi b.n::nV)::nV)) 2=bm 2 (k+1+1) 2/\di (yu yt ((↑(k+1):Int)+1))=di (↑(k+1+1):Int)/\cm 3 [] [none,G (dp x.n x.az),G (Ab (U cn (take (k+1) ps))++[di a.n,di b.n])]=J/\[none,G (dp x.n x.az),G (Ab (U cn (take (k+1) ps))++[di a.n,di b.n])]=[none,G (dp x.n x.az),G (Ab (U cn (take (k+1+1) ps)))]/\I0 o4 0 (bo 0 0 (I ps)) (uh ps) [kl YQ ee,bf 0,kc YQ [1,1,1]] (cy 32 [(3,bm 2 (k+1+1) 2),(10,cq l),(11,di (I l:Int)),(12,di (↑(k+1+1):Int))]) (bh [none,G (dp x.n x.az),G (Ab (U cn (take (k+1+1) ps)))] [])) ?_
  have hk1:=(HL.1 hx).1
  have ht:(ps.take (k+1+1))=(ps.take (k+1))++[(a.n,b.n)]:=by rw[IW (i:=k+1),hpk];rfl
  have hf:Ab ((ps.take (k+1)).map cn)++[di a.n,di b.n]=Ab ((ps.take (k+1+1)).map cn):=by rw[ht,AbK];rfl
  have hih:=ih (k+1) (by omega) hk1
  rw[hf]
  refine⟨yr,rfl,by omega,Ap hx,rfl,Il _,Ap (i:=0) ha,rfl,by decide,Ap (i:=1) hb,by rw[MU,Ip];omega,by simp,fun y hy=>by rw[HY.1 hy];rfl,⟨?_,?_⟩,ym,rfl,Ae,?_,rfl,⟨?_⟩⟩
  ·grind
  ·grind
  ·simp[cm,D.okNs,D.okN,Aj]
  ·refine E6 (H0:=[none,G [di x.n,cq x.az]]) (fun E0 E h=>h.2) 2 rfl (fun cs hc=>?_) ?_ ?_ hih
   ·grind[Ay]
   all_goals rfl
theorem AoI{o:yy}{t:Nat}(x:b9)(τ:St)(ho:o.op=.fieldAddr 31 (.tmp t) 0):Ai PP o [.v (.ref (Ac x))] τ (.v (.ref (vi x.n))) τ:=FT ho (fo:=0) (n:=1) (b:=false) (by kernel_rfl) (by decide) (fun _=>rfl) rfl
theorem Aq4{o:yy}{t:Nat}(x:Int)(τ:St)(ho:o.op=.load 3 (.tmp t)):Ai PP o [.v (.ref (vi x))] τ (di x) τ:=FS ho (by rfl) rfl
theorem ApH{o:yy}{t t':Nat}(x y:Int)(τ:St)(ho:o.op=.build 205 #[(0,.tmp t),(1,.tmp t')]):Ai PP o [di x,di y] τ (.v (cn (x,y))) τ:=P6 ho (z:=[vi 0,vi 0]) (ay:=[(0,1),(1,1)]) (by kernel_rfl) (xs:=[(0,vi x),(1,vi y)]) rfl rfl
theorem slP:BS PP 227=G (205,2,16,G (.agg #[.int .i64 0,.int .i64 0])):=by kernel_rfl
theorem AqS{o:yy}{t:Nat}(p:Int×Int)(τ:St)(ho:o.op=.buildSlice 227 1 #[(0,.tmp t)]):Ai PP o [.v (cn p)] τ (.v (.list [cn p])) τ:=
 ES ho rfl rfl slP rfl (xs:=[cn p]) rfl (fun y hy=>by rw[HY.1 hy];rfl) (by decide) (by decide) (by decide)
theorem ZA(c b:b9)(hb:c.az[1]?=G b)(hl:I b.az<=1000)(hn:b.az≠ [])(ps:List (Int×Int))(hp:I ps=I b.az)(hv:∀(k:Nat) (v:b9),b.az[k]?=G v->∃a y,v.az[0]?=G a/\v.az[1]?=G y/\ps[k]?=G (a.n,y.n)):
  Aa PP 227 [dV c] ba (.arr 0 0 (I ps)) (uh ps):=by
 have hpos:=List.length_pos_iff.2 hn
 obtain⟨x,hx⟩:∃x,b.az[0]?=G x:=⟨_,HI hpos⟩
 obtain⟨a,y,ha,hy,hpk⟩:=hv 0 x hx
 have ht:ps.take 1=[(a.n,y.n)]:=by
  cases ps<;>grind
 have hih:=ZB b.az hl ps hp hv _ 0 rfl hpos
 refine sv o4 32 [1] (.h (.xs (Ac b))<|.n<|.t<|.h (.xs (Ac x))<|.h (.xs (Ac a))<|.h (.xs (Ac y))<|.h (.p (.v (.ref (vi y.n))))<|.h (.p (di y.n))<|.h (.p (.v (cn (a.n,y.n))))<|.h (.p (.v (.list [cn (a.n,y.n)])))<|.h .g<|.lo [ch 3 (.gro 1 1 2),ke 10,ch 11 (di (I b.az)),ch 12 (di (1:Nat))] ⟨[G (dp x.n x.az),G (Ab ((ps.take 1).map cn))],[]⟩) (Q 2/\iz 0<=1/\(ce c.az)[Z 1]?=G (Ac b)/\Y (0<(I (ce b.az):Int))=J/\Q 2/\iz 0<=0/\(ce b.az)[Z 0]?=G (Ac x)/\Q 2/\iz 0<=0/\(ce x.az)[Z 0]?=G (Ac a)/\Q 2/\iz 0<=1/\(ce x.az)[Z 1]?=G (Ac y)/\(∀(τ:St),Ai PP (Oper.mk (G 25) (Op.fieldAddr 31 (Operand.tmp 24) 0) 0 "timed.go:30" #[Edge.mk 8 Ground.data] none) [bt (jy y)] τ (bt (bz (vi y.n))) τ)/\(∀(τ:St),Ai PP (Oper.mk (G 26) (Op.load 3 (Operand.tmp 25)) 3 "timed.go:30" #[Edge.mk 9 Ground.data] none) [bt (bz (vi y.n))] τ (di y.n) τ)/\(∀(τ:St),Ai PP (Oper.mk (G 27) (Op.build 205 #[(0,Operand.tmp 21),(1,Operand.tmp 26)]) 205 "timed.go:30" #[Edge.mk 5 Ground.data,Edge.mk 10 Ground.data] none) [di a.n,di y.n] τ (bt (cn (b9.n a,b9.n y))) τ)/\(∀(τ:St),Ai PP (Oper.mk (G 28) (Op.buildSlice 227 1 #[(0,Operand.tmp 27)]) 227 "timed.go:30" #[Edge.mk 11 Ground.data] none) [bt (cn (b9.n a,b9.n y))] τ (bt (ai [cn (b9.n a,b9.n y)])) τ)/\[cn (b9.n a,b9.n y)]≠ []/\(∀(y_1:V),y_1∈ [cn (b9.n a,b9.n y)]->V.size y_1=2)/\Ao 1 16/\yo/\Q (bm 1 1 2)/\di (I (ce b.az):Int)=di (I b.az:Int)/\di (yu yt (0+1))=di (↑1:Int)/\cm 2 [] [G (dp x.n x.az),G [di (b9.n a,b9.n y).fst,di (b9.n a,b9.n y).snd]]=J/\[G (dp x.n x.az),G [di (b9.n a,b9.n y).fst,di (b9.n a,b9.n y).snd]]=[G (dp x.n x.az),G (Ab (U cn (take 1 ps)))]/\I0 o4 (I ba.H) (bo 0 0 (I ps)) (uh ps) [kl YQ ee,bf 0,kc YQ [1,1,1]] (cy 32 [(3,bm 1 1 2),(10,cq b.az),(11,di (I b.az:Int)),(12,di (↑1:Int))]) (bh [G (dp x.n x.az),G (Ab (U cn (take 1 ps)))] [])) ⟨rfl,by decide,Ap (i:=1) hb,HK (by grind),rfl,Il _,Ap (i:=0) hx,rfl,Il _,Ap (i:=0) ha,rfl,by decide,Ap (i:=1) hy,fun τ=>AoI y τ rfl,fun τ=>Aq4 y.n τ rfl,fun τ=>ApH a.n y.n τ rfl,fun τ=>AqS _ τ rfl,by simp,fun z hz=>by rw[HY.1 hz];rfl,⟨by decide,by decide⟩,ym,rfl,by grind,Ih di (by decide),rfl,?_,⟨?_⟩⟩
 ·rw[ht];rfl
 ·refine E6 (H0:=[G [di x.n,cq x.az]]) (fun E0 E h=>h.2) 1 rfl (fun cs hc=>?_) ?_ ?_ hih
  ·grind[Ay]
  all_goals rfl
noncomputable abbrev r6:=Tryz.f229
noncomputable def ru:=yl r6
abbrev xj(xs:List b9):St:=⟨[G [di 0,.v .nils],G [di 0,.gro 2 (I xs) 2],G (Ab (xs.map eV))],[]⟩
abbrev pV(p:Int×Int):b9:=.mk 0 [.mk p.1 [],.mk p.2 []]
theorem AaJ(p:Int×Int):(pV p).size=3:=rfl
theorem Aet{l k:List b9}(h:l.Perm k):b9.sizes l=b9.sizes k:=by
 induction h<;>grind[b9.sizes]
theorem ZK:∀l:List (Int×Int),b9.sizes (l.map pV)=3*I l
 |[]=>rfl
 |p::l=>by rw[Ik,b9.sizes,ZK l,AaJ,HN];omega
theorem Ws(l:List (Int×Int))(hl:I l<=100):(b9.mk 0 (sortV (l.map pV))).size<=301:=by
 grind[b9.size,Aet,AR,ZK]
theorem ApV(s:Int)(l:List (Int×Int))(hl:I l<=100):(b9.mk 0 [.mk s [],.mk 0 (sortV (l.map pV))]).size<=400:=by
 grind[Ws,b9.size,b9.sizes]
theorem vsz(s:Int)(l:List (Int×Int))(hl:I l<=100):(b9.mk 0 [.mk s [],.mk 0 (sortV (l.map pV))]).size<=1000000:=by
 grind[ApV]
theorem Ahe{R:List D->St->Prop}{ks:List KI}{e e':List D}(n:Nat)(x:List D)(F:List V)(_:Nat)(_:(0:Nat)<=0)(_:(0:Nat)=0)(he:D.okNs 3 [] e'=J)(hee:e=D.rens (fun i=>if i<2 then i else i+2) id e')
  (h:A2 (CN 0) PP R ks e' ⟨[G [di 0,.v .nils],G [di 0,.gro 2 n 2],G (Ab F)],[]⟩):A2 (CN 0) PP R ks e ⟨[G [di 0,.v .nils],G [di 0,.gro 4 n 2],none,G x,G (Ab F)],[]⟩:=by
 refine C3 (σ:=⟨[G [di 0,.v .nils],G [di 0,.gro 4 n 2],none,G x,G (Ab F)],[]⟩) (e':=e') (H':=[G [di 0,.v .nils],G [di 0,.gro 2 n 2],G (Ab F)]) (m:=0) (fun _ _ h=>h.2) (fun i=>if i<2 then i else i+2) (Iu _) (fun i hi=>by omega) (fun i j _ _ h=>?_) (fun i cs hi=>?_) he hee h
 ·grind
 ·match i,hi with
  |0,hi=>simp at hi;subst hi;exact⟨rfl,rfl⟩
  |1,hi=>simp at hi;subst hi;exact⟨rfl,rfl⟩
  |2,hi=>
   grind[A7,Ay,Aj]
  |i+3,hi=>grind
theorem AcR{R:List D->St->Prop}{ks:List KI}{e e':List D}(n:Nat)(x:List D)(F:List V)(_:(0:Nat)<=0)(_:(0:Nat)=0)(he:D.okNs 3 [] e'=J)(hee:e=D.rens (fun i=>if i<2 then i else i+1) id e')
  (h:A2 (CN 0) PP R ks e' ⟨[G [di 0,.v .nils],G [di 0,.gro 2 n 2],G (Ab F)],[]⟩):A2 (CN 0) PP R ks e ⟨[G [di 0,.v .nils],G [di 0,.gro 3 n 2],G x,G (Ab F)],[]⟩:=by
 refine C3 (σ:=⟨[G [di 0,.v .nils],G [di 0,.gro 3 n 2],G x,G (Ab F)],[]⟩) (e':=e') (H':=[G [di 0,.v .nils],G [di 0,.gro 2 n 2],G (Ab F)]) (m:=0) (fun _ _ h=>h.2) (fun i=>if i<2 then i else i+1) (Iu _) (fun i hi=>by omega) (fun i j _ _ h=>?_) (fun i cs hi=>?_) he hee h
 ·grind
 ·match i,hi with
  |0,hi=>simp at hi;subst hi;exact⟨rfl,rfl⟩
  |1,hi=>simp at hi;subst hi;exact⟨rfl,rfl⟩
  |2,hi=>
   grind[A7,Ay,Aj]
  |i+3,hi=>grind
noncomputable abbrev Au7:=fun a₀ b₀=>(ab (aa yt 0::ai (ab (ib a₀)::ab (ib b₀)::nV)::nV)::nV)
noncomputable abbrev tv:=fun a₀ b₀=>(ab [vi a₀,ai (ce b₀)])
noncomputable abbrev Awd:=fun a₀ b₀=>(U pV (take (a₀+1) b₀))
theorem Ahf(m:cz)(t:cr)(hm:G2 m t)(s:Int)(l:List (Int×Int))(hl:I l<=100)(v:b9)(b:Bool)(hv:v=.mk 0 [.mk s [],.mk 0 (sortV (l.map pV))])(hb:b=Ah t v)(n:Nat):∀k:Nat,I l- (k+1)=n->k<I l->
  Rn PP r6 0 (.tup [dV v,db b]) ba ([kl ru [1,1,0,1,0,0],.blk 0,kc ru [1,1,1]]++[]) (cy 44 [(1,di s),(3,.v (.ref (A0 m))),(6,.ptr 0 0),(8,.ptr 1 0),(13,A4 l),(14,di (I l)),(15,di (k+1:Nat))]) (xj ((l.take (k+1)).map pV)):=by
 induction n with
 |zero=>
  intro k hn hk
  refine lv 44 [3] (.f<|.h (.q 7 2)<|.h (.ga 34)<|.h (.oc (.tup []) ⟨[G [di 0,.v .nils],G [di 0,.gro 2 (I l) 2],G (Ab ((sortV (l.map pV)).map eV))],[]⟩)<|.h (.q 8 0)<|.h (.cs ⟨[G [di 0,.v .nils],G [di 0,cq (sortV (l.map pV))],none],[]⟩)<|.c (dV v)<|.c (db b) .r) (Y ((↑(k+1):Int)<(I l:Int))=O/\(∀(o:yy) (c:Call) (fo:x8),o.op=Op.call c->c.callee=Callee.value fo->Ai PP o [bt (bw 40 [] []),bo 2 0 (I (U pV (take (k+1) l))),bt (bw 41 [] [])] (xj (U pV (take (k+1) l))) (bk []) (bh [G [di 0,dn],G [di 0,bm 2 (I l) 2],G (Ab (U eV (sortV (U pV l))))] []))/\(∀(e:List D) (E:cd) (g:Gh) (a:Act) (w:x5),FI E g (bh [G [di 0,dn],G [di 0,bm 2 (I l) 2],G (Ab (U eV (sortV (U pV l))))] []) e a w->∃g',FI E g' (bh [G [di 0,dn],G [di 0,cq (sortV (U pV l))],none] []) e a w)/\F0 272 [di s,bt (ai [ab [vi 0,dt (sortV (U pV l))]])] (dV v)/\F0 47 [Ad m,dV v] (db b)/\yo/\bk [bt (ab [vi v.n,ai (U eV v.az)]),db b]=bk [dV v,db b]) ?_
  have hsz:∀x∈l.map pV,x.size<=1000000:=fun x hx=>by obtain⟨p,_,rfl⟩:=I2.1 hx;grind[AaJ]
  have hsl:I (sortV (l.map pV))=I l:=by rw[(AR _).length_eq,HH]
  have hbs:=Ws l hl
  refine⟨yq,fun o cl fo hop hc=>?_,fun e=>?_,?_,hb▸hm.valid v (by grind[vsz]),ym,rfl⟩
  ·have:=JQ (dc:=[.arr 0 0 (I l),dfn 41]) (σ:=xj (l.map pV)) (q:=2) (fs:=[]) (cs:=[]) (ds:=[.arr 2 0 (I (l.map pV)),dfn 41]) hop hc rfl (Ay _) (Ay _) (by rw[HH];exact .arr (.pl rfl .nil)) rfl (by have:=Ge (l.map pV) (by grind) hsz;rwa[HH] at this)
   grind
  ·exact Oy (σ:=⟨[G [di 0,.v .nils],G [di 0,.gro 2 (I l) 2],G (Ab ((sortV (l.map pV)).map eV))],[]⟩) (p:=1) (q:=2) (i:=1) (sz:=2) (cs:=[di 0,.gro 2 (I l) 2]) (xs:=(sortV (l.map pV)).map eV) (by decide) rfl rfl (by decide) (by grind) (Da _) e
  ·rw[hv];exact TU s (.mk 0 (sortV (l.map pV))) (by omega)
 |succ n ih=>
  intro k hn hk
  obtain⟨x,hx⟩:=yk (show k+1<I l by omega)
  refine lv 44 [3] (.t<|.x (cn x)<|.lo [ke 1,ke 3,ke 6,ke 8,ke 13,ke 14,ch 15 (di (k+1+1:Nat))] ⟨[G [di 0,.v .nils],G [di 0,.gro 4 (k+1+1) 2],none,G [di x.1,di x.2],G (Ab (((l.take (k+1+1)).map pV).map eV))],[]⟩) (Y ((↑(k+1):Int)<(I l:Int))=J/\0<=(↑(k+1):Int)/\(U cn l)[Z (↑(k+1):Int)]?=G (cn x)/\iz 0<=0/\0<(↑2:Int)/\iz 0<=1/\1<(↑2:Int)/\I (Ab (U eV (U pV (take (k+1) l))))=I (U pV (take (k+1) l))*2/\[ab [vi 0,ai [ab [vi x.fst,ai []],ab [vi x.snd,ai []]]]]≠ []/\(∀(y:V),y∈ [ab [vi 0,ai [ab [vi x.fst,ai []],ab [vi x.snd,ai []]]]]->V.size y=2)/\Ao (I (U pV (take (k+1) l))+I (ab (aa yt 0::ai (ab (vi x.fst::ai nV::nV)::ab (vi x.snd::ai nV::nV)::nV)::nV)::nV)) 32/\di (yu yt ((↑(k+1):Int)+1))=di (↑(k+1+1):Int)/\cm 5 [] [G [di 0,dn],G [di 0,bm 4 (I (U pV (take (k+1) l))+I (ab (aa yt 0::ai (ab (vi x.fst::ai nV::nV)::ab (vi x.snd::ai nV::nV)::nV)::nV)::nV)) 2],none,G [di x.fst,di x.snd],G (Ab (U eV (U pV (take (k+1) l)))++[di 0,bt (ai [ab [vi x.fst,ai []],ab [vi x.snd,ai []]])])]=J/\[G [di 0,dn],G [di 0,bm 4 (I (U pV (take (k+1) l))+I (ab (aa yt 0::ai (ab (vi x.fst::ai nV::nV)::ab (vi x.snd::ai nV::nV)::nV)::nV)::nV)) 2],none,G [di x.fst,di x.snd],G (Ab (U eV (U pV (take (k+1) l)))++[di 0,bt (ai (ab (vi x.fst::ai nV::nV)::ab (vi x.snd::ai nV::nV)::nV))])]=[G [di 0,dn],G [di 0,bm 4 (k+1+1) 2],none,G [di x.fst,di x.snd],G (Ab (U eV (U pV (take (k+1+1) l))))]/\I0 r6 0 (bk [dV v,db b]) ba [kl ru [1,1,0,1,0,0],bf 0,kc ru [1,1,1]] (cy 44 [(1,di s),(3,bt (bz (A0 m))),(6,bq 0 0),(8,bq 1 0),(13,bt (BV l)),(14,di (I l:Int)),(15,di (↑(k+1+1):Int))]) (bh [G [di 0,dn],G [di 0,bm 4 (k+1+1) 2],none,G [di x.fst,di x.snd],G (Ab (U eV (U pV (take (k+1+1) l))))] [])) ?_
  have hk1:=(HL.1 hx).1
  have ht:l.take (k+1+1)=l.take (k+1)++[x]:=by grind[take_add_one]
  have hpe:bt (ai [ab [vi x.1,ai []],ab [vi x.2,ai []]])=cq (pV x).az:=by
   rfl
  have hf:Ab (((l.take (k+1)).map pV).map eV)++[di 0,bt (ai [ab [vi x.1,ai []],ab [vi x.2,ai []]])]=Ab (((l.take (k+1+1)).map pV).map eV):=by
   rw[hpe,ht,IZ,Hf]
   congr 1
  have hih:=ih (k+1) (by omega) hk1
  have hll:I ((l.take (k+1)).map pV)=k+1:=by grind[List.length_take]
  have hll2:I ((l.take (k+1+1)).map pV)=k+1+1:=by simp_all
  rw[hll,hf]
  refine⟨yr,by omega,Am hx,Il _,by decide,by decide,by decide,by rw[AU,hll],by simp,fun y hy=>by rw[HY.1 hy];rfl,⟨?_,?_⟩,Ae,?_,?_,⟨?_⟩⟩
  ·grind
  ·grind
  ·simp[cm,D.okNs,D.okN,Aj]
  ·rfl
  ·rw[xj,hll2] at hih
   exact Ahe _ _ _ 0 (by decide) rfl (by rfl) (by rfl) hih
def Ek(s:Int)(l:List (Int×Int)):b9:=.mk 0 [.mk s [],.mk 0 (sortV (l.map pV))]
theorem N3(s:Int)(l:List (Int×Int))(hl:I l<=100):(Ek s l).size<=400:=ApV s l hl
theorem Qc(m:cz)(t:cr)(hm:G2 m t)(s:Int)(l:List (Int×Int))(hl:I l<=100):F0 229 [Ad m,di s,A4 l] (.tup [dV (Ek s l),db (Ah t (Ek s l))]):=by
 obtain⟨v,hv⟩:∃v:b9,v=Ek s l:=⟨_,rfl⟩
 rw[←hv]
 unfold Ek at hv
 ·cases l with
  |nil=>
   have hmv:=hm.valid v (by rw[hv];exact vsz s [] hl)
   have hn0:sortV ([].map pV)=[]:=(AR _).eq_nil
   refine sv r6 44 [3] (.n<|.f<|.c (.tup [])<|.c (dV v)<|.c (db (Ah t v)) .r) (Y (0<(I (U cn []):Int))=O/\_/\F0 272 [di s,bt (ai [ab [vi 0,ai []]])] (dV v)/\_/\yo/\Q (bk [dV v,db (Ah t v)])) ⟨by decide,Ml,?_,hmv,ym,rfl⟩
   rw[hv,hn0]
   exact TU s (.mk 0 []) (by decide)
  |cons x l=>
   have hpe:bt (ai [ab [vi x.1,ai []],ab [vi x.2,ai []]])=cq (pV x).az:=by
    show _=bt (.list [eV (.mk x.1 []),eV (.mk x.2 [])])
    rw[AH,AH];rfl
   have hf:[di 0,bt (ai [ab [vi x.1,ai []],ab [vi x.2,ai []]])]=Ab ([pV x].map eV):=by
    rw[hpe,AG];rfl
   have hlp:=Ahf m t hm s (x::l) hl v _ hv rfl _ 0 rfl (by simp)
   refine sv r6 44 [3] (.h (.q 1 0)<|.h .rn<|.n<|.t<|.x (cn x)<|.h (.q 5 11)<|.h .g<|.lo [ke 1,ke 3,ke 6,ke 8,ke 13,ch 14 (di (I (x::l))),ch 15 (di (1:Nat))] ⟨[G [di 0,.v .nils],G [di 0,.gro 3 1 2],G [di x.1,di x.2],G (Ab ([pV x].map eV))],[]⟩) (Y (0<(I (U cn (x::l)):Int))=J/\iz 0<=0/\Q (G (cn x))/\iz 0<=0/\0<(↑2:Int)/\iz 0<=1/\1<(↑2:Int)/\[ab [vi 0,ai (qe x.fst x.snd)]]≠ []/\(∀(y:V),y∈ [ab [vi 0,ai (qe x.fst x.snd)]]->V.size y=2)/\Ao 1 32/\di (I (U cn (x::l)):Int)=di (I (x::l):Int)/\di (yu yt (0+1))=di (↑1:Int)/\cm 4 [] [G [di 0,dn],G [di 0,bm 3 1 2],G [di x.fst,di x.snd],G [di 0,bt (ai (qe x.fst x.snd))]]=J/\Q [G [di 0,dn],G [di 0,bm 3 1 2],G [di x.fst,di x.snd],G [di 0,bt (ai (ab (ib x.fst)::ab (ib x.snd)::nV))]]/\I0 r6 (I ba.H) (bk [dV v,db (Ah t v)]) ba [kl ru ee,bf 0,kc ru [1,1,1]] (cy 44 [(1,di s),(3,bt (gd m)),jh,(8,bq 1 0),(13,A4 (x::l)),(14,di (I (x::l):Int)),(15,di (↑1:Int))]) (bh [G [di 0,dn],G [di 0,bm 3 1 2],G [di x.fst,di x.snd],G [di 0,bt (ai (qe x.fst x.snd))]] [])) ⟨HK (by simp only[HH,HN];omega),Il _,rfl,Il _,by decide,by decide,by decide,by simp,fun y hy=>by rw[HY.1 hy];rfl,⟨by decide,by decide⟩,by rw[HH],Ih di (by decide),rfl,rfl,⟨?_⟩⟩
   rw[hf]
   exact AcR _ _ _ (by decide) rfl (by simp[cy,D.okNs,D.okN]) (by simp[cy,D.rens,D.ren]) hlp
noncomputable abbrev AoK:=Tryz.f268
theorem ZF(m:cz)(t:cr)(hm:mm m t)(c:b9)(hv:Ah t c=J):F0 268 [Ad m,dV c] (di 0):=by
 have h1:=hm.int.valid c (by have:=(hm.shape c hv).size;omega)
 rw[hv] at h1
 exact sv AoK 20 [2,3] (.c (di 0)<|.k<|.f<|.c (db J) .r) (_/\(m.kind !=5)=O/\_/\Q (di 0)) ⟨hm.chk,by rw[hm.kind];rfl,h1,rfl⟩
def Qo(b:b9):List (Int×Int):=b.az.map fun v=>((v.az.getD 0 e6).n,(v.az.getD 1 e6).n)
theorem Py(b:b9):I (Qo b)=I b.az:=HH _
theorem Aa9(b:b9)(h:∀v∈b.az,I v.az=2)(k:Nat)(v:b9)(hk:b.az[k]?=G v):∃a y,v.az[0]?=G a/\v.az[1]?=G y/\(Qo b)[k]?=G (a.n,y.n):=by
 grind[Qo]
def EB(m:cz)(x:Int):Int:=if yu yt (m.age+1)<yu yt (x+1) then yu yt (m.age+1) else yu yt (x+1)
theorem AbJ{l:List (Int×Int)}{k:Nat}{x:Int×Int}(h:l[k]?=G x):(Ab (l.map cn))[k*2+1]?=G (di x.2):=by
 induction l generalizing k with
 |nil=>grind
 |cons y l ih=>
  cases k<;>grind[KS]
theorem Ry{l:List (Int×Int)}{k:Nat}{x:Int×Int}(h:l[k]?=G x)(y:Int):(Ab (l.map cn)).set (k*2+1) (di y)=Ab ((l.set k (x.1,y)).map cn):=by
 induction l generalizing k with
 |nil=>rfl
 |cons z l ih=>
  cases k<;>grind[KS]
noncomputable abbrev Ak6:=Tryz.f215
noncomputable def AkE:=yl Ak6
def fm(m:cz)(ps:List (Int×Int)):List (Int×Int):=ps.map fun p=>(p.1,EB m p.2)
noncomputable abbrev xy:=(TypeInfo.mk (TypeDesc.int yt) "int" 1 8 false 8 8 (G (Value.int yt 0)) true #[])
theorem Aeq(m:cz)(c s0:b9)(h0:c.az[0]?=G s0)(ps:List (Int×Int))(N:Nat)(hpN:I ps=N)(hN:N<=100)(v:b9)(b:Bool)(v2:F0 229 [Ad m,di s0.n,A4 (fm m ps)] (.tup [dV v,db b]))(n:Nat):∀(k:Nat) (l:List (Int×Int)),N-k=n->I l=N->(∀i:Nat,l[i]?=if i<k then(fm m ps)[i]? else ps[i]?)->
  Rn PP Ak6 0 (.tup [dV v,di 0]) ba ([kl AkE [1,1,1,0,1,0,0],.blk 0,kc AkE [1,1,1,1]]++[]) (cy 52 [(2,.v (.ref (A0 m))),(3,.v (.ref (Ac c))),(4,.ptr 0 0),(7,.arr 1 0 N),(21,di N),(22,di k)]) ⟨[G [di 0,.v .nils],G (Ab (l.map cn))],[]⟩:=by
 induction n with
 |zero=>
  intro k l hn hl hi
  have e:l=fm m ps:=ext_getElem? fun i=>by
   grind[fm]
  rw[←e] at v2
  clear hi e
  exact lv 52 [2,3] (.h (.q 6 0)<|.h (.ct 7 (A4 l) ⟨[G [di 0,.v .nils],none],[]⟩)<|.f<|.h (.dr 11)<|.h (.xs (Ac s0))<|.c (.tup [dV v,db b]) .r) ((∀(e:List D),e[7]?=G (bo 1 0 N)->∀(E:cd) (g:Gh) (a:Act) (w:x5),FI E g (bh [G [di 0,dn],G (Ab (U cn l))] []) e a w->∃g',FI E g' (bh [G [di 0,dn],none] []) (List.set e 7 (A4 l)) a w)/\Y ((k:Int)<(N:Int))=O/\Q 2/\iz 0<=0/\(ce c.az)[Z 0]?=G (Ac s0)/\_/\Q [bh [G [di 0,dn],none,G [di 0,dn]] []]/\True/\Q (bk [dV v,di 0])) ⟨fun e he=>Ox (σ:=⟨[G [di 0,.v .nils],G (Ab (l.map cn))],[]⟩) (q:=1) (sz:=2) (by decide) (QD _) (by grind) rfl he,yq,rfl,Il _,Ap (i:=0) h0,v2,rfl,trivial,rfl⟩
 |succ n ih=>
  intro k l hn hl hi
  obtain⟨x,hx⟩:=yk (show k<I l by omega)
  have v2:=ih (k+1) (l.set k (x.1,EB m x.2)) (by omega) (by rw[length_set];exact hl) (fun i=>by
   have hx':=hi k
   rw[hx,HZ (Nat.lt_irrefl k)] at hx'
   by_cases hik:i=k
   ·subst hik
    rw[List.getElem?_set_self (by omega),Ie (Nat.lt_succ_self i),fm,I1, ←hx'];rfl
   ·rw[List.getElem?_set_ne (fun h=>hik h.symm),hi i]
    by_cases h1:i<k
    ·rw[Ie h1,Ie (by omega)]
    ·rw[HZ h1,HZ (by omega)])
  have e1:0+Z (k:Int)*2+Z 1*1=k*2+1:=by omega
  refine lv 52 [2,3] (.t<|.m (di x.2)<|.w<|.lo [ke 2,ke 3,ke 4,ke 7,ke 21,ch 22 (di (k+1:Nat))] ⟨[G [di 0,.v .nils],G (Ab ((l.set k (x.1,EB m x.2)).map cn))],[]⟩) (Y ((k:Int)<(N:Int))=J/\0<=(k:Int)/\(k:Int)<(N:Int)/\iz 0<=1/\1<(↑2:Int)/\(Ab (U cn l))[0+Z (k:Int)*2+Z 1*(1,match xy.desc with|TypeDesc.struct fields=>true|TypeDesc.array len elem=>true|x=>false).fst]?=G (di x.snd)/\0<=(k:Int)/\(k:Int)<(N:Int)/\iz 0<=1/\1<(↑2:Int)/\0+Z (k:Int)*2+Z 1*(1,match xy.desc with|TypeDesc.struct fields=>true|TypeDesc.array len elem=>true|x=>false).fst<I (Ab (U cn l))/\yp/\di (yu yt ((k:Int)+1))=di (↑(k+1):Int)/\cm 2 [] [G [di 0,dn],G (List.set (Ab (U cn l)) (0+Z (k:Int)*2+Z 1*(1,match xy.desc with|TypeDesc.struct fields=>true|TypeDesc.array len elem=>true|x=>false).fst) (di (if yu yt (m.age+1)<yu yt (x.snd+1) then yu yt (m.age+1) else yu yt (x.snd+1))))]=J/\[G [di 0,dn],G (List.set (Ab (U cn l)) (0+Z (k:Int)*2+Z 1*(1,match xy.desc with|TypeDesc.struct fields=>true|TypeDesc.array len elem=>true|x=>false).fst) (di (if yu yt (m.age+1)<yu yt (x.snd+1) then yu yt (m.age+1) else yu yt (x.snd+1))))]=[G [di 0,dn],G (Ab (U cn (List.set l k (x.fst,EB m x.snd))))]/\_) ⟨yr,by omega,by omega,by decide,by decide,?_,by omega,by omega,by decide,by decide,?_,yn,Ae,?_,?_,iK v2⟩
  ·show(Ab (l.map cn))[0+Z (k:Int)*2+Z 1*1]?=_
   rw[e1];exact AbJ hx
  ·show 0+Z (k:Int)*2+Z 1*1<_
   rw[e1,MU];omega
  ·show cm 2 [] [G [di 0,bt bv],G ((Ab (l.map cn)).set (0+Z (k:Int)*2+Z 1*1) (di (EB m x.2)))]=J
   rw[e1,Ry hx];simp[cm,D.okNs,D.okN,Aj]
  grind[EB,Ry]
def nu(m:cz)(c:b9):b9:=Ek (c.az.getD 0 e6).n (fm m (Qo (c.az.getD 1 e6)))
theorem UD(m:cz)(t:cr)(hm:mm m t)(c:b9)(hv:Ah t c=J):(nu m c).size<=1000/\F0 215 [Ad m,dV c] (.tup [dV (nu m c),di 0]):=by
 have hsh:=hm.shape c hv
 have hck:=ZF m t hm c hv
 obtain⟨s0,h0⟩:∃x,c.az[0]?=G x:=⟨_,HI (by rw[hsh.len];omega)⟩
 obtain⟨b,hb⟩:∃x,c.az[1]?=G x:=⟨_,HI (by rw[hsh.len];omega)⟩
 have hb12:=hsh.few b hb
 have hpl:=Py b
 have hol:I (fm m (Qo b))=I b.az:=by grind[fm]
 have e0:c.az.getD 0 e6=s0:=by grind
 have e1:c.az.getD 1 e6=b:=by grind
 rw[nu,e0,e1]
 have v1:=N3 s0.n (fm m (Qo b)) (by omega)
 have v2:=Qc m t hm.int s0.n (fm m (Qo b)) (by omega)
 refine⟨by omega,?_⟩
 generalize Ek s0.n (fm m (Qo b))=v at v1 v2⊢
 generalize Ah t v=x at v2
 by_cases hn:b.az=[]
 ·have ht:=UB c b hb (by omega) [] (by grind) (fun k v hk=>by grind)
  rw[show fm m (Qo b)=[] by grind] at v2
  exact sv Ak6 52 [2,3] (.c (di 0)<|.k<|.c (A4 [])<|.n<|.f<|.h (.dr 11)<|.h (.xs (Ac s0))<|.c (.tup [dV v,db x]) .r) (_/\_/\Y (0<(I (U cn []):Int))=O/\Q 2/\iz 0<=0/\(ce c.az)[Z 0]?=G (Ac s0)/\_/\Q [bh [G [di 0,dn],G [di 0,dn]] []]/\True/\Q (bk [dV v,di 0])) ⟨hck,ht,rfl,rfl,Il _,Ap (i:=0) h0,v2,rfl,trivial,rfl⟩
 ·have ht:=ZA c b hb (by omega) hn (Qo b) hpl (Aa9 b fun v hv=>hsh.toks b v hb hv)
  have v3:=Aeq m c s0 h0 (Qo b) (I (Qo b)) rfl (by omega) v x v2 _ 0 (Qo b) rfl rfl (fun i=>by rfl)
  clear v2
  generalize Qo b=ps at ht v3
  exact sv Ak6 52 [2,3] (.c (di 0)<|.k<|.h (.oc (.arr 1 0 (I ps)) ⟨[G [di 0,.v .nils],G (Ab (ps.map cn))],[]⟩)<|.lo [ke 2,ke 3,ke 4,ke 7,ch 21 (di (I ps)),ch 22 (di (0:Nat))] ⟨[G [di 0,.v .nils],G (Ab (ps.map cn))],[]⟩) (_/\(N0 [bt (bw 227 [] []),dV c] tz (bo 1 0 (I ps)) (bh [G [di 0,dn],G (Ab (U cn ps))] []))/\Q (di (I ps:Int))/\Q (di 0)/\cm 2 [] [G [di 0,dn],G (Ab (U cn ps))]=J/\Q [G [di 0,dn],G (Ab (U cn ps))]/\_) ⟨hck,fun o cl fo ho hc=>D4 (σ:=⟨[G [di 0,.v .nils]],[]⟩) (fs:=[]) (cs:=[]) (ds:=[dV c]) ho hc rfl (Ay _) ht,rfl,rfl,by simp[cm,D.okNs,D.okN,Aj],rfl,iK v3⟩
theorem Adv(l:List b9):I (Ab (l.map eV))=I l*2:=AU l
theorem Ev{l:List b9}{i:Nat}{x:b9}(h:l[i]?=G x):i*2+2<=I (Ab (l.map eV)):=by
 grind[AU]
theorem FO{l:List b9}{i:Nat}{x:b9}(h:l[i]?=G x):((Ab (l.map eV)).drop (i*2)).take 2=[.v (vi x.n),.v (dt x.az)]:=Ep h
theorem W3:∀(l:List b9) (k:Nat),(Ab (l.map eV)).take (k*2)=Ab ((l.take k).map eV)
 |[],k=>by simp[Ab]
 |v::l,0=>rfl
 |v::l,k+1=>by
  rw[AG,List.take_succ_cons,AG, ←W3 l k,show(k+1)*2=k*2+1+1 by omega];rfl
theorem Ql:∀(l:List b9) (k:Nat) (x:b9) (_:k<I l),(Ab (l.map eV)).take (k*2)++[bt (vi x.n),bt (dt x.az)]++(Ab (l.map eV)).drop (k*2+2)=Ab ((l.set k x).map eV)
 |v::l,0,x,_=>by grind[AG]
 |v::l,k+1,x,h=>by
  rw[Jn,AG,AG, ←Ql l k x (by grind),show(k+1)*2=k*2+1+1 by omega];rfl
theorem Ah6(k:Nat):(((replicate k [vi 0,bv]).flatten.map bt).all D.one)=J:=by
 induction k with
 |zero=>rfl
 |succ k ih=>simp only[IC,List.flatten_cons,IZ,List.all_append,ih];rfl
theorem AeE:BS PP 29=G (31,2,32,G (.agg #[.int .i64 0,.slice none 0 0])):=by kernel_rfl
theorem TR(l:List V){R:List D}(h:D.pls R=J):D.pls (Ab l++R)=J:=by grind[Du,Ay]
noncomputable abbrev mw:=Tryz.f224
noncomputable def Fv:=yl mw
noncomputable abbrev Asq:=[kl Fv [1,1,0,1,0,0,1,0,0,1,0,1,0,1,0,0],bf 2,kc Fv [1,1,0,1,0,0,1,0,0,1,0,1,1],bf 1,kc Fv [1,1,0,1,0,0,1,1],kl Fv ee,bf 0,kc Fv [1,1,1]]
theorem Aoa(F:yx)(l:List b9)(q:b9->b9->Bool)(hl:I l<=1000)(hq:∀x∈l,∀y∈l,F0 F [dV x,dV y] (db (q x y)))(k0:Nat)(h0:1<=k0)(h1:k0<I l)(n:Nat):∀(k j:Nat) (A:List b9),I l-k0-j=n->1<=k->1<=j->k<k0+j->j<=I l-k0->I A=I l->(∀x∈A,x∈l)->(∀i:Nat,k0+j-1<=i->A[i]?=l[i]?)->(∀p,l[k0+j-1]?=G p->A.take k++Cf q p (l.drop (k0+j))=AM q l)->
  ∃(ys:List b9) (R:List D),ys=AM q l/\D.pls R=J/\R.all D.one=J/\Rn PP mw 1 (.arr 0 0 (I ys)) ⟨[G (Ab (ys.map eV)++R)],[]⟩ ([kl Fv [1,1,0,1,0,0,1,0,0,1,0,1,0,1,0,0],.blk 2,kc Fv [1,1,0,1,0,0,1,0,0,1,0,1,1],.blk 1,kc Fv [1,1,0,1,0,0,1,1],kl Fv [1,1,0,1,0,0],.blk 0,kc Fv [1,1,1]]++[]) (cy 66 [(0,.arr 0 0 (I l)),(1,dfn F),(5,di k),(6,.arr 0 (k0*2) (I l-k0)),(7,di j)]) ⟨[G (Ab (A.map eV))],[]⟩:=by
 induction n with
 |zero=>
  intro k j A hn hk hj hkj hjl hA hAl hAe hT
  refine⟨A.take k,(replicate (I l-k) [vi 0,bv]).flatten.map .v,?_,?_,?_,?_⟩
  ·obtain⟨p,hp⟩:∃p,l[k0+j-1]?=G p:=⟨_,HI (by omega)⟩
   have:=hT p hp
   rw[Ic (by omega),Cf,I8] at this
   omega
  ·exact Ca _
  ·exact Ah6 _
  have hkl:k<I l:=by omega
  have hsl:∀(o:yy) (x:x8) (y:x8) (τ:St),o.op=.slice 29 x (G y) none none->Ai PP o [.arr 0 0 (I l),di k] τ (.arr 0 (k*2) (I l-k)) τ:=fun o x y τ ho=>by
   have:=CU (P:=PP) (o:=o) (σ:=τ) ho AeE (q:=0) (off:=0) (len:=I l) (G (.i64,(k:Int))) none rfl rfl (l':=k) (h':=I l) (by grind[C8]) hkl
   rwa[I4] at this
  have hsh:∀(o:yy) (x:x8) (y:x8) (τ:St),o.op=.slice 29 x none (G y) none->Ai PP o [.arr 0 0 (I l),di k] τ (.arr 0 0 k) τ:=fun o x y τ ho=>by
   have:=CU (P:=PP) (o:=o) (σ:=τ) ho AeE (q:=0) (off:=0) (len:=I l) none (G (.i64,(k:Int))) rfl rfl (l':=0) (h':=k) (by grind[C8]) (by omega)
   rwa[Nat.zero_mul,IG,Nat.sub_zero] at this
  have hfl:I (Ab (A.map eV))=I l*2:=by rw[Adv,hA]
  have hcl:=fun(o:yy) (x:x8) (ho:o.op=.call { callee:=.builtin .clear,args:= #[x],argTypes:= #[29]})=>M7 (P:=PP) (o:=o) (σ:=⟨[G (Ab (A.map eV))],[]⟩) ho AeE (zs:=[vi 0,.nils]) rfl rfl (q:=0) (off:=k*2) (len:=I l-k) rfl (by omega) (by omega)
  have hd:(Ab (A.map eV)).drop (k*2+(I l-k)*2)=[]:=Ic (by omega)
  have htk:(Ab (A.map eV)).take (k*2)=Ab ((A.take k).map eV):=W3 A k
  rw[hd,htk,I8] at hcl
  refine lv 66 [] (.f<|.h (.q 14 2)<|.h (.o (.arr 0 (k*2) (I l-k)) ⟨[G (Ab (A.map eV))],[]⟩)<|.h (.o (.tup []) ⟨[G (Ab ((A.take k).map eV)++(replicate (I l-k) [vi 0,bv]).flatten.map .v)],[]⟩)<|.h (.q 15 2)<|.h (.o (.arr 0 0 k) ⟨[G (Ab ((A.take k).map eV)++(replicate (I l-k) [vi 0,bv]).flatten.map .v)],[]⟩) .ro) (Y ((j:Int)<(↑(I l-k0):Int))=O/\Ai PP (Oper.mk (G 61) (Op.slice 29 (Operand.tmp 59) (G (Operand.tmp 60)) none none) 29 "slices.go:410" #[Edge.mk 0 Ground.data,Edge.mk 1 Ground.data] none) [bo 0 0 (I l),di (k:Int)] (tw A) (bo 0 (k*2) (I l-k)) (tw A)/\Ai PP (Oper.mk none (Op.call (Call.mk (Callee.builtin Builtin.clear) #[Operand.tmp 61] #[29])) 0 "slices.go:410" #[Edge.mk 2 Ground.data] none) [bo 0 (k*2) (I l-k)] (tw A) (bk []) (bh [G (Ab (jk k A)++U bt (flatten (replicate (I l-k) [vi 0,bv])))] [])/\Ai PP (Oper.mk (G 64) (Op.slice 29 (Operand.tmp 62) none (G (Operand.tmp 63)) none) 29 "slices.go:411" #[Edge.mk 0 Ground.data,Edge.mk 1 Ground.data] none) [bo 0 0 (I l),di (k:Int)] (bh [G (Ab (jk k A)++U bt (flatten (replicate (I l-k) [vi 0,bv])))] []) (bo 0 0 k) (bh [G (Ab (jk k A)++U bt (flatten (replicate (I l-k) [vi 0,bv])))] [])/\cm 1 [] [G (Ab (jk k A)++U bt (flatten (replicate (I l-k) [vi 0,bv])))]=J/\Q [G (Ab (jk k A)++U bt (flatten (replicate (I l-k) (vi 0::bv::nV))))]/\bo 0 0 k=bo 0 0 (I (take k A))) ⟨yq,hsl _ _ _ _ rfl,hcl _ _ rfl,hsh _ _ _ _ rfl,?_,rfl,by grind⟩
  exact Ia.2 ⟨AO (TR _ (Ca _)),rfl⟩
 |succ n ih=>
  intro k j A hn hk hj hkj hjl hA hAl hAe hT
  obtain⟨x,hx⟩:=yk (show k0+j<I A by omega)
  obtain⟨y,hy⟩:=yk (show k0+j-1<I A by omega)
  have hc:=hq x (hAl x (HO hx)) y (hAl y (HO hy))
  have hw1:yt.wrap ((j:Int)-1)=((j-1:Nat):Int):=by rw[Ak];omega
  have hT':=hT y (by grind)
  have hx':l[k0+j]?=G x:=by grind
  rw[da hx',Cf] at hT'
  cases hb:q x y with
  |true=>
   rw[hb] at hc
   obtain⟨ys,R,r1,r3,r5,r4⟩:=ih k (j+1) A (by omega) hk (by omega) (by omega) (by omega) hA hAl (fun i hi=>hAe i (by omega)) (fun p hp=>by
    grind)
   refine⟨ys,R,r1,r3,r5,?_⟩
   refine lv 66 [] (.t<|.m (dV x)<|.m (dV y)<|.c (db J)<|.lo [ke 0,ke 1,ke 5,ke 6,ch 7 (di (j+1:Nat))] ⟨[G (Ab (A.map eV))],[]⟩) (Y ((j:Int)<(↑(I l-k0):Int))=J/\0<=(j:Int)/\(j:Int)<(↑(I l-k0):Int)/\k0*2+Z (j:Int)*2+2<=I (ej A)/\take 2 (W (k0*2+Z (j:Int)*2) (ej A))=(dp x.n x.az)/\0<=yu yt ((j:Int)-1)/\yu yt ((j:Int)-1)<(↑(I l-k0):Int)/\k0*2+Z (yu yt ((j:Int)-1))*2+2<=I (ej A)/\take 2 (W (k0*2+Z (yu yt ((j:Int)-1))*2) (ej A))=(dp y.n y.az)/\F0 F [dV x,dV y] (db J)/\yo/\di (yu yt ((j:Int)+1))=di (↑(j+1):Int)/\cm 1 [] [G (ej A)]=J/\Q [G (ej A)]/\I0 mw 1 (bo 0 0 (I ys)) (bh [G (Ab (U eV ys)++R)] []) Asq (cy 66 [(0,bo 0 0 (I l)),(oz F),(5,di (k:Int)),(6,bo 0 (k0*2) (I l-k0)),(7,di (↑(j+1):Int))]) (tw A)) ?_
   rw[hw1]
   refine⟨yr,by omega,by omega,by rw[show k0*2+Z (j:Int)*2=(k0+j)*2 by omega];have:=Ev hx;omega,by rw[show k0*2+Z (j:Int)*2=(k0+j)*2 by omega];exact FO hx,by omega,by omega,by rw[show k0*2+Z ((j-1:Nat):Int)*2=(k0+j-1)*2 by omega];have:=Ev hy;omega,by rw[show k0*2+Z ((j-1:Nat):Int)*2=(k0+j-1)*2 by omega];exact FO hy,hc,ym,Ae,Ia.2 ⟨Aj 1 [] _,rfl⟩,rfl,⟨r4⟩⟩
  |false=>
   rw[hb] at hc
   have hA2:∀z∈A.set k x,z∈l:=fun z hz=>by
    grind
   obtain⟨ys,R,r1,r3,r5,r4⟩:=ih (k+1) (j+1) (A.set k x) (by omega) (by omega) (by omega) (by omega) (by omega) (by grind) hA2 (fun i hi=>by grind[List.getElem?_set_ne]) (fun p hp=>by
    grind[JI])
   refine⟨ys,R,r1,r3,r5,?_⟩
   refine lv 66 [] (.t<|.m (dV x)<|.m (dV y)<|.c (db O)<|.m (dV x)<|.h .ww<|.lo [ke 0,ke 1,ch 5 (di (k+1:Nat)),ke 6,ch 7 (di (j+1:Nat))] ⟨[G (Ab ((A.set k x).map eV))],[]⟩) (Y ((j:Int)<(↑(I l-k0):Int))=J/\0<=(j:Int)/\(j:Int)<(↑(I l-k0):Int)/\k0*2+Z (j:Int)*2+2<=I (ej A)/\take 2 (W (k0*2+Z (j:Int)*2) (ej A))=(dp x.n x.az)/\0<=yu yt ((j:Int)-1)/\yu yt ((j:Int)-1)<(↑(I l-k0):Int)/\k0*2+Z (yu yt ((j:Int)-1))*2+2<=I (ej A)/\take 2 (W (k0*2+Z (yu yt ((j:Int)-1))*2) (ej A))=(dp y.n y.az)/\F0 F [dV x,dV y] (db O)/\yo/\0<=(j:Int)/\(j:Int)<(↑(I l-k0):Int)/\k0*2+Z (j:Int)*2+2<=I (ej A)/\take 2 (W (k0*2+Z (j:Int)*2) (ej A))=(dp x.n x.az)/\0<=(k:Int)/\(k:Int)<(I l:Int)/\0+Z (k:Int)*2+2<=I (ej A)/\di (yu yt ((k:Int)+1))=di (↑(k+1):Int)/\di (yu yt ((j:Int)+1))=di (↑(j+1):Int)/\cm 1 [] [G (take (0+Z (k:Int)*2) (ej A)++(dp x.n x.az)++W (0+Z (k:Int)*2+2) (ej A))]=J/\[G (take (0+Z (k:Int)*2) (ej A)++(dp x.n x.az)++W (0+Z (k:Int)*2+2) (ej A))]=[G (Ab (U eV (List.set A k x)))]/\I0 mw 1 (bo 0 0 (I ys)) (bh [G (Ab (U eV ys)++R)] []) Asq (cy 66 [(0,bo 0 0 (I l)),(oz F),(5,di (↑(k+1):Int)),(6,bo 0 (k0*2) (I l-k0)),(7,di (↑(j+1):Int))]) (bh [G (Ab (U eV (List.set A k x)))] [])) ?_
   rw[hw1]
   refine⟨yr,by omega,by omega,by rw[show k0*2+Z (j:Int)*2=(k0+j)*2 by omega];have:=Ev hx;omega,by rw[show k0*2+Z (j:Int)*2=(k0+j)*2 by omega];exact FO hx,by omega,by omega,by rw[show k0*2+Z ((j-1:Nat):Int)*2=(k0+j-1)*2 by omega];have:=Ev hy;omega,by rw[show k0*2+Z ((j-1:Nat):Int)*2=(k0+j-1)*2 by omega];exact FO hy,hc,ym,by omega,by omega,by rw[show k0*2+Z (j:Int)*2=(k0+j)*2 by omega];have:=Ev hx;omega,by rw[show k0*2+Z (j:Int)*2=(k0+j)*2 by omega];exact FO hx,by omega,by omega,by rw[Adv];omega,Ae,Ae,?_,?_,⟨r4⟩⟩
   ·grind[Ql,Aj,cm]
   grind[Z,Ql]
theorem Akx(F:yx)(l:List b9)(q:b9->b9->Bool)(hl:I l<=1000)(hq:∀x∈l,∀y∈l,F0 F [dV x,dV y] (db (q x y)))(n:Nat):∀(k:Nat),I l-k=n->1<=k->k<=I l->(∀p,l[k-1]?=G p->l.take k++Cf q p (l.drop k)=AM q l)->
  ∃(ys:List b9) (R:List D),ys=AM q l/\D.pls R=J/\R.all D.one=J/\Rn PP mw 1 (.arr 0 0 (I ys)) ⟨[G (Ab (ys.map eV)++R)],[]⟩ ([kl Fv [1,1,0,1,0,0],.blk 0,kc Fv [1,1,1]]++[]) (cy 66 [(0,.arr 0 0 (I l)),(1,dfn F),(5,di k)]) ⟨[G (Ab (l.map eV))],[]⟩:=by
 induction n with
 |zero=>
  intro k hn hk hkl hT
  refine⟨l,[],?_,rfl,rfl,?_⟩
  ·obtain⟨p,hp⟩:∃p,l[k-1]?=G p:=⟨_,HI (by omega)⟩
   have:=hT p hp
   rw[Ic (by omega),Cf,I8,Im (by omega)] at this
   omega
  refine lv 66 [] (.f .ro) (Y ((k:Int)<(I l:Int))=O/\cm 1 [] [G (Ab (U eV l))]=J/\[G (Ab (U eV l))]=[G (Ab (U eV l)++[])]/\Q (bo 0 0 (I l))) ?_
  grind[Aj,cm]
 |succ n ih=>
  intro k hn hk hkl' hT
  obtain⟨x,hx⟩:=yk (show k<I l by omega)
  obtain⟨y,hy⟩:=yk (show k-1<I l by omega)
  have hc:=hq x (HO hx) y (HO hy)
  have hkl:k<I l:=by omega
  have hw1:yt.wrap ((k:Int)-1)=((k-1:Nat):Int):=by grind[Ak]
  have hT':=hT y hy
  rw[da hx,Cf] at hT'
  cases hb:q x y with
  |true=>
   rw[hb] at hc
   obtain⟨ys,R,r1,r3,r5,r4⟩:=Aoa F l q hl hq k hk (by omega) _ k 1 l rfl hk (by omega) (by omega) (by omega) rfl (fun x h=>h) (fun _ _=>rfl) (fun p hp=>by
    grind)
   refine⟨ys,R,r1,r3,r5,?_⟩
   refine lv 66 [] (.t<|.m (dV x)<|.m (dV y)<|.c (db J)<|.k<|.h (.q 7 2)<|.h (.o (.arr 0 (k*2) (I l-k)) ⟨[G (Ab (l.map eV))],[]⟩)<|.lo [ke 0,ke 1,ke 5,ke 6,ch 7 (di (1:Nat))] ⟨[G (Ab (l.map eV))],[]⟩) (Y ((k:Int)<(I l:Int))=J/\0<=(k:Int)/\(k:Int)<(I l:Int)/\0+Z (k:Int)*2+2<=I (Ab (U eV l))/\take 2 (W (0+Z (k:Int)*2) (Ab (U eV l)))=[di x.n,cq x.az]/\0<=yu yt ((k:Int)-1)/\yu yt ((k:Int)-1)<(I l:Int)/\0+Z (yu yt ((k:Int)-1))*2+2<=I (Ab (U eV l))/\take 2 (W (0+Z (yu yt ((k:Int)-1))*2) (Ab (U eV l)))=[di y.n,cq y.az]/\F0 F [dV x,dV y] (db J)/\yo/\Ai PP (Oper.mk (G 31) (Op.slice 29 (Operand.tmp 29) (G (Operand.tmp 30)) none none) 29 "slices.go:402" #[Edge.mk 0 Ground.data,Edge.mk 1 Ground.data] none) [bo 0 0 (I l),di (k:Int)] (bh [G (Ab (U eV l))] []) (bo 0 (k*2) (I l-k)) (bh [G (Ab (U eV l))] [])/\di 1=di (↑1:Int)/\cm 1 [] [G (Ab (U eV l))]=J/\Q [G (Ab (U eV l))]/\I0 mw 1 (bo 0 0 (I ys)) (bh [G (Ab (U eV ys)++R)] []) [kl Fv [1,1,0,1,0,0,1,0,0,1,0,1,0,1,0,0],bf 2,kc Fv [1,1,0,1,0,0,1,0,0,1,0,1,1],bf 1,kc Fv [1,1,0,1,0,0,1,1],kl Fv [1,1,0,1,0,0],bf 0,kc Fv [1,1,1]] (cy 66 [(0,bo 0 0 (I l)),(1,bt (bw F [] [])),(5,di (k:Int)),(6,bo 0 (k*2) (I l-k)),(7,di (↑1:Int))]) (bh [G (Ab (U eV l))] [])) ?_
   have hsl:∀(o:yy) (x:x8) (y:x8) (τ:St),o.op=.slice 29 x (G y) none none->Ai PP o [.arr 0 0 (I l),di k] τ (.arr 0 (k*2) (I l-k)) τ:=fun o x y τ ho=>by
    have:=CU (P:=PP) (o:=o) (σ:=τ) ho AeE (q:=0) (off:=0) (len:=I l) (G (.i64,(k:Int))) none rfl rfl (l':=k) (h':=I l) (by simp[C8];omega) hkl
    rwa[I4] at this
   rw[hw1]
   exact⟨yr,by omega,by omega,by have:=Ev hx;omega,by grind[Int.toNat,FO],by omega,by omega,by have:=Ev hy;omega,by grind[Int.toNat,FO],hc,ym,hsl _ _ _ _ rfl,rfl,Ia.2 ⟨Aj 1 [] _,rfl⟩,rfl,⟨r4⟩⟩
  |false=>
   rw[hb] at hc
   obtain⟨ys,R,r1,r3,r5,r4⟩:=ih (k+1) (by omega) (by omega) (by omega) (fun p hp=>by
    grind[take_add_one])
   refine⟨ys,R,r1,r3,r5,?_⟩
   refine lv 66 [] (.t<|.m (dV x)<|.m (dV y)<|.c (db O)<|.lo [ke 0,ke 1,ch 5 (di (k+1:Nat))] ⟨[G (Ab (l.map eV))],[]⟩) (Y ((k:Int)<(I l:Int))=J/\0<=(k:Int)/\(k:Int)<(I l:Int)/\0+Z (k:Int)*2+2<=I (Ab (U eV l))/\take 2 (W (0+Z (k:Int)*2) (Ab (U eV l)))=[di x.n,cq x.az]/\0<=yu yt ((k:Int)-1)/\yu yt ((k:Int)-1)<(I l:Int)/\0+Z (yu yt ((k:Int)-1))*2+2<=I (Ab (U eV l))/\take 2 (W (0+Z (yu yt ((k:Int)-1))*2) (Ab (U eV l)))=[di y.n,cq y.az]/\F0 F [dV x,dV y] (db O)/\yo/\di (yu yt ((k:Int)+1))=di (↑(k+1):Int)/\cm 1 [] [G (Ab (U eV l))]=J/\Q [G (Ab (U eV l))]/\I0 mw 1 (bo 0 0 (I ys)) (bh [G (Ab (U eV ys)++R)] []) [kl Fv [1,1,0,1,0,0],bf 0,kc Fv [1,1,1]] (cy 66 [(0,bo 0 0 (I l)),(1,bt (bw F [] [])),(5,di (↑(k+1):Int))]) (bh [G (Ab (U eV l))] [])) ?_
   rw[hw1]
   exact⟨yr,by omega,by omega,by have:=Ev hx;omega,by grind[Int.toNat,FO],by omega,by omega,by have:=Ev hy;omega,by grind[Int.toNat,FO],hc,ym,Ae,Ia.2 ⟨Aj 1 [] _,rfl⟩,rfl,⟨r4⟩⟩
theorem Aob(F:yx)(l:List b9)(q:b9->b9->Bool)(hl:I l<=1000)(hq:∀x∈l,∀y∈l,F0 F [dV x,dV y] (db (q x y))):
  ∃R:List D,D.pls R=J/\R.all D.one=J/\Aa PP 224 [.arr 0 0 (I l),dfn F] ⟨[G (Ab (l.map eV))],[]⟩ (.arr 0 0 (I (AM q l))) ⟨[G (Ab ((AM q l).map eV)++R)],[]⟩:=by
 by_cases h2:I l<2
 ·refine⟨[],rfl,rfl,?_⟩
  rw[K1 q h2]
  exact sv mw 66 [] (.t .ro) (Y ((I l:Int)<2)=J/\cm 1 [] [G (ej l)]=J/\[G (ej l)]=[G (Ab (U eV l)++[])]/\Q (bo 0 0 (I l))) ⟨yr,Ia.2 ⟨Aj 1 [] _,rfl⟩,by rw[I8],rfl⟩
 ·obtain⟨ys,R,r1,r3,r5,r4⟩:=Akx F l q hl hq _ 1 rfl (HP _) (by omega) (fun p hp=>Ns hp)
  subst r1
  refine⟨R,r3,r5,?_⟩
  exact sv mw 66 [] (.f<|.lo [ke 0,ke 1,ch 5 (di (1:Nat))] ⟨[G (Ab (l.map eV))],[]⟩) (Y ((I l:Int)<2)=O/\Q (di 1)/\cm 1 [] [G (ej l)]=J/\Q [G (ej l)]/\_) ⟨yq,rfl,Ia.2 ⟨Aj 1 [] _,rfl⟩,rfl,iK r4⟩
end Go.Proofs.YtkkplhjidondkaaGreat
