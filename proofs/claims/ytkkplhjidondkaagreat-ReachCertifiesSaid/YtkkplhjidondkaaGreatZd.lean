/-
  A part of the proof.
-/
import Derived.Test.YtkkplhjidondkaaGreatZc
import Derived.Shelf.SlSortCmp.WholeK
import Derived.Shelf.SlGeneric
import Derived.Ground.SlsfProg
import Derived.Shelf.SlSortCmp.Whole1
namespace Go.Proofs.YtkkplhjidondkaaGreat
open Go.Dv Go.Nv
set_option maxRecDepth 20000
open List (all_cons drop_of_length_le replicate take zipWith)
open Go.IntKind (u64)
open Go.IntKind renaming wrap → yu, i64 → yt
open List renaming length → I, map → U, drop → W
open Option renaming some → G
open Bool renaming true → J, false → O
open Decidable renaming decide → Y
open Int renaming toNat → Z
open Go.Dv.V renaming list → ai, str → ae, agg → ab, int → aa, ref → bz, fn → bw, nils → bv, bool → bu
open Go.Dv.D renaming v → bt, acc → br, ptr → bq, arr → bo, gro → bm, tup → bk, undef → bj, dagg → bi
open Go.Dv.St renaming mk → bh
open Go.Dv.KI renaming blk → bf
open _root_.ByteArray renaming mk → bc
open Go renaming Operand → x8, Program → x7, TypeId → x6, World → x5, Value → yz, Oper → yy, FuncId → yx, Func → yw, IntKind → yv
theorem AhQ:∀(l u:List (List UInt8)),iy u l=J->(∀s∈l,Ey s=J/\X9 s=O/\u.contains s=O)/\l.Nodup
 |[],_,_=>⟨fun s hs=>absurd hs (by simp),List.nodup_nil⟩
 |x::l,u,h=>by
  simp only[iy,HJ,IA] at h
  obtain⟨h1,h2,h3,h4⟩:=h
  obtain⟨h5,h6⟩:=AhQ l (u++[x]) h4
  grind
noncomputable abbrev F4:=Tryz.f105
noncomputable def BZ:=yl F4
noncomputable abbrev Avg:=[kl BZ [1,1,1,0,1,0,0,1,0,0,1,1,0,0],bf 4,bf 3,kc BZ [1,1,1,0,1,0,0,1,1],kl BZ gb,bf 2,kc BZ [1,1,1,1]]
theorem Tn(l:List (List UInt8))(hl:I l<=1000000)(hd:l.Nodup)(i:Nat)(hi:i<I l)
  (hout:Rn PP F4 0 (db J) ba ([kl BZ [1,1,1,0,1,0,0],.blk 2,kc BZ [1,1,1,1]]++[]) (cy 65 [(3,dl (l.map ae)),(5,di (i+1:Nat))]) ba) (n:Nat):∀k:Nat,i-k=n->
  Rn PP F4 0 (db J) ba ([kl BZ [1,1,1,0,1,0,0,1,0,0,1,1,0,0],.blk 4,.blk 3,kc BZ [1,1,1,0,1,0,0,1,1],kl BZ [1,1,1,0,1,0,0],.blk 2,kc BZ [1,1,1,1]]++[]) (cy 65 [(3,dl (l.map ae)),(5,di i),(6,di k)]) ba:=by
 induction n using Nat.strongRecOn with
 |_ n ih=>
 intro k hn
 refine lv 65 [1] (.b (.e fun a:List UInt8=>.x (.str a)<|.e fun b:List UInt8=>.x (.str b)<|.f<|.l [ke 3,ke 5,ch 6 (di (k+1:Nat))]) (.l [ke 3,ch 5 (di (i+1:Nat))])) ((Y ((k:Int)<(i:Int))=J->∃a,0<=(k:Int)/\(U ae l)[Z (k:Int)]?=G (ae a)/\∃a_1,0<=(i:Int)/\(U ae l)[Z (i:Int)]?=G (ae a_1)/\(a==a_1)=O/\di (yu yt ((k:Int)+1))=di (↑(k+1):Int)/\Nv.It (A2 (CN 0) PP (fun env σ1=>A9 PP F4 env σ1 (db J) ba) Avg (cy 65 [(3,bt (kh l)),(5,di (i:Int)),(6,di (↑(k+1):Int))]) d7))/\(Y ((k:Int)<(i:Int))=O->di (yu yt ((i:Int)+1))=di (↑(i+1):Int)/\I0 F4 0 (db J) ba [kl BZ gb,bf 2,kc BZ [1,1,1,1]] (cy 65 [(3,bt (kh l)),(5,di (↑(i+1):Int))]) ba)) ⟨fun h=>?_,fun h=>⟨Ae,⟨hout⟩⟩⟩
 have hk:k<i:=by grind
 have hx:l[k]?=G l[k]:=HI (by omega)
 have hy:l[i]?=G l[i]:=HI hi
 have hxy:l[k]≠l[i]:=List.pairwise_iff_getElem.1 hd k i (by omega) hi hk
 exact⟨l[k],by omega,CC hx,l[i],by omega,CC hy,Iy.2 hxy,Ae,⟨ih (i- (k+1)) (by omega) (k+1) rfl⟩⟩
theorem To(l:List (List UInt8))(hl:I l<=1000000)(hd:l.Nodup)(hw:∀s∈l,Ey s=J/\X9 s=O)(n:Nat):∀i:Nat,I l-i=n->
  Rn PP F4 0 (db J) ba ([kl BZ [1,1,1,0,1,0,0],.blk 2,kc BZ [1,1,1,1]]++[]) (cy 65 [(3,dl (l.map ae)),(5,di i)]) ba:=by
 induction n using Nat.strongRecOn with
 |_ n ih=>
 intro i hn
 refine lv 65 [1] (.b (.e fun s:List UInt8=>.x (.str s)<|.c (db J)<|.x (.str s)<|.c (db O)<|.l [ke 3,ke 5,ch 6 (di (0:Nat))]) .r) ((Y ((i:Int)<(I (U ae l):Int))=J->∃a,0<=(i:Int)/\(U ae l)[Z (i:Int)]?=G (ae a)/\Aa PP 163 [bt (ae a)] d7 (db J) d7/\0<=(i:Int)/\(U ae l)[Z (i:Int)]?=G (ae a)/\Aa PP 164 [bt (ae a)] d7 (db O) d7/\di 0=di (↑0:Int)/\Nv.It (A2 (CN 0) PP (fun env σ1=>A9 PP F4 env σ1 (db J) ba) Avg (cy 65 [(3,bt (kh l)),(5,di (i:Int)),(6,di (↑0:Int))]) ba))/\(Y ((i:Int)<(I (U ae l):Int))=O->Q (db J))) ⟨fun h=>?_,fun h=>rfl⟩
 have hk:i<I l:=by grind
 have hx:l[i]?=G l[i]:=HI hk
 have h3:=Tn l hl hd i hk (ih (I l- (i+1)) (by omega) (i+1) rfl) _ 0 rfl
 generalize l[i]=s at hx
 obtain⟨w1,w2⟩:=hw s (HO hx)
 exact⟨s,by omega,CC hx,S3 s w1,by omega,CC hx,w2▸Abv s,rfl,⟨h3⟩⟩
theorem Tq(m:cz)(hlen:I (Gm m)<=100)(hrl:I m.av<=100)(hnm:F3 m=J)(n:Nat):∀(k:Nat) (xs:List (List UInt8)),I m.av-k=n->xs++(m.av.drop k).map cf.name=Gm m->
  Rn PP F4 0 (db J) ba ([kl BZ [1,1,0,1,0,0],.blk 0,kc BZ [1,1,1]]++[]) (cy 65 [(1,.v (.ref (A0 m))),(3,W0 xs),(4,di k)]) (mx xs):=by
 induction n with
 |zero=>
  intro k xs hn hx
  refine lv 65 [1] (.f<|.h (.q 6 0)<|.h (.un 3)<|.ls [ch 3 (dl (xs.map ae)),ch 5 (di (0:Nat))] ba) (Y ((k:Int)<(I (U Al m.av):Int))=O/\bt (ai (df xs))=dl (df xs)/\Q (di 0)/\I0 F4 0 (db J) ba [kl BZ gb,bf 2,kc BZ [1,1,1,1]] (cy 65 [(3,dl (df xs)),(5,di (↑0:Int))]) ba) ⟨by grind,rfl,rfl,⟨?_⟩⟩
  rw[Ic (by omega)] at hx
  rw[IF,I8] at hx
  subst hx
  obtain⟨h1,h2⟩:=AhQ _ _ hnm
  exact To _ (by omega) h2 (fun s hs=>⟨(h1 s hs).1,(h1 s hs).2.1⟩) _ 0 rfl
 |succ n ih=>
  intro k xs hn hx
  refine lv 65 [1] (.t<|.e fun r:cf=>.h (.xs (Al r))<|.w<|.ls [ke 1,ch 3 (W0 (xs++[r.name])),ch 4 (di (k+1:Nat))] (mx (xs++[r.name]))) (Y ((k:Int)<(I (U Al m.av):Int))=J/\∃a,14=14/\0<=(k:Int)/\(U Al m.av)[Z (k:Int)]?=G (Al a)/\Q (df xs)/\Ao (I (df xs)+I (ae a.name::nV)) 16/\(∀(y:V),y∈ [ae a.name]->V.size y=1)/\br 1 (U ae xs++[ae a.name])=W0 (xs++[a.name])/\di (yu yt ((k:Int)+1))=di (↑(k+1):Int)/\[(1,1,U ae xs++ae a.name::nV)]=[(1,1,U ae (xs++[a.name]))]/\I0 F4 0 (db J) ba [kl BZ ee,bf 0,kc BZ [1,1,1]] (cy 65 [(1,bt (gd m)),(3,W0 (xs++[a.name])),(4,di (↑(k+1):Int))]) (mx (xs++[a.name]))) ?_
  have hk:k<I m.av:=by omega
  have hr:m.av[k]?=G m.av[k]:=HI hk
  rw[HX hk] at hx
  generalize m.av[k]=r at hr hx
  refine⟨by grind,r,rfl,by omega,Am hr,rfl,⟨?_,?_⟩,by simp[V.size],by simp,Ae,by simp,⟨?_⟩⟩
  ·grind
  ·grind
  ·exact ih (k+1) (xs++[r.name]) (by omega) (by grind)
theorem V2(m:cz)(hlen:I (Gm m)<=100)(hrl:I m.av<=100)(hnm:F3 m=J):F0 105 [Ad m] (db J):=by
 have hl2:=hlen
 simp only[Gm,Cj,List.flatten_cons,List.flatten_nil,HW,HH,HR] at hl2
 have hb:Cj m=m.aw++m.ay++m.ax:=by simp[Cj]
 refine sv F4 65 [1] (.a 1<|.w<|.w<|.w<|.ls [ke 1,ch 3 (W0 (Cj m)),ch 4 (di (0:Nat))] (mx (Cj m))) (Ao (I (df m.aw)) 16/\(∀(y:V),y∈U ae m.aw->V.size y=1)/\Q (df m.aw)/\Ao (I (df m.aw)+I (df m.ay)) 16/\(∀(y:V),y∈U ae m.ay->V.size y=1)/\Q (U ae m.aw++U ae m.ay)/\Ao (I (U ae m.aw++U ae m.ay)+I (df m.ax)) 16/\(∀(y:V),y∈U ae m.ax->V.size y=1)/\br 1 (U ae m.aw++U ae m.ay++U ae m.ax)=W0 (Cj m)/\Q (di 0)/\[(1,1,U ae m.aw++U ae m.ay++U ae m.ax)]=[(1,1,U ae (Cj m))]/\I0 F4 (I ba.H) (db J) ba [kl BZ ee,bf 0,kc BZ [1,1,1]] (cy 65 [(1,bt (gd m)),(3,W0 (Cj m)),(4,di (↑0:Int))]) (mx (Cj m))) ⟨⟨?_,?_⟩,by simp[V.size],rfl,⟨?_,?_⟩,by simp[V.size],rfl,⟨?_,?_⟩,by simp[V.size],by grind,rfl,by grind,⟨?_⟩⟩
 all_goals try (simp only[HH,HW];omega)
 exact Tq m hlen hrl hnm _ 0 (Cj m) rfl rfl
theorem Xy(m:cz)(hm:m.okN):F0 105 [Ad m] (db J):=by
 have hsz:=hm.sz
 exact V2 m (by grind[Gm,Cj]) (by omega) hm.named
noncomputable abbrev R8:=Tryz.f165
noncomputable def OG:=yl R8
theorem X3(l:List Int)(hl:I l<=1000000)(n a b:Int)(hn:I l=n)(hx:∀x∈l,A3 x a b=J)(N:Nat):∀k:Nat,I l-k=N->
  Rn PP R8 0 (db J) ba ([kl OG [1,0,1,0,0],.blk 0,kc OG [1,1]]++[]) (cy 28 [(0,cx l),(1,di n),(2,di a),(3,di b),(9,di k)]) ba:=by
 induction N using Nat.strongRecOn with
 |_ N ih=>
 intro k hk
 refine lv 28 [] (.b (.e fun x:Int=>.x (vi x)<|.c (db J)<|.l [ke 0,ke 1,ke 2,ke 3,ch 9 (di (k+1:Nat))]) .r) ((Y ((k:Int)<(I (U vi l):Int))=J->∃a_2,0<=(k:Int)/\(U vi l)[Z (k:Int)]?=G (vi a_2)/\Aa PP 102 [di a_2,di a,di b] d7 (db J) d7/\di (yu yt ((k:Int)+1))=di (↑(k+1):Int)/\Nv.It (A2 (CN 0) PP (fun env σ1=>A9 PP R8 env σ1 (db J) ba) [kl OG [1,0,1,0,0],bf 0,kc OG [1,1]] (cy 28 [(0,cx l),(1,di n),(2,di a),(3,di b),(9,di (↑(k+1):Int))]) ba))/\(Y ((k:Int)<(I (U vi l):Int))=O->db ((I (U vi l):Int)==n)=db J)) ⟨fun h=>?_,fun h=>?_⟩
 ·have hk1:k<I l:=by grind
  have hy:l[k]?=G l[k]:=HI hk1
  generalize l[k]=x at hy
  exact⟨x,by omega,Am hy,hx x (HO hy)▸CR x a b,Ae,⟨ih (I l- (k+1)) (by omega) (k+1) rfl⟩⟩
 grind
theorem Oc(l:List Int)(hl:I l<=1000000)(n a b:Int)(hn:I l=n)(hx:∀x∈l,A3 x a b=J):F0 165 [cx l,di n,di a,di b] (db J):=by
 exact sv R8 28 [] (.l [ke 0,ke 1,ke 2,ke 3,ch 9 (di (0:Nat))]) (Q (di 0)/\_) ⟨rfl,iK (X3 l hl n a b hn hx _ 0 rfl)⟩
noncomputable abbrev Agp:=Tryz.f106
theorem GT{α β:Type}(f:α->β)(l:List α)(h:I l<=1000000):yt.wrap ((I (l.map f):Int)-1)=(I l:Int)-1:=by
 grind[Ak]
theorem v7{α β:Type}(f:α->β){l:List α}(h:l=[]):Y ((I (l.map f):Int)>0)=O:=by grind
theorem Aah(m:cz)(hm:m.okS)(r:cf)(hr:r∈m.av):F0 106 [Ad m,BP r] (db J):=by
 have h1:∀a b x,A3 x a b=J->F0 102 [di x,di a,di b] (db J):=fun a b x h=>h▸CR x a b
 have hs:=hm.short
 have hsz:=hm.n.sz
 have hrs:=hm.rshort r hr
 have hR:=hm.right r hr
 have hk:=hm.n.kind
 clear hm hr
 obtain⟨kind,aw,ay,ax,au,ao,age,av,start⟩:=m
 have hst:=hs.aw
 have hpl:=hs.ay
 clear hs
 dsimp only at*
 rcases hk with hk|hk|hk<;>subst hk
 ·simp only[Fy,IT,E8,Ci,Eo,Ch,Rf,HJ,Iv,HS,I5] at hR
  refine sv Agp 234 [2,3] (.c (db J)<|.c (db J)<|.c (db J)<|.c (db J)<|.k<|.b (.c (db J)<|.k<|.k<|.f<|.f<|.f<|.k<|.f<|.f<|.k<|.f<|.f .r) (.k<|.k<|.f<|.f<|.f<|.k<|.f<|.f<|.k<|.f<|.f .r)) (F0 102 [di r.aj,di 0,di (yu yt ((I (U ae (cz.mk 1 aw ay ax au ao age av start).aw):Int)-1))] (db J)/\F0 102 [di r.to,di 0,di (yu yt ((I (U ae (cz.mk 1 aw ay ax au ao age av start).aw):Int)-1))] (db J)/\F0 165 [cx r.am,di (I (U ae (cz.mk 1 aw ay ax au ao age av start).ay):Int),di 0,di 16] (db J)/\F0 165 [cx r.ak,di (I (U ae (cz.mk 1 aw ay ax au ao age av start).ay):Int),di 0,di 16] (db J)/\(Y ((I (cc r.move):Int)>0)=J->F0 165 [cx r.move,di (I (U ae (cz.mk 1 aw ay ax au ao age av start).ay):Int),di (-1),di (yu yt ((I (U ae (cz.mk 1 aw ay ax au ao age av start).ay):Int)-1))] (db J)/\(r.chan !=0)=O/\(r.act !=0)=O/\(r.letter !=0)=O/\Y ((I (cc r.path):Int)>0)=O/\Y ((I (cc r.next):Int)>0)=O/\Y ((I (U dh r.ar):Int)>0)=O/\Y ((I (cc r.aq):Int)>0)=O/\db (r.second==0)=db J)/\(Y ((I (cc r.move):Int)>0)=O->(r.chan !=0)=O/\(r.act !=0)=O/\(r.letter !=0)=O/\Y ((I (cc r.path):Int)>0)=O/\Y ((I (cc r.next):Int)>0)=O/\Y ((I (U dh r.ar):Int)>0)=O/\Y ((I (cc r.aq):Int)>0)=O/\db (r.second==0)=db J)) ?_
  rw[GT _ _ hst,GT _ _ hpl]
  grind[Oc,v7]
 ·rw[Fy,HZ (fun h=>absurd h (by show ¬(_:Int)=1;simp only;decide))] at hR
  simp only[F1,Ch,MC,HJ,Iv,HS] at hR
  simp only[Eu] at hR
  obtain⟨a1,a2,a3, -, -, -,c1,c2,c3, -, -, -,b4,b5,b6,b7,b8⟩:=hR
  have hA:A3 r.act 0 2=J/\A3 r.chan 0 ((I ay:Int)-1)=J/\A3 r.letter 0 ((I ax:Int)-1)=J/\(r.act=0->r.chan=0/\r.letter=0):=by
   split at a3
   ·rename_i h0
    have h0:r.act=0:=by simpa using h0
    simp only[HJ,Iv] at a3
    rw[h0,a3.1,a3.2]
    refine⟨by decide,?_,?_,fun _=>⟨rfl,rfl⟩⟩<;>simp only[A3,HJ,HS]<;>omega
   ·rename_i h0
    have h0:r.act≠0:=by simpa using h0
    simp only[HJ] at a3
    have:=Ct a3.1
    refine⟨?_,a3.2.1,a3.2.2,fun h=>absurd h h0⟩
    simp only[A3,HJ,HS];omega
  refine sv Agp 234 [2,3] (.c (db J)<|.c (db J)<|.k<|.k<|.k<|.k<|.f<|.f<|.f<|.k<|.c (db J)<|.c (db J)<|.c (db J)<|.k<|.b (.f<|.f<|.k<|.f<|.f<|.k<|.f<|.f .r) (.k<|.k<|.f<|.f<|.k<|.f<|.f .r)) (F0 102 [di r.aj,di 0,di (yu yt ((I (U ae (cz.mk 2 aw ay ax au ao age av start).aw):Int)-1))] (db J)/\F0 102 [di r.to,di 0,di (yu yt ((I (U ae (cz.mk 2 aw ay ax au ao age av start).aw):Int)-1))] (db J)/\Y ((I (cc r.am):Int)>0)=O/\Y ((I (cc r.ak):Int)>0)=O/\Y ((I (cc r.move):Int)>0)=O/\F0 102 [di r.act,di 0,di 2] (db J)/\F0 102 [di r.chan,di 0,di (yu yt ((I (U ae (cz.mk 2 aw ay ax au ao age av start).ay):Int)-1))] (db J)/\F0 102 [di r.letter,di 0,di (yu yt ((I (U ae (cz.mk 2 aw ay ax au ao age av start).ax):Int)-1))] (db J)/\((r.act==0)=J->(r.chan !=0)=O/\(r.letter !=0)=O/\Y ((I (cc r.path):Int)>0)=O/\Y ((I (cc r.next):Int)>0)=O/\Y ((I (U dh r.ar):Int)>0)=O/\Y ((I (cc r.aq):Int)>0)=O/\db (r.second==0)=db J)/\((r.act==0)=O->Y ((I (cc r.path):Int)>0)=O/\Y ((I (cc r.next):Int)>0)=O/\Y ((I (U dh r.ar):Int)>0)=O/\Y ((I (cc r.aq):Int)>0)=O/\db (r.second==0)=db J)) ?_
  grind[GT,v7]
 ·rw[Fy,HZ (fun h=>absurd h (by show ¬(_:Int)=1;simp only;decide))] at hR
  simp only[F1,Ch,MC,HJ,Iv,HS] at hR
  simp only[Eu] at hR
  obtain⟨a1,a2,a3, -, -, -,c1,c2,c3, -, -, -,b4,b5,b6,b7,b8⟩:=hR
  have hA:A3 r.act 0 2=J/\A3 r.chan 0 ((I ay:Int)-1)=J/\A3 r.letter 0 ((I ax:Int)-1)=J/\(r.act=0->r.chan=0/\r.letter=0):=by
   split at a3
   ·rename_i h0
    have h0:r.act=0:=by simpa using h0
    simp only[HJ,Iv] at a3
    rw[h0,a3.1,a3.2]
    refine⟨by decide,?_,?_,fun _=>⟨rfl,rfl⟩⟩<;>simp only[A3,HJ,HS]<;>omega
   ·rename_i h0
    have h0:r.act≠0:=by simpa using h0
    simp only[HJ] at a3
    have:=Ct a3.1
    refine⟨?_,a3.2.1,a3.2.2,fun h=>absurd h h0⟩
    simp only[A3,HJ,HS];omega
  refine sv Agp 234 [2,3] (.c (db J)<|.c (db J)<|.k<|.k<|.k<|.k<|.f<|.f<|.f<|.k<|.c (db J)<|.c (db J)<|.c (db J)<|.k<|.b (.f<|.f<|.k<|.f<|.f<|.k<|.f<|.f .r) (.k<|.k<|.f<|.f<|.k<|.f<|.f .r)) (F0 102 [di r.aj,di 0,di (yu yt ((I (U ae (cz.mk 3 aw ay ax au ao age av start).aw):Int)-1))] (db J)/\F0 102 [di r.to,di 0,di (yu yt ((I (U ae (cz.mk 3 aw ay ax au ao age av start).aw):Int)-1))] (db J)/\Y ((I (cc r.am):Int)>0)=O/\Y ((I (cc r.ak):Int)>0)=O/\Y ((I (cc r.move):Int)>0)=O/\F0 102 [di r.act,di 0,di 2] (db J)/\F0 102 [di r.chan,di 0,di (yu yt ((I (U ae (cz.mk 3 aw ay ax au ao age av start).ay):Int)-1))] (db J)/\F0 102 [di r.letter,di 0,di (yu yt ((I (U ae (cz.mk 3 aw ay ax au ao age av start).ax):Int)-1))] (db J)/\((r.act==0)=J->(r.chan !=0)=O/\(r.letter !=0)=O/\Y ((I (cc r.path):Int)>0)=O/\Y ((I (cc r.next):Int)>0)=O/\Y ((I (U dh r.ar):Int)>0)=O/\Y ((I (cc r.aq):Int)>0)=O/\db (r.second==0)=db J)/\((r.act==0)=O->Y ((I (cc r.path):Int)>0)=O/\Y ((I (cc r.next):Int)>0)=O/\Y ((I (U dh r.ar):Int)>0)=O/\Y ((I (cc r.aq):Int)>0)=O/\db (r.second==0)=db J)) ?_
  grind[GT,v7]
noncomputable abbrev Anh:=Tryz.f110
theorem KV(l:List Int)(hl:I l<=1000000):F0 110 [cx l] (cx l):=by
 refine sv Anh 5 [] (.a 1<|.w .r) (Ao (I (U vi l)) 8/\(∀(y:V),y∈U vi l->V.size y=1)/\bt (ai (U vi l))=cx l) ?_
 grind[V.size]
noncomputable abbrev AmC:=Tryz.f56
theorem HF(a b:Int):F0 56 [di a,di b] (di (AJ a b)):=by
 refine sv AmC 11 [] (.b .r<|.b .r .r) ((Y (a<b)=J->di (-1)=di (AJ a b))/\(Y (a<b)=O->(Y (a>b)=J->di 1=di (AJ a b))/\(Y (a>b)=O->di 0=di (AJ a b)))) ?_
 grind[AJ]
noncomputable abbrev R4:=Tryz.f108
noncomputable def OB:=yl R4
noncomputable abbrev jy:=fun a₀=>(bz (Ac a₀))
theorem Hz(N:Nat):∀v:b9,v.size<=N->∀m:Int,0<=m->m<=1000->F0 108 [dV v,di m] (di (min (v.size:Int) (m+1))):=by
 induction N with
 |zero=>intro v hv;have:=v.size_pos;omega
 |succ N ihN=>
  intro v hv m hm0 hm1
  have hsz:=v.size_eq
  have loop (n:Nat):∀(k:Nat) (a:Int),I v.az-k=n->k+1<=a->a<=m+1->
    Rn PP R4 0 (di (min (a+(b9.sizes (v.az.drop k):Int)) (m+1))) ba ([kl OB [1,1,0,1,0,0],.blk 0,kc OB [1,1,1]]++[]) (cy 31 [(1,di m),(2,.v (.ref (Ac v))),(5,di a),(6,di k)]) ba:=by
   induction n using Nat.strongRecOn with
   |_ n ih=>
   intro k a hn ha0 ha1
   refine lv 31 [2] (.b (.b (.e fun x:b9=>.x (Ac x)<|.c (di (min (x.size:Int) (m-a+1)))<|.l [ke 1,ke 2,ch 5 (di (min (a+(x.size:Int)) (m+1))),ch 6 (di (k+1:Nat))]) .r) .r) ((Y ((k:Int)<(I (ce v.az):Int))=J->(Y (a<=m)=J->∃a_3,0<=(k:Int)/\(ce v.az)[Z (k:Int)]?=G (Ac a_3)/\Aa PP 108 [dV a_3,di (yu yt (m-a))] d7 (di (min (↑(iq a_3):Int) (m-a+1))) d7/\di (yu yt (a+min (↑(iq a_3):Int) (m-a+1)))=di (min (a+(↑(iq a_3):Int)) (m+1))/\di (yu yt ((k:Int)+1))=di (↑(k+1):Int)/\Nv.It (A2 (CN 0) PP (fun env σ1=>A9 PP R4 env σ1 (di (min (a+(↑(b9.sizes (W k v.az)):Int)) (m+1))) ba) [kl OB ee,bf 0,kc OB [1,1,1]] (cy 31 [(1,di m),(2,bt (jy v)),(5,di (min (a+(↑(iq a_3):Int)) (m+1))),(6,di (↑(k+1):Int))]) ba))/\(Y (a<=m)=O->di a=di (min (a+(↑(b9.sizes (W k v.az)):Int)) (m+1))))/\(Y ((k:Int)<(I (ce v.az):Int))=O->di a=di (min (a+(↑(b9.sizes (W k v.az)):Int)) (m+1)))) ⟨fun h=>⟨fun h1=>?_,fun h1=>?_⟩,fun h=>?_⟩
   ·have hk:k<I v.az:=by simpa using h
    have hx:v.az[k]?=G v.az[k]:=HI hk
    rw[HX hk]
    generalize v.az[k]=x at hx⊢
    have hxs:=b9.size_mem (HO hx)
    have hx1:=x.size_pos
    simp only[b9.sizes]
    have h1:=HT h1
    refine⟨x,by omega,Ap hx,?_,?_,Ae,⟨?_⟩⟩
    ·rw[Ak]
     exact ihN x (by omega) (m-a) (by omega) (by omega)
    ·rw[Ak (by rw[II];split<;>omega) (by rw[II];split<;>omega)]
     simp only[II];congr 1;split<;>split<;>omega
    ·have:=ih (I v.az- (k+1)) (by omega) (k+1) (min (a+(x.size:Int)) (m+1)) rfl (by rw[II];split<;>omega) (by rw[II];split<;>omega)
     rw[show min (min (a+(x.size:Int)) (m+1)+(b9.sizes (v.az.drop (k+1)):Int)) (m+1)=min (a+((x.size+b9.sizes (v.az.drop (k+1)):Nat):Int)) (m+1) by simp only[II];(repeat' split)<;>omega] at this
     exact this
   ·have h1:=I3 h1
    rw[II];split<;>congr 1<;>omega
   ·have hk:I v.az<=k:=by simpa using h
    rw[Ic hk]
    simp only[b9.sizes];rw[II];split<;>congr 1<;>omega
  refine sv R4 31 [2] (.l [ke 1,ke 2,ch 5 (di 1),ch 6 (di (0:Nat))]) (Q (di 1)/\Q (di 0)/\I0 R4 (I ba.H) (di (min (↑(iq v):Int) (m+1))) ba [kl OB ee,bf 0,kc OB [1,1,1]] (cy 31 [(1,di m),(2,bt (jy v)),(5,di 1),(6,di (↑0:Int))]) ba) ⟨rfl,rfl,⟨?_⟩⟩
  have:=loop _ 0 1 rfl (by omega) (by omega)
  grind
theorem TF{a b:Int}:AJ a b=0↔a=b:=by grind[AJ]
theorem AgI(a b:b9):Ar a b=if AJ a.n b.n=0 then(if AJ (I a.az) (I b.az)=0 then AW Ar a.az b.az else AJ (I a.az) (I b.az)) else AJ a.n b.n:=by
 cases a;cases b;simp only[Ar,PV];rfl
noncomputable abbrev RD:=Tryz.f31
noncomputable def OK:=yl RD
noncomputable abbrev jw:=fun a₀=>(3,bt (bz (Ac a₀)))
theorem RT(N:Nat):∀a b:b9,a.size<=N->a.fit->F0 31 [dV a,dV b] (di (Ar a b)):=by
 induction N with
 |zero=>intro v _ hv;have:=v.size_pos;omega
 |succ N ihN=>
  intro a b ha ha1
  have hsz:=a.size_eq
  have hlen:=ha1.len
  have loop (hab:I a.az=I b.az) (n:Nat):∀k:Nat,I a.az-k=n->
    Rn PP RD 0 (di (AW Ar (a.az.drop k) (b.az.drop k))) ba ([kl OK [1,1,1,0,1,0,0],.blk 0,kc OK [1,1,1,1]]++[]) (cy 52 [(2,.v (.ref (Ac a))),(3,.v (.ref (Ac b))),(5,di k)]) ba:=by
   induction n using Nat.strongRecOn with
   |_ n ih=>
   intro k hn
   refine lv 52 [2,3] (.b (.e fun x:b9=>.x (Ac x)<|.e fun y:b9=>.x (Ac y)<|.c (di (Ar x y))<|.b .r (.l [ke 2,ke 3,ch 5 (di (k+1:Nat))])) .r) ((Y ((k:Int)<(I (ce a.az):Int))=J->∃a_2,0<=(k:Int)/\(ce a.az)[Z (k:Int)]?=G (Ac a_2)/\∃a_3,0<=(k:Int)/\(ce b.az)[Z (k:Int)]?=G (Ac a_3)/\Aa PP 31 [dV a_2,dV a_3] d7 (di (Ar a_2 a_3)) d7/\((Ar a_2 a_3 !=0)=J->di (Ar a_2 a_3)=di (AW Ar (W k a.az) (W k b.az)))/\((Ar a_2 a_3 !=0)=O->di (yu yt ((k:Int)+1))=di (↑(k+1):Int)/\Nv.It (A2 (CN 0) PP (fun env σ1=>A9 PP RD env σ1 (di (AW Ar (W k a.az) (W k b.az))) ba) [kl OK gb,bf 0,kc OK [1,1,1,1]] (cy 52 [(2,bt (jy a)),(jw b),(5,di (↑(k+1):Int))]) d7)))/\(Y ((k:Int)<(I (ce a.az):Int))=O->di 0=di (AW Ar (W k a.az) (W k b.az)))) ⟨fun h=>?_,fun h=>?_⟩
   ·have hk:k<I a.az:=by simpa using h
    have hk2:k<I b.az:=by omega
    have hx:a.az[k]?=G a.az[k]:=HI hk
    have hy:b.az[k]?=G b.az[k]:=HI hk2
    rw[HX hk,HX hk2]
    generalize a.az[k]=x at hx⊢
    generalize b.az[k]=y at hy⊢
    have hxs:=b9.size_mem (HO hx)
    refine⟨x,by omega,Ap hx,y,by omega,Ap hy,ihN x y (by omega) (ha1.mem (HO hx)),fun h1=>?_,fun h1=>⟨Ae,⟨?_⟩⟩⟩
    ·have h1:Ar x y≠0:=by simpa using h1
     simp only[AW,HZ h1]
    ·have h1:Ar x y=0:=by simpa using h1
     simp only[AW,Ie h1]
     exact ih (I a.az- (k+1)) (by omega) (k+1) rfl
   grind[drop_of_length_le,AW]
  refine sv RD 52 [2,3] (.b (.c (di (AJ a.n b.n)) .r) (.b (.c (di (AJ (I a.az) (I b.az))) .r) (.l [ke 2,ke 3,ch 5 (di (0:Nat))]))) (((a.n !=b9.n b)=J->F0 56 [di a.n,di b.n] (di (AJ a.n b.n))/\di (AJ a.n b.n)=di (Ar a b))/\((a.n !=b9.n b)=O->(((I (ce a.az):Int) !=(I (ce b.az):Int))=J->F0 56 [di (I (ce a.az):Int),di (I (ce b.az):Int)] (di (AJ (I a.az:Int) (I b.az:Int)))/\di (AJ (I a.az:Int) (I b.az:Int))=di (Ar a b))/\(((I (ce a.az):Int) !=(I (ce b.az):Int))=O->di 0=di (↑0:Int)/\I0 RD (I ba.H) (di (Ar a b)) ba [kl OK gb,bf 0,kc OK [1,1,1,1]] (cy 52 [(2,bt (jy a)),(jw b),(5,di (↑0:Int))]) ba))) ?_
  rw[AgI]
  refine⟨fun h=>⟨HF _ _,?_⟩,fun h=>⟨fun h1=>⟨?_,?_⟩,fun h1=>⟨rfl,⟨?_⟩⟩⟩⟩
  ·grind[TF]
  ·grind[HF]
  ·grind[AJ]
  ·have h:a.n=b.n:=by grind
   have h1:(I a.az:Int)=I b.az:=by grind
   rw[Ie (TF.2 h),Ie (TF.2 h1)]
   exact loop (Int.ofNat_inj.1 h1) _ 0 rfl
theorem EL(N:Nat)(a b:b9)(_:a.size<=N)(h:a.size<=1000000):F0 31 [dV a,dV b] (di (Ar a b)):=by grind[RT,b9.fit_of]
noncomputable abbrev Am2:=Tryz.f13
theorem Aaa(a b:b9)(ha:a.fit):F0 13 [dV a,dV b] (db (Ar a b==0)):=by
 exact sv Am2 9 [2,3] (.c (di (Ar a b)) .r) (_/\Q (db (Ar a b==0))) ⟨RT _ a b (HP _) ha,rfl⟩
theorem KA(a b:b9)(ha:a.size<=1000000):F0 13 [dV a,dV b] (db (Ar a b==0)):=Aaa a b (b9.fit_of a ha)
noncomputable abbrev R5:=Tryz.f237
noncomputable def OD:=yl R5
theorem Xc(r:List Int)(hr:Dd r=J)(n:Nat):∀k:Nat,I r-k=n->
  Rn PP R5 0 (db J) ba ([kl OD [1,0,1,0,0],.blk 0,kc OD [1,1]]++[]) (cy 30 [(0,cx r),(3,di k)]) ba:=by
 induction n using Nat.strongRecOn with
 |_ n ih=>
 intro k hn
 simp only[Dd,HJ,IA,List.any_eq_false] at hr
 obtain⟨h1,h2,h3⟩:=hr
 have hlen:=HT h2
 refine lv 30 [] (.b (.e fun x:Int=>.x (vi x)<|.f<|.x (vi x)<|.f<|.l [ke 0,ch 3 (di (k+1:Nat))]) (.t .r)) ((Y ((k:Int)<(I (U vi r):Int))=J->∃a,0<=(k:Int)/\(U vi r)[Z (k:Int)]?=G (vi a)/\Y (a<0)=O/\0<=(k:Int)/\(U vi r)[Z (k:Int)]?=G (vi a)/\Y (a>=6)=O/\di (yu yt ((k:Int)+1))=di (↑(k+1):Int)/\Nv.It (A2 (CN 0) PP (fun env σ1=>A9 PP R5 env σ1 (db J) ba) [kl OD [1,0,1,0,0],bf 0,kc OD [1,1]] (cy 30 [(0,cx r),(3,di (↑(k+1):Int))]) ba))/\(Y ((k:Int)<(I (U vi r):Int))=O->Y ((I (U vi r):Int)>=1)=J/\db (Y ((I (U vi r):Int)<=6))=db J)) ⟨fun h=>?_,fun h=>⟨by grind,by grind⟩⟩
 have hk:k<I r:=by grind
 have hx:r[k]?=G r[k]:=HI hk
 generalize r[k]=x at hx
 have h4:=h3 x (HO hx)
 simp only[ly,Bool.not_eq_true,Bool.or_eq_false_iff] at h4
 exact⟨x,by omega,Am hx,h4.1,by omega,Am hx,h4.2,Ae,⟨ih (I r- (k+1)) (by omega) (k+1) rfl⟩⟩
theorem NR(r:List Int)(hr:Dd r=J):F0 237 [cx r] (db J):=by
 exact sv R5 30 [] (.l [ke 0,ch 3 (di (0:Nat))]) (Q (di 0)/\_) ⟨rfl,iK (Xc r hr _ 0 rfl)⟩
noncomputable abbrev qw:=Tryz.f59
noncomputable def Wo:=yl qw
abbrev pw(l:List cr)(n:Nat):St:=⟨[G [di 0,di 0,.v .nils,.v .nils],G [di 3,di 0,.v (.list []),.acc 1 (l.map eT)],G [di 2,di n,.v (.list []),.v (.list [])]],[(1,4,l.map eT)]⟩
theorem WM(m:cz)(hm:m.okN)(hk:m.kind=1)(n:Nat):∀(k:Nat) (xs:List cr),I m.ay-k=n->k<=I m.ay->I xs<=k+1->
  Rn PP qw 0 (dT (.prod (xs++replicate n (.nat)))) ba ([kl Wo [1,1,1,0,1,0,1,1,1,1,1,0,0],.blk 1,.blk 0,kc Wo [1,1,1,1]]++[]) (cy 96 [(1,.v (.ref (A0 m))),(2,.ptr 0 0),(3,.ptr 1 0),(4,.ptr 2 0),(8,di k)]) (pw xs (I m.ax)):=by
 have hsz:=hm.sz
 induction n with
 |zero=>
  intro k xs hn hk0 hxs
  refine lv 96 [1] (.f .r) (Y ((k:Int)<(I (df m.ay):Int))=O/\bt (qg xs)=dT (cr.prod (xs++replicate 0 cr.nat))) ⟨by grind,?_⟩
  rw[List.replicate_zero,I8];rfl
 |succ n ih=>
  intro k xs hn hk0 hxs
  have h:=ih (k+1) (xs++[.nat]) (by omega) (by omega) (by grind)
  rw[IQ] at h
  refine lv 96 [1] (.t<|.f<|.f<|.ls [ke 1,ke 2,ke 3,ke 4,ch 8 (di (k+1:Nat))] (pw (xs++[.nat]) (I m.ax))) (Y ((k:Int)<(I (df m.ay):Int))=J/\(m.kind==2)=O/\(m.kind==3)=O/\Q (U eT xs)/\Ao (I (U eT xs)+I (ab (aa yt 1::aa yt 0::ai nV::ai nV::nV)::nV)) 64/\di (yu yt ((k:Int)+1))=di (↑(k+1):Int)/\[G kg,G [di 3,di 0,bt (ai nV),br 1 (U eT xs++ab Awm::nV)],G [di 2,di (I m.ax:Int),bt (ai nV),bt (ai nV)]]=[G kg,G [di 3,di 0,bt (ai nV),br 1 (U eT (xs++[cr.nat]))],G [di 2,di (I m.ax:Int),bt (ai nV),bt (ai nV)]]/\[(1,4,U eT xs++ab Awm::nV)]=[(1,4,U eT (xs++[cr.nat]))]/\_) ⟨by grind,by grind,by grind,rfl,⟨?_,?_⟩,Ae,?_,?_,iK h⟩
  ·grind
  ·grind
  ·rw[←C0];rfl
  ·rw[←C0];rfl
theorem WL(m:cz)(hm:m.okN)(hk:m.kind=2)(n:Nat):∀(k:Nat) (xs:List cr),I m.ay-k=n->k<=I m.ay->I xs<=k+1->
  Rn PP qw 0 (dT (.prod (xs++replicate n (.word (.lab (I m.ax)))))) ba ([kl Wo [1,1,1,0,1,0,1,1,1,1,1,0,0],.blk 1,.blk 0,kc Wo [1,1,1,1]]++[]) (cy 96 [(1,.v (.ref (A0 m))),(2,.ptr 0 0),(3,.ptr 1 0),(4,.ptr 2 0),(8,di k)]) (pw xs (I m.ax)):=by
 have hsz:=hm.sz
 induction n with
 |zero=>
  intro k xs hn hk0 hxs
  refine lv 96 [1] (.f .r) (Y ((k:Int)<(I (df m.ay):Int))=O/\bt (qg xs)=dT (cr.prod (xs++replicate 0 (cr.word (cr.lab (I m.ax:Int)))))) ⟨by grind,?_⟩
  rw[List.replicate_zero,I8];rfl
 |succ n ih=>
  intro k xs hn hk0 hxs
  have h:=ih (k+1) (xs++[.word (.lab (I m.ax))]) (by omega) (by omega) (by grind)
  rw[IQ] at h
  refine lv 96 [1] (.t<|.t<|.f<|.ls [ke 1,ke 2,ke 3,ke 4,ch 8 (di (k+1:Nat))] (pw (xs++[.word (.lab (I m.ax))]) (I m.ax))) (Y ((k:Int)<(I (df m.ay):Int))=J/\(m.kind==2)=J/\(m.kind==3)=O/\Q (U eT xs)/\Ao (I (U eT xs)+I (ab (aa yt 4::aa yt 0::ai nV::ai (ab (aa yt 2::aa yt (I m.ax:Int)::ai nV::ai nV::nV)::nV)::nV)::nV)) 64/\di (yu yt ((k:Int)+1))=di (↑(k+1):Int)/\[G kg,G [di 3,di 0,bt (ai nV),br 1 (U eT xs++ab (vi 4::vi 0::ai nV::ai (ab (vi 2::vi (I m.ax:Int)::ai nV::ai nV::nV)::nV)::nV)::nV)],G [di 2,di (I m.ax:Int),bt (ai nV),bt (ai nV)]]=[G kg,G [di 3,di 0,bt (ai nV),br 1 (U eT (xs++[cr.word (cr.lab (I m.ax:Int))]))],G [di 2,di (I m.ax:Int),bt (ai nV),bt (ai nV)]]/\[(1,4,U eT xs++ab (vi 4::vi 0::ai nV::ai (ab (vi 2::vi (I m.ax:Int)::ai nV::ai nV::nV)::nV)::nV)::nV)]=[(1,4,U eT (xs++[cr.word (cr.lab (I m.ax:Int))]))]/\_) ⟨by grind,by grind,by grind,rfl,⟨?_,?_⟩,Ae,?_,?_,iK h⟩
  ·grind
  ·grind
  ·rw[←C0];rfl
  ·rw[←C0];rfl
theorem WK(m:cz)(hm:m.okN)(hk:m.kind=3)(n:Nat):∀(k:Nat) (xs:List cr),I m.ay-k=n->k<=I m.ay->I xs<=k+1->
  Rn PP qw 0 (dT (.prod (xs++replicate n (.prio (I m.ax) m.au)))) ba ([kl Wo [1,1,1,0,1,0,1,1,1,1,1,0,0],.blk 1,.blk 0,kc Wo [1,1,1,1]]++[]) (cy 96 [(1,.v (.ref (A0 m))),(2,.ptr 0 0),(3,.ptr 1 0),(4,.ptr 2 0),(8,di k)]) (pw xs (I m.ax)):=by
 have hsz:=hm.sz
 induction n with
 |zero=>
  intro k xs hn hk0 hxs
  refine lv 96 [1] (.f .r) (Y ((k:Int)<(I (df m.ay):Int))=O/\bt (qg xs)=dT (cr.prod (xs++replicate 0 (cr.prio (I m.ax:Int) m.au)))) ⟨by grind,?_⟩
  rw[List.replicate_zero,I8];rfl
 |succ n ih=>
  intro k xs hn hk0 hxs
  have h:=ih (k+1) (xs++[.prio (I m.ax) m.au]) (by omega) (by omega) (by grind)
  rw[IQ] at h
  refine lv 96 [1] (.t<|.f<|.t<|.c (cx m.au)<|.ls [ke 1,ke 2,ke 3,ke 4,ch 8 (di (k+1:Nat))] (pw (xs++[.prio (I m.ax) m.au]) (I m.ax))) (Y ((k:Int)<(I (df m.ay):Int))=J/\(m.kind==2)=O/\(m.kind==3)=J/\_/\Q (U eT xs)/\Ao (I (U eT xs)+I (ab (aa yt 7::aa yt (I (df m.ax):Int)::cw m.au::ai nV::nV)::nV)) 64/\di (yu yt ((k:Int)+1))=di (↑(k+1):Int)/\[G kg,G [di 3,di 0,bt (ai nV),br 1 (U eT xs++ab (vi 7::vi (I (df m.ax):Int)::cw m.au::ai nV::nV)::nV)],G [di 2,di (I m.ax:Int),bt (ai nV),bt (ai nV)]]=[G kg,G [di 3,di 0,bt (ai nV),br 1 (U eT (xs++[cr.prio (I m.ax:Int) m.au]))],G [di 2,di (I m.ax:Int),bt (ai nV),bt (ai nV)]]/\[(1,4,U eT xs++ab (vi 7::vi (I (df m.ax):Int)::cw m.au::ai nV::nV)::nV)]=[(1,4,U eT (xs++[cr.prio (I m.ax:Int) m.au]))]/\_) ⟨by grind,by grind,by grind,KV m.au (by omega),rfl,⟨?_,?_⟩,Ae,?_,?_,iK h⟩
  ·grind
  ·grind
  ·rw[←C0];rw[HH];rfl
  ·rw[←C0];rw[HH];rfl
theorem Q5(m:cz)(hm:m.okN):F0 59 [Ad m] (dT (AE m)):=by
 have hk:=hm.kind
 refine sv qw 96 [1] (.a 1<|.h .g<|.f<|.f<|.ls [ke 1,ke 2,ke 3,ke 4,ch 8 (di (0:Nat))] (pw [.lab (I m.aw)] (I m.ax))) ((m.kind==4)=O/\(m.kind==5)=O/\Q (di 0)/\[G kg,G [di 3,di 0,bt (ai nV),br 1 (ab (vi 2::vi (I (df m.aw):Int)::ai nV::ai nV::nV)::nV)],G [di 2,di (I (df m.ax):Int),bt (ai nV),bt (ai nV)]]=[G kg,G [di 3,di 0,bt (ai nV),br 1 (eT (cr.lab (I m.aw:Int))::nV)],G [di 2,di (I m.ax:Int),bt (ai nV),bt (ai nV)]]/\[(1,4,ab (vi 2::vi (I (df m.aw):Int)::ai nV::ai nV::nV)::nV)]=[(1,4,eT (cr.lab (I m.aw:Int))::nV)]/\I0 qw (I ba.H) (dT (AE m)) ba [kl Wo [1,1,1,0,1,0,1,1,1,1,1,0,0],bf 1,bf 0,kc Wo [1,1,1,1]] (cy 96 [(1,bt (gd m)),n7,(3,bq 1 0),(4,bq 2 0),(8,di (↑0:Int))]) (pw [cr.lab (I m.aw:Int)] (I m.ax))) ⟨by grind,by grind,rfl,by rw[HH,HH];rfl,by rw[HH];rfl,⟨?_⟩⟩
 rcases hk with h|h|h
 ·have:=WM m hm h _ 0 [.lab (I m.aw)] rfl (by omega) (by simp)
  grind[AE,EK]
 ·have:=WL m hm h _ 0 [.lab (I m.aw)] rfl (by omega) (by simp)
  grind[AE,EK]
 ·have:=WK m hm h _ 0 [.lab (I m.aw)] rfl (by omega) (by simp)
  grind[AE,EK]
noncomputable abbrev NG:=Tryz.f169
noncomputable def Qb:=yl NG
theorem AdN(d:Nat):F0 169 [dT .nat,di ((d+1:Nat):Int)] (db J):=by
 have hz:(((d+1:Nat):Int)==0)=O:=Iy.2 (by omega)
 exact sv NG 132 [2] (.f .r) (_/\Q (db J)) ⟨hz,rfl⟩
theorem JF(d:Nat)(n:Int)(h1:1<=n)(h2:n<=16):F0 169 [dT (.lab n),di ((d+1:Nat):Int)] (db J):=by
 refine sv NG 132 [2] (.f<|.k<|.k<|.k<|.k<|.k<|.t<|.t .r) (((↑(d+1):Int)==0)=O/\Y (cr.sz (cr.lab n)>=1)=J/\Y (cr.sz (cr.lab n)<=16)=J/\db ((I (U eT (cr.ps (cr.lab n))):Int)==0)=db J) ?_
 grind[cr.sz,cr.ps]
theorem Zl(d:Nat)(n:Int)(r:List Int)(h1:n=I r)(h2:Dd r=J):F0 169 [dT (.prio n r),di ((d+1:Nat):Int)] (db J):=by
 refine sv NG 132 [2] (.f<|.t<|.k<|.k<|.k<|.k<|.k<|.t<|.t<|.k<|.t<|.c (db J) .r) (((↑(d+1):Int)==0)=O/\Y ((I (U vi (cr.rk (ge n r))):Int)>0)=J/\Y (cr.sz (ge n r)>=1)=J/\Y (cr.sz (ge n r)<=6)=J/\((I (U vi (cr.rk (ge n r))):Int)==cr.sz (ge n r))=J/\F0 237 [bt (cw (cr.rk (ge n r)))] (db J)/\Q (db J)) ?_
 grind[Dd,NR,cr.rk,cr.sz]
theorem Zi(d:Nat)(t:cr)(hd:d<=100)(h:F0 169 [dT t,di d] (db J)):F0 169 [dT (.word t),di ((d+1:Nat):Int)] (db J):=by
 rw[dT,Pa]
 refine sv NG 132 [2] (.f<|.x (vT t)<|.c (db J) .r) (((↑(d+1):Int)==0)=O/\iz 0<=0/\Q (G (vT t))/\F0 169 [bt (vT t),di (yu yt ((↑(d+1):Int)-1))] (db J)/\Q (db J)) ?_
 have hz:(((d+1:Nat):Int)==0)=O:=Iy.2 (by omega)
 rw[show yt.wrap (((d+1:Nat):Int)-1)=d by rw[Ak];omega]
 exact⟨hz,by decide,rfl,h,rfl⟩
theorem Zm(d:Nat)(l:List cr)(hd:d<=100)(hl:I l<=8)(h:∀t∈l,F0 169 [dT t,di d] (db J))(n:Nat):∀k:Nat,I l-k=n->
  Rn PP NG 0 (db J) ba ([kl Qb [1,1,0,1,0,1,1,1,1,1,1,1,1,1,0,1,0,1,0,0],.blk 1,kc Qb [1,1,0,1,0,1,1,1,1,1,1,1,1,1,0,1,1],.blk 0,kc Qb [1,1,1]]++[]) (cy 132 [(1,di ((d+1:Nat):Int)),(2,.v (.ref (vT (.prod l)))),(5,di k)]) ba:=by
 induction n using Nat.strongRecOn with
 |_ n ih=>
 intro k hn
 refine lv 132 [2] (.b (.e fun t:cr=>.x (vT t)<|.c (db J)<|.l [ke 1,ke 2,ch 5 (di (k+1:Nat))]) .r) ((Y ((k:Int)<(I (jv l):Int))=J->∃a,0<=(k:Int)/\(jv l)[Z (k:Int)]?=G (vT a)/\Aa PP 169 [bt (vT a),di (yu yt ((↑(d+1):Int)-1))] d7 (db J) d7/\di (yu yt ((k:Int)+1))=di (↑(k+1):Int)/\Nv.It (A2 (CN 0) PP (fun env σ1=>A9 PP NG env σ1 (db J) ba) [kl Qb [1,1,0,1,0,1,1,1,1,1,1,1,1,1,0,1,0,1,0,0],bf 1,kc Qb [1,1,0,1,0,1,1,1,1,1,1,1,1,1,0,1,1],bf 0,kc Qb [1,1,1]] (cy 132 [(1,di (↑(d+1):Int)),(qk l),(5,di (↑(k+1):Int))]) ba))/\(Y ((k:Int)<(I (jv l):Int))=O->Q (db J))) ?_
 rw[show yt.wrap (((d+1:Nat):Int)-1)=d by grind[Ak]]
 refine⟨fun h1=>?_,fun h1=>rfl⟩
 have hk:k<I l:=by grind[cr.ps]
 have hx:l[k]?=G l[k]:=HI hk
 generalize l[k]=t at hx
 exact⟨t,by omega,PI hx,h t (HO hx),Ae,⟨ih (I l- (k+1)) (by omega) (k+1) rfl⟩⟩
theorem LY(d:Nat)(l:List cr)(hd:d<=100)(h1:((I l:Int)==0)=O)(h2:Y ((I l:Int)>8)=O)(h:∀t∈l,F0 169 [dT t,di d] (db J)):F0 169 [dT (.prod l),di ((d+1:Nat):Int)] (db J):=by
 have hz:(((d+1:Nat):Int)==0)=O:=Iy.2 (by omega)
 have h3:¬((I l:Int)>8):=I3 h2
 refine sv NG 132 [2] (.f<|.k<|.k<|.k<|.k<|.k<|.k<|.k<|.k<|.k<|.k<|.f<|.f<|.l [ke 1,ke 2,ch 5 (di (0:Nat))]) (_/\Y ((I (jv l):Int)<1)=O/\Y ((I (jv l):Int)>8)=O/\Q (di 0)/\_) ⟨hz,HM ?_,by grind[cr.ps],rfl,iK (Zm d l hd (by omega) h _ 0 rfl)⟩
 grind[cr.ps]
theorem Zk(m:cz)(hm:m.okN):F0 169 [dT (AE m),di 8] (db J):=by
 have hg:=hm.good
 simp only[AE,CQ,HJ,IA,I5] at hg
 obtain⟨h1,h2,h3⟩:=hg
 refine LY 7 _ (by omega) h1 h2 fun t ht=>?_
 have hgt:=h3 t ht
 rcases Iz.1 ht with rfl|ht
 ·simp only[CQ,HJ,HS] at hgt
  exact JF 6 _ hgt.1 hgt.2
 ·have e:=(List.mem_replicate.1 ht).2
  subst e
  unfold EK at hgt⊢
  split
  ·exact AdN 6
  ·rename_i hk
   rw[HZ hk] at hgt
   split
   ·rename_i hk2
    rw[Ie hk2] at hgt
    simp only[CQ,HJ,HS] at hgt
    exact Zi 6 _ (by omega) (JF 5 _ hgt.1 hgt.2)
   ·rename_i hk2
    rw[HZ hk2] at hgt
    simp only[CQ,HJ,Iv] at hgt
    exact Zl 6 _ _ hgt.1 hgt.2
noncomputable abbrev Aik:=Tryz.f107
theorem Yu(m:cz)(hm:m.okN):F0 107 [dT (AE m)] (di 0):=by
 refine sv Aik 6 [1] (.c (db J) .r) (F0 169 [bt (vT (AE m)),di 8] (db J)/\Q (di 0)) ?_
 grind[Zk]
noncomputable abbrev Ed:=Tryz.f109
noncomputable def C7:=yl Ed
theorem Af4(v:b9):F0 109 [dT .nat,dV v] (db (Ax .nat v)):=by
 refine sv Ed 169 [2,3] (.k<|.b (.b .r .r) .r) ((Y (v.n>=0)=J->(Y (v.n<=1048576)=J->db ((I (ce v.az):Int)==0)=db (Ax cr.nat v))/\(Y (v.n<=1048576)=O->db O=db (Ax cr.nat v)))/\(Y (v.n>=0)=O->db O=db (Ax cr.nat v))) ?_
 grind[Ax]
theorem LH(n:Int)(v:b9):F0 109 [dT (.lab n),dV v] (db (Ax (.lab n) v)):=by
 refine sv Ed 169 [2,3] (.k<|.k<|.b (.b .r .r) .r) ((Y (v.n>=0)=J->(Y (v.n<cr.sz (cr.lab n))=J->db ((I (ce v.az):Int)==0)=db (Ax (cr.lab n) v))/\(Y (v.n<cr.sz (cr.lab n))=O->db O=db (Ax (cr.lab n) v)))/\(Y (v.n>=0)=O->db O=db (Ax (cr.lab n) v))) ?_
 grind[cr.sz,Ax,C9]
noncomputable abbrev pn:=[kl C7 gb,bf 3,kc C7 [1,1,1,1]]
theorem Xq(t:cr)(v:b9)(hv:I v.az<=12)(h:∀k∈v.az,F0 109 [dT t,dV k] (db (Ax t k)))(n:Nat):∀k:Nat,I v.az-k=n->
  Rn PP Ed 0 (db ((v.az.drop k).all fun x=>Ax t x)) ba ([kl C7 [1,1,1,0,1,0,0],.blk 3,kc C7 [1,1,1,1]]++[]) (cy 169 [(2,.v (.ref (lx 4 0 [] [vT t]))),(3,.v (.ref (Ac v))),(6,di k)]) ba:=by
 induction n using Nat.strongRecOn with
 |_ n ih=>
 intro k hn
 refine lv 169 [2,3] (.b (.e fun x:b9=>.x (vT t)<|.x (Ac x)<|.c (db (Ax t x))<|.b .r (.l [ke 2,ke 3,ch 6 (di (k+1:Nat))])) .r) ((Y ((k:Int)<(I (ce v.az):Int))=J->∃a,iz 0<=0/\G (vT t)=G (vT t)/\0<=(k:Int)/\(ce v.az)[Z (k:Int)]?=G (Ac a)/\Aa PP 109 [bt (vT t),dV a] d7 (db (Ax t a)) d7/\((!Ax t a)=J->db O=db (List.all (W k v.az) fun x=>Ax t x))/\((!Ax t a)=O->di (yu yt ((k:Int)+1))=di (↑(k+1):Int)/\Nv.It (A2 (CN 0) PP (fun env σ1=>A9 PP Ed env σ1 (db (List.all (W k v.az) fun x=>Ax t x)) ba) pn (cy 169 [(2,bt (bz (lx 4 0 [] [vT t]))),(jw v),(6,di (↑(k+1):Int))]) d7)))/\(Y ((k:Int)<(I (ce v.az):Int))=O->db J=db (List.all (W k v.az) fun x=>Ax t x))) ⟨fun h1=>?_,fun h1=>?_⟩
 ·have hk:k<I v.az:=by grind
  have hx:v.az[k]?=G v.az[k]:=HI hk
  rw[HX hk]
  generalize v.az[k]=x at hx⊢
  refine⟨x,by decide,rfl,by omega,Ap hx,h x (HO hx),fun h2=>?_,fun h2=>⟨Ae,⟨?_⟩⟩⟩
  ·grind
  ·have h2:Ax t x=J:=by grind
   rw[all_cons,h2,Is]
   exact ih (I v.az- (k+1)) (by omega) (k+1) rfl
 grind[drop_of_length_le]
theorem Abb(t:cr)(v:b9)(h:∀k∈v.az,F0 109 [dT t,dV k] (db (Ax t k))):F0 109 [dT (.word t),dV v] (db (Ax (.word t) v)):=by
 rw[dT,Pa]
 refine sv Ed 169 [2,3] (.k<|.k<|.k<|.k<|.b .r (.b .r (.l [ke 2,ke 3,ch 6 (di (0:Nat))]))) (((v.n !=0)=J->db O=db (Ax (cr.word t) v))/\((v.n !=0)=O->(Y ((I (ce v.az):Int)>12)=J->db O=db (Ax (cr.word t) v))/\(Y ((I (ce v.az):Int)>12)=O->di 0=di (↑0:Int)/\I0 Ed (I ba.H) (db (Ax (cr.word t) v)) ba pn (cy 169 [(2,bt (bz (lx 4 0 [] [vT t]))),(jw v),(6,di (↑0:Int))]) ba))) ⟨fun h1=>?_,fun h1=>⟨fun h2=>?_,fun h2=>⟨rfl,⟨?_⟩⟩⟩⟩
 ·have h1:(v.n==0)=O:=by simpa using h1
  simp only[Ax,h1,Iq]
 ·have h2:¬((I v.az:Int)<=12):=by simpa using h2
  simp only[Ax,HM h2,Iq,Jv]
 ·have h1:(v.n==0)=J:=by simpa using h1
  have h2:(I v.az:Int)<=12:=by simpa using h2
  simp only[Ax,h1,HK h2,Is]
  exact Xq t v (by omega) h _ 0 rfl
theorem Xr(sz:Int)(r:List Int)(v:b9)(hv:I v.az<=12)(n:Nat):∀k:Nat,I v.az-k=n->
  Rn PP Ed 0 (db ((v.az.drop k).all fun x=>C9 sz x)) ba ([kl C7 [1,1,1,0,1,0,0],.blk 3,kc C7 [1,1,1,1]]++[]) (cy 169 [(2,.v (.ref (vT (.prio sz r)))),(3,.v (.ref (Ac v))),(6,di k)]) ba:=by
 induction n using Nat.strongRecOn with
 |_ n ih=>
 intro k hn
 refine lv 169 [2,3] (.b (.e fun x:b9=>.k<|.h (.xs (Ac x))<|.b .r (.h (.xs (Ac x))<|.b .r (.h (.xs (Ac x))<|.b .r (.l [ke 2,ke 3,ch 6 (di (k+1:Nat))])))) .r) ((Y ((k:Int)<(I (ce v.az):Int))=J->∃a,2=2/\0<=(k:Int)/\(ce v.az)[Z (k:Int)]?=G (Ac a)/\(Y (a.n<0)=J->db O=db (List.all (W k v.az) fun x=>C9 sz x))/\(Y (a.n<0)=O->2=2/\0<=(k:Int)/\(ce v.az)[Z (k:Int)]?=G (Ac a)/\(Y (a.n>=cr.sz (ge sz r))=J->db O=db (List.all (W k v.az) fun x=>C9 sz x))/\(Y (a.n>=cr.sz (ge sz r))=O->2=2/\0<=(k:Int)/\(ce v.az)[Z (k:Int)]?=G (Ac a)/\(Y ((I (ce a.az):Int)>0)=J->db O=db (List.all (W k v.az) fun x=>C9 sz x))/\(Y ((I (ce a.az):Int)>0)=O->di (yu yt ((k:Int)+1))=di (↑(k+1):Int)/\Nv.It (A2 (CN 0) PP (fun env σ1=>A9 PP Ed env σ1 (db (List.all (W k v.az) fun x=>C9 sz x)) ba) pn (cy 169 [(2,bt (bz (vT (ge sz r)))),(jw v),(6,di (↑(k+1):Int))]) d7)))))/\(Y ((k:Int)<(I (ce v.az):Int))=O->db J=db (List.all (W k v.az) fun x=>C9 sz x))) ⟨fun h1=>?_,fun h1=>?_⟩
 ·have hk:k<I v.az:=by grind
  have hx:v.az[k]?=G v.az[k]:=HI hk
  rw[HX hk]
  generalize v.az[k]=x at hx⊢
  refine⟨x,rfl,by omega,Ap hx,fun h2=>?_,fun h2=>⟨rfl,by omega,Ap hx,fun h3=>?_,fun h3=>⟨rfl,by omega,Ap hx,fun h4=>?_,fun h4=>⟨Ae,⟨?_⟩⟩⟩⟩⟩
  ·grind[C9]
  ·grind[cr.sz,C9]
  ·have h4:((I x.az:Int)==0)=O:=by grind
   grind[C9]
  ·have h2:x.n>=0:=by grind
   have h3:x.n<sz:=by grind[cr.sz]
   have h4:((I x.az:Int)==0)=J:=by grind
   rw[all_cons,C9,HK h2,HK h3,h4,Is,Is,Is]
   exact ih (I v.az- (k+1)) (by omega) (k+1) rfl
 grind[drop_of_length_le]
theorem Abe(sz:Int)(r:List Int)(v:b9):F0 109 [dT (.prio sz r),dV v] (db (Ax (.prio sz r) v)):=by
 refine sv Ed 169 [2,3] (.k<|.k<|.k<|.k<|.b .r (.b .r (.l [ke 2,ke 3,ch 6 (di (0:Nat))]))) (((v.n !=0)=J->db O=db (Ax (ge sz r) v))/\((v.n !=0)=O->(Y ((I (ce v.az):Int)>12)=J->db O=db (Ax (ge sz r) v))/\(Y ((I (ce v.az):Int)>12)=O->di 0=di (↑0:Int)/\I0 Ed (I ba.H) (db (Ax (ge sz r) v)) ba pn (cy 169 [(2,bt (bz (vT (ge sz r)))),(jw v),(6,di (↑0:Int))]) ba))) ⟨fun h1=>?_,fun h1=>⟨fun h2=>?_,fun h2=>⟨rfl,⟨?_⟩⟩⟩⟩
 ·grind[Ax]
 ·grind[Ax]
 ·have h1:(v.n==0)=J:=by grind
  have h2:(I v.az:Int)<=12:=by grind
  simp only[Ax,h1,HK h2,Is]
  exact Xr sz r v (by omega) _ 0 rfl
noncomputable abbrev Avp:=[kl C7 [1,0,1,0,1,1,1,1,1,1,1,0,1,0,1,0,0],bf 1,kc C7 [1,0,1,0,1,1,1,1,1,1,1,0,1,1],bf 0,kc C7 [1,1]]
theorem Xs(l:List cr)(v:b9)(hl:I v.az=I l)(hv:I v.az<=1000000)(h:∀t∈l,∀k∈v.az,F0 109 [dT t,dV k] (db (Ax t k)))(n:Nat):∀k:Nat,I l-k=n->
  Rn PP Ed 0 (db (BN (l.drop k) (v.az.drop k))) ba ([kl C7 [1,0,1,0,1,1,1,1,1,1,1,0,1,0,1,0,0],.blk 1,kc C7 [1,0,1,0,1,1,1,1,1,1,1,0,1,1],.blk 0,kc C7 [1,1]]++[]) (cy 169 [(2,.v (.ref (vT (.prod l)))),(3,.v (.ref (Ac v))),(5,di k)]) ba:=by
 induction n using Nat.strongRecOn with
 |_ n ih=>
 intro k hn
 refine lv 169 [2,3] (.b (.e fun t:cr=>.x (vT t)<|.e fun x:b9=>.x (Ac x)<|.c (db (Ax t x))<|.b .r (.l [ke 2,ke 3,ch 5 (di (k+1:Nat))])) .r) ((Y ((k:Int)<(I (ce v.az):Int))=J->∃a,0<=(k:Int)/\(jv l)[Z (k:Int)]?=G (vT a)/\∃a_1,0<=(k:Int)/\(ce v.az)[Z (k:Int)]?=G (Ac a_1)/\Aa PP 109 [bt (vT a),dV a_1] d7 (db (Ax a a_1)) d7/\((!Ax a a_1)=J->db O=db (BN (W k l) (W k v.az)))/\((!Ax a a_1)=O->di (yu yt ((k:Int)+1))=di (↑(k+1):Int)/\Nv.It (A2 (CN 0) PP (fun env σ1=>A9 PP Ed env σ1 (db (BN (W k l) (W k v.az))) ba) Avp (cy 169 [(qk l),(jw v),(5,di (↑(k+1):Int))]) d7)))/\(Y ((k:Int)<(I (ce v.az):Int))=O->db J=db (BN (W k l) (W k v.az)))) ⟨fun h1=>?_,fun h1=>?_⟩
 ·have hk:k<I v.az:=by grind
  have hk2:k<I l:=by omega
  have hx:v.az[k]?=G v.az[k]:=HI hk
  have hy:l[k]?=G l[k]:=HI hk2
  rw[HX hk,HX hk2]
  generalize v.az[k]=x at hx⊢
  generalize l[k]=t at hy⊢
  refine⟨t,by omega,PI hy,x,by omega,Ap hx,h t (HO hy) x (HO hx),fun h2=>?_,fun h2=>⟨Ae,⟨?_⟩⟩⟩
  ·grind[BN]
  ·have h2:Ax t x=J:=by grind
   simp only[BN,h2,Is]
   exact ih (I l- (k+1)) (by omega) (k+1) rfl
 grind[drop_of_length_le,BN]
theorem MF(l:List cr)(v:b9)(hv:v.size<=1000000)(h:∀t∈l,∀k∈v.az,F0 109 [dT t,dV k] (db (Ax t k))):F0 109 [dT (.prod l),dV v] (db (Ax (.prod l) v)):=by
 have hlen:=b9.length_le v.az
 have hsz:=b9.size_eq v
 refine sv Ed 169 [2,3] (.k<|.k<|.k<|.k<|.b .r (.b .r (.l [ke 2,ke 3,ch 5 (di (0:Nat))]))) (((v.n !=0)=J->db O=db (Ax (cr.prod l) v))/\((v.n !=0)=O->(((I (ce v.az):Int) !=(I (jv l):Int))=J->db O=db (Ax (cr.prod l) v))/\(((I (ce v.az):Int) !=(I (jv l):Int))=O->di 0=di (↑0:Int)/\I0 Ed (I ba.H) (db (Ax (cr.prod l) v)) ba Avp (cy 169 [(qk l),(jw v),(5,di (↑0:Int))]) ba))) ⟨fun h1=>?_,fun h1=>⟨fun h2=>?_,fun h2=>⟨rfl,⟨?_⟩⟩⟩⟩
 ·grind[Ax]
 ·grind[cr.ps,Ax]
 ·have h1:(v.n==0)=J:=by grind
  have h2:(I v.az:Int)=I l:=by grind[cr.ps]
  have h3:((I v.az:Int)==I l)=J:=by grind
  simp only[Ax,h1,h3,Is]
  exact Xs l v (by omega) (by omega) h _ 0 rfl
theorem Af5(m:cz)(v:b9):F0 109 [dT (EK m),dV v] (db (Ax (EK m) v)):=by
 grind[EK,Af4,Abb,LH,Abe]
theorem Abd(m:cz)(v:b9)(hv:v.size<=1000000):F0 109 [dT (AE m),dV v] (db (Ax (AE m) v)):=
 by grind[MF,LH,Af5,AE]
noncomputable abbrev Aia:=Tryz.f58
theorem Qy(m:cz)(hm:m.okN)(v:b9):F0 58 [dT (AE m),dV v] (db (Ah (AE m) v)):=by
 refine sv Aia 18 [2,3] (.c (di 0)<|.c (di (min (v.size:Int) 129))<|.b (.c (db (Ax (AE m) v)) .r) .r) (_/\_/\(Y (min (↑(iq v):Int) 129<=128)=J->F0 109 [bt (vT (AE m)),dV v] (db (Ax (AE m) v))/\db (Ax (AE m) v)=db (Ah (AE m) v))/\(Y (min (↑(iq v):Int) 129<=128)=O->db O=db (Ah (AE m) v))) ⟨Yu m hm,Hz _ v (HP _) 128 (by decide) (by decide),fun h1=>?_,fun h1=>?_⟩
 all_goals grind[Abd,Ah]
noncomputable abbrev Ou:=Tryz.f57
noncomputable def Ls:=yl Ou
theorem O5(m:cz)(t:cr)(b:Bool)(hl:I m.av<=1000000)(hk:(m.kind==6)=O)(hR:∀r∈m.av,F0 106 [Ad m,BP r] (db J))(hT:F0 59 [Ad m] (dT t))(hV:F0 58 [dT t,dV m.start] (db b))(n:Nat):∀k:Nat,I m.av-k=n->
  Rn PP Ou 0 (di (if b then 0 else 17)) ba ([kl Ls [1,1,1,1,1,0,1,0,0],.blk 0,kc Ls [1,1,1,1,1,1]]++[]) (cy 52 [(1,.v (.ref (A0 m))),(3,di k)]) ba:=by
 induction n using Nat.strongRecOn with
 |_ n ih=>
 intro k hn
 refine lv 52 [1] (.b (.e fun r:cf=>.x (Al r)<|.c (db J)<|.l [ke 1,ch 3 (di (k+1:Nat))]) (.f<|.c (dT t)<|.c (db b)<|.b .r .r)) ((Y ((k:Int)<(I (U Al m.av):Int))=J->∃a,0<=(k:Int)/\(U Al m.av)[Z (k:Int)]?=G (Al a)/\Aa PP 106 [Ad m,BP a] d7 (db J) d7/\di (yu yt ((k:Int)+1))=di (↑(k+1):Int)/\Nv.It (A2 (CN 0) PP (fun env σ1=>A9 PP Ou env σ1 (di (if b=J then 0 else 17)) ba) [kl Ls [1,1,1,1,1,0,1,0,0],bf 0,kc Ls [1,1,1,1,1,1]] (cy 52 [(1,bt (gd m)),(3,di (↑(k+1):Int))]) d7))/\(Y ((k:Int)<(I (U Al m.av):Int))=O->(m.kind==6)=O/\F0 59 [Ad m] (dT t)/\F0 58 [bt (vT t),dV m.start] (db b)/\((!b)=J->di 17=di (if b=J then 0 else 17))/\((!b)=O->di 0=di (if b=J then 0 else 17)))) ⟨fun h=>?_,fun h=>⟨hk,hT,hV,fun e=>?_,fun e=>?_⟩⟩
 ·have hk:k<I m.av:=by grind
  have hx:m.av[k]?=G m.av[k]:=HI hk
  generalize m.av[k]=r at hx
  exact⟨r,by omega,Am hx,hR r (HO hx),Ae,⟨ih (I m.av- (k+1)) (by omega) (k+1) rfl⟩⟩
 all_goals grind
theorem Wj(m:cz)(e:Int)(h1:A3 m.kind 1 6=J)(h2:F0 103 [Ad m] (db J))(h3:F0 104 [Ad m] (db J))(h4:F0 105 [Ad m] (db J))
  (hl:Rn PP Ou 0 (di e) ba ([kl Ls [1,1,1,1,1,0,1,0,0],.blk 0,kc Ls [1,1,1,1,1,1]]++[]) (cy 52 [(1,.v (.ref (A0 m))),(3,di (0:Nat))]) ba):F0 57 [Ad m] (di e):=by
 have h1:=h1▸CR m.kind 1 6
 exact sv Ou 52 [1] (.c (db J)<|.c (db J)<|.c (db J)<|.c (db J)<|.l [ke 1,ch 3 (di (0:Nat))]) (_/\_/\_/\_/\Q (di 0)/\_) ⟨h1,h2,h3,h4,rfl,iK hl⟩
theorem AcH(m:cz)(hm:m.okS):F0 57 [Ad m] (di (if Ah (AE m) m.start then 0 else 17)):=
 Wj m _ (by rcases hm.n.kind with h|h|h<;>rw[h]<;>rfl) (Xv m hm) (Xa m hm) (Xy m hm) (O5 m _ _ (by have:=hm.n.sz;omega) (by rcases hm.n.kind with h|h|h<;>rw[h]<;>rfl) (fun r hr=>Aah m hm r hr) (Q5 m hm) (Qy m hm m.start) _ 0 rfl)
theorem Gs(m:cz)(hm:m.ok):F0 57 [Ad m] (di 0):=by
 have:=AcH m hm
 rwa[hm.start,Ie rfl] at this
noncomputable abbrev Aib:=Tryz.f33
theorem Q0(m:cz)(hm:m.ok)(v:b9):F0 33 [Ad m,dV v] (db (Ah (AE m) v)):=by
 exact sv Aib 14 [2,3] (.c (di 0)<|.c (dT (AE m))<|.c (db (Ah (AE m) v)) .r) (_/\_/\_/\Q (db (Ah (AE m) v))) ⟨Gs m hm,Q5 m hm,Qy m hm v,rfl⟩
theorem Dq(m:cz)(hm:m.ok)(v:b9)(_:v.size<=1000000):F0 33 [Ad m,dV v] (db (Ah (AE m) v)):=Q0 m hm v
abbrev jr(l:List UInt8):V:=.list (l.map vb)
abbrev co(l:List UInt8)(a:Nat):List D:=[.v (jr l),di a]
abbrev dz(l:List UInt8)(a:Nat):St:=⟨[G (co l a)],[]⟩
noncomputable abbrev AmB:=Tryz.f14
theorem A5(l:List UInt8)(hl:I l<=200)(a:Nat)(ha:a<=I l)(n:Int)(hn:1<=n)(hn2:n<=1000):
  ∃(r:Int) (a':Nat),0<=r/\r<n/\a'<=I l/\Aa PP 14 [.ptr 0 0,di n] (dz l a) (di r) (dz l a'):=by
 by_cases h:a<I l
 ·refine⟨(l[a].toNat:Int)%n,a+1,Int.emod_nonneg _ (by omega),Int.emod_lt_of_pos _ (by omega),h,?_⟩
  refine sv AmB 36 [] (.f<|.x (vb l[a]) .r) (yo/\Y ((a:Int)>=(I (U vb l):Int))=O/\0<=yu yt (yu yt ((a:Int)+1)-1)/\(U vb l)[Z (yu yt (yu yt ((a:Int)+1)-1))]?=G (aa IntKind.u8 (↑(UInt8.toNat l[a]):Int))/\n≠0/\yo/\[G [bt (jr l),di (yu yt ((a:Int)+1))]]=[G (co l (a+1))]/\di (Int.tmod (yu yt (↑(UInt8.toNat l[a]):Int)) n)=di ((↑(UInt8.toNat l[a]):Int)%n)) ?_
  have hx:l[a]?=G l[a]:=HI h
  have hb:l[a].toNat<256:=UInt8.toNat_lt _
  generalize l[a]=c at hx hb
  rw[show yt.wrap (yt.wrap ((a:Int)+1)-1)=a by rw[Ak (n:=(a:Int)+1),Ak];omega]
  refine⟨ym,by rw[HH];exact yq,by omega,Am hx,by omega,ym,?_,?_⟩
  ·rw[Ak];rfl
  ·rw[Ak,Int.tmod_eq_emod_of_nonneg (by omega)]
 ·refine⟨0,a,by omega,by omega,ha,?_⟩
  exact sv AmB 36 [] (.t .r) (yo/\Y ((a:Int)>=(I (U vb l):Int))=J/\Q [G (co l a)]/\Q (di 0)) ⟨ym,by rw[HH];exact yr,rfl,rfl⟩
noncomputable abbrev AbT:=Tryz.f24
noncomputable def Y5:=yl AbT
abbrev xa(l:List UInt8)(a:Nat)(xs:List Int):St:=⟨[G (co l a)],[(1,1,xs.map vi)]⟩
theorem Ab4(l:List UInt8)(hl:I l<=200)(n:Nat)(hn:n<=100)(most:Int)(hm:0<=most)(hm2:most<=100)(N:Nat):∀(k:Nat) (a:Nat) (xs:List Int),n-k=N->k<=n->a<=I l->I xs=k->(∀x∈xs,0<=x/\x<=most)->
  ∃(ys:List Int) (a':Nat),a'<=I l/\ys.length=n/\(∀x∈ys,0<=x/\x<=most)/\
  Rn PP AbT 1 (cx ys) (dz l a') ([kl Y5 [1,1,0,1,0,0],.blk 0,kc Y5 [1,1,1]]++[]) (cy 22 [(0,.ptr 0 0),(1,di n),(2,di most),(7,.acc 1 (xs.map vi)),(8,di k)]) (xa l a xs):=by
 induction N with
 |zero=>
  intro k a xs hk hk0 ha hx hxs
  by_cases hkn:k=n
  ·refine⟨xs,a,ha,by omega,hxs,?_⟩
   exact lv 22 [] (.f .r) (Y ((k:Int)<(n:Int))=O/\Q [G (co l a)]/\Q (cx xs)) ⟨yq,rfl,rfl⟩
  ·exact absurd hk0 (by omega)
 |succ N ih=>
  intro k a xs hk hk0 ha hx hxs
  obtain⟨r,a1,h1,h2,h3,h4⟩:=A5 l hl a ha (most+1) (by omega) (by omega)
  obtain⟨ys,a',h5,h6,h7,h8⟩:=ih (k+1) a1 (xs++[r]) (by omega) (by omega) h3 (by simp[hx]) (fun x hx=>by
   rcases I6.1 hx with hx|hx
   ·exact hxs x hx
   ·rw[HY.1 hx];omega)
  refine⟨ys,a',h5,h6,h7,?_⟩
  refine lv 22 [] (.t<|.c1 (co l a1) (di r)<|.ls [ke 0,ke 1,ke 2,ch 7 (.acc 1 ((xs++[r]).map vi)),ch 8 (di (k+1:Nat))] (xa l a1 (xs++[r]))) (Y ((k:Int)<(n:Int))=J/\Aa PP 14 [bq 0 0,di (yu yt (most+1))] (dz l a) (di r) (dz l a1)/\Q (U vi xs)/\Ao (I (U vi xs)+I (aa yt r::nV)) 8/\br 1 (U vi xs++[vi r])=br 1 (U vi (xs++[r]))/\di (yu yt ((k:Int)+1))=di (↑(k+1):Int)/\Q [G (co l a1)]/\[(1,1,U vi xs++vi r::nV)]=[(1,1,U vi (xs++[r]))]/\_) ⟨yr,?_,rfl,⟨?_,?_⟩,by simp,Ae,rfl,by simp,iK h8⟩
  ·rw[Ak];exact h4
  ·simp only[HH,HN,HR];omega
  ·simp only[HH,HN,HR];omega
theorem GE(l:List UInt8)(hl:I l<=200)(a:Nat)(ha:a<=I l)(n:Nat)(hn:n<=100)(most:Int)(hm:0<=most)(hm2:most<=100):
  ∃(ys:List Int) (a':Nat),a'<=I l/\ys.length=n/\(∀x∈ys,0<=x/\x<=most)/\Aa PP 24 [.ptr 0 0,di n,di most] (dz l a) (cx ys) (dz l a'):=by
 obtain⟨ys,a',h1,h2,h3,h4⟩:=Ab4 l hl n hn most hm hm2 _ 0 a [] rfl (by omega) ha rfl (by simp)
 refine⟨ys,a',h1,h2,h3,?_⟩
 exact sv AbT 22 [] (.h (.q 2 0)<|.h (.nw 7 1 1)<|.ls [ke 0,ke 1,ke 2,ke 7,ch 8 (di (0:Nat))] (xa l a [])) (Q (di 0)/\Q (xa l a []).H/\Q [(1,1,nV)]/\_) ⟨rfl,rfl,rfl,iK h4⟩
noncomputable abbrev RE:=Tryz.f23
noncomputable def OM:=yl RE
abbrev xb(_:Int)(xs:List b9):St:=⟨[G [di 0,.v .nils],G [di 0,.acc 1 (xs.map eV)]],[(1,2,xs.map eV)]⟩
def CP(s:Int)(l:List Int):b9:=.mk 0 (.mk s []::l.map fun x=>.mk x [])
noncomputable abbrev ib:=fun a₀=>(vi a₀::ai nV::nV)
noncomputable abbrev Aus:=fun a₀=>(ab [vi 0,ai (U eV a₀)])
theorem Yx(l:List Int)(hl:I l<=1000)(s:Int)(n:Nat):∀(k:Nat) (xs:List b9),I l-k=n->I xs=k+1->
  Rn PP RE 0 (dV (.mk 0 (xs++(l.drop k).map fun x=>.mk x []))) ba ([kl OM [1,1,0,1,0,0],.blk 0,kc OM [1,1,1]]++[]) (cy 28 [(1,cx l),(4,.ptr 0 0),(5,.ptr 1 0),(6,di k)]) (xb s xs):=by
 induction n with
 |zero=>
  intro k xs hk hx
  refine lv 28 [] (.f .r) (Y ((k:Int)<(I (U vi l):Int))=O/\bt (Aus xs)=dV (b9.mk 0 (xs++U (fun x=>b9.mk x []) (W k l)))) ⟨by rw[HH];exact yq,?_⟩
  rw[Ic (by omega),IF,I8];rfl
 |succ n ih=>
  intro k xs hk hxl
  refine lv 28 [] (.t<|.e fun x:Int=>.x (vi x)<|.ls [ke 1,ke 4,ke 5,ch 6 (di (k+1:Nat))] (xb s (xs++[.mk x []]))) (Y ((k:Int)<(I (U vi l):Int))=J/\∃a,0<=(k:Int)/\(U vi l)[Z (k:Int)]?=G (vi a)/\Q (U eV xs)/\Ao (I (U eV xs)+I (ab (ib a)::nV)) 32/\yp/\di (yu yt ((k:Int)+1))=di (↑(k+1):Int)/\[G [di 0,dn],G [di 0,br 1 (U eV xs++ab (ib a)::nV)]]=[G [di 0,dn],G [di 0,br 1 (U eV (xs++[b9.mk a []]))]]/\[(1,2,U eV xs++ab (ib a)::nV)]=[(1,2,U eV (xs++[b9.mk a []]))]/\I0 RE 0 (dV (b9.mk 0 (xs++U (fun x=>b9.mk x []) (W k l)))) ba [kl OM ee,bf 0,kc OM [1,1,1]] (cy 28 [(1,cx l),(4,bq 0 0),(5,bq 1 0),(6,di (↑(k+1):Int))]) (xb s (xs++[b9.mk a []]))) ?_
  have hk1:k<I l:=by omega
  have hx:l[k]?=G l[k]:=HI hk1
  rw[HX hk1]
  generalize l[k]=x at hx⊢
  have h:=ih (k+1) (xs++[.mk x []]) (by omega) (by simp[hxl])
  rw[IQ] at h
  refine⟨by rw[HH];exact yr,x,by omega,Am hx,rfl,⟨?_,?_⟩,yn,Ae,?_,?_,⟨h⟩⟩
  ·simp only[HH,HN,HR];omega
  ·simp only[HH,HN,HR];omega
  ·rw[←BM];rfl
  ·rw[←BM];rfl
noncomputable abbrev ey:=fun a₀=>(b9.mk a₀ [])
theorem La(l:List Int)(hl:I l<=1000)(s:Int):F0 23 [di s,cx l] (dV (CP s l)):=by
 exact sv RE 28 [] (.a 1<|.h .g<|.ls [ke 1,ke 4,ke 5,ch 6 (di (0:Nat))] (xb s [.mk s []])) (Q (di 0)/\Q [G [di 0,dn],G [di 0,br 1 (eV (ey s)::nV)]]/\Q [(1,2,eV (ey s)::nV)]/\_) ⟨rfl,rfl,rfl,iK (Yx l hl s _ 0 [.mk s []] rfl rfl)⟩
abbrev mo:List (List UInt8):=[[114],[115],[116]]
def nc(nm:List UInt8)(f t:Int)(nd gv:List Int):cf:=⟨nm,f,t,nd,gv,[],0,0,0,[],[],[],[],0⟩
abbrev cM(S Pl:List (List UInt8))(rs:List cf):List D:=[di 1,.v (cp S),.v (cp Pl),.v .nils,.v .nils,di 0,di 0,.acc 2 (rs.map Al),di 0,.v .nils]
abbrev zM:List D:=[di 0,.v .nils,.v .nils,.v .nils,.v .nils,di 0,di 0,.v .nils,di 0,.v .nils]
abbrev j4(l:List UInt8)(a:Nat)(S Pl:List (List UInt8))(rs:List cf):St:=⟨[G (co l a),G zM,G (cM S Pl rs)],[(2,14,rs.map Al)]⟩
structure Ah3(ns np:Nat)(k:Nat)(r:cf):Prop where
 name:mo[k]?=G r.name
 aj:0<=r.aj/\r.aj<ns
 to:0<=r.to/\r.to<ns
 am:I r.am=np/\∀x∈r.am,0<=x/\x<=2
 ak:I r.ak=np/\∀x∈r.ak,0<=x/\x<=2
 rest:r=nc r.name r.aj r.to r.am r.ak
structure Qi(m:cz):Prop where
 kind:m.kind=1
 aw:m.aw=[[97]]∨m.aw=[[97],[98]]
 ay:m.ay=[[120]]∨m.ay=[[120],[121]]
 ax:m.ax=[]
 au:m.au=[]
 ao:m.ao=0
 age:m.age=0
 count:I m.av<=3
 pos:1<=I m.av
 av:∀k r,m.av[k]?=G r->Ah3 (I m.aw) (I m.ay) k r
 start:∃ys:List Int,I ys=I m.ay/\(∀x∈ys,0<=x/\x<=3)/\m.start=CP 0 ys
theorem AY(rs:List cf)(r:cf):rs.map Al++[Al r]=(rs++[r]).map Al:=by simp
noncomputable abbrev nh:=Tryz.f15
noncomputable def S0:=yl nh
noncomputable abbrev gg:=fun a₀=>(G [bt (cp a₀)])
noncomputable abbrev tb:=fun a₀=>[(2,14,U Al a₀)]
noncomputable abbrev Ary:=fun a₀ b₀ c₀ d₀=>Aa PP 14 [bq 0 0,di 3] (dz a₀ b₀) (di c₀) (dz a₀ d₀)
noncomputable abbrev Ass:=fun a₀ b₀ c₀ d₀ e₀=>(ae a₀::vi b₀::vi c₀::cw d₀::cw e₀::ai nV::vi 0::vi 0::vi 0::ai nV::ai nV::ai nV::ai nV::vi 0::nV)
noncomputable abbrev jx:=(0,bq 0 0)
noncomputable abbrev tj:=fun a₀ b₀ c₀ d₀ e₀=>[G (co a₀ b₀),G zM,G (cM c₀ d₀ e₀),G fq]
noncomputable abbrev Aty:=(bc #[115])
noncomputable abbrev Atz:=(bc #[114])
noncomputable abbrev Auo:=fun a₀ b₀ c₀ d₀ e₀=>(ab (ae a₀::aa yt b₀::aa yt c₀::cw d₀::cw e₀::ai nV::aa yt 0::aa yt 0::aa yt 0::ai nV::ai nV::ai nV::ai nV::aa yt 0::nV)::nV)
noncomputable abbrev Av0:=[kl S0 gb,bf 0,kc S0 [1,1,1,1]]
noncomputable abbrev Avi:=fun a₀=>[ke 0,ke 1,ke 4,ke 5,ke 6,ch 7 (di (a₀+1:Nat))]
noncomputable abbrev pq:=(5,bq 2 0)
noncomputable abbrev Awc:=(bc #[116])
noncomputable abbrev Awn:=(4,bq 1 0)
theorem Ag9(l:List UInt8)(hl:I l<=200)(S Pl:List (List UInt8))(hS:S=[[97]]∨S=[[97],[98]])(hP:Pl=[[120]]∨Pl=[[120],[121]])(n:Nat):∀(k a:Nat) (rs:List cf),3-k=n->a<=I l->k<=3->I rs=k->(∀i r,rs[i]?=G r->Ah3 (I S) (I Pl) i r)->
  ∃(m:cz) (a':Nat),Qi m/\a'<=I l/\Rn PP nh 1 (Ad m) (dz l a') ([kl S0 [1,1,1,0,1,0,0],.blk 0,kc S0 [1,1,1,1]]++[]) (cy 85 [(0,.ptr 0 0),(1,db O),(4,.ptr 1 0),(5,.ptr 2 0),(6,di (I Pl)),(7,di k)]) (j4 l a S Pl rs):=by
 induction n using Nat.strongRecOn with
 |_ n ih=>
 intro k a rs hn ha hk3 hrs hR
 have hSl:1<=I S/\S.length<=2:=by rcases hS with rfl|rfl<;>decide
 have hPl:1<=I Pl/\Pl.length<=2:=by rcases hP with rfl|rfl<;>decide
 obtain⟨r,a1,h1,h2,h3,h4⟩:=A5 l hl a ha 3 (by decide) (by decide)
 by_cases hk:(k:Int)<1+r
 ·obtain⟨f,a2,f1,f2,f3,f4⟩:=A5 l hl a1 h3 (I S) (by omega) (by omega)
  obtain⟨t,a3,t1,t2,t3,t4⟩:=A5 l hl a2 f3 (I S) (by omega) (by omega)
  obtain⟨nd,a4,n1,n2,n3,n4⟩:=GE l hl a3 t3 (I Pl) (by omega) 2 (by decide) (by decide)
  obtain⟨gv,a5,g1,g2,g3,g4⟩:=GE l hl a4 n1 (I Pl) (by omega) 2 (by decide) (by decide)
  obtain⟨nm,hnm⟩:∃nm,mo[k]?=G nm:=⟨_,HI (show k<I mo by show k<3;omega)⟩
  obtain⟨m,a',m1,m2,m3⟩:=ih (3- (k+1)) (by omega) (k+1) a5 (rs++[nc nm f t nd gv]) rfl g1 (by omega) (by simp[hrs]) (fun i r hi=>by
   by_cases hik:i<I rs
   ·rw[Ig hik] at hi;exact hR i r hi
   ·rw[Ib (by omega)] at hi
    have:i-I rs=0:=by
     have:=(HL.1 hi).1
     simp at this;omega
    rw[this] at hi
    simp at hi;subst hi
    have hik2:i=k:=by omega
    subst hik2
    exact⟨hnm,⟨f1,f2⟩,⟨t1,t2⟩,⟨n2,n3⟩,⟨g2,g3⟩,rfl⟩)
  refine⟨m,a',m1,m2,?_⟩
  refine lv 85 [] (.c1 (co l a1) (di r)<|.t<|.h (.dr 21)<|.x (.str nm)<|.c1 (co l a2) (di f)<|.c1 (co l a3) (di t)<|.c1 (co l a4) (cx nd)<|.c1 (co l a5) (cx gv)<|.ls (Avi k) (j4 l a5 S Pl (rs++[nc nm f t nd gv]))) (Ary l a r a1/\Y ((k:Int)<yu yt (1+r))=J/\0<=(k:Int)/\[ae Atz.data.toList,ae Aty.data.toList,ae Awc.data.toList][Z (k:Int)]?=G (ae nm)/\Aa PP 14 [bq 0 0,di (I (U ae S):Int)] (dz l a1) (di f) (dz l a2)/\Aa PP 14 [bq 0 0,di (I (U ae S):Int)] (dz l a1) (di f) (dz l a2)/\Q (di f)/\Aa PP 14 [bq 0 0,di (I (U ae S):Int)] (dz l a2) (di t) (dz l a3)/\Aa PP 14 [bq 0 0,di (I (U ae S):Int)] (dz l a2) (di t) (dz l a3)/\Q (di t)/\Aa PP 24 [bq 0 0,di (I Pl:Int),di 2] (dz l a3) (cx nd) (dz l a4)/\Aa PP 24 [bq 0 0,di (I Pl:Int),di 2] (dz l a3) (cx nd) (dz l a4)/\Q (cx nd)/\Aa PP 24 [bq 0 0,di (I Pl:Int),di 2] (dz l a4) (cx gv) (dz l a5)/\Aa PP 24 [bq 0 0,di (I Pl:Int),di 2] (dz l a4) (cx gv) (dz l a5)/\Q (cx gv)/\Q [bh (tj l a1 S Pl rs) (tb rs),bh (tj l a2 S Pl rs) (tb rs),bh (tj l a3 S Pl rs) (tb rs),bh (tj l a4 S Pl rs) (tb rs),bh (tj l a5 S Pl rs) (tb rs)]/\((yf (Q (gg S)))/\(yf (Q (gg S)))/\True)/\Q (U Al rs)/\Ao (I (U Al rs)+I (Auo nm f t nd gv)) 232/\di (yu yt ((k:Int)+1))=di (↑(k+1):Int)/\[G (co l a5),G zM,G [di 1,bt (cp S),bt (cp Pl),dn,dn,di 0,di 0,br 2 (U Al rs++ab (Ass nm f t nd gv)::nV),di 0,dn]]=[G (co l a5),G zM,G (cM S Pl (rs++[nc nm f t nd gv]))]/\[(2,14,U Al rs++ab (Ass nm f t nd gv)::nV)]=[(2,14,U Al (rs++[nc nm f t nd gv]))]/\I0 nh 1 (Ad m) (dz l a') Av0 (cy 85 [jx,(1,db O),Awn,pq,(6,di (I Pl:Int)),(7,di (↑(k+1):Int))]) (j4 l a5 S Pl (rs++[nc nm f t nd gv]))) ?_
  rw[show(I (S.map ae):Int)=(I S:Int) by rw[HH]]
  refine⟨h4,?_,by omega,CC hnm,f4,f4,rfl,t4,t4,rfl,n4,n4,rfl,g4,g4,rfl,rfl,by simp,rfl,⟨?_,?_⟩,Ae,?_,?_,⟨m3⟩⟩
  ·rw[Ak];exact HK hk
  ·simp only[HH,HN,HR];omega
  ·simp only[HH,HN,HR];omega
  ·show _=[G (co l a5),G zM,G [di 1,.v (cp S),.v (cp Pl),.v .nils,.v .nils,di 0,di 0,.acc 2 ((rs++[nc nm f t nd gv]).map Al),di 0,.v .nils]]
   rw[←AY];rfl
  ·rw[←AY];rfl
 ·obtain⟨ys,a2,y1,y2,y3,y4⟩:=GE l hl a1 h3 (I Pl) (by omega) 3 (by decide) (by decide)
  obtain⟨c,hc⟩:∃c,c=CP 0 ys:=⟨_,rfl⟩
  refine⟨⟨1,S,Pl,[],[],0,0,rs,c⟩,a2,⟨rfl,hS,hP,rfl,rfl,rfl,rfl,by show I rs<=3;omega,by show 1<=I rs;omega,hR,ys,y2,y3,hc⟩,y1,?_⟩
  refine lv 85 [] (.c1 (co l a1) (di r)<|.f<|.c1 (co l a2) (cx ys)<|.c (dV c) .r) (_/\Y ((k:Int)<yu yt (1+r))=O/\_/\F0 23 [di 0,cx ys] (dV c)/\Q [G (co l a2)]/\bt (ab [vi 1,ai (U ae S),ai (df Pl),ai [],ai [],vi 0,vi 0,ai (U Al rs),vi c.n,ai (ce c.az)])=Ad (cz.mk 1 S Pl [] [] 0 0 rs c)) ⟨h4,?_,y4,hc▸La ys (by omega) 0,rfl,rfl⟩
  rw[Ak];exact HM hk
noncomputable abbrev q7:=[ae (bc #[97]).data.toList,ae (bc #[98]).data.toList]
noncomputable abbrev tc:=(ae (bc #[120]).data.toList::ae (bc #[121]).data.toList::nV)
noncomputable abbrev kw:=[ae (bc #[120]).data.toList,ae (bc #[121]).data.toList]
noncomputable abbrev il:=fun a₀ b₀=>[G (co a₀ b₀),G si,G si]
noncomputable abbrev Atx:=(ae (bc #[97]).data.toList::ae (bc #[98]).data.toList::nV)
theorem An3(l:List UInt8)(hl:I l<=200)(a:Nat)(ha:a<=I l):
  ∃(m:cz) (a':Nat),Qi m/\a'<=I l/\Aa PP 15 [.ptr 0 0,db O] (dz l a) (Ad m) (dz l a'):=by
 obtain⟨r1,a1,h1,h2,h3,h4⟩:=A5 l hl a ha 2 (by decide) (by decide)
 obtain⟨r2,a2,h5,h6,h7,h8⟩:=A5 l hl a1 h3 2 (by decide) (by decide)
 obtain⟨S,hS,hS2⟩:∃S:List (List UInt8),(S=[[97]]∨S=[[97],[98]])/\(r1=0/\S=[[97]]∨r1=1/\S=[[97],[98]]):=by
  rcases(show r1=0∨r1=1 by omega) with h|h
  all_goals simp_all
 obtain⟨Pl,hP,hP2⟩:∃S:List (List UInt8),(S=[[120]]∨S=[[120],[121]])/\(r2=0/\S=[[120]]∨r2=1/\S=[[120],[121]]):=by
  rcases(show r2=0∨r2=1 by omega) with h|h
  all_goals simp_all
 obtain⟨m,a',m1,m2,m3⟩:=Ag9 l hl S Pl hS hP _ 0 a2 [] rfl h7 (by omega) rfl (fun i r h=>by grind)
 refine⟨m,a',m1,m2,?_⟩
 refine sv nh 85 [] (.h (.dr 11)<|.c1 (co l a1) (di r1)<|.c1 (co l a2) (di r2)<|.h .rn<|.h (.q 3 0)<|.h (.cl 2 7 2 14)<|.ls [ke 0,ke 1,ke 4,ke 5,ch 6 (di (I Pl)),ch 7 (di (0:Nat))] (j4 l a2 S Pl [])) (_/\_/\Q (di r1)/\(∀(x:V),x∈ q7->V.size x=1)/\0<=(fun x=>x.snd) (yt,yu yt (1+r1))/\(fun x=>x.snd) (yt,yu yt (1+r1))<=(↑(I q7):Int)/\_/\_/\Q (di r2)/\(∀(x:V),x∈ kw->V.size x=1)/\0<=(fun x=>x.snd) (yt,yu yt (1+r2))/\(fun x=>x.snd) (yt,yu yt (1+r2))<=(↑(I kw):Int)/\Q [bh (il l a) [],bh (il l a1) [],bh (il l a2) []]/\True/\di (I (W 0 (take (Z ((fun x=>x.snd) (yt,yu yt (1+r2)))) tc)):Int)=di (I Pl:Int)/\Q (di 0)/\[G (co l a2),G si,G [di 1,bt (ai (W 0 (take (Z ((fun x=>x.snd) (yt,yu yt (1+r1)))) Atx))),bt (ai (W 0 (take (Z ((fun x=>x.snd) (yt,yu yt (1+r2)))) tc))),dn,dn,di 0,di 0,br 2 nV,di 0,dn]]=[G (co l a2),G zM,G (cM S Pl [])]/\Q [(2,14,nV)]/\_) ⟨h4,h4,rfl,by simp[V.size],?_,?_,h8,h8,rfl,by simp[V.size],?_,?_,rfl,trivial,?_,rfl,?_,rfl,iK m3⟩
 ·grind[Ak]
 ·grind[Ak]
 ·grind[Ak]
 ·grind[Ak]
 ·rcases hP2 with⟨rfl,rfl⟩|⟨rfl,rfl⟩<;>rfl
 ·rcases hS2 with⟨rfl,rfl⟩|⟨rfl,rfl⟩<;>rcases hP2 with⟨rfl,rfl⟩|⟨rfl,rfl⟩<;>rfl
theorem Aj1{rs:List cf}(_:I rs<=3){ns np:Nat}(h:∀k r,rs[k]?=G r->Ah3 ns np k r):rs.map cf.name=mo.take (I rs):=by
 apply List.ext_getElem?
 intro i
 by_cases hi:i<I rs
 ·have hx:rs[i]?=G rs[i]:=HI hi
  rw[I1,hx,List.getElem?_take_of_lt hi,(h i _ hx).name];rfl
 grind
theorem AdP(ys:List Int)(n:Nat)(h:I ys=n)(h0:∀x∈ys,0<=x/\x<=1048576):BN (replicate n .nat) (ys.map fun x=>b9.mk x [])=J:=by
 induction n generalizing ys with
 |zero=>rfl
 |succ n ih=>cases ys with
  |nil=>rfl
  |cons y ys=>
   have:=h0 y (by simp)
   simp only[IC,Ik,BN,Ax,HJ,HS,Iv]
   grind[b9.n,b9.az]
theorem JJ(ys:List Int):b9.sizes (ys.map fun x=>b9.mk x [])=I ys:=by
 induction ys<;>grind[b9.sizes,b9.size]
theorem Hn(s:Int)(ys:List Int):(CP s ys).size=2+I ys:=by
 grind[CP,b9.size,b9.sizes,JJ]
theorem K4(m:cz)(hk:m.kind=1)(hpl:I m.ay<=100)(s:Int)(hs:0<=s/\s<I m.aw)(ys:List Int)(hy:I ys=I m.ay)(h:∀x∈ys,0<=x/\x<=1048576):Ah (AE m) (CP s ys)=J:=by
 grind[Ah,Hn,AE,EK,Ax,CP,b9.n,b9.az,BN,C9,AdP]
theorem Qi.ok{m:cz}(h:Qi m):m.ok:=by
 have hst:1<=I m.aw/\m.aw.length<=2:=by rcases h.aw with e|e<;>rw[e]<;>decide
 have hpl:1<=I m.ay/\m.ay.length<=2:=by rcases h.ay with e|e<;>rw[e]<;>decide
 have hb:∀{x a b:Int},a<=x->x<=b->A3 x a b=J:=fun h1 h2=>by grind[A3]
 have hget:∀r∈m.av,Ah3 (I m.aw) (I m.ay) (m.av.idxOf r) r:=fun r hr=>by
  have hi:=List.idxOf_lt_length_of_mem hr
  exact h.av _ r (by grind)
 have hc:=h.count
 refine⟨.inl h.kind,?_,?_,?_,?_,?_,?_,?_⟩
 ·simp only[Dr,Tt,Ie h.kind,HJ,HS,h.ax,h.ao,h.age]
  grind
 ·rw[C4,Ie (by rw[h.kind];rfl),h.au];rfl
 ·have hn:=Aj1 h.count h.av
  rw[F3,Gm,hn,Cj,h.ax]
  have:I m.av=0∨m.av.length=1∨m.av.length=2∨m.av.length=3:=by omega
  rcases h.aw with e|e<;>rcases h.ay with e'|e'<;>rcases this with e2|e2|e2|e2<;>rw[e,e',e2]<;>decide
 ·intro r hr
  have hm:=hget r hr
  have h1:=hm.am.1
  have h2:=hm.ak.1
  rw[hm.rest]
  exact⟨by show I r.am<=_;omega,by show I r.ak<=_;omega,Iu _,Iu _,Iu _,Iu _,Iu _⟩
 ·intro r hr
  have hm:=hget r hr
  obtain⟨f1,f2⟩:=hm.aj
  obtain⟨t1,t2⟩:=hm.to
  obtain⟨n1,n2⟩:=hm.am
  obtain⟨g1,g2⟩:=hm.ak
  have hr:=hm.rest
  rw[Fy,Ie h.kind]
  grind[E8,Ci,Eo,Ch,Rf,nc]
 ·obtain⟨ys,y1,y2,y3⟩:=h.start
  rw[y3]
  exact K4 m h.kind (by omega) 0 ⟨by omega,by omega⟩ ys y1 fun x hx=>by grind
 ·obtain⟨ys,y1,y2,y3⟩:=h.start
  grind[Hn]
abbrev lf(y:Int):b9:=.mk y []
structure km(c:b9)(s:Int)(ys:List Int):Prop where
 eq:c=CP s ys
 len:I c.az=I ys+1
 head:c.az[0]?=G (lf s)
 at':∀(i:Nat) (y:Int),ys[i]?=G y->c.az[i+1]?=G (lf y)
theorem isC(s:Int)(ys:List Int):km (CP s ys) s ys:=
 ⟨rfl,by simp[CP,b9.az],rfl,fun i y h=>by grind[CP,b9.az]⟩
noncomputable abbrev Anc:=Tryz.f183
noncomputable abbrev ti:=fun a₀=>F0 57 [Ad a₀] (di 0)
theorem XC(m:cz)(hm:m.ok)(hk:m.kind=1)(i:Nat)(hi:i<I m.av):F0 183 [Ad m,di i] (di 0):=by
 refine sv Anc 23 [2] (.c (di 0)<|.k<|.f<|.f<|.f .r) (ti m/\(m.kind !=1)=O/\Y ((i:Int)<0)=O/\Y ((i:Int)>=(I (U Al m.av):Int))=O/\Q (di 0)) ?_
 grind[Gs]
noncomputable abbrev vn:=Tryz.f184
noncomputable def Y7:=yl vn
def Ea:List Int->List Int->Bool
 |n::ns,y::ys=> !decide (y<n)&&Ea ns ys
 |_,_=>true
def gf(r:cf)(s:Int)(ys:List Int):Bool:=(s==r.aj)&&Ea r.am ys
theorem Acg(r:cf)(c:b9)(s:Int)(ys:List Int)(hc:km c s ys)(hl:I r.am=I ys)(hl2:I ys<=1000)(n:Nat):∀k:Nat,I r.am-k=n->
  Rn PP vn 0 (db (Ea (r.am.drop k) (ys.drop k))) ba ([kl Y7 [1,1,0,1,0,0],.blk 0,kc Y7 [1,1,1]]++[]) (cy 34 [(2,.v (.ref (Al r))),(3,.v (.ref (Ac c))),(5,di k)]) ba:=by
 induction n using Nat.strongRecOn with
 |_ n ih=>
 intro k hn
 refine lv 34 [2,3] (.b (.e fun y:Int=>.h (.xs (Ac (lf y)))<|.e fun x:Int=>.x (vi x)<|.b .r (.l [ke 2,ke 3,ch 5 (di (k+1:Nat))])) .r) ((Y ((k:Int)<(I (cc r.am):Int))=J->∃a,2=2/\0<=yu yt (1+(k:Int))/\(ce c.az)[Z (yu yt (1+(k:Int)))]?=G (Ac (lf a))/\∃a_1,0<=(k:Int)/\(cc r.am)[Z (k:Int)]?=G (vi a_1)/\(Y (b9.n (lf a)<a_1)=J->db O=db (Ea (W k r.am) (W k ys)))/\(Y (b9.n (lf a)<a_1)=O->di (yu yt ((k:Int)+1))=di (↑(k+1):Int)/\Nv.It (A2 (CN 0) PP (fun env σ1=>A9 PP vn env σ1 (db (Ea (W k r.am) (W k ys))) ba) [kl Y7 ee,bf 0,kc Y7 [1,1,1]] (cy 34 [(2,bt (bz (Al r))),(jw c),(5,di (↑(k+1):Int))]) d7)))/\(Y ((k:Int)<(I (cc r.am):Int))=O->db J=db (Ea (W k r.am) (W k ys)))) ⟨fun h=>?_,fun h=>?_⟩
 ·have hk:k<I r.am:=by simpa using h
  have hk2:k<I ys:=by omega
  have hx:r.am[k]?=G r.am[k]:=HI hk
  have hy:ys[k]?=G ys[k]:=HI hk2
  have hcy:=hc.at' k _ hy
  rw[HX hk,HX hk2]
  generalize r.am[k]=x at hx⊢
  generalize ys[k]=y at hcy⊢
  have e1:yt.wrap (1+(k:Int))=((k+1:Nat):Int):=by rw[Ak];omega
  rw[e1]
  refine⟨y,rfl,by omega,Ap hcy,x,by omega,Am hx,fun h1=>?_,fun h1=>⟨Ae,⟨?_⟩⟩⟩
  ·have h1:Y (y<x)=J:=h1
   simp only[Ea,h1,Bool.not_true,Iq]
  ·have h1:Y (y<x)=O:=h1
   simp only[Ea,h1,Bool.not_false,Is]
   exact ih (I r.am- (k+1)) (by omega) (k+1) rfl
 grind[drop_of_length_le,Ea]
theorem Acf(r:cf)(c:b9)(s:Int)(ys:List Int)(hc:km c s ys)(hl:I r.am=I ys)(hl2:I ys<=1000):F0 184 [BP r,dV c] (db (gf r s ys)):=by
 refine sv vn 34 [2,3] (.h (.xs (Ac (lf s)))<|.b .r (.l [ke 2,ke 3,ch 5 (di (0:Nat))])) (Q 2/\iz 0<=0/\(ce c.az)[Z 0]?=G (Ac (lf s))/\((b9.n (lf s) !=r.aj)=J->db O=db (gf r s ys))/\((b9.n (lf s) !=r.aj)=O->di 0=di (↑0:Int)/\I0 vn (I ba.H) (db (gf r s ys)) ba [kl Y7 ee,bf 0,kc Y7 [1,1,1]] (cy 34 [(2,bt (bz (Al r))),(jw c),(5,di (↑0:Int))]) d7)) ⟨rfl,by decide,Ap (i:=0) hc.head,fun h=>?_,fun h=>⟨rfl,⟨?_⟩⟩⟩
 ·have h:(s !=r.aj)=J:=h
  grind[gf]
 ·have h:(s !=r.aj)=O:=h
  have h:(s==r.aj)=J:=by grind
  simp only[gf,h,Is]
  exact Acg r c s ys hc hl hl2 _ 0 rfl
noncomputable abbrev Ang:=Tryz.f120
noncomputable abbrev j8:=fun a₀ b₀=>F0 33 [Ad a₀,dV b₀] (db J)
theorem XO(m:cz)(hm:m.ok)(hk:m.kind=1)(i:Nat)(r:cf)(hi:m.av[i]?=G r)(c:b9)(hcs:c.size<=1000000)(hv:Ah (AE m) c=J)(s:Int)(ys:List Int)(hc:km c s ys)(hl:I r.am=I ys)(hl2:I ys<=1000):F0 120 [Ad m,di i,dV c] (.tup [db (gf r s ys),di 0]):=by
 refine sv Ang 26 [3,5] (.c (di 0)<|.c (db J)<|.x (Al r)<|.c (db (gf r s ys)) .r) (F0 183 [Ad m,di (i:Int)] (di 0)/\j8 m c/\0<=(i:Int)/\(U Al m.av)[Z (i:Int)]?=G (Al r)/\F0 184 [BP r,dV c] (db (gf r s ys))/\Q (bk [db (gf r s ys),di 0])) ?_
 grind[Dq,XC,Acf]
noncomputable abbrev Nm:=Tryz.f63
noncomputable def FA:=yl Nm
abbrev cR(r:cf):List D:=[.v (.str r.name),di r.aj,di r.to,cx r.am,cx r.ak,cx r.move,di r.chan,di r.act,di r.letter,cx r.path,cx r.next,.v (AD r.ar),cx r.aq,di r.second]
def Tf:List b9->List Int->List Int->b9×Int
 |xs,w::ws,g::gs=>if Y (w+g>1048576)=J then(.mk 0 [],1) else Tf (xs++[lf (w+g)]) ws gs
 |xs,_,_=>(.mk 0 xs,0)
abbrev dP(p:b9×Int):D:=.tup [dV p.1,di p.2]
abbrev nk(xs:List b9)(ws gs:List Int):D:=dP (Tf xs ws gs)
def YI(r:cf)(ys:List Int):List Int:=zipWith (fun y n=>y-n) ys r.am
abbrev gz(r:cf)(ws:List Int):St:=⟨[G [di 0,.v .nils],G (cR r),G (c9 ws)],[]⟩
abbrev j3(r:cf)(ws:List Int)(xs:List b9):St:=⟨[G [di 0,.v .nils],G (cR r),G (c9 ws),G [di 0,.acc 1 (xs.map eV)]],[(1,2,xs.map eV)]⟩
noncomputable abbrev jh:=(6,bq 0 0)
noncomputable abbrev mf:=(ab [vi 0,ai []])
theorem Akn(r:cf)(ws:List Int)(hw:I ws<=1000)(hg:I r.ak=I ws)(hb:∀w∈ws, -10000000<=w/\w<=10000000)(hb2:∀w∈r.ak, -10000000<=w/\w<=10000000)(n:Nat):∀(k:Nat) (xs:List b9),I ws-k=n->I xs<=k+1->
  Rn PP Nm 0 (nk xs (ws.drop k) (r.ak.drop k)) ba ([kl FA [1,1,1,1,1,1,1,1,0,1,0,0],.blk 2,kc FA [1,1,1,1,1,1,1,1,1]]++[]) (cy 116 [(6,.ptr 0 0),(10,.ptr 1 0),(11,.arr 2 0 (I ws)),(14,.ptr 3 0),(15,di k)]) (j3 r ws xs):=by
 induction n with
 |zero=>
  intro k xs hn hx
  refine lv 116 [3,5] (.f .r) (Y ((k:Int)<(I ws:Int))=O/\bk [bt (Aus xs),di 0]=nk xs (W k ws) (W k r.ak)) ⟨yq,?_⟩
  rw[Ic (show I ws<=k by omega)]
  rfl
 |succ n ih=>
  intro k xs hn hx
  obtain⟨w,hw1⟩:=yk (show k<I ws by omega)
  obtain⟨g,hg1⟩:∃g,r.ak[k]?=G g:=⟨_,HI (show k<I r.ak by omega)⟩
  refine lv 116 [3,5] (.t<|.m (di w)<|.x (vi g)<|.b .r (.m (.acc 1 (xs.map eV))<|.m (di w)<|.x (vi g)<|.lo [ke 6,ke 10,ke 11,ke 14,ch 15 (di (k+1:Nat))] (j3 r ws (xs++[lf (w+g)])))) (Y ((k:Int)<(I ws:Int))=J/\0<=(k:Int)/\(k:Int)<(I ws:Int)/\(c9 ws)[0+Z (k:Int)*1]?=G (di w)/\0<=(k:Int)/\(cc r.ak)[Z (k:Int)]?=G (vi g)/\yo/\(Y (yu yt (w+g)>1048576)=J->bk [bt mf,di 1]=nk xs (W k ws) (W k r.ak))/\(Y (yu yt (w+g)>1048576)=O->Q (G (br 1 (U eV xs)))/\0<=(k:Int)/\(k:Int)<(I ws:Int)/\(c9 ws)[0+Z (k:Int)*1]?=G (di w)/\0<=(k:Int)/\(cc r.ak)[Z (k:Int)]?=G (vi g)/\Q (U eV xs)/\Ao (I (U eV xs)+I (ab (aa yt (yu yt (w+g))::ai nV::nV)::nV)) 32/\(yj (True))/\di (yu yt ((k:Int)+1))=di (↑(k+1):Int)/\cm 4 [1] [G [di 0,dn],G (cR r),G (c9 ws),G [di 0,br 1 (U eV xs++[ab [vi (yu yt (w+g)),ai []]])]]=J/\[G [di 0,dn],G (cR r),G (c9 ws),G [di 0,br 1 (U eV xs++ab (vi (yu yt (w+g))::ai nV::nV)::nV)]]=[G [di 0,dn],G (cR r),G (c9 ws),G [di 0,br 1 (U eV (xs++[lf (w+g)]))]]/\[(1,2,U eV xs++ab (vi (yu yt (w+g))::ai nV::nV)::nV)]=[(1,2,U eV (xs++[lf (w+g)]))]/\I0 Nm 0 (nk xs (W k ws) (W k r.ak)) ba [kl FA [1,1,1,1,1,1,1,1,0,1,0,0],bf 2,kc FA [1,1,1,1,1,1,1,1,1]] (cy 116 [jh,(10,bq 1 0),(11,bo 2 0 (I ws)),(14,bq 3 0),(15,di (↑(k+1):Int))]) (j3 r ws (xs++[lf (w+g)])))) ?_
  have b1:=hb w (HO hw1)
  have b2:=hb2 g (HO hg1)
  have e1:yt.wrap (w+g)=w+g:=Ak
  have e2:(c9 ws)[0+Z (k:Int)*1]?=G (di w):=by grind
  have e3:ws.drop k=w::ws.drop (k+1):=by grind[List.drop_eq_getElem_cons]
  have e4:r.ak.drop k=g::r.ak.drop (k+1):=by grind[List.drop_eq_getElem_cons]
  rw[e1,e3,e4]
  refine⟨yr,by omega,by omega,e2,by omega,Am hg1,ym,fun h=>?_,fun h=>⟨rfl,by omega,by omega,e2,by omega,Am hg1,rfl,⟨?_,?_⟩,⟨trivial,trivial,trivial,trivial⟩,Ae,?_,?_,?_,⟨?_⟩⟩⟩
  ·simp only[nk,Tf,h,IT];rfl
  ·grind
  ·grind
  ·simp[cm,D.okNs,D.okN,BB]
  ·rw[←BM];rfl
  ·rw[←BM];rfl
  ·have:=ih (k+1) (xs++[lf (w+g)]) (by omega) (by grind)
   grind[Tf]
def jc(r:cf)(s:Int)(ys:List Int):b9×Int:=if gf r s ys=J then Tf [lf r.to] (YI r ys) r.ak else(.mk 0 [],18)
noncomputable abbrev AmJ:=Tryz.f32
theorem JY(m:cz)(hm:m.ok):F0 32 [Ad m] (di 0):=by
 exact sv AmJ 12 [1] (.c (di 0)<|.k<|.f .r) (_/\(m.kind==6)=O/\Q (di 0)) ⟨Gs m hm,by rcases hm.kind with h|h|h<;>rw[h]<;>rfl,rfl⟩
noncomputable abbrev Ags:=Tryz.f60
noncomputable abbrev me:=fun a₀=>F0 32 [Ad a₀] (di 0)
noncomputable abbrev pp:=[bt (ai []),di 0]
theorem AlE(m:cz)(hm:m.ok)(hk:m.kind=1)(c:b9)(hcs:c.size<=1000000)(hv:Ah (AE m) c=J):F0 60 [Ad m,dV c] (.tup [dl [],di 0]):=by
 refine sv Ags 38 [2,3] (.c (di 0)<|.c (db J)<|.k<|.f<|.f<|.f .r) (me m/\j8 m c/\(m.kind==2)=O/\(m.kind==3)=O/\(m.kind==5)=O/\bk pp=bk [dl [],di 0]) ?_
 grind[Dq,JY]
noncomputable abbrev vq:=Tryz.f34
def Cu(p:b9×Int):List b9×Int:=if (p.2==18)=J then([],0) else if (p.2 !=0)=J then([],p.2) else([p.1],0)
abbrev dq(p:List b9×Int):D:=.tup [cq p.1,di p.2]
theorem AnO(m:cz)(hm:m.ok)(hk:m.kind=1)(c:b9)(hcs:c.size<=1000000)(hv:Ah (AE m) c=J):F0 34 [Ad m,di (-1),dV c] (dq ([],0)):=by
 refine sv vq 78 [3,5] (.c (di 0)<|.k<|.k<|.f<|.c (db J)<|.c (.tup [dl [],di 0]) .r) (me m/\Y (-1>=(I (U Al m.av):Int))=O/\j8 m c/\F0 60 [Ad m,dV c] (bk [dl [],di 0])/\bk pp=dq ([],0)) ?_
 grind[Dq,JY,AlE]
theorem AnP(m:cz)(hm:m.ok)(hk:m.kind=1)(i:Nat)(hi:i<I m.av)(c:b9)(hcs:c.size<=1000000)(hv:Ah (AE m) c=J)(p:b9×Int)(hp:F0 63 [Ad m,di i,dV c] (dP p)):
  F0 34 [Ad m,di i,dV c] (dq (Cu p)):=by
 refine sv vq 78 [3,5] (.c (di 0)<|.k<|.f<|.f<|.c (db J)<|.k<|.f<|.f<|.f<|.c (dP p)<|.f<|.b .r (.b .r .r)) (me m/\Y ((i:Int)< -1)=O/\Y ((i:Int)>=(I (U Al m.av):Int))=O/\j8 m c/\((i:Int)== -1)=O/\(m.kind==4)=O/\(m.kind==5)=O/\F0 63 [Ad m,di (i:Int),dV c] (dP p)/\(m.kind !=1)=O/\((p.snd==18)=J->bk pp=dq (Cu p))/\((p.snd==18)=O->((p.snd !=0)=J->bk [bt (ai []),di p.snd]=dq (Cu p))/\((p.snd !=0)=O->bk [bt (ai [ab [vi p.fst.n,dt p.fst.az]]),di 0]=dq (Cu p)))) ?_
 grind[Dq,JY,Cu,AH]
abbrev cb:=Int×b9
abbrev c8(s:cb):V:=.agg [vi s.1,vi s.2.n,dt s.2.az]
abbrev B2(l:List cb):V:=.list (l.map c8)
noncomputable abbrev Gp:=Tryz.f18
noncomputable def Cz:=yl Gp
abbrev Sl(l:List cb):D:=.acc 1 (l.map c8)
abbrev FF(l:List cb):St:=⟨[],[(1,3,l.map c8)]⟩
theorem U2(l:List cb)(s:cb):l.map c8++[c8 s]=(l++[s]).map c8:=by simp
def CX(ap:Int->List b9×Int):Nat->Int->List cb->List cb×Int
 |0,_,acc=>if Y ((I acc:Int)>256)=J then([],1) else(acc,0)
 |n+1,i,acc=>if ((ap i).2 !=0)=J then([],(ap i).2) else CX ap n (i+1) (acc++(ap i).1.map fun v=>(i,v))
abbrev fw(p:List cb×Int):D:=.tup [.v (B2 p.1),di p.2]
theorem Aht(m:cz)(c:b9)(rl:Int)(hr1: -1<=rl)(hr2:rl<=1000)(l:List b9)(hl0:I l<=1000)(p:List cb×Int)(fin:List cb)(hf:I fin<=100000)
  (hout:Rn PP Gp 0 (fw p) ba ([kl Cz [1,1,1,1,0,1,0,0],.blk 0,kc Cz [1,1,1,1,1]]++[]) (cy 57 [(2,.v (.ref (A0 m))),(3,.v (.ref (Ac c))),(7,Sl fin),(8,di (rl+1))]) (FF fin)) (n:Nat):∀(k:Nat) (xs:List cb),I l-k=n->xs++(l.drop k).map (fun v=>(rl,v))=fin->
  Rn PP Gp 0 (fw p) ba ([kl Cz [1,1,1,1,0,1,0,0,1,0,0,1,1,1,0,0],.blk 2,.blk 1,kc Cz [1,1,1,1,0,1,0,0,1,1],kl Cz [1,1,1,1,0,1,0,0],.blk 0,kc Cz [1,1,1,1,1]]++[]) (cy 57 [(2,.v (.ref (A0 m))),(3,.v (.ref (Ac c))),(7,Sl xs),(8,di rl),(9,cq l),(11,di k)]) (FF xs):=by
 induction n with
 |zero=>
  intro k xs hn hx
  rw[Ic (by omega),IF,I8] at hx
  subst hx
  exact lv 57 [2,3] (.f<|.l [ke 2,ke 3,ke 7,ch 8 (di (rl+1))]) (Y ((k:Int)<(I (U eV l):Int))=O/\di (yu yt (rl+1))=di (rl+1)/\_) ⟨by grind,by grind[Ak],iK hout⟩
 |succ n ih=>
  intro k xs hn hx
  have hk:k<I l:=by omega
  have hv:l[k]?=G l[k]:=HI hk
  rw[HX hk] at hx
  generalize l[k]=v at hv hx
  refine lv 57 [2,3] (.t<|.x (Ac v)<|.w<|.ls [ke 2,ke 3,ch 7 (Sl (xs++[(rl,v)])),ke 8,ke 9,ch 11 (di (k+1:Nat))] (FF (xs++[(rl,v)]))) (Y ((k:Int)<(I (U eV l):Int))=J/\0<=(k:Int)/\(U eV l)[Z (k:Int)]?=G (Ac v)/\Q (U c8 xs)/\Ao (I (U c8 xs)+I (ab (aa yt rl::vi v.n::dt v.az::nV)::nV)) 40/\(∀(y:V),y∈ [ab [vi rl,vi v.n,dt v.az]]->V.size y=3)/\br 1 (U c8 xs++[ab [vi rl,vi v.n,dt v.az]])=Sl (xs++[(rl,v)])/\di (yu yt ((k:Int)+1))=di (↑(k+1):Int)/\[(1,3,U c8 xs++ab (vi rl::vi v.n::dt v.az::nV)::nV)]=[(1,3,U c8 (xs++[(rl,v)]))]/\_) ⟨by rw[HH];exact yr,by omega,Ap hv,rfl,⟨?_,?_⟩,by simp[V.size],?_,Ae,?_,iK (ih (k+1) (xs++[(rl,v)]) (by omega) (by rw[←hx];simp))⟩
  all_goals grind
theorem OQ(m:cz)(hm:I m.av<=12)(c:b9)(ap:Int->List b9×Int)(hl:∀i,(ap i).1.length<=1000)(hap:∀i:Int, -1<=i->i<I m.av->F0 34 [Ad m,di i,dV c] (dq (ap i)))(n:Nat):∀(rl:Int) (xs:List cb), -1<=rl->rl<=I m.av->(I m.av-rl).toNat=n->I xs<=(rl+1).toNat*1000->
  Rn PP Gp 0 (fw (CX ap n rl xs)) ba ([kl Cz [1,1,1,1,0,1,0,0],.blk 0,kc Cz [1,1,1,1,1]]++[]) (cy 57 [(2,.v (.ref (A0 m))),(3,.v (.ref (Ac c))),(7,Sl xs),(8,di rl)]) (FF xs):=by
 induction n with
 |zero=>
  intro rl xs h1 h2 hn hx
  refine lv 57 [2,3] (.f<|.b .r .r) (Y (rl<(I (U Al m.av):Int))=O/\(Y ((I (U c8 xs):Int)>256)=J->bk [bt (ai []),di 1]=fw (CX ap 0 rl xs))/\(Y ((I (U c8 xs):Int)>256)=O->bk [bt (ai (U c8 xs)),di 0]=fw (CX ap 0 rl xs))) ?_
  grind[CX]
 |succ n ih=>
  intro rl xs h1 h2 hn hx
  have hp:=hap rl h1 (by omega)
  have hi:=ih (rl+1) (xs++(ap rl).1.map fun v=>(rl,v)) (by omega) (by omega) (by omega) (by have:=hl rl;simp only[HW,HH];omega)
  have hll:=hl rl
  generalize ap rl=q at*
  refine lv 57 [2,3] (.t<|.c (dq q)<|.b .r (.l [ke 2,ke 3,ke 7,ke 8,ke 9,ch 11 (di (0:Nat))])) (Y (rl<(I (U Al m.av):Int))=J/\_/\((q.snd !=0)=J->bk [bt (ai []),di q.snd]=fw (if (q.snd !=0)=J then([],q.snd) else CX ap n (rl+1) (xs++U (fun v=>(rl,v)) q.fst)))/\((q.snd !=0)=O->di 0=di (↑0:Int)/\I0 Gp 0 (fw (if (q.snd !=0)=J then([],q.snd) else CX ap n (rl+1) (xs++U (fun v=>(rl,v)) q.fst))) ba [kl Cz [1,1,1,1,0,1,0,0,1,0,0,1,1,1,0,0],bf 2,bf 1,kc Cz [1,1,1,1,0,1,0,0,1,1],kl Cz ia,bf 0,kc Cz [1,1,1,1,1]] (cy 57 [(2,bt (gd m)),(jw c),(7,br 1 (U c8 xs)),(8,di rl),(9,cq q.fst),(11,di (↑0:Int))]) (FF xs))) ⟨by rw[HH];exact yr,hp,fun h=>?_,fun h=>⟨rfl,⟨?_⟩⟩⟩
  ·rw[Ie h];rfl
  ·rw[HZ (by rw[h];decide)]
   exact Aht m c rl h1 (by omega) q.1 hll _ _ (by simp only[HW,HH];omega) hi _ 0 xs rfl (by simp)
noncomputable abbrev te:=fun a₀ b₀=>[(2,bt (bz (A0 a₀))),(3,bt (bz (Ac b₀))),(7,br 1 []),(8,di (-1))]
noncomputable abbrev tx:=[ke 2,ke 3,ke 7,ch 8 (di (-1))]
theorem YD(m:cz)(hm:m.ok)(c:b9)(hcs:c.size<=1000000)(hv:Ah (AE m) c=J)(ap:Int->List b9×Int)(hl:∀i,(ap i).1.length<=1000)(hap:∀i:Int, -1<=i->i<I m.av->F0 34 [Ad m,di i,dV c] (dq (ap i))):
  F0 18 [Ad m,dV c] (fw (CX ap (I m.av+1) (-1) [])):=by
 have hsz:=hm.sz
 have h1:=Dq m hm c hcs
 rw[hv] at h1
 refine sv Gp 57 [2,3] (.c (di 0)<|.c (db J)<|.h (.q 7 0)<|.h (.nw 7 1 3)<|.ls tx (FF [])) (_/\_/\Q (di (-1))/\Q [(1,3,nV)]/\I0 Gp (I ba.H) (fw (CX ap (I m.av+1) (-1) [])) ba [kl Cz ia,bf 0,kc Cz [1,1,1,1,1]] (cy 57 (te m c)) (FF [])) ⟨JY m hm,h1,rfl,rfl,⟨?_⟩⟩
 exact OQ m (by omega) c ap hl hap (I m.av+1) (-1) [] (by omega) (by omega) (by omega) (by simp)
noncomputable abbrev Aqf:=Tryz.f6
theorem Af7(s:List UInt8):Aa PP 6 [.v (jr s)] ba (.ptr 0 0) (dz (s.take 200) 0):=by
 by_cases h:I s>200
 ·refine sv Aqf 11 [] (.t .ro) (Y ((I (U vb s):Int)>200)=J/\(∀(x:V),x∈U vb s->V.size x=1)/\0<=(200:Int)/\(200:Int)<=(I (U vb s):Int)/\cm 1 [] [G [bt (ai (W 0 (take (Z ((200:Int))) (U vb s)))),di 0]]=J/\[G [bt (ai (W 0 (take (Z ((200:Int))) (U vb s)))),di 0]]=[G (co (take 200 s) 0)]/\Q (bq 0 0)) ?_
  have e:(s.take 200).map vb=W 0 (take (Z 200) (s.map vb)):=by rw[List.map_take];rfl
  refine⟨by rw[HH];exact yr,by simp[V.size],by decide,by show(200:Int)<=_;rw[HH];omega,rfl,?_,rfl⟩
  rw[co,jr,e];rfl
 ·refine sv Aqf 11 [] (.f .ro) (Y ((I (U vb s):Int)>200)=O/\cm 1 [] [G [bt (jr s),di 0]]=J/\[G [bt (jr s),di 0]]=[G (co (take 200 s) 0)]/\Q (bq 0 0)) ⟨by rw[HH];exact yq,rfl,?_,rfl⟩
  rw[Im (by omega)];rfl
def ei(c:b9):Int:=(c.az.headD (.mk 0 [])).n
def d6(c:b9):List Int:=c.az.tail.map b9.n
theorem Abq(ys:List Int):(ys.map lf).map b9.n=ys:=by
 induction ys<;>grind[b9.n]
theorem SK(s:Int)(ys:List Int):ei (CP s ys)=s:=rfl
theorem PA(s:Int)(ys:List Int):d6 (CP s ys)=ys:=by
 show(U lf ys).map b9.n=ys
 exact Abq ys
structure AN(m:cz)(c:b9):Prop where
 eq:c=CP (ei c) (d6 c)
 st:0<=ei c/\ei c<I m.aw
 len:I (d6 c)=I m.ay
 nm:∀y∈d6 c,0<=y/\y<=1048576
theorem PZ(m:cz)(s:Int)(hs:0<=s/\s<I m.aw)(ys:List Int)(hy:I ys=I m.ay)(h:∀y∈ys,0<=y/\y<=1048576):AN m (CP s ys):=
 ⟨by rw[SK,PA],by grind[SK],by grind[PA],by grind[PA]⟩
structure em(m:cz):Prop where
 ok:m.ok
 kind:m.kind=1
 move:∀r∈m.av,r.move=[]
 start:AN m m.start
 few:I m.aw<=2/\m.ay.length<=2
structure Sn(m:cz)(r:cf):Prop where
 aj:0<=r.aj/\r.aj<I m.aw
 to:0<=r.to/\r.to<I m.aw
 needL:I r.am=I m.ay
 giveL:I r.ak=I m.ay
 am:∀x∈r.am,0<=x/\x<=16
 ak:∀x∈r.ak,0<=x/\x<=16
 move:r.move=[]
theorem em.rule{m:cz}(h:em m){r:cf}(hr:r∈m.av):Sn m r:=by
 have h1:=h.ok.right r hr
 rw[Fy,Ie h.kind] at h1
 simp only[E8,Ci,HJ,I5,Iv] at h1
 obtain⟨h2,h3,⟨h4,h5,h6,h7⟩,_⟩:=h1
 have h2:=Ct h2
 have h3:=Ct h3
 exact⟨⟨h3.1,by omega⟩,⟨h2.1,by omega⟩,by omega,by omega,fun x hx=>Ct (h6 x hx),fun x hx=>Ct (h7 x hx),h.move r hr⟩
theorem em.ay{m:cz}(h:em m):1<=I m.ay/\m.ay.length<=6/\1<=I m.aw/\m.aw.length<=8/\m.av.length<=12:=by
 obtain⟨h1,h2,h3,h4,h5,_⟩:=h.ok.sz
 omega
theorem AN.isC{m:cz}{c:b9}(h:AN m c):km c (ei c) (d6 c):=by
 have:=_root_.Go.Proofs.YtkkplhjidondkaaGreat.isC (ei c) (d6 c)
 rwa[←h.eq] at this
theorem AN.size{m:cz}(hm:em m){c:b9}(h:AN m c):c.size<=8:=by
 rw[h.eq,Hn,h.len]
 have:=hm.ay;omega
theorem AN.valid{m:cz}(hm:em m){c:b9}(h:AN m c):Ah (AE m) c=J:=by
 rw[h.eq]
 exact K4 m hm.kind (by have:=hm.ay;omega) _ h.st _ h.len h.nm
theorem Qi.plc{m:cz}(h:Qi m):em m:=by
 have hst:1<=I m.aw:=by rcases h.aw with e|e<;>rw[e]<;>decide
 refine⟨h.ok,h.kind,fun r hr=>?_,?_,by rcases h.aw with e|e<;>rw[e]<;>decide,by rcases h.ay with e|e<;>rw[e]<;>decide⟩
 ·obtain⟨i,hi⟩:=List.getElem?_of_mem hr
  rw[(h.av i r hi).rest];rfl
 ·obtain⟨ys,y1,y2,y3⟩:=h.start
  grind[PZ]
def li(m:cz)(c:b9)(i:Int):List b9×Int:=if i<0 then([],0) else match m.av[i.toNat]? with
 |some r=>Cu (jc r (ei c) (d6 c))
 |none=>([],0)
def Em(m:cz)(c:b9):List cb×Int:=CX (li m c) (I m.av+1) (-1) []
def Cm(r:cf)(ys:List Int):List Int:=zipWith (fun w g=>w+g) (YI r ys) r.ak
theorem Te:∀(ws gs:List Int) (xs:List b9),((Tf xs ws gs).2=0/\(Tf xs ws gs).1=.mk 0 (xs++(zipWith (fun w g=>w+g) ws gs).map lf)/\∀y∈zipWith (fun w g=>w+g) ws gs,y<=1048576)∨Tf xs ws gs=(.mk 0 [],1)
 |[],gs,xs=>.inl ⟨by rfl,by simp[Tf],by simp⟩
 |w::ws,[],xs=>.inl ⟨by rfl,by simp[Tf],by simp⟩
 |w::ws,g::gs,xs=>by
  by_cases h:w+g>1048576
  ·grind[Tf]
  ·rw[Tf,HZ (by grind)]
   rcases Te ws gs (xs++[lf (w+g)]) with⟨h1,h2,h3⟩|h1
   all_goals simp_all
theorem V0:∀{ns ys:List Int},Ea ns ys=J->∀(i:Nat) (n y:Int),ns[i]?=G n->ys[i]?=G y->n<=y
 |[],ys,_,i,n,y,h,_=>by grind
 |n::ns,[],_,i,n',y,_,h=>by grind
 |n::ns,y::ys,h,i,n',y',h1,h2=>by
  simp only[Ea,HJ,IA,Jk] at h
  cases i with
  |zero=>grind
  |succ i=>exact V0 h.2 i n' y' (by grind) (by grind)
theorem YE{m:cz}{r:cf}(hr:Sn m r){ys:List Int}(hy:I ys=I m.ay):I (Cm r ys)=I m.ay:=by
 have h1:=hr.needL;have h2:=hr.giveL
 grind[Cm,YI]
theorem Adj{r:cf}{ys:List Int}{i:Nat}{z:Int}(h:(Cm r ys)[i]?=G z):∃y n g,ys[i]?=G y/\r.am[i]?=G n/\r.ak[i]?=G g/\z=y-n+g:=by
 grind[Cm,YI]
theorem AnN{m:cz}{r:cf}(hr:Sn m r){c:b9}(hc:AN m c):
  ((jc r (ei c) (d6 c)).2=0/\ei c=r.aj/\(jc r (ei c) (d6 c)).1=CP r.to (Cm r (d6 c))/\AN m (CP r.to (Cm r (d6 c))))∨(jc r (ei c) (d6 c)).2=1∨(jc r (ei c) (d6 c)).2=18:=by
 unfold jc
 split
 ·rename_i he
  simp only[gf,HJ,Iv] at he
  rcases Te (YI r (d6 c)) r.ak [lf r.to] with⟨h1,h2,h3⟩|h1
  ·refine .inl ⟨h1,he.1,by rw[h2];rfl,PZ m _ hr.to _ (YE hr hc.len) fun z hz=>⟨?_,h3 z hz⟩⟩
   obtain⟨i,hi⟩:=List.getElem?_of_mem hz
   obtain⟨y,n,g,a1,a2,a3,rfl⟩:=Adj hi
   have b1:=V0 he.2 i n y a2 a1
   have b2:=(hr.ak g (HO a3)).1
   omega
  grind
 omega
structure Sm(m:cz)(c:b9)(s:cb):Prop where
 rule:∃(i:Nat) (r:cf),s.1=i/\m.av[i]?=G r/\ei c=r.aj/\s.2=CP r.to (Cm r (d6 c))/\jc r (ei c) (d6 c)=(s.2,0)
 ok:AN m s.2
theorem Wu{m:cz}(hm:em m){c:b9}(hc:AN m c)(i:Int):((li m c i).2=0∨(li m c i).2=1)/\(li m c i).1.length<=1/\∀v∈ (li m c i).1,Sm m c (i,v):=by
 unfold li
 split
 ·grind
 ·split
  ·rename_i r hi
   have hr:=hm.rule (HO hi)
   rcases AnN hr hc with⟨h1,h2,h3,h4⟩|h1|h1
   ·have:Cu (jc r (ei c) (d6 c))=([CP r.to (Cm r (d6 c))],0):=by
     grind[Cu]
    rw[this]
    refine⟨.inl rfl,by simp,fun v hv=>?_⟩
    rw[HY.1 hv]
    exact⟨⟨i.toNat,r,by omega,hi,h2,rfl,by grind⟩,h4⟩
   all_goals grind[Cu]
  grind
theorem TN{ap:Int->List b9×Int}(he:∀i,(ap i).2=0∨(ap i).2=1)(hl:∀i,(ap i).1.length<=1){Q:cb->Prop}(hq:∀i,∀v∈ (ap i).1,Q (i,v)):∀(n:Nat) (i:Int) (acc:List cb),(∀s∈acc,Q s)->
  ((CX ap n i acc).2=0∨(CX ap n i acc).2=1)/\(CX ap n i acc).1.length<=I acc+n/\∀s∈ (CX ap n i acc).1,Q s
 |0,i,acc,ha=>by
  grind[CX]
 |n+1,i,acc,ha=>by
  rw[CX]
  split
  ·grind
  ·obtain⟨h1,h2,h3⟩:=TN he hl hq n (i+1) (acc++(ap i).1.map fun v=>(i,v)) (fun s hs=>by
    grind)
   grind
theorem Mj{m:cz}(hm:em m){c:b9}(hc:AN m c):((Em m c).2=0∨(Em m c).2=1)/\(Em m c).1.length<=13/\∀s∈ (Em m c).1,Sm m c s:=by
 have:=hm.ay
 obtain⟨h1,h2,h3⟩:=TN (ap:=li m c) (fun i=>(Wu hm hc i).1) (fun i=>(Wu hm hc i).2.1) (Q:=Sm m c) (fun i=>(Wu hm hc i).2.2) (I m.av+1) (-1) [] (by simp)
 grind[Em]
inductive uy (m:cz) (c:b9):List cb->b9->Prop where
 |nil:uy m c [] c
 |snoc {l:List cb} {d:b9} {s:cb}:uy m c l d->(Em m d).2=0->s∈ (Em m d).1->uy m c (l++[s]) s.2
theorem uy.ok{m:cz}(hm:em m){c d:b9}{l:List cb}(hc:AN m c)(h:uy m c l d):AN m d:=by
 induction h with
 |nil=>exact hc
 |snoc _ _ hs ih=>exact((Mj hm ih).2.2 _ hs).ok
structure ic{α:Type}(c:α->α->Int)(S:α->Prop):Prop where
 refl:∀x,S x->c x x=0
 eq:∀x y,S x->S y->c x y=0->x=y
 swap:∀x y,S x->S y->(c x y<0↔0<c y x)
 trans:∀x y z,S x->S y->S z->c x y<0->c y z<0->c x z<0
theorem PX:ic AJ fun _=>True:=by
 constructor<;>simp only[AJ]<;>intros<;>(repeat' split at*)<;>(repeat' split)<;>omega
theorem AgJ{α:Type}{c:α->α->Int}{S:α->Prop}(h:ic c S):ic (AW c) fun l=>∀x∈l,S x:=by
 have rfl':∀l:List α,(∀x∈l,S x)->AW c l l=0:=by
  intro l
  induction l with
  |nil=>intro _;rfl
  |cons x l ih=>intro hs;rw[AW,Ie (h.refl x (hs x (by simp)))];grind
 have eq':∀a b:List α,(∀x∈a,S x)->(∀x∈b,S x)->AW c a b=0->a=b:=by
  intro a
  induction a with
  |nil=>intro b _ _ e;cases b<;>grind[AW]
  |cons x a ih=>intro b ha hb e;cases b with
   |nil=>grind[AW]
   |cons y b=>
    simp only[AW] at e
    split at e
    ·rename_i h0
     rw[h.eq x y (ha x (by simp)) (hb y (by simp)) h0,ih b (fun z hz=>ha z (by grind)) (fun z hz=>hb z (by grind)) e]
    omega
 have c0:∀x y,S x->S y->(c x y=0↔c y x=0):=fun x y hx hy=>by
  have h1:=h.swap x y hx hy
  have h2:=h.swap y x hy hx
  omega
 have sw:∀a b:List α,(∀x∈a,S x)->(∀x∈b,S x)->(AW c a b<0↔0<AW c b a):=by
  intro a
  induction a with
  |nil=>intro b _ _;cases b<;>simp[AW]
  |cons x a ih=>intro b ha hb;cases b with
   |nil=>rfl
   |cons y b=>
    have hx:=ha x (by simp);have hy:=hb y (by simp)
    simp only[AW]
    by_cases h0:c x y=0
    ·grind
    ·rw[HZ h0,HZ (fun e=>h0 ((c0 x y hx hy).2 e))];exact h.swap x y hx hy
 have tr:∀a b d:List α,(∀x∈a,S x)->(∀x∈b,S x)->(∀x∈d,S x)->AW c a b<0->AW c b d<0->AW c a d<0:=by
  intro a
  induction a with
  |nil=>intro b d _ _ _ h1 h2;cases b with
   |nil=>omega
   |cons y b=>cases d<;>grind[AW]
  |cons x a ih=>intro b d ha hb hd h1 h2;cases b with
   |nil=>grind[AW]
   |cons y b=>cases d with
    |nil=>grind[AW]
    |cons z d=>
     have hx:=ha x (by simp);have hy:=hb y (by simp);have hz:=hd z (by simp)
     have ha':∀w∈a,S w:=fun w hw=>ha w (by grind)
     have hb':∀w∈b,S w:=fun w hw=>hb w (by grind)
     have hd':∀w∈d,S w:=fun w hw=>hd w (by grind)
     simp only[AW] at*
     by_cases e1:c x y=0
     ·have:=h.eq x y hx hy e1;subst this
      rw[Ie e1] at h1
      by_cases e2:c x z=0
      ·rw[Ie e2] at h2⊢
       exact ih b d ha' hb' hd' h1 h2
      omega
     ·rw[HZ e1] at h1
      by_cases e2:c y z=0
      ·have:=h.eq y z hy hz e2;grind
      ·rw[HZ e2] at h2
       have:=h.trans x y z hx hy hz h1 h2
       omega
 exact⟨rfl',eq',sw,tr⟩
theorem Hm(a b:b9):Ar a b=if AJ a.n b.n=0 then(if AJ (I a.az) (I b.az)=0 then AW Ar a.az b.az else AJ (I a.az) (I b.az)) else AJ a.n b.n:=by
 rw[PW, ←or3]
theorem b9.ext:∀{a b:b9},a.n=b.n->a.az=b.az->a=b
 |.mk _ _,.mk _ _,rfl,rfl=>rfl
theorem Ac9(N:Nat):ic Ar fun v=>v.size<=N:=by
 induction N with
 |zero=>exact⟨fun x h=>absurd x.size_pos (by omega),fun x _ h=>absurd x.size_pos (by omega),fun x _ h=>absurd x.size_pos (by omega),fun x _ _ h=>absurd x.size_pos (by omega)⟩
 |succ N ih=>
  have hL:=AgJ ih
  have hk:∀v:b9,v.size<=N+1->∀x∈v.az,x.size<=N:=fun v hv x hx=>by
   have:=v.size_eq;have:=b9.size_mem hx;omega
  have h1:=PX
  have i0:∀x y:Int,AJ x y=0↔AJ y x=0:=fun x y=>by
   grind[AJ]
  refine⟨fun x hx=>?_,fun x y hx hy e=>?_,fun x y hx hy=>?_,fun x y z hx hy hz e1 e2=>?_⟩
  ·rw[Hm,Ie (h1.refl _ trivial),Ie (h1.refl _ trivial)];exact hL.refl _ (hk x hx)
  ·rw[Hm] at e
   split at e
   ·rename_i a1
    split at e
    ·exact b9.ext (h1.eq _ _ trivial trivial a1) (hL.eq _ _ (hk x hx) (hk y hy) e)
    omega
   omega
  ·rw[Hm,Hm y x]
   by_cases a1:AJ x.n y.n=0
   ·rw[Ie a1,Ie ((i0 _ _).1 a1)]
    by_cases a2:AJ (I x.az) (I y.az)=0
    ·rw[Ie a2,Ie ((i0 _ _).1 a2)];exact hL.swap _ _ (hk x hx) (hk y hy)
    grind[AJ]
   grind[AJ]
  ·rw[Hm] at e1 e2⊢
   by_cases a1:AJ x.n y.n=0
   ·rw[Ie a1] at e1
    have b1:=h1.eq _ _ trivial trivial a1
    rw[b1]
    by_cases c1:AJ y.n z.n=0
    ·rw[Ie c1] at e2⊢
     by_cases a2:AJ (I x.az) (I y.az)=0
     ·rw[Ie a2] at e1
      have b2:=h1.eq _ _ trivial trivial a2
      rw[b2]
      by_cases c2:AJ (I y.az) (I z.az)=0
      ·rw[Ie c2] at e2⊢;exact hL.trans _ _ _ (hk x hx) (hk y hy) (hk z hz) e1 e2
      omega
     grind[AJ]
    omega
   grind[AJ]
theorem B6:ic Ar fun _=>True:=by
 have h:∀x y z:b9,ic Ar fun v=>v.size<=x.size+y.size+z.size:=fun x y z=>Ac9 _
 exact⟨fun x _=>(h x x x).refl x (by omega),fun x y _ _ e=>(h x y y).eq x y (by omega) (by omega) e,fun x y _ _=>(h x y y).swap x y (by omega) (by omega),fun x y z _ _ _ e1 e2=>(h x y z).trans x y z (by omega) (by omega) (by omega) e1 e2⟩
theorem CW{a b:b9}:Ar a b=0↔a=b:=⟨fun h=>B6.eq a b trivial trivial h,fun h=>by rw[h];exact B6.refl b trivial⟩
theorem MH(a b:b9):Ar a b<=0↔¬Ar b a<0:=by
 have:=B6.swap b a trivial trivial
 omega
theorem EF{a b c:b9}(h1:Ar a b<=0)(h2:Ar b c<=0):Ar a c<=0:=by
 by_cases e1:Ar a b=0
 ·grind[CW]
 ·by_cases e2:Ar b c=0
  ·grind[CW]
  ·have:=B6.trans a b c trivial trivial trivial (by omega) (by omega)
   omega
theorem JW(a b:b9):Ar a b<=0∨Ar b a<=0:=by
 have:=B6.swap b a trivial trivial
 omega
theorem UH(l:List b9):∀k:Nat,k<I l->(YK l k=J↔∀i,i<k->Ar (l.getD i default) (l.getD (i+1) default)<=0)
 |0,_=>⟨fun _ i h=>absurd h (Nat.not_lt_zero i),fun _=>rfl⟩
 |k+1,hk=>by
  have ih:=UH l k (by omega)
  grind[YK,MH]
theorem Mz:∀(l:List b9),(∀i,i+1<I l->Ar (l.getD i default) (l.getD (i+1) default)<=0)->l.Pairwise fun a b=>Ar a b<=0
 |[],_=>.nil
 |[_],_=>List.pairwise_singleton _ _
 |x::y::l,h=>by
  have ih:=Mz (y::l) fun i hi=>h (i+1) (by grind)
  have h0:Ar x y<=0:=h 0 (by simp)
  grind[List.pairwise_cons,EF]
theorem Pm(l:List b9):WT l=J↔l.Pairwise fun a b=>Ar a b<=0:=by
 unfold WT
 cases l<;>grind[UH,Mz,List.pairwise_iff_getElem,YK]
end Go.Proofs.YtkkplhjidondkaaGreat

namespace Go.Proofs
open Go.Shelf
open Go.IntKind (u64)
open Go.IntKind renaming wrap → yu, i64 → yt
open List renaming length → I, map → U, drop → W
open Option renaming some → G
open Bool renaming true → J, false → O
open Decidable renaming decide → Y
open Int renaming toNat → Z
open Go.Dv.V renaming list → ai, str → ae, agg → ab, int → aa, ref → bz, fn → bw, nils → bv, bool → bu
open Go.Dv.D renaming v → bt, acc → br, ptr → bq, arr → bo, gro → bm, tup → bk, undef → bj, dagg → bi
open Go.Dv.St renaming mk → bh
open Go.Dv.KI renaming blk → bf
open _root_.ByteArray renaming mk → bc
open Go renaming Operand → x8, Program → x7, TypeId → x6, World → x5, Value → yz, Oper → yy, FuncId → yx, Func → yw, IntKind → yv
def Tryz.sortV_ren:Go.Shelf.Ren:=⟨fun|6=>40|15=>70|14=>69|28=>131|29=>132|20=>123|21=>124|22=>125|23=>126|24=>127|25=>128|26=>129|27=>130|46=>185|47=>186|48=>187|49=>188|50=>189|57=>243|n=>n,fun|22=>29|24=>31|25=>79|3=>3|39=>117|0=>0|53=>159|55=>161|4=>4|46=>152|45=>151|50=>156|5=>5|9=>9|66=>195|70=>199|76=>239|77=>240|n=>n,fun|n=>n⟩
theorem Tryz.sortV:Go.Proofs.SlLaysF0.n6 Tryz.prog Tryz.sortV_ren:={
 mixed:=by kernel_rfl
 f6:=⟨Tryz.f40.name,by decide,Tryz.func40.trans (Ih G (by kernel_rfl))⟩
 f14:=⟨Tryz.f69.name,by decide,Tryz.func69.trans (Ih G (by kernel_rfl))⟩
 f15:=Tryz.func70.trans (Ih G (by kernel_rfl))
 f20:=⟨Tryz.f123.name,by decide,Tryz.func123.trans (Ih G (by kernel_rfl))⟩
 f21:=⟨Tryz.f124.name,by decide,Tryz.func124.trans (Ih G (by kernel_rfl))⟩
 f22:=⟨Tryz.f125.name,by decide,Tryz.func125.trans (Ih G (by kernel_rfl))⟩
 f23:=⟨Tryz.f126.name,by decide,Tryz.func126.trans (Ih G (by kernel_rfl))⟩
 f24:=⟨Tryz.f127.name,by decide,Tryz.func127.trans (Ih G (by kernel_rfl))⟩
 f25:=⟨Tryz.f128.name,by decide,Tryz.func128.trans (Ih G (by kernel_rfl))⟩
 f26:=⟨Tryz.f129.name,by decide,Tryz.func129.trans (Ih G (by kernel_rfl))⟩
 f27:=⟨Tryz.f130.name,by decide,Tryz.func130.trans (Ih G (by kernel_rfl))⟩
 f28:=Tryz.func131.trans (Ih G (by kernel_rfl))
 f29:=Tryz.func132.trans (Ih G (by kernel_rfl))
 f46:=⟨Tryz.f185.name,by decide,Tryz.func185.trans (Ih G (by kernel_rfl))⟩
 f47:=Tryz.func186.trans (Ih G (by kernel_rfl))
 f48:=Tryz.func187.trans (Ih G (by kernel_rfl))
 f49:=⟨Tryz.f188.name,by decide,Tryz.func188.trans (Ih G (by kernel_rfl))⟩
 f50:=⟨Tryz.f189.name,by decide,Tryz.func189.trans (Ih G (by kernel_rfl))⟩
 f57:=⟨Tryz.f243.name,by decide,Tryz.func243.trans (Ih G (by kernel_rfl))⟩
 t0:=Tryz.underlying0
 a0:=Tryz.isAgg0
 z0:=Tryz.sizeOf0
 v0:=Tryz.zeroValue0
 t3:=Tryz.underlying3
 a3:=Tryz.isAgg3
 z3:=Tryz.sizeOf3
 v3:=Tryz.zeroValue3
 t4:=Tryz.underlying4
 a4:=Tryz.isAgg4
 z4:=Tryz.sizeOf4
 v4:=Tryz.zeroValue4
 t5:=Tryz.underlying5
 a5:=Tryz.isAgg5
 z5:=Tryz.sizeOf5
 v5:=Tryz.zeroValue5
 t9:=Tryz.underlying9
 a9:=Tryz.isAgg9
 z9:=Tryz.sizeOf9
 v9:=Tryz.zeroValue9
 t22:=Tryz.underlying29
 a22:=Tryz.isAgg29
 z22:=Tryz.sizeOf29
 v22:=Tryz.zeroValue29
 t25:=Tryz.underlying79
 a25:=Tryz.isAgg79
 z25:=Tryz.sizeOf79
 v25:=Tryz.zeroValue79
 t39:=Tryz.underlying117
 a39:=Tryz.isAgg117
 z39:=Tryz.sizeOf117
 v39:=Tryz.zeroValue117
 t45:=Tryz.underlying151
 a45:=Tryz.isAgg151
 z45:=Tryz.sizeOf151
 v45:=Tryz.zeroValue151
 t46:=Tryz.underlying152
 a46:=Tryz.isAgg152
 z46:=Tryz.sizeOf152
 v46:=Tryz.zeroValue152
 t50:=Tryz.underlying156
 a50:=Tryz.isAgg156
 z50:=Tryz.sizeOf156
 v50:=Tryz.zeroValue156
 t53:=Tryz.underlying159
 a53:=Tryz.isAgg159
 z53:=Tryz.sizeOf159
 v53:=Tryz.zeroValue159
 t55:=Tryz.underlying161
 a55:=Tryz.isAgg161
 z55:=Tryz.sizeOf161
 v55:=Tryz.zeroValue161
 t66:=Tryz.underlying195
 a66:=Tryz.isAgg195
 z66:=Tryz.sizeOf195
 v66:=Tryz.zeroValue195
 t70:=Tryz.underlying199
 a70:=Tryz.isAgg199
 z70:=Tryz.sizeOf199
 v70:=Tryz.zeroValue199
 t76:=Tryz.underlying239
 a76:=Tryz.isAgg239
 z76:=Tryz.sizeOf239
 v76:=Tryz.zeroValue239
 t77:=Tryz.underlying240
 a77:=Tryz.isAgg240
 z77:=Tryz.sizeOf240
 v77:=Tryz.zeroValue240 }
end Go.Proofs
namespace Go.Proofs.YtkkplhjidondkaaGreat
open Go.Dv Go.Nv Go.Shelf Go.RowKit Go.Lib Go.Sort
set_option maxRecDepth 20000
open Go.IntKind (u64)
open Go.IntKind renaming wrap → yu, i64 → yt
open List renaming length → I, map → U, drop → W
open Option renaming some → G
open Bool renaming true → J, false → O
open Decidable renaming decide → Y
open Int renaming toNat → Z
open Go.Dv.V renaming list → ai, str → ae, agg → ab, int → aa, ref → bz, fn → bw, nils → bv, bool → bu
open Go.Dv.D renaming v → bt, acc → br, ptr → bq, arr → bo, gro → bm, tup → bk, undef → bj, dagg → bi
open Go.Dv.St renaming mk → bh
open Go.Dv.KI renaming blk → bf
open _root_.ByteArray renaming mk → bc
open Go renaming Operand → x8, Program → x7, TypeId → x6, World → x5, Value → yz, Oper → yy, FuncId → yx, Func → yw, IntKind → yv
theorem AbE{g g':Gh}{w w':x5}{σ':St}(h:WI ⟨g,w,⟨[],[]⟩⟩ g' σ' w'):∃q os,w'=grow (w.drewN q) os:=by
 refine⟨w'.drawn-w.drawn,w'.heap.extract w.heap.size w'.heap.size,?_⟩
 have h1:=h.drawn trivial;have h2:=h.os;have h3:=h.tape;have h4:=h.output;have h5:=h.size
 have h6:∀b,b<w.heap.size->w'.heap[b]?=w.heap[b]?:=fun b hb=>(h.keep b hb Hb).1
 have e:w'.heap=w.heap++w'.heap.extract w.heap.size w'.heap.size:=by
  grind
 cases w'
 simp only[grow,World.drewN] at*
 congr 1
 omega
abbrev ld(M:c6):={p:b9×List yz//p.1.size<=1000000/\repC M (eV p.1) p.2}
instance (M:c6):Inhabited (ld M):=⟨⟨(.mk 0 [],[.int .i64 0,.slice none 0 0]),by decide,by grind[b9.enc,b9.encs,repC,repA,V.isAgg]⟩⟩
def D6{M:c6}(x:ld M):List yz:=x.1.2
def qp{M:c6}(x y:ld M):Int:=Ar x.1.1 y.1.1
theorem T8(v:b9):(eV v).size=2:=by rw[AH];rfl
theorem LL{M:c6}(x:ld M):I (D6 x)=2:=by
 grind[GB,T8,D6]
theorem Aqu{M:c6}:SWO (ltOf (qp (M:=M))) where
 irrefl x:=by simp only[ltOf,qp,B6.refl _ trivial];decide
 trans x y z h1 h2:=by
  exact HK (B6.trans _ _ _ trivial trivial trivial (HT h1) (HT h2))
 ntrans x y z h1 h2:=by
  have h1:¬Ar x.1.1 y.1.1<0:=I3 h1
  have h2:¬Ar y.1.1 z.1.1<0:=I3 h2
  refine HM fun h3=>?_
  have h3:Ar x.1.1 z.1.1<0:=h3
  by_cases e:Ar x.1.1 y.1.1=0
  ·grind[CW]
  ·have h4:Ar y.1.1 x.1.1<0:=(B6.swap _ _ trivial trivial).2 (by omega)
   exact h2 (B6.trans _ _ _ trivial trivial trivial h4 h3)
theorem AgY{g:Gh}{l:List b9}(hl:∀v∈l,v.size<=1000000){us:List yz}(h:Af g (Ab (l.map eV)) us)(h1:∀c∈Ab (l.map eV),c.one=J):∃ps:List (ld g.M),ps.map (fun p=>p.1.1)=l/\ps.flatMap D6=us:=by
 have hA:repA g.M ((l.map eV).flatMap V.cellsV) us:=by
  have hlen:=A1 h
  refine SY (by grind[Ab]) fun j y hj=>?_
  obtain⟨v,h2,h3⟩:=BA h (i:=j) (d:=.v y) (by grind[Ab])
  refine⟨?_,v,h2,by grind[Ag]⟩
  have:=h1 (.v y) (I2.2 ⟨y,HO hj,rfl⟩)
  grind[D.one]
 have hE:=FC (sz:=2) (xs:=l.map eV) (fun y hy=>by grind[T8]) hA
 clear h h1 hA
 induction l generalizing us with
 |nil=>
  simp only[IF,repE] at hE
  simp_all
 |cons v l ih=>
  obtain⟨u1,u2,rfl,_,h3,h4⟩:=hE
  obtain⟨ps,h5,h6⟩:=ih (fun v hv=>hl v (by simp[hv])) h4
  exact⟨⟨(v,u1),hl v (by simp),h3⟩::ps,by simp[h5],by simp[h6,D6]⟩
theorem cells_rep{g:Gh}(ps:List (ld g.M)):Af g (Ab ((ps.map fun p=>p.1.1).map eV)) (ps.flatMap D6)/\∀c∈Ab ((ps.map fun p=>p.1.1).map eV),c.one=J:=by
 refine E9 (sz:=2) ?_
 induction ps with
 |nil=>rfl
 |cons p ps ih=>
  exact⟨_,_,rfl,LL p,p.2.2,ih⟩
theorem VL{M:c6}:∀(ps:List (ld M)) (t:Nat),t<I ps*2->(ps.flatMap D6)[t]?=G ((D6 (ps.getD (t/2) default))[t%2]!)
 |[],t,h=>by grind
 |p::ps,t,h=>by
  have h2:=LL p
  rw[List.flatMap_cons]
  by_cases ht:t<2
  ·grind
  ·rw[Ib (by omega),h2,VL ps (t-2) (by grind)]
   grind
theorem KT{M:c6}(d:Array (ld M)):(flatK D6 2 d).toList=d.toList.flatMap D6:=by
 apply List.ext_getElem?
 intro t
 have hlen:∀l:List (ld M),I (l.flatMap D6)=I l*2:=by
  intro l
  induction l<;>grind[LL]
 grind[VL,flatK]
def sortV(l:List b9):List b9:=l.mergeSort fun a b=>Y (Ar a b<=0)
theorem AR(l:List b9):(sortV l).Perm l:=List.mergeSort_perm l _
theorem Hy(l:List b9):(sortV l).Pairwise fun a b=>Y (Ar a b<=0)=J:=
 by grind[List.pairwise_mergeSort,EF,JW,sortV]
theorem Pp{l k:List b9}(hp:k.Perm l)(hs:k.Pairwise fun a b=>Y (Ar a b<=0)=J):k=sortV l:=by
 refine List.Perm.eq_of_pairwise (fun a b _ _ h1 h2=>?_) hs (Hy l) (hp.trans (AR l).symm)
 have:=B6.swap b a trivial trivial
 grind[CW]
theorem AgG{g:Gh}{w:x5}{σ:St}(hw:dm g σ w){blk:Nat}(hM:∀o,g.M blk o=none)(n:Nat):CmpLays PP 41 #[] (D6 (M:=g.M)) 2 qp blk 0 n w:=by
 intro m os dk _ x y
 obtain⟨W,hW⟩:∃W,W=sortWorldK D6 2 w blk 0 m dk os:=⟨_,rfl⟩
 have hmem:∀b o v,g.M b o=G v->W.cell? ⟨b,o,none⟩=G v:=by
  intro b o v h
  have hne:b≠blk:=fun e=>by grind
  have hc:=hw.mem b o v h
  have hlt:b<w.heap.size:=hw.mem_lt h
  rw[hW,sortWorldK,cell?_grow _ _ _ (by rw[size_putRowK];exact hlt),cell?_putRowK_other _ _ _ _ _ _ _ hne]
  exact hc
 have hrep:dm { M:=g.M,β:=g.β,n:=0,ι:=fun _ _=>none,κ:=g.κ } ⟨[],[]⟩ W:=
  { n:=rfl,mem:=hmem,obj:=fun i cs hi=>by grind,inj:=fun i j cs ds hi=>by grind,own:=fun k sz xs hx=>by grind,tags:=by simp,sep:=fun x hx=>by grind,ownObj:=fun x hx=>by grind,fresh:=fun _ _ _=>rfl,gl:=hw.gl,gw:=fun p hp=>by grind[Gy] }
 have arg:∀z:ld g.M,Ag { M:=g.M,β:=g.β,n:=0,ι:=fun _ _=>none,κ:=g.κ } (dV z.1.1) (.agg (D6 z).toArray):=by
  intro z
  exact⟨D6 z,by rw[←AH];exact z.2.2,rfl⟩
 have hs:=(Hl _ x.1.1 y.1.1 (HP _) x.2.1).2 _ W [.agg (D6 x).toArray,.agg (D6 y).toArray] hrep (Au.2 ⟨_,_,rfl,arg x,arg y⟩)
 grind[Calls.mono,Ag,AC,AbE,qp]
theorem Ge(l:List b9)(hl:I l<=100000)(hs:∀v∈l,v.size<=1000000):
  Aa PP 40 [.arr 0 0 (I l),dfn 41] ⟨[G (Ab (l.map eV))],[]⟩ (.tup []) ⟨[G (Ab ((sortV l).map eV))],[]⟩:=by
 refine⟨⟨_, Tryz.func40,by kernel_rfl,by kernel_rfl⟩,fun g w args hw hargs=>?_⟩
 obtain⟨u0,u1,rfl,h0,h1⟩:=Au.1 hargs
 simp only[Ag] at h0 h1
 obtain⟨hn,cap,hcap,rfl⟩:=h0
 obtain⟨us1,vs1,rfl,hu1,hv1⟩:=H8.1 h1
 simp only[GM] at hu1 hv1
 subst hu1;subst hv1
 obtain⟨us,rest,et,hb,hr,hone,hM,hκ⟩:=hw.obj 0 _ rfl
 obtain⟨ps,hp1,hp2⟩:=AgY hs hr hone
 have hpl:I ps=I l:=by grind
 have hul:I us=I l*2:=by
  have:=Ih Array.size (show flatK D6 2 ps.toArray=us.toArray by grind[KT])
  simp_all
 have hF:(flatK D6 2 ps.toArray).toList=us:=by grind[KT]
 have hH:HoldsK D6 2 w (g.β 0) 0 ps.toArray:=by
  intro j hj
  have hj':j<I us:=by rw[size_flatK] at hj;simp at hj;omega
  refine⟨?_,by simp[World.frozen?,hb]⟩
  have hg:(us++rest)[j]?=G us[j]:=by rw[Ig hj',HI hj']
  have hg2:(flatK D6 2 ps.toArray)[j]! =us[j]:=by
   rw[getElem!_pos (flatK D6 2 ps.toArray) j hj]
   have:(flatK D6 2 ps.toArray).toList[j]?=G us[j]:=by rw[hF,HI hj']
   rw[Ju,Array.getElem?_eq_getElem hj] at this
   exact Ij this
  simp only[World.cell?,hb,I4,hg2,id]
  simpa using hg
 have hblk:g.β 0<w.heap.size:=ML hb
 have eg:∀args w,(callFunc 41 args).run PP w=.ok (.enter 41 args) w:=enters_of Tryz.func41 (by kernel_rfl) rfl
 have hcon:=AnyQ.slices_SortFunc Tryz.sortV 2 Tryz.isAgg31 Tryz.sizeOf31 (D6 (M:=g.M)) LL (fun x v hv=>Lj x.2.2 v hv) qp Aqu 41 #[] (g.β 0) 0 cap ps.toArray w eg (AgG hw hM _) hH hblk (by grind)
 change Calls PP 40 _ _ _ at hcon
 rw[show ps.toArray.size=I l by omega] at hcon
 refine Calls.mono hcon ?_
 rintro e w' ⟨rfl,d',n,os,hperm,hsorted,rfl⟩
 obtain⟨hsz,_,hperm⟩:=hperm
 have hdl:d'.toList.map (fun p=>p.1.1)=sortV l:=by
  refine Pp ?_ ?_
  ·grind[Array.extract_eq_self_of_le]
  ·rw[List.pairwise_iff_getElem]
   intro i j hi hj hij
   have hj':j<d'.size:=by simpa using hj
   have h3:=hsorted i j (Iu _) hij (by simp only[IY] at hsz;omega)
   grind[ltOf,qp,MH]
 have hd2:d'.size=I l:=by grind
 have hF2:(flatK D6 2 d').toList=d'.toList.flatMap D6:=KT d'
 have hFl:I (d'.toList.flatMap D6)=I us:=by grind[size_flatK]
 have hcs:=cells_rep d'.toList
 rw[hdl] at hcs
 have hb2:(putRowK D6 2 (Sort.ahead w n) (g.β 0) 0 d').heap[g.β 0]?=G (.cells ((d'.toList.flatMap D6)++rest).toArray et (0,0)):=by
  simp only[putRowK,putRow,mapBlock,Sort.ahead,Array.getElem?_modify,hb,onCells,IT,IJ]
  congr 2
  apply Array.ext_getElem?
  intro t
  simp only[putCells,Array.getElem?_mapIdx,Nat.sub_zero,Iu,true_and,I4,id,List.getElem?_toArray]
  grind
 have h2:=(WI.start hw).setObj (cs':=Ab ((sortV l).map eV)) (q:=0) (w':=putRowK D6 2 (Sort.ahead w n) (g.β 0) 0 d') rfl hb2 (by grind) hcs.1 hcs.2 (fun b hb'=>by
  grind[putRowK,putRow,mapBlock,Sort.ahead]) (by rw[size_putRowK];rfl) rfl rfl rfl (drawn:=.of (Nat.le_add_right _ _))
 have h3:=h2.grow (w':=sortWorldK D6 2 w (g.β 0) 0 n d' os) (M':=g.M) (c6.le_refl _) (fun b hb'=>⟨heap_grow_old _ _ hb',fun _=>rfl⟩) (fun b o v h=>by
  rw[sortWorldK,cell?_grow _ _ _ (h2.rep.mem_lt h)];exact h2.rep.mem b o v h) (by grind[sortWorldK,size_grow]) rfl rfl rfl
 grind[Ag,Af]
end Go.Proofs.YtkkplhjidondkaaGreat

namespace Go.Proofs
open Go.Shelf
open Go.IntKind (u64)
open Go.IntKind renaming wrap → yu, i64 → yt
open List renaming length → I, map → U, drop → W
open Option renaming some → G
open Bool renaming true → J, false → O
open Decidable renaming decide → Y
open Int renaming toNat → Z
open Go.Dv.V renaming list → ai, str → ae, agg → ab, int → aa, ref → bz, fn → bw, nils → bv, bool → bu
open Go.Dv.D renaming v → bt, acc → br, ptr → bq, arr → bo, gro → bm, tup → bk, undef → bj, dagg → bi
open Go.Dv.St renaming mk → bh
open Go.Dv.KI renaming blk → bf
open _root_.ByteArray renaming mk → bc
open Go renaming Operand → x8, Program → x7, TypeId → x6, World → x5, Value → yz, Oper → yy, FuncId → yx, Func → yw, IntKind → yv
def Tryz.sortW_ren:Go.Shelf.Ren:=⟨fun|6=>294|15=>70|14=>301|28=>131|29=>132|20=>304|21=>305|22=>306|23=>307|24=>308|25=>309|26=>310|27=>311|46=>312|47=>186|48=>187|49=>313|50=>314|57=>315|n=>n,fun|22=>182|24=>27|25=>134|3=>3|39=>117|0=>0|53=>159|55=>161|4=>4|46=>152|45=>151|50=>156|5=>5|9=>9|66=>195|70=>199|76=>239|77=>240|n=>n,fun|n=>n⟩
theorem Tryz.sortW:Go.Proofs.SlLaysF.n6 Tryz.prog Tryz.sortW_ren:={
 mixed:=by kernel_rfl
 f6:=⟨Tryz.f294.name,by decide,Tryz.func294.trans (Ih G (by kernel_rfl))⟩
 f14:=⟨Tryz.f301.name,by decide,Tryz.func301.trans (Ih G (by kernel_rfl))⟩
 f15:=Tryz.func70.trans (Ih G (by kernel_rfl))
 f20:=⟨Tryz.f304.name,by decide,Tryz.func304.trans (Ih G (by kernel_rfl))⟩
 f21:=⟨Tryz.f305.name,by decide,Tryz.func305.trans (Ih G (by kernel_rfl))⟩
 f22:=⟨Tryz.f306.name,by decide,Tryz.func306.trans (Ih G (by kernel_rfl))⟩
 f23:=⟨Tryz.f307.name,by decide,Tryz.func307.trans (Ih G (by kernel_rfl))⟩
 f24:=⟨Tryz.f308.name,by decide,Tryz.func308.trans (Ih G (by kernel_rfl))⟩
 f25:=⟨Tryz.f309.name,by decide,Tryz.func309.trans (Ih G (by kernel_rfl))⟩
 f26:=⟨Tryz.f310.name,by decide,Tryz.func310.trans (Ih G (by kernel_rfl))⟩
 f27:=⟨Tryz.f311.name,by decide,Tryz.func311.trans (Ih G (by kernel_rfl))⟩
 f28:=Tryz.func131.trans (Ih G (by kernel_rfl))
 f29:=Tryz.func132.trans (Ih G (by kernel_rfl))
 f46:=⟨Tryz.f312.name,by decide,Tryz.func312.trans (Ih G (by kernel_rfl))⟩
 f47:=Tryz.func186.trans (Ih G (by kernel_rfl))
 f48:=Tryz.func187.trans (Ih G (by kernel_rfl))
 f49:=⟨Tryz.f313.name,by decide,Tryz.func313.trans (Ih G (by kernel_rfl))⟩
 f50:=⟨Tryz.f314.name,by decide,Tryz.func314.trans (Ih G (by kernel_rfl))⟩
 f57:=⟨Tryz.f315.name,by decide,Tryz.func315.trans (Ih G (by kernel_rfl))⟩
 t0:=Tryz.underlying0
 a0:=Tryz.isAgg0
 z0:=Tryz.sizeOf0
 v0:=Tryz.zeroValue0
 t3:=Tryz.underlying3
 a3:=Tryz.isAgg3
 z3:=Tryz.sizeOf3
 v3:=Tryz.zeroValue3
 t4:=Tryz.underlying4
 a4:=Tryz.isAgg4
 z4:=Tryz.sizeOf4
 v4:=Tryz.zeroValue4
 t5:=Tryz.underlying5
 a5:=Tryz.isAgg5
 z5:=Tryz.sizeOf5
 v5:=Tryz.zeroValue5
 t9:=Tryz.underlying9
 a9:=Tryz.isAgg9
 z9:=Tryz.sizeOf9
 v9:=Tryz.zeroValue9
 t22:=Tryz.underlying182
 a22:=Tryz.isAgg182
 z22:=Tryz.sizeOf182
 v22:=Tryz.zeroValue182
 a24:=Tryz.isAgg27
 z24:=Tryz.sizeOf27
 t25:=Tryz.underlying134
 a25:=Tryz.isAgg134
 z25:=Tryz.sizeOf134
 v25:=Tryz.zeroValue134
 t39:=Tryz.underlying117
 a39:=Tryz.isAgg117
 z39:=Tryz.sizeOf117
 v39:=Tryz.zeroValue117
 t45:=Tryz.underlying151
 a45:=Tryz.isAgg151
 z45:=Tryz.sizeOf151
 v45:=Tryz.zeroValue151
 t46:=Tryz.underlying152
 a46:=Tryz.isAgg152
 z46:=Tryz.sizeOf152
 v46:=Tryz.zeroValue152
 t50:=Tryz.underlying156
 a50:=Tryz.isAgg156
 z50:=Tryz.sizeOf156
 v50:=Tryz.zeroValue156
 t53:=Tryz.underlying159
 a53:=Tryz.isAgg159
 z53:=Tryz.sizeOf159
 v53:=Tryz.zeroValue159
 t55:=Tryz.underlying161
 a55:=Tryz.isAgg161
 z55:=Tryz.sizeOf161
 v55:=Tryz.zeroValue161
 t66:=Tryz.underlying195
 a66:=Tryz.isAgg195
 z66:=Tryz.sizeOf195
 v66:=Tryz.zeroValue195
 t70:=Tryz.underlying199
 a70:=Tryz.isAgg199
 z70:=Tryz.sizeOf199
 v70:=Tryz.zeroValue199
 t76:=Tryz.underlying239
 a76:=Tryz.isAgg239
 z76:=Tryz.sizeOf239
 v76:=Tryz.zeroValue239
 t77:=Tryz.underlying240
 a77:=Tryz.isAgg240
 z77:=Tryz.sizeOf240
 v77:=Tryz.zeroValue240 }
end Go.Proofs
namespace Go.Proofs.YtkkplhjidondkaaGreat
open Go.Dv Go.Nv Go.Shelf Go.RowKit Go.Lib Go.Sort
set_option maxRecDepth 20000
open Go.IntKind (u64)
open Go.IntKind renaming wrap → yu, i64 → yt
open List renaming length → I, map → U, drop → W
open Option renaming some → G
open Bool renaming true → J, false → O
open Decidable renaming decide → Y
open Int renaming toNat → Z
open Go.Dv.V renaming list → ai, str → ae, agg → ab, int → aa, ref → bz, fn → bw, nils → bv, bool → bu
open Go.Dv.D renaming v → bt, acc → br, ptr → bq, arr → bo, gro → bm, tup → bk, undef → bj, dagg → bi
open Go.Dv.St renaming mk → bh
open Go.Dv.KI renaming blk → bf
open _root_.ByteArray renaming mk → bc
open Go renaming Operand → x8, Program → x7, TypeId → x6, World → x5, Value → yz, Oper → yy, FuncId → yx, Func → yw, IntKind → yv
abbrev dy(w:List Int):b9:=.mk 0 (w.map lf)
def A8(a b:List Int):Int:=Ar (dy a) (dy b)
theorem Zh{a b:List Int}(h:dy a=dy b):a=b:=by
 grind[Abq]
abbrev q5(M:c6):={p:List Int×yz//p.1.length<=1000000/\repV M (cw p.1) p.2}
instance (M:c6):Inhabited (q5 M):=⟨⟨([],.slice none 0 0),by decide,DD _⟩⟩
def Qq{M:c6}(x:q5 M):yz:=x.1.2
def pr{M:c6}(x y:q5 M):Int:=A8 x.1.1 y.1.1
theorem Aqt{M:c6}:SWO (ltOf (pr (M:=M))) where
 irrefl x:=by simp only[ltOf,pr,A8,B6.refl _ trivial];decide
 trans x y z h1 h2:=by
  have h1:Ar (dy x.1.1) (dy y.1.1)<0:=HT h1
  have h2:Ar (dy y.1.1) (dy z.1.1)<0:=HT h2
  exact HK (B6.trans (dy x.1.1) (dy y.1.1) (dy z.1.1) trivial trivial trivial h1 h2)
 ntrans x y z h1 h2:=by
  grind[A8,MH,EF,ltOf,pr]
theorem AcM{g:Gh}{l:List (List Int)}(hl:∀v∈l,I v<=1000000){us:List yz}(h:Af g (Ab (l.map cw)) us):∃ps:List (q5 g.M),ps.map (fun p=>p.1.1)=l/\us=ps.map Qq:=by
 induction l generalizing us with
 |nil=>exact⟨[],rfl,by grind[Ab,Af]⟩
 |cons v l ih=>
  have h':Af g (.v (cw v)::Ab (l.map cw)) us:=h
  obtain⟨u,us',rfl,h1,h2⟩:=h'
  obtain⟨ps,h5,h6⟩:=ih (fun v hv=>hl v (by simp[hv])) h2
  exact⟨⟨(v,u),hl v (by simp),h1⟩::ps,by simp[h5],by simp[h6,Qq]⟩
theorem Yy{g:Gh}(ps:List (q5 g.M)):Af g (Ab ((ps.map fun p=>p.1.1).map cw)) (ps.map Qq)/\∀c∈Ab ((ps.map fun p=>p.1.1).map cw),c.one=J:=by
 induction ps with
 |nil=>grind[Ab,Af]
 |cons p ps ih=>
  constructor
  ·show Af g (.v (cw p.1.1)::Ab ((ps.map fun p=>p.1.1).map cw)) (Qq p::ps.map Qq)
   simp only[Af]
   grind[Ag,Qq]
  ·intro c hc
   have hc:c∈bt (cw p.1.1)::Ab ((ps.map fun p=>p.1.1).map cw):=hc
   rcases Iz.1 hc with rfl|hc
   ·rfl
   grind
def sortW(l:List (List Int)):List (List Int):=l.mergeSort fun a b=>Y (A8 a b<=0)
theorem DH(l:List (List Int)):(sortW l).Perm l:=List.mergeSort_perm l _
theorem AeC{l k:List (List Int)}(hp:k.Perm l)(hs:k.Pairwise fun a b=>Y (A8 a b<=0)=J):k=sortW l:=by
 have hso:(sortW l).Pairwise fun a b=>Y (A8 a b<=0)=J:=List.pairwise_mergeSort (le:=fun a b=>Y (A8 a b<=0)) (fun a b c h1 h2=>HK (EF (HT h1) (HT h2))) (fun a b=>by
  grind[JW,A8]) l
 refine List.Perm.eq_of_pairwise (fun a b _ _ h1 h2=>?_) hs hso (hp.trans (DH l).symm)
 have h1:Ar (dy a) (dy b)<=0:=HT h1
 have h2:Ar (dy b) (dy a)<=0:=HT h2
 have:=B6.swap (dy b) (dy a) trivial trivial
 grind[Zh,CW]
abbrev Akv:Prop:=∀a b:List Int,I a<=1000000->I b<=1000000->F0 295 [cx a,cx b] (di (A8 a b))
theorem Ac8(hC:Akv){g:Gh}{w:x5}{σ:St}(hw:dm g σ w){blk:Nat}(hM:∀o,g.M blk o=none)(n:Nat):CmpLays1 PP 295 #[] (Qq (M:=g.M)) pr blk 0 n w:=by
 intro m os dk _ x y
 obtain⟨W,hW⟩:∃W,W=sortWorld Qq w blk 0 m dk os:=⟨_,rfl⟩
 have hmem:∀b o v,g.M b o=G v->W.cell? ⟨b,o,none⟩=G v:=by
  intro b o v h
  have hne:b≠blk:=fun e=>by rw[e,hM] at h;simp at h
  have hc:=hw.mem b o v h
  have hlt:b<w.heap.size:=hw.mem_lt h
  rw[hW,sortWorld,cell?_grow _ _ _ (by rw[Go.Sort.size_putRow];exact hlt),cell?_putRow_other _ _ _ _ _ _ (.inl hne)]
  exact hc
 have hrep:dm { M:=g.M,β:=g.β,n:=0,ι:=fun _ _=>none,κ:=g.κ } ⟨[],[]⟩ W:=
  { n:=rfl,mem:=hmem,obj:=fun i cs hi=>by simp at hi,inj:=fun i j cs ds hi=>by simp at hi,own:=fun k sz xs hx=>by simp at hx,tags:=by simp,sep:=fun x hx=>by simp at hx,ownObj:=fun x hx=>by simp at hx,fresh:=fun _ _ _=>rfl,gl:=hw.gl,gw:=fun p hp=>by simp[Gy] at hp }
 have arg:∀z:q5 g.M,Ag { M:=g.M,β:=g.β,n:=0,ι:=fun _ _=>none,κ:=g.κ } (cx z.1.1) (Qq z):=by
  intro z
  simp only[Ag]
  exact z.2.2
 have hs:=(hC x.1.1 y.1.1 x.2.1 y.2.1).2 _ W [Qq x,Qq y] hrep (Au.2 ⟨_,_,rfl,arg x,arg y⟩)
 grind[Calls.mono,Ag,AC,AbE,pr]
theorem NO(hC:Akv)(l:List (List Int))(hl:I l<=100000)(hs:∀v∈l,I v<=1000000):
  Aa PP 294 [.arr 0 0 (I l),dfn 295] ⟨[G (Ab (l.map cw))],[]⟩ (.tup []) ⟨[G (Ab ((sortW l).map cw))],[]⟩:=by
 refine⟨⟨_, Tryz.func294,by rfl,by rfl⟩,fun g w args hw hargs=>?_⟩
 obtain⟨u0,u1,rfl,h0,h1⟩:=Au.1 hargs
 simp only[Ag] at h0 h1
 obtain⟨hn,cap,hcap,rfl⟩:=h0
 obtain⟨us1,vs1,rfl,hu1,hv1⟩:=H8.1 h1
 simp only[GM] at hu1 hv1
 subst hu1;subst hv1
 obtain⟨us,rest,et,hb,hr,hone,hM,hκ⟩:=hw.obj 0 _ rfl
 obtain⟨ps,hp1,hp2⟩:=AcM hs hr
 have hpl:I ps=I l:=by grind
 have hul:I us=I l:=by grind
 have hH:Holds Qq w (g.β 0) 0 ps.toArray:=by
  grind[World.frozen?,World.cell?,Holds]
 have hblk:g.β 0<w.heap.size:=ML hb
 have eg:∀args w,(callFunc 295 args).run PP w=.ok (.enter 295 args) w:=enters_of Tryz.func295 (by rfl) rfl
 have hcon:=Any.slices_SortFunc Tryz.sortW (Qq (M:=g.M)) (fun x=>D3 (x:=cw x.1.1) rfl x.2.2) pr Aqt 295 #[] (g.β 0) 0 cap ps.toArray w eg (Ac8 hC hw hM _) hH hblk (by grind)
 change Calls PP 294 _ _ _ at hcon
 rw[show ps.toArray.size=I l by omega] at hcon
 refine Calls.mono hcon ?_
 rintro e w' ⟨rfl,d',n,os,hperm,hsorted,rfl⟩
 obtain⟨hsz,_,hperm⟩:=hperm
 have hdl:d'.toList.map (fun p=>p.1.1)=sortW l:=by
  refine AeC ?_ ?_
  ·grind[Array.extract_eq_self_of_le]
  ·rw[List.pairwise_iff_getElem]
   intro i j hi hj hij
   have hj':j<d'.size:=by simpa using hj
   have h3:=hsorted i j (Iu _) hij (by simp only[IY] at hsz;omega)
   grind[ltOf,pr,MH,A8]
 have hd2:d'.size=I l:=by grind
 have hFl:I (d'.toList.map Qq)=I us:=by grind
 have hcs:=Yy d'.toList
 rw[hdl] at hcs
 have hb2:(putRow Qq (Sort.ahead w n) (g.β 0) 0 d').heap[g.β 0]?=G (.cells ((d'.toList.map Qq)++rest).toArray et (0,0)):=by
  simp only[putRow,mapBlock,Sort.ahead,Array.getElem?_modify,hb,onCells,IT,IJ]
  congr 2
  apply Array.ext_getElem?
  intro t
  simp only[putCells,Array.getElem?_mapIdx,Nat.sub_zero,Iu,true_and,I4,List.getElem?_toArray]
  by_cases ht:t<I us
  ·have htF:t<d'.size:=by omega
   rw[Ig ht,Ig (by omega),HI ht,IJ,Ie htF,I1,Ju,getElem!_pos d' t htF,Array.getElem?_eq_getElem htF];rfl
  ·have htF:¬t<d'.size:=by omega
   rw[Ib (by omega),Ib (by omega),hFl]
   simp only[HZ htF,Option.map_id']
 have h2:=(WI.start hw).setObj (cs':=Ab ((sortW l).map cw)) (q:=0) (w':=putRow Qq (Sort.ahead w n) (g.β 0) 0 d') rfl hb2 (by grind) hcs.1 hcs.2 (fun b hb'=>by
  grind[putRow,mapBlock,Sort.ahead]) (by simp_all) rfl rfl rfl (drawn:=.of (Nat.le_add_right _ _))
 have h3:=h2.grow (w':=sortWorld Qq w (g.β 0) 0 n d' os) (M':=g.M) (c6.le_refl _) (fun b hb'=>⟨heap_grow_old _ _ hb',fun _=>rfl⟩) (fun b o v h=>by
  rw[sortWorld,cell?_grow _ _ _ (h2.rep.mem_lt h)];exact h2.rep.mem b o v h) (by grind[sortWorld,size_grow]) rfl rfl rfl
 grind[Ag,Af]
end Go.Proofs.YtkkplhjidondkaaGreat

namespace Go.Proofs.YtkkplhjidondkaaGreat
open Go.Dv Go.Nv
set_option maxRecDepth 20000
open Go.IntKind (u64)
open Go.IntKind renaming wrap → yu, i64 → yt
open List renaming length → I, map → U, drop → W
open Option renaming some → G
open Bool renaming true → J, false → O
open Decidable renaming decide → Y
open Int renaming toNat → Z
open Go.Dv.V renaming list → ai, str → ae, agg → ab, int → aa, ref → bz, fn → bw, nils → bv, bool → bu
open Go.Dv.D renaming v → bt, acc → br, ptr → bq, arr → bo, gro → bm, tup → bk, undef → bj, dagg → bi
open Go.Dv.St renaming mk → bh
open Go.Dv.KI renaming blk → bf
open _root_.ByteArray renaming mk → bc
open Go renaming Operand → x8, Program → x7, TypeId → x6, World → x5, Value → yz, Oper → yy, FuncId → yx, Func → yw, IntKind → yv
noncomputable abbrev Agu:=Tryz.f11
noncomputable abbrev AbQ:=Tryz.f8
noncomputable def Y3:=yl AbQ
abbrev stN(l:List UInt8)(a:Nat)(c:b9)(run:List cb):St:=⟨[G (co l a),G [di 0,.v .nils],G [di c.n,cq c.az]],[(1,3,run.map c8)]⟩
end Go.Proofs.YtkkplhjidondkaaGreat

namespace Go.Nv
open Go.Dv
open Go.IntKind (u64)
open Go.IntKind renaming wrap → yu, i64 → yt
open List renaming length → I, map → U, drop → W
open Option renaming some → G
open Bool renaming true → J, false → O
open Decidable renaming decide → Y
open Int renaming toNat → Z
open Go.Dv.V renaming list → ai, str → ae, agg → ab, int → aa, ref → bz, fn → bw, nils → bv, bool → bu
open Go.Dv.D renaming v → bt, acc → br, ptr → bq, arr → bo, gro → bm, tup → bk, undef → bj, dagg → bi
open Go.Dv.St renaming mk → bh
open Go.Dv.KI renaming blk → bf
open _root_.ByteArray renaming mk → bc
open Go renaming Operand → x8, Program → x7, TypeId → x6, World → x5, Value → yz, Oper → yy, FuncId → yx, Func → yw, IntKind → yv
def sh:D->Bool
 |.v _|.acc _ _=>true
 |_=>false
theorem UX{g gc:Gh}(hM:gc.M=g.M)(hι:gc.ι=g.ι):∀{cs:List D} {us:List yz},cs.all sh=J->Af g cs us->Af gc cs us
 |[],us,_,h=>by grind[Af]
 |d::cs,us,hp,h=>by
  simp only[List.all_cons,HJ] at hp
  obtain⟨u,us',e,h1,h2⟩:=h
  refine⟨u,us',e,?_,UX hM hι hp.2 h2⟩
  cases d<;>simp[sh] at hp<;>simp only[Ag] at h1⊢
  all_goals grind
theorem Zc{g:Gh}{σ:St}{w:x5}(h:dm g σ w){q:Nat}{cs:List D}(hq:σ.H[q]?=G (G cs))(hp:cs.all sh=J):
  dm { M:=g.M,β:=fun _=>g.β q,n:=1,ι:=g.ι,κ:=fun _=>g.κ q } ⟨[G cs],σ.own⟩ w where
 n:=rfl
 mem:=h.mem
 gl:=h.gl
 gw:=h.gw
 obj:=fun i cs' hi=>by
  cases i with
  |zero=>
   obtain⟨us,rest,e,hb,hr,h1,hM,hκ⟩:=h.obj q cs hq
   grind[UX]
  |succ i=>grind
 inj:=fun i j cs1 cs2 hi hj _=>by
  grind
 own:=h.own
 tags:=h.tags
 sep:=h.sep
 ownObj:=fun x hx u hu b hb i cs' hi=>h.ownObj x hx u hu b hb q cs hq
 fresh:=h.fresh
theorem AdG{E:cd}{g g':Gh}{σ:St}{w w':x5}{q:Nat}{os os':List D}(hw:WI E g σ w)(hq:σ.H[q]?=G (G os))(hp':D.pls os'=J)(hno:cm (I σ.H) [] (σ.H.set q none)=J)
  (h:WI ⟨{ M:=g.M,β:=fun _=>g.β q,n:=1,ι:=g.ι,κ:=fun _=>g.κ q },w,⟨[G os],σ.own⟩⟩ g' ⟨[G os'],[]⟩ w'):
  WI E { M:=g'.M,β:=g.β,n:=g.n,ι:=fun _ _=>none,κ:=g.κ } ⟨σ.H.set q (G os'),[]⟩ w':=by
 have hpr:∀b,cd.priv ⟨{ M:=g.M,β:=fun _=>g.β q,n:=1,ι:=g.ι,κ:=fun _=>g.κ q },w,⟨[G os],σ.own⟩⟩ b->b=g.β q∨∃x∈σ.own,∃u,g.ι x.1 (I x.2.2)=G u/\Co u=G b:=by
  grind[cd.priv]
 have get:∀{i:Nat} {cs:List D},(σ.H.set q (G os'))[i]?=G (G cs)->(i=q/\cs=os')∨(i≠q/\σ.H[i]?=G (G cs)):=by
  grind
 refine hw.update (fun b=>b=g.β q∨∃x∈σ.own,∃u,g.ι x.1 (I x.2.2)=G u/\Co u=G b) ?_ (fun b hb hx=>h.keep b hb (fun hp=>hx (hpr b hp))) h.M (HP _) (fun _ _=>rfl) (fun _ _=>rfl) h.size h.os h.tape h.output ?_ ?_ ?_ (drawn:=h.drawn)
 ·rintro b (rfl|⟨x,hx,u,hu,hb⟩)
  ·exact hw.objs q os hq
  ·exact hw.owns x hx u hu b hb
 ·refine⟨by simp[hw.rep.n],h.rep.mem,fun i cs hi=>?_,fun i j cs ds hi hj e=>?_,fun k sz xs hx=>by grind,by simp,fun x hx=>by grind,fun x hx=>by grind,fun _ _ _=>rfl,h.rep.gl,h.rep.gw⟩
  ·rcases get hi with⟨rfl,rfl⟩|⟨hne,hi'⟩
   ·obtain⟨us,rest,e,hb,hr,h1,hM,hκ⟩:=h.rep.obj 0 cs (by simp)
    have hβ:g'.β 0=g.β i:=h.βE 0 (by simp)
    have hκ':g'.κ 0=g.κ i:=h.κE 0 (by simp)
    grind[BK]
   ·obtain⟨us,rest,e,hb,hr,h1,hM,hκ⟩:=hw.rep.obj i cs hi'
    have hlt:=ML hb
    have hnp:¬(g.β i=g.β q∨∃x∈σ.own,∃u,g.ι x.1 (I x.2.2)=G u/\Co u=G (g.β i)):=by
     rintro (e|⟨x,hx,u,hu,hb2⟩)
     ·exact hne (hw.rep.inj i q cs os hi' hq e)
     ·exact hw.rep.ownObj x hx u hu _ hb2 i cs hi' rfl
    obtain⟨k1,k2⟩:=h.keep _ hlt (fun hp=>hnp (hpr _ hp))
    refine⟨us,rest,e,k1.trans hb,?_,h1,fun o=>(k2 o).trans (hM o),hκ⟩
    have hle:g.le { g with M:=g'.M }:=⟨h.M,HP _,fun _ _=>rfl,fun _ _ _ h=>h,fun _ _=>rfl⟩
    have h3:=En (m:=g.n) (ts:=[]) _ _ (by rw[hw.rep.n];exact ME hno (j:=i) (by grind)) (Af.mono hle _ _ hr)
    grind
  ·rcases get hi with⟨rfl,rfl⟩|⟨h1,hi'⟩<;>rcases get hj with⟨rfl,rfl⟩|⟨h2,hj'⟩
   ·rfl
   ·exact hw.rep.inj _ _ _ _ hq hj' e
   ·exact hw.rep.inj _ _ _ _ hi' hq e
   ·exact hw.rep.inj _ _ _ _ hi' hj' e
 ·intro i cs hi
  rcases get hi with⟨rfl,rfl⟩|⟨_,hi'⟩
  ·exact hw.objs i os hq
  ·exact hw.objs i cs hi'
 grind
section
variable {C : cd -> cd -> Prop} {P : x7} {R : List D -> St -> Prop} {k : List KI} {env : List D} {σ : St} {ops : Array yy} {L : List yy} {o : yy}
theorem AeM(t:Nat){c:Call}{fo:x8}{f:yx}{ds dc:List D}(q:Nat){os:List D}(os':List D)(d:D)(hg:BW env ops o=G true)(ht:o.dst=G t)(hop:o.op=.call c)(hc:c.callee=.value fo)
  (hops:o.op.operands.toList.map (gr env)=.v (.fn f [] [])::ds) (hq:σ.H[q]?=G (G os)) (hva:os.all sh=J) (hp':D.pls os'=J) (hno:cm (I σ.H) [] (σ.H.set q none)=J) (hnoE:D.okNs (I σ.H) [] env=J)
  (ha:Eh q ds dc) (hd:d.pl=J) (hspec:Aa P f dc ⟨[G os],σ.own⟩ d ⟨[G os'],[]⟩)
  (hk:Cg C P R k ops L (env.set t d) ⟨σ.H.set q (G os'),[]⟩):Cg C P R k ops (o::L) env σ:=by
 intro E0 E g a w B hC hf hB
 unfold wpList
 rw[Ie (CD hf.env hg)]
 refine .inl ?_
 have hop':Af g (.v (.fn f [] [])::ds) (o.op.operands.toList.map a.eval):=by
  rw[←hops];exact FR hf.wi.rep.gl hf.env _
 obtain⟨us,vs,ws,hfn,hargs,h1,h2,h3⟩:=DQ hop hc hop'
 simp only[IF,Af] at h1 h2
 subst h1;subst h2
 refine G4 (_E:=E) (_g:=g) hop hc hspec.1 hfn hargs ?_
 have hargs':=Eh.rep (gc:={ M:=g.M,β:=fun _=>g.β q,n:=1,ι:=g.ι,κ:=fun _=>g.κ q }) (q:=q) (g:=g) (by rfl) (by rfl) (by simp) ha h3
 refine Calls.mono (hspec.2 _ w _ (Zc hf.wi.rep hq hva) (by grind)) ?_
 rintro e w' ⟨u,g',rfl,hw',hr⟩
 have h4:=AdG hf.wi hq hp' hno hw'
 refine⟨u,rfl,?_⟩
 have hle:g.le { g with M:=g'.M }:=⟨hw'.M,HP _,fun _ _=>rfl,fun _ _ _ h=>h,fun _ _=>rfl⟩
 have henv:Af { M:=g'.M,β:=g.β,n:=g.n,ι:=fun _ _=>none,κ:=g.κ } env a.tmps.toList:=by
  have h5:=En (m:=g.n) (ts:=[]) _ _ (by rw[hf.wi.rep.n];omega) (Af.mono hle _ _ hf.env)
  grind
 have hfi:FI E { M:=g'.M,β:=g.β,n:=g.n,ι:=fun _ _=>none,κ:=g.κ } ⟨σ.H.set q (G os'),[]⟩ env a w':=⟨h4,henv,hf.defers⟩
 have:=hfi.put h4 (Gh.le_refl _) (d:=d) (u:=u) (Mv (by rfl) hd hr) (G t)
 rw[ht]
 exact hk E0 E _ _ _ B hC this hB
end
def clQ(f:yx):Op->Bool|.call c=>(match c.callee with|.value (.func f')=>f'==f|_=>false)|_=>false
def clA:Op->List x8|.call c=>c.args.toList|_=>[]
theorem An8{f:yx}{o:Op}(h:clQ f o=J):∃c:Call,o=.call c/\c.callee=.value (.func f)/\clA o=c.args.toList:=by
 cases o<;>simp only[clQ] at h<;>try (simp at h;done)
 grind[clA]
section
variable {P : x7} {R : List D -> St -> Prop} {k : List KI} {nt : Nat} {E : List (Nat × D)} {σ : St} {ops : Array yy} {L0 : List yy} {C : cd -> cd -> Prop}
theorem QM(t f q:Nat){os:List D}(ds dc os':List D)(d:D)(h0:L0.isEmpty=O)(hg:BW (cy nt E) ops (i7 L0)=G true)(ht:(i7 L0).dst=G t)(hop:clQ f (i7 L0).op=J)
  (hds:(clA (i7 L0).op).map (gr (cy nt E))=ds) (hq:σ.H[q]?=G (G os)) (hva:os.all sh=J) (hp':D.pls os'=J) (hno:cm (I σ.H) [] (σ.H.set q none)=J) (hnoE:D.okNs (I σ.H) [] (cy nt E)=J)
  (ha:Eh q ds dc) (hd:d.pl=J) (hspec:Aa P f dc ⟨[G os],σ.own⟩ d ⟨[G os'],[]⟩)
  (hk:Cg C P R k ops L0.tail (cy nt (E++[(t,d)])) ⟨σ.H.set q (G os'),[]⟩):Cg C P R k ops L0 (cy nt E) σ:=by
 obtain⟨c,h1,h2,h3⟩:=An8 hop
 rw[VJ h0]
 refine AeM t q os' d hg ht h1 h2 (f:=f) (ds:=ds) ?_ hq hva hp' hno hnoE ha hd hspec (by grind[PB])
 grind[Op.operands,Call.operands,gr]
end
section
variable {P : x7} {fn : yw} {d : D} {σ' : St} {m : Nat} {k : List KI} {E : List (Nat × D)} {σ : St}
theorem Lh(hm:P.follows .mixedOrders=J)(nt:Nat)(im:List Nat)(rg i:Nat){ops:Array yy}{L:List yy}(s:Sc)
  (h:AX (cy nt E) fun env=>YH P im rg ops (fun L sl σ=>It (Cg (CN m) P (fun env σ1=>A9 P fn env σ1 d σ') (k++[]) ops L (cy nt sl) σ)) L i s env σ fun s env σ=>vc (CN m) m P (fun env σ1=>A9 P fn env σ1 d σ') (Zr P fn.results.toList d σ') nt im [] 10000 s k env σ):
  Cg (CN m) P (fun env σ1=>A9 P fn env σ1 d σ') k ops L (cy nt E) σ:=by
 have:=Pt hm (NF m) m (fun _ _ h=>h.2) nt im rg i s h
 grind
end
theorem D0{σ:St}{q:Nat}{cs cs':List D}(hq:σ.H[q]?=G (G cs))(h:∀(g:Gh) (us:List yz),Af g cs us->Af g cs' us)(h1:(∀c∈cs,c.one=J)->∀c∈cs',c.one=J)(e:List D):Cv e σ e ⟨σ.H.set q (G cs'),σ.own⟩:=fun E g a w hf=>by
 refine⟨g,?_,hf.env,hf.defers⟩
 have hw:=hf.wi
 obtain⟨us,rest,et,hb,hr,h2,hM,hκ⟩:=hw.rep.obj q cs hq
 exact hw.setObj hq hb hκ (h g us hr) (h1 h2) (fun _ _=>rfl) rfl rfl rfl rfl
theorem Ox{env:List D}{σ:St}{q t sz n:Nat}{xs:List V}(hsz:0<sz)(hs:∀x∈xs,x.size=sz)(hn:n=I xs)(hq:σ.H[q]?=G (G (Ab xs)))(ht:env[t]?=G (.arr q 0 n)):Cv env σ (env.set t (.v (.list xs))) ⟨σ.H.set q none,σ.own⟩:=fun E g a w hf=>by
 subst hn
 have hone:∀y∈xs.flatMap V.cellsV,y.isAgg=O:=fun y hy=>by
  obtain⟨_,_,_,_,_,h1,_⟩:=hf.wi.rep.obj q _ hq
  have:=h1 (.v y) (I2.2 ⟨y,hy,rfl⟩)
  grind[D.one]
 have hz:Fz (EE [q] σ.H) env (env.set t (.v (.list xs))):=by
  refine Oj (n:=1) (Fz.refl env) ht (.inr (.inr ⟨q,0,sz,Ab xs,xs,.inl rfl,rfl,hsz,hs,by grind[EE],fun j y hy=>?_⟩))
  exact⟨hone y (HO hy),.v y,by grind[Ab],.v y,.same,rfl⟩
 obtain⟨g',hf'⟩:=RM [q] hz E g a w hf
 grind[MI]
theorem XZ{σ:St}{p q i:Nat}{cs:List D}{xs:List V}(hp:σ.H[p]?=G (G cs))(hq:σ.H[q]?=G (G (xs.map .v)))(hpq:p≠q)(hi:cs[i]?=G (.arr q 0 (I xs)))(hx:∀x∈xs,x.isAgg=O)(e:List D):
  Cv e σ e ⟨(σ.H.set q none).set p (G (cs.set i (.v (.list xs)))),σ.own⟩:=fun E g a w hf=>by
 obtain⟨us,rest,et,hb,hr,h1,hM,_⟩:=hf.wi.rep.obj q _ hq
 have hus:I us=I xs:=by have:=A1 hr;grind
 have hA:repA g.M xs us:=GU (GV xs) hr h1
 let M':c6:=fun b o=>if b=g.β q then us[o]? else g.M b o
 have hle:g.M.le M':=fun b o v hm=>by
  grind
 have hlg:g.le { g with M:=M' }:=⟨hle,HP _,fun _ _=>rfl,fun _ _ _ h=>h,fun _ _=>rfl⟩
 have hin:fe M' (g.β q) 0 us:=fun j v hj=>by grind
 have hE:∀{ys:List V} {vs:List yz},(∀y∈ys,y.isAgg=O)->repA M' ys vs->repE M' 1 ys vs:=by
  intro ys
  induction ys<;>grind[repA,repE]
 have hw':WI E { g with M:=M' } ⟨σ.H.set q none,σ.own⟩ w:=hf.wi.setObjG hle hq (fun c hc=>by grind) (fun b _ hne=>⟨rfl,fun o=>by grind⟩) (fun b o v hm=>by
   simp only[M'] at hm
   split at hm
   ·grind[World.cell?]
   ·exact hf.wi.rep.mem b o v hm) (HP _) rfl rfl rfl
 have hp':(σ.H.set q none)[p]?=G (G cs):=by grind
 obtain⟨us2,rest2,et2,hb2,hr2,h12,_,hκ2⟩:=hw'.rep.obj p cs hp'
 obtain⟨u,hu,hru⟩:=BA hr2 hi
 obtain⟨_,cap,hcap,rfl⟩:=hru
 have hlist:repV M' (.list xs) (.slice (G ⟨g.β q,0,none⟩) (I xs) cap):=Dh (by omega) hin (hE hx (repA.mono hle _ _ hA)) hcap
 have hset:=CI hr2 i (d:=.v (.list xs)) (u:=.slice (G ⟨g.β q,0,none⟩) (I xs) cap) (by grind[Ag])
 rw[DA hu] at hset
 have h3:=hw'.setObj hp' hb2 hκ2 hset (fun c hc=>by
  rcases IN hc with h|h
  ·grind
  ·rw[h];rfl) (fun _ _=>rfl) rfl rfl rfl rfl
 exact⟨_,h3,Af.mono hlg _ _ hf.env,hf.defers⟩
end Go.Nv

namespace Go.Proofs.YtkkplhjidondkaaGreat
open Go.Dv Go.Nv
set_option maxRecDepth 20000
open List (flatten replicate take)
open Go.IntKind (u64)
open Go.IntKind renaming wrap → yu, i64 → yt
open List renaming length → I, map → U, drop → W
open Option renaming some → G
open Bool renaming true → J, false → O
open Decidable renaming decide → Y
open Int renaming toNat → Z
open Go.Dv.V renaming list → ai, str → ae, agg → ab, int → aa, ref → bz, fn → bw, nils → bv, bool → bu
open Go.Dv.D renaming v → bt, acc → br, ptr → bq, arr → bo, gro → bm, tup → bk, undef → bj, dagg → bi
open Go.Dv.St renaming mk → bh
open Go.Dv.KI renaming blk → bf
open _root_.ByteArray renaming mk → bc
open Go renaming Operand → x8, Program → x7, TypeId → x6, World → x5, Value → yz, Oper → yy, FuncId → yx, Func → yw, IntKind → yv
noncomputable abbrev Ano:=Tryz.f216
theorem AcN(m:cz)(hm:em m)(i:Nat)(hi:i<I m.av)(c:b9)(hc:AN m c):F0 216 [Ad m,di i,dV c] (di 0):=by
 have hsz:=hc.size hm
 have h1:=EC m hm.ok c (by omega)
 rw[hc.valid hm] at h1
 exact sv Ano 32 [3,5] (.c (di 0)<|.k<|.f<|.f<|.f<|.c (db J) .r) (_/\(m.kind !=1)=O/\Y ((i:Int)<0)=O/\Y ((i:Int)>=(I (U Al m.av):Int))=O/\_/\Q (di 0)) ⟨Es m hm.ok,by rw[hm.kind];rfl,yq,by grind,h1,rfl⟩
noncomputable abbrev t8:=Tryz.f217
noncomputable def rt:=yl t8
theorem VE{c:b9}{s:Int}{ys:List Int}(hc:km c s ys):c.az=lf s::ys.map lf:=by rw[hc.eq];rfl
theorem JX{c:b9}{s:Int}{ys:List Int}(hc:km c s ys):W 1 (take (I (c.az.map eV)) (c.az.map eV))=(ys.map lf).map eV:=by
 rw[List.take_length,VE hc];rfl
theorem AgX(r:cf)(_:b9)(_:Int)(ys:List Int)(hl:I r.am=I ys)(hl2:I ys<=1000)(n:Nat):∀k:Nat,I ys-k=n->
  Rn PP t8 0 (db (Ea (r.am.drop k) (ys.drop k))) ba ([kl rt [1,1,0,1,0,0],.blk 0,kc rt [1,1,1]]++[]) (cy 33 [(2,.v (.ref (Al r))),(17,cq (ys.map lf)),(18,di (I ys)),(19,di k)]) ba:=by
 induction n with
 |zero=>
  intro k hn
  refine lv 33 [2,3] (.f .r) (Y ((k:Int)<(I ys:Int))=O/\db J=db (Ea (W k r.am) (W k ys))) ?_
  grind[List.drop_of_length_le,Ea]
 |succ n ih=>
  intro k hn
  obtain⟨x,hx⟩:∃x,r.am[k]?=G x:=⟨_,HI (show k<I r.am by omega)⟩
  obtain⟨y,hy⟩:=yk (show k<I ys by omega)
  refine lv 33 [2,3] (.t<|.h (.xs (Ac (lf y)))<|.x (vi x)<|.b .r (.ls [ke 2,ke 17,ke 18,ch 19 (di (k+1:Nat))] ba)) (Y ((k:Int)<(I ys:Int))=J/\Q 2/\0<=(k:Int)/\(U eV (U lf ys))[Z (k:Int)]?=G (Ac (lf y))/\0<=(k:Int)/\(cc r.am)[Z (k:Int)]?=G (vi x)/\yp/\(Y (b9.n (lf y)<x)=J->db O=db (Ea (W k r.am) (W k ys)))/\(Y (b9.n (lf y)<x)=O->di (yu yt ((k:Int)+1))=di (↑(k+1):Int)/\I0 t8 0 (db (Ea (W k r.am) (W k ys))) ba [kl rt ee,bf 0,kc rt [1,1,1]] (cy 33 [(2,bt (bz (Al r))),(17,bt (dt (U lf ys))),(18,di (I ys:Int)),(19,di (↑(k+1):Int))]) ba)) ?_
  have e3:r.am.drop k=x::r.am.drop (k+1):=by grind[List.drop_eq_getElem_cons]
  have e4:ys.drop k=y::ys.drop (k+1):=by grind[List.drop_eq_getElem_cons]
  rw[e3,e4]
  refine⟨yr,rfl,by omega,Ap (by grind),by omega,Am hx,yn,fun h1=>?_,fun h1=>⟨Ae,⟨?_⟩⟩⟩
  ·have h1:Y (y<x)=J:=h1
   grind[Ea]
  ·have h1:Y (y<x)=O:=h1
   simp only[Ea,h1,Bool.not_false,Is]
   grind
theorem Wm(r:cf)(c:b9)(s:Int)(ys:List Int)(hc:km c s ys)(hl:I r.am=I ys)(hl2:I ys<=1000):F0 217 [BP r,dV c] (db (gf r s ys)):=by
 have hd:=JX hc
 have hlen:I c.az=I ys+1:=hc.len
 refine sv t8 33 [2,3] (.h (.xs (Ac (lf s)))<|.b .r (.l [ke 2,ch 17 (cq (ys.map lf)),ch 18 (di (I ys)),ch 19 (di (0:Nat))])) (Q 2/\iz 0<=0/\(ce c.az)[Z 0]?=G (Ac (lf s))/\((b9.n (lf s) !=r.aj)=J->db O=db (gf r s ys))/\((b9.n (lf s) !=r.aj)=O->(∀(x:V),x∈U eV c.az->V.size x=2)/\0<=(1:Int)/\(1:Int)<=(I (ce c.az):Int)/\bt (ai (W (Z ((1:Int))) (take (I (ce c.az)) (ce c.az))))=cq (U lf ys)/\di (I (W (Z ((1:Int))) (take (I (ce c.az)) (ce c.az))):Int)=di (I ys:Int)/\di 0=di (↑0:Int)/\I0 t8 (I ba.H) (db (gf r s ys)) ba [kl rt ee,bf 0,kc rt [1,1,1]] (cy 33 [(2,bt (bz (Al r))),(17,cq (U lf ys)),(18,di (I ys:Int)),(19,di (↑0:Int))]) d7)) ⟨rfl,by decide,Ap (i:=0) hc.head,fun h=>?_,fun h=>⟨?_,by omega,?_,?_,?_,rfl,⟨?_⟩⟩⟩
 ·have h:(s !=r.aj)=J:=h
  grind[gf]
 ·intro x hx;obtain⟨v,_,rfl⟩:=I2.1 hx;rw[AH];rfl
 ·grind
 ·grind
 ·grind
 ·have h:(s !=r.aj)=O:=h
  have h:(s==r.aj)=J:=by grind
  simp only[gf,h,Is]
  exact AgX r c s ys hl hl2 _ 0 rfl
noncomputable abbrev Apf:=Tryz.f218
theorem AfB(r:cf)(hr:r.move=[])(i:Nat):F0 218 [BP r,di i] (di i):=by
 refine sv Apf 15 [2] (.t .r) (((I (cc r.move):Int)==0)=J/\Q (di (i:Int))) ?_
 grind
noncomputable abbrev Sw:=Tryz.f157
noncomputable def G1:=yl Sw
def Su:List b9->List Int->b9×Int
 |xs,v::vs=>if Y (v>1048576)=J then(.mk 0 [],1) else Su (xs++[lf v]) vs
 |xs,[]=>(.mk 0 xs,0)
theorem Td:∀(ws gs:List Int) (xs:List b9),I ws=I gs->Su xs (List.zipWith (fun w g=>w+g) ws gs)=Tf xs ws gs
 |[],[],xs,_=>rfl
 |w::ws,g::gs,xs,h=>by
  simp only[List.zipWith_cons_cons,Su,Tf]
  rw[Td ws gs _ (by grind)]
noncomputable abbrev Au3:=[kl G1 [1,1,1,1,1,1,1,0,1,0,0],bf 2,kc G1 [1,1,1,1,1,1,1,1]]
theorem Aiq(r:cf)(ws:List Int)(hw:I ws<=1000)(n:Nat):∀(k:Nat) (xs:List b9),I ws-k=n->I xs<=k+1->
  Rn PP Sw 0 (dP (Su xs (ws.drop k))) ba ([kl G1 [1,1,1,1,1,1,1,0,1,0,0],.blk 2,kc G1 [1,1,1,1,1,1,1,1]]++[]) (cy 90 [(6,.ptr 0 0),(14,.ptr 3 0),(72,.arr 2 0 (I ws)),(73,di (I ws)),(74,di k)]) (j3 r ws xs):=by
 induction n with
 |zero=>
  intro k xs hn hx
  refine lv 90 [3,5] (.f .r) (Y ((k:Int)<(I ws:Int))=O/\bk [bt (Aus xs),di 0]=dP (Su xs (W k ws))) ⟨yq,?_⟩
  rw[Ic (show I ws<=k by omega)];rfl
 |succ n ih=>
  intro k xs hn hx
  obtain⟨w,hw1⟩:=yk (show k<I ws by omega)
  refine lv 90 [3,5] (.t<|.m (di w)<|.b .r (.lo [ke 6,ke 14,ke 72,ke 73,ch 74 (di (k+1:Nat))] (j3 r ws (xs++[lf w])))) (Y ((k:Int)<(I ws:Int))=J/\0<=(k:Int)/\(k:Int)<(I ws:Int)/\(c9 ws)[0+Z (k:Int)*1]?=G (di w)/\(Y (w>1048576)=J->bk [bt mf,di 1]=dP (Su xs (W k ws)))/\(Y (w>1048576)=O->Q (U eV xs)/\Ao (I (U eV xs)+I (ab (aa yt w::ai nV::nV)::nV)) 32/\di (yu yt ((k:Int)+1))=di (↑(k+1):Int)/\cm 4 [1] [G [di 0,dn],G (cR r),G (c9 ws),G [di 0,br 1 (U eV xs++[ab [vi w,ai []]])]]=J/\[G [di 0,dn],G (cR r),G (c9 ws),G [di 0,br 1 (U eV xs++ab (ib w)::nV)]]=[G [di 0,dn],G (cR r),G (c9 ws),G [di 0,br 1 (U eV (xs++[lf w]))]]/\[(1,2,U eV xs++ab (ib w)::nV)]=[(1,2,U eV (xs++[lf w]))]/\I0 Sw 0 (dP (Su xs (W k ws))) ba Au3 (cy 90 [jh,(14,bq 3 0),(72,bo 2 0 (I ws)),(73,di (I ws:Int)),(74,di (↑(k+1):Int))]) (j3 r ws (xs++[lf w])))) ?_
  have e3:ws.drop k=w::ws.drop (k+1):=by grind[List.drop_eq_getElem_cons]
  rw[e3]
  refine⟨yr,by omega,by omega,by grind,fun h=>?_,fun h=>⟨rfl,⟨?_,?_⟩,Ae,?_,?_,?_,⟨?_⟩⟩⟩
  ·simp only[Su,h,IT];rfl
  ·grind
  ·grind
  ·simp[cm,D.okNs,D.okN,BB]
  ·rw[←BM];rfl
  ·rw[←BM];rfl
  ·have:=ih (k+1) (xs++[lf w]) (by omega) (by grind)
   grind[Su]
noncomputable abbrev Awf:=fun a₀=>[ke 6,ke 9,ke 10,ke 40,ke 41,ch 42 (di (a₀+1:Nat))]
theorem AnD(r:cf)(hr:r.move=[])(ys:List Int)(hl:I r.am=I ys)(hg:I r.ak=I ys)(hy:I ys<=1000)(by1:∀y∈ys,0<=y/\y<=1048576)(bn:∀y∈r.am,0<=y/\y<=16)(bg:∀y∈r.ak,0<=y/\y<=16)(N:Nat)(hN:N=I ys)(n:Nat):∀(k:Nat) (ws:List Int),N-k=n->ws=(Cm r ys).take k++r.ak.drop k->
  Rn PP Sw 0 (dP (Su [lf r.to] (Cm r ys))) ba ([kl G1 [1,1,1,1,1,0,1,0,0],.blk 0,kc G1 [1,1,1,1,1,1]]++[]) (cy 90 [(6,.ptr 0 0),(9,.ptr 1 0),(10,.arr 2 0 N),(40,cq (ys.map lf)),(41,di (I ys)),(42,di k)]) (gz r ws):=by
 induction n with
 |zero=>
  intro k ws hn hx
  have hsl:I (Cm r ys)=N:=by grind[Cm,YI]
  rw[Im (by omega),Ic (by omega),I8] at hx
  refine lv 90 [3,5] (.f<|.a 1<|.h .g<|.lo [ke 6,ke 14,ch 72 (.arr 2 0 N),ch 73 (di N),ch 74 (di (0:Nat))] (j3 r ws [lf r.to])) (Y ((k:Int)<(I ys:Int))=O/\Q (bo 2 0 N)/\Q (di (N:Int))/\Q (di 0)/\cm 4 [1] [G [di 0,dn],G (cR r),G (c9 ws),G [di 0,br 1 [ab [vi r.to,ai []]]]]=J/\Q [G [di 0,dn],G (cR r),G (c9 ws),G [di 0,br 1 (eV (lf r.to)::nV)]]/\Q [(1,2,eV (lf r.to)::nV)]/\I0 Sw 0 (dP (Su [lf r.to] (Cm r ys))) ba Au3 (cy 90 [jh,(14,bq 3 0),(72,bo 2 0 N),(73,di (N:Int)),(74,di (↑0:Int))]) (j3 r ws [lf r.to])) ⟨yq,rfl,rfl,rfl,by simp[cm,D.okNs,D.okN,BB],rfl,rfl,⟨?_⟩⟩
  have:=Aiq r (Cm r ys) (by omega) _ 0 [lf r.to] rfl (by simp)
  grind
 |succ n ih=>
  intro k ws hn hx
  obtain⟨ws',hws⟩:∃ws',ws'=(Cm r ys).take (k+1)++r.ak.drop (k+1):=⟨_,rfl⟩
  obtain⟨x,hx1⟩:∃x,r.am[k]?=G x:=⟨_,HI (show k<I r.am by omega)⟩
  obtain⟨y,hy1⟩:=yk (show k<I ys by omega)
  obtain⟨z,hz1⟩:∃z,r.ak[k]?=G z:=⟨_,HI (show k<I r.ak by omega)⟩
  have hsl:I (Cm r ys)=N:=by simp only[Cm,YI,List.length_zipWith];omega
  have hs1:(Cm r ys)[k]?=G (y-x+z):=by simp only[Cm,YI,List.getElem?_zipWith,hy1,hx1,hz1]
  have b1:=by1 _ (HO hy1)
  have b2:=bn _ (HO hx1)
  have b3:=bg _ (HO hz1)
  have htl:I ((Cm r ys).take k)=k:=by rw[Ip];omega
  have hdz:r.ak.drop k=z::r.ak.drop (k+1):=by grind[List.drop_eq_getElem_cons]
  have hw0:ws[k]?=G z:=by
   simp_all
  have hset:ws.set k (y-x+z)=ws':=by
   rw[hx,hws,List.set_append_right _ _ (by omega),htl,Nat.sub_self,hdz,List.set_cons_zero]
   obtain⟨hlt,he⟩:=HL.1 hs1
   rw[List.take_succ_eq_append_getElem hlt,he,IQ];rfl
  have hwl:I ws=N:=by grind[List.length_drop]
  have e2:yt.wrap (z+yt.wrap (b9.n (lf y)-x))=y-x+z:=by
   rw[show b9.n (lf y)=y from rfl,Ak (n:=y-x),Ak];omega
  have e3:List.set (c9 ws) (0+Z (k:Int)*1) (di (y-x+z))=c9 ws':=by
   grind[Int.toNat,List.map_set]
  refine lv 90 [3,5] (.t<|.h (.xs (Ac (lf y)))<|.c (di k)<|.t<|.m (di z)<|.x (vi x)<|.w<|.lo (Awf k) (gz r ws')) (Y ((k:Int)<(I ys:Int))=J/\Q 2/\0<=(k:Int)/\(U eV (U lf ys))[Z (k:Int)]?=G (Ac (lf y))/\_/\Y ((k:Int)>=0)=J/\0<=(k:Int)/\(k:Int)<(N:Int)/\(c9 ws)[0+Z (k:Int)*1]?=G (di z)/\0<=(k:Int)/\(cc r.am)[Z (k:Int)]?=G (vi x)/\0<=(k:Int)/\(k:Int)<(N:Int)/\0+Z (k:Int)*1<I (c9 ws)/\(yj (True))/\di (yu yt ((k:Int)+1))=di (↑(k+1):Int)/\cm 3 [] [G [di 0,dn],G (cR r),G (List.set (c9 ws) (0+Z (k:Int)*1) (di (yu yt (z+yu yt (b9.n (lf y)-x)))))]=J/\[G [di 0,dn],G (cR r),G (List.set (c9 ws) (0+Z (k:Int)*1) (di (yu yt (z+yu yt (b9.n (lf y)-x)))))]=[G [di 0,dn],G (cR r),G (c9 ws')]/\_) ⟨yr,rfl,by omega,Ap (by simp_all),AfB r hr k,yr,by omega,by omega,by simp[c9,hw0],by omega,Am hx1,by omega,by omega,by simp[c9];omega,⟨trivial,trivial,trivial,trivial⟩,Ae,?_,?_,iK (ih (k+1) ws' (by omega) hws)⟩
  ·rw[e2,e3];simp[cm,D.okNs,D.okN,BB]
  grind
theorem AaF(l:List Int):D.pls (c9 l)=J:=by
 have:c9 l=(l.map vi).map .v:=by simp[c9]
 grind[Ca]
noncomputable abbrev Avo:=[kl G1 [1,1,1,1,1,0,1,0,0],bf 0,kc G1 [1,1,1,1,1,1]]
theorem Ahb(m:cz)(hm:em m)(i:Nat)(r:cf)(hi:m.av[i]?=G r)(c:b9)(hc:AN m c):F0 157 [Ad m,di i,dV c] (dP (jc r (ei c) (d6 c))):=by
 have hr:=hm.rule (HO hi)
 have hp:=hm.ay
 have hil:=(HL.1 hi).1
 have hck:=AcN m hm i hil c hc
 have hcc:=hc.isC
 have hyl:=hc.len
 have hnm:=hc.nm
 have he:=Wm r c _ _ hcc (by rw[hr.needL,hc.len]) (by omega)
 generalize ei c=s at*
 generalize d6 c=ys at*
 cases hb:gf r s ys with
 |false=>
  rw[hb] at he
  exact sv Sw 90 [3,5] (.c (di 0)<|.x (Al r)<|.c (db O) .r) (_/\0<=(i:Int)/\(U Al m.av)[Z (i:Int)]?=G (Al r)/\_/\bk [bt mf,di 18]=dP (jc r s ys)) ⟨hck,by omega,Am hi,he,by rw[jc,hb];rfl⟩
 |true=>
  rw[hb] at he
  obtain⟨N,hN⟩:∃N,N=I ys:=⟨_,rfl⟩
  have hN0:r.ak≠ []:=by intro h;have:=hr.giveL;grind
  have hgl:I r.ak=N:=by rw[hr.giveL];omega
  have hd:=JX hcc
  have hlen:I c.az=I ys+1:=hcc.len
  refine sv Sw 90 [3,5] (.c (di 0)<|.x (Al r)<|.c (db J)<|.h (.q 7 2)<|.h (.oc (.arr 2 0 N) (gz r r.ak))<|.lo [ke 6,ke 9,ke 10,ch 40 (cq (ys.map lf)),ch 41 (di (I ys)),ch 42 (di (0:Nat))] (gz r r.ak)) (_/\0<=(i:Int)/\(U Al m.av)[Z (i:Int)]?=G (Al r)/\_/\(N0 [bt (bw 66 [] []),cx r.ak] (bh [G [di 0,dn],G [bt (ae r.name),di r.aj,di r.to,cx r.am,cx r.ak,cx r.move,di r.chan,di r.act,di r.letter,cx r.path,cx r.next,bt (AD r.ar),cx r.aq,di r.second]] []) (bo 2 0 N) (gz r r.ak))/\(∀(x:V),x∈U eV c.az->V.size x=2)/\0<=(1:Int)/\(1:Int)<=(I (ce c.az):Int)/\bt (ai (W (Z ((1:Int))) (take (I (ce c.az)) (ce c.az))))=cq (U lf ys)/\di (I (W (Z ((1:Int))) (take (I (ce c.az)) (ce c.az))):Int)=di (I ys:Int)/\Q (di 0)/\cm 3 [] [G [di 0,dn],G (cR r),G (c9 r.ak)]=J/\Q (gz r r.ak).H/\I0 Sw (I ba.H) (dP (jc r s ys)) ba Avo (cy 90 [jh,(9,bq 1 0),(10,bo 2 0 N),(40,cq (U lf ys)),(41,di (I ys:Int)),(42,di (↑0:Int))]) (gz r r.ak)) ⟨hck,by omega,Am hi,he,fun o c' fo ho hc'=>?_,?_,by omega,?_,?_,?_,rfl,by simp[cm,D.okNs,D.okN,BB],rfl,⟨?_⟩⟩
  ·exact ER (σ:=⟨[G [di 0,.v .nils],G (cR r)],[]⟩) (fs:=[]) (cs:=[]) (ds:=[cx r.ak]) ho hc' rfl (Hc:=[none,G (c9 r.ak)]) (j:=1) rfl (AaF _) (by grind[O4])
  ·grind[AH,V.size]
  ·grind
  ·grind
  ·grind
  ·have h1:=AnD r hr.move ys (by rw[hr.needL];omega) (by omega) (by omega) hnm hr.am hr.ak N hN _ 0 r.ak rfl (by simp)
   rw[jc,Ie hb, ←Td _ _ _ (by rw[YI,List.length_zipWith,hr.needL,hr.giveL];omega)]
   exact h1
noncomputable abbrev AjB:=Tryz.f141
theorem ZM(m:cz)(hm:em m):F0 141 [Ad m] (di 0):=by
 exact sv AjB 12 [1] (.c (di 0)<|.k<|.f .r) (_/\(m.kind==6)=O/\Q (di 0)) ⟨Es m hm.ok,by rw[hm.kind];rfl,rfl⟩
noncomputable abbrev Ago:=Tryz.f90
noncomputable abbrev tg:=fun a₀ b₀=>F0 47 [Ad a₀,dV b₀] (db J)
noncomputable abbrev tl:=fun a₀=>F0 141 [Ad a₀] (di 0)
theorem ZZ(m:cz)(hm:em m)(c:b9)(hc:AN m c):F0 90 [Ad m,dV c] (di 0):=by
 refine sv Ago 15 [2,3] (.c (di 0)<|.c (db J) .r) (tl m/\tg m c/\Q (di 0)) ?_
 have hsz:=hc.size hm
 have h1:=EC m hm.ok c (by omega)
 rw[hc.valid hm] at h1
 grind[ZM]
noncomputable abbrev uj:=Tryz.f155
theorem Ae9(m:cz)(hm:em m)(c:b9):F0 155 [Ad m,dV c] (cq []):=by
 exact sv uj 31 [2,3] (.f<|.f<|.f .r) ((m.kind==2)=O/\(m.kind==3)=O/\(m.kind==5)=O/\Q (cq [])) ⟨by rw[hm.kind];rfl,by rw[hm.kind];rfl,by rw[hm.kind];rfl,rfl⟩
noncomputable abbrev AoN:=Tryz.f156
theorem Mk(p:b9×Int):F0 156 [dV p.1,di p.2] (dq (Cu p)):=by
 refine sv AoN 14 [2] (.b .r (.b .r .r)) (((p.snd==0)=J->bk [bt (ai [Ac p.fst]),di 0]=dq (Cu p))/\((p.snd==0)=O->((p.snd==18)=J->bk pp=dq (Cu p))/\((p.snd==18)=O->bk [bt (ai []),di p.snd]=dq (Cu p)))) ?_
 grind[Cu,AH]
noncomputable abbrev p9:=Tryz.f91
theorem ApL(m:cz)(hm:em m)(c:b9):F0 91 [Ad m,di (-1),dV c] (dq ([],0)):=by
 refine sv p9 56 [3,5] (.c (cq []) .r) (F0 155 [Ad m,dV c] (cq [])/\bk [bt (dt []),di 0]=dq ([],0)) ?_
 grind[Ae9]
theorem ApK(m:cz)(hm:em m)(i:Nat)(c:b9)(p:b9×Int)(hp:F0 157 [Ad m,di i,dV c] (dP p)):F0 91 [Ad m,di i,dV c] (dq (Cu p)):=by
 exact sv p9 56 [3,5] (.f<|.t<|.c (dP p)<|.c (dq (Cu p)) .r) (((i:Int)== -1)=O/\(m.kind==1)=J/\_/\_/\bk [bt (dt (Cu p).fst),di (Cu p).snd]=dq (Cu p)) ⟨Iy.2 (by omega),by rw[hm.kind];rfl,hp,Mk p,rfl⟩
theorem Ahg(m:cz)(hm:em m)(c:b9)(hc:AN m c)(i:Int)(h1: -1<=i)(h2:i<I m.av):F0 91 [Ad m,di i,dV c] (dq (li m c i)):=by
 grind[ApL,li,ApK,Ahb]
noncomputable abbrev GH:=Tryz.f50
noncomputable def Dm:=yl GH
theorem AiV(m:cz)(c:b9)(rl:Int)(hr1: -1<=rl)(hr2:rl<=1000)(l:List b9)(hl0:I l<=1000)(p:List cb×Int)(fin:List cb)(hf:I fin<=100000)
  (hout:Rn PP GH 0 (fw p) ba ([kl Dm [1,1,1,0,1,0,0],.blk 0,kc Dm [1,1,1,1]]++[]) (cy 53 [(2,.v (.ref (A0 m))),(3,.v (.ref (Ac c))),(7,Sl fin),(8,di (rl+1))]) (FF fin)) (n:Nat):∀(k:Nat) (xs:List cb),I l-k=n->xs++(l.drop k).map (fun v=>(rl,v))=fin->
  Rn PP GH 0 (fw p) ba ([kl Dm [1,1,1,0,1,0,0,1,0,0,1,1,1,0,0],.blk 2,.blk 1,kc Dm [1,1,1,0,1,0,0,1,1],kl Dm [1,1,1,0,1,0,0],.blk 0,kc Dm [1,1,1,1]]++[]) (cy 53 [(2,.v (.ref (A0 m))),(3,.v (.ref (Ac c))),(7,Sl xs),(8,di rl),(36,cq l),(37,di (I l)),(38,di k)]) (FF xs):=by
 induction n with
 |zero=>
  intro k xs hn hx
  rw[Ic (by omega),IF,I8] at hx
  subst hx
  exact lv 53 [2,3] (.f<|.l [ke 2,ke 3,ke 7,ch 8 (di (rl+1))]) (Y ((k:Int)<(I l:Int))=O/\di (yu yt (rl+1))=di (rl+1)/\_) ⟨yq,by grind[Ak],iK hout⟩
 |succ n ih=>
  intro k xs hn hx
  have hk:k<I l:=by omega
  have hv:l[k]?=G l[k]:=HI hk
  rw[HX hk] at hx
  generalize l[k]=v at hv hx
  refine lv 53 [2,3] (.t<|.h (.xs (Ac v))<|.ls [ke 2,ke 3,ch 7 (Sl (xs++[(rl,v)])),ke 8,ke 36,ke 37,ch 38 (di (k+1:Nat))] (FF (xs++[(rl,v)]))) (Y ((k:Int)<(I l:Int))=J/\Q 2/\0<=(k:Int)/\(U eV l)[Z (k:Int)]?=G (Ac v)/\Q (U c8 xs)/\Ao (I (U c8 xs)+I (ab (aa yt rl::vi v.n::dt v.az::nV)::nV)) 40/\br 1 (U c8 xs++[ab [vi rl,vi v.n,dt v.az]])=Sl (xs++[(rl,v)])/\di (yu yt ((k:Int)+1))=di (↑(k+1):Int)/\[(1,3,U c8 xs++ab (vi rl::vi v.n::dt v.az::nV)::nV)]=[(1,3,U c8 (xs++[(rl,v)]))]/\_) ⟨yr,rfl,by omega,Ap hv,rfl,⟨?_,?_⟩,?_,Ae,?_,iK (ih (k+1) (xs++[(rl,v)]) (by omega) (by rw[←hx];simp))⟩
  all_goals grind
theorem Mo(m:cz)(hm:I m.av<=12)(c:b9)(ap:Int->List b9×Int)(hl:∀i,(ap i).1.length<=1000)(hap:∀i:Int, -1<=i->i<I m.av->F0 91 [Ad m,di i,dV c] (dq (ap i)))(n:Nat):∀(rl:Int) (xs:List cb), -1<=rl->rl<=I m.av->(I m.av-rl).toNat=n->I xs<=(rl+1).toNat*1000->
  Rn PP GH 0 (fw (CX ap n rl xs)) ba ([kl Dm [1,1,1,0,1,0,0],.blk 0,kc Dm [1,1,1,1]]++[]) (cy 53 [(2,.v (.ref (A0 m))),(3,.v (.ref (Ac c))),(7,Sl xs),(8,di rl)]) (FF xs):=by
 induction n with
 |zero=>
  intro rl xs h1 h2 hn hx
  refine lv 53 [2,3] (.f<|.b .r .r) (Y (rl<(I (U Al m.av):Int))=O/\(Y ((I (U c8 xs):Int)>256)=J->bk [bt (ai []),di 1]=fw (CX ap 0 rl xs))/\(Y ((I (U c8 xs):Int)>256)=O->bk [bt (ai (U c8 xs)),di 0]=fw (CX ap 0 rl xs))) ?_
  grind[CX]
 |succ n ih=>
  intro rl xs h1 h2 hn hx
  have hp:=hap rl h1 (by omega)
  have hi:=ih (rl+1) (xs++(ap rl).1.map fun v=>(rl,v)) (by omega) (by omega) (by omega) (by have:=hl rl;simp only[HW,HH];omega)
  have hll:=hl rl
  generalize ap rl=q at*
  refine lv 53 [2,3] (.t<|.c (dq q)<|.b .r (.l [ke 2,ke 3,ke 7,ke 8,ke 36,ch 37 (di (I q.1)),ch 38 (di (0:Nat))])) (Y (rl<(I (U Al m.av):Int))=J/\_/\((q.snd !=0)=J->bk [bt (ai []),di q.snd]=fw (if (q.snd !=0)=J then([],q.snd) else CX ap n (rl+1) (xs++U (fun v=>(rl,v)) q.fst)))/\((q.snd !=0)=O->di (I (ce q.fst):Int)=di (I q.fst:Int)/\di 0=di (↑0:Int)/\I0 GH 0 (fw (if (q.snd !=0)=J then([],q.snd) else CX ap n (rl+1) (xs++U (fun v=>(rl,v)) q.fst))) ba [kl Dm [1,1,1,0,1,0,0,1,0,0,1,1,1,0,0],bf 2,bf 1,kc Dm [1,1,1,0,1,0,0,1,1],kl Dm gb,bf 0,kc Dm [1,1,1,1]] (cy 53 [(2,bt (gd m)),(jw c),(7,br 1 (U c8 xs)),(8,di rl),(36,cq q.fst),(37,di (I q.fst:Int)),(38,di (↑0:Int))]) (FF xs))) ⟨by grind,hp,fun h=>?_,fun h=>⟨by rw[HH],rfl,⟨?_⟩⟩⟩
  ·grind
  ·rw[HZ (by grind)]
   exact AiV m c rl h1 (by omega) q.1 hll _ _ (by simp only[HW,HH];omega) hi _ 0 xs rfl (by simp)
theorem Aab(m:cz)(hm:em m)(c:b9)(hc:AN m c):F0 50 [Ad m,dV c] (fw (Em m c)):=by
 have hp:=hm.ay
 refine sv GH 53 [2,3] (.c (di 0)<|.h (.q 5 0)<|.h (.nw 7 1 3)<|.ls tx (FF [])) (_/\Q (di (-1))/\Q [(1,3,nV)]/\I0 GH (I ba.H) (fw (Em m c)) ba [kl Dm gb,bf 0,kc Dm [1,1,1,1]] (cy 53 (te m c)) (FF [])) ⟨ZZ m hm c hc,rfl,rfl,⟨?_⟩⟩
 exact Mo m (by omega) c (li m c) (fun i=>by grind[Wu]) (fun i h1 h2=>Ahg m hm c hc i h1 h2) (I m.av+1) (-1) [] (by omega) (by omega) (by omega) (by simp)
theorem Da(l:List b9):∀y∈l.map eV,y.size=2:=by grind[T8]
theorem AG(v:b9)(l:List b9):Ab ((v::l).map eV)=[.v (vi v.n),.v (dt v.az)]++Ab (l.map eV):=by
 simp only[Ab,Ik,List.flatMap_cons,IZ]
 rw[AH];rfl
theorem AU:∀l:List b9,I (Ab (l.map eV))=I l*2
 |[]=>rfl
 |v::l=>by rw[AG,HW,AU l,HN];grind
theorem Hf(l k:List b9):Ab ((l++k).map eV)=Ab (l.map eV)++Ab (k.map eV):=by
 grind[Ab]
theorem Ep{l:List b9}{i:Nat}{x:b9}(h:l[i]?=G x):((Ab (l.map eV)).drop (i*2)).take 2=[.v (vi x.n),.v (dt x.az)]:=by
 obtain⟨hi,rfl⟩:=HL.1 h
 have e:l=l.take i++l[i]::l.drop (i+1):=by simp_all
 grind[AG,AU,Ab]
theorem MS{l:List b9}{i:Nat}{x:b9}(h:l[i]?=G x):(Ab (l.map eV)).take (i*2)++[.v (vi x.n),.v (dt x.az)]++(Ab (l.map eV)).drop (i*2+2)=Ab (l.map eV):=by
 grind[Ep,List.take_append_drop,List.drop_drop]
theorem Ay(l:List V):D.pls (Ab l)=J:=Ca _
theorem Aj(n:Nat)(ts:List Nat)(l:List V):D.okNs n ts (Ab l)=J:=by
 unfold Ab
 induction l.flatMap V.cellsV<;>grind[D.okNs,D.okN]
noncomputable abbrev AjG:=Tryz.f65
theorem AgP:F0 65 [cq []] (cq []):=by
 refine UJ (ds:=[]) (ds':=[]) fun a cap=>?_
 cases a with
 |none=>
  refine sv AjG 8 [] .r (bt (ai [])=cq []) ?_
  rfl
 |some a=>
  refine sv AjG 8 [] (.a 1<|.h (.q 3 2)<|.h (.un 6)<|.r) (Q nV/\Ao 0 32/\bt (ai [])=cq []) ?_
  grind
noncomputable abbrev ej:=fun a₀=>(Ab (U eV a₀))
theorem Yq(l:List b9)(hl:I l<=1000000)(h:l≠ []):Aa PP 65 [cq l] ba (.arr 1 0 (I l)) ⟨[none,G (Ab (l.map eV))],[]⟩:=by
 refine sv AjG 8 [] (.h .g<|.h (.q 3 3)<|.h (.ga 7) .ro) (U eV l≠ []/\Q 0/\U eV l≠ []/\(∀(y:V),y∈U eV l->V.size y=2)/\Ao (0+I (U eV l)) 32/\cm 2 [] [none,G ([]++Ab (U eV l))]=J/\[none,G ([]++Ab (U eV l))]=[none,G (ej l)]/\bo 1 0 (0+I (U eV l))=bo 1 0 (I l)) ?_
 grind[Da,cm,Aj]
noncomputable abbrev r0:=Tryz.f35
noncomputable def rb:=yl r0
abbrev lr(l:List b9):St:=⟨[G [di 0,.v .nils],G (Ab (l.map eV))],[]⟩
noncomputable abbrev dp:=fun a₀ b₀=>[di a₀,cq b₀]
noncomputable abbrev qf:=fun a₀=>F0 35 [dV a₀] (dV a₀)
theorem Afi(v:b9)(hv:v.size<=1000000)(hk:∀x∈v.az,F0 35 [dV x] (dV x))(n:Nat):∀k:Nat,I v.az-k=n->
  Rn PP r0 0 (dV v) ba ([kl rb [1,1,0,1,0,0],.blk 0,kc rb [1,1,1]]++[]) (cy 26 [(1,.v (.ref (Ac v))),(2,.ptr 0 0),(3,.arr 1 0 (I v.az)),(9,.arr 1 0 (I v.az)),(10,di (I v.az)),(11,di k)]) (lr v.az):=by
 induction n with
 |zero=>
  intro k hn
  exact lv 26 [1] (.f<|.h (.q 7 0)<|.h (.ct 3 (cq v.az) ⟨[G [di 0,.v .nils],none],[]⟩) .r) (Y ((k:Int)<(I v.az:Int))=O/\(∀(e:List D),e[3]?=G (bo 1 0 (I v.az))->∀(E:cd) (g:Gh) (a:Act) (w:x5),FI E g (lr v.az) e a w->∃g',FI E g' (bh [G [di 0,dn],none] []) (List.set e 3 (cq v.az)) a w)/\Q (dV v)) ⟨yq,fun e he=>Ox (σ:=lr v.az) (q:=1) (sz:=2) (by decide) (Da _) (by simp) rfl he,rfl⟩
 |succ n ih=>
  intro k hn
  obtain⟨x,hx⟩:∃x,v.az[k]?=G x:=⟨_,HI (show k<I v.az by omega)⟩
  refine lv 26 [1] (.t<|.m (dV x)<|.c (dV x)<|.h .ww<|.lo [ke 1,ke 2,ke 3,ke 9,ke 10,ch 11 (di (k+1:Nat))] (lr v.az)) (Y ((k:Int)<(I v.az:Int))=J/\0<=(k:Int)/\(k:Int)<(I v.az:Int)/\0+Z (k:Int)*2+2<=I (ej v.az)/\take 2 (W (0+Z (k:Int)*2) (ej v.az))=(dp x.n x.az)/\qf x/\0<=(k:Int)/\(k:Int)<(I v.az:Int)/\0+Z (k:Int)*2+2<=I (ej v.az)/\di (yu yt ((k:Int)+1))=di (↑(k+1):Int)/\cm 2 [] [G [di 0,dn],G (take (0+Z (k:Int)*2) (ej v.az)++(dp x.n x.az)++W (0+Z (k:Int)*2+2) (ej v.az))]=J/\[G [di 0,dn],G (take (0+Z (k:Int)*2) (ej v.az)++(dp x.n x.az)++W (0+Z (k:Int)*2+2) (ej v.az))]=[G [di 0,dn],G (ej v.az)]/\I0 r0 0 (dV v) ba [kl rb ee,bf 0,kc rb [1,1,1]] (cy 26 [(1,bt (jy v)),n7,(3,bo 1 0 (I v.az)),(9,bo 1 0 (I v.az)),(10,di (I v.az:Int)),(11,di (↑(k+1):Int))]) (lr v.az)) ?_
  have e0:0+Z (k:Int)*2=k*2:=by omega
  have hl:k*2+2<=I (Ab (v.az.map eV)):=by rw[AU];omega
  rw[e0]
  refine⟨yr,by omega,by omega,hl,Ep hx,hk x (HO hx),by omega,by omega,hl,Ae (by have:=b9.length_le v.az;have:=v.size_eq;omega),?_,?_,⟨ih (k+1) (by omega)⟩⟩
  ·rw[MS hx];simp[cm,D.okNs,D.okN,Aj]
  grind[MS]
noncomputable abbrev tz:=(bh [G [di 0,dn]] [])
theorem Gi(N:Nat):∀v:b9,v.size<=N->v.size<=1000000->F0 35 [dV v] (dV v):=by
 induction N with
 |zero=>intro v h;have:=v.size_pos;omega
 |succ N ih=>
 intro v hN hv
 have hs:=v.size_eq
 have hl:=b9.length_le v.az
 by_cases h:v.az=[]
 ·refine sv r0 26 [1] (.c (cq [])<|.n<|.f .r) (F0 65 [cq v.az] (cq [])/\Y (0<(I (U eV []):Int))=O/\bt (ab [vi v.n,ai []])=dV v) ?_
  grind[AgP]
 ·refine sv r0 26 [1] (.h (.q 1 2)<|.h (.oc (.arr 1 0 (I v.az)) (lr v.az))<|.lo [ke 1,ke 2,ke 3,ke 9,ke 10,ch 11 (di (0:Nat))] (lr v.az)) ((N0 [bt (bw 65 [] []),cq v.az] tz (bo 1 0 (I v.az)) (lr v.az))/\Q (di 0)/\cm 2 [] [G [di 0,dn],G (ej v.az)]=J/\Q (lr v.az).H/\I0 r0 (I ba.H) (dV v) ba [kl rb ee,bf 0,kc rb [1,1,1]] (cy 26 [(1,bt (jy v)),n7,(3,bo 1 0 (I v.az)),(9,bo 1 0 (I v.az)),(10,di (I v.az:Int)),(11,di (↑0:Int))]) (lr v.az)) ⟨fun o c fo ho hc=>?_,rfl,by simp[cm,D.okNs,D.okN,Aj],rfl,⟨Afi v hv (fun x hx=>?_) _ 0 rfl⟩⟩
  ·exact ER (σ:=⟨[G [di 0,.v .nils]],[]⟩) (fs:=[]) (cs:=[]) (ds:=[cq v.az]) ho hc rfl (Hc:=[none,G (Ab (v.az.map eV))]) (j:=1) rfl (Ay _) (Yq v.az (by omega) h)
  grind[b9.size_mem,Aa]
noncomputable abbrev sj:=Tryz.f39
noncomputable def YX:=yl sj
abbrev qx(l:List b9):St:=⟨[],[(1,2,l.map eV)]⟩
noncomputable abbrev jk:=fun a₀ b₀=>(U eV (take a₀ b₀))
theorem Ahq(l:List b9)(hl:I l<=100000)(hs:∀v∈l,v.size<=1000000)(n:Nat):∀k:Nat,I l-k=n->
  Rn PP sj 0 (.acc 1 (l.map eV)) (qx l) ([kl YX [1,1,0,1,0,0],.blk 0,kc YX [1,1,1]]++[]) (cy 22 [(3,.acc 1 ((l.take k).map eV)),(9,cq l),(10,di (I l)),(11,di k)]) (qx (l.take k)):=by
 induction n with
 |zero=>
  intro k hn
  refine lv 22 [] (.f .r) (Y ((k:Int)<(I l:Int))=O/\[(1,2,U eV (take k l))]=[(1,2,U eV l)]/\br 1 (jk k l)=br 1 (U eV l)) ?_
  grind[List.take_of_length_le]
 |succ n ih=>
  intro k hn
  obtain⟨x,hx⟩:=yk (show k<I l by omega)
  have ht:l.take (k+1)=l.take k++[x]:=by rw[IW,hx];rfl
  have hxs:=hs x (HO hx)
  refine lv 22 [] (.t<|.h (.xs (Ac x))<|.c (dV x)<|.ls [ch 3 (.acc 1 ((l.take (k+1)).map eV)),ke 9,ke 10,ch 11 (di (k+1:Nat))] (qx (l.take (k+1)))) (Y ((k:Int)<(I l:Int))=J/\Q 2/\0<=(k:Int)/\(U eV l)[Z (k:Int)]?=G (Ac x)/\_/\Q (jk k l)/\Ao (I (jk k l)+I (Ac x::nV)) 32/\br 1 (U eV (take k l)++[Ac x])=br 1 (U eV (take (k+1) l))/\di (yu yt ((k:Int)+1))=di (↑(k+1):Int)/\[(1,2,U eV (take k l)++Ac x::nV)]=[(1,2,U eV (take (k+1) l))]/\_) ⟨yr,rfl,by omega,Ap hx,Gi _ x (HP _) hxs,rfl,⟨?_,?_⟩,?_,Ae,?_,iK (ih (k+1) (by omega))⟩
  all_goals grind[BM]
theorem Ahp(l:List b9)(hl:I l<=100000)(hs:∀v∈l,v.size<=1000000):Aa PP 39 [cq l] ba (.acc 1 (l.map eV)) (qx l):=by
 refine sv sj 22 [] (.a 1<|.ls [ke 3,ke 9,ch 10 (di (I l)),ch 11 (di (0:Nat))] (qx [])) (iz 0=0/\0<=(I (U eV l):Int)/\(32:Int)*(I (U eV l):Int)<=281474976710656/\(I (U eV l):Int)<=9223372036854775807/\di (I (U eV l):Int)=di (I l:Int)/\Q (di 0)/\Q [(1,2,nV)]/\I0 sj (I ba.H) (br 1 (U eV l)) (qx l) [kl YX ee,bf 0,kc YX [1,1,1]] (cy 22 [(3,br 1 []),(9,cq l),(10,di (I l:Int)),(11,di (↑0:Int))]) (qx [])) ⟨rfl,by omega,by rw[HH];omega,by rw[HH];omega,by rw[HH],rfl,rfl,⟨?_⟩⟩
 have:=Ahq l hl hs _ 0 rfl
 grind
def GS(n:Nat):List D:=(replicate n [vi 0,bv]).flatten.map .v
theorem AdC(n:Nat):I (GS n)=n*2:=by grind[GS,JB]
theorem Za(n:Nat):(GS (n+1)).drop 2=GS n:=rfl
theorem Rg(n:Nat)(ts:List Nat)(k:Nat):D.okNs n ts (GS k)=J:=by
 unfold GS
 induction (replicate k [vi 0,bv]).flatten<;>grind[D.okNs,D.okN]
theorem Vw{n:Nat}{ts:List Nat}:∀{a b:List D},D.okNs n ts a=J->D.okNs n ts b=J->D.okNs n ts (a++b)=J
 |[],b,_,h=>h
 |x::a,b,h1,h2=>by
  simp only[Jz,D.okNs,HJ] at h1⊢
  exact⟨h1.1,Vw h1.2 h2⟩
abbrev stZ(l:List b9)(k:Nat):St:=⟨[G (Ab ((l.take k).map eV)++GS (I l-k))],[]⟩
theorem Adh(l:List b9)(hl:I l<=100000)(hs:∀v∈l,v.size<=1000000)(n:Nat):∀k:Nat,I l-k=n->k<=I l->
  Rn PP sj 0 (.arr 0 0 (I l)) ⟨[G (Ab (l.map eV))],[]⟩ ([kl YX [1,1,0,1,0,0],.blk 0,kc YX [1,1,1]]++[]) (cy 22 [(3,.gro 0 k 2),(9,cq l),(10,di (I l)),(11,di k)]) (stZ l k):=by
 induction n with
 |zero=>
  intro k hn hkl
  refine lv 22 [] (.f<|.h (.q 7 0)<|.h (.ga 3) .ro) (Y ((k:Int)<(I l:Int))=O/\cm 1 [] [G (Ab (jk k l)++GS (I l-k))]=J/\[G (Ab (jk k l)++GS (I l-k))]=[G (ej l)]/\bo 0 0 k=bo 0 0 (I l)) ?_
  grind[GS,Aj,cm]
 |succ n ih=>
  intro k hn hkl
  obtain⟨x,hx⟩:=yk (show k<I l by omega)
  have ht:l.take (k+1)=l.take k++[x]:=by rw[IW,hx];rfl
  have hxs:=hs x (HO hx)
  have hfl:I (Ab ((l.take k).map eV))=k*2:=by rw[AU,Ip];omega
  have e:take (k*2) (Ab ((l.take k).map eV)++GS (I l-k))++[di x.n,bt (dt x.az)]++W (k*2+2) (Ab ((l.take k).map eV)++GS (I l-k))=Ab ((l.take (k+1)).map eV)++GS (I l- (k+1)):=by
   rw[List.take_left' hfl, ←List.drop_drop,List.drop_left' hfl,show I l-k=(I l- (k+1))+1 by omega,Za,ht,Hf,AG,IQ,IQ]
   rfl
  have e2:I (Ab [Ac x])=2:=rfl
  refine lv 22 [] (.t<|.h (.xs (Ac x))<|.c (dV x)<|.w<|.lo [ch 3 (.gro 0 (k+1) 2),ke 9,ke 10,ch 11 (di (k+1:Nat))] (stZ l (k+1))) (Y ((k:Int)<(I l:Int))=J/\Q 2/\0<=(k:Int)/\(U eV l)[Z (k:Int)]?=G (Ac x)/\_/\(k+I (Ac x::nV))*2<=I (Ab (jk k l)++GS (I l-k))/\[Ac x]≠ []/\(∀(y:V),y∈ [Ac x]->V.size y=2)/\Q (bm 0 (k+1) 2)/\di (yu yt ((k:Int)+1))=di (↑(k+1):Int)/\cm 1 [] [G (take (k*2) (Ab (jk k l)++GS (I l-k))++(dp x.n x.az)++W (k*2+I (Ab [Ac x])) (Ab (jk k l)++GS (I l-k)))]=J/\[G (take (k*2) (Ab (jk k l)++GS (I l-k))++(dp x.n x.az)++W (k*2+I (Ab (Ac x::nV))) (Ab (jk k l)++GS (I l-k)))]=[G (Ab (U eV (take (k+1) l))++GS (I l- (k+1)))]/\_) ⟨yr,rfl,by omega,Ap hx,Gi _ x (HP _) hxs,?_,by simp,fun y hy=>by rw[HY.1 hy];rfl,rfl,Ae,?_,?_,iK (ih (k+1) (by omega) (by omega))⟩
  ·rw[HW,hfl,AdC];simp;omega
  all_goals grind[cm,Vw,Aj,Rg]
theorem Sk(l:List b9)(hl:I l<=100000)(hs:∀v∈l,v.size<=1000000):Aa PP 39 [cq l] ba (.arr 0 0 (I l)) ⟨[G (Ab (l.map eV))],[]⟩:=by
 refine sv sj 22 [] (.h .g<|.lo [ke 3,ke 9,ch 10 (di (I l)),ch 11 (di (0:Nat))] (stZ l 0)) (iz 0=0/\0<=(I (U eV l):Int)/\(32:Int)*(I (U eV l):Int)<=281474976710656/\(I (U eV l):Int)<=9223372036854775807/\di (I (U eV l):Int)=di (I l:Int)/\Q (di 0)/\cm 1 [] [G (U bt (flatten (replicate (Z (I (U eV l):Int)) [vi 0,bv])))]=J/\[G (U bt (flatten (replicate (Z (I (U eV l):Int)) (vi 0::bv::nV))))]=[G ([]++GS (I l-0))]/\_) ⟨rfl,by omega,by grind,by grind,by grind,rfl,?_,?_,iK (Adh l hl hs _ 0 rfl (by omega))⟩
 ·exact Ia.2 ⟨Rg 1 [] _,rfl⟩
 ·rw[HH];rfl
noncomputable abbrev AoP:=Tryz.f49
noncomputable abbrev Am6:=Tryz.f89
theorem WU(x v:b9)(hx:x.size<=1000000):F0 89 [dV x,.v (.ref (Ac v))] (db (Ar x v==0)):=by
 refine sv Am6 7 [2] (.c (db (Ar x v==0)) .r) (F0 22 [dV x,dV v] (db (Ar x v==0))/\Q (db (Ar x v==0))) ?_
 grind[FZ]
def Dj(l:List b9)(v:b9):Int:=de (fun x=>Ar x v==0) l 0
theorem Mn(l:List b9)(hl:I l<=1000000)(hs:∀v∈l,v.size<=1000000)(v:b9):F0 49 [cq l,dV v] (di (Dj l v)):=by
 exact sv AoP 8 [3] (.c (di (Dj l v)) .r) (_/\Q (di (Dj l v))) ⟨VC _ [] [_] _ l hl fun x hx=>WU x v (hs x hx),rfl⟩
end Go.Proofs.YtkkplhjidondkaaGreat
