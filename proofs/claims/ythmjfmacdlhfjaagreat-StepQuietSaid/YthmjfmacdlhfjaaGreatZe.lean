/-
  A part of the proof.
-/
import Derived.Test.YthmjfmacdlhfjaaGreatZd
import Derived.Shelf.SlSortCmp.NoneTotal
namespace Go.Proofs.YthmjfmacdlhfjaaGreat
open Go.Dv Go.Nv
set_option maxRecDepth 20000
open List (flatten take)
open Go.IntKind (u64)
open Go.IntKind renaming wrap → yr, i64 → yq
open List renaming length → I, map → U, drop → W
open Option renaming some → G
open Bool renaming true → J, false → O
open Decidable renaming decide → Y
open Int renaming toNat → Z
open Go.Dv.V renaming list → ai, str → ae, agg → ab, int → aa, ref → bz, fn → bw, nils → bv, bool → bu
open Go.Dv.D renaming v → bt, acc → br, ptr → bq, arr → bo, gro → bm, tup → bl, undef → bk, dagg → bj
open Go.Dv.St renaming mk → bi
open Go.Dv.KI renaming blk → bh
open _root_.ByteArray renaming mk → bg
open Go renaming Operand → x5, Program → x4, TypeId → yz, World → yy, Value → yx, Oper → yw, FuncId → yv, Func → yu, IntKind → yt
noncomputable abbrev AkL:=Tryz.f83
noncomputable abbrev nf:=Tryz.f84
noncomputable def l5:=yj nf
theorem T7{c:bd}{s:Int}{ys:List Int}(hc:nj c s ys):c.az=lf s::ys.map lf:=by rw[hc.eq];rfl
theorem Qo{c:bd}{s:Int}{ys:List Int}(hc:nj c s ys):W 1 (take (I (c.az.map eV)) (c.az.map eV))=(ys.map lf).map eV:=by
 rw[List.take_length,T7 hc];rfl
theorem Adr(r:cq)(c:bd)(s:Int)(ys:List Int)(hl:I r.am=I ys)(hl2:I ys<=1000)(n:Nat):∀k:Nat,I ys-k=n->
  Rn PP nf 0 (db (Gu (r.am.drop k) (ys.drop k))) bf ([kl l5 [1,1,0,1,0,0],.blk 0,kc l5 [1,1,1]]++[]) (b9 33 [(2,.v (.ref (AD r))),(17,cx (ys.map lf)),(18,di (I ys)),(19,di k)]) bf:=by
 induction n with
 |zero=>
  intro k hn
  refine lv 33 [2,3] (.f .r) (Y ((k:Int)<(I ys:Int))=O/\db J=db (Gu (W k r.am) (W k ys))) ⟨yo,?_⟩
  rw[Im (show I r.am<=k by omega)];simp only[Gu]
 |succ n ih=>
  intro k hn
  obtain⟨x,hx⟩:∃x,r.am[k]?=G x:=⟨_,HQ (show k<I r.am by omega)⟩
  obtain⟨y,hy⟩:=yi (show k<I ys by omega)
  refine lv 33 [2,3] (.t<|.h (.xs (Au (lf y)))<|.x (vi x)<|.b .r (.ls [ke 2,ke 17,ke 18,ch 19 (di (k+1:Nat))] bf)) (Y ((k:Int)<(I ys:Int))=J/\Q 2/\0<=(k:Int)/\(U eV (U lf ys))[Z (k:Int)]?=G (Au (lf y))/\0<=(k:Int)/\(U vi r.am)[Z (k:Int)]?=G (vi x)/\yn/\(Y (bd.n (lf y)<x)=J->db O=db (Gu (W k r.am) (W k ys)))/\(Y (bd.n (lf y)<x)=O->di (yr yq ((k:Int)+1))=di (↑(k+1):Int)/\I0 nf 0 (db (Gu (W k r.am) (W k ys))) bf [kl l5 [1,1,0,1,0,0],bh 0,kc l5 [1,1,1]] (b9 33 [(2,bt (bz (AD r))),(17,bt (cc (U lf ys))),(18,di (I ys:Int)),(19,di (↑(k+1):Int))]) bf)) ?_
  have e3:r.am.drop k=x::r.am.drop (k+1):=by rw[Ih (by omega)];congr 1;rw[HQ (by omega)] at hx;simpa using hx
  have e4:ys.drop k=y::ys.drop (k+1):=by rw[Ih (by omega)];congr 1;rw[HQ (by omega)] at hy;simpa using hy
  rw[e3,e4]
  refine⟨yp,rfl,by omega,A1 (by rw[I9,hy];rfl),by omega,A3 hx,yl,fun h1=>?_,fun h1=>⟨As,⟨?_⟩⟩⟩
  ·have h1:Y (y<x)=J:=h1
   simp only[Gu,h1,Bool.not_true,Iz]
  ·have h1:Y (y<x)=O:=h1
   simp only[Gu,h1,Bool.not_false,I2]
   have:=ih (k+1) (by omega)
   exact this
theorem Adq(r:cq)(c:bd)(s:Int)(ys:List Int)(hc:nj c s ys)(hl:I r.am=I ys)(hl2:I ys<=1000):F0 84 [AZ r,dV c] (db (ic r s ys)):=by
 have hk:=T7 hc
 have hd:=Qo hc
 have hlen:I c.az=I ys+1:=hc.len
 refine sv nf 33 [2,3] (.h (.xs (Au (lf s)))<|.b .r (.l [ke 2,ch 17 (cx (ys.map lf)),ch 18 (di (I ys)),ch 19 (di (0:Nat))])) (Q 2/\iz 0<=0/\(U eV c.az)[Z 0]?=G (Au (lf s))/\((bd.n (lf s) !=r.aj)=J->db O=db (ic r s ys))/\((bd.n (lf s) !=r.aj)=O->(∀(x:V),x∈U eV c.az->V.size x=2)/\0<=(1:Int)/\(1:Int)<=(I (U eV c.az):Int)/\bt (ai (W (Z ((1:Int))) (take (I (U eV c.az)) (U eV c.az))))=cx (U lf ys)/\di (I (W (Z ((1:Int))) (take (I (U eV c.az)) (U eV c.az))):Int)=di (I ys:Int)/\di 0=di (↑0:Int)/\I0 nf (I bf.H) (db (ic r s ys)) bf [kl l5 [1,1,0,1,0,0],bh 0,kc l5 [1,1,1]] (b9 33 [(2,bt (bz (AD r))),(17,cx (U lf ys)),(18,di (I ys:Int)),(19,di (↑0:Int))]) (bi [] []))) ⟨rfl,by decide,A1 (i:=0) hc.head,fun h=>?_,fun h=>⟨?_,by omega,?_,?_,?_,rfl,⟨?_⟩⟩⟩
 ·have h:(s !=r.aj)=J:=h
  have h:(s==r.aj)=O:=by simpa using h
  simp only[ic,h,Iz]
 ·intro x hx;obtain⟨v,_,rfl⟩:=IA.1 hx;rw[AR];rfl
 ·rw[HP];omega
 ·exact Iq (fun l=>bt (.list l)) hd
 ·have:=Iq (fun l:List V=>di (I l:Int)) hd
  simpa using this
 ·have h:(s !=r.aj)=O:=h
  have h:(s==r.aj)=J:=by simpa using h
  simp only[ic,h,I2]
  exact Adr r c s ys hl hl2 _ 0 rfl
noncomputable abbrev vf:=Tryz.f86
noncomputable abbrev jc:=Tryz.f48
noncomputable def Us:=yj jc
def UY:List bd->List Int->bd×Int
 |xs,v::vs=>if Y (v>1048576)=J then(.mk 0 [],1) else UY (xs++[lf v]) vs
 |xs,[]=>(.mk 0 xs,0)
theorem XN:∀(ws gs:List Int) (xs:List bd),I ws=I gs->UY xs (List.zipWith (fun w g=>w+g) ws gs)=ST xs ws gs
 |[],[],xs,_=>rfl
 |w::ws,g::gs,xs,h=>by
  simp only[List.zipWith_cons_cons,UY,ST]
  rw[XN ws gs _ (by simpa using h)]
theorem Ajk(r:cq)(ws:List Int)(hw:I ws<=1000)(n:Nat):∀(k:Nat) (xs:List bd),I ws-k=n->I xs<=k+1->
  Rn PP jc 0 (dP (UY xs (ws.drop k))) bf ([kl Us [1,1,1,1,1,1,1,0,1,0,0],.blk 2,kc Us [1,1,1,1,1,1,1,1]]++[]) (b9 90 [(6,.ptr 0 0),(14,.ptr 3 0),(72,.arr 2 0 (I ws)),(73,di (I ws)),(74,di k)]) (m5 r ws xs):=by
 induction n with
 |zero=>
  intro k xs hn hx
  refine lv 90 [3,5] (.f .r) (Y ((k:Int)<(I ws:Int))=O/\bl [bt (ab [vi 0,ai (U eV xs)]),di 0]=dP (UY xs (W k ws))) ⟨yo,?_⟩
  rw[Im (show I ws<=k by omega)];rfl
 |succ n ih=>
  intro k xs hn hx
  obtain⟨w,hw1⟩:=yi (show k<I ws by omega)
  refine lv 90 [3,5] (.t<|.m (di w)<|.b .r (.lo [ke 6,ke 14,ke 72,ke 73,ch 74 (di (k+1:Nat))] (m5 r ws (xs++[lf w])))) (Y ((k:Int)<(I ws:Int))=J/\0<=(k:Int)/\(k:Int)<(I ws:Int)/\(cb ws)[0+Z (k:Int)*1]?=G (di w)/\(Y (w>1048576)=J->bl [bt (ab [vi 0,ai []]),di 1]=dP (UY xs (W k ws)))/\(Y (w>1048576)=O->Q (U eV xs)/\A9 (I (U eV xs)+I (ab (aa yq w::ai nV::nV)::nV)) 32/\di (yr yq ((k:Int)+1))=di (↑(k+1):Int)/\cp 4 [1] [G [di 0,dn],G (cR r),G (cb ws),G [di 0,br 1 (U eV xs++[ab [vi w,ai []]])]]=J/\[G [di 0,dn],G (cR r),G (cb ws),G [di 0,br 1 (U eV xs++ab (vi w::ai nV::nV)::nV)]]=[G [di 0,dn],G (cR r),G (cb ws),G [di 0,br 1 (U eV (xs++[lf w]))]]/\[(1,2,U eV xs++ab (vi w::ai nV::nV)::nV)]=[(1,2,U eV (xs++[lf w]))]/\I0 jc 0 (dP (UY xs (W k ws))) bf [kl Us [1,1,1,1,1,1,1,0,1,0,0],bh 2,kc Us [1,1,1,1,1,1,1,1]] (b9 90 [(6,bq 0 0),(14,bq 3 0),(72,bo 2 0 (I ws)),(73,di (I ws:Int)),(74,di (↑(k+1):Int))]) (m5 r ws (xs++[lf w])))) ?_
  have e3:ws.drop k=w::ws.drop (k+1):=by rw[Ih (by omega)];congr 1;rw[HQ (by omega)] at hw1;simpa using hw1
  rw[e3]
  refine⟨yp,by omega,by omega,by simp[cb,hw1],fun h=>?_,fun h=>⟨rfl,⟨?_,?_⟩,As,?_,?_,?_,⟨?_⟩⟩⟩
  ·simp only[UY,h,Jj];rfl
  ·simp only[HP,HV,HZ];omega
  ·simp only[HP,HV,HZ];omega
  ·simp[cp,D.okNs,D.okN,F6]
  ·rw[←Dt];rfl
  ·rw[←Dt];rfl
  ·have:=ih (k+1) (xs++[lf w]) (by omega) (by simp;omega)
   simp only[UY,h,J6,if_false]
   exact this
theorem Kr(l:List Int):D.pls (cb l)=J:=by
 have:cb l=(l.map vi).map .v:=by simp[cb]
 rw[this];exact Cg _
noncomputable abbrev Aki:=Tryz.f28
noncomputable abbrev wl:=Tryz.f26
noncomputable abbrev ow:=Tryz.f34
noncomputable abbrev Akj:=Tryz.f47
theorem PA(p:bd×Int):F0 47 [dV p.1,di p.2] (dm (Cx p)):=by
 refine sv Akj 14 [2] (.b .r (.b .r .r)) (((p.snd==0)=J->bl [bt (ai [Au p.fst]),di 0]=dm (Cx p))/\((p.snd==0)=O->((p.snd==18)=J->bl [bt (ai []),di 0]=dm (Cx p))/\((p.snd==18)=O->bl [bt (ai []),di p.snd]=dm (Cx p)))) ⟨fun h=>?_,fun h=>⟨fun h1=>?_,fun h1=>?_⟩⟩
 ·have h:p.2=0:=by simpa using h
  rw[Cx,Ij (by rw[h];decide),Ij (by rw[h];decide)]
  show bl [.v (.list [Au p.1]),di 0]=_
  rw[←AR];rfl
 ·rw[Cx,Io h1];rfl
 ·have h:p.2≠0:=by simpa using h
  rw[Cx,Ij (by rw[h1];decide),Io (by simpa using h)];rfl
noncomputable abbrev mj:=Tryz.f27
noncomputable abbrev MC:=Tryz.f11
noncomputable def DU:=yj MC
theorem Afg(m:ba)(c:bd)(rl:Int)(hr1: -1<=rl)(hr2:rl<=1000)(l:List bd)(hl0:I l<=1000)(p:List da×Int)(fin:List da)(hf:I fin<=100000)
  (hout:Rn PP MC 0 (fi p) bf ([kl DU [1,1,1,0,1,0,0],.blk 0,kc DU [1,1,1,1]]++[]) (b9 53 [(2,.v (.ref (AE m))),(3,.v (.ref (Au c))),(7,l4 fin),(8,di (rl+1))]) (lk fin)) (n:Nat):∀(k:Nat) (xs:List da),I l-k=n->xs++(l.drop k).map (fun v=>(rl,v))=fin->
  Rn PP MC 0 (fi p) bf ([kl DU [1,1,1,0,1,0,0,1,0,0,1,1,1,0,0],.blk 2,.blk 1,kc DU [1,1,1,0,1,0,0,1,1],kl DU [1,1,1,0,1,0,0],.blk 0,kc DU [1,1,1,1]]++[]) (b9 53 [(2,.v (.ref (AE m))),(3,.v (.ref (Au c))),(7,l4 xs),(8,di rl),(36,cx l),(37,di (I l)),(38,di k)]) (lk xs):=by
 induction n with
 |zero=>
  intro k xs hn hx
  rw[Im (by omega),IP,IG] at hx
  subst hx
  exact lv 53 [2,3] (.f<|.l [ke 2,ke 3,ke 7,ch 8 (di (rl+1))]) (Y ((k:Int)<(I l:Int))=O/\di (yr yq (rl+1))=di (rl+1)/\_) ⟨yo,by rw[A2],iK hout⟩
 |succ n ih=>
  intro k xs hn hx
  have hk:k<I l:=by omega
  have hv:l[k]?=G l[k]:=HQ hk
  rw[Ih hk] at hx
  generalize l[k]=v at hv hx
  have hlen:=Iq I hx
  simp only[Ig,HP,HV,IY] at hlen
  refine lv 53 [2,3] (.t<|.h (.xs (Au v))<|.ls [ke 2,ke 3,ch 7 (l4 (xs++[(rl,v)])),ke 8,ke 36,ke 37,ch 38 (di (k+1:Nat))] (lk (xs++[(rl,v)]))) (Y ((k:Int)<(I l:Int))=J/\Q 2/\0<=(k:Int)/\(U eV l)[Z (k:Int)]?=G (Au v)/\Q (U dh xs)/\A9 (I (U dh xs)+I (ab (aa yq rl::vi v.n::cc v.az::nV)::nV)) 40/\br 1 (U dh xs++[ab [vi rl,vi v.n,cc v.az]])=l4 (xs++[(rl,v)])/\di (yr yq ((k:Int)+1))=di (↑(k+1):Int)/\[(1,3,U dh xs++ab (vi rl::vi v.n::cc v.az::nV)::nV)]=[(1,3,U dh (xs++[(rl,v)]))]/\_) ⟨yp,rfl,by omega,A1 hv,rfl,⟨?_,?_⟩,?_,As,?_,iK (ih (k+1) (xs++[(rl,v)]) (by omega) (by rw[←hx];simp))⟩
  ·simp only[HP,HV,HZ];omega
  ·simp only[HP,HV,HZ];omega
  ·rw[l4, ←Ss]
  ·rw[←Ss]
theorem Xo(m:ba)(hm:I m.av<=12)(c:bd)(ap:Int->List bd×Int)(hl:∀i,(ap i).1.length<=1000)(hap:∀i:Int, -1<=i->i<I m.av->F0 27 [Ax m,di i,dV c] (dm (ap i)))(n:Nat):∀(rl:Int) (xs:List da), -1<=rl->rl<=I m.av->(I m.av-rl).toNat=n->I xs<=(rl+1).toNat*1000->
  Rn PP MC 0 (fi (CJ ap n rl xs)) bf ([kl DU [1,1,1,0,1,0,0],.blk 0,kc DU [1,1,1,1]]++[]) (b9 53 [(2,.v (.ref (AE m))),(3,.v (.ref (Au c))),(7,l4 xs),(8,di rl)]) (lk xs):=by
 induction n with
 |zero=>
  intro rl xs h1 h2 hn hx
  refine lv 53 [2,3] (.f<|.b .r .r) (Y (rl<(I (U AD m.av):Int))=O/\(Y ((I (U dh xs):Int)>256)=J->bl [bt (ai []),di 1]=fi (CJ ap 0 rl xs))/\(Y ((I (U dh xs):Int)>256)=O->bl [bt (ai (U dh xs)),di 0]=fi (CJ ap 0 rl xs))) ⟨by rw[HP];exact yo,fun h=>?_,fun h=>?_⟩
  ·rw[HP] at h;rw[CJ,Io h];rfl
  ·rw[HP] at h;rw[CJ,Ij (by rw[h];decide)]
 |succ n ih=>
  intro rl xs h1 h2 hn hx
  have hp:=hap rl h1 (by omega)
  have hi:=ih (rl+1) (xs++(ap rl).1.map fun v=>(rl,v)) (by omega) (by omega) (by omega) (by have:=hl rl;simp only[Ig,HP];omega)
  have hll:=hl rl
  rw[CJ]
  generalize ap rl=q at*
  refine lv 53 [2,3] (.t<|.c (dm q)<|.b .r (.l [ke 2,ke 3,ke 7,ke 8,ke 36,ch 37 (di (I q.1)),ch 38 (di (0:Nat))])) (Y (rl<(I (U AD m.av):Int))=J/\_/\((q.snd !=0)=J->bl [bt (ai []),di q.snd]=fi (if (q.snd !=0)=J then([],q.snd) else CJ ap n (rl+1) (xs++U (fun v=>(rl,v)) q.fst)))/\((q.snd !=0)=O->di (I (U eV q.fst):Int)=di (I q.fst:Int)/\di 0=di (↑0:Int)/\I0 MC 0 (fi (if (q.snd !=0)=J then([],q.snd) else CJ ap n (rl+1) (xs++U (fun v=>(rl,v)) q.fst))) bf [kl DU [1,1,1,0,1,0,0,1,0,0,1,1,1,0,0],bh 2,bh 1,kc DU [1,1,1,0,1,0,0,1,1],kl DU [1,1,1,0,1,0,0],bh 0,kc DU [1,1,1,1]] (b9 53 [(2,bt (bz (AE m))),(3,bt (bz (Au c))),(7,br 1 (U dh xs)),(8,di rl),(36,cx q.fst),(37,di (I q.fst:Int)),(38,di (↑0:Int))]) (lk xs))) ⟨by rw[HP];exact yp,hp,fun h=>?_,fun h=>⟨by rw[HP],rfl,⟨?_⟩⟩⟩
  ·rw[Io h];rfl
  ·rw[Ij (by rw[h];decide)]
   exact Afg m c rl h1 (by omega) q.1 hll _ _ (by simp only[Ig,HP];omega) hi _ 0 xs rfl (by simp)
theorem Fx(l:List bd):∀y∈l.map eV,y.size=2:=fun y hy=>by obtain⟨v,_,rfl⟩:=IA.1 hy;exact RQ v
theorem AO(v:bd)(l:List bd):Ad ((v::l).map eV)=[.v (vi v.n),.v (cc v.az)]++Ad (l.map eV):=by
 simp only[Ad,Iu,List.flatMap_cons,Jq]
 rw[AR];rfl
theorem BC:∀l:List bd,I (Ad (l.map eV))=I l*2
 |[]=>rfl
 |v::l=>by rw[AO,Ig,BC l,HV];simp;omega
theorem DR(l k:List bd):Ad ((l++k).map eV)=Ad (l.map eV)++Ad (k.map eV):=by
 simp only[Ad,Jq,List.flatMap_append]
theorem Gx{l:List bd}{i:Nat}{x:bd}(h:l[i]?=G x):((Ad (l.map eV)).drop (i*2)).take 2=[.v (vi x.n),.v (cc x.az)]:=by
 obtain⟨hi,rfl⟩:=HT.1 h
 have e:l=l.take i++l[i]::l.drop (i+1):=by rw[←Ih hi,List.take_append_drop]
 conv=>lhs;rw[e]
 rw[DR,AO,List.drop_left' (by rw[BC,Iy];omega)]
 rfl
theorem A5(l:List V):D.pls (Ad l)=J:=Cg _
theorem Az(n:Nat)(ts:List Nat)(l:List V):D.okNs n ts (Ad l)=J:=by
 unfold Ad
 induction l.flatMap V.cellsV with
 |nil=>rfl
 |cons x l ih=>simp only[Iu,D.okNs,D.okN,ih,I2]
theorem O2{n:Nat}{ts:List Nat}:∀{a b:List D},D.okNs n ts a=J->D.okNs n ts b=J->D.okNs n ts (a++b)=J
 |[],b,_,h=>h
 |x::a,b,h1,h2=>by
  simp only[J7,D.okNs,HR] at h1⊢
  exact⟨h1.1,O2 h1.2 h2⟩
abbrev cw(p:Int×Int):V:=.agg [vi p.1,vi p.2]
abbrev BS(l:List (Int×Int)):V:=.list (l.map cw)
abbrev AC(l:List (Int×Int)):D:=.v (BS l)
theorem PE(l:List (Int×Int)):∀y∈l.map cw,y.size=2:=fun y hy=>by obtain⟨p,_,rfl⟩:=IA.1 hy;rfl
noncomputable abbrev vk:=Tryz.f239
theorem Ac8(n:Nat)(hn:n<=1000000):Aa PP 239 [.v .nils,di n] bf (.acc 1 []) ⟨[],[(1,1,[])]⟩:=by
 have h1:yq.wrap (0-0)=0:=by decide
 by_cases h:n=0
 ·subst h
  exact sv vk 27 [] (.f<|.f<|.h (.q 6 0)<|.h (.nw 0 1 1) .r) (Y ((↑0:Int)<0)=O/\Y (yr yq ((↑0:Int)-yr yq (0-0))>0)=O/\Q [(1,1,nV)]/\Q (br 1 [])) ⟨by decide,by decide,rfl,rfl⟩
 ·refine sv vk 27 [] (.f<|.t<|.a 1 .r) (Y ((n:Int)<0)=O/\Y (yr yq ((n:Int)-yr yq (0-0))>0)=J/\iz 0=0/\0<yr yq ((n:Int)-yr yq (0-0))/\A9 (Z (yr yq ((n:Int)-yr yq (0-0)))) 8/\iz 0=0/\Q [(1,1,nV)]/\Q (br 1 [])) ?_
  have h2:yq.wrap ((n:Int)-yq.wrap (0-0))=n:=by rw[h1,A2];omega
  rw[h2]
  refine⟨by simp,by simp;omega,by simp,by omega,⟨by simp;omega,by simp;omega⟩,by simp,rfl,rfl⟩
noncomputable abbrev kw:=Tryz.f213
noncomputable def Wl:=yj kw
abbrev Hv(ls:List (List (Int))):List V:=ls.map fun l=>.list (l.map vi)
theorem Zm(ls:List (List (Int)))(hl:I ls<=1000)(ht:I ls.flatten<=1000000)(n:Nat):∀k:Nat,I ls-k=n->
  Rn PP kw 0 (dl (ls.flatten.map vi)) bf ([kl Wl [1,1,1,1,0,1,0,0],.blk 2,kc Wl [1,1,1,1,1]]++[]) (b9 36 [(0,dl (Hv ls)),(6,.acc 1 ((ls.take k).flatten.map vi)),(25,dl (Hv ls)),(26,di (I ls)),(27,di k)]) ⟨[],[(1,1,(ls.take k).flatten.map vi)]⟩:=by
 induction n using Nat.strongRecOn with
 |_ n ih=>
 intro k hn
 refine lv 36 [] (.b (.e fun x:List (Int)=>.x (.list (x.map vi))<|.w<|.ls [ke 0,ch 6 (.acc 1 ((ls.take (k+1)).flatten.map vi)),ke 25,ke 26,ch 27 (di (k+1:Nat))] ⟨[],[(1,1,(ls.take (k+1)).flatten.map vi)]⟩) .r) ((Y ((k:Int)<(I ls:Int))=J->∃a,0<=(k:Int)/\(Hv ls)[Z (k:Int)]?=G (ai (U vi a))/\U vi (flatten (take k ls))=U vi (flatten (take k ls))/\A9 (I (U vi (flatten (take k ls)))+I (U vi a)) 8/\(∀(y:V),y∈U vi a->V.size y=1)/\br 1 (U vi (flatten (take k ls))++U vi a)=br 1 (U vi (flatten (take (k+1) ls)))/\di (yr yq ((k:Int)+1))=di (↑(k+1):Int)/\[(1,1,U vi (flatten (take k ls))++U vi a)]=[(1,1,U vi (flatten (take (k+1) ls)))]/\Nv.It (AI (CN 0) PP (fun env σ1=>AL PP kw env σ1 (dl (U vi (flatten ls))) bf) [kl Wl [1,1,1,1,0,1,0,0],bh 2,kc Wl [1,1,1,1,1]] (b9 36 [(0,bt (ai (Hv ls))),(6,br 1 (U vi (flatten (take (k+1) ls)))),(25,bt (ai (Hv ls))),(26,di (I ls:Int)),(27,di (↑(k+1):Int))]) (bi [] [(1,1,U vi (flatten (take (k+1) ls)))])))/\(Y ((k:Int)<(I ls:Int))=O->bt (ai (U vi (flatten (take k ls))))=dl (U vi (flatten ls)))) ⟨fun h=>?_,fun h=>?_⟩
 ·have hk:k<I ls:=by simpa using h
  have hx:ls[k]?=G ls[k]:=HQ hk
  have hf:=DQ hk
  have hle:=FT ls (k+1)
  have hih:=ih (I ls- (k+1)) (by omega) (k+1) rfl
  rw[hf] at hle hih⊢
  generalize ls[k]=x at hx hle hih⊢
  simp only[Ig] at hle
  refine⟨x,by omega,by simp[hx],rfl,Tz (by omega) (by decide),CT x,by simp,As,by simp,⟨hih⟩⟩
 ·have hk:I ls<=k:=by simpa using h
  rw[Iw hk]
theorem Zn(ls:List (List (Int)))(hl:I ls<=1000)(ht:I ls.flatten<=1000000)(n:Nat):∀k:Nat,I ls-k=n->
  Rn PP kw 0 (dl (ls.flatten.map vi)) bf ([kl Wl [1,1,0,1,0,0],.blk 0,kc Wl [1,1,1]]++[]) (b9 36 [(0,dl (Hv ls)),(3,di ((ls.take k).flatten.length:Nat)),(9,dl (Hv ls)),(10,di (I ls)),(11,di k)]) bf:=by
 induction n using Nat.strongRecOn with
 |_ n ih=>
 intro k hn
 refine lv 36 [] (.b (.e fun x:List (Int)=>.x (.list (x.map vi))<|.f<|.l [ke 0,ch 3 (di ((ls.take (k+1)).flatten.length:Nat)),ke 9,ke 10,ch 11 (di (k+1:Nat))]) (.h (.ckn 1 1 1 [])<|.ls [ke 0,ch 6 (.acc 1 ((ls.take 0).flatten.map vi)),ke 25,ch 26 (di (I ls)),ch 27 (di (0:Nat))] ⟨[],[(1,1,(ls.take 0).flatten.map vi)]⟩)) ((Y ((k:Int)<(I ls:Int))=J->∃a,0<=(k:Int)/\(Hv ls)[Z (k:Int)]?=G (ai (U vi a))/\Y (yr yq ((I (flatten (take k ls)):Int)+(I (U vi a):Int))<0)=O/\di (yr yq ((I (flatten (take k ls)):Int)+(I (U vi a):Int)))=di (I (flatten (take (k+1) ls)):Int)/\di (yr yq ((k:Int)+1))=di (↑(k+1):Int)/\Nv.It (AI (CN 0) PP (fun env σ1=>AL PP kw env σ1 (dl (U vi (flatten ls))) bf) [kl Wl [1,1,0,1,0,0],bh 0,kc Wl [1,1,1]] (b9 36 [(0,bt (ai (Hv ls))),(3,di (I (flatten (take (k+1) ls)):Int)),(9,bt (ai (Hv ls))),(10,di (I ls:Int)),(11,di (↑(k+1):Int))]) bf))/\(Y ((k:Int)<(I ls:Int))=O->Aa PP 239 [dn,di (I (flatten (take k ls)):Int)] (bi [] []) (br 1 []) (bi [] [(1,1,[])])/\Q (br 1 [])/\di (I (Hv ls):Int)=di (I ls:Int)/\di 0=di (↑0:Int)/\Q [(1,1,nV)]/\I0 kw 0 (dl (U vi (flatten ls))) bf [kl Wl [1,1,1,1,0,1,0,0],bh 2,kc Wl [1,1,1,1,1]] (b9 36 [(0,bt (ai (Hv ls))),(6,br 1 []),(25,bt (ai (Hv ls))),(26,di (I ls:Int)),(27,di (↑0:Int))]) (bi [] [(1,1,[])]))) ⟨fun h=>?_,fun h=>?_⟩
 ·have hk:k<I ls:=by simpa using h
  have hx:ls[k]?=G ls[k]:=HQ hk
  have hf:=Iq I (DQ hk)
  rw[Ig] at hf
  have hle:=FT ls (k+1)
  generalize ls[k]=x at hx hf⊢
  have h2:yq.wrap ((((ls.take k).flatten.length:Nat):Int)+(I (x.map vi):Int))=(((ls.take (k+1)).flatten.length:Nat):Int):=by rw[A2 (by simp only[HP];omega) (by simp only[HP];omega),hf];simp
  refine⟨x,by omega,by simp[hx],by rw[h2];simp,by rw[h2],As,⟨?_⟩⟩
  exact ih (I ls- (k+1)) (by omega) (k+1) rfl
 ·have hk:I ls<=k:=by simpa using h
  rw[Iw hk]
  refine⟨Ac8 (I ls.flatten) ht,rfl,by simp,rfl,rfl,⟨?_⟩⟩
  exact Zm ls hl ht _ 0 rfl
theorem AcY(ls:List (List (Int)))(hl:I ls<=1000)(ht:I ls.flatten<=1000000):F0 213 [dl (Hv ls)] (dl (ls.flatten.map vi)):=by
 refine sv kw 36 [] (.l [ke 0,ch 3 (di ((ls.take 0).flatten.length:Nat)),ke 9,ch 10 (di (I ls)),ch 11 (di (0:Nat))]) (Q (di 0)/\di (I (Hv ls):Int)=di (I ls:Int)/\Q (di 0)/\I0 kw (I bf.H) (dl (U vi (flatten ls))) bf [kl Wl [1,1,0,1,0,0],bh 0,kc Wl [1,1,1]] (b9 36 [(0,dl (Hv ls)),(3,di (I (flatten (take 0 ls)):Int)),(9,dl (Hv ls)),(10,di (I ls:Int)),(11,di (↑0:Int))]) bf) ⟨rfl,by simp,rfl,⟨?_⟩⟩
 exact Zn ls hl ht _ 0 rfl
noncomputable abbrev wm:=Tryz.f153
theorem YH(n:Nat)(hn:n<=1000000):Aa PP 153 [.v .nils,di n] bf (.acc 1 []) ⟨[],[(1,2,[])]⟩:=by
 have h1:yq.wrap (0-0)=0:=by decide
 by_cases h:n=0
 ·subst h
  exact sv wm 27 [] (.f<|.f<|.h (.q 6 0)<|.h (.nw 0 1 2) .r) (Y ((↑0:Int)<0)=O/\Y (yr yq ((↑0:Int)-yr yq (0-0))>0)=O/\Q [(1,2,nV)]/\Q (br 1 [])) ⟨by decide,by decide,rfl,rfl⟩
 ·refine sv wm 27 [] (.f<|.t<|.a 1 .r) (Y ((n:Int)<0)=O/\Y (yr yq ((n:Int)-yr yq (0-0))>0)=J/\iz 0=0/\0<yr yq ((n:Int)-yr yq (0-0))/\A9 (Z (yr yq ((n:Int)-yr yq (0-0)))) 16/\iz 0=0/\Q [(1,2,nV)]/\Q (br 1 [])) ?_
  have h2:yq.wrap ((n:Int)-yq.wrap (0-0))=n:=by rw[h1,A2];omega
  rw[h2]
  refine⟨by simp,by simp;omega,by simp,by omega,⟨by simp;omega,by simp;omega⟩,by simp,rfl,rfl⟩
noncomputable abbrev Q0:=Tryz.f99
noncomputable def Hh:=yj Q0
abbrev Eo(ls:List (List (Int×Int))):List V:=ls.map fun l=>.list (l.map cw)
theorem VB(ls:List (List (Int×Int)))(hl:I ls<=1000)(ht:I ls.flatten<=1000000)(n:Nat):∀k:Nat,I ls-k=n->
  Rn PP Q0 0 (dl (ls.flatten.map cw)) bf ([kl Hh [1,1,1,1,0,1,0,0],.blk 2,kc Hh [1,1,1,1,1]]++[]) (b9 36 [(0,dl (Eo ls)),(6,.acc 1 ((ls.take k).flatten.map cw)),(25,dl (Eo ls)),(26,di (I ls)),(27,di k)]) ⟨[],[(1,2,(ls.take k).flatten.map cw)]⟩:=by
 induction n using Nat.strongRecOn with
 |_ n ih=>
 intro k hn
 refine lv 36 [] (.b (.e fun x:List (Int×Int)=>.x (.list (x.map cw))<|.w<|.ls [ke 0,ch 6 (.acc 1 ((ls.take (k+1)).flatten.map cw)),ke 25,ke 26,ch 27 (di (k+1:Nat))] ⟨[],[(1,2,(ls.take (k+1)).flatten.map cw)]⟩) .r) ((Y ((k:Int)<(I ls:Int))=J->∃a,0<=(k:Int)/\(Eo ls)[Z (k:Int)]?=G (ai (U cw a))/\U cw (flatten (take k ls))=U cw (flatten (take k ls))/\A9 (I (U cw (flatten (take k ls)))+I (U cw a)) 16/\(∀(y:V),y∈U cw a->V.size y=2)/\br 1 (U cw (flatten (take k ls))++U cw a)=br 1 (U cw (flatten (take (k+1) ls)))/\di (yr yq ((k:Int)+1))=di (↑(k+1):Int)/\[(1,2,U cw (flatten (take k ls))++U cw a)]=[(1,2,U cw (flatten (take (k+1) ls)))]/\Nv.It (AI (CN 0) PP (fun env σ1=>AL PP Q0 env σ1 (dl (U cw (flatten ls))) bf) [kl Hh [1,1,1,1,0,1,0,0],bh 2,kc Hh [1,1,1,1,1]] (b9 36 [(0,bt (ai (Eo ls))),(6,br 1 (U cw (flatten (take (k+1) ls)))),(25,bt (ai (Eo ls))),(26,di (I ls:Int)),(27,di (↑(k+1):Int))]) (bi [] [(1,2,U cw (flatten (take (k+1) ls)))])))/\(Y ((k:Int)<(I ls:Int))=O->bt (ai (U cw (flatten (take k ls))))=dl (U cw (flatten ls)))) ⟨fun h=>?_,fun h=>?_⟩
 ·have hk:k<I ls:=by simpa using h
  have hx:ls[k]?=G ls[k]:=HQ hk
  have hf:=DQ hk
  have hle:=FT ls (k+1)
  have hih:=ih (I ls- (k+1)) (by omega) (k+1) rfl
  rw[hf] at hle hih⊢
  generalize ls[k]=x at hx hle hih⊢
  simp only[Ig] at hle
  refine⟨x,by omega,by simp[hx],rfl,Tz (by omega) (by decide),PE x,by simp,As,by simp,⟨hih⟩⟩
 ·have hk:I ls<=k:=by simpa using h
  rw[Iw hk]
theorem VC(ls:List (List (Int×Int)))(hl:I ls<=1000)(ht:I ls.flatten<=1000000)(n:Nat):∀k:Nat,I ls-k=n->
  Rn PP Q0 0 (dl (ls.flatten.map cw)) bf ([kl Hh [1,1,0,1,0,0],.blk 0,kc Hh [1,1,1]]++[]) (b9 36 [(0,dl (Eo ls)),(3,di ((ls.take k).flatten.length:Nat)),(9,dl (Eo ls)),(10,di (I ls)),(11,di k)]) bf:=by
 induction n using Nat.strongRecOn with
 |_ n ih=>
 intro k hn
 refine lv 36 [] (.b (.e fun x:List (Int×Int)=>.x (.list (x.map cw))<|.f<|.l [ke 0,ch 3 (di ((ls.take (k+1)).flatten.length:Nat)),ke 9,ke 10,ch 11 (di (k+1:Nat))]) (.h (.ckn 1 1 2 [])<|.ls [ke 0,ch 6 (.acc 1 ((ls.take 0).flatten.map cw)),ke 25,ch 26 (di (I ls)),ch 27 (di (0:Nat))] ⟨[],[(1,2,(ls.take 0).flatten.map cw)]⟩)) ((Y ((k:Int)<(I ls:Int))=J->∃a,0<=(k:Int)/\(Eo ls)[Z (k:Int)]?=G (ai (U cw a))/\Y (yr yq ((I (flatten (take k ls)):Int)+(I (U cw a):Int))<0)=O/\di (yr yq ((I (flatten (take k ls)):Int)+(I (U cw a):Int)))=di (I (flatten (take (k+1) ls)):Int)/\di (yr yq ((k:Int)+1))=di (↑(k+1):Int)/\Nv.It (AI (CN 0) PP (fun env σ1=>AL PP Q0 env σ1 (dl (U cw (flatten ls))) bf) [kl Hh [1,1,0,1,0,0],bh 0,kc Hh [1,1,1]] (b9 36 [(0,bt (ai (Eo ls))),(3,di (I (flatten (take (k+1) ls)):Int)),(9,bt (ai (Eo ls))),(10,di (I ls:Int)),(11,di (↑(k+1):Int))]) bf))/\(Y ((k:Int)<(I ls:Int))=O->Aa PP 153 [dn,di (I (flatten (take k ls)):Int)] (bi [] []) (br 1 []) (bi [] [(1,2,[])])/\Q (br 1 [])/\di (I (Eo ls):Int)=di (I ls:Int)/\di 0=di (↑0:Int)/\Q [(1,2,nV)]/\I0 Q0 0 (dl (U cw (flatten ls))) bf [kl Hh [1,1,1,1,0,1,0,0],bh 2,kc Hh [1,1,1,1,1]] (b9 36 [(0,bt (ai (Eo ls))),(6,br 1 []),(25,bt (ai (Eo ls))),(26,di (I ls:Int)),(27,di (↑0:Int))]) (bi [] [(1,2,[])]))) ⟨fun h=>?_,fun h=>?_⟩
 ·have hk:k<I ls:=by simpa using h
  have hx:ls[k]?=G ls[k]:=HQ hk
  have hf:=Iq I (DQ hk)
  rw[Ig] at hf
  have hle:=FT ls (k+1)
  generalize ls[k]=x at hx hf⊢
  have h2:yq.wrap ((((ls.take k).flatten.length:Nat):Int)+(I (x.map cw):Int))=(((ls.take (k+1)).flatten.length:Nat):Int):=by rw[A2 (by simp only[HP];omega) (by simp only[HP];omega),hf];simp
  refine⟨x,by omega,by simp[hx],by rw[h2];simp,by rw[h2],As,⟨?_⟩⟩
  exact ih (I ls- (k+1)) (by omega) (k+1) rfl
 ·have hk:I ls<=k:=by simpa using h
  rw[Iw hk]
  refine⟨YH (I ls.flatten) ht,rfl,by simp,rfl,rfl,⟨?_⟩⟩
  exact VB ls hl ht _ 0 rfl
theorem Mx(ls:List (List (Int×Int)))(hl:I ls<=1000)(ht:I ls.flatten<=1000000):F0 99 [dl (Eo ls)] (dl (ls.flatten.map cw)):=by
 refine sv Q0 36 [] (.l [ke 0,ch 3 (di ((ls.take 0).flatten.length:Nat)),ke 9,ch 10 (di (I ls)),ch 11 (di (0:Nat))]) (Q (di 0)/\di (I (Eo ls):Int)=di (I ls:Int)/\Q (di 0)/\I0 Q0 (I bf.H) (dl (U cw (flatten ls))) bf [kl Hh [1,1,0,1,0,0],bh 0,kc Hh [1,1,1]] (b9 36 [(0,dl (Eo ls)),(3,di (I (flatten (take 0 ls)):Int)),(9,dl (Eo ls)),(10,di (I ls:Int)),(11,di (↑0:Int))]) bf) ⟨rfl,by simp,rfl,⟨?_⟩⟩
 exact VC ls hl ht _ 0 rfl
noncomputable abbrev vg:=Tryz.f229
theorem Ac6(n:Nat)(hn:n<=1000000):Aa PP 229 [.v .nils,di n] bf (.acc 1 []) ⟨[],[(1,2,[])]⟩:=by
 have h1:yq.wrap (0-0)=0:=by decide
 by_cases h:n=0
 ·subst h
  exact sv vg 27 [] (.f<|.f<|.h (.q 6 0)<|.h (.nw 0 1 2) .r) (Y ((↑0:Int)<0)=O/\Y (yr yq ((↑0:Int)-yr yq (0-0))>0)=O/\Q [(1,2,nV)]/\Q (br 1 [])) ⟨by decide,by decide,rfl,rfl⟩
 ·refine sv vg 27 [] (.f<|.t<|.a 1 .r) (Y ((n:Int)<0)=O/\Y (yr yq ((n:Int)-yr yq (0-0))>0)=J/\iz 0=0/\0<yr yq ((n:Int)-yr yq (0-0))/\A9 (Z (yr yq ((n:Int)-yr yq (0-0)))) 32/\iz 0=0/\Q [(1,2,nV)]/\Q (br 1 [])) ?_
  have h2:yq.wrap ((n:Int)-yq.wrap (0-0))=n:=by rw[h1,A2];omega
  rw[h2]
  refine⟨by simp,by simp;omega,by simp,by omega,⟨by simp;omega,by simp;omega⟩,by simp,rfl,rfl⟩
noncomputable abbrev ku:=Tryz.f186
noncomputable def Wi:=yj ku
abbrev Hi(ls:List (List (bd))):List V:=ls.map fun l=>.list (l.map eV)
theorem Zj(ls:List (List (bd)))(hl:I ls<=1000)(ht:I ls.flatten<=1000000)(n:Nat):∀k:Nat,I ls-k=n->
  Rn PP ku 0 (dl (ls.flatten.map eV)) bf ([kl Wi [1,1,1,1,0,1,0,0],.blk 2,kc Wi [1,1,1,1,1]]++[]) (b9 36 [(0,dl (Hi ls)),(6,.acc 1 ((ls.take k).flatten.map eV)),(25,dl (Hi ls)),(26,di (I ls)),(27,di k)]) ⟨[],[(1,2,(ls.take k).flatten.map eV)]⟩:=by
 induction n using Nat.strongRecOn with
 |_ n ih=>
 intro k hn
 refine lv 36 [] (.b (.e fun x:List (bd)=>.x (.list (x.map eV))<|.w<|.ls [ke 0,ch 6 (.acc 1 ((ls.take (k+1)).flatten.map eV)),ke 25,ke 26,ch 27 (di (k+1:Nat))] ⟨[],[(1,2,(ls.take (k+1)).flatten.map eV)]⟩) .r) ((Y ((k:Int)<(I ls:Int))=J->∃a,0<=(k:Int)/\(Hi ls)[Z (k:Int)]?=G (ai (U eV a))/\U eV (flatten (take k ls))=U eV (flatten (take k ls))/\A9 (I (U eV (flatten (take k ls)))+I (U eV a)) 32/\(∀(y:V),y∈U eV a->V.size y=2)/\br 1 (U eV (flatten (take k ls))++U eV a)=br 1 (U eV (flatten (take (k+1) ls)))/\di (yr yq ((k:Int)+1))=di (↑(k+1):Int)/\[(1,2,U eV (flatten (take k ls))++U eV a)]=[(1,2,U eV (flatten (take (k+1) ls)))]/\Nv.It (AI (CN 0) PP (fun env σ1=>AL PP ku env σ1 (dl (U eV (flatten ls))) bf) [kl Wi [1,1,1,1,0,1,0,0],bh 2,kc Wi [1,1,1,1,1]] (b9 36 [(0,bt (ai (Hi ls))),(6,br 1 (U eV (flatten (take (k+1) ls)))),(25,bt (ai (Hi ls))),(26,di (I ls:Int)),(27,di (↑(k+1):Int))]) (bi [] [(1,2,U eV (flatten (take (k+1) ls)))])))/\(Y ((k:Int)<(I ls:Int))=O->bt (ai (U eV (flatten (take k ls))))=dl (U eV (flatten ls)))) ⟨fun h=>?_,fun h=>?_⟩
 ·have hk:k<I ls:=by simpa using h
  have hx:ls[k]?=G ls[k]:=HQ hk
  have hf:=DQ hk
  have hle:=FT ls (k+1)
  have hih:=ih (I ls- (k+1)) (by omega) (k+1) rfl
  rw[hf] at hle hih⊢
  generalize ls[k]=x at hx hle hih⊢
  simp only[Ig] at hle
  refine⟨x,by omega,by simp[hx],rfl,Tz (by omega) (by decide),Fx x,by simp,As,by simp,⟨hih⟩⟩
 ·have hk:I ls<=k:=by simpa using h
  rw[Iw hk]
theorem Zk(ls:List (List (bd)))(hl:I ls<=1000)(ht:I ls.flatten<=1000000)(n:Nat):∀k:Nat,I ls-k=n->
  Rn PP ku 0 (dl (ls.flatten.map eV)) bf ([kl Wi [1,1,0,1,0,0],.blk 0,kc Wi [1,1,1]]++[]) (b9 36 [(0,dl (Hi ls)),(3,di ((ls.take k).flatten.length:Nat)),(9,dl (Hi ls)),(10,di (I ls)),(11,di k)]) bf:=by
 induction n using Nat.strongRecOn with
 |_ n ih=>
 intro k hn
 refine lv 36 [] (.b (.e fun x:List (bd)=>.x (.list (x.map eV))<|.f<|.l [ke 0,ch 3 (di ((ls.take (k+1)).flatten.length:Nat)),ke 9,ke 10,ch 11 (di (k+1:Nat))]) (.h (.ckn 1 1 2 [])<|.ls [ke 0,ch 6 (.acc 1 ((ls.take 0).flatten.map eV)),ke 25,ch 26 (di (I ls)),ch 27 (di (0:Nat))] ⟨[],[(1,2,(ls.take 0).flatten.map eV)]⟩)) ((Y ((k:Int)<(I ls:Int))=J->∃a,0<=(k:Int)/\(Hi ls)[Z (k:Int)]?=G (ai (U eV a))/\Y (yr yq ((I (flatten (take k ls)):Int)+(I (U eV a):Int))<0)=O/\di (yr yq ((I (flatten (take k ls)):Int)+(I (U eV a):Int)))=di (I (flatten (take (k+1) ls)):Int)/\di (yr yq ((k:Int)+1))=di (↑(k+1):Int)/\Nv.It (AI (CN 0) PP (fun env σ1=>AL PP ku env σ1 (dl (U eV (flatten ls))) bf) [kl Wi [1,1,0,1,0,0],bh 0,kc Wi [1,1,1]] (b9 36 [(0,bt (ai (Hi ls))),(3,di (I (flatten (take (k+1) ls)):Int)),(9,bt (ai (Hi ls))),(10,di (I ls:Int)),(11,di (↑(k+1):Int))]) bf))/\(Y ((k:Int)<(I ls:Int))=O->Aa PP 229 [dn,di (I (flatten (take k ls)):Int)] (bi [] []) (br 1 []) (bi [] [(1,2,[])])/\Q (br 1 [])/\di (I (Hi ls):Int)=di (I ls:Int)/\di 0=di (↑0:Int)/\Q [(1,2,nV)]/\I0 ku 0 (dl (U eV (flatten ls))) bf [kl Wi [1,1,1,1,0,1,0,0],bh 2,kc Wi [1,1,1,1,1]] (b9 36 [(0,bt (ai (Hi ls))),(6,br 1 []),(25,bt (ai (Hi ls))),(26,di (I ls:Int)),(27,di (↑0:Int))]) (bi [] [(1,2,[])]))) ⟨fun h=>?_,fun h=>?_⟩
 ·have hk:k<I ls:=by simpa using h
  have hx:ls[k]?=G ls[k]:=HQ hk
  have hf:=Iq I (DQ hk)
  rw[Ig] at hf
  have hle:=FT ls (k+1)
  generalize ls[k]=x at hx hf⊢
  have h2:yq.wrap ((((ls.take k).flatten.length:Nat):Int)+(I (x.map eV):Int))=(((ls.take (k+1)).flatten.length:Nat):Int):=by rw[A2 (by simp only[HP];omega) (by simp only[HP];omega),hf];simp
  refine⟨x,by omega,by simp[hx],by rw[h2];simp,by rw[h2],As,⟨?_⟩⟩
  exact ih (I ls- (k+1)) (by omega) (k+1) rfl
 ·have hk:I ls<=k:=by simpa using h
  rw[Iw hk]
  refine⟨Ac6 (I ls.flatten) ht,rfl,by simp,rfl,rfl,⟨?_⟩⟩
  exact Zj ls hl ht _ 0 rfl
theorem AcX(ls:List (List (bd)))(hl:I ls<=1000)(ht:I ls.flatten<=1000000):F0 186 [dl (Hi ls)] (dl (ls.flatten.map eV)):=by
 refine sv ku 36 [] (.l [ke 0,ch 3 (di ((ls.take 0).flatten.length:Nat)),ke 9,ch 10 (di (I ls)),ch 11 (di (0:Nat))]) (Q (di 0)/\di (I (Hi ls):Int)=di (I ls:Int)/\Q (di 0)/\I0 ku (I bf.H) (dl (U eV (flatten ls))) bf [kl Wi [1,1,0,1,0,0],bh 0,kc Wi [1,1,1]] (b9 36 [(0,dl (Hi ls)),(3,di (I (flatten (take 0 ls)):Int)),(9,dl (Hi ls)),(10,di (I ls:Int)),(11,di (↑0:Int))]) bf) ⟨rfl,by simp,rfl,⟨?_⟩⟩
 exact Zk ls hl ht _ 0 rfl
noncomputable abbrev ne:=Tryz.f241
noncomputable def l0:=yj ne
theorem Adh(a b:List Int)(ha:I a<=1000000)(n:Nat):∀k:Nat,I a-k=n->k<=I b->k<=I a->
  Rn PP ne 0 (di (BG B0 (a.drop k) (b.drop k))) bf ([kl l0 [1,0,1,0,0],.blk 0,kc l0 [1,1]]++[]) (b9 36 [(0,cy a),(1,cy b),(9,cy a),(10,di (I a)),(11,di k)]) bf:=by
 induction n using Nat.strongRecOn with
 |_ n ih=>
 intro k hn hkb hka
 refine lv 36 [] (.b (.e fun x:Int=>.x (vi x)<|.b .r<|.e fun y:Int=>.x (vi y)<|.c (di (B0 x y))<|.b .r (.ls [ke 0,ke 1,ke 9,ke 10,ch 11 (di (k+1:Nat))] bf)) (.b .r .r)) ((Y ((k:Int)<(I a:Int))=J->∃a_2,0<=(k:Int)/\(U vi a)[Z (k:Int)]?=G (vi a_2)/\(Y ((k:Int)>=(I (U vi b):Int))=J->di 1=di (BG B0 (W k a) (W k b)))/\(Y ((k:Int)>=(I (U vi b):Int))=O->∃a_4,0<=(k:Int)/\(U vi b)[Z (k:Int)]?=G (vi a_4)/\Aa PP 77 [di a_2,di a_4] (bi [] []) (di (B0 a_2 a_4)) (bi [] [])/\((B0 a_2 a_4 !=0)=J->di (B0 a_2 a_4)=di (BG B0 (W k a) (W k b)))/\((B0 a_2 a_4 !=0)=O->di (yr yq ((k:Int)+1))=di (↑(k+1):Int)/\Nv.It (AI (CN 0) PP (fun env σ1=>AL PP ne env σ1 (di (BG B0 (W k a) (W k b))) bf) [kl l0 [1,0,1,0,0],bh 0,kc l0 [1,1]] (b9 36 [(0,cy a),(1,cy b),(9,cy a),(10,di (I a:Int)),(11,di (↑(k+1):Int))]) bf))))/\(Y ((k:Int)<(I a:Int))=O->(Y ((I (U vi a):Int)<(I (U vi b):Int))=J->di (-1)=di (BG B0 (W k a) (W k b)))/\(Y ((I (U vi a):Int)<(I (U vi b):Int))=O->di 0=di (BG B0 (W k a) (W k b))))) ⟨fun h=>?_,fun h=>?_⟩
 ·have hk:k<I a:=by simpa using h
  have hx:a[k]?=G a[k]:=HQ hk
  rw[Ih hk]
  generalize a[k]=x at hx⊢
  refine⟨x,by omega,A3 hx,fun h1=>?_,fun h1=>?_⟩
  ·have:b.drop k=[]:=Im (by simpa using h1)
   rw[this];rfl
  ·have hk2:k<I b:=by simpa using h1
   have hy:b[k]?=G b[k]:=HQ hk2
   rw[Ih hk2]
   generalize b[k]=y at hy⊢
   refine⟨y,by omega,A3 hy,JL x y,fun h2=>?_,fun h2=>⟨As,⟨?_⟩⟩⟩
   ·have:B0 x y≠0:=by simpa using h2
    simp[BG,this]
   ·have:B0 x y=0:=by simpa using h2
    simp only[BG,this,Jj]
    exact ih (I a- (k+1)) (by omega) (k+1) rfl hk2 hk
 ·have hk:k=I a:=by have:I a<=k:=(by simpa using h);omega
  subst hk
  rw[List.drop_length]
  refine⟨fun h1=>?_,fun h1=>?_⟩
  ·have h1:I a<I b:=by simpa using h1
   rw[Ih h1];rfl
  ·have h1:I b<=I a:=by simpa using h1
   rw[Im h1];rfl
theorem Adg(a b:List Int)(ha:I a<=1000000):F0 241 [cy a,cy b] (di (BG B0 a b)):=by
 refine sv ne 36 [] (.ls [ke 0,ke 1,ke 9,ch 10 (di (I a)),ch 11 (di (0:Nat))] bf) (di (I (U vi a):Int)=di (I a:Int)/\Q (di 0)/\I0 ne (I bf.H) (di (BG B0 a b)) bf [kl l0 [1,0,1,0,0],bh 0,kc l0 [1,1]] (b9 36 [(0,cy a),(1,cy b),(9,cy a),(10,di (I a:Int)),(11,di (↑0:Int))]) bf) ⟨by rw[HP],rfl,⟨?_⟩⟩
 exact Adh a b ha _ 0 rfl (by omega) (by omega)
theorem Agk(x y:Int):AB (lf x) (lf y)=B0 x y:=by
 rw[OZ]
 show gr [B0 x y,0,0]=_
 simp only[gr,Jj]
 split<;>simp_all
theorem Zs:∀a b:List Int,BG AB (a.map lf) (b.map lf)=BG B0 a b
 |[],[]=>rfl
 |[],_::_=>rfl
 |_::_,[]=>rfl
 |x::a,y::b=>by simp only[Iu,BG,Agk,Zs a b]
noncomputable abbrev Amb:=Tryz.f215
theorem Sl:th:=by
 intro a b ha hb
 have h1:G3 a b=gr [B0 (I a) (I b),BG B0 a b]:=by
  rw[G3,OZ]
  show gr [0,B0 (I (a.map lf)) (I (b.map lf)),BG AB (a.map lf) (b.map lf)]=_
  rw[Zs,HP,HP]
  rfl
 refine sv Amb 15 [] (.c (di (B0 (I a) (I b)))<|.c (di (BG B0 a b))<|.c (di (G3 a b)) .r) (F0 77 [di (I (U vi a):Int),di (I (U vi b):Int)] (di (B0 (I a:Int) (I b:Int)))/\_/\F0 76 [bt (ai [vi (B0 (I a:Int) (I b:Int)),vi (BG B0 a b)])] (di (G3 a b))/\Q (di (G3 a b))) ⟨by rw[HP,HP];exact JL _ _,Adg a b ha,?_,rfl⟩
 rw[h1];exact XO [_,_] (by simp)
structure Wn(m:ba)(t:bc):Prop where
 valid:∀v:bd,v.size<=1000000->F0 29 [Ax m,dV v] (db (Aw t v))
 ay:I m.ay<=1000000
theorem ba.ok.int{m:ba}(h:m.ok):Wn m (AJ m):=by
 obtain⟨h1,h2,h3,h4,h5,h6,h7,h8⟩:=h.sz
 exact⟨fun v hv=>Qj m h v hv,by omega⟩
end Go.Proofs.YthmjfmacdlhfjaaGreat

namespace Go.Nv
open Go.Dv
open List (length_range replicate)
open Go.IntKind (u64)
open Go.IntKind renaming wrap → yr, i64 → yq
open List renaming length → I, map → U, drop → W
open Option renaming some → G
open Bool renaming true → J, false → O
open Decidable renaming decide → Y
open Int renaming toNat → Z
open Go.Dv.V renaming list → ai, str → ae, agg → ab, int → aa, ref → bz, fn → bw, nils → bv, bool → bu
open Go.Dv.D renaming v → bt, acc → br, ptr → bq, arr → bo, gro → bm, tup → bl, undef → bk, dagg → bj
open Go.Dv.St renaming mk → bi
open Go.Dv.KI renaming blk → bh
open _root_.ByteArray renaming mk → bg
open Go renaming Operand → x5, Program → x4, TypeId → yz, World → yy, Value → yx, Oper → yw, FuncId → yv, Func → yu, IntKind → yt
theorem LJ{g:Gh}:∀{a b:List D} {us:List yx},Ar g (a++b) us->∃u v,us=u++v/\Ar g a u/\Ar g b v
 |[],b,us,h=>⟨[],us,rfl,rfl,h⟩
 |x::a,b,us,h=>by
  simp only[J7,Ar] at h
  obtain⟨u,us',rfl,h1,h2⟩:=h
  obtain⟨v,w,rfl,h3,h4⟩:=LJ h2
  exact⟨u::v,w,rfl,⟨u,v,rfl,h1,h3⟩,h4⟩
theorem FU{σ:St}{p q i sz:Nat}{cs:List D}{xs:List V}(hsz:0<sz)(hp:σ.H[p]?=G (G cs))(hq:σ.H[q]?=G (G (Ad xs)))(hpq:p≠q)(hi:cs[i]?=G (.arr q 0 (I xs)))(hx:∀x∈xs,x.size=sz)(e:List D):
  Cv e σ e ⟨(σ.H.set q none).set p (G (cs.set i (.v (.list xs)))),σ.own⟩:=fun E g a w hf=>by
 obtain⟨us,rest,et,hb,hr,h1,hM,_⟩:=hf.wi.rep.obj q _ hq
 have hA:repA g.M (xs.flatMap V.cellsV) us:=Hx (Fu _) hr h1
 let M':cg:=fun b o=>if b=g.β q then us[o]? else g.M b o
 have hle:g.M.le M':=fun b o v hm=>by
  simp only[M']
  rw[Ij]; ·exact hm
  intro e;subst e;rw[hM o] at hm;simp at hm
 have hlg:g.le { g with M:=M' }:=⟨hle,HX _,fun _ _=>rfl,fun _ _ _ h=>h,fun _ _=>rfl⟩
 have hin:eb M' (g.β q) 0 us:=fun j v hj=>by simp[M',hj]
 have hw':WI E { g with M:=M' } ⟨σ.H.set q none,σ.own⟩ w:=hf.wi.setObjG hle hq (fun c hc=>by simp at hc) (fun b _ hne=>⟨rfl,fun o=>by simp[M',hne]⟩) (fun b o v hm=>by
   simp only[M'] at hm
   split at hm
   ·rename_i e;subst e
    simp only[World.cell?,hb,IW];exact Df hm
   ·exact hf.wi.rep.mem b o v hm) (HX _) rfl rfl rfl
 have hp':(σ.H.set q none)[p]?=G (G cs):=by rw[List.getElem?_set_ne (fun e=>hpq e.symm)];exact hp
 obtain⟨us2,rest2,et2,hb2,hr2,h12,_,hκ2⟩:=hw'.rep.obj p cs hp'
 obtain⟨u,hu,hru⟩:=BL hr2 hi
 simp only[Av] at hru
 obtain⟨_,cap,hcap,rfl⟩:=hru
 have hlist:repV M' (.list xs) (.slice (G ⟨g.β q,0,none⟩) (I xs) cap):=CY hsz hin (EU hx (repA.mono hle _ _ hA)) hcap
 have hset:=CZ hr2 i (d:=.v (.list xs)) (u:=.slice (G ⟨g.β q,0,none⟩) (I xs) cap) (by simp only[Av];exact hlist)
 rw[Eb hu] at hset
 have h3:=hw'.setObj hp' hb2 hκ2 hset (fun c hc=>by
  rcases IX hc with h|h
  ·exact h12 c h
  ·rw[h];rfl) (fun _ _=>rfl) rfl rfl rfl rfl
 exact⟨_,h3,Ar.mono hlg _ _ hf.env,hf.defers⟩
theorem Ox{ρ τ:Nat->Nat}:∀{ds:List D},(∀c∈D.rens ρ τ ds,c.one=J)->∀c∈ds,c.one=J
 |[],_,c,hc=>by simp at hc
 |d::ds,h,c,hc=>by
  simp only[D.rens,I8] at h
  rcases I8.1 hc with rfl|hc
  ·have:=h _ (.inl rfl)
   rwa[X7] at this
  ·exact Ox (fun x hx=>h x (.inr hx)) c hc
mutual
theorem Ry{ρ τ:Nat->Nat}:∀(d:D),d.pl=J->d.ren ρ τ=d
 |.v _,_|.raw _,_|.rv ..,_|.err,_|.undef,_=>by simp[D.ren]
 |.tup ds,h=>by rw[D.ren,E9 ds (by simpa[D.pl] using h)]
 |.acc ..,h|.ptr ..,h|.arr ..,h|.gro ..,h|.dagg _,h|.dfn ..,h=>by simp[D.pl] at h
theorem E9{ρ τ:Nat->Nat}:∀(ds:List D),D.pls ds=J->D.rens ρ τ ds=ds
 |[],_=>by simp[D.rens]
 |d::ds,h=>by
  simp only[D.pls,HR] at h
  rw[D.rens,Ry d h.1,E9 ds h.2]
end
mutual
theorem RA{n:Nat}{ts:List Nat}:∀(d:D),d.pl=J->d.okN n ts=J
 |.v _,_|.raw _,_|.rv ..,_|.err,_|.undef,_=>by simp[D.okN]
 |.tup ds,h=>by rw[D.okN,O0 ds (by simpa[D.pl] using h)]
 |.acc ..,h|.ptr ..,h|.arr ..,h|.gro ..,h|.dagg _,h|.dfn ..,h=>by simp[D.pl] at h
theorem O0{n:Nat}{ts:List Nat}:∀(ds:List D),D.pls ds=J->D.okNs n ts ds=J
 |[],_=>by simp[D.okNs]
 |d::ds,h=>by
  simp only[D.pls,HR] at h
  rw[D.okNs,RA d h.1,O0 ds h.2];rfl
end
theorem AS{ρ τ:Nat->Nat}{ds:List D}(h:D.pls ds=J):D.rens ρ τ ds=ds:=E9 ds h
theorem B2{n:Nat}{ts:List Nat}{ds:List D}(h:D.pls ds=J):D.okNs n ts ds=J:=O0 ds h
theorem Gn{P:x4}{f:yv}{ds:List D}{σ:St}{d:D}{T H':List (Option (List D))}(sel:Nat->Nat)(hk:I σ.H<=I H')(hfix:∀i,i<I σ.H->sel i=i)
  (hinj:∀i j,i<I H'->j<I H'->sel i=sel j->i=j) (hlt:∀i,i<I H'->sel i<I T)
  (hsel:∀i cs,H'[i]?=G (G cs)->T[sel i]?=G (G (D.rens sel id cs))/\D.okNs (I H') [] cs=J) (hd:d.okN (I H') []=J)
  (h:Aa P f ds σ (d.ren sel id) ⟨T,[]⟩):Aa P f ds σ d ⟨H',[]⟩:=by
 refine⟨h.1,fun g w args hw ha=>Calls.mono (h.2 g w args hw ha) ?_⟩
 rintro e w' ⟨u,g',rfl,hw',hr⟩
 have hgn:g.n=I σ.H:=hw.n
 have hn':g'.n=I T:=hw'.rep.n
 let g2:Gh:={ M:=g'.M,β:=fun i=>g'.β (sel i),n:=I H',ι:=g'.ι,κ:=fun i=>g'.κ (sel i)}
 have ho:∀o,o<I H'->sel o<g'.n->id o<g2.n/\g2.β (id o)=g'.β (sel o)/\g2.κ (id o)=g'.κ (sel o):=fun o h _=>⟨h,rfl,rfl⟩
 have hι:∀t,([]:List Nat).contains t=J->∀m u,g'.ι (id t) m=G u->g2.ι (id t) m=G u:=fun t ht=>by simp at ht
 have hdd:=fun(d:D) (u:yx) (hk:d.okN (I H') []=J) (h:Av g' (d.ren sel id) u)=>by
  have:=Lh (g:=g') (g':=g2) (ρ:=sel) (τ:=id) (ρ':=id) (τ':=id) (fun _ _ h=>h) ho hι d u hk h
  rwa[MI] at this
 have hds:=fun(ds:List D) (us:List yx) (hk:D.okNs (I H') [] ds=J) (h:Ar g' (D.rens sel id ds) us)=>by
  have:=DG (g:=g') (g':=g2) (ρ:=sel) (τ:=id) (ρ':=id) (τ':=id) (fun _ _ h=>h) ho hι ds us hk h
  rwa[EW] at this
 refine⟨u,g2,rfl,?_,hdd d u hd hr⟩
 refine{ rep:=?_,M:=hw'.M,size:=hw'.size,keep:=hw'.keep,os:=hw'.os,tape:=hw'.tape,output:=hw'.output,nE:=?_,βE:=?_,κE:=?_,objs:=?_,owns:=fun x hx=>by simp at hx,drawn:=hw'.drawn }
 ·refine{ n:=rfl,mem:=hw'.rep.mem,obj:=?_,inj:=?_,own:=fun k s xs hx=>by simp at hx,tags:=by simp,sep:=fun x hx=>by simp at hx,ownObj:=fun x hx=>by simp at hx,fresh:=hw'.rep.fresh,gl:=hw'.rep.gl,gw:=hw'.rep.gw }
  ·intro i cs hi
   obtain⟨h1,h2⟩:=hsel i cs hi
   obtain⟨us,rest,et,a1,a2,a3,a4,a5⟩:=hw'.rep.obj (sel i) _ h1
   exact⟨us,rest,et,a1,hds cs us h2 a2,Ox a3,a4,a5⟩
  ·intro i j cs ds hi hj hij
   have hil:=(HT.1 hi).1
   have hjl:=(HT.1 hj).1
   exact hinj i j hil hjl (hw'.rep.inj _ _ _ _ (hsel i cs hi).1 (hsel j ds hj).1 hij)
 ·show g.n<=I H';omega
 ·intro o ho2
  have h2:o<I σ.H:=by have:o<g.n:=ho2;omega
  show g'.β (sel o)=g.β o
  rw[hfix o h2];exact hw'.βE o ho2
 ·intro o ho2
  have h2:o<I σ.H:=by have:o<g.n:=ho2;omega
  show g'.κ (sel o)=g.κ o
  rw[hfix o h2];exact hw'.κE o ho2
 ·intro i cs hi
  exact hw'.objs _ _ (hsel i cs hi).1
theorem AfS{E:co}{g:Gh}{σ:St}{e e':List D}{a:Act}{w:yy}{H':List (Option (List D))}(sel:Nat->Nat){m:Nat}(hEm:E.g.n<=m)(hm:m<=I H')(hfix:∀i,i<m->sel i=i)
  (hinj:∀i j,i<I H'->j<I H'->sel i=sel j->i=j)
  (hsel:∀i cs,H'[i]?=G (G cs)->σ.H[sel i]?=G (G (D.rens sel id cs))/\D.okNs (I H') (σ.own.map (·.1)) cs=J)
  (he:D.okNs (I H') (σ.own.map (·.1)) e'=J) (hee:e=D.rens sel id e') (hf:FI E g σ e a w):∃g',FI E g' ⟨H',σ.own⟩ e' a w:=by
 have hw:=hf.wi
 let g2:Gh:={ M:=g.M,β:=fun i=>g.β (sel i),n:=I H',ι:=g.ι,κ:=fun i=>g.κ (sel i)}
 have ho:∀o,o<I H'->sel o<g.n->id o<g2.n/\g2.β (id o)=g.β (sel o)/\g2.κ (id o)=g.κ (sel o):=fun o h _=>⟨h,rfl,rfl⟩
 have hι:∀t,(σ.own.map (·.1)).contains t=J->∀m u,g.ι (id t) m=G u->g2.ι (id t) m=G u:=fun t _ m u h=>h
 have hds:=fun(ds:List D) (us:List yx) (hk:D.okNs (I H') (σ.own.map (·.1)) ds=J) (h:Ar g (D.rens sel id ds) us)=>by
  have:=DG (g:=g) (g':=g2) (ρ:=sel) (τ:=id) (ρ':=id) (τ':=id) (fun _ _ h=>h) ho hι ds us hk h
  rwa[EW] at this
 refine⟨g2,?_,hds e' _ he (hee▸hf.env),hf.defers⟩
 refine{ rep:=?_,M:=hw.M,size:=hw.size,keep:=hw.keep,os:=hw.os,tape:=hw.tape,output:=hw.output,nE:=IN hEm hm,βE:=?_,κE:=?_,objs:=?_,owns:=hw.owns,drawn:=hw.drawn }
 ·refine{ n:=rfl,mem:=hw.rep.mem,obj:=?_,inj:=?_,own:=hw.rep.own,tags:=hw.rep.tags,sep:=hw.rep.sep,ownObj:=?_,fresh:=hw.rep.fresh,gl:=hw.rep.gl,gw:=hw.rep.gw }
  ·intro i cs hi
   obtain⟨h1,h2⟩:=hsel i cs hi
   obtain⟨us,rest,et,a1,a2,a3,a4,a5⟩:=hw.rep.obj (sel i) _ h1
   exact⟨us,rest,et,a1,hds cs us h2 a2,Ox a3,a4,a5⟩
  ·intro i j cs ds hi hj hij
   have hil:=(HT.1 hi).1
   have hjl:=(HT.1 hj).1
   exact hinj i j hil hjl (hw.rep.inj _ _ _ _ (hsel i cs hi).1 (hsel j ds hj).1 hij)
  ·intro x hx u hu b hb i cs hi
   exact hw.rep.ownObj x hx u hu b hb _ _ (hsel i cs hi).1
 ·intro o ho2
  show g.β (sel o)=E.g.β o
  rw[hfix o (by omega)];exact hw.βE o ho2
 ·intro o ho2
  show g.κ (sel o)=E.g.κ o
  rw[hfix o (by omega)];exact hw.κE o ho2
 ·intro i cs hi
  exact hw.objs _ _ (hsel i cs hi).1
theorem Dk{C:co->co->Prop}{P:x4}{R:List D->St->Prop}{k:List KI}{σ:St}{e e':List D}{H':List (Option (List D))}{m:Nat}(hCm:∀E0 E,C E0 E->E.g.n<=m)(sel:Nat->Nat)(hm:m<=I H')(hfix:∀i,i<m->sel i=i)
  (hinj:∀i j,i<I H'->j<I H'->sel i=sel j->i=j)
  (hsel:∀i cs,H'[i]?=G (G cs)->σ.H[sel i]?=G (G (D.rens sel id cs))/\D.okNs (I H') (σ.own.map (·.1)) cs=J)
  (he:D.okNs (I H') (σ.own.map (·.1)) e'=J) (hee:e=D.rens sel id e') (h:AI C P R k e' ⟨H',σ.own⟩):AI C P R k e σ:=fun E0 E g a w B hC hf hB=>by
 obtain⟨g',hf'⟩:=AfS sel (hCm E0 E hC) hm hfix hinj hsel he hee hf
 exact h E0 E g' a w B hC hf' hB
theorem CW{C:co->co->Prop}{P:x4}{R:List D->St->Prop}{k:List KI}{H0 H':List (Option (List D))}{e e':List D}(hCm:∀E0 E,C E0 E->E.g.n<=0)(j:Nat)(hj:I H0=j)(hp:∀cs,G cs∈H'->D.pls cs=J)
  (he:D.okNs (I H') [] e'=J) (hee:e=D.rens (fun i=>i+j) id e') (h:AI C P R k e' ⟨H',[]⟩):AI C P R k e ⟨H0++H',[]⟩:=by
 refine Dk (σ:=⟨H0++H',[]⟩) (e':=e') (H':=H') (m:=0) hCm (fun i=>i+j) (I3 _) (fun i hi=>by omega) (fun i k _ _ h=>by simpa using h) (fun i cs hi=>?_) he hee h
 have hpl:=hp cs (HW hi)
 refine⟨?_,B2 hpl⟩
 rw[AS hpl,Il (by omega),hj,Nat.add_sub_cancel]
 exact hi
theorem Di{P:x4}{f:yv}{ds:List D}{k:Nat}{xs:List V}{own:List (Nat×Nat×List V)}(h:Aa P f ds ⟨[],[]⟩ (.acc k xs) ⟨[],own⟩):Aa P f ds ⟨[],[]⟩ (.v (.list xs)) ⟨[],[]⟩:=by
 refine⟨h.1,fun g w args hw ha=>Calls.mono (h.2 g w args hw ha) ?_⟩
 rintro e w' ⟨u,g',rfl,hw',hr⟩
 have hw2:=Wv (σ':=⟨[],[]⟩) hw' (m:=0) rfl (I3 _) (by rw[hw.n];exact HX _) rfl (by simp)
 refine⟨u,_,rfl,hw2,?_⟩
 refine LL _ _ rfl ?_
 simp only[Av] at hr⊢
 exact hr.1
def iw:St:=⟨[],[(1,1,[]),(1,1,[])]⟩
theorem ur{P:x4}{o:yw}{ds:List D}{d:D}{s':St}:Ay P o ds iw d s':=fun E g a w K Q hw=>by
 have:=hw.rep.tags
 simp[iw] at this
theorem AbH{P:x4}{o:yw}{ds:List D}{q off:Nat}{s:St}{d:D}{s':St}(h:I s.H<=q):Ay P o (.ptr q off::ds) s d s':=fun E g a w K Q hw hds=>by
 simp only[Ar,Av] at hds
 obtain⟨u,us,_,h1,_⟩:=hds
 have:=h1.1
 have:=hw.rep.n
 omega
theorem PF:∀(L:List (Nat×D)) (e0 e:List D),I e0=I e->(∀(i:Nat) (d':D),e0[i]?=G d'->d'=.undef∨e[i]?=G d')->(∀p∈L,e0[p.1]?=G .undef)->
  (I e0)=I (L.foldl (fun e p=>e.set p.1 p.2) e)/\∀(i:Nat) (d':D),e0[i]?=G d'->d'=.undef∨(L.foldl (fun e p=>e.set p.1 p.2) e)[i]?=G d'
 |[],e0,e,hl,h,_=>⟨hl,h⟩
 |p::L,e0,e,hl,h,hp=>by
  refine PF L e0 (e.set p.1 p.2) (by simpa using hl) (fun i d' hd=>?_) (fun q hq=>hp q (by simp[hq]))
  by_cases hi:i=p.1
  ·subst hi
   rw[hp p (by simp)] at hd
   simp at hd;exact .inl hd.symm
  ·rw[List.getElem?_set_ne (fun e=>hi e.symm)];exact h i d' hd
theorem LG{C:co->co->Prop}{P:x4}{R:List D->St->Prop}{k:List KI}{n:Nat}{L L2:List (Nat×D)}{σ:St}(hp:∀p∈L2,(b9 n L)[p.1]?=G .undef)(h:AI C P R k (b9 n L) σ):AI C P R k (b9 n (L++L2)) σ:=by
 obtain⟨h1,h2⟩:=PF L2 (b9 n L) (b9 n L) rfl (fun i d' hd=>.inr hd) hp
 rw[show b9 n (L++L2)=L2.foldl (fun e p=>e.set p.1 p.2) (b9 n L) by simp[b9]]
 exact JY h1 h2 h
theorem OU{P:x4}(hm:P.follows .mixedOrders=J){C:Nat}{fn:yu}{d:D}{σ':St}(nt:Nat)(im:List Nat){ks T:List KI}{L:List (Nat×D)}{σ:St}(s:Sc)
  (h:B9 (b9 nt L) fun env=>vc (CN C) C P (fun env σ1=>AL P fn env σ1 d σ') (jx P fn.results.toList d σ') nt im T 10000 s ks env σ):Rn P fn C d σ' (ks++T) (b9 nt L) σ:=x6 hm (CV _) _ (fun _ _ h=>h.2) nt im s h
noncomputable def uv(P:x4)(rs:List ResultVar)(d:D)(σ':St)(env:List D)(σ:St)(kn0:Bool:=false):Prop:=
 j7 P env σ true rs fun ds=>B9 (ds.map (jw (σ'.own.map (·.1)) kn0)) fun ds=>qi ds fun d'=>
  cond (D.okN (I σ'.H) (σ'.own.map (·.1)) d&&Nat.ble (I σ'.H) (I σ.H)) (p9 true (cp (I σ'.H) (σ'.own.map (·.1)) (σ.H.take (I σ'.H)))
   (RO σ'.H (σ.H.take (I σ'.H)) (RO σ'.own (je (σ'.own.map (·.1)) σ.own) (d'=d)))) False
theorem Su{P:x4}{fn:yu}{d:D}{σ':St}{env:List D}{σ:St}(h:uv P fn.results.toList d σ' env σ):AL P fn env σ d σ':=by
 obtain⟨ds,h1,hr⟩:=JS h
 rw[Bz,SO] at h1
 obtain⟨h2,h3⟩:=A4 h1
 obtain⟨h8,h3⟩:=RB h3
 simp only[HR] at h2
 generalize false=kn at h3
 have h4:UW (ds.map (jw (σ'.own.map (·.1)) kn))=d/\σ.H.take (I σ'.H)=σ'.H/\je (σ'.own.map (·.1)) σ.own=σ'.own:=by
  obtain⟨e1,h3⟩:=Gz h3 (fun e=>by rw[e];rfl)
  obtain⟨e2,h3⟩:=Gz h3 (fun e=>by rw[e];unfold je;rw[List.filter_eq_nil_iff];simp)
  exact⟨h3,e1,e2⟩
 obtain⟨rfl,hH,hown⟩:=h4
 intro E g a w hf hE
 obtain⟨us,h5,h6⟩:=hr.run hf
 have hrun:(results fn a.tmps).run P w=.ok (if h:I us=1 then us[0] else .tuple us.toArray) w:=by
  rw[MF,Array.mapM_eq_mapM_toList]
  simp only[Sem.run_bind,Sem.run_map,h5,Result.andThen_ok]
  by_cases h:I us=1<;>simp[h]
 have hsub:σ'.own.Sublist σ.own:=by rw[←hown];exact List.filter_sublist
 refine⟨_,_,hrun,Wv hf.wi hH.symm (Ix h2.2) hE (by have:=h8;rwa[hH] at this) hsub,?_⟩
 refine LL _ _ h2.1 ?_
 have h7:=KV (ts:=σ'.own.map (·.1)) (kn:=kn) h6
 generalize ds.map (jw (σ'.own.map (·.1)) kn)=ds' at h7
 have hl:=AF h7
 unfold UW
 split
 ·rename_i d0
  obtain⟨u,rfl,h3⟩:=AH.1 h7
  simpa using h3
 ·rename_i hne
  have:I us≠1:=by
   rw[hl]
   intro h
   match ds',h with
   |[d0],_=>exact hne d0 rfl
  rw[dif_neg this]
  simp only[Av]
  exact⟨us,rfl,h7⟩
theorem S2{P:x4}(hm:P.follows .mixedOrders=J){f:yv}{ds:List D}{σ σ':St}{d:D}(fn:yu)(c:Code)(hf:P.funcs[f]?=G fn)(hb:fn.body=G c)(hn:(fn.name=="runtime.NumGoroutine")=O)(hH:Nat.ble (I σ.H) (I σ'.H)=J)(nt:Nat)(hnt:I (ds++replicate (fn.ntmps-I ds) bk)=nt)
  (im:List Nat) (s:Sc)
  (h:B9 (ds++replicate (fn.ntmps-I ds) bk) fun env=>vc (CN (I σ.H)) (I σ.H) P (fun env σ1=>AL P fn env σ1 d σ') (fun _ env σ=>uv P fn.results.toList d σ' env σ) nt im [] 10000 s [.code c] env σ):Aa P f ds σ d σ':=by
 rw[Bz] at h
 refine KF hf hb hn (Ix hH) ?_
 exact Rd (ks:=[.code c]) (T:=[]) (CV _) (fun _ _ h=>h.2) hm (fun b env σ _ h=>Su h) hnt h
section
variable {P : x4} {o : yw} {σ : St} {d : D}
theorem DM{x:x5}{t:yz}(ho:o.op=.call { callee:=.builtin .clear,args:= #[x],argTypes:= #[t]}){e:yz}{sz by':Nat}{z:yx}(hs:Ce P t=G (e,sz,by',G z)){zs:List V}(hz:Fh z.cells.toList=G zs)(hzc:z.cells.size=sz)
  {q off len:Nat} {cs:List D} (hq:σ.H[q]?=G (G cs)) (hn:0<len) (hfit:off+len*sz<=I cs):
  Ay P o [.arr q off len] σ (.tup []) ⟨σ.H.set q (G (cs.take off++(replicate len zs).flatten.map .v++cs.drop (off+len*sz))),σ.own⟩:=by
 intro E g a w K Q hw hds hK
 simp only[ho,Op.operands,Call.operands] at hds
 obtain⟨u,eq,h1⟩:=AH.1 (by simpa using hds)
 simp only[Ie,I6] at eq
 simp only[Av] at h1
 obtain⟨_,cap,_,rfl⟩:=h1
 obtain⟨i,hu,hi,hsz,hby,hzz⟩:=AK hs
 obtain⟨us,rest,et,hb,hr,hone,hM,hκ⟩:=hw.rep.obj q cs hq
 have hul:=AF hr
 have hcells:(Builtin.zeroCells z.cells len).toList=(replicate len z.cells.toList).flatten:=by
  have h:=KN z.cells len
  have h2:Builtin.zeroCells z.cells len=madeCells z.cells (len*z.cells.size):=rfl
  rw[h2,h]
 obtain⟨hr1,ho1⟩:=D9 (g:=g) (EF (M:=g.M) hz)
 have hrz:∀m,Ar g ((replicate m zs).flatten.map .v) (replicate m z.cells.toList).flatten/\∀c∈ (replicate m zs).flatten.map bt,c.one=J:=by
  intro m
  induction m with
  |zero=>simp[Ar]
  |succ m ih=>
   simp only[IL,Jx,Jq]
   refine⟨A7 hr1 ih.1,fun c hc=>?_⟩
   rcases IE.1 hc with h|h
   ·exact ho1 c h
   ·exact ih.2 c h
 have hvl:(replicate len z.cells.toList).flatten.length=len*sz:=by rw[FS,I5,hzc]
 have hst:=run_storeCells_at P (g.β q) off et (replicate len z.cells.toList).flatten 0 (us++rest).toArray w hb (by simp only[Jp,Ig];omega) (fun v hv=>Ct (hrz len).2 (hrz len).1 v hv)
 simp only[IQ,hvl] at hst
 rw[show(us++rest).take off++(replicate len z.cells.toList).flatten++(us++rest).drop (off+len*sz)=(us.take off++(replicate len z.cells.toList).flatten++us.drop (off+len*sz))++rest from by
  rw[J0 (by omega),List.drop_append_of_le_length (by omega)];simp] at hst
 have hw':=hw.setObj (cs':=cs.take off++(replicate len zs).flatten.map .v++cs.drop (off+len*sz)) hq (us:=us.take off++(replicate len z.cells.toList).flatten++us.drop (off+len*sz)) (rest:=rest) (e:=et)
  (w':=w.setRow (g.β q) ((us.take off++(replicate len z.cells.toList).flatten++us.drop (off+len*sz))++rest).toArray) (setRow_heap w _ _ _ et _ hb) (by rw[←hκ];simp only[Ig,Iy,IY];omega)
  (A7 (A7 (Cr hr off) (hrz len).1) (Cu hr (off+len*sz)))
  (fun c hc=>by
   simp only[IE] at hc
   rcases hc with(hc|hc)|hc
   ·exact hone c (Jr hc)
   ·exact(hrz len).2 c hc
   ·exact hone c (II hc))
  (fun b hb=>setRow_other w _ _ _ hb) (by simp) rfl rfl rfl
 have:=hK g _ (.tuple #[]) hw' g.le_refl (by simp only[Av];exact⟨[],rfl,by simp[Ar]⟩)
 obtain⟨m,hm⟩:∃m,len=m+1:=⟨len-1,by omega⟩
 have hrun:(Builtin.clear_ #[t] o.type #[.slice (G ⟨g.β q,off,none⟩) len cap]).run P w=.ok (.tuple #[]) (w.setRow (g.β q) ((us.take off++(replicate len z.cells.toList).flatten++us.drop (off+len*sz))++rest).toArray):=by
  subst hm
  simp[Builtin.clear_,run_underlying hu,zeroValue,typeInfo,hi,hzz,hcells,hst]
 unfold Oper.wp execOp
 simp only[ho,resolve,invoke,builtin,Sem.run_bind,Sem.run_pure,Result.andThen_ok]
 rw[show(#[x]:Array x5).map a.eval= #[.slice (G ⟨g.β q,off,none⟩) len cap] from by simp[eq],hrun]
 exact this
end
theorem K4{env:List D}{σ:St}{q t sz n:Nat}{xs:List V}{rest:List D}(hsz:0<sz)(hs:∀x∈xs,x.size=sz)(hn:n=I xs)(hq:σ.H[q]?=G (G (Ad xs++rest)))(ht:env[t]?=G (.arr q 0 n)):Cv env σ (env.set t (.v (.list xs))) ⟨σ.H.set q none,σ.own⟩:=fun E g a w hf=>by
 subst hn
 have hone:∀y∈xs.flatMap V.cellsV,y.isAgg=O:=fun y hy=>by
  obtain⟨_,_,_,_,_,h1,_⟩:=hf.wi.rep.obj q _ hq
  have:=h1 (.v y) (IE.2 (.inl (IA.2 ⟨y,hy,rfl⟩)))
  simpa[D.one] using this
 have hz:Fz (Ey [q] σ.H) env (env.set t (.v (.list xs))):=by
  refine MV (n:=1) (Fz.refl env) ht (.inr (.inr ⟨q,0,sz,Ad xs++rest,xs,.inl rfl,rfl,hsz,hs,by simp[Ey,hq],fun j y hy=>?_⟩))
  have hj:j<I (Ad xs):=by rw[Ad,HP];exact(HT.1 hy).1
  exact⟨hone y (HW hy),.v y,by rw[IC,Ip hj,Ad,I9,hy];rfl,.v y,.same,rfl⟩
 obtain⟨g',hf'⟩:=Q6 [q] hz E g a w hf
 exact⟨g',by simpa[HE] using hf'⟩
theorem X2(n:Nat):dv n (List.range n)=id:=by
 funext j
 unfold dv
 by_cases h:j<n
 ·rw[List.getElem?_range h];rfl
 ·rw[IF (by rw[length_range];omega),length_range];show n+(j-n)=j;omega
theorem M1:∀(H2 H1 os:List (Option (List D))),I H2<=I os->CM (H1++H2) (List.range' (I H1) (I H2)) os=H1++os
 |[],H1,os,_=>by simp[CM]
 |x::H2,H1,[],h=>by simp at h
 |x::H2,H1,o::os,h=>by
  rw[HV,List.range'_succ,CM]
  have h2:=M1 H2 (H1++[o]) os (by simpa using h)
  rw[Ig,HV,HZ] at h2
  rw[show(H1++x::H2).set (I H1) o=(H1++[o])++H2 by rw[List.set_append_right _ _ (HX _)];simp]
  rw[show I H1+1=I H1+(0+1) by omega,h2]
  simp
theorem Abu(H:List (Option (List D))):Dp id id H=H:=by
 unfold Dp
 conv=>rhs;rw[←List.map_id H]
 refine List.map_congr_left fun x _=>?_
 cases x with
 |none=>rfl
 |some cs=>simp[EW]
theorem M2{n:Nat}{qs:List Nat}(hq:I qs=n)(hr:dv n qs=id):∀{ds:List D},D.okNs n [] ds=J->GA n qs ds ds
 |[],_=>.nil
 |d::ds,h=>by
  simp only[D.okNs,HR] at h
  refine .cons ?_ (M2 hq hr h.2)
  have:=kp.ren (n:=n) (qs:=qs) (dc:=d) (by rw[hq];exact h.1)
  rwa[hr,MI] at this
theorem Qg{H:List (List D)}{qs:List Nat}(hq:I qs=I H)(hr:dv (I H) qs=id)(hH:∀cs∈H,D.okNs (I H) [] cs=J/\cs.all D.one=J):∀(k:Nat),k<=I H->Pq (H.map some) qs (List.range' (I H-k) k) ((H.drop (I H-k)).map some)
 |0,_=>by simp;exact .nil
 |k+1,hk=>by
  have hlt:I H- (k+1)<I H:=by omega
  rw[List.range'_succ,Ih hlt,Iu,show I H- (k+1)+1=I H-k by omega]
  have hm:=hH _ (List.getElem_mem hlt)
  refine .cons (cs:=H[I H- (k+1)]) (by rw[I9,HQ hlt];rfl) ?_ hm.2 (Qg hq hr hH k (by omega))
  rw[HP]
  exact M2 hq hr hm.1
theorem C9{P:x4}{o:yw}{c:Call}{fo:x5}(ho:o.op=.call c)(hc:c.callee=.value fo){fD:D}{f:yv}{fs cs:List D}(hf:OJ fD=G (f,fs,cs)){H:List (List D)}{H':List (Option (List D))}{ds:List D}{d:D}
  (hspec:Aa P f (fs++ds++cs) ⟨H.map some,[]⟩ d ⟨H',[]⟩) (hds:D.okNs (I H) [] (fs++ds++cs)=J) (hH:∀cs∈H,D.okNs (I H) [] cs=J/\cs.all D.one=J) (hd:d.okN (I H') []=J) (hH':cp (I H') [] H'=J) (hle:I H<=I H'):
  Ay P o (fD::ds) ⟨H.map some,[]⟩ d ⟨H',[]⟩:=by
 have hq:I (List.range (I H))=I H:=length_range
 have hr:=X2 (I H)
 have hl:I (H.map some)=I H:=HP ..
 have hob:=Qg hq hr hH (I H) (HX _)
 rw[Nat.sub_self,J1, ←List.range_eq_range'] at hob
 have h:=B7 (σ:=⟨H.map some,[]⟩) ho hc hf (List.range (I H)) id hspec (by
  show GA (I (H.map some)) _ _ _
  rw[hl];exact M2 hq hr hds) hob List.nodup_range rfl (by simp) (by simp) hd hH'
 have hb:CM (H.map some) (List.range (I H)) H'=H':=by
  have:=M1 (H.map some) [] H' (by rw[hl];exact hle)
  simpa[hl,List.range_eq_range'] using this
 simp only[hl,hr,MI,Abu,hb] at h
 simpa[Ge] using h
end Go.Nv

namespace Go.Proofs.YthmjfmacdlhfjaaGreat
open Go.Dv Go.Nv
set_option maxRecDepth 20000
open List (flatten getElem?_set_ne getElem?_set_self length length_set replicate set_cons_zero take)
open Go.IntKind (u64)
open Go.IntKind renaming wrap → yr, i64 → yq
open List renaming length → I, map → U, drop → W
open Option renaming some → G
open Bool renaming true → J, false → O
open Decidable renaming decide → Y
open Int renaming toNat → Z
open Go.Dv.V renaming list → ai, str → ae, agg → ab, int → aa, ref → bz, fn → bw, nils → bv, bool → bu
open Go.Dv.D renaming v → bt, acc → br, ptr → bq, arr → bo, gro → bm, tup → bl, undef → bk, dagg → bj
open Go.Dv.St renaming mk → bi
open Go.Dv.KI renaming blk → bh
open _root_.ByteArray renaming mk → bg
open Go renaming Operand → x5, Program → x4, TypeId → yz, World → yy, Value → yx, Oper → yw, FuncId → yv, Func → yu, IntKind → yt
structure u6(m:ba)(c:bd):Prop where
 size:c.size<=128
 len:I c.az=1+I m.ay
 word:∀(k:Nat) (x:bd),c.az[1+k]?=G x->I x.az<=12
structure ip(m:ba)(t:bc):Prop where
 int:Wn m t
 chk:F0 52 [Ax m] (di 0)
 kind:m.kind=2∨m.kind=3
 few:I m.av<=12/\m.ay.length<=2
 rule:∀r∈m.av,0<=r.chan/\r.chan<I m.ay
 shape:∀c,Aw t c=J->u6 m c
noncomputable abbrev AiV:=Tryz.f138
theorem N1(m:ba)(t:bc)(hm:Wn m t)(c:bd)(hs:c.size<=1000000):F0 138 [dV c,.v (.ref (AE m))] (db (!Aw t c)):=by
 exact sv AiV 8 [2] (.c (db (Aw t c)) .r) (_/\Q (db !Aw t c)) ⟨hm.valid c hs,rfl⟩
noncomputable abbrev HI:=Tryz.f69
theorem Ajj(m:ba)(t:bc)(hm:ip m t):F0 69 [Ax m,dl []] (di 0):=by
 have h:=Gw 138 [] [.ref (AE m)] (fun c=> !Aw t c) [] (by simp) (by simp)
 rcases hm.kind with hk|hk
 ·exact sv HI 24 [2] (.c (di 0)<|.k<|.f<|.c (db O) .r) (_/\(m.kind !=2)=O/\_/\Q (di 0)) ⟨hm.chk,by rw[hk];rfl,h,rfl⟩
 ·exact sv HI 24 [2] (.c (di 0)<|.k<|.t<|.f<|.c (db O) .r) (_/\(m.kind !=2)=J/\(m.kind !=3)=O/\_/\Q (di 0)) ⟨hm.chk,by rw[hk];rfl,by rw[hk];rfl,h,rfl⟩
def lx(t:bc)(c:bd):Int:=if Aw t c=J then 0 else 17
theorem xf(m:ba)(t:bc)(hm:ip m t)(c:bd)(hs:c.size<=1000000):F0 69 [Ax m,dl [Au c]] (di (lx t c)):=by
 have h:=Gw 138 [] [.ref (AE m)] (fun c=> !Aw t c) [c] (by simp) (fun x hx=>by rw[Ii.1 hx];exact N1 m t hm.int c hs)
 rw[show [c].map eV=[Au c] from Iq (fun z=>[z]) (AR c)] at h
 rw[lx]
 cases hv:Aw t c with
 |true=>
  rw[show([c].any fun c=> !Aw t c)=O by simp[hv]] at h
  rw[Io rfl]
  rcases hm.kind with hk|hk
  ·exact sv HI 24 [2] (.c (di 0)<|.k<|.f<|.c (db O) .r) (_/\(m.kind !=2)=O/\_/\Q (di 0)) ⟨hm.chk,by rw[hk];rfl,h,rfl⟩
  ·exact sv HI 24 [2] (.c (di 0)<|.k<|.t<|.f<|.c (db O) .r) (_/\(m.kind !=2)=J/\(m.kind !=3)=O/\_/\Q (di 0)) ⟨hm.chk,by rw[hk];rfl,by rw[hk];rfl,h,rfl⟩
 |false=>
  rw[show([c].any fun c=> !Aw t c)=J by simp[hv]] at h
  rw[Ij (by decide)]
  rcases hm.kind with hk|hk
  ·exact sv HI 24 [2] (.c (di 0)<|.k<|.f<|.c (db J) .r) (_/\(m.kind !=2)=O/\_/\Q (di 17)) ⟨hm.chk,by rw[hk];rfl,h,rfl⟩
  ·exact sv HI 24 [2] (.c (di 0)<|.k<|.t<|.f<|.c (db J) .r) (_/\(m.kind !=2)=J/\(m.kind !=3)=O/\_/\Q (di 17)) ⟨hm.chk,by rw[hk];rfl,by rw[hk];rfl,h,rfl⟩
noncomputable abbrev Am1:=Tryz.f101
theorem Adu(m:ba)(t:bc)(hm:ip m t)(i:Nat)(hi:i<I m.av)(c:bd)(hs:c.size<=1000000):F0 101 [Ax m,di i,dV c] (di (lx t c)):=by
 exact sv Am1 28 [3,5] (.c (di 0)<|.k<|.k<|.f<|.c (di (lx t c)) .r) (_/\Y ((i:Int)>=(I (U AD m.av):Int))=O/\_/\Q (di (lx t c))) ⟨Ajj m t hm,HU (by rw[HP];omega),xf m t hm c hs,rfl⟩
abbrev BA(x:bd):List Int:=x.az.map bd.n
noncomputable abbrev Vz:=Tryz.f70
noncomputable def VR:=yj Vz
theorem Zh(l:List bd)(hl:I l<=1000000)(n:Nat):∀k:Nat,I l-k=n->
  Rn PP Vz 0 (.acc 1 ((l.map bd.n).map vi)) ⟨[],[(1,1,(l.map bd.n).map vi)]⟩ ([kl VR [1,1,0,1,0,0],.blk 0,kc VR [1,1,1]]++[]) (b9 27 [(5,.acc 1 (((l.take k).map bd.n).map vi)),(14,cx l),(15,di (I l)),(16,di k)]) ⟨[],[(1,1,((l.take k).map bd.n).map vi)]⟩:=by
 induction n with
 |zero=>
  intro k hn
  refine lv 27 [2] (.f .r) (Y ((k:Int)<(I l:Int))=O/\[(1,1,U vi (U bd.n (take k l)))]=[(1,1,U vi (U bd.n l))]/\br 1 (U vi (U bd.n (take k l)))=br 1 (U vi (U bd.n l))) ?_
  rw[Iw (by omega)]
  exact⟨yo,rfl,rfl⟩
 |succ n ih=>
  intro k hn
  obtain⟨x,hx⟩:=yi (show k<I l by omega)
  refine lv 27 [2] (.t<|.h (.xs (Au x))<|.ls [ch 5 (.acc 1 (((l.take (k+1)).map bd.n).map vi)),ke 14,ke 15,ch 16 (di (k+1:Nat))] ⟨[],[(1,1,((l.take (k+1)).map bd.n).map vi)]⟩) (Y ((k:Int)<(I l:Int))=J/\Q 2/\0<=(k:Int)/\(U eV l)[Z (k:Int)]?=G (Au x)/\Q (U vi (U bd.n (take k l)))/\A9 (I (U vi (U bd.n (take k l)))+I (vi x.n::nV)) 8/\br 1 (U vi (U bd.n (take k l))++[vi x.n])=br 1 (U vi (U bd.n (take (k+1) l)))/\di (yr yq ((k:Int)+1))=di (↑(k+1):Int)/\[(1,1,U vi (U bd.n (take k l))++vi x.n::nV)]=[(1,1,U vi (U bd.n (take (k+1) l)))]/\I0 Vz 0 (br 1 (U vi (U bd.n l))) (bi [] [(1,1,U vi (U bd.n l))]) [kl VR [1,1,0,1,0,0],bh 0,kc VR [1,1,1]] (b9 27 [(5,br 1 (U vi (U bd.n (take (k+1) l)))),(14,cx l),(15,di (I l:Int)),(16,di (↑(k+1):Int))]) (bi [] [(1,1,U vi (U bd.n (take (k+1) l)))])) ?_
  have hk:=(HT.1 hx).1
  have ht:((l.take (k+1)).map bd.n).map vi=((l.take k).map bd.n).map vi++[vi x.n]:=by rw[Jn,hx];simp
  rw[ht]
  refine⟨yp,rfl,by omega,A1 hx,rfl,⟨?_,?_⟩,rfl,As,rfl,⟨?_⟩⟩
  ·simp only[HP,Iy,HV,HZ];omega
  ·simp only[HP,Iy,HV,HZ];omega
  ·have:=ih (k+1) (by omega)
   rw[ht] at this
   exact this
theorem Np(c:bd)(k:Nat)(x:bd)(hx:c.az[1+k]?=G x)(hl:I c.az<=1000000)(hs:I x.az<=1000000):Aa PP 70 [dV c,di k] bf (.acc 1 ((BA x).map vi)) ⟨[],[(1,1,(BA x).map vi)]⟩:=by
 refine sv Vz 27 [2] (.h (.q 2 0)<|.h (.nw 5 1 1)<|.h (.xs (Au x))<|.ls [ch 5 (.acc 1 []),ke 14,ch 15 (di (I x.az)),ch 16 (di (0:Nat))] ⟨[],[(1,1,[])]⟩) (Q 2/\0<=yr yq (1+(k:Int))/\(U eV c.az)[Z (yr yq (1+(k:Int)))]?=G (Au x)/\Q (br 1 [])/\di (I (U eV x.az):Int)=di (I x.az:Int)/\di 0=di (↑0:Int)/\Q [(1,1,nV)]/\I0 Vz (I bf.H) (br 1 (U vi (BA x))) (bi [] [(1,1,U vi (BA x))]) [kl VR [1,1,0,1,0,0],bh 0,kc VR [1,1,1]] (b9 27 [(5,br 1 []),(14,cx x.az),(15,di (I x.az:Int)),(16,di (↑0:Int))]) (bi [] [(1,1,[])])) ?_
 have hk:=(HT.1 hx).1
 have hw:yq.wrap (1+(k:Int))=((1+k:Nat):Int):=by rw[A2];omega
 rw[hw]
 exact⟨rfl,by omega,A1 hx,rfl,by rw[HP],rfl,rfl,⟨Zh x.az hs _ 0 rfl⟩⟩
theorem Ms(c:bd)(k:Nat)(x:bd)(hx:c.az[1+k]?=G x)(hl:I c.az<=1000000)(hs:I x.az<=1000000):F0 70 [dV c,di k] (cy (BA x)):=Di (Np c k x hx hl hs)
noncomputable abbrev qo:=Tryz.f102
theorem Z1(r:cq)(c:bd)(k:Nat)(hk:r.chan=k)(s x:bd)(hs:c.az[0]?=G s)(hx:c.az[1+k]?=G x)(hl:I c.az<=1000000)(hz:I x.az<=1000000):
  F0 102 [AZ r,dV c] (db ((s.n==r.aj)&&((r.act !=2)||(BA x).head?==G r.letter))):=by
 have hct:=Ms c k x hx hl hz
 rw[←hk] at hct
 have hx0:(c.az.map eV)[Z 0]?=G (Au s):=A1 (i:=0) hs
 by_cases h1:(s.n !=r.aj)=J
 ·have e1:(s.n==r.aj)=O:=by simpa using h1
  refine sv qo 32 [2,3] (.h (.xs (Au s))<|.t .r) (Q 2/\iz 0<=0/\(U eV c.az)[Z 0]?=G (Au s)/\(s.n !=r.aj)=J/\db O=db (s.n==r.aj&&(r.act !=2||List.head? (BA x)==G r.letter))) ?_
  rw[e1]
  exact⟨rfl,Iv _,hx0,h1,rfl⟩
 ·have f1:=Ic h1
  have e1:(s.n==r.aj)=J:=by simpa using h1
  by_cases h2:(r.act !=2)=J
  ·refine sv qo 32 [2,3] (.h (.xs (Au s))<|.f<|.t .r) (Q 2/\iz 0<=0/\(U eV c.az)[Z 0]?=G (Au s)/\(s.n !=r.aj)=O/\(r.act !=2)=J/\db J=db (s.n==r.aj&&(r.act !=2||List.head? (BA x)==G r.letter))) ?_
   rw[e1,h2]
   exact⟨rfl,Iv _,hx0,f1,rfl,rfl⟩
  ·have f2:=Ic h2
   rw[e1,f2]
   cases hn:BA x with
   |nil=>
    rw[hn] at hct
    exact sv qo 32 [2,3] (.h (.xs (Au s))<|.f<|.f<|.c (cy []) .r) (Q 2/\iz 0<=0/\_/\_/\_/\_/\Q (db O)) ⟨rfl,Iv _,hx0,f1,f2,hct,rfl⟩
   |cons y ys=>
    rw[hn] at hct
    exact sv qo 32 [2,3] (.h (.xs (Au s))<|.f<|.f<|.c (cy (y::ys))<|.t<|.x (vi y) .r) (Q 2/\iz 0<=0/\_/\_/\_/\_/\Y ((I (U vi (y::ys)):Int)>0)=J/\iz 0<=0/\Q (G (vi y))/\db (y==r.letter)=db (true&&(false||List.head? (y::ys)==G r.letter))) ⟨rfl,Iv _,hx0,f1,f2,hct,HS (by simp only[HP,HV];omega),Iv _,rfl,by simp⟩
noncomputable abbrev ln:=Tryz.f75
noncomputable def Wh:=yj ln
theorem AcV(l:List bd)(hl:I l<=1000000)(hp:∀v∈l,F0 142 [dV v] (dV v))(n:Nat):∀k:Nat,I l-k=n->
  Rn PP ln 0 (.acc 1 (l.map eV)) ⟨[],[(1,2,l.map eV)]⟩ ([kl Wh [1,1,0,1,0,0],.blk 0,kc Wh [1,1,1]]++[]) (b9 19 [(3,.acc 1 ((l.take k).map eV)),(6,cx l),(7,di (I l)),(8,di k)]) ⟨[],[(1,2,(l.take k).map eV)]⟩:=by
 induction n with
 |zero=>
  intro k hn
  refine lv 19 [] (.f .r) (Y ((k:Int)<(I l:Int))=O/\[(1,2,U eV (take k l))]=[(1,2,U eV l)]/\br 1 (U eV (take k l))=br 1 (U eV l)) ?_
  rw[Iw (by omega)]
  exact⟨yo,rfl,rfl⟩
 |succ n ih=>
  intro k hn
  obtain⟨x,hx⟩:=yi (show k<I l by omega)
  have hk:=(HT.1 hx).1
  have ht:l.take (k+1)=l.take k++[x]:=by rw[Jn,hx];rfl
  refine lv 19 [] (.t<|.h (.xs (Au x))<|.c (dV x)<|.ls [ch 3 (.acc 1 ((l.take (k+1)).map eV)),ke 6,ke 7,ch 8 (di (k+1:Nat))] ⟨[],[(1,2,(l.take (k+1)).map eV)]⟩) (Y ((k:Int)<(I l:Int))=J/\Q 2/\0<=(k:Int)/\(U eV l)[Z (k:Int)]?=G (Au x)/\_/\Q (U eV (take k l))/\A9 (I (U eV (take k l))+I (Au x::nV)) 32/\br 1 (U eV (take k l)++[Au x])=br 1 (U eV (take (k+1) l))/\di (yr yq ((k:Int)+1))=di (↑(k+1):Int)/\[(1,2,U eV (take k l)++Au x::nV)]=[(1,2,U eV (take (k+1) l))]/\_) ⟨yp,rfl,by omega,A1 hx,hp x (HW hx),rfl,⟨?_,?_⟩,?_,As,?_,iK (ih (k+1) (by omega))⟩
  ·simp only[HP,Iy,HV,HZ];omega
  ·simp only[HP,Iy,HV,HZ];omega
  ·rw[Dt, ←ht]
  ·rw[ht, ←Dt]
theorem OT(l:List bd)(hl:I l<=1000000)(hp:∀v∈l,F0 142 [dV v] (dV v)):F0 75 [cx l] (cx l):=by
 have h:Aa PP 75 [cx l] bf (.acc 1 (l.map eV)) ⟨[],[(1,2,l.map eV)]⟩:=by
  exact sv ln 19 [] (.h (.q 2 0)<|.h (.nw 3 1 2)<|.ls [ch 3 (.acc 1 []),ke 6,ch 7 (di (I l)),ch 8 (di (0:Nat))] ⟨[],[(1,2,[])]⟩) (Q (br 1 [])/\di (I (U eV l):Int)=di (I l:Int)/\Q (di 0)/\Q [(1,2,nV)]/\_) ⟨rfl,by rw[HP],rfl,rfl,iK (AcV l hl hp _ 0 rfl)⟩
 exact Di h
noncomputable abbrev si:=Tryz.f142
noncomputable def Am8:=yj si
theorem OS(N:Nat):∀v:bd,v.size<=N->v.size<=1000000->F0 142 [dV v] (dV v):=by
 induction N with
 |zero=>intro v h;have:=v.size_pos;omega
 |succ N ih=>
  intro v hN hv
  have hs:=v.size_eq
  have hl:=bd.length_le v.az
  exact sv si 9 [1] (.c (cx v.az) .r) (_/\Q (dV v)) ⟨OT v.az (by omega) (fun x hx=>by have:=bd.size_mem hx;exact ih x (by omega) (by omega)),rfl⟩
abbrev o8(xs:List bd):St:=⟨[G (Ad (xs.map eV))],[]⟩
theorem Zg(l:List bd)(hl:I l<=100000)(hp:∀v∈l,F0 142 [dV v] (dV v))(n:Nat):∀k:Nat,I l- (k+1)=n->k<I l->
  Rn PP ln 0 (.arr 0 0 (I l)) (o8 l) ([kl Wh [1,1,0,1,0,0],.blk 0,kc Wh [1,1,1]]++[]) (b9 19 [(3,.gro 0 (k+1) 2),(6,cx l),(7,di (I l)),(8,di (k+1:Nat))]) (o8 (l.take (k+1))):=by
 induction n with
 |zero=>
  intro k hn hk
  refine lv 19 [] (.f<|.h (.q 7 0)<|.h (.ga 3) .ro) (Y ((↑(k+1):Int)<(I l:Int))=O/\cp 1 [] [G (Ad (U eV (take (k+1) l)))]=J/\[G (Ad (U eV (take (k+1) l)))]=[G (Ad (U eV l))]/\bo 0 0 (k+1)=bo 0 0 (I l)) ?_
  have e:k+1=I l:=by omega
  rw[e,Iw (HX _)]
  exact⟨yo,Ik.2 ⟨Az 1 [] _,rfl⟩,rfl,rfl⟩
 |succ n ih=>
  intro k hn hk
  obtain⟨x,hx⟩:=yi (show k+1<I l by omega)
  refine lv 19 [] (.t<|.h (.xs (Au x))<|.c (dV x)<|.lo [ch 3 (.gro 2 (k+1+1) 2),ke 6,ke 7,ch 8 (di (k+1+1:Nat))] ⟨[none,G [di x.n,cx x.az],G (Ad ((l.take (k+1+1)).map eV))],[]⟩) (Y ((↑(k+1):Int)<(I l:Int))=J/\Q 2/\0<=(↑(k+1):Int)/\(U eV l)[Z (↑(k+1):Int)]?=G (Au x)/\F0 142 [dV x] (dV x)/\I (Ad (U eV (take (k+1) l)))=(k+1)*2/\[Au x]≠ []/\(∀(y:V),y∈ [Au x]->V.size y=2)/\A9 (k+1+I (Au x::nV)) 32/\bm 2 (k+1+I (Au x::nV)) 2=bm 2 (k+1+1) 2/\di (yr yq ((↑(k+1):Int)+1))=di (↑(k+1+1):Int)/\cp 3 [] [none,G [di x.n,cx x.az],G (Ad (U eV (take (k+1) l))++[di x.n,cx x.az])]=J/\[none,G [di x.n,cx x.az],G (Ad (U eV (take (k+1) l))++[di x.n,cx x.az])]=[none,G [di x.n,cx x.az],G (Ad (U eV (take (k+1+1) l)))]/\I0 ln 0 (bo 0 0 (I l)) (o8 l) [kl Wh [1,1,0,1,0,0],bh 0,kc Wh [1,1,1]] (b9 19 [(3,bm 2 (k+1+1) 2),(6,cx l),(7,di (I l:Int)),(8,di (↑(k+1+1):Int))]) (bi [none,G [di x.n,cx x.az],G (Ad (U eV (take (k+1+1) l)))] [])) ?_
  have hk1:=(HT.1 hx).1
  have ht:l.take (k+1+1)=l.take (k+1)++[x]:=by rw[Jn (i:=k+1),hx];rfl
  have hf:Ad ((l.take (k+1)).map eV)++[di x.n,bt (cc x.az)]=Ad ((l.take (k+1+1)).map eV):=by rw[ht,DR,AO];rfl
  have hih:=ih (k+1) (by omega) hk1
  rw[hf]
  refine⟨yp,rfl,by omega,A1 hx,hp x (HW hx),by rw[BC,Iy];omega,by simp,fun y hy=>by rw[Ii.1 hy];rfl,⟨?_,?_⟩,rfl,As,?_,rfl,⟨?_⟩⟩
  ·simp only[HV,HZ];omega
  ·simp only[HV,HZ];omega
  ·simp[cp,D.okNs,D.okN,Az]
  ·refine CW (H0:=[none,G [di x.n,cx x.az]]) (fun E0 E h=>h.2) 2 rfl (fun cs hc=>?_) ?_ ?_ hih
   ·simp at hc;rw[hc];exact A5 _
   ·simp[b9,D.okNs,D.okN]
   ·simp[b9,D.rens,D.ren]
theorem Zf(l:List bd)(hn:l≠ [])(hl:I l<=100000)(hp:∀v∈l,F0 142 [dV v] (dV v)):Aa PP 75 [cx l] bf (.arr 0 0 (I l)) (o8 l):=by
 obtain⟨x,hx⟩:∃x,l[0]?=G x:=⟨_,HQ (List.length_pos_iff.2 hn)⟩
 have hk1:=(HT.1 hx).1
 have ht:l.take 1=[x]:=by
  cases l with
  |nil=>simp at hx
  |cons y l=>simp at hx;simp[hx]
 have hih:=Zg l hl hp _ 0 rfl (by omega)
 refine sv ln 19 [] (.n<|.t<|.h (.xs (Au x))<|.c (dV x)<|.h (.q 5 4)<|.h .g<|.lo [ch 3 (.gro 1 1 2),ke 6,ch 7 (di (I l)),ch 8 (di (1:Nat))] ⟨[G [di x.n,cx x.az],G (Ad ((l.take 1).map eV))],[]⟩) (Y (0<(I (U eV l):Int))=J/\Q 2/\iz 0<=0/\(U eV l)[Z 0]?=G (Au x)/\_/\[Au x]≠ []/\(∀(y:V),y∈ [Au x]->V.size y=2)/\A9 1 32/\Q (bm 1 1 2)/\di (I (U eV l):Int)=di (I l:Int)/\di (yr yq (0+1))=di (↑1:Int)/\cp 2 [] [G [di x.n,cx x.az],G [di x.n,cx x.az]]=J/\[G [di x.n,cx x.az],G [di x.n,cx x.az]]=[G [di x.n,cx x.az],G (Ad (U eV (take 1 l)))]/\I0 ln (I bf.H) (bo 0 0 (I l)) (o8 l) [kl Wh [1,1,0,1,0,0],bh 0,kc Wh [1,1,1]] (b9 19 [(3,bm 1 1 2),(6,cx l),(7,di (I l:Int)),(8,di (↑1:Int))]) (bi [G [di x.n,cx x.az],G (Ad (U eV (take 1 l)))] [])) ⟨HS (by simp only[HP];omega),rfl,Iv _,A1 (i:=0) hx,hp x (HW hx),by simp,fun y hy=>by rw[Ii.1 hy];rfl,⟨by decide,by decide⟩,rfl,by rw[HP],Iq di (by decide),rfl,?_,⟨?_⟩⟩
 ·rw[ht,AO];rfl
 ·refine CW (H0:=[G [di x.n,cx x.az]]) (fun E0 E h=>h.2) 1 rfl (fun cs hc=>?_) ?_ ?_ hih
  ·simp at hc;rw[hc];exact A5 _
  ·simp[b9,D.okNs,D.okN]
  ·simp[b9,D.rens,D.ren]
theorem Ze(v:bd)(hn:v.az≠ [])(hv:v.size<=100000):Aa PP 142 [dV v] bf (.dagg [di v.n,.arr 1 0 (I v.az)]) ⟨[G [di v.n,.arr 1 0 (I v.az)],G (Ad (v.az.map eV))],[]⟩:=by
 have hs:=v.size_eq
 have hl:=bd.length_le v.az
 refine S2 mixed si Am8 (by kernel_rfl) (by kernel_rfl) (by kernel_rfl) (by kernel_rfl) 9 (by kernel_rfl) [1] (.h (.oc (.arr 1 0 (I v.az)) ⟨[G [di 0,.v .nils],G (Ad (v.az.map eV))],[]⟩)<|.h .g<|.r) ?_
 refine dq (by kernel_rfl:((∀(o:yw) (c:Call) (fo:x5),o.op=Op.call c->c.callee=Callee.value fo->Ay PP o [bt (bw 75 [] []),cx v.az] (bi [G [di 0,dn]] []) (bo 1 0 (I v.az)) (bi [G [di 0,dn],G (Ad (U eV v.az))] []))/\cp 2 [] [G [di v.n,bo 1 0 (I v.az)],G (Ad (U eV v.az))]=J/\Q [G [di v.n,bo 1 0 (I v.az)],G (Ad (U eV v.az))]/\Q (bj [di v.n,bo 1 0 (I v.az)]))=_) ?_
 refine⟨fun o cl fo ho hc=>?_,by simp[cp,D.okNs,D.okN,Az],rfl,rfl⟩
 exact KL (σ:=⟨[G [di 0,.v .nils]],[]⟩) (fs:=[]) (cs:=[]) (ds:=[cx v.az]) ho hc rfl (A5 _) (Zf v.az hn (by omega) (fun x hx=>by have:=bd.size_mem hx;exact OS _ x (HX _) (by omega)))
theorem fy{P:x4}{o:yw}{ds ds':List D}{σ σ':St}{d:D}(h:DSL ds ds')(ho:Ay P o ds' σ d σ'):Ay P o ds σ d σ':=fun E g a w K Q hw hds hK=>ho E g a w K Q hw (h.rep hds) hK
theorem AbI{P:x4}{o:yw}{ds ds':List D}{σ σ':St}{d:D}(h:∀(g:Gh) (a:Act),Ar g ds' (o.op.operands.toList.map a.eval))(ho:Ay P o ds' σ d σ'):Ay P o ds σ d σ':=fun E g a w K Q hw _ hK=>ho E g a w K Q hw (h g a) hK
noncomputable abbrev Hg:=Tryz.f74
noncomputable def BE:=yj Hg
noncomputable def og:Array yw:=match sub BE [1,1,1,1,1,0,1,0,0,1,1,0,0,1] with
 |.region _ ops _=>ops
 |_=> #[]
noncomputable def oW(i:Nat):yw:=(og[i]?).getD ⟨none,.alloc 0,0,"", #[],none⟩
theorem Co:og.size=12:=by kernel_rfl
theorem XP:og.toList=[oW 0,oW 1,oW 2,oW 3,oW 4,oW 5,oW 6,oW 7,oW 8,oW 9,oW 10,oW 11]:=by kernel_rfl
abbrev BH(c:bd)(L:List D)(T:List (Option (List D))):St:=⟨[some [di 0,.v .nils],some [di c.n,.arr 2 0 c.az.length],some L,some [di c.n,.arr 2 0 c.az.length]]++T,[]⟩
abbrev zE:V:=.agg [vi 0,.nils]
abbrev lE(x:Int):V:=.agg [vi x,.list []]
theorem AjK(p:Nat)(σ:St):Ay PP (oW 0) [.ptr 2 p] σ (.ptr 2 p) σ:=by
 obtain⟨_,d,σ',kd,⟨rfl,rfl,rfl⟩,h⟩:=C8 (P:=PP) (im:=[]) (s:=.z) (o:=oW 0) (ds:=[.ptr 2 p]) (σ:=σ) (K:=fun _ d' σ' kd=>d'=(.ptr 2 p)/\σ'=σ/\kd=.pure) (by
  refine dq (by kernel_rfl:(Q (bq 2 p)/\Q σ/\Q Kd.pure)=_) ?_
  exact⟨rfl,rfl,rfl⟩)
 exact h.op
theorem AjJ(p:Nat)(σ:St):Ay PP (oW 1) [.ptr 2 p] σ (.ptr 2 p) σ:=by
 obtain⟨_,d,σ',kd,⟨rfl,rfl,rfl⟩,h⟩:=C8 (P:=PP) (im:=[]) (s:=.z) (o:=oW 1) (ds:=[.ptr 2 p]) (σ:=σ) (K:=fun _ d' σ' kd=>d'=(.ptr 2 p)/\σ'=σ/\kd=.pure) (by
  refine dq (by kernel_rfl:(Q (bq 2 p)/\Q σ/\Q Kd.pure)=_) ?_
  exact⟨rfl,rfl,rfl⟩)
 exact h.op
theorem Ahm(p:Nat)(σ:St):Ay PP (oW 10) [.ptr 2 p] σ (.ptr 2 p) σ:=by
 obtain⟨_,d,σ',kd,⟨rfl,rfl,rfl⟩,h⟩:=C8 (P:=PP) (im:=[]) (s:=.z) (o:=oW 10) (ds:=[.ptr 2 p]) (σ:=σ) (K:=fun _ d' σ' kd=>d'=(.ptr 2 p)/\σ'=σ/\kd=.pure) (by
  refine dq (by kernel_rfl:(Q (bq 2 p)/\Q σ/\Q Kd.pure)=_) ?_
  exact⟨rfl,rfl,rfl⟩)
 exact h.op
theorem AjI(c:bd)(L:List D)(p:Nat)(g0:D)(T:List (Option (List D)))(h:L[p]?=some g0):Ay PP (oW 2) [.ptr 2 p] (BH c L T) g0 (BH c L T):=by
 obtain⟨_,d,σ',kd,⟨rfl,rfl,rfl⟩,h⟩:=C8 (P:=PP) (im:=[]) (s:=.m g0 .z) (o:=oW 2) (ds:=[.ptr 2 p]) (σ:=(BH c L T)) (K:=fun _ d' σ' kd=>d'=g0/\σ'=(BH c L T)/\kd=.load 2 p 1) (by
  refine dq (by kernel_rfl:(L[p]?=some g0/\Q g0/\Q (BH c L T)/\Q (Kd.load 2 p 1))=_) ?_
  exact⟨h,rfl,rfl,rfl⟩)
 exact h.op
theorem AjH(x:Int)(σ:St):Ay PP (oW 3) [di x] σ (di x) σ:=by
 obtain⟨_,d,σ',kd,⟨rfl,rfl,rfl⟩,h⟩:=C8 (P:=PP) (im:=[]) (s:=.z) (o:=oW 3) (ds:=[di x]) (σ:=σ) (K:=fun _ d' σ' kd=>d'=(di x)/\σ'=σ/\kd=.pure) (by
  refine dq (by kernel_rfl:(Q (di x)/\Q σ/\Q Kd.pure)=_) ?_
  exact⟨rfl,rfl,rfl⟩)
 exact h.op
theorem AjG(x:Int)(σ:St):Ay PP (oW 4) [di x] σ (.v (lE x)) σ:=by
 obtain⟨_,d,σ',kd,⟨rfl,rfl,rfl⟩,h⟩:=C8 (P:=PP) (im:=[]) (s:=.z) (o:=oW 4) (ds:=[di x]) (σ:=σ) (K:=fun _ d' σ' kd=>d'=(.v (lE x))/\σ'=σ/\kd=.pure) (by
  refine dq (by kernel_rfl:(bt (ab [vi x,ai []])=bt (lE x)/\Q σ/\Q Kd.pure)=_) ?_
  exact⟨rfl,rfl,rfl⟩)
 exact h.op
theorem AjF(σ:St):Ay PP (oW 6) [.v zE] σ (.v (.list [zE])) σ:=by
 obtain⟨_,d,σ',kd,⟨rfl,rfl,rfl⟩,h⟩:=C8 (P:=PP) (im:=[]) (s:=.z) (o:=oW 6) (ds:=[.v zE]) (σ:=σ) (K:=fun _ d' σ' kd=>d'=(.v (.list [zE]))/\σ'=σ/\kd=.pure) (by
  refine dq (by kernel_rfl:(Q (bt (ai [zE]))/\Q σ/\Q Kd.pure)=_) ?_
  exact⟨rfl,rfl,rfl⟩)
 exact h.op
theorem Ahk(q n:Nat)(σ:St):Ay PP (oW 5) [.arr q 0 n] σ (di n) σ:=by
 obtain⟨_,d,σ',kd,⟨rfl,rfl,rfl⟩,h⟩:=C8 (P:=PP) (im:=[]) (s:=.z) (o:=oW 5) (ds:=[.arr q 0 n]) (σ:=σ) (K:=fun _ d' σ' kd=>d'=(di n)/\σ'=σ/\kd=.pure) (by
  refine dq (by kernel_rfl:(Q (di (n:Int))/\Q σ/\Q Kd.pure)=_) ?_
  exact⟨rfl,rfl,rfl⟩)
 exact h.op
theorem Ahj(σ:St):Ay PP (oW 5) [.v .nils] σ (di 0) σ:=by
 obtain⟨_,d,σ',kd,⟨rfl,rfl,rfl⟩,h⟩:=C8 (P:=PP) (im:=[]) (s:=.z) (o:=oW 5) (ds:=[.v .nils]) (σ:=σ) (K:=fun _ d' σ' kd=>d'=(di 0)/\σ'=σ/\kd=.pure) (by
  refine dq (by kernel_rfl:(Q (di 0)/\Q σ/\Q Kd.pure)=_) ?_
  exact⟨rfl,rfl,rfl⟩)
 exact h.op
theorem Ahg(q n j:Nat)(σ:St)(h:j<n):Ay PP (oW 8) [.arr q 0 n,di j] σ (.ptr q (0+Int.toNat (j:Int)*2)) σ:=by
 obtain⟨_,d,σ',kd,⟨rfl,rfl,rfl⟩,h⟩:=C8 (P:=PP) (im:=[]) (s:=.z) (o:=oW 8) (ds:=[.arr q 0 n,di j]) (σ:=σ) (K:=fun _ d' σ' kd=>d'=(.ptr q (0+Int.toNat (j:Int)*2))/\σ'=σ/\kd=.pure) (by
  refine dq (by kernel_rfl:(0<=(j:Int)/\(j:Int)<(n:Int)/\Q (bq q (0+Int.toNat (j:Int)*2))/\Q σ/\Q Kd.pure)=_) ?_
  exact⟨by omega,by omega,rfl,rfl,rfl⟩)
 exact h.op
theorem AjE(c:bd)(L:List D)(Cc:List D)(n:Nat)(hn:n<=1000)(hC:Cc.length=n*2):Ay PP (oW 7) [.gro 4 n 2,.v (.list [zE])] (BH c L [some Cc]) (.gro 5 (n+1) 2) (BH c L [none,some (Cc++[di 0,.v .nils])]):=by
 obtain⟨_,d,σ',kd,⟨rfl,rfl,rfl⟩,h⟩:=C8 (P:=PP) (im:=[]) (s:=.z) (o:=oW 7) (ds:=[.gro 4 n 2,.v (.list [zE])]) (σ:=(BH c L [some Cc])) (K:=fun _ d' σ' kd=>d'=(.gro 5 (n+1) 2)/\σ'=(BH c L [none,some (Cc++[di 0,.v .nils])])/\kd=.eff) (by
  refine dq (by kernel_rfl:(length Cc=n*2/\[zE]≠ []/\(∀(y:V),y∈ [zE]->V.size y=2)/\A9 (n+length (zE::nV)) 32/\bm 5 (n+length (zE::nV)) 2=bm 5 (n+1) 2/\bi [some [di 0,dn],some [di c.n,bo 2 0 c.az.length],some L,some [di c.n,bo 2 0 c.az.length],none,some (Cc++[di 0,dn])] []=BH c L [none,some (Cc++[di 0,dn])]/\Q Kd.eff)=_) ?_
  exact⟨hC,by simp,fun y hy=>by rw[Ii.1 hy];rfl,⟨by simp only[HV,HZ];omega,by simp only[HV,HZ];omega⟩,rfl,rfl,rfl⟩)
 exact h.op
theorem Ahh(c:bd)(L:List D):Ay PP (oW 7) [.v .nils,.v (.list [zE])] (BH c L []) (.gro 4 1 2) (BH c L [some [di 0,.v .nils]]):=by
 obtain⟨_,d,σ',kd,⟨rfl,rfl,rfl⟩,h⟩:=C8 (P:=PP) (im:=[]) (s:=.h .g .z) (o:=oW 7) (ds:=[.v .nils,.v (.list [zE])]) (σ:=(BH c L [])) (K:=fun _ d' σ' kd=>d'=(.gro 4 1 2)/\σ'=(BH c L [some [di 0,.v .nils]])/\kd=.eff) (by
  refine dq (by kernel_rfl:([zE]≠ []/\(∀(y:V),y∈ [zE]->V.size y=2)/\A9 1 32/\Q (bm 4 1 2)/\bi [some [di 0,dn],some [di c.n,bo 2 0 c.az.length],some L,some [di c.n,bo 2 0 c.az.length],some [di 0,dn]] []=BH c L [some [di 0,dn]]/\Q Kd.eff)=_) ?_
  exact⟨by simp,fun y hy=>by rw[Ii.1 hy];rfl,⟨by decide,by decide⟩,rfl,rfl,rfl⟩)
 exact h.op
theorem AjD(c:bd)(L:List D)(Cc:List D)(j:Nat)(x:Int)(hC:j+2<=Cc.length):Ay PP (oW 9) [.ptr 5 j,.v (lE x)] (BH c L [none,some Cc]) .undef (BH c L [none,some (Cc.take j++[di x,.v (.list [])]++Cc.drop (j+2))]):=by
 obtain⟨_,d,σ',kd,⟨rfl,rfl,rfl⟩,h⟩:=C8 (P:=PP) (im:=[]) (s:=.h .ww .z) (o:=oW 9) (ds:=[.ptr 5 j,.v (lE x)]) (σ:=(BH c L [none,some Cc])) (K:=fun _ d' σ' kd=>d'=.undef/\σ'=(BH c L [none,some (Cc.take j++[di x,.v (.list [])]++Cc.drop (j+2))])/\kd=.eff) (by
  refine dq (by kernel_rfl:(j+2<=length Cc/\Q bk/\bi [some [di 0,dn],some [di c.n,bo 2 0 c.az.length],some L,some [di c.n,bo 2 0 c.az.length],none,some (take j Cc++[di x,bt (ai [])]++List.drop (j+2) Cc)] []=BH c L [none,some (take j Cc++[di x,bt (ai [])]++List.drop (j+2) Cc)]/\Q Kd.eff)=_) ?_
  exact⟨hC,rfl,rfl,rfl⟩)
 exact h.op
theorem Ahf(c:bd)(L:List D)(x:Int):Ay PP (oW 9) [.ptr 4 0,.v (lE x)] (BH c L [some [di 0,.v .nils]]) .undef (BH c L [some [di x,.v (.list [])]]):=by
 obtain⟨_,d,σ',kd,⟨rfl,rfl,rfl⟩,h⟩:=C8 (P:=PP) (im:=[]) (s:=.z) (o:=oW 9) (ds:=[.ptr 4 0,.v (lE x)]) (σ:=(BH c L [some [di 0,.v .nils]])) (K:=fun _ d' σ' kd=>d'=.undef/\σ'=(BH c L [some [di x,.v (.list [])]])/\kd=.eff) (by
  refine dq (by kernel_rfl:(Q bk/\bi [some [di 0,dn],some [di c.n,bo 2 0 c.az.length],some L,some [di c.n,bo 2 0 c.az.length],some [di x,bt (ai [])]] []=BH c L [some [di x,bt (ai [])]]/\Q Kd.eff)=_) ?_
  exact⟨rfl,rfl,rfl⟩)
 exact h.op
theorem Ahl(c:bd)(L:List D)(p q j:Nat)(T:List (Option (List D)))(hp:p<L.length):Ay PP (oW 11) [.ptr 2 p,.gro q j 2] (BH c L T) .undef (BH c (L.set p (.gro q j 2)) T):=by
 obtain⟨_,d,σ',kd,⟨rfl,rfl,rfl⟩,h⟩:=C8 (P:=PP) (im:=[]) (s:=.w .z) (o:=oW 11) (ds:=[.ptr 2 p,.gro q j 2]) (σ:=(BH c L T)) (K:=fun _ d' σ' kd=>d'=.undef/\σ'=(BH c (L.set p (.gro q j 2)) T)/\kd=.eff) (by
  refine dq (by kernel_rfl:(p<length L/\Q bk/\bi (some [di 0,dn]::some [di c.n,bo 2 0 c.az.length]::some (List.set L p (bm q j 2))::some [di c.n,bo 2 0 c.az.length]::[]++T) []=BH c (List.set L p (bm q j 2)) T/\Q Kd.eff)=_) ?_
  exact⟨hp,rfl,rfl,rfl⟩)
 exact h.op
theorem Ahi(ds:List D)(σ:St):Ay PP (oW 6) ds σ (.v (.list [zE])) σ:=by
 refine AbI (fun g a=>?_) (AjF σ)
 have e:(oW 6).op.operands.toList=[.const (.agg #[.int .i64 0,.slice none 0 0])]:=by kernel_rfl
 rw[e]
 simp only[Iu,IP,Act.eval,Ar,Av,CF]
 refine⟨_,_,rfl,⟨[.int .i64 0,.slice none 0 0],?_,rfl⟩,rfl⟩
 simp only[repA,repC]
 exact⟨_,_,rfl,rfl,rfl,_,_,rfl,rfl,rfl,rfl⟩
theorem Sj{C:co->co->Prop}{R:List D->St->Prop}{ks:List KI}(c:bd)(p:Nat)(L:List D)(hp:p<L.length)(x:Int)(j:Nat)(g0:D)(T0 T1 T2:List (Option (List D)))(q1:Nat)(hq:4+T0.length<=q1)(ws:List Int)(kk:Int)
  (h5:∀τ,Ay PP (oW 5) [g0] τ (di j) τ) (h7:Ay PP (oW 7) [g0,.v (.list [zE])] (BH c (L.set p g0) T0) (.gro q1 (j+1) 2) (BH c (L.set p g0) T1))
  (h9:∀M,Ay PP (oW 9) [.ptr q1 (0+Int.toNat (j:Int)*2),.v (lE x)] (BH c M T1) .undef (BH c M T2))
  (hk:AI C PP R ks (b9 46 [(8,.ptr 0 0),(9,.ptr 3 0),(10,.ptr 2 p),(12,di x),(28,cy ws),(29,di ws.length),(30,di kk),(34,.ptr 2 p),(35,.ptr 2 p),(36,g0),(37,di x),(38,.v (lE x)),(39,di j),(40,.v (.list [zE])),(41,.gro q1 (j+1) 2),(42,.ptr q1 (0+Int.toNat (j:Int)*2)),(43,.ptr 2 p)]) (BH c (L.set p (.gro q1 (j+1) 2)) T2)):
  AI C PP R (.code (sub BE [1,1,1,1,1,0,1,0,0,1,1,0,0,1])::ks) (b9 46 [(8,.ptr 0 0),(9,.ptr 3 0),(10,.ptr 2 p),(12,di x),(28,cy ws),(29,di ws.length),(30,di kk)]) (BH c (L.set p g0) T0):=by
 have hx:sub BE [1,1,1,1,1,0,1,0,0,1,1,0,0,1]=.region 8 og true:=by kernel_rfl
 rw[hx]
 have h11:∀T,Ay PP (oW 11) [.ptr 2 p,.gro q1 (j+1) 2] (BH c (L.set p g0) T) .undef (BH c (L.set p (.gro q1 (j+1) 2)) T):=fun T=>by
  have:=Ahl c (L.set p g0) p q1 (j+1) T (by rw[length_set];exact hp)
  rwa[List.set_set] at this
 have h2:=AjI c (L.set p g0) p g0 T0 (by rw[getElem?_set_self hp])
 let sts:Bool->List St:=fun b=>match b with
  |false=>[BH c (L.set p g0) T0,BH c (L.set p g0) T1,BH c (L.set p (.gro q1 (j+1) 2)) T1]
  |true=>[iw,BH c (L.set p g0) T2,BH c (L.set p (.gro q1 (j+1) 2)) T2]
 have h8:∀τ,Ay PP (oW 8) [.gro q1 (j+1) 2,di j] τ (.ptr q1 (0+Int.toNat (j:Int)*2)) τ:=fun τ=>fy (.cons .gro (.cons (.same _) .nil)) (Ahg q1 (j+1) j τ (by omega))
 refine Lg mixed sts 9 (vals:=[.ptr 2 p,.ptr 2 p,g0,di x,.v (lE x),di j,.v (.list [zE]),.gro q1 (j+1) 2,.ptr q1 (0+Int.toNat (j:Int)*2),.undef,.ptr 2 p,.undef]) (j':=2) (σ':=BH c (L.set p (.gro q1 (j+1) 2)) T2) (effs:=[(false,none),(false,none),(false,some 0),(false,none),(false,none),(false,none),(false,none),(true,none),(false,none),(false,none),(false,none),(true,none)]) rfl (by rw[Co];rfl) ?_ (by kernel_rfl) hk
 rw[XP]
 have en:∀{a b:List D},a=b->G9 PP og sts 9 [] a 2 [] [] b 2:=fun h=>h▸ .nil
 have e:∀{a b:List D} {o:yw} {s s':St} {d:D},a=b->Ay PP o b s d s'->Ay PP o a s d s':=fun h k=>h▸k
 refine .quiet (d:=.ptr 2 p) (by rw[Co];decide) (by kernel_rfl) (fun b s _=>e (by kernel_rfl) (AjK p s)) ?_
 refine .quiet (d:=.ptr 2 p) (by rw[Co];decide) (by kernel_rfl) (fun b s _=>e (by kernel_rfl) (AjJ p s)) ?_
 refine .quietW (d:=g0) 0 (by rw[Co];decide) (by kernel_rfl) (fun b k s hk0 hs=>?_) ?_
 ·have hk0:k=0:=by omega
  subst hk0
  cases b with
  |false=>simp[sts] at hs;subst hs;exact e (by kernel_rfl) h2
  |true=>simp[sts] at hs;subst hs;exact ur
 refine .quiet (d:=di x) (by rw[Co];decide) (by kernel_rfl) (fun b s _=>e (by kernel_rfl) (AjH x s)) ?_
 refine .quiet (d:=.v (lE x)) (by rw[Co];decide) (by kernel_rfl) (fun b s _=>e (by kernel_rfl) (AjG x s)) ?_
 refine .quiet (d:=di j) (by rw[Co];decide) (by kernel_rfl) (fun b s _=>e (by kernel_rfl) (h5 s)) ?_
 refine .quiet (d:=.v (.list [zE])) (by rw[Co];decide) (by kernel_rfl) (fun b s _=>Ahi _ s) ?_
 refine .eff (d:=.gro q1 (j+1) 2) (by rw[Co];decide) (by kernel_rfl) (fun b s hs _=>?_) ?_
 ·cases b with
  |false=>simp[sts] at hs;subst hs;exact⟨_,rfl,e (by kernel_rfl) h7⟩
  |true=>simp[sts] at hs;subst hs;exact⟨_,rfl,ur⟩
 refine .quiet (d:=.ptr q1 (0+Int.toNat (j:Int)*2)) (by rw[Co];decide) (by kernel_rfl) (fun b s _=>e (by kernel_rfl) (h8 s)) ?_
 refine .free (d:=.undef) (by rw[Co];rfl) (by kernel_rfl) (fun k s hs=>?_) ?_
 ·match k,hs with
  |0,hs=>simp[sts] at hs;subst hs;exact⟨_,rfl,e (b:=[.ptr q1 (0+Int.toNat (j:Int)*2),.v (lE x)]) (by kernel_rfl) (AbH (by simp only[Ig,HV,HZ];omega))⟩
  |1,hs=>simp[sts] at hs;subst hs;exact⟨_,rfl,e (by kernel_rfl) (h9 _)⟩
  |2,hs=>simp[sts] at hs;subst hs;exact⟨_,rfl,e (by kernel_rfl) (h9 _)⟩
  |k+3,hs=>simp[sts] at hs
 refine .quiet (d:=.ptr 2 p) (by rw[Co];decide) (by kernel_rfl) (fun b s _=>e (by kernel_rfl) (Ahm p s)) ?_
 refine .eff (d:=.undef) (by rw[Co];decide) (by kernel_rfl) (fun b s hs _=>?_) (en (by kernel_rfl))
 cases b with
 |false=>simp[sts] at hs;subst hs;exact⟨_,rfl,e (by kernel_rfl) (h11 _)⟩
 |true=>simp[sts] at hs;subst hs;exact⟨_,rfl,e (by kernel_rfl) (h11 _)⟩
theorem Mh:∀(l:List bd) (i:Nat) (x:bd) (s:Int),l[i]?=G x->(Ad (l.map eV)).set (i*2) (di s)=Ad ((l.set i (.mk s x.az)).map eV)
 |[],_,_,_,h=>by simp at h
 |y::l,0,x,s,h=>by
  simp at h;subst h
  rw[AO,set_cons_zero,AO];rfl
 |y::l,i+1,x,s,h=>by
  have h':l[i]?=G x:=by simpa using h
  rw[AO,Jv,AO, ←Mh l i x s h',show(i+1)*2=i*2+2 by omega]
  rfl
theorem Qs:∀(l:List bd) (i:Nat) (x:bd) (ys:List bd),l[i]?=G x->(Ad (l.map eV)).set (i*2+1) (cx ys)=Ad ((l.set i (.mk x.n ys)).map eV)
 |[],_,_,_,h=>by simp at h
 |y::l,0,x,s,h=>by
  simp at h;subst h
  rw[AO,set_cons_zero,AO];rfl
 |y::l,i+1,x,s,h=>by
  have h':l[i]?=G x:=by simpa using h
  rw[AO,Jv,AO, ←Qs l i x s h',show(i+1)*2+1=(i*2+1)+2 by omega]
  rfl
theorem xp(ws:List Int):ws.map lE=(ws.map lf).map eV:=by
 rw[List.map_map]
 refine List.map_congr_left fun x _=>?_
 show lE x=eV (lf x)
 rw[AR];rfl
def BT(l:List bd)(s0 x:bd)(s:Int)(i:Nat)(ws:List Int):List bd:=(l.set 0 (.mk s s0.az)).set i (.mk x.n (ws.map lf))
theorem OR{e e1 e2:List D}{σ σ1 σ2:St}(h1:Cv e σ e1 σ1)(h2:Cv e1 σ1 e2 σ2):Cv e σ e2 σ2:=fun E g a w hf=>by
 obtain⟨g1,hf1⟩:=h1 E g a w hf
 exact h2 E g1 a w hf1
theorem K5{σ:St}{p q i sz:Nat}{cs:List D}{xs:List V}(hsz:0<sz)(hp:σ.H[p]?=G (G cs))(hq:σ.H[q]?=G (G (Ad xs)))(hpq:p≠q)(hi:cs[i]?=G (.gro q (I xs) sz))(hx:∀x∈xs,x.size=sz)(e:List D):
  Cv e σ e ⟨(σ.H.set q none).set p (G (cs.set i (.v (.list xs)))),σ.own⟩:=by
 have hpl:=(HT.1 hp).1
 have hil:=(HT.1 hi).1
 have h1:Cv e σ e ⟨σ.H.set p (G (cs.set i (.arr q 0 (I xs)))),σ.own⟩:=G1 (σ:=σ) (q:=p) (cs:=cs) (cs':=cs.set i (.arr q 0 (I xs))) hp (fun g us hr=>by
  obtain⟨u,hu,hru⟩:=BL hr hi
  have:=CZ hr i (d:=.arr q 0 (I xs)) (u:=u) (DS.rep .gro hru)
  rwa[Eb hu] at this) (fun h c hc=>by
  rcases IX hc with h2|h2
  ·exact h c h2
  ·rw[h2];rfl) e
 have h2:=FU (σ:=⟨σ.H.set p (G (cs.set i (.arr q 0 (I xs)))),σ.own⟩) (p:=p) (q:=q) (i:=i) (cs:=cs.set i (.arr q 0 (I xs))) (xs:=xs) hsz (by simp[hpl]) (by rw[getElem?_set_ne hpq];exact hq) hpq (by simp[hil]) hx e
 have h3:=OR h1 h2
 simp only[List.set_set] at h3
 rwa[List.set_comm _ _ hpq,List.set_set] at h3
abbrev ma(c:bd)(xs:List bd)(T:List (Option (List D))):St:=⟨[G [di 0,.v .nils],G [di c.n,.arr 2 0 (I c.az)],none,G [di c.n,cx xs]]++T,[]⟩
theorem TM(c:bd)(xs:List bd)(L:List D)(hL:L=Ad (xs.map eV))(hx:I xs=I c.az)(T:List (Option (List D)))(e:List D):Cv e (BH c L T) e (ma c xs T):=by
 have h:=FU (σ:=BH c L T) (p:=3) (q:=2) (i:=1) (sz:=2) (cs:=[di c.n,.arr 2 0 (I c.az)]) (xs:=xs.map eV) (by decide) rfl (by rw[hL];rfl) (by decide) (by rw[HP,hx];rfl) (Fx _) e
 exact h
theorem AcT(c:bd)(xs:List bd)(L:List D)(p:Nat)(hp:p<I L)(ws:List Int)(hL:L.set p (.v (.list (ws.map lE)))=Ad (xs.map eV))(hx:I xs=I c.az)(e:List D):
  Cv e (BH c (L.set p (.gro 4 (I ws) 2)) [G (Ad (ws.map lE))]) e (ma c xs [none]):=by
 have h:=K5 (σ:=BH c (L.set p (.gro 4 (I ws) 2)) [G (Ad (ws.map lE))]) (p:=2) (q:=4) (i:=p) (sz:=2) (cs:=L.set p (.gro 4 (I ws) 2)) (xs:=ws.map lE) (by decide) rfl rfl (by decide) (by rw[getElem?_set_self hp,HP]) (fun y hy=>by obtain⟨x,_,rfl⟩:=IA.1 hy;rfl) e
 rw[List.set_set] at h
 exact OR h (TM c xs _ hL hx [none] e)
theorem SF{ρ τ:Nat->Nat}:∀(L:List D) (p:Nat) (d:D),D.pls L=J->D.rens ρ τ (L.set p d)=L.set p (d.ren ρ τ)
 |[],_,_,_=>by simp[D.rens]
 |x::L,0,d,h=>by
  simp only[D.pls,HR] at h
  rw[set_cons_zero,D.rens,AS h.2,set_cons_zero]
 |x::L,p+1,d,h=>by
  simp only[D.pls,HR] at h
  rw[Jv,D.rens,SF L p d h.2,Ry x h.1,Jv]
theorem Ta{n:Nat}{ts:List Nat}:∀(L:List D) (p:Nat) (d:D),D.pls L=J->d.okN n ts=J->D.okNs n ts (L.set p d)=J
 |[],_,_,_,_=>by simp[D.okNs]
 |x::L,0,d,h,hd=>by
  simp only[D.pls,HR] at h
  rw[set_cons_zero,D.okNs,hd,B2 h.2];rfl
 |x::L,p+1,d,h,hd=>by
  simp only[D.pls,HR] at h
  rw[Jv,D.okNs,RA x h.1,Ta L p d h.2 hd];rfl
noncomputable abbrev pt(p:Nat)(ws:List Int)(k:Nat):List D:=b9 46 [(8,.ptr 0 0),(9,.ptr 3 0),(10,.ptr 2 p),(28,cy ws),(29,di (I ws)),(30,di k)]
theorem Ws{R:List D->St->Prop}{ks:List KI}(c:bd)(L F:List D)(hL:D.pls L=J)(hF:D.pls F=J)(p n:Nat)(ws:List Int)(k:Nat)
  (h:AI (CN 0) PP R ks (pt p ws k) (BH c (L.set p (.gro 4 n 2)) [G F])):AI (CN 0) PP R ks (pt p ws k) (BH c (L.set p (.gro 5 n 2)) [none,G F]):=by
 refine Dk (σ:=BH c (L.set p (.gro 5 n 2)) [none,G F]) (e':=pt p ws k) (H':=(BH c (L.set p (.gro 4 n 2)) [G F]).H) (m:=0) (fun _ _ h=>h.2) (fun i=>if i<4 then i else i+1) (I3 _) (fun i hi=>by omega) (fun i j _ _ h=>?_) (fun i cs hi=>?_) ?_ ?_ h
 ·have h:(if i<4 then i else i+1)=(if j<4 then j else j+1):=h
  split at h<;>split at h<;>omega
 ·match i,hi with
  |0,hi=>simp at hi;subst hi;exact⟨rfl,rfl⟩
  |1,hi=>simp at hi;subst hi;exact⟨rfl,rfl⟩
  |2,hi=>
   simp at hi;subst hi
   refine⟨?_,Ta L p _ hL rfl⟩
   rw[SF L p _ hL];rfl
  |3,hi=>simp at hi;subst hi;exact⟨rfl,rfl⟩
  |4,hi=>
   simp at hi;subst hi
   refine⟨?_,B2 hF⟩
   rw[AS hF];rfl
  |i+5,hi=>simp at hi
 ·simp[b9,D.okNs,D.okN]
 ·simp[b9,D.rens,D.ren]
theorem Py(d:D)(σ':St)(c:bd)(L:List D)(T:List (Option (List D)))(p:Nat)(ws:List Int)(x:Int)(k:Nat)(hk:k<=1000)(d36 d39 d41 d42:D)
  (h:Rn PP Hg 0 d σ' [kl BE [1,1,1,1,1,0,1,0,0],.blk 0,kc BE [1,1,1,1,1,1]] (pt p ws (k+1)) (BH c L T)):
  Rn PP Hg 0 d σ' [.blk 1,kc BE [1,1,1,1,1,0,1,0,0,1,1,1],kl BE [1,1,1,1,1,0,1,0,0],.blk 0,kc BE [1,1,1,1,1,1]] (b9 46 [(8,.ptr 0 0),(9,.ptr 3 0),(10,.ptr 2 p),(12,di x),(28,cy ws),(29,di (I ws)),(30,di k),(34,.ptr 2 p),(35,.ptr 2 p),(36,d36),(37,di x),(38,.v (lE x)),(39,d39),(40,.v (.list [zE])),(41,d41),(42,d42),(43,.ptr 2 p)]) (BH c L T):=by
 have h0:Rn PP Hg 0 d σ' ([.blk 1,kc BE [1,1,1,1,1,0,1,0,0,1,1,1],kl BE [1,1,1,1,1,0,1,0,0],.blk 0,kc BE [1,1,1,1,1,1]]++[]) (b9 46 [(8,.ptr 0 0),(9,.ptr 3 0),(10,.ptr 2 p),(12,di x),(28,cy ws),(29,di (I ws)),(30,di k)]) (BH c L T):=by
  refine OU mixed 46 [4] (.l [ke 8,ke 9,ke 10,ke 28,ke 29,ch 30 (di (k+1:Nat))]) ?_
  refine dq (by kernel_rfl:(di (yr yq ((k:Int)+1))=di (↑(k+1):Int)/\I0 Hg 0 d σ' [kl BE [1,1,1,1,1,0,1,0,0],bh 0,kc BE [1,1,1,1,1,1]] (b9 46 [(8,bq 0 0),(9,bq 3 0),(10,bq 2 p),(28,cy ws),(29,di (I ws:Int)),(30,di (↑(k+1):Int))]) (BH c L T))=_) ?_
  exact⟨As,⟨h⟩⟩
 refine LG (L:=[(8,.ptr 0 0),(9,.ptr 3 0),(10,.ptr 2 p),(12,di x),(28,cy ws),(29,di (I ws)),(30,di k)]) (L2:=[(34,.ptr 2 p),(35,.ptr 2 p),(36,d36),(37,di x),(38,.v (lE x)),(39,d39),(40,.v (.list [zE])),(41,d41),(42,d42),(43,.ptr 2 p)]) (fun q hq=>?_) h0
 simp only[I8,List.not_mem_nil,or_false] at hq
 rcases hq with rfl|rfl|rfl|rfl|rfl|rfl|rfl|rfl|rfl|rfl<;>simp[b9]
theorem RM(l:List Int):I (Ad (l.map lE))=I l*2:=by rw[xp,BC,HP]
theorem Wt(c:bd)(xs:List bd)(L:List D)(hpl:D.pls L=J)(p:Nat)(hp:p<I L)(ws:List Int)(hw:I ws<=900)(hL:L.set p (.v (.list (ws.map lE)))=Ad (xs.map eV))(hx:I xs=I c.az)(n:Nat):∀k:Nat,I ws- (k+1)=n->k<I ws->
  Rn PP Hg 0 (dV (.mk c.n xs)) bf ([kl BE [1,1,1,1,1,0,1,0,0],.blk 0,kc BE [1,1,1,1,1,1]]++[]) (b9 46 [(8,.ptr 0 0),(9,.ptr 3 0),(10,.ptr 2 p),(28,cy ws),(29,di (I ws)),(30,di (k+1:Nat))]) (BH c (L.set p (.gro 4 (k+1) 2)) [G (Ad ((ws.take (k+1)).map lE))]):=by
 induction n with
 |zero=>
  intro k hn hk
  refine lv 46 [4] (.f<|.h (.q 10 0)<|.h (.cs (ma c xs [none])) .r) (Y ((↑(k+1):Int)<(I ws:Int))=O/\(∀(e:List D) (E:co) (g:Gh) (a:Act) (w:yy),FI E g (bi [G [di 0,dn],G [di c.n,bo 2 0 (I c.az)],G (List.set L p (bm 4 (k+1) 2)),G [di c.n,bo 2 0 (I c.az)],G (Ad (U lE (take (k+1) ws)))] []) e a w->∃g',FI E g' (ma c xs [none]) e a w)/\bt (ab [vi c.n,ai (U eV xs)])=dV (bd.mk c.n xs)) ?_
  have e:k+1=I ws:=by omega
  rw[e,Iw (HX _)]
  exact⟨yo,fun e=>AcT c xs L p hp ws hL hx e,rfl⟩
 |succ n ih=>
  intro k hn hk
  obtain⟨x,hx1⟩:=yi (show k+1<I ws by omega)
  refine lv 46 [4] (.t<|.x (vi x)<|.h (.q 7 2)<|.h (.s [ke 8,ke 9,ke 10,ke 28,ke 29,ke 30,ke 33]) .z) (Y ((↑(k+1):Int)<(I ws:Int))=J/\0<=(↑(k+1):Int)/\(U vi ws)[Z (↑(k+1):Int)]?=G (vi x)/\Nv.It (Cp (CN 0) PP (fun env σ1=>AL PP Hg env σ1 (dV (bd.mk c.n xs)) bf) [kc BE [1,1,1,1,1,0,1,0,0,1,1,0,0,1],bh 1,kc BE [1,1,1,1,1,0,1,0,0,1,1,1],kl BE [1,1,1,1,1,0,1,0,0],bh 0,kc BE [1,1,1,1,1,1]] (De (sub BE [1,1,1,1,1,0,1,0,0,1,1,0,0,0])) (W 2 (De (sub BE [1,1,1,1,1,0,1,0,0,1,1,0,0,0])).toList) (b9 46 [(8,bq 0 0),(9,bq 3 0),(10,bq 2 p),(28,cy ws),(29,di (I ws:Int)),(30,di (↑(k+1):Int)),(33,di x)]) (BH c (List.set L p (bm 4 (k+1) 2)) [G (Ad (U lE (take (k+1) ws)))]))) ⟨yp,by omega,A3 hx1,⟨?_⟩⟩
  refine Cb (ks:=[]) (T:=[kc BE [1,1,1,1,1,0,1,0,0,1,1,0,0,1],.blk 1,kc BE [1,1,1,1,1,0,1,0,0,1,1,1],kl BE [1,1,1,1,1,0,1,0,0],.blk 0,kc BE [1,1,1,1,1,1]]) mixed (CV 0) 0 (fun _ _ h=>h.2) 46 [4] 7 2 (.l [ke 8,ke 9,ke 10,ch 12 (di x),ke 28,ke 29,ke 30]) ?_
  refine dq (by kernel_rfl:(Q (di x)/\I0 Hg 0 (dV (bd.mk c.n xs)) bf [kc BE [1,1,1,1,1,0,1,0,0,1,1,0,0,1],bh 1,kc BE [1,1,1,1,1,0,1,0,0,1,1,1],kl BE [1,1,1,1,1,0,1,0,0],bh 0,kc BE [1,1,1,1,1,1]] (b9 46 [(8,bq 0 0),(9,bq 3 0),(10,bq 2 p),(12,di x),(28,cy ws),(29,di (I ws:Int)),(30,di (↑(k+1):Int))]) (BH c (List.set L p (bm 4 (k+1) 2)) [G (Ad (U lE (take (k+1) ws)))]))=_) ?_
  have hk1:=(HT.1 hx1).1
  have ht:(ws.take (k+1+1)).map lE=(ws.take (k+1)).map lE++[lE x]:=by rw[Jn (i:=k+1),hx1];simp
  have hfl:I (Ad ((ws.take (k+1)).map lE))=(k+1)*2:=by rw[RM,Iy];omega
  have hih:=ih (k+1) (by omega) hk1
  have hF:(Ad ((ws.take (k+1)).map lE)++[di 0,.v .nils]).take (0+Z ((k+1:Nat):Int)*2)++[di x,.v (.list [])]++(Ad ((ws.take (k+1)).map lE)++[di 0,.v .nils]).drop (0+Z ((k+1:Nat):Int)*2+2)=Ad ((ws.take (k+1+1)).map lE):=by
   rw[show 0+Z ((k+1:Nat):Int)*2=(k+1)*2 by omega,List.take_left' hfl,Im (by rw[Ig,hfl];simp),IG,ht]
   simp only[Ad,List.flatMap_append,Jq];rfl
  refine⟨rfl,⟨Sj c p L hp x (k+1) (.gro 4 (k+1) 2) [G (Ad ((ws.take (k+1)).map lE))] _ _ 5 (by simp) ws (k+1:Nat) (fun τ=>fy (.cons .gro .nil) (Ahk 4 (k+1) τ)) (AjE c _ _ (k+1) (by omega) hfl) (fun M=>AjD c M _ _ x (by rw[Ig,hfl];simp only[HV,HZ];omega)) ?_⟩⟩
  refine Py _ _ c _ _ p ws x (k+1) (by omega) _ _ _ _ ?_
  rw[hF]
  exact Ws c L _ hpl (A5 _) p (k+1+1) ws (k+1+1) hih
theorem V4{σ:St}{q i:Nat}{cs:List D}(hq:σ.H[q]?=G (G cs))(hi:cs[i]?=G (.v .nils))(e:List D):Cv e σ e ⟨σ.H.set q (G (cs.set i (.v (.list [])))),σ.own⟩:=
 G1 (σ:=σ) (q:=q) (cs:=cs) (cs':=cs.set i (.v (.list []))) hq (fun g us hr=>by
  obtain⟨u,hu,hru⟩:=BL hr hi
  have:=CZ hr i (d:=.v (.list [])) (u:=u) (Gq hru)
  rwa[Eb hu] at this) (fun h c hc=>by
  rcases IX hc with h2|h2
  ·exact h c h2
  ·rw[h2];rfl) e
theorem Ra{l:List bd}{s0 x:bd}{k:Nat}(h0:l[0]?=G s0)(hx:l[1+k]?=G x)(s:Int)(ws:List Int):
  ((Ad (l.map eV)).set 0 (di s)).set ((1+k)*2+1) (.v (.list (ws.map lE)))=Ad ((BT l s0 x s (1+k) ws).map eV):=by
 have h1:=Mh l 0 s0 s h0
 rw[Nat.zero_mul] at h1
 rw[h1,xp]
 exact Qs _ (1+k) x _ (by rw[getElem?_set_ne (by omega)];exact hx)
theorem Yb(c:bd)(hn:c.az≠ [])(hc:c.size<=1000){o:yw}{cl:Call}{fo:x5}(ho:o.op=.call cl)(hc2:cl.callee=.value fo):Ay PP o [.v (.fn 142 [] []),dV c] ⟨[G [di 0,.v .nils]],[]⟩ (.dagg [di c.n,.arr 2 0 (I c.az)]) ⟨[G [di 0,.v .nils],G [di c.n,.arr 2 0 (I c.az)],G (Ad (c.az.map eV))],[]⟩:=by
 have h:=B7 (σ:=⟨[G [di 0,.v .nils]],[]⟩) ho hc2 (fD:=.v (.fn 142 [] [])) rfl (ds:=[dV c]) [] id (Ze c hn (by omega)) (.cons (.ren (dc:=dV c) rfl) .nil) .nil (by simp) rfl (by simp) (by simp) (by simp[D.okN,D.okNs]) (by simp[cp,D.okN,D.okNs,Az])
 have e1:D.rens (dv 1 []) id (Ad (c.az.map eV))=Ad (c.az.map eV):=AS (A5 _)
 simpa[Dp,CM,Ge,D.ren,D.rens,dv,e1] using h
theorem Lz(c:bd)(hc:c.size<=1000)(s0 x:bd)(k:Nat)(h0:c.az[0]?=G s0)(hx:c.az[1+k]?=G x)(s:Int)(ws:List Int)(hw:I ws<=900):
  F0 74 [dV c,di s,di k,cy ws] (dV (.mk c.n (BT c.az s0 x s (1+k) ws))):=by
 have hk:=(HT.1 hx).1
 have hkl:=bd.length_le c.az
 have hks:=c.size_eq
 have hww:yq.wrap (1+(k:Int))=((1+k:Nat):Int):=by rw[A2];omega
 have hfl:I (Ad (c.az.map eV))=I c.az*2:=BC _
 have hp0:Nat.add (0+Z ((1+k:Nat):Int)*2) 1=(1+k)*2+1:=by show 0+Z ((1+k:Nat):Int)*2+1=_;omega
 have hne:c.az≠ []:=by intro e;rw[e] at h0;simp at h0
 have hxl:I (BT c.az s0 x s (1+k) ws)=I c.az:=by simp[BT]
 have hcl:=Ra h0 hx s ws
 have hw0:0<I c.az:=by omega
 cases ws with
 |nil=>
  refine sv Hg 46 [4] (.h (.oc (.dagg [di c.n,.arr 2 0 (I c.az)]) ⟨[G [di 0,.v .nils],G [di c.n,.arr 2 0 (I c.az)],G (Ad (c.az.map eV))],[]⟩)<|.h (.q 2 5)<|.w<|.h (.q 4 2)<|.w<|.n<|.f<|.h (.q 10 0)<|.h (.cs (ma c (BT c.az s0 x s (1+k) []) [])) .r) ((∀(o:yw) (c_1:Call) (fo:x5),o.op=Op.call c_1->c_1.callee=Callee.value fo->Ay PP o [bt (bw 142 [] []),dV c] (bi [G [di 0,dn]] []) (bj [di c.n,bo 2 0 (I c.az)]) (bi [G [di 0,dn],G [di c.n,bo 2 0 (I c.az)],G (Ad (U eV c.az))] []))/\iz 0<=0/\0<(I c.az:Int)/\0<I (Ad (U eV c.az))/\0<=yr yq (1+(k:Int))/\yr yq (1+(k:Int))<(I c.az:Int)/\Nat.add (0+Z (yr yq (1+(k:Int)))*2) 1<I (List.set (Ad (U eV c.az)) (Nat.add (0+Z 0*2) 0) (di s))/\Y (0<(I (U vi []):Int))=O/\(∀(e:List D) (E:co) (g:Gh) (a:Act) (w:yy),FI E g (bi [G [di 0,dn],G [di c.n,bo 2 0 (I c.az)],G (List.set (List.set (Ad (U eV c.az)) (Nat.add (0+Z 0*2) 0) (di s)) (Nat.add (0+Z (yr yq (1+(k:Int)))*2) 1) (ig [dV c,di s,di (k:Int),cy [],bt (bz (Au c)),bk,bk,bk,bq (I bf.H) 0,bq (I (bi [G [di 0,dn],G [di c.n,bo 2 0 (I c.az)],G (Ad (U eV c.az))] []).H) 0,bq 2 (Nat.add (0+Z (yr yq (1+(k:Int)))*2) 1),bk,bk,dV c,bj [di c.n,bo 2 0 (I c.az)],bq (I (bi [G [di 0,dn],G [di c.n,bo 2 0 (I c.az)],G (Ad (U eV c.az))] []).H) (Nat.add 0 1),bo 2 0 (I c.az),di s,bq 2 (0+Z 0*2),bq 2 (Nat.add (0+Z 0*2) 0),bq (I (bi [G [di 0,dn],G [di c.n,bo 2 0 (I c.az)],G (Ad (U eV c.az))] []).H) (Nat.add 0 1),bo 2 0 (I c.az),di (k:Int),bt (aa yq (yr yq (1+(k:Int)))),bq 2 (0+Z (yr yq (1+(k:Int)))*2),bq 2 (Nat.add (0+Z (yr yq (1+(k:Int)))*2) 1),bq 2 (Nat.add (0+Z (yr yq (1+(k:Int)))*2) 1),bq 2 (Nat.add (0+Z (yr yq (1+(k:Int)))*2) 1),bk,bk,bk,bk,bk,bk,bk,bk,bk,bk,bk,bk,bk,bk,bk,bk,bk,bk] (Operand.const (Value.slice none 0 0)))),G [di c.n,bo 2 0 (I c.az)]] []) e a w->∃g',FI E g' (ma c (BT c.az s0 x s (1+k) []) []) e a w)/\bt (ab [vi c.n,ai (U eV (BT c.az s0 x s (1+k) []))])=dV (bd.mk c.n (BT c.az s0 x s (1+k) []))) ?_
  rw[hww,hp0]
  refine⟨fun o cl fo ho hc2=>Yb c hne hc ho hc2,Iv _,by omega,by rw[hfl];omega,by omega,by omega,by rw[length_set,hfl];omega,rfl,fun e=>?_,rfl⟩
  refine OR (V4 (σ:=BH c (((Ad (c.az.map eV)).set 0 (di s)).set ((1+k)*2+1) (.v .nils)) []) (q:=2) (i:=(1+k)*2+1) rfl (by rw[getElem?_set_self (by rw[length_set,hfl];omega)]) e) ?_
  rw[List.set_set]
  exact TM c _ _ hcl hxl [] e
 |cons y ws=>
  refine sv Hg 46 [4] (.h (.oc (.dagg [di c.n,.arr 2 0 (I c.az)]) ⟨[G [di 0,.v .nils],G [di c.n,.arr 2 0 (I c.az)],G (Ad (c.az.map eV))],[]⟩)<|.h (.q 2 5)<|.w<|.h (.q 4 2)<|.w<|.n<|.t<|.x (vi y)<|.h (.q 7 2)<|.h (.s [ke 8,ke 9,ke 10,ke 28,ke 29,ke 30,ke 33]) .z) ((∀(o:yw) (c_1:Call) (fo:x5),o.op=Op.call c_1->c_1.callee=Callee.value fo->Ay PP o [bt (bw 142 [] []),dV c] (bi [G [di 0,dn]] []) (bj [di c.n,bo 2 0 (I c.az)]) (bi [G [di 0,dn],G [di c.n,bo 2 0 (I c.az)],G (Ad (U eV c.az))] []))/\iz 0<=0/\0<(I c.az:Int)/\0<I (Ad (U eV c.az))/\0<=yr yq (1+(k:Int))/\yr yq (1+(k:Int))<(I c.az:Int)/\Nat.add (0+Z (yr yq (1+(k:Int)))*2) 1<I (List.set (Ad (U eV c.az)) (Nat.add (0+Z 0*2) 0) (di s))/\Y (0<(I (U vi (y::ws)):Int))=J/\iz 0<=0/\Q (G (vi y))/\Nv.It (Cp (CN (I bf.H)) PP (fun env σ1=>AL PP Hg env σ1 (dV (bd.mk c.n (BT c.az s0 x s (1+k) (y::ws)))) bf) [kc BE [1,1,1,1,1,0,1,0,0,1,1,0,0,1],bh 1,kc BE [1,1,1,1,1,0,1,0,0,1,1,1],kl BE [1,1,1,1,1,0,1,0,0],bh 0,kc BE [1,1,1,1,1,1]] (De (sub BE [1,1,1,1,1,0,1,0,0,1,1,0,0,0])) (W 2 (De (sub BE [1,1,1,1,1,0,1,0,0,1,1,0,0,0])).toList) (b9 46 [(8,bq 0 0),(9,bq 3 0),(10,bq 2 (Nat.add (0+Z (yr yq (1+(k:Int)))*2) 1)),(28,cy (y::ws)),(29,di (I (U vi (y::ws)):Int)),(30,di 0),(33,di y)]) (bi [G [di 0,dn],G [di c.n,bo 2 0 (I c.az)],G (List.set (List.set (Ad (U eV c.az)) (Nat.add (0+Z 0*2) 0) (di s)) (Nat.add (0+Z (yr yq (1+(k:Int)))*2) 1) (dn)),G [di c.n,bo 2 0 (I c.az)]] []))) ?_
  rw[hww,hp0]
  refine⟨fun o cl fo ho hc2=>Yb c hne hc ho hc2,Iv _,by omega,by rw[hfl];omega,by omega,by omega,by rw[length_set,hfl];omega,HS (by simp only[HP,HV];omega),Iv _,rfl,⟨?_⟩⟩
  obtain⟨L,hL⟩:∃L,L=(Ad (c.az.map eV)).set 0 (di s):=⟨_,rfl⟩
  rw[←hL] at hcl
  have hpl:D.pls L=J:=by
   rw[hL]
   have h1:=Mh c.az 0 s0 s h0
   rw[Nat.zero_mul] at h1
   rw[h1];exact A5 _
  have hpL:(1+k)*2+1<I L:=by rw[hL,length_set,hfl];omega
  have hlp:=Wt c _ L hpl ((1+k)*2+1) hpL (y::ws) hw hcl hxl _ 0 rfl (by simp)
  have hst:bi [G [di 0,bt bv],G [di c.n,bo 2 0 (I c.az)],G (((Ad (c.az.map eV)).set (Nat.add (0+Z 0*2) 0) (di s)).set ((1+k)*2+1) (bt bv)),G [di c.n,bo 2 0 (I c.az)]] []=BH c (L.set ((1+k)*2+1) (.v .nils)) []:=by rw[hL];rfl
  rw[hst]
  refine Cb (ks:=[]) (T:=[kc BE [1,1,1,1,1,0,1,0,0,1,1,0,0,1],.blk 1,kc BE [1,1,1,1,1,0,1,0,0,1,1,1],kl BE [1,1,1,1,1,0,1,0,0],.blk 0,kc BE [1,1,1,1,1,1]]) mixed (CV 0) 0 (fun _ _ h=>h.2) 46 [4] 7 2 (.l [ke 8,ke 9,ke 10,ch 12 (di y),ke 28,ch 29 (di (I (y::ws))),ch 30 (di (0:Nat))]) ?_
  refine dq (by kernel_rfl:(Q (di y)/\di (I (U vi (y::ws)):Int)=di (I (y::ws):Int)/\di 0=di (↑0:Int)/\I0 Hg 0 (dV (bd.mk c.n (BT c.az s0 x s (1+k) (y::ws)))) bf [kc BE [1,1,1,1,1,0,1,0,0,1,1,0,0,1],bh 1,kc BE [1,1,1,1,1,0,1,0,0,1,1,1],kl BE [1,1,1,1,1,0,1,0,0],bh 0,kc BE [1,1,1,1,1,1]] (b9 46 [(8,bq 0 0),(9,bq 3 0),(10,bq 2 ((1+k)*2+1)),(12,di y),(28,bt (cz (y::ws))),(29,di (I (y::ws):Int)),(30,di (↑0:Int))]) (BH c (List.set L ((1+k)*2+1) (dn)) []))=_) ?_
  refine⟨rfl,by rw[HP],rfl,⟨Sj c ((1+k)*2+1) L hpL y 0 (.v .nils) [] [G [di 0,.v .nils]] [G [di y,.v (.list [])]] 4 (by simp) (y::ws) (0:Nat) (fun τ=>Ahj τ) (Ahh c _) (fun M=>Ahf c M y) ?_⟩⟩
  exact Py _ _ c _ _ ((1+k)*2+1) (y::ws) y 0 (by omega) _ _ _ _ hlp
noncomputable abbrev V0:=Tryz.f51
theorem LE:∀(l:List bd) (i:Nat) (x y:bd),l[i]?=G x->bd.sizes (l.set i y)+x.size=bd.sizes l+y.size
 |[],_,_,_,h=>by simp at h
 |z::l,0,x,y,h=>by
  simp at h;subst h
  rw[set_cons_zero,bd.sizes,bd.sizes];omega
 |z::l,i+1,x,y,h=>by
  have:=LE l i x y (by simpa using h)
  rw[Jv,bd.sizes,bd.sizes];omega
theorem Abf(ws:List Int):bd.sizes (ws.map lf)=I ws:=JA ws
theorem JQ{l:List bd}{s0 x:bd}{k:Nat}(h0:l[0]?=G s0)(hx:l[1+k]?=G x)(s:Int)(ws:List Int)(n:Int):(bd.mk n (BT l s0 x s (1+k) ws)).size<=1+bd.sizes l+I ws+1:=by
 have h1:=LE l 0 s0 (.mk s s0.az) h0
 have h2:=LE (l.set 0 (.mk s s0.az)) (1+k) x (.mk x.n (ws.map lf)) (by rw[getElem?_set_ne (by omega)];exact hx)
 have h3:(bd.mk n (BT l s0 x s (1+k) ws)).size=1+bd.sizes ((l.set 0 (.mk s s0.az)).set (1+k) (.mk x.n (ws.map lf))):=by rw[bd.size];rfl
 have h4:(bd.mk s s0.az).size=1+bd.sizes s0.az:=by rw[bd.size]
 have h5:(bd.mk x.n (ws.map lf)).size=1+bd.sizes (ws.map lf):=by rw[bd.size]
 have h6:=s0.size_eq
 have h7:=Abf ws
 have h8:=x.size_pos
 omega
abbrev dt:bd:=.mk 0 []
def HM(c:bd)(k:Nat)(s:Int)(w:List Int):bd:=.mk c.n (BT c.az (c.az.getD 0 dt) (c.az.getD (1+k) dt) s (1+k) w)
def sx(r:cq)(c:bd):Bool:=((c.az.getD 0 dt).n==r.aj)&&((r.act !=2)||(BA (c.az.getD (1+r.chan.toNat) dt)).head?==G r.letter)
def QS(t:bc)(r:cq)(c:bd):bd×Int:=
 if Aw t c=J then
  if sx r c=J then
   if (r.act==1)=J then
    if ((I (BA (c.az.getD (1+r.chan.toNat) dt)):Int)==12)=J then(dt,1) else(HM c r.chan.toNat r.to (BA (c.az.getD (1+r.chan.toNat) dt)++[r.letter]),0)
   else if (r.act==2)=J then(HM c r.chan.toNat r.to ((BA (c.az.getD (1+r.chan.toNat) dt)).drop 1),0) else(HM c r.chan.toNat r.to (BA (c.az.getD (1+r.chan.toNat) dt)),0)
  else(dt,18)
 else(dt,17)
theorem QE{c s0 x:bd}{k:Nat}(h0:c.az[0]?=G s0)(hx:c.az[1+k]?=G x)(s:Int)(w:List Int):HM c k s w=.mk c.n (BT c.az s0 x s (1+k) w):=by
 simp only[HM,HY,h0,hx,Jy]
theorem TX(m:ba)(t:bc)(hm:ip m t)(i:Nat)(r:cq)(hi:m.av[i]?=G r)(c:bd)(hs:c.size<=1000):(QS t r c).1.size<=1000/\F0 51 [Ax m,di i,dV c] (dP (QS t r c)):=by
 have hir:=(HT.1 hi).1
 have hat:=Adu m t hm i hir c (by omega)
 have hfew:=hm.few
 rw[lx] at hat
 unfold QS
 by_cases hv:Aw t c=J
 ·rw[Io hv] at hat
  rw[Io hv]
  have hsh:=hm.shape c hv
  have hrc:=hm.rule r (HW hi)
  obtain⟨k,hk⟩:∃k:Nat,r.chan=k:=⟨r.chan.toNat,by omega⟩
  obtain⟨s0,h0⟩:∃x,c.az[0]?=G x:=⟨_,HQ (by rw[hsh.len];omega)⟩
  obtain⟨x,hx⟩:∃x,c.az[1+k]?=G x:=⟨_,HQ (by rw[hsh.len];omega)⟩
  have hx12:=hsh.word k x hx
  have hkl:I c.az<=1000000:=by rw[hsh.len];omega
  have hen:=Z1 r c k hk s0 x h0 hx hkl (by omega)
  have hct:=Np c k x hx hkl (by omega)
  have hwi:=fun ws hw=>Lz c hs s0 x k h0 hx r.to ws hw
  have hsz:=fun ws=>JQ h0 hx r.to ws c.n
  have hcs:=c.size_eq
  have h128:=hsh.size
  rw[←hk] at hct hwi
  have hnl:I (BA x)<=12:=by rw[HP];exact hx12
  have ek:r.chan.toNat=k:=by rw[hk];rfl
  have e0:c.az.getD 0 dt=s0:=by rw[HY,h0];rfl
  have ex:c.az.getD (1+k) dt=x:=by rw[HY,hx];rfl
  unfold sx
  rw[ek,e0,ex]
  simp only[QE h0 hx]
  cases hb:((s0.n==r.aj)&&((r.act !=2)||(BA x).head?==G r.letter)) with
  |false=>
   rw[hb] at hen
   rw[Ij (by decide)]
   refine⟨by decide,?_⟩
   exact sv V0 57 [3,5] (.c (di 0)<|.k<|.x (AD r)<|.c (db O) .r) (_/\0<=(i:Int)/\(U AD m.av)[Z (i:Int)]?=G (AD r)/\_/\bl [bt (ab [vi 0,ai []]),di 18]=dP (dt,18)) ⟨hat,by omega,A3 hi,hen,rfl⟩
  |true=>
   rw[hb] at hen
   rw[Io rfl]
   by_cases h1:(r.act==1)=J
   ·rw[Io h1]
    by_cases h2:((I (BA x):Int)==12)=J
    ·rw[Io h2]
     refine⟨by decide,?_⟩
     exact sv V0 57 [3,5] (.c (di 0)<|.k<|.x (AD r)<|.c (db J)<|.k<|.h (.ck 1 1 1 ((BA x).map vi))<|.t<|.t .r) (_/\0<=(i:Int)/\(U AD m.av)[Z (i:Int)]?=G (AD r)/\_/\_/\_/\((I (U vi (BA x)):Int)==12)=J/\bl [bt (ab [vi 0,ai []]),di 1]=dP (dt,1)) ⟨hat,by omega,A3 hi,hen,hct,h1,by rw[HP];exact h2,rfl⟩
    ·rw[Ij h2]
     refine⟨?_,?_⟩
     ·have:=hsz (BA x++[r.letter])
      simp only[Ig,HV,HZ] at this
      show(bd.mk c.n (BT c.az s0 x r.to (1+k) (BA x++[r.letter]))).size<=1000
      omega
     ·refine sv V0 57 [3,5] (.c (di 0)<|.k<|.x (AD r)<|.c (db J)<|.k<|.h (.ck 1 1 1 ((BA x).map vi))<|.t<|.f<|.c (dV (.mk c.n (BT c.az s0 x r.to (1+k) (BA x++[r.letter])))) .r) (F0 101 [Ax m,di (i:Int),dV c] (di 0)/\0<=(i:Int)/\(U AD m.av)[Z (i:Int)]?=G (AD r)/\F0 102 [AZ r,dV c] (db J)/\Aa PP 70 [dV c,di r.chan] (bi [] []) (br 1 (U vi (BA x))) (bi [] [(1,1,U vi (BA x))])/\(r.act==1)=J/\((I (U vi (BA x)):Int)==12)=O/\Q (U vi (BA x))/\A9 (I (U vi (BA x))+I (vi r.letter::nV)) 8/\F0 74 [dV c,di r.to,di r.chan,bt (ai (U vi (BA x)++[vi r.letter]))] (dV (bd.mk c.n (BT c.az s0 x r.to (1+k) (BA x++[r.letter]))))/\bl [bt (ab [vi (bd.n (bd.mk c.n (BT c.az s0 x r.to (1+k) (BA x++[r.letter])))),ai (U eV (bd.az (bd.mk c.n (BT c.az s0 x r.to (1+k) (BA x++[r.letter])))))]),di 0]=dP (bd.mk c.n (BT c.az s0 x r.to (1+k) (BA x++[r.letter])),0)) ?_
      have hw:=hwi (BA x++[r.letter]) (by simp only[Ig,HV,HZ];omega)
      have e:(BA x).map vi++[vi r.letter]=(BA x++[r.letter]).map vi:=by simp
      rw[e]
      exact⟨hat,by omega,A3 hi,hen,hct,h1,by rw[HP];exact Ic h2,rfl,⟨by simp only[HP,HV,HZ] at*;omega,by simp only[HP,HV,HZ] at*;omega⟩,hw,rfl⟩
   ·rw[Ij h1]
    by_cases h2:(r.act==2)=J
    ·rw[Io h2]
     have hn:1<=I (BA x):=by
      cases hn:BA x with
      |nil=>rw[hn] at hb;simp_all
      |cons y ys=>simp
     obtain⟨W,hW⟩:∃W,W=BA x:=⟨_,rfl⟩
     rw[←hW] at hct hn hnl⊢
     refine⟨?_,?_⟩
     ·have:=hsz (W.drop 1)
      rw[IY] at this
      show(bd.mk c.n (BT c.az s0 x r.to (1+k) (W.drop 1))).size<=1000
      omega
     ·refine sv V0 57 [3,5] (.c (di 0)<|.k<|.x (AD r)<|.c (db J)<|.k<|.h (.ck 1 1 1 (W.map vi))<|.f<|.t<|.c (dV (.mk c.n (BT c.az s0 x r.to (1+k) (W.drop 1)))) .r) (F0 101 [Ax m,di (i:Int),dV c] (di 0)/\0<=(i:Int)/\(U AD m.av)[Z (i:Int)]?=G (AD r)/\F0 102 [AZ r,dV c] (db J)/\Aa PP 70 [dV c,di r.chan] (bi [] []) (br 1 (U vi W)) (bi [] [(1,1,U vi W)])/\(r.act==1)=O/\(r.act==2)=J/\(∀(x:V),x∈U vi W->V.size x=1)/\0<=(1:Int)/\(1:Int)<=(I (U vi W):Int)/\F0 74 [dV c,di r.to,di r.chan,bt (ai (List.drop (Z ((1:Int))) (take (I (U vi W)) (U vi W))))] (dV (bd.mk c.n (BT c.az s0 x r.to (1+k) (List.drop 1 W))))/\bl [bt (ab [vi (bd.n (bd.mk c.n (BT c.az s0 x r.to (1+k) (List.drop 1 W)))),ai (U eV (bd.az (bd.mk c.n (BT c.az s0 x r.to (1+k) (List.drop 1 W)))))]),di 0]=dP (bd.mk c.n (BT c.az s0 x r.to (1+k) (List.drop 1 W)),0)) ?_
      have e:List.drop (Z (1:Int)) (take (I (W.map vi)) (W.map vi))=(W.drop 1).map vi:=by rw[Iw (HX _),List.map_drop];rfl
      rw[e]
      exact⟨hat,by omega,A3 hi,hen,hct,Ic h1,h2,fun y hy=>by obtain⟨z,_,rfl⟩:=IA.1 hy;rfl,by omega,by rw[HP];omega,hwi (W.drop 1) (by rw[IY];omega),rfl⟩
    ·rw[Ij h2]
     refine⟨?_,?_⟩
     ·have:=hsz (BA x)
      show(bd.mk c.n (BT c.az s0 x r.to (1+k) (BA x))).size<=1000
      omega
     ·exact sv V0 57 [3,5] (.c (di 0)<|.k<|.x (AD r)<|.c (db J)<|.k<|.h (.ck 1 1 1 ((BA x).map vi))<|.f<|.f<|.c (dV (.mk c.n (BT c.az s0 x r.to (1+k) (BA x)))) .r) (_/\0<=(i:Int)/\(U AD m.av)[Z (i:Int)]?=G (AD r)/\_/\_/\(r.act==1)=O/\(r.act==2)=O/\_/\bl [bt (ab [vi (bd.n (bd.mk c.n (BT c.az s0 x r.to (1+k) (BA x)))),ai (U eV (bd.az (bd.mk c.n (BT c.az s0 x r.to (1+k) (BA x)))))]),di 0]=dP (bd.mk c.n (BT c.az s0 x r.to (1+k) (BA x)),0)) ⟨hat,by omega,A3 hi,hen,hct,Ic h1,Ic h2,hwi (BA x) (by omega),rfl⟩
 ·rw[Ij hv] at hat
  rw[Ij hv]
  refine⟨by decide,?_⟩
  exact sv V0 57 [3,5] (.c (di 17) .r) (_/\bl [bt (ab [vi 0,ai []]),di 17]=dP (dt,17)) ⟨hat,rfl⟩
section
variable {α : Type} {c : α -> α -> Int}
abbrev jh:α->Prop:=fun _=>True
abbrev gg(c:α->α->Int)(l:List α):Prop:=l.Pairwise fun a b=>c a b<0
theorem ZD(h:gn c jh)(x:α):¬c x x<0:=by rw[h.refl x trivial];omega
theorem Ajn(h:gn c jh){x y:α}(h1:c x y<0):¬c y x<0:=fun h2=>ZD h x (h.trans x y x trivial trivial trivial h1 h2)
theorem JN(h:gn c jh){l:List α}(ha:gg c l):l.Nodup:=ha.imp fun{a b} hab e=>by subst e;exact ZD h a hab
theorem Agt(h:gn c jh){l k:List α}(ha:gg c l)(hb:gg c k)(hm:∀x,x∈l↔x∈k):l=k:=
 List.Perm.eq_of_pairwise (fun a b _ _ h1 h2=>absurd h2 (Ajn h h1)) ha hb ((List.perm_ext_iff_of_nodup (JN h ha) (JN h hb)).2 hm)
theorem ZC(h:gn c jh){k:List α}(hs:k.Pairwise fun a b=>c a b<=0)(hn:k.Nodup):gg c k:=
 (hs.and hn).imp fun{a b} hab=>by
  have:=h.eq a b trivial trivial
  rcases Int.lt_or_eq_of_le hab.1 with h1|h1
  ·exact h1
  ·exact absurd (this h1) hab.2
def BX(q:α->α->Bool):α->List α->List α
 |_,[]=>[]
 |p,x::r=>if q x p=J then BX q x r else x::BX q x r
def AW(q:α->α->Bool):List α->List α
 |[]=>[]
 |x::r=>x::BX q x r
theorem K8(q:α->α->Bool):∀(l:List α) (p x:α),x∈BX q p l->x∈l
 |[],_,_,h=>by simp[BX] at h
 |y::l,p,x,h=>by
  unfold BX at h
  split at h
  ·exact List.mem_cons_of_mem _ (K8 q l y x h)
  ·rcases I8.1 h with rfl|h
   ·simp
   ·exact List.mem_cons_of_mem _ (K8 q l y x h)
theorem dx{l:List α}{i:Nat}{x:α}(h:l[i]?=G x):l.drop i=x::l.drop (i+1):=by
 obtain⟨h1,h2⟩:=HT.1 h
 rw[Ih h1,h2]
theorem J9{l:List α}{k:Nat}{x:α}(h:k<I l):(l.set k x).take (k+1)=l.take k++[x]:=by
 rw[Jn,getElem?_set_self h,List.take_set_of_le (HX _)];rfl
theorem JJ(q:α->α->Bool){l:List α}(h:I l<2):AW q l=l:=by
 match l,h with
 |[],_=>rfl
 |[_],_=>rfl
theorem Mu{q:α->α->Bool}{l:List α}{p:α}(h:l[1-1]?=G p):l.take 1++BX q p (l.drop 1)=AW q l:=by
 cases l with
 |nil=>simp at h
 |cons x l=>simp at h;subst h;rfl
theorem RU{q:α->α->Bool}{l:List α}{x:α}(h:x∈AW q l):x∈l:=by
 cases l with
 |nil=>simp[AW] at h
 |cons y l=>
  rcases I8.1 h with rfl|h
  ·simp
  ·exact List.mem_cons_of_mem _ (K8 q l y x h)
theorem Nt(q:α->α->Bool):∀(l:List α) (p:α),I (BX q p l)<=I l
 |[],_=>HX _
 |y::l,p=>by
  have:=Nt q l y
  unfold BX;split<;>simp only[HV]<;>omega
theorem Mv(q:α->α->Bool)(l:List α):I (AW q l)<=I l:=by
 cases l with
 |nil=>exact HX _
 |cons y l=>have:=Nt q l y;simp only[AW,HV];omega
theorem Nu(h:gn c jh){q:α->α->Bool}(hq:∀x y,q x y=J↔x=y):∀(l:List α) (p:α),(p::l).Pairwise (fun a b=>c a b<=0)->gg c (p::BX q p l)/\∀x,(x=p∨x∈BX q p l)↔(x=p∨x∈l)
 |[],p,_=>⟨by simp[BX],fun x=>by simp[BX]⟩
 |y::l,p,hs=>by
  have hp:=List.pairwise_cons.1 hs
  obtain⟨a1,a2⟩:=Nu h hq l y hp.2
  unfold BX
  by_cases e:y=p
  ·subst e
   rw[Io ((hq y y).2 rfl)]
   exact⟨a1,fun x=>by rw[a2 x];simp⟩
  ·rw[Ij (fun he=>e ((hq y p).1 he))]
   have h1:c p y<0:=by
    rcases Int.lt_or_eq_of_le (hp.1 y (by simp)) with h1|h1
    ·exact h1
    ·exact absurd (h.eq p y trivial trivial h1).symm e
   refine⟨List.pairwise_cons.2 ⟨fun b hb=>?_,a1⟩,fun x=>?_⟩
   ·rcases I8.1 hb with rfl|hb
    ·exact h1
    ·exact h.trans p y b trivial trivial trivial h1 ((List.pairwise_cons.1 a1).1 b hb)
   ·rw[I8,I8,a2 x]
theorem Mw(h:gn c jh){q:α->α->Bool}(hq:∀x y,q x y=J↔x=y){l:List α}(hs:l.Pairwise fun a b=>c a b<=0):gg c (AW q l)/\∀x,x∈AW q l↔x∈l:=by
 cases l with
 |nil=>exact⟨.nil,fun x=>Iff.rfl⟩
 |cons p l=>
  obtain⟨a1,a2⟩:=Nu h hq l p hs
  exact⟨a1,fun x=>by simp only[AW,I8];exact a2 x⟩
end
theorem Ha(l:List (List Int)):Ad (l.map cz)=l.map fun w=>bt (cz w):=by
 induction l with
 |nil=>rfl
 |cons x l ih=>show bt (cz x)::Ad (l.map cz)=_;rw[ih];rfl
theorem Pu(l:List (List Int)):I (Ad (l.map cz))=I l*1:=by rw[Ha,HP];omega
theorem Fj{l:List (List Int)}{i:Nat}{x:List Int}(h:l[i]?=G x):(Ad (l.map cz))[i]?=G (bt (cz x)):=by rw[Ha,I9,h];rfl
theorem AdF(l:List (List Int))(k:Nat):(Ad (l.map cz)).take (k*1)=Ad ((l.take k).map cz):=by rw[Ha,Ha,Nat.mul_one,List.map_take]
theorem ZY(l:List (List Int))(k:Nat)(x:List Int)(_:k<I l):(Ad (l.map cz)).set k (bt (cz x))=Ad ((l.set k x).map cz):=by rw[Ha,Ha,List.map_set]
theorem AdG(k:Nat):(((replicate k [bv]).flatten.map bt).all D.one)=J:=by
 induction k with
 |zero=>rfl
 |succ k ih=>simp only[IL,Jx,Jq,List.all_append,ih];rfl
theorem M5(l:List (List Int)):(Ad (l.map cz)).all D.one=J:=by
 rw[Ha,ID]
 intro x hx
 obtain⟨w,_,rfl⟩:=IA.1 hx
 rfl
theorem Xj:Ce PP 142=G (22,1,24,G (.slice none 0 0)):=by kernel_rfl
theorem M4(l:List V){R:List D}(h:D.pls R=J):D.pls (Ad l++R)=J:=by rw[Cw,A5,h];rfl
noncomputable abbrev YR:=Tryz.f216
noncomputable def EG:=yj YR
theorem Ajy(F:yv)(l:List (List Int))(q:(List Int)->(List Int)->Bool)(hl:I l<=1000)(hq:∀x∈l,∀y∈l,F0 F [.v (cz x),.v (cz y)] (db (q x y)))(k0:Nat)(h0:1<=k0)(h1:k0<I l)(n:Nat):∀(k j:Nat) (A:List (List Int)),I l-k0-j=n->1<=k->1<=j->k<k0+j->j<=I l-k0->I A=I l->(∀x∈A,x∈l)->(∀i:Nat,k0+j-1<=i->A[i]?=l[i]?)->(∀p,l[k0+j-1]?=G p->A.take k++BX q p (l.drop (k0+j))=AW q l)->
  ∃(ys:List (List Int)) (R:List D),ys=AW q l/\D.pls R=J/\R.all D.one=J/\Rn PP YR 1 (.arr 0 0 (I ys)) ⟨[G (Ad (ys.map cz)++R)],[]⟩ ([kl EG [1,1,0,1,0,0,1,0,0,1,0,1,0,1,0,0],.blk 2,kc EG [1,1,0,1,0,0,1,0,0,1,0,1,1],.blk 1,kc EG [1,1,0,1,0,0,1,1],kl EG [1,1,0,1,0,0],.blk 0,kc EG [1,1,1]]++[]) (b9 66 [(0,.arr 0 0 (I l)),(1,dfn F),(5,di k),(6,.arr 0 (k0*1) (I l-k0)),(7,di j)]) ⟨[G (Ad (A.map cz))],[]⟩:=by
 induction n with
 |zero=>
  intro k j A hn hk hj hkj hjl hA hAl hAe hT
  refine⟨A.take k,(replicate (I l-k) [bv]).flatten.map .v,?_,?_,?_,?_⟩
  ·obtain⟨p,hp⟩:∃p,l[k0+j-1]?=G p:=⟨_,HQ (by omega)⟩
   have:=hT p hp
   rw[Im (by omega),BX,IG] at this
   exact this
  ·exact Cg _
  ·exact AdG _
  have hkl:k<I l:=by omega
  have hsl:∀(o:yw) (x:x5) (y:x5) (τ:St),o.op=.slice 142 x (G y) none none->Ay PP o [.arr 0 0 (I l),di k] τ (.arr 0 (k*1) (I l-k)) τ:=fun o x y τ ho=>by
   have:=Ch (P:=PP) (o:=o) (σ:=τ) ho Xj (q:=0) (off:=0) (len:=I l) (G (.i64,(k:Int))) none rfl rfl (l':=k) (h':=I l) (by simp[Cf];omega) hkl
   rwa[IC] at this
  have hsh:∀(o:yw) (x:x5) (y:x5) (τ:St),o.op=.slice 142 x none (G y) none->Ay PP o [.arr 0 0 (I l),di k] τ (.arr 0 0 k) τ:=fun o x y τ ho=>by
   have:=Ch (P:=PP) (o:=o) (σ:=τ) ho Xj (q:=0) (off:=0) (len:=I l) none (G (.i64,(k:Int))) rfl rfl (l':=0) (h':=k) (by simp[Cf];omega) (by omega)
   rwa[Nat.zero_mul,IQ,Nat.sub_zero] at this
  have hfl:I (Ad (A.map cz))=I l*1:=by rw[Pu,hA]
  have hcl:=fun(o:yw) (x:x5) (ho:o.op=.call { callee:=.builtin .clear,args:= #[x],argTypes:= #[142]})=>DM (P:=PP) (o:=o) (σ:=⟨[G (Ad (A.map cz))],[]⟩) ho Xj (zs:=[.nils]) rfl rfl (q:=0) (off:=k*1) (len:=I l-k) rfl (by omega) (by rw[hfl];omega)
  have hd:(Ad (A.map cz)).drop (k*1+(I l-k)*1)=[]:=Im (by rw[hfl];omega)
  have htk:(Ad (A.map cz)).take (k*1)=Ad ((A.take k).map cz):=AdF A k
  rw[hd,htk,IG] at hcl
  refine lv 66 [] (.f<|.h (.q 14 2)<|.h (.o (.arr 0 (k*1) (I l-k)) ⟨[G (Ad (A.map cz))],[]⟩)<|.h (.o (.tup []) ⟨[G (Ad ((A.take k).map cz)++(replicate (I l-k) [bv]).flatten.map .v)],[]⟩)<|.h (.q 15 2)<|.h (.o (.arr 0 0 k) ⟨[G (Ad ((A.take k).map cz)++(replicate (I l-k) [bv]).flatten.map .v)],[]⟩) .ro) (Y ((j:Int)<(↑(I l-k0):Int))=O/\Ay PP (Oper.mk (G 61) (Op.slice 142 (Operand.tmp 59) (G (Operand.tmp 60)) none none) 142 "slices.go:410" #[Edge.mk 0 Ground.data,Edge.mk 1 Ground.data] none) [bo 0 0 (I l),di (k:Int)] (bi [G (Ad (U cz A))] []) (bo 0 (k*1) (I l-k)) (bi [G (Ad (U cz A))] [])/\Ay PP (Oper.mk none (Op.call (Call.mk (Callee.builtin Builtin.clear) #[Operand.tmp 61] #[142])) 0 "slices.go:410" #[Edge.mk 2 Ground.data] none) [bo 0 (k*1) (I l-k)] (bi [G (Ad (U cz A))] []) (bl []) (bi [G (Ad (U cz (take k A))++U bt (flatten (replicate (I l-k) [bv])))] [])/\Ay PP (Oper.mk (G 64) (Op.slice 142 (Operand.tmp 62) none (G (Operand.tmp 63)) none) 142 "slices.go:411" #[Edge.mk 0 Ground.data,Edge.mk 1 Ground.data] none) [bo 0 0 (I l),di (k:Int)] (bi [G (Ad (U cz (take k A))++U bt (flatten (replicate (I l-k) [bv])))] []) (bo 0 0 k) (bi [G (Ad (U cz (take k A))++U bt (flatten (replicate (I l-k) [bv])))] [])/\cp 1 [] [G (Ad (U cz (take k A))++U bt (flatten (replicate (I l-k) [bv])))]=J/\Q [G (Ad (U cz (take k A))++U bt (flatten (replicate (I l-k) (bv::nV))))]/\bo 0 0 k=bo 0 0 (I (take k A))) ⟨yo,hsl _ _ _ _ rfl,hcl _ _ rfl,hsh _ _ _ _ rfl,?_,rfl,by rw[Iy,hA,Nat.min_eq_left (by omega)]⟩
  exact Ik.2 ⟨B2 (M4 _ (Cg _)),rfl⟩
 |succ n ih=>
  intro k j A hn hk hj hkj hjl hA hAl hAe hT
  obtain⟨x,hx⟩:=yi (show k0+j<I A by omega)
  obtain⟨y,hy⟩:=yi (show k0+j-1<I A by omega)
  have hc:=hq x (hAl x (HW hx)) y (hAl y (HW hy))
  have hw1:yq.wrap ((j:Int)-1)=((j-1:Nat):Int):=by rw[A2];omega
  have hT':=hT y (by rw[←hAe _ (HX _)];exact hy)
  have hx':l[k0+j]?=G x:=by rw[←hAe _ (by omega)];exact hx
  rw[dx hx',BX] at hT'
  cases hb:q x y with
  |true=>
   rw[hb] at hc
   obtain⟨ys,R,r1,r3,r5,r4⟩:=ih k (j+1) A (by omega) hk (by omega) (by omega) (by omega) hA hAl (fun i hi=>hAe i (by omega)) (fun p hp=>by
    have e:x=p:=Is (hx'.symm.trans hp)
    rw[hb,Io rfl,e] at hT';exact hT')
   refine⟨ys,R,r1,r3,r5,?_⟩
   refine lv 66 [] (.t<|.m (.v (cz x))<|.m (.v (cz y))<|.c (db J)<|.lo [ke 0,ke 1,ke 5,ke 6,ch 7 (di (j+1:Nat))] ⟨[G (Ad (A.map cz))],[]⟩) (Y ((j:Int)<(↑(I l-k0):Int))=J/\0<=(j:Int)/\(j:Int)<(↑(I l-k0):Int)/\(Ad (U cz A))[k0*1+Z (j:Int)*1]?=G (cy x)/\0<=yr yq ((j:Int)-1)/\yr yq ((j:Int)-1)<(↑(I l-k0):Int)/\(Ad (U cz A))[k0*1+Z (yr yq ((j:Int)-1))*1]?=G (cy y)/\F0 F [cy x,cy y] (db J)/\ym/\di (yr yq ((j:Int)+1))=di (↑(j+1):Int)/\cp 1 [] [G (Ad (U cz A))]=J/\Q [G (Ad (U cz A))]/\I0 YR 1 (bo 0 0 (I ys)) (bi [G (Ad (U cz ys)++R)] []) [kl EG [1,1,0,1,0,0,1,0,0,1,0,1,0,1,0,0],bh 2,kc EG [1,1,0,1,0,0,1,0,0,1,0,1,1],bh 1,kc EG [1,1,0,1,0,0,1,1],kl EG [1,1,0,1,0,0],bh 0,kc EG [1,1,1]] (b9 66 [(0,bo 0 0 (I l)),(1,bt (bw F [] [])),(5,di (k:Int)),(6,bo 0 (k0*1) (I l-k0)),(7,di (↑(j+1):Int))]) (bi [G (Ad (U cz A))] [])) ?_
   rw[hw1]
   refine⟨yp,by omega,by omega,by rw[show k0*1+Z (j:Int)*1=k0+j by omega];exact Fj hx,by omega,by omega,by rw[show k0*1+Z ((j-1:Nat):Int)*1=k0+j-1 by omega];exact Fj hy,hc,yk,As,Ik.2 ⟨Az 1 [] _,rfl⟩,rfl,⟨r4⟩⟩
  |false=>
   rw[hb] at hc
   have hA2:∀z∈A.set k x,z∈l:=fun z hz=>by
    rcases IX hz with h|h
    ·exact hAl z h
    ·rw[h];exact hAl x (HW hx)
   obtain⟨ys,R,r1,r3,r5,r4⟩:=ih (k+1) (j+1) (A.set k x) (by omega) (by omega) (by omega) (by omega) (by omega) (by rw[length_set];exact hA) hA2 (fun i hi=>by rw[getElem?_set_ne (by omega)];exact hAe i (by omega)) (fun p hp=>by
    have e:x=p:=Is (hx'.symm.trans hp)
    rw[hb,Ij (by decide)] at hT'
    rw[J9 (by omega),IZ,List.singleton_append, ←e];exact hT')
   refine⟨ys,R,r1,r3,r5,?_⟩
   refine lv 66 [] (.t<|.m (.v (cz x))<|.m (.v (cz y))<|.c (db O)<|.m (.v (cz x))<|.w<|.lo [ke 0,ke 1,ch 5 (di (k+1:Nat)),ke 6,ch 7 (di (j+1:Nat))] ⟨[G (Ad ((A.set k x).map cz))],[]⟩) (Y ((j:Int)<(↑(I l-k0):Int))=J/\0<=(j:Int)/\(j:Int)<(↑(I l-k0):Int)/\(Ad (U cz A))[k0*1+Z (j:Int)*1]?=G (cy x)/\0<=yr yq ((j:Int)-1)/\yr yq ((j:Int)-1)<(↑(I l-k0):Int)/\(Ad (U cz A))[k0*1+Z (yr yq ((j:Int)-1))*1]?=G (cy y)/\F0 F [cy x,cy y] (db O)/\ym/\0<=(j:Int)/\(j:Int)<(↑(I l-k0):Int)/\(Ad (U cz A))[k0*1+Z (j:Int)*1]?=G (cy x)/\0<=(k:Int)/\(k:Int)<(I l:Int)/\0+Z (k:Int)*1<I (Ad (U cz A))/\di (yr yq ((k:Int)+1))=di (↑(k+1):Int)/\di (yr yq ((j:Int)+1))=di (↑(j+1):Int)/\cp 1 [] [G (List.set (Ad (U cz A)) (0+Z (k:Int)*1) (cy x))]=J/\[G (List.set (Ad (U cz A)) (0+Z (k:Int)*1) (cy x))]=[G (Ad (U cz (List.set A k x)))]/\I0 YR 1 (bo 0 0 (I ys)) (bi [G (Ad (U cz ys)++R)] []) [kl EG [1,1,0,1,0,0,1,0,0,1,0,1,0,1,0,0],bh 2,kc EG [1,1,0,1,0,0,1,0,0,1,0,1,1],bh 1,kc EG [1,1,0,1,0,0,1,1],kl EG [1,1,0,1,0,0],bh 0,kc EG [1,1,1]] (b9 66 [(0,bo 0 0 (I l)),(1,bt (bw F [] [])),(5,di (↑(k+1):Int)),(6,bo 0 (k0*1) (I l-k0)),(7,di (↑(j+1):Int))]) (bi [G (Ad (U cz (List.set A k x)))] [])) ?_
   rw[hw1]
   refine⟨yp,by omega,by omega,by rw[show k0*1+Z (j:Int)*1=k0+j by omega];exact Fj hx,by omega,by omega,by rw[show k0*1+Z ((j-1:Nat):Int)*1=k0+j-1 by omega];exact Fj hy,hc,yk,by omega,by omega,by rw[show k0*1+Z (j:Int)*1=k0+j by omega];exact Fj hx,by omega,by omega,by rw[Pu];omega,As,As,?_,?_,⟨r4⟩⟩
   ·rw[show 0+Z (k:Int)*1=k by omega,ZY A k x (by omega)]
    exact Ik.2 ⟨Az 1 [] _,rfl⟩
   ·rw[show 0+Z (k:Int)*1=k by omega,ZY A k x (by omega)]
theorem Ag2(F:yv)(l:List (List Int))(q:(List Int)->(List Int)->Bool)(hl:I l<=1000)(hq:∀x∈l,∀y∈l,F0 F [.v (cz x),.v (cz y)] (db (q x y)))(n:Nat):∀(k:Nat),I l-k=n->1<=k->k<=I l->(∀p,l[k-1]?=G p->l.take k++BX q p (l.drop k)=AW q l)->
  ∃(ys:List (List Int)) (R:List D),ys=AW q l/\D.pls R=J/\R.all D.one=J/\Rn PP YR 1 (.arr 0 0 (I ys)) ⟨[G (Ad (ys.map cz)++R)],[]⟩ ([kl EG [1,1,0,1,0,0],.blk 0,kc EG [1,1,1]]++[]) (b9 66 [(0,.arr 0 0 (I l)),(1,dfn F),(5,di k)]) ⟨[G (Ad (l.map cz))],[]⟩:=by
 induction n with
 |zero=>
  intro k hn hk hkl hT
  refine⟨l,[],?_,rfl,rfl,?_⟩
  ·obtain⟨p,hp⟩:∃p,l[k-1]?=G p:=⟨_,HQ (by omega)⟩
   have:=hT p hp
   rw[Im (by omega),BX,IG,Iw (by omega)] at this
   exact this
  exact lv 66 [] (.f .ro) (Y ((k:Int)<(I l:Int))=O/\cp 1 [] [G (Ad (U cz l))]=J/\[G (Ad (U cz l))]=[G (Ad (U cz l)++[])]/\Q (bo 0 0 (I l))) ⟨yo,Ik.2 ⟨Az 1 [] _,rfl⟩,by rw[IG],rfl⟩
 |succ n ih=>
  intro k hn hk hkl' hT
  obtain⟨x,hx⟩:=yi (show k<I l by omega)
  obtain⟨y,hy⟩:=yi (show k-1<I l by omega)
  have hc:=hq x (HW hx) y (HW hy)
  have hkl:k<I l:=by omega
  have hw1:yq.wrap ((k:Int)-1)=((k-1:Nat):Int):=by rw[A2];omega
  have hT':=hT y hy
  rw[dx hx,BX] at hT'
  cases hb:q x y with
  |true=>
   rw[hb] at hc
   obtain⟨ys,R,r1,r3,r5,r4⟩:=Ajy F l q hl hq k hk (by omega) _ k 1 l rfl hk (by omega) (by omega) (by omega) rfl (fun x h=>h) (fun _ _=>rfl) (fun p hp=>by
    have e:x=p:=Is (hx.symm.trans hp)
    rw[hb,Io rfl,e] at hT';exact hT')
   refine⟨ys,R,r1,r3,r5,?_⟩
   refine lv 66 [] (.t<|.m (.v (cz x))<|.m (.v (cz y))<|.c (db J)<|.k<|.h (.q 7 2)<|.h (.o (.arr 0 (k*1) (I l-k)) ⟨[G (Ad (l.map cz))],[]⟩)<|.lo [ke 0,ke 1,ke 5,ke 6,ch 7 (di (1:Nat))] ⟨[G (Ad (l.map cz))],[]⟩) (Y ((k:Int)<(I l:Int))=J/\0<=(k:Int)/\(k:Int)<(I l:Int)/\(Ad (U cz l))[0+Z (k:Int)*1]?=G (cy x)/\0<=yr yq ((k:Int)-1)/\yr yq ((k:Int)-1)<(I l:Int)/\(Ad (U cz l))[0+Z (yr yq ((k:Int)-1))*1]?=G (cy y)/\F0 F [cy x,cy y] (db J)/\ym/\Ay PP (Oper.mk (G 31) (Op.slice 142 (Operand.tmp 29) (G (Operand.tmp 30)) none none) 142 "slices.go:402" #[Edge.mk 0 Ground.data,Edge.mk 1 Ground.data] none) [bo 0 0 (I l),di (k:Int)] (bi [G (Ad (U cz l))] []) (bo 0 (k*1) (I l-k)) (bi [G (Ad (U cz l))] [])/\di 1=di (↑1:Int)/\cp 1 [] [G (Ad (U cz l))]=J/\Q [G (Ad (U cz l))]/\I0 YR 1 (bo 0 0 (I ys)) (bi [G (Ad (U cz ys)++R)] []) [kl EG [1,1,0,1,0,0,1,0,0,1,0,1,0,1,0,0],bh 2,kc EG [1,1,0,1,0,0,1,0,0,1,0,1,1],bh 1,kc EG [1,1,0,1,0,0,1,1],kl EG [1,1,0,1,0,0],bh 0,kc EG [1,1,1]] (b9 66 [(0,bo 0 0 (I l)),(1,bt (bw F [] [])),(5,di (k:Int)),(6,bo 0 (k*1) (I l-k)),(7,di (↑1:Int))]) (bi [G (Ad (U cz l))] [])) ?_
   have hsl:∀(o:yw) (x:x5) (y:x5) (τ:St),o.op=.slice 142 x (G y) none none->Ay PP o [.arr 0 0 (I l),di k] τ (.arr 0 (k*1) (I l-k)) τ:=fun o x y τ ho=>by
    have:=Ch (P:=PP) (o:=o) (σ:=τ) ho Xj (q:=0) (off:=0) (len:=I l) (G (.i64,(k:Int))) none rfl rfl (l':=k) (h':=I l) (by simp[Cf];omega) hkl
    rwa[IC] at this
   rw[hw1]
   exact⟨yp,by omega,by omega,by rw[show 0+Z (k:Int)*1=k by omega];exact Fj hx,by omega,by omega,by rw[show 0+Z ((k-1:Nat):Int)*1=k-1 by omega];exact Fj hy,hc,yk,hsl _ _ _ _ rfl,rfl,Ik.2 ⟨Az 1 [] _,rfl⟩,rfl,⟨r4⟩⟩
  |false=>
   rw[hb] at hc
   obtain⟨ys,R,r1,r3,r5,r4⟩:=ih (k+1) (by omega) (by omega) (by omega) (fun p hp=>by
    have e:x=p:=Is (hx.symm.trans hp)
    rw[hb,Ij (by decide)] at hT'
    rw[Jn,hx,Option.toList_some,IZ,List.singleton_append, ←e];exact hT')
   refine⟨ys,R,r1,r3,r5,?_⟩
   refine lv 66 [] (.t<|.m (.v (cz x))<|.m (.v (cz y))<|.c (db O)<|.lo [ke 0,ke 1,ch 5 (di (k+1:Nat))] ⟨[G (Ad (l.map cz))],[]⟩) (Y ((k:Int)<(I l:Int))=J/\0<=(k:Int)/\(k:Int)<(I l:Int)/\(Ad (U cz l))[0+Z (k:Int)*1]?=G (cy x)/\0<=yr yq ((k:Int)-1)/\yr yq ((k:Int)-1)<(I l:Int)/\(Ad (U cz l))[0+Z (yr yq ((k:Int)-1))*1]?=G (cy y)/\F0 F [cy x,cy y] (db O)/\ym/\di (yr yq ((k:Int)+1))=di (↑(k+1):Int)/\cp 1 [] [G (Ad (U cz l))]=J/\Q [G (Ad (U cz l))]/\I0 YR 1 (bo 0 0 (I ys)) (bi [G (Ad (U cz ys)++R)] []) [kl EG [1,1,0,1,0,0],bh 0,kc EG [1,1,1]] (b9 66 [(0,bo 0 0 (I l)),(1,bt (bw F [] [])),(5,di (↑(k+1):Int))]) (bi [G (Ad (U cz l))] [])) ?_
   rw[hw1]
   exact⟨yp,by omega,by omega,by rw[show 0+Z (k:Int)*1=k by omega];exact Fj hx,by omega,by omega,by rw[show 0+Z ((k-1:Nat):Int)*1=k-1 by omega];exact Fj hy,hc,yk,As,Ik.2 ⟨Az 1 [] _,rfl⟩,rfl,⟨r4⟩⟩
theorem xk(F:yv)(l:List (List Int))(q:(List Int)->(List Int)->Bool)(hl:I l<=1000)(hq:∀x∈l,∀y∈l,F0 F [.v (cz x),.v (cz y)] (db (q x y))):
  ∃R:List D,D.pls R=J/\R.all D.one=J/\Aa PP 216 [.arr 0 0 (I l),dfn F] ⟨[G (Ad (l.map cz))],[]⟩ (.arr 0 0 (I (AW q l))) ⟨[G (Ad ((AW q l).map cz)++R)],[]⟩:=by
 by_cases h2:I l<2
 ·refine⟨[],rfl,rfl,?_⟩
  rw[JJ q h2]
  exact sv YR 66 [] (.t .ro) (Y ((I l:Int)<2)=J/\cp 1 [] [G (Ad (U cz l))]=J/\[G (Ad (U cz l))]=[G (Ad (U cz l)++[])]/\Q (bo 0 0 (I l))) ⟨yp,Ik.2 ⟨Az 1 [] _,rfl⟩,by rw[IG],rfl⟩
 ·obtain⟨ys,R,r1,r3,r5,r4⟩:=Ag2 F l q hl hq _ 1 rfl (HX _) (by omega) (fun p hp=>Mu hp)
  subst r1
  refine⟨R,r3,r5,?_⟩
  exact sv YR 66 [] (.f<|.lo [ke 0,ke 1,ch 5 (di (1:Nat))] ⟨[G (Ad (l.map cz))],[]⟩) (Y ((I l:Int)<2)=O/\Q (di 1)/\cp 1 [] [G (Ad (U cz l))]=J/\Q [G (Ad (U cz l))]/\_) ⟨yo,rfl,Ik.2 ⟨Az 1 [] _,rfl⟩,rfl,iK r4⟩
end Go.Proofs.YthmjfmacdlhfjaaGreat

namespace Go.Proofs.YthmjfmacdlhfjaaGreat
open Go.Dv Go.Nv Go.Shelf
set_option maxRecDepth 20000
open List (take)
open Go.IntKind (u64)
open Go.IntKind renaming wrap → yr, i64 → yq
open List renaming length → I, map → U, drop → W
open Option renaming some → G
open Bool renaming true → J, false → O
open Decidable renaming decide → Y
open Int renaming toNat → Z
open Go.Dv.V renaming list → ai, str → ae, agg → ab, int → aa, ref → bz, fn → bw, nils → bv, bool → bu
open Go.Dv.D renaming v → bt, acc → br, ptr → bq, arr → bo, gro → bm, tup → bl, undef → bk, dagg → bj
open Go.Dv.St renaming mk → bi
open Go.Dv.KI renaming blk → bh
open _root_.ByteArray renaming mk → bg
open Go renaming Operand → x5, Program → x4, TypeId → yz, World → yy, Value → yx, Oper → yw, FuncId → yv, Func → yu, IntKind → yt
theorem PC:F0 214 [dl [],dfn 215] (.tup []):=by
 refine⟨⟨_, Tryz.func214,by kernel_rfl,by kernel_rfl⟩,fun g w args hw hargs=>?_⟩
 obtain⟨u0,u1,rfl,h0,h1⟩:=A8.1 hargs
 simp only[Av,B3] at h0
 obtain⟨a,cap,rfl,_,_⟩:=h0
 have h:=AnyF.slices_SortFunc_none { Tryz.sortW with } a cap u1 w
 refine Calls.mono h ?_
 rintro e w' ⟨rfl,rfl⟩
 exact⟨_,g,rfl,WI.start hw,by simp only[Av];exact⟨[],rfl,by simp[Ar]⟩⟩
theorem Gp:F0 92 [dl [],dfn 39] (.tup []):=by
 refine⟨⟨_, Tryz.func92,by kernel_rfl,by kernel_rfl⟩,fun g w args hw hargs=>?_⟩
 obtain⟨u0,u1,rfl,h0,h1⟩:=A8.1 hargs
 simp only[Av,B3] at h0
 obtain⟨a,cap,rfl,_,_⟩:=h0
 have h:=AnyF.slices_SortFunc_none Tryz.sortV a cap u1 w
 refine Calls.mono h ?_
 rintro e w' ⟨rfl,rfl⟩
 exact⟨_,g,rfl,WI.start hw,by simp only[Av];exact⟨[],rfl,by simp[Ar]⟩⟩
theorem OX:gn G3 jh:=by
 constructor
 ·exact fun x _=>BD.refl (dw x) trivial
 ·exact fun x y _ _ h=>Rb (BD.eq (dw x) (dw y) trivial trivial h)
 ·exact fun x y _ _=>BD.swap (dw x) (dw y) trivial trivial
 ·exact fun x y z _ _ _=>BD.trans (dw x) (dw y) (dw z) trivial trivial trivial
theorem AaZ(l:List (List Int)):(sortW l).Pairwise fun a b=>G3 a b<=0:=
 (List.pairwise_mergeSort (le:=fun a b=>Y (G3 a b<=0)) (fun a b c h1 h2=>HS (Ez (Ib h1) (Ib h2))) (fun a b=>by rcases JH (dw a) (dw b) with h|h<;>simp[G3,h]) l).imp fun{a b} h=>Ib h
def j2(a b:List Int):Bool:=Y (a=b)
def E7(l:List (List Int)):List (List Int):=AW j2 (sortW l)
theorem DZ(l:List (List Int)):gg G3 (E7 l)/\∀x,x∈E7 l↔x∈l:=by
 obtain⟨h1,h2⟩:=Mw OX (q:=j2) (fun x y=>by simp[j2]) (AaZ l)
 exact⟨h1,fun x=>(h2 x).trans (D7 l).mem_iff⟩
theorem Sh(l:List (List Int)):I (E7 l)<=I l:=by
 have:=Mv j2 (sortW l)
 rwa[(D7 l).length_eq] at this
noncomputable abbrev wk:=Tryz.f217
theorem AeC(l:List (List Int))(hl:I l<=1000)(hs:∀v∈l,I v<=1000):∃R:List D,D.pls R=J/\R.all D.one=J/\Aa PP 217 [.arr 0 0 (I l)] ⟨[G (Ad (l.map cz))],[]⟩ (.arr 0 0 (I (E7 l))) ⟨[G (Ad ((E7 l).map cz)++R)],[]⟩:=by
 have hlen:I (sortW l)=I l:=(D7 l).length_eq
 obtain⟨R,h3,h5,h4⟩:=xk 211 (sortW l) j2 (by omega) (fun x hx y hy=>Dr x y (by have:=hs x ((D7 l).mem_iff.1 hx);omega))
 refine⟨R,h3,h5,?_⟩
 rw[hlen] at h4
 obtain⟨ys,hys⟩:∃ys,ys=E7 l:=⟨_,rfl⟩
 rw[show AW j2 (sortW l)=E7 l from rfl, ←hys] at h4
 rw[←hys]
 have hsp:=ME Sl l (by omega) (fun v hv=>by have:=hs v hv;omega)
 refine sv wk 7 [] (.h (.oc (.tup []) ⟨[G (Ad ((sortW l).map cz))],[]⟩)<|.h (.oc (.arr 0 0 (I ys)) ⟨[G (Ad (ys.map cz)++R)],[]⟩) .ro) ((∀(o:yw) (c:Call) (fo:x5),o.op=Op.call c->c.callee=Callee.value fo->Ay PP o [bt (bw 214 [] []),bo 0 0 (I l),bt (bw 215 [] [])] (bi [G (Ad (U cz l))] []) (bl []) (bi [G (Ad (U cz (sortW l)))] []))/\(∀(o:yw) (c:Call) (fo:x5),o.op=Op.call c->c.callee=Callee.value fo->Ay PP o [bt (bw 216 [] []),bo 0 0 (I l),bt (bw 211 [] [])] (bi [G (Ad (U cz (sortW l)))] []) (bo 0 0 (I ys)) (bi [G (Ad (U cz ys)++R)] []))/\cp 1 [] [G (Ad (U cz ys)++R)]=J/\Q [G (Ad (U cz ys)++R)]/\Q (bo 0 0 (I ys))) ⟨fun o cl fo ho hc=>?_,fun o cl fo ho hc=>?_,Ik.2 ⟨B2 (M4 _ h3),rfl⟩,rfl,rfl⟩
 ·exact C9 (H:=[Ad (l.map cz)]) ho hc (fs:=[]) (cs:=[]) (ds:=[.arr 0 0 (I l),dfn 215]) rfl hsp rfl (fun cs hm=>by rw[Ii.1 hm];exact⟨Az _ _ _,M5 l⟩) rfl (Ik.2 ⟨Az _ _ _,rfl⟩) (HX _)
 ·exact C9 (H:=[Ad ((sortW l).map cz)]) ho hc (fs:=[]) (cs:=[]) (ds:=[.arr 0 0 (I l),dfn 211]) rfl h4 rfl (fun cs hm=>by rw[Ii.1 hm];exact⟨Az _ _ _,M5 _⟩) rfl (Ik.2 ⟨B2 (M4 _ h3),rfl⟩) (HX _)
theorem ZZ(F:yv):F0 216 [dl [],dfn F] (dl []):=by
 exact sv YR 66 [] (.t .r) (Y ((I nV:Int)<2)=J/\bt (ai [])=dl []) ⟨by decide,rfl⟩
theorem Aat:F0 217 [dl []] (dl []):=by
 refine sv wk 7 [] (.c (.tup [])<|.c (dl []) .r) (F0 214 [bt (ai []),bt (bw 215 [] [])] (bl [])/\F0 216 [bt (ai []),bt (bw 211 [] [])] (dl [])/\bt (ai [])=dl []) ?_
 exact⟨PC,ZZ _,rfl⟩
noncomputable abbrev Ai3:=Tryz.f228
theorem U7(x:Int):F0 228 [di x] (db (Y (x<0)||Y (x>=16))):=by
 exact sv Ai3 9 [] (.b .r .r) ((Y (x<0)=J->db J=db (Y (x<0)||Y (x>=16)))/\(Y (x<0)=O->db (Y (x>=16))=db (Y (x<0)||Y (x>=16)))) ⟨fun h=>by rw[h];rfl,fun h=>by rw[h];rfl⟩
noncomputable abbrev wj:=Tryz.f184
def Wq(w:List Int):Bool:=Y ((I w:Int)<=12)&& !(w.any fun x=>Y (x<0)||Y (x>=16))
theorem Lx(w:List Int)(hw:I w<=1000):F0 184 [cy w] (db (Wq w)):=by
 rw[Wq]
 by_cases h:Y ((I w:Int)<=12)=J
 ·rw[h,I2]
  exact sv wj 11 [] (.t<|.c (db (w.any fun x=>Y (x<0)||Y (x>=16))) .r) (Y ((I (U vi w):Int)<=12)=J/\_/\(db !List.any w fun x=>Y (x<0)||Y (x>=16))=db !List.any w fun x=>Y (x<0)||Y (x>=16)) ⟨by rw[HP];exact h,DO 228 [] [] (fun x=>Y (x<0)||Y (x>=16)) w (by omega) (fun x _=>U7 x),rfl⟩
 ·rw[Ic h,Iz]
  exact sv wj 11 [] (.f .r) (Y ((I (U vi w):Int)<=12)=O/\Q (db O)) ⟨by rw[HP];exact Ic h,rfl⟩
theorem Pw{w:List Int}(h:Wq w=J):I w<=12:=by
 have:=(Ik.1 h).1
 have:=Ib this
 omega
theorem Ls(w:List Int)(hw:I w<=1000)(i:Nat)(hi:i<I w):F0 213 [bt (ai [ai (W 0 (take (Z (i:Int)) (w.map vi))),ai (W (Z ((i+1:Nat):Int)) (take (I (w.map vi)) (w.map vi)))])] (cy (w.take i++w.drop (i+1))):=by
 have h:=AcY [w.take i,w.drop (i+1)] (by simp) (by simp only[Jx,List.flatten_nil,IG,Ig,Iy,IY];omega)
 rw[Ji,Ji,J1,Iw (HX _), ←List.map_take, ←List.map_drop,show cy (w.take i++w.drop (i+1))=dl ([w.take i,w.drop (i+1)].flatten.map vi) by simp]
 exact h
theorem P8(w:List Int):∀x∈w.map vi,V.size x=1:=fun x h=>by obtain⟨y,_,rfl⟩:=IA.1 h;rfl
theorem MX(l:List (List Int))(x:List Int):Ad (l.map cz)++[bt (cz x)]=Ad ((l++[x]).map cz):=by rw[Ha,Ha];simp
theorem vu{o:yw}{t:Nat}(x:List Int)(τ:St)(ho:o.op=.buildSlice 142 1 #[(0,.tmp t)]):Ay PP o [cy x] τ (.v (.list [cz x])) τ:=
 E5 ho rfl rfl Xj rfl (xs:=[cz x]) rfl (fun y hy=>by rw[Ii.1 hy];rfl) (by decide) (by decide) (by decide)
noncomputable abbrev ly:=Tryz.f173
noncomputable def mn:=yj ly
def gj(w:List Int)(i:Nat):List Int:=w.take i++w.drop (i+1)
theorem YZ(w:List Int)(i:Nat):I (gj w i)<=I w:=by unfold gj;rw[Ig,Iy,IY];omega
def Ea(w:List Int)(k:Nat):List (List Int):=(List.range k).map (gj w)
theorem UA(w:List Int)(k:Nat):Ea w (k+1)=Ea w k++[gj w k]:=by simp[Ea,List.range_succ]
theorem L3(w:List Int)(k:Nat):I (Ea w k)=k:=by simp[Ea]
theorem Sm{w:List Int}(hw:I w<=12){k:Nat}{v:List Int}(h:v∈Ea w k):I v<=12:=by
 obtain⟨i,_,rfl⟩:=IA.1 h
 have:=YZ w i;omega
def Ft(w:List Int):List (List Int):=if Wq w=J then E7 (Ea w (I w)) else[]
theorem Aaw(w:List Int)(hw:I w<=12)(n:Nat):∀k:Nat,I w- (k+1)=n->k<I w->
  Rn PP ly 0 (dl ((E7 (Ea w (I w))).map cz)) bf ([kl mn [1,1,1,0,1,0,0],.blk 0,kc mn [1,1,1,1]]++[]) (b9 28 [(0,cy w),(3,.gro 0 (k+1) 1),(8,cy w),(9,di (I w)),(10,di (k+1:Nat))]) ⟨[G (Ad ((Ea w (k+1)).map cz))],[]⟩:=by
 induction n with
 |zero=>
  intro k hn hk
  obtain⟨outs,houts⟩:∃outs,outs=Ea w (k+1):=⟨_,rfl⟩
  have ho:I outs=k+1:=by rw[houts];exact L3 _ _
  obtain⟨R,h3,h5,h4⟩:=AeC outs (by omega) (fun v hv=>by rw[houts] at hv;have:=Sm hw hv;omega)
  rw[ho] at h4
  obtain⟨ys,hys⟩:∃ys,ys=E7 outs:=⟨_,rfl⟩
  rw[←hys] at h4
  rw[←houts,show Ea w (I w)=outs by rw[houts];congr 1;omega, ←hys]
  refine lv 28 [] (.f<|.h (.q 9 0)<|.h (.ga 3)<|.h (.oc (.arr 0 0 (I ys)) ⟨[G (Ad (ys.map cz)++R)],[]⟩)<|.h (.q 9 2)<|.h (.ct 27 (dl (ys.map cz)) ⟨[none],[]⟩) .r) (Y ((↑(k+1):Int)<(I w:Int))=O/\(∀(o:yw) (c:Call) (fo:x5),o.op=Op.call c->c.callee=Callee.value fo->Ay PP o [bt (bw 217 [] []),bo 0 0 (k+1)] (bi [G (Ad (U cz outs))] []) (bo 0 0 (I ys)) (bi [G (Ad (U cz ys)++R)] []))/\(∀(e:List D),e[27]?=G (bo 0 0 (I ys))->∀(E:co) (g:Gh) (a:Act) (w:yy),FI E g (bi [G (Ad (U cz ys)++R)] []) e a w->∃g',FI E g' (bi [none] []) (List.set e 27 (dl (U cz ys))) a w)/\bt (ai (U cz ys))=dl (U cz ys)) ⟨yo,fun o cl fo hop hc=>?_,fun e he=>?_,rfl⟩
  ·exact C9 (H:=[Ad (outs.map cz)]) hop hc (fs:=[]) (cs:=[]) (ds:=[.arr 0 0 (k+1)]) rfl h4 rfl (fun cs hm=>by rw[Ii.1 hm];exact⟨Az _ _ _,M5 _⟩) rfl (Ik.2 ⟨B2 (M4 _ h3),rfl⟩) (HX _)
  ·exact K4 (σ:=⟨[G (Ad (ys.map cz)++R)],[]⟩) (q:=0) (sz:=1) (rest:=R) (by decide) (fun x hx=>by obtain⟨y,_,rfl⟩:=IA.1 hx;rfl) (by rw[HP]) rfl he
 |succ n ih=>
  intro k hn hk
  have g3:=ih (k+1) (by omega) (by omega)
  rw[UA w (k+1),show gj w (k+1)=w.take (k+1)++w.drop (k+2) from rfl] at g3
  have ho:=L3 w (k+1)
  generalize E7 (Ea w (I w))=ws at g3⊢
  generalize Ea w (k+1)=outs at g3 ho⊢
  refine lv 28 [] (.t<|.c (cy (w.take (k+1)++w.drop (k+2)))<|.lo [ke 0,ch 3 (.gro 1 (k+1+1) 1),ke 8,ke 9,ch 10 (di (k+1+1:Nat))] ⟨[none,G (Ad ((outs++[w.take (k+1)++w.drop (k+2)]).map cz))],[]⟩) (Y ((↑(k+1):Int)<(I w:Int))=J/\(∀(x:V),x∈U vi w->V.size x=1)/\0<=(fun x=>x.snd) (yq,(↑(k+1):Int))/\(fun x=>x.snd) (yq,(↑(k+1):Int))<=(I (U vi w):Int)/\(∀(x:V),x∈U vi w->V.size x=1)/\0<=(fun x=>x.snd) (yq,yr yq ((↑(k+1):Int)+1))/\(fun x=>x.snd) (yq,yr yq ((↑(k+1):Int)+1))<=(I (U vi w):Int)/\F0 213 [bt (ai [ai (W 0 (take (Z ((fun x=>x.snd) (yq,(↑(k+1):Int)))) (U vi w))),ai (W (Z ((fun x=>x.snd) (yq,yr yq ((↑(k+1):Int)+1)))) (take (I (U vi w)) (U vi w)))])] (cy (take (k+1) w++W (k+2) w))/\I (Ad (U cz outs))=(k+1)*1/\[cz (take (k+1) w++W (k+2) w)]≠ []/\(∀(y:V),y∈ [cz (take (k+1) w++W (k+2) w)]->V.size y=1)/\A9 (k+1+I (cz (take (k+1) w++W (k+2) w)::nV)) 24/\bm 1 (k+1+I (cz (take (k+1) w++W (k+2) w)::nV)) 1=bm 1 (k+1+1) 1/\di (yr yq ((↑(k+1):Int)+1))=di (↑(k+1+1):Int)/\cp 2 [] [none,G (Ad (U cz outs)++[bt (cz (take (k+1) w++W (k+2) w))])]=J/\[none,G (Ad (U cz outs)++[bt (cz (take (k+1) w++W (k+2) w))])]=[none,G (Ad (U cz (outs++[take (k+1) w++W (k+2) w])))]/\I0 ly 0 (dl (U cz ws)) bf [kl mn [1,1,1,0,1,0,0],bh 0,kc mn [1,1,1,1]] (b9 28 [(0,cy w),(3,bm 1 (k+1+1) 1),(8,cy w),(9,di (I w:Int)),(10,di (↑(k+1+1):Int))]) (bi [none,G (Ad (U cz (outs++[take (k+1) w++W (k+2) w])))] [])) ?_
  have hw1:yq.wrap (((k+1:Nat):Int)+1)=((k+1+1:Nat):Int):=by rw[A2];omega
  rw[hw1,MX]
  refine⟨yp,P8 w,by show(0:Int)<=((k+1:Nat):Int);omega,by show((k+1:Nat):Int)<=_;rw[HP];omega,P8 w,by show(0:Int)<=((k+1+1:Nat):Int);omega,by show((k+1+1:Nat):Int)<=_;rw[HP];omega,Ls w (by omega) (k+1) (by omega),by rw[Pu,ho],by simp,fun y hy=>by rw[Ii.1 hy];rfl,⟨by simp only[HV,HZ];omega,by simp only[HV,HZ];omega⟩,rfl,rfl,?_,rfl,⟨?_⟩⟩
  ·simp[cp,D.okNs,D.okN,Az]
  ·refine CW (H0:=[none]) (fun E0 E h=>h.2) 1 rfl (fun cs hc=>?_) ?_ ?_ g3
   ·simp at hc;rw[hc];exact A5 _
   ·simp[b9,D.okNs,D.okN]
   ·simp[b9,D.rens,D.ren]
theorem Aav(w:List Int)(hw:I w<=1000):F0 173 [cy w] (dl ((Ft w).map cz)):=by
 have hb2:=Lx w hw
 unfold Ft
 cases hv:Wq w with
 |false=>
  rw[hv] at hb2
  rw[Ij (by decide)]
  exact sv ly 28 [] (.c (db O) .r) (_/\Q (bt (ai []))) ⟨hb2,rfl⟩
 |true=>
  have h12:=Pw hv
  rw[hv] at hb2
  rw[Io rfl]
  by_cases h0:w=[]
  ·subst h0
   rw[show E7 (Ea [] (I ([]:List Int)))=[] by simp[E7,Ea,sortW,AW]]
   exact sv ly 28 [] (.c (db J)<|.k<|.n<|.f<|.c (dl []) .r) (_/\Y (0<(I (U vi []):Int))=O/\_/\Q (bt (ai []))) ⟨hb2,rfl,Aat,rfl⟩
  ·have hpos:=List.length_pos_iff.2 h0
   have g3:=Aaw w h12 _ 0 rfl hpos
   rw[show Ea w (0+1)=[w.drop 1] by simp[Ea,List.range_succ,gj]] at g3
   generalize E7 (Ea w (I w))=ws at g3⊢
   refine sv ly 28 [] (.c (db J)<|.k<|.n<|.t<|.c (cy (w.drop 1))<|.h (.p (.v (.list [cz (w.drop 1)])))<|.h .g<|.lo [ke 0,ch 3 (.gro 0 1 1),ke 8,ch 9 (di (I w)),ch 10 (di (1:Nat))] ⟨[G (Ad ([w.drop 1].map cz))],[]⟩) (F0 184 [cy w] (db J)/\Y (0<(I (U vi w):Int))=J/\(∀(x:V),x∈U vi w->V.size x=1)/\0<=(0:Int)/\(0:Int)<=(I (U vi w):Int)/\(∀(x:V),x∈U vi w->V.size x=1)/\0<=(fun x=>x.snd) (yq,yr yq (0+1))/\(fun x=>x.snd) (yq,yr yq (0+1))<=(I (U vi w):Int)/\F0 213 [bt (ai [ai [],ai (W (Z ((fun x=>x.snd) (yq,yr yq (0+1)))) (take (I (U vi w)) (U vi w)))])] (cy (W 1 w))/\(∀(τ:St),Ay PP (Oper.mk (G 23) (Op.buildSlice 142 1 #[(0,Operand.tmp 22)]) 142 "word.go:71" #[Edge.mk 9 Ground.data] none) [cy (W 1 w)] τ (bt (ai [cz (W 1 w)])) τ)/\[cz (W 1 w)]≠ []/\(∀(y:V),y∈ [cz (W 1 w)]->V.size y=1)/\A9 1 24/\Q (bm 0 1 1)/\di (I (U vi w):Int)=di (I w:Int)/\di (yr yq (0+1))=di (↑1:Int)/\cp 1 [] [G [bt (cz (W 1 w))]]=J/\Q [G [bt (cz (W 1 w))]]/\I0 ly (I bf.H) (dl (U cz ws)) bf [kl mn [1,1,1,0,1,0,0],bh 0,kc mn [1,1,1,1]] (b9 28 [(0,cy w),(3,bm 0 1 1),(8,cy w),(9,di (I w:Int)),(10,di (↑1:Int))]) (bi [G [bt (cz (W 1 w))]] [])) ?_
   have hw1:yq.wrap (0+1)=((0+1:Nat):Int):=by decide
   rw[hw1]
   refine⟨hb2,HS (by rw[HP];omega),P8 w,Iv _,by omega,P8 w,by decide,by show((0+1:Nat):Int)<=_;rw[HP];omega,Ls w (by omega) 0 hpos,fun τ=>vu _ τ rfl,by simp,fun y hy=>by rw[Ii.1 hy];rfl,⟨by decide,by decide⟩,rfl,by rw[HP],rfl,rfl,rfl,⟨g3⟩⟩
theorem UB(w:List Int):I (Ft w)<=12/\∀v∈Ft w,I v<=12:=by
 unfold Ft
 split
 ·rename_i h
  have h12:=Pw h
  have hl:=Sh (Ea w (I w))
  rw[L3] at hl
  exact⟨by omega,fun v hv=>Sm h12 (((DZ _).2 v).1 hv)⟩
 ·exact⟨by decide,by simp⟩
end Go.Proofs.YthmjfmacdlhfjaaGreat

namespace Go.Proofs.YthmjfmacdlhfjaaGreat
open Go.Dv Go.Nv
set_option maxRecDepth 20000
open List (length map take)
open Go.IntKind (u64)
open Go.IntKind renaming wrap → yr, i64 → yq
open List renaming length → I, map → U, drop → W
open Option renaming some → G
open Bool renaming true → J, false → O
open Decidable renaming decide → Y
open Int renaming toNat → Z
open Go.Dv.V renaming list → ai, str → ae, agg → ab, int → aa, ref → bz, fn → bw, nils → bv, bool → bu
open Go.Dv.D renaming v → bt, acc → br, ptr → bq, arr → bo, gro → bm, tup → bl, undef → bk, dagg → bj
open Go.Dv.St renaming mk → bi
open Go.Dv.KI renaming blk → bh
open _root_.ByteArray renaming mk → bg
open Go renaming Operand → x5, Program → x4, TypeId → yz, World → yy, Value → yx, Oper → yw, FuncId → yv, Func → yu, IntKind → yt
theorem U8(k:Nat)(h:k<=1000000):yq.wrap ((k:Int)+1)=((k+1:Nat):Int):=by rw[A2];omega
theorem FR{l:List Int}{x r:Int}(_:0<=x)(h:l[x.toNat]?=G r):(l.map vi)[Z x]?=G (vi r):=by rw[I9,h];rfl
noncomputable abbrev Aks:=Tryz.f242
theorem XC(x:Int):F0 242 [di x] (db (Y (x<0)||Y (x>=6))):=by
 exact sv Aks 9 [] (.b .r .r) ((Y (x<0)=J->db J=db (Y (x<0)||Y (x>=6)))/\(Y (x<0)=O->db (Y (x>=6))=db (Y (x<0)||Y (x>=6)))) ⟨fun h=>by rw[h];rfl,fun h=>by rw[h];rfl⟩
noncomputable abbrev sr:=Tryz.f218
def kj(rk:List Int):Bool:=Y ((I rk:Int)>=1)&&(Y ((I rk:Int)<=6)&& !(rk.any fun x=>Y (x<0)||Y (x>=6)))
theorem Abz(rk:List Int)(hr:I rk<=1000):F0 218 [cy rk] (db (kj rk)):=by
 rw[kj]
 by_cases h:Y ((I rk:Int)>=1)=J
 ·rw[h,I2]
  by_cases h2:Y ((I rk:Int)<=6)=J
  ·rw[h2,I2]
   exact sv sr 16 [] (.t<|.t<|.c (db (rk.any fun x=>Y (x<0)||Y (x>=6))) .r) (Y ((I (U vi rk):Int)>=1)=J/\Y ((I (U vi rk):Int)<=6)=J/\_/\(db !List.any rk fun x=>Y (x<0)||Y (x>=6))=db !List.any rk fun x=>Y (x<0)||Y (x>=6)) ⟨by rw[HP];exact h,by rw[HP];exact h2,DO 242 [] [] (fun x=>Y (x<0)||Y (x>=6)) rk (by omega) (fun x _=>XC x),rfl⟩
  ·rw[Ic h2,Iz]
   exact sv sr 16 [] (.t<|.f .r) (Y ((I (U vi rk):Int)>=1)=J/\Y ((I (U vi rk):Int)<=6)=O/\Q (db O)) ⟨by rw[HP];exact h,by rw[HP];exact Ic h2,rfl⟩
 ·rw[Ic h,Iz]
  exact sv sr 16 [] (.f .r) (Y ((I (U vi rk):Int)>=1)=O/\Q (db O)) ⟨by rw[HP];exact Ic h,rfl⟩
noncomputable abbrev Akp:=Tryz.f219
theorem X8(rk:List Int)(x:Int):F0 219 [di x,.v (.ref (cz rk))] (db (Y (x<0)||Y (x>=I rk))):=by
 exact sv Akp 12 [] (.b .r .r) ((Y (x<0)=J->db J=db (Y (x<0)||Y (x>=(I rk:Int))))/\(Y (x<0)=O->db (Y (x>=(I (U vi rk):Int)))=db (Y (x<0)||Y (x>=(I rk:Int))))) ⟨fun h=>by rw[h];rfl,fun h=>by rw[h,HP];rfl⟩
noncomputable abbrev sq:=Tryz.f174
def VX(rk w:List Int):Bool:=kj rk&&(Y ((I w:Int)<=12)&& !(w.any fun x=>Y (x<0)||Y (x>=I rk)))
theorem NX(rk w:List Int)(hr:I rk<=1000)(hw:I w<=1000):F0 174 [cy rk,cy w] (db (VX rk w)):=by
 have hb:=Abz rk hr
 rw[VX]
 cases hv:kj rk with
 |false=>
  rw[hv] at hb
  exact sv sq 18 [2] (.c (db O) .r) (_/\db O=db (false&&(Y ((I w:Int)<=12)&& !List.any w fun x=>Y (x<0)||Y (x>=(I rk:Int))))) ⟨hb,rfl⟩
 |true=>
  rw[hv] at hb
  rw[I2]
  by_cases h:Y ((I w:Int)<=12)=J
  ·rw[h,I2]
   exact sv sq 18 [2] (.c (db J)<|.k<|.t<|.c (db (w.any fun x=>Y (x<0)||Y (x>=I rk))) .r) (_/\Y ((I (U vi w):Int)<=12)=J/\_/\(db !List.any w fun x=>Y (x<0)||Y (x>=(I rk:Int)))=db !List.any w fun x=>Y (x<0)||Y (x>=(I rk:Int))) ⟨hb,by rw[HP];exact h,DO 219 [] [.ref (cz rk)] (fun x=>Y (x<0)||Y (x>=I rk)) w (by omega) (fun x _=>X8 rk x),rfl⟩
  ·rw[Ic h,Iz]
   exact sv sq 18 [2] (.c (db J)<|.k<|.f .r) (_/\Y ((I (U vi w):Int)<=12)=O/\Q (db O)) ⟨hb,by rw[HP];exact Ic h,rfl⟩
theorem GK{rk w:List Int}(hv:VX rk w=J):I w<=12/\∀x∈w,0<=x/\x<I rk:=by
 unfold VX at hv
 simp only[HR,IJ] at hv
 refine⟨by have:=Ib hv.2.1;omega,fun x hx=>?_⟩
 have:=List.any_eq_false.1 hv.2.2 x hx
 simp at this;omega
noncomputable abbrev jb:=Tryz.f172
noncomputable def TZ:=yj jb
def pc(rk w:List Int)(i:Nat):Bool:=Y (rk.getD (w.getD i 0).toNat 0<=rk.getD (w.getD (i+1) 0).toNat 0)
def Dz(rk w:List Int)(k:Nat):List (List Int):=((List.range k).filter (pc rk w)).map (gj w)
theorem PS{rk w:List Int}{k:Nat}(h:pc rk w k=J):Dz rk w (k+1)=Dz rk w k++[w.take k++w.drop (k+1)]:=by simp[Dz,List.range_succ,h,gj]
theorem SP{rk w:List Int}{k:Nat}(h:pc rk w k=O):Dz rk w (k+1)=Dz rk w k:=by simp[Dz,List.range_succ,h]
theorem PT(rk w:List Int)(k:Nat):I (Dz rk w k)<=k:=by
 have:=List.length_filter_le (pc rk w) (List.range k)
 rw[List.length_range] at this
 rw[Dz,HP];exact this
theorem SQ{rk w:List Int}(hw:I w<=12){k:Nat}{v:List Int}(h:v∈Dz rk w k):I v<=12:=by
 obtain⟨i,_,rfl⟩:=IA.1 h
 have:=YZ w i;omega
theorem we{rk w:List Int}{k:Nat}{x y rx ry:Int}(h1:w[k]?=G x)(h2:w[k+1]?=G y)(h3:rk[x.toNat]?=G rx)(h4:rk[y.toNat]?=G ry):pc rk w k=Y (rx<=ry):=by
 simp only[pc,HY,h1,h2,h3,h4,Jy]
def Gf(rk w:List Int):List (List Int):=if VX rk w=J then E7 (Dz rk w (I w-1)) else[]
theorem UX(rk w:List Int):I (Gf rk w)<=12/\∀v∈Gf rk w,I v<=12:=by
 unfold Gf
 split
 ·rename_i h
  have h12:=(GK h).1
  have hl:=Sh (Dz rk w (I w-1))
  have:=PT rk w (I w-1)
  exact⟨by omega,fun v hv=>SQ h12 (((DZ _).2 v).1 hv)⟩
 ·exact⟨by decide,by simp⟩
theorem Ab5(rk w:List Int)(hw:I w<=12)(hx:∀x∈w,0<=x/\x<I rk)(n:Nat):∀(k m:Nat) (outs:List (List Int)),I w-k=n->I outs=m+1->k+1<=I w->outs=Dz rk w k->
  Rn PP jb 0 (dl ((E7 (Dz rk w (I w-1))).map cz)) bf ([kl TZ [1,1,1,0,1,0,0],.blk 0,kc TZ [1,1,1,1]]++[]) (b9 50 [(0,cy rk),(1,cy w),(5,.gro 0 (m+1) 1),(6,di k)]) ⟨[G (Ad (outs.map cz))],[]⟩:=by
 induction n using Nat.strongRecOn with
 |_ n ih=>
 intro k m outs hn ho hkw houts
 have hm:=PT rk w k
 rw[←houts,ho] at hm
 by_cases hk:k+1<I w
 ·obtain⟨x,hx1⟩:=yi (show k<I w by omega)
  obtain⟨y,hy1⟩:=yi (show k+1<I w by omega)
  have bx:=hx x (HW hx1)
  have bY:=hx y (HW hy1)
  obtain⟨rx,hrx⟩:=yi (show x.toNat<I rk by omega)
  obtain⟨ry,hry⟩:=yi (show y.toNat<I rk by omega)
  have hpc:=we hx1 hy1 hrx hry
  by_cases hc:Y (rx<=ry)=J
  ·have g3:=ih (I w- (k+1)) (by omega) (k+1) (m+1) (outs++[w.take k++w.drop (k+1)]) rfl (by simp[ho]) (by omega) (by rw[houts];exact(PS (hpc.trans hc)).symm)
   generalize E7 (Dz rk w (I w-1))=ws at g3⊢
   clear houts
   refine lv 50 [] (.t<|.x (vi x)<|.x (vi rx)<|.x (vi y)<|.x (vi ry)<|.t<|.c (cy (w.take k++w.drop (k+1)))<|.lo [ke 0,ke 1,ch 5 (.gro 1 (m+1+1) 1),ch 6 (di (k+1:Nat))] ⟨[none,G (Ad ((outs++[w.take k++w.drop (k+1)]).map cz))],[]⟩) (Y (yr yq ((k:Int)+1)<(I (U vi w):Int))=J/\0<=(k:Int)/\(U vi w)[Z (k:Int)]?=G (vi x)/\0<=x/\(U vi rk)[Z x]?=G (vi rx)/\0<=yr yq ((k:Int)+1)/\(U vi w)[Z (yr yq ((k:Int)+1))]?=G (vi y)/\0<=y/\(U vi rk)[Z y]?=G (vi ry)/\Y (rx<=ry)=J/\(∀(x:V),x∈U vi w->V.size x=1)/\0<=(fun x=>x.snd) (yq,(k:Int))/\(fun x=>x.snd) (yq,(k:Int))<=(I (U vi w):Int)/\(∀(x:V),x∈U vi w->V.size x=1)/\0<=(fun x=>x.snd) (yq,yr yq ((k:Int)+1))/\(fun x=>x.snd) (yq,yr yq ((k:Int)+1))<=(I (U vi w):Int)/\F0 213 [bt (ai [ai (W 0 (take (Z ((fun x=>x.snd) (yq,(k:Int)))) (U vi w))),ai (W (Z ((fun x=>x.snd) (yq,yr yq ((k:Int)+1)))) (take (I (U vi w)) (U vi w)))])] (cy (take k w++W (k+1) w))/\I (Ad (U cz outs))=(m+1)*1/\[cz (take k w++W (k+1) w)]≠ []/\(∀(y:V),y∈ [cz (take k w++W (k+1) w)]->V.size y=1)/\A9 (m+1+I (cz (take k w++W (k+1) w)::nV)) 24/\bm 1 (m+1+I (cz (take k w++W (k+1) w)::nV)) 1=bm 1 (m+1+1) 1/\di (yr yq ((k:Int)+1))=di (↑(k+1):Int)/\cp 2 [] [none,G (Ad (U cz outs)++[bt (cz (take k w++W (k+1) w))])]=J/\[none,G (Ad (U cz outs)++[bt (cz (take k w++W (k+1) w))])]=[none,G (Ad (U cz (outs++[take k w++W (k+1) w])))]/\I0 jb 0 (dl (U cz ws)) bf [kl TZ [1,1,1,0,1,0,0],bh 0,kc TZ [1,1,1,1]] (b9 50 [(0,cy rk),(1,cy w),(5,bm 1 (m+1+1) 1),(6,di (↑(k+1):Int))]) (bi [none,G (Ad (U cz (outs++[take k w++W (k+1) w])))] [])) ?_
   rw[U8 k (by omega),MX]
   refine⟨HS (by rw[HP];omega),by omega,A3 hx1,bx.1,FR bx.1 hrx,by omega,A3 hy1,bY.1,FR bY.1 hry,hc,P8 w,by show(0:Int)<=(k:Int);omega,by show(k:Int)<=_;rw[HP];omega,P8 w,by show(0:Int)<=((k+1:Nat):Int);omega,by show((k+1:Nat):Int)<=_;rw[HP];omega,Ls w (by omega) k (by omega),by rw[Pu,ho],by simp,fun y hy=>by rw[Ii.1 hy];rfl,⟨by simp only[HV,HZ];omega,by simp only[HV,HZ];omega⟩,rfl,rfl,?_,rfl,⟨?_⟩⟩
   ·simp[cp,D.okNs,D.okN,Az]
   ·refine CW (H0:=[none]) (fun E0 E h=>h.2) 1 rfl (fun cs hc=>?_) ?_ ?_ g3
    ·simp at hc;rw[hc];exact A5 _
    ·simp[b9,D.okNs,D.okN]
    ·simp[b9,D.rens,D.ren]
  ·have g3:=ih (I w- (k+1)) (by omega) (k+1) m outs rfl ho (by omega) (by rw[houts];exact(SP (hpc.trans (Ic hc))).symm)
   generalize E7 (Dz rk w (I w-1))=ws at g3⊢
   clear houts
   refine lv 50 [] (.t<|.x (vi x)<|.x (vi rx)<|.x (vi y)<|.x (vi ry)<|.f<|.lo [ke 0,ke 1,ke 5,ch 6 (di (k+1:Nat))] ⟨[G (Ad (outs.map cz))],[]⟩) (Y (yr yq ((k:Int)+1)<(I (U vi w):Int))=J/\0<=(k:Int)/\(U vi w)[Z (k:Int)]?=G (vi x)/\0<=x/\(U vi rk)[Z x]?=G (vi rx)/\0<=yr yq ((k:Int)+1)/\(U vi w)[Z (yr yq ((k:Int)+1))]?=G (vi y)/\0<=y/\(U vi rk)[Z y]?=G (vi ry)/\Y (rx<=ry)=O/\di (yr yq ((k:Int)+1))=di (↑(k+1):Int)/\cp 1 [] [G (Ad (U cz outs))]=J/\Q [G (Ad (U cz outs))]/\I0 jb 0 (dl (U cz ws)) bf [kl TZ [1,1,1,0,1,0,0],bh 0,kc TZ [1,1,1,1]] (b9 50 [(0,cy rk),(1,cy w),(5,bm 0 (m+1) 1),(6,di (↑(k+1):Int))]) (bi [G (Ad (U cz outs))] [])) ?_
   rw[U8 k (by omega)]
   exact⟨HS (by rw[HP];omega),by omega,A3 hx1,bx.1,FR bx.1 hrx,by omega,A3 hy1,bY.1,FR bY.1 hry,Ic hc,rfl,Ik.2 ⟨Az 1 [] _,rfl⟩,rfl,⟨g3⟩⟩
 ·have hlen:I (sortW outs)=I outs:=(D7 outs).length_eq
  have hs:∀v∈outs,I v<=12:=fun v hv=>by rw[houts] at hv;exact SQ hw hv
  obtain⟨R,h3,h5,h4⟩:=xk 211 (sortW outs) j2 (by omega) (fun x hx y hy=>Dr x y (by have:=hs x ((D7 outs).mem_iff.1 hx);omega))
  rw[hlen,ho] at h4
  rw[show I w-1=k by omega, ←houts]
  obtain⟨ys,hys⟩:∃ys,ys=E7 outs:=⟨_,rfl⟩
  rw[show AW j2 (sortW outs)=E7 outs from rfl, ←hys] at h4
  rw[←hys]
  refine lv 50 [] (.f<|.h (.q 9 0)<|.h (.ga 5)<|.h (.oc (.tup []) ⟨[G (Ad ((sortW outs).map cz))],[]⟩)<|.h (.oc (.arr 0 0 (I ys)) ⟨[G (Ad (ys.map cz)++R)],[]⟩)<|.h (.q 10 2)<|.h (.ct 49 (dl (ys.map cz)) ⟨[none],[]⟩) .r) (Y (yr yq ((k:Int)+1)<(I (U vi w):Int))=O/\(∀(o:yw) (c:Call) (fo:x5),o.op=Op.call c->c.callee=Callee.value fo->Ay PP o [bt (bw 214 [] []),bo 0 0 (m+1),bt (bw 215 [] [])] (bi [G (Ad (U cz outs))] []) (bl []) (bi [G (Ad (U cz (sortW outs)))] []))/\(∀(o:yw) (c:Call) (fo:x5),o.op=Op.call c->c.callee=Callee.value fo->Ay PP o [bt (bw 216 [] []),bo 0 0 (m+1),bt (bw 211 [] [])] (bi [G (Ad (U cz (sortW outs)))] []) (bo 0 0 (I ys)) (bi [G (Ad (U cz ys)++R)] []))/\(∀(e:List D),e[49]?=G (bo 0 0 (I ys))->∀(E:co) (g:Gh) (a:Act) (w:yy),FI E g (bi [G (Ad (U cz ys)++R)] []) e a w->∃g',FI E g' (bi [none] []) (List.set e 49 (dl (U cz ys))) a w)/\bt (ai (U cz ys))=dl (U cz ys)) ?_
  rw[U8 k (by omega)]
  have hsp:=ME Sl outs (by omega) (fun v hv=>by have:=hs v hv;omega)
  rw[ho] at hsp
  refine⟨HU (by rw[HP];omega),fun o cl fo hop hc=>?_,fun o cl fo hop hc=>?_,fun e he=>?_,rfl⟩
  ·exact C9 (H:=[Ad (outs.map cz)]) hop hc (fs:=[]) (cs:=[]) (ds:=[.arr 0 0 (m+1),dfn 215]) rfl hsp rfl (fun cs hm=>by rw[Ii.1 hm];exact⟨Az _ _ _,M5 _⟩) rfl (Ik.2 ⟨Az _ _ _,rfl⟩) (HX _)
  ·exact C9 (H:=[Ad ((sortW outs).map cz)]) hop hc (fs:=[]) (cs:=[]) (ds:=[.arr 0 0 (m+1),dfn 211]) rfl h4 rfl (fun cs hm=>by rw[Ii.1 hm];exact⟨Az _ _ _,M5 _⟩) rfl (Ik.2 ⟨B2 (M4 _ h3),rfl⟩) (HX _)
  ·exact K4 (σ:=⟨[G (Ad (ys.map cz)++R)],[]⟩) (q:=0) (sz:=1) (rest:=R) (by decide) (fun x hx=>by obtain⟨y,_,rfl⟩:=IA.1 hx;rfl) (by rw[HP]) rfl he
theorem XD(rk w:List Int)(hw:w.length<=12)(hx:∀x∈w,0<=x/\x<rk.length)(n:Nat):∀(k:Nat),w.length-k=n->(k=0∨k+1<=w.length)->Dz rk w k=[]->
  Rn PP jb 0 (dl ((E7 (Dz rk w (w.length-1))).map cz)) bf ([kl TZ [1,1,1,0,1,0,0],.blk 0,kc TZ [1,1,1,1]]++[]) (b9 50 [(0,cy rk),(1,cy w),(5,.v .nils),(6,di k)]) bf:=by
 induction n using Nat.strongRecOn with
 |_ n ih=>
 intro k hn hkw houts
 by_cases hk:k+1<w.length
 ·obtain⟨x,hx1⟩:=yi (show k<w.length by omega)
  obtain⟨y,hy1⟩:=yi (show k+1<w.length by omega)
  have bx:=hx x (HW hx1)
  have bY:=hx y (HW hy1)
  obtain⟨rx,hrx⟩:=yi (show x.toNat<rk.length by omega)
  obtain⟨ry,hry⟩:=yi (show y.toNat<rk.length by omega)
  have hpc:=we hx1 hy1 hrx hry
  by_cases hc:decide (rx<=ry)=true
  ·have g3:=Ab5 rk w hw hx (w.length- (k+1)) (k+1) 0 [w.take k++w.drop (k+1)] rfl rfl (by omega) (by rw[PS (hpc.trans hc),houts];rfl)
   generalize E7 (Dz rk w (w.length-1))=ws at g3⊢
   refine lv 50 [] (.t<|.x (vi x)<|.x (vi rx)<|.x (vi y)<|.x (vi ry)<|.t<|.c (cy (w.take k++w.drop (k+1)))<|.h (.p (.v (.list [cz (w.take k++w.drop (k+1))])))<|.h .g<|.lo [ke 0,ke 1,ch 5 (.gro 0 1 1),ch 6 (di (k+1:Nat))] ⟨[some (Ad ([w.take k++w.drop (k+1)].map cz))],[]⟩) (decide (yr yq ((k:Int)+1)<(length (map vi w):Int))=true/\0<=(k:Int)/\(map vi w)[Int.toNat (k:Int)]?=some (vi x)/\0<=x/\(map vi rk)[Int.toNat x]?=some (vi rx)/\0<=yr yq ((k:Int)+1)/\(map vi w)[Int.toNat (yr yq ((k:Int)+1))]?=some (vi y)/\0<=y/\(map vi rk)[Int.toNat y]?=some (vi ry)/\decide (rx<=ry)=true/\(∀(x:V),x∈map vi w->V.size x=1)/\0<=(fun x=>x.snd) (yq,(k:Int))/\(fun x=>x.snd) (yq,(k:Int))<=(length (map vi w):Int)/\(∀(x:V),x∈map vi w->V.size x=1)/\0<=(fun x=>x.snd) (yq,yr yq ((k:Int)+1))/\(fun x=>x.snd) (yq,yr yq ((k:Int)+1))<=(length (map vi w):Int)/\F0 213 [bt (ai [ai (List.drop 0 (take (Int.toNat ((fun x=>x.snd) (yq,(k:Int)))) (map vi w))),ai (List.drop (Int.toNat ((fun x=>x.snd) (yq,yr yq ((k:Int)+1)))) (take (length (map vi w)) (map vi w)))])] (cy (take k w++List.drop (k+1) w))/\(∀(τ:St),Ay PP (Oper.mk (some 44) (Op.buildSlice 142 1 #[(0,Operand.tmp 43)]) 142 "priority.go:29" #[Edge.mk 9 Ground.data] none) [cy (take k w++List.drop (k+1) w)] τ (bt (ai [cz (take k w++List.drop (k+1) w)])) τ)/\[cz (take k w++List.drop (k+1) w)]≠ []/\(∀(y:V),y∈ [cz (take k w++List.drop (k+1) w)]->V.size y=1)/\A9 1 24/\Q (bm 0 1 1)/\di (yr yq ((k:Int)+1))=di (↑(k+1):Int)/\cp 1 [] [some [bt (cz (take k w++List.drop (k+1) w))]]=true/\Q [some [bt (cz (take k w++List.drop (k+1) w))]]/\I0 jb 0 (dl (map cz ws)) bf [kl TZ [1,1,1,0,1,0,0],bh 0,kc TZ [1,1,1,1]] (b9 50 [(0,cy rk),(1,cy w),(5,bm 0 1 1),(6,di (↑(k+1):Int))]) (bi [some [bt (cz (take k w++List.drop (k+1) w))]] [])) ?_
   rw[U8 k (by omega)]
   exact⟨HS (by rw[HP];omega),by omega,A3 hx1,bx.1,FR bx.1 hrx,by omega,A3 hy1,bY.1,FR bY.1 hry,hc,P8 w,by show(0:Int)<=(k:Int);omega,by show(k:Int)<=_;rw[HP];omega,P8 w,by show(0:Int)<=((k+1:Nat):Int);omega,by show((k+1:Nat):Int)<=_;rw[HP];omega,Ls w (by omega) k (by omega),fun τ=>vu _ τ rfl,by simp,fun y hy=>by rw[Ii.1 hy];rfl,⟨by decide,by decide⟩,rfl,rfl,rfl,rfl,⟨g3⟩⟩
  ·have g3:=ih (w.length- (k+1)) (by omega) (k+1) rfl (by omega) (by rw[SP (hpc.trans (Ic hc))];exact houts)
   generalize E7 (Dz rk w (w.length-1))=ws at g3⊢
   refine lv 50 [] (.t<|.x (vi x)<|.x (vi rx)<|.x (vi y)<|.x (vi ry)<|.f<|.l [ke 0,ke 1,ke 5,ch 6 (di (k+1:Nat))]) (decide (yr yq ((k:Int)+1)<(length (map vi w):Int))=true/\0<=(k:Int)/\(map vi w)[Int.toNat (k:Int)]?=some (vi x)/\0<=x/\(map vi rk)[Int.toNat x]?=some (vi rx)/\0<=yr yq ((k:Int)+1)/\(map vi w)[Int.toNat (yr yq ((k:Int)+1))]?=some (vi y)/\0<=y/\(map vi rk)[Int.toNat y]?=some (vi ry)/\decide (rx<=ry)=false/\di (yr yq ((k:Int)+1))=di (↑(k+1):Int)/\I0 jb 0 (dl (map cz ws)) bf [kl TZ [1,1,1,0,1,0,0],bh 0,kc TZ [1,1,1,1]] (b9 50 [(0,cy rk),(1,cy w),(5,dn),(6,di (↑(k+1):Int))]) (bi [] [])) ?_
   rw[U8 k (by omega)]
   exact⟨HS (by rw[HP];omega),by omega,A3 hx1,bx.1,FR bx.1 hrx,by omega,A3 hy1,bY.1,FR bY.1 hry,Ic hc,rfl,⟨g3⟩⟩
 ·have e:E7 (Dz rk w (w.length-1))=[]:=by
   rw[show Dz rk w (w.length-1)=[] by rw[show w.length-1=k by omega];exact houts]
   simp[E7,sortW,AW]
  rw[e]
  refine lv 50 [] (.f<|.c (.tup [])<|.c (dl []) .r) (decide (yr yq ((k:Int)+1)<(length (map vi w):Int))=false/\F0 214 [bt (ai []),bt (bw 215 [] [])] (bl [])/\F0 216 [bt (ai []),bt (bw 211 [] [])] (dl [])/\bt (ai [])=dl (map cz [])) ?_
  refine⟨?_,PC,ZZ _,rfl⟩
  rw[HP,U8 k (by omega)];exact yo
theorem Ab4(rk w:List Int)(hr:I rk<=1000)(hw:I w<=1000):F0 172 [cy rk,cy w] (dl ((Gf rk w).map cz)):=by
 have hb2:=NX rk w hr hw
 unfold Gf
 cases hv:VX rk w with
 |false=>
  rw[hv] at hb2
  rw[Ij (by decide)]
  exact sv jb 50 [] (.c (db O) .r) (_/\Q (bt (ai []))) ⟨hb2,rfl⟩
 |true=>
  rw[hv] at hb2
  rw[Io rfl]
  obtain⟨h12,hx⟩:=GK hv
  have g3:=XD rk w h12 hx _ 0 rfl (.inl rfl) rfl
  generalize E7 (Dz rk w (I w-1))=ws at g3⊢
  exact sv jb 50 [] (.c (db J)<|.k<|.l [ke 0,ke 1,ke 5,ch 6 (di (0:Nat))]) (_/\Q (di 0)/\_) ⟨hb2,rfl,iK g3⟩
def Po(L:Int)(v:bd):Prop:=∃ks:List Int,I ks<=2/\(∀x∈ks,0<=x/\x<L)/\v=.mk 0 (ks.map fun x=>.mk x [])
theorem Po.size{L:Int}{v:bd}(h:Po L v):v.size<=3:=by
 obtain⟨ks,h1,_,rfl⟩:=h
 simp only[bd.size,JA];omega
theorem OP(os:List bd)(v:bd):os.map eV++[Au v]=(os++[v]).map eV:=by rw[←AR];simp
abbrev ud:List (List UInt8):=[[114],[115],[116],[117]]
def ii(nm:List UInt8)(f t ch ac le:Int):cq:=⟨nm,f,t,[],[],[],ch,ac,le,[],[],[],[],0⟩
structure ZW(ns np nl:Nat)(k:Nat)(r:cq):Prop where
 name:ud[k]?=G r.name
 aj:0<=r.aj/\r.aj<ns
 to:0<=r.to/\r.to<ns
 act:r.act=0/\r.chan=0/\r.letter=0∨(1<=r.act/\r.act<=2)/\(0<=r.chan/\r.chan<np)/\(0<=r.letter/\r.letter<nl)
 rest:r=ii r.name r.aj r.to r.chan r.act r.letter
structure wy(K:Int)(m:ba):Prop where
 kind:m.kind=K
 aw:∃n:Nat,1<=n/\n<=3/\m.aw=([[97],[98],[99]]:List (List UInt8)).take n
 ay:m.ay=[[120]]∨m.ay=[[120],[121]]
 ax:m.ax=[[112]]∨m.ax=[[112],[113]]
 au:if K=3 then I m.au=I m.ax/\∀x∈m.au,0<=x/\x<=1 else m.au=[]
 ao:m.ao=0
 age:m.age=0
 count:I m.av<=4
 pos:1<=I m.av
 av:∀k r,m.av[k]?=G r->ZW (I m.aw) (I m.ay) (I m.ax) k r
 start:∃ys:List bd,I ys=I m.ay/\(∀y∈ys,Po (I m.ax) y)/\m.start=.mk 0 (.mk 0 []::ys)
theorem Ace{rs:List cq}(h3:I rs<=4){ns np nl:Nat}(h:∀k r,rs[k]?=G r->ZW ns np nl k r):rs.map cq.name=ud.take (I rs):=by
 apply List.ext_getElem?
 intro i
 by_cases hi:i<I rs
 ·have hx:rs[i]?=G rs[i]:=HQ hi
  rw[I9,hx,List.getElem?_take_of_lt hi,(h i _ hx).name];rfl
 ·rw[IF (by simp;omega),IF (by simp;omega)]
theorem Aau{L:Int}{v:bd}(h:Po L v):(v.n==0)=J/\Y ((I v.az:Int)<=12)=J/\(v.az.all fun k=>Cy L k)=J:=by
 obtain⟨ks,h1,h2,rfl⟩:=h
 refine⟨rfl,HS (by simp only[bd.az,HP];omega),?_⟩
 simp only[bd.az,ID]
 intro k hk
 obtain⟨x,hx,rfl⟩:=IA.1 hk
 have:=h2 x hx
 simp only[Cy,bd.n,bd.az,HR,Ia]
 exact⟨HS this.1,HS this.2,rfl⟩
theorem Px(t:bc)(L:Int)(ht:∀v,Po L v->A0 t v=J):∀(n:Nat) (ys:List bd),I ys=n->(∀y∈ys,Po L y)->B1 (List.replicate n t) ys=J
 |0,ys,h,_=>by
  cases ys with
  |nil=>rfl
  |cons y ys=>simp at h
 |n+1,ys,h,hy=>by
  cases ys with
  |nil=>simp at h
  |cons y ys=>
   simp only[IL,B1,HR]
   exact⟨ht y (hy y (by simp)),Px t L ht n ys (by simpa using h) fun z hz=>hy z (by simp[hz])⟩
theorem ND(L:Int):∀(ys:List bd),(∀y∈ys,Po L y)->bd.sizes ys<=3*I ys
 |[],_=>HX _
 |y::ys,h=>by
  have h1:=(h y (by simp)).size
  have h2:=ND L ys fun z hz=>h z (by simp[hz])
  simp only[bd.sizes,HV];omega
theorem VI(m:ba)(hk:m.kind=2∨m.kind=3)(hpl:I m.ay<=2)(s:Int)(hs:0<=s/\s<I m.aw)(ys:List bd)(hy:I ys=I m.ay)(h:∀y∈ys,Po (I m.ax) y):Aw (AJ m) (.mk 0 (.mk s []::ys))=J:=by
 have hsz:=ND _ ys h
 rw[Aw,HS (by simp only[bd.size,bd.sizes];omega),I2,AJ]
 have he:∀v,Po (I m.ax) v->A0 (BB m) v=J:=fun v hv=>by
  obtain⟨h1,h2,h3⟩:=Aau hv
  rcases hk with hk|hk
  ·rw[show BB m=.word (.lab (I m.ax)) by simp[BB,hk]]
   simp only[A0,HR]
   exact⟨h1,h2,h3⟩
  ·rw[show BB m=.prio (I m.ax) m.au by simp[BB,hk]]
   simp only[A0,HR]
   exact⟨h1,h2,h3⟩
 simp only[A0,bd.n,bd.az,B1,Cy,HR,Ia,I4]
 refine⟨?_,by simp[hy],⟨HS hs.1,HS hs.2,by rfl⟩,Px _ _ he _ ys hy h⟩
 first|trivial|rfl
theorem wy.ok{K:Int}{m:ba}(hK:K=2∨K=3)(h:wy K m):m.ok:=by
 have hk:=h.kind
 have hk1:¬m.kind=1:=by omega
 have hst:1<=I m.aw/\m.aw.length<=3:=by obtain⟨n,h1,h2,e⟩:=h.aw;rw[e,Iy];simp only[HV,HZ];omega
 have hpl:1<=I m.ay/\m.ay.length<=2:=by rcases h.ay with e|e<;>rw[e]<;>decide
 have hll:1<=I m.ax/\m.ax.length<=2:=by rcases h.ax with e|e<;>rw[e]<;>decide
 have hb:∀{x a b:Int},a<=x->x<=b->A6 x a b=J:=fun h1 h2=>by simp[A6,h1,h2]
 have hget:∀r∈m.av,ZW (I m.aw) (I m.ay) (I m.ax) (m.av.idxOf r) r:=fun r hr=>by
  have hi:=List.idxOf_lt_length_of_mem hr
  exact h.av _ r (by rw[HQ hi,List.getElem_idxOf])
 have hc:=h.count
 refine⟨.inr (by omega),?_,?_,?_,?_,?_,?_,?_⟩
 ·simp only[C3,HC,Ij hk1,HR,Ia,h.ao,h.age]
  exact⟨hb (by omega) (by omega),by omega,hb (by omega) (by omega),hb (by omega) (by omega),by decide,by decide⟩
 ·have hr:=h.au
  rw[BJ]
  rcases hK with rfl|rfl
  ·rw[Ij (by decide)] at hr
   rw[Io (by rw[hk];rfl),hr];rfl
  ·rw[Io rfl] at hr
   rw[Ij (by rw[hk];decide)]
   simp only[HR,I4,ID]
   exact⟨by omega,fun x hx=>hb (hr.2 x hx).1 (by have:=(hr.2 x hx).2;omega)⟩
 ·have hn:=Ace h.count h.av
  obtain⟨n,n1,n2,e⟩:=h.aw
  rw[Db,Dq,hn,BR]
  have:I m.av=0∨m.av.length=1∨m.av.length=2∨m.av.length=3∨m.av.length=4:=by omega
  rcases(show n=1∨n=2∨n=3 by omega) with rfl|rfl|rfl<;>rcases h.ay with e'|e'<;>rcases h.ax with e3|e3<;>rcases this with e2|e2|e2|e2|e2<;>rw[e,e',e2,e3]<;>decide+kernel
 ·intro r hr
  rw[(hget r hr).rest]
  exact⟨I3 _,I3 _,I3 _,I3 _,I3 _,I3 _,I3 _⟩
 ·intro r hr
  have hm:=hget r hr
  obtain⟨f1,f2⟩:=hm.aj
  obtain⟨t1,t2⟩:=hm.to
  have ha:=hm.act
  have hr:=hm.rest
  generalize r.name=nm at hr
  generalize r.aj=f at*
  generalize r.to=t at*
  generalize r.chan=cn at*
  generalize r.act=ac at*
  generalize r.letter=le at*
  subst hr
  rw[Da,Ij hk1]
  simp only[Es,BU,He,ii,DW,HR,I4,Ia,I6,true_and]
  refine⟨hb (by omega) (by omega),hb (by omega) (by omega),?_⟩
  rcases ha with⟨rfl,rfl,rfl⟩|⟨h1,h2,h3⟩
  ·rfl
  ·rw[Ij (by omega)]
   simp only[HR]
   exact⟨hb (by omega) (by omega),hb (by omega) (by omega),hb (by omega) (by omega)⟩
 ·obtain⟨ys,y1,y2,y3⟩:=h.start
  rw[y3]
  exact VI m (by omega) (by omega) 0 ⟨by omega,by omega⟩ ys y1 y2
 ·obtain⟨ys,y1,y2,y3⟩:=h.start
  have:=ND _ ys y2
  rw[y3];simp only[bd.size,bd.sizes];omega
noncomputable abbrev CB:=Tryz.f144
noncomputable def B6:=yj CB
abbrev ei(n:Int)(l:List bd):St:=⟨[G [di 0,.v .nils],G [di n,.acc 1 (l.map eV)]],[(1,2,l.map eV)]⟩
theorem V7(v:bd)(hv:v.size<=1000000)(hk:∀x∈v.az,F0 144 [dV x] (dV x))(n:Nat):∀k:Nat,I v.az-k=n->
  Rn PP CB 0 (dV v) bf ([kl B6 [1,1,0,1,0,0],.blk 0,kc B6 [1,1,1]]++[]) (b9 27 [(1,.v (.ref (Au v))),(2,.ptr 0 0),(3,.ptr 1 0),(4,di k)]) (ei v.n (v.az.take k)):=by
 have hs:=v.size_eq
 have hl:=bd.length_le v.az
 induction n with
 |zero=>
  intro k hn
  refine lv 27 [1] (.f .r) (Y ((k:Int)<(I (U eV v.az):Int))=O/\bt (ab [vi v.n,ai (U eV (take k v.az))])=dV v) ?_
  rw[Iw (by omega)]
  exact⟨HU (by rw[HP];omega),rfl⟩
 |succ n ih=>
  intro k hn
  obtain⟨x,hx⟩:∃x,v.az[k]?=G x:=⟨_,HQ (show k<I v.az by omega)⟩
  have ht:v.az.take (k+1)=v.az.take k++[x]:=by rw[Jn,hx];rfl
  refine lv 27 [1] (.t<|.h (.xs (Au x))<|.c (dV x)<|.ls [ke 1,ke 2,ke 3,ch 4 (di (k+1:Nat))] (ei v.n (v.az.take (k+1)))) (Y ((k:Int)<(I (U eV v.az):Int))=J/\Q 2/\0<=(k:Int)/\(U eV v.az)[Z (k:Int)]?=G (Au x)/\_/\Q (U eV (take k v.az))/\A9 (I (U eV (take k v.az))+I (Au x::nV)) 32/\yn/\di (yr yq ((k:Int)+1))=di (↑(k+1):Int)/\[G [di 0,dn],G [di v.n,br 1 (U eV (take k v.az)++Au x::nV)]]=[G [di 0,dn],G [di v.n,br 1 (U eV (take (k+1) v.az))]]/\[(1,2,U eV (take k v.az)++Au x::nV)]=[(1,2,U eV (take (k+1) v.az))]/\_) ⟨HS (by rw[HP];omega),rfl,by omega,A1 hx,hk x (HW hx),rfl,⟨?_,?_⟩,yl,As,?_,?_,iK (ih (k+1) (by omega))⟩
  ·simp only[HP,Iy,HV,HZ];omega
  ·simp only[HP,Iy,HV,HZ];omega
  ·rw[ht,Dt]
  ·rw[ht,Dt]
theorem GU(N:Nat):∀v:bd,v.size<=N->v.size<=1000000->F0 144 [dV v] (dV v):=by
 induction N with
 |zero=>intro v h;have:=v.size_pos;omega
 |succ N ih=>
  intro v hN hv
  have hs:=v.size_eq
  have:=V7 v hv (fun x hx=>by have:=bd.size_mem hx;exact ih x (by omega) (by omega)) _ 0 rfl
  exact sv CB 27 [1] (.h .rn<|.h (.q 2 0)<|.h (.cl 1 1 1 2)<|.ls [ke 1,ke 2,ke 3,ch 4 (di (0:Nat))] (ei v.n [])) (Q (di 0)/\Q (ei v.n []).H/\Q [(1,2,nV)]/\I0 CB (I bf.H) (dV v) bf [kl B6 [1,1,0,1,0,0],bh 0,kc B6 [1,1,1]] (b9 27 [(1,bt (bz (Au v))),(2,bq 0 0),(3,bq 1 0),(4,di (↑0:Int))]) (ei v.n [])) ⟨rfl,rfl,rfl,⟨by simpa using this⟩⟩
def r8(np age:Int)(v:bd):Prop:=∃p g:Int,(0<=p/\p<np)/\(0<=g/\g<age+2)/\v=.mk 0 [.mk p [],.mk g []]
structure AmD(np age:Int)(n:Nat)(ts:List bd):Prop where
 tok:∀t∈ts,r8 np age t
 len:I ts<=n
 asc:∀i x y,ts[i]?=G x->ts[i+1]?=G y->AB x y<0
theorem r8.sz{np age:Int}{v:bd}(h:r8 np age v):v.size=3:=by
 obtain⟨p,g,_,_,rfl⟩:=h;rfl
theorem qa:Ce PP 29=G (31,2,32,G (.agg #[.int .i64 0,.slice none 0 0])):=by kernel_rfl
abbrev uc:List (List UInt8):=[[114],[115]]
def d9(nm:List UInt8)(f t:Int)(tk:List Tk)(mk:List Int):cq:=⟨nm,f,t,[],[],[],0,0,0,[],[],tk,mk,0⟩
structure ZV(ns np:Nat)(ag:Int)(k:Nat)(r:cq):Prop where
 name:uc[k]?=G r.name
 aj:0<=r.aj/\r.aj<ns
 to:0<=r.to/\r.to<ns
 ar:r.ar=[]∨∃p lo hi:Int,(0<=p/\p<np)/\(0<=lo/\lo<=hi/\hi<=ag+1)/\r.ar=[⟨p,lo,hi⟩]
 aq:r.aq=[]∨∃p:Int,(0<=p/\p<np)/\r.aq=[p]
 rest:r=d9 r.name r.aj r.to r.ar r.aq
structure FZ(m:ba):Prop where
 kind:m.kind=5
 aw:m.aw=[[97]]∨m.aw=[[97],[98]]
 ay:m.ay=[[120]]∨m.ay=[[120],[121]]
 ax:m.ax=[]
 au:m.au=[]
 ao:m.ao=0
 age:0<=m.age/\m.age<=1
 count:I m.av<=2
 pos:1<=I m.av
 av:∀k r,m.av[k]?=G r->ZV (I m.aw) (I m.ay) m.age k r
 start:∃ts:List bd,AmD (I m.ay) m.age 2 ts/\m.start=.mk 0 [.mk 0 [],.mk 0 ts]
end Go.Proofs.YthmjfmacdlhfjaaGreat
