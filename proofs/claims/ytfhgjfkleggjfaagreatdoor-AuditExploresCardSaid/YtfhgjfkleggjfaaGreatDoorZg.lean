/-
  A part of the proof.
-/
import Derived.Test.YtfhgjfkleggjfaaGreatDoorZf
import Derived.Test.YtfhgjfkleggjfaaGreatDoorZe
namespace Go.Proofs.YtfhgjfkleggjfaaGreatDoor
open Go.Dv Go.Nv
set_option maxRecDepth 20000
open List (all_cons flatten flatten_nil length_map length_set map_drop map_take mem_singleton range_succ replicate take)
open Go.IntKind (u64)
open Go.IntKind renaming wrap → yu, i64 → yt
open List renaming length → I, map → U, drop → W
open Option renaming some → G
open Bool renaming true → J, false → O
open Decidable renaming decide → Y
open Int renaming toNat → Z
open Go.Dv.V renaming list → ai, str → ae, agg → ab, int → aa, ref → bz, fn → bw, nils → bv, bool → bu
open Go.Dv.D renaming v → bt, acc → br, ptr → bq, arr → bo, gro → bm, tup → bl, undef → bk, dagg → bj
open Go.Dv.St renaming mk → bi
open Go.Dv.KI renaming blk → bh
open _root_.ByteArray renaming mk → bf
open Go renaming Operand → x8, Program → x7, TypeId → x6, World → x5, Value → yz, Oper → yy, FuncId → yx, Func → yw, IntKind → yv
theorem AcC{rs:List cp}(h3:I rs<=2){ns np:Nat}{ag:Int}(h:∀k r,rs[k]?=G r->NM ns np ag k r):rs.map cp.name=p5.take (I rs):=by
 apply List.ext_getElem?
 intro i
 by_cases hi:i<I rs
 ·have hx:rs[i]?=G rs[i]:=HA hi
  rw[Ir,hx,List.getElem?_take_of_lt hi,(h i _ hx).name];rfl
 ·rw[Iy (by simp;omega),Iy (by simp;omega)]
structure Dj(m:b9):Prop where
 kind:m.kind=5
 aw:m.aw=[[97]]∨m.aw=[[97],[98]]
 ay:m.ay=[[120]]∨m.ay=[[120],[121]]
 ax:m.ax=[]
 au:m.au=[]
 ao:m.ao=0
 age:0<=m.age/\m.age<=1
 count:I m.av<=2
 named:Ew m=J
structure FZ(m:b9):Prop where
 n:Dj m
 av:∀k r,m.av[k]?=G r->NM (I m.aw) (I m.ay) m.age k r
theorem BB.n{m:b9}(h:BB m):Dj m:=⟨h.kind,h.aw,h.ay,h.ax,h.au,h.ao,h.age,h.count,by
 have hn:=AcC h.count h.av
 have hc:=h.count
 rw[Ew,EP,hn,BW,h.ax]
 have:I m.av=0∨m.av.length=1∨m.av.length=2:=by omega
 rcases h.aw with e|e<;>rcases h.ay with e'|e'<;>rcases this with e2|e2|e2<;>rw[e,e',e2]<;>decide+kernel⟩
theorem BB.s{m:b9}(h:BB m):FZ m:=⟨h.n,h.av⟩
instance {m:b9}:Coe (BB m) (Dj m):=⟨BB.n⟩
instance {m:b9}:Coe (FZ m) (Dj m):=⟨FZ.n⟩
instance {m:b9}:Coe (BB m) (FZ m):=⟨BB.s⟩
theorem Dj.sz{m:b9}(h:Dj m):(1<=I m.aw/\m.aw.length<=2)/\(1<=I m.ay/\m.ay.length<=2):=
 ⟨by rcases h.aw with e|e<;>rw[e]<;>decide,by rcases h.ay with e|e<;>rw[e]<;>decide⟩
theorem BB.sz{m:b9}(h:BB m):(1<=I m.aw/\m.aw.length<=2)/\(1<=I m.ay/\m.ay.length<=2):=h.n.sz
theorem FZ.right{m:b9}(h:FZ m)(r:cp)(hr:r∈m.av):F0 74 [Af m,Cu r] (db J):=by
 obtain⟨hst,hpl⟩:=h.n.sz
 have hag:=h.n.age
 have hi:=List.idxOf_lt_length_of_mem hr
 have hm:=h.av _ r (by rw[HA hi,List.getElem_idxOf])
 rw[hm.rest]
 refine XI m (by omega) (by omega) h.n.kind (by omega) _ _ _ _ _ hm.aj hm.to ?_ ?_ ?_ ?_
 ·rcases hm.ar with e|⟨p,lo,hi,_,_,e⟩<;>rw[e]<;>simp
 ·rcases hm.aq with e|⟨p,_,e⟩<;>rw[e]<;>simp
 ·rcases hm.ar with e|⟨p,lo,hi,h1,h2,e⟩
  ·rw[e];simp
  ·rw[e];intro t ht;rw[HQ.1 ht];exact⟨h1,h2⟩
 ·rcases hm.aq with e|⟨p,h1,e⟩
  ·rw[e];simp
  ·rw[e];intro t ht;rw[HQ.1 ht];exact h1
theorem BB.right{m:b9}(h:BB m)(r:cp)(hr:r∈m.av):F0 74 [Af m,Cu r] (db J):=h.s.right r hr
theorem VQ(m:b9)(hm:FZ m)(r:cp)(hr:r∈m.av):F0 73 [Cu r,.v (.ref (A1 m))] (db O):=by
 exact sv AiY 8 [2] (.c (db J) .r) (_/\Q (db O)) ⟨hm.right r hr,rfl⟩
theorem Dj.good{m:b9}(h:Dj m):CB 8 (As m)=J:=Akt m (by have:=h.sz;omega) (by have:=h.sz;omega) (by have:=h.age;omega)
theorem BB.good{m:b9}(h:BB m):CB 8 (As m)=J:=h.n.good
theorem BB.start_ok{m:b9}(h:BB m):Ah (As m) m.start=J:=by
 obtain⟨ts,h1,h2⟩:=h.start
 have:=h.sz
 rw[h2];exact Aal m 0 ⟨by omega,by omega⟩ ts h1
theorem AdF(m:b9)(hm:FZ m):F0 41 [Af m] (di (if Ah (As m) m.start then 0 else 17)):=by
 obtain⟨hst,hpl⟩:=hm.n.sz
 have hag:=hm.n.age
 have hc:=hm.n.count
 have hb:∀{x a b:Int},a<=x->x<=b->Ay x a b=J:=fun h1 h2=>by simp[Ay,h1,h2]
 have:=Aaa m true true true true false (Ah (As m) m.start) (by rw[hm.n.kind];rfl) (fun _=>?_) (fun _=>?_) (fun _=>?_) (fun _=>?_) (fun _=>AeH m _ _ (by rw[hm.n.kind];rfl) (Lx m hm.n.kind (by omega)) (KV _ hm.n.good _))
 ·exact this
 ·have:=MG t6 m (by rw[hm.n.kind];exact Al8)
  rwa[show CE t6 m=J by
   simp only[CE,HB,HK,hm.n.ax,hm.n.ao]
   exact⟨hb (by omega) (by omega),by omega,hb (by omega) (by omega),by decide,by decide,hb (by omega) (by omega)⟩] at this
 ·have:=LE m (by rw[hm.n.au];decide)
  rwa[show BV m=J by rw[BV,HV (by rw[hm.n.kind];rfl),hm.n.au];rfl] at this
 ·have:=SU m (by simp only[BW,IY,flatten_nil,HO,HJ,hm.n.ax];omega)
  rwa[hm.n.named] at this
 ·have:=PU 73 [] [.ref (A1 m)] (fun _=>false) m.av (by omega) (fun r hr=>VQ m hm r hr)
  rw[show m.av.any (fun _=>false)=O by simp] at this
  exact this
theorem Mv(m:b9)(hm:BB m):F0 41 [Af m] (di 0):=by
 have:=AdF m hm
 rwa[hm.start_ok,HV rfl] at this
theorem YM(m:b9)(hm:BB m)(v:bc):F0 177 [Af m,dV v] (db (Ah (As m) v)):=by
 exact sv AiC 14 [2,3] (.c (di 0)<|.c (dT (As m))<|.c (db (Ah (As m) v)) .r) (_/\_/\_/\Q (db (Ah (As m) v))) ⟨Mv m hm,Lx m hm.kind (by have:=hm.age;omega),KV _ hm.good v,rfl⟩
theorem Vp(m:b9)(hm:BB m)(v:bc)(_:v.size<=1000000):F0 177 [Af m,dV v] (db (Ah (As m) v)):=YM m hm v
theorem W7(m:b9)(hm:BB m):F0 19 [Af m] (di 0):=by
 exact sv Alr 12 [1] (.c (di 0)<|.k<|.f .r) (_/\(m.kind==6)=O/\Q (di 0)) ⟨Mv m hm,by rw[hm.kind];rfl,rfl⟩
theorem BB.int{m:b9}(h:BB m):Hq m (As m):=⟨W7 m h,fun v hv=>Vp m h v hv,by have:=h.sz;omega⟩
inductive RV (m:b9):Prop where
 |cM (h:RS m)
 |l2 (h:FD 2 m)
 |l3 (h:FD 3 m)
 |tm (h:BB m)
 |c (h:RT m)
theorem RV.small{m:b9}(h:RV m):(1<=I m.aw/\m.aw.length<=3)/\(m.ay=[[120]]∨m.ay=[[120],[121]])/\m.ax.length<=2/\m.age<=3:=by
 have two:∀S:List (List UInt8),(S=[[97]]∨S=[[97],[98]])->1<=I S/\S.length<=3:=fun S e=>by rcases e with e|e<;>rw[e]<;>decide
 cases h with
 |cM h=>exact⟨two _ h.aw,h.ay,by rw[h.ax];decide,by rw[h.age];decide⟩
 |c h=>exact⟨two _ h.aw,h.ay,by rw[h.ax];decide,by rw[h.age];decide⟩
 |tm h=>exact⟨two _ h.aw,h.ay,by rw[h.ax];decide,by have:=h.age;omega⟩
 |l2 h=>exact⟨by obtain⟨n,h1,h2,e⟩:=h.aw;rw[e,Ig];simp only[HF,HJ];omega,h.ay,by rcases h.ax with e|e<;>rw[e]<;>decide,by rw[h.age];decide⟩
 |l3 h=>exact⟨by obtain⟨n,h1,h2,e⟩:=h.aw;rw[e,Ig];simp only[HF,HJ];omega,h.ay,by rcases h.ax with e|e<;>rw[e]<;>decide,by rw[h.age];decide⟩
noncomputable abbrev qj:=Tryz.f6
theorem AjA(l:List UInt8)(hl:I l<=200)(a:Nat)(ha:a<=I l):
  ∃(m:b9) (a':Nat),RV m/\a'<=I l/\Aa PP 6 [.ptr 0 0] (dz l a) (Af m) (dz l a'):=by
 obtain⟨r,a1,p1,p2,p3,p4⟩:=A2 l hl a ha 5 (by decide) (by decide)
 rcases(show r=0∨r=1∨r=2∨r=3∨r=4 by omega) with rfl|rfl|rfl|rfl|rfl
 ·obtain⟨m,a2,h1,h2,h3⟩:=AfW l hl a1 p3
  refine⟨m,a2,.cM h1,h2,?_⟩
  refine sv qj 23 [] (.c1 (cr l a1) (di 0)<|.c1 (cr l a2) (Af m) .r) (Aa PP 7 [bq 0 0,di 5] (dz l a) (di 0) (dz l a1)/\Aa PP 16 [bq 0 0,db J] (dz l a1) (Af m) (dz l a2)/\Q [G (cr l a2)]/\bt (ab [vi m.kind,ai (dm m.aw),ai (dm m.ay),ai (dm m.ax),ai (U vi m.au),vi m.ao,vi m.age,ai (U Ai m.av),vi m.start.n,ai (cc m.start.az)])=Af m) ?_
  trivial
 ·obtain⟨m,a2,h1,h2,h3⟩:=AeB l hl a1 p3 2 (.inl rfl)
  refine⟨m,a2,.l2 h1,h2,?_⟩
  refine sv qj 23 [] (.c1 (cr l a1) (di 1)<|.c1 (cr l a2) (Af m) .r) (Aa PP 7 [bq 0 0,di 5] (dz l a) (di 1) (dz l a1)/\Aa PP 17 [bq 0 0,di 2] (dz l a1) (Af m) (dz l a2)/\Q [G (cr l a2)]/\bt (ab [vi m.kind,ai (dm m.aw),ai (dm m.ay),ai (dm m.ax),ai (U vi m.au),vi m.ao,vi m.age,ai (U Ai m.av),vi m.start.n,ai (cc m.start.az)])=Af m) ?_
  trivial
 ·obtain⟨m,a2,h1,h2,h3⟩:=AeB l hl a1 p3 3 (.inr rfl)
  refine⟨m,a2,.l3 h1,h2,?_⟩
  refine sv qj 23 [] (.c1 (cr l a1) (di 2)<|.c1 (cr l a2) (Af m) .r) (Aa PP 7 [bq 0 0,di 5] (dz l a) (di 2) (dz l a1)/\Aa PP 17 [bq 0 0,di 3] (dz l a1) (Af m) (dz l a2)/\Q [G (cr l a2)]/\bt (ab [vi m.kind,ai (dm m.aw),ai (dm m.ay),ai (dm m.ax),ai (U vi m.au),vi m.ao,vi m.age,ai (U Ai m.av),vi m.start.n,ai (cc m.start.az)])=Af m) ?_
  trivial
 ·obtain⟨m,a2,h1,h2,h3⟩:=Aht l hl a1 p3
  refine⟨m,a2,.tm h1,h2,?_⟩
  refine sv qj 23 [] (.c1 (cr l a1) (di 3)<|.c1 (cr l a2) (Af m) .r) (Aa PP 7 [bq 0 0,di 5] (dz l a) (di 3) (dz l a1)/\Aa PP 18 [bq 0 0] (dz l a1) (Af m) (dz l a2)/\Q [G (cr l a2)]/\bt (ab [vi m.kind,ai (dm m.aw),ai (dm m.ay),ai (dm m.ax),ai (U vi m.au),vi m.ao,vi m.age,ai (U Ai m.av),vi m.start.n,ai (cc m.start.az)])=Af m) ?_
  trivial
 ·obtain⟨m,a2,h1,h2,h3⟩:=Ajl l hl a1 p3
  refine⟨m,a2,.c h1,h2,?_⟩
  refine sv qj 23 [] (.c1 (cr l a1) (di 4)<|.c1 (cr l a2) (Af m) .r) (Aa PP 7 [bq 0 0,di 5] (dz l a) (di 4) (dz l a1)/\Aa PP 16 [bq 0 0,db O] (dz l a1) (Af m) (dz l a2)/\Q [G (cr l a2)]/\bt (ab [vi m.kind,ai (dm m.aw),ai (dm m.ay),ai (dm m.ax),ai (U vi m.au),vi m.ao,vi m.age,ai (U Ai m.av),vi m.start.n,ai (cc m.start.az)])=Af m) ?_
  trivial
noncomputable abbrev Alz:=Tryz.f238
def E6(m:b9)(w:List Int):List (List Int):=if (m.kind==3)=J then FU m.au w else FS w
theorem Lo(m:b9)(w:List Int):I (E6 m w)<=12/\∀v∈E6 m w,I v<=12:=by
 unfold E6
 split
 ·exact UQ _ _
 ·exact TV _
theorem AdL(m:b9)(hr:I m.au<=1000)(w:List Int)(hw:I w<=1000):F0 238 [Af m,cw w] (dl ((E6 m w).map cz)):=by
 unfold E6
 by_cases hk:(m.kind==3)=J
 ·rw[HV hk]
  have g3:=Acf m.au w hr hw
  generalize FU m.au w=ws at g3⊢
  exact sv Alz 14 [2] (.t<|.c (dl (ws.map cz)) .r) (_/\_/\bt (j1 ws)=dl (U cz ws)) ⟨hk,g3,rfl⟩
 ·rw[HR hk]
  have g3:=AaS w hw
  generalize FS w=ws at g3⊢
  exact sv Alz 14 [2] (.f<|.c (dl (ws.map cz)) .r) ((m.kind==3)=O/\_/\bt (j1 ws)=dl (U cz ws)) ⟨HM hk,g3,rfl⟩
noncomputable abbrev Wv:=Tryz.f206
noncomputable def DQ:=yl Wv
def ko(outs:List bc):St:=match outs with
 |[]=>bd
 |o::outs=>⟨[G (Ab ((o::outs).map eV))],[]⟩
def j7(outs:List bc):D:=match outs with
 |[]=>.v .nils
 |o::outs=>.gro 0 (I outs+1) 2
theorem Tq{l:List bc}(h:l≠ []):j7 l=.gro 0 (I l) 2:=by cases l with
 |nil=>exact absurd rfl h
 |cons=>rfl
theorem Ob{l:List bc}(h:l≠ []):ko l=⟨[G (Ab (l.map eV))],[]⟩:=by cases l with
 |nil=>exact absurd rfl h
 |cons=>rfl
theorem m6{o:yy}{t:Nat}(x:bc)(τ:St)(ho:o.op=.buildSlice 29 1 #[(0,.tmp t)]):Aj PP o [dV x] τ (.v (.list [Ac x])) τ:=
 EA ho rfl rfl jh rfl (xs:=[Ac x]) rfl (fun y hy=>by rw[HQ.1 hy];rfl) (by decide) (by decide) (by decide)
theorem E3(l:List bc):(Ab (l.map eV)).all D.one=J:=by
 induction l with
 |nil=>rfl
 |cons x l ih=>rw[A8,List.all_append,ih];rfl
theorem E2(l:List bc)(x:bc):Ab (l.map eV)++[bt (vi x.n),bt (dt x.az)]=Ab ((l++[x]).map eV):=by rw[DL,A8];rfl
def f9(c:bc)(k:Nat)(w:List Int):bc:=GU c k (c.az.getD 0 ez).n w
def e8(m:b9)(c:bc)(K:Nat):List bc:=(List.range K).flatMap fun k=>(E6 m (AR (c.az.getD (1+k) (.mk 0 [])))).map (f9 c k)
theorem Lb(m:b9)(c:bc)(K:Nat):e8 m c (K+1)=e8 m c K++(E6 m (AR (c.az.getD (1+K) (.mk 0 [])))).map (f9 c K):=by simp[e8,range_succ]
theorem O9(m:b9)(c:bc)(K:Nat):I (e8 m c K)<=12*K:=by
 induction K with
 |zero=>exact HH _
 |succ K ih=>
  have:=(Lo m (AR (c.az.getD (1+K) (.mk 0 [])))).1
  rw[Lb,HO,H9];omega
theorem Aew{c s0 x:bc}{k:Nat}(h0:c.az[0]?=G s0)(hx:c.az[1+k]?=G x)(w:List Int):f9 c k w=.mk c.n (BL c.az s0 x s0.n (1+k) w):=by
 rw[f9,Q1 h0 hx,show c.az.getD 0 ez=s0 by rw[HI,h0];rfl]
theorem O7{c:bc}(hc:c.size<=128){k:Nat}(hk:1+k<I c.az){w:List Int}(hw:I w<=12):(f9 c k w).size<=200:=by
 obtain⟨s0,h0⟩:∃x,c.az[0]?=G x:=⟨_,HA (by omega)⟩
 obtain⟨x,hx⟩:∃x,c.az[1+k]?=G x:=⟨_,HA hk⟩
 rw[Aew h0 hx]
 have:=JL h0 hx s0.n w c.n
 have:=c.size_eq
 omega
theorem O8{m:b9}{c:bc}(hc:c.size<=128){K:Nat}(hK:K<I c.az){v:bc}(hv:v∈e8 m c K):v.size<=200:=by
 obtain⟨k,hk,hv⟩:=List.mem_flatMap.1 hv
 obtain⟨w,hw,rfl⟩:=Is.1 hv
 have:=List.mem_range.1 hk
 exact O7 hc (by omega) ((Lo m _).2 w hw)
theorem Aij(m:b9)(c s0 x:bc)(k:Nat)(hk2:k<=1000)(hc:c.size<=128)(h0:c.az[0]?=G s0)(hx:c.az[1+k]?=G x)(ws:List (List Int))(hw:I ws<=12)(hws:∀v∈ws,I v<=12)(l o1:List bc)(ho1:I o1<=900)
  (l2:Rn PP Wv 0 (du (l,0)) bd ([kl DQ [1,1,1,0,1,0,0],.blk 0,kc DQ [1,1,1,1]]++[]) (ba 51 [(2,.v (.ref (A1 m))),(3,.v (.ref (Ac c))),(7,j7 (o1++ws.map (f9 c k))),(20,di (I m.ay)),(21,di (k+1:Nat))]) (ko (o1++ws.map (f9 c k)))) (n:Nat):
  ∀(j:Nat) (outs:List bc),I ws-j=n->outs=o1++(ws.take j).map (f9 c k)->Rn PP Wv 0 (du (l,0)) bd ([kl DQ [1,1,1,0,1,0,0,1,1,0,0,1,1,0,0],.blk 2,.blk 1,kc DQ [1,1,1,0,1,0,0,1,1,1],kl DQ [1,1,1,0,1,0,0],.blk 0,kc DQ [1,1,1,1]]++[]) (ba 51 [(2,.v (.ref (A1 m))),(3,.v (.ref (Ac c))),(7,j7 outs),(8,di k),(20,di (I m.ay)),(21,di k),(28,dl (ws.map cz)),(29,di (I ws)),(30,di j)]) (ko outs):=by
 induction n with
 |zero=>
  intro j outs hn houts
  rw[Ic (by omega)] at houts
  rw[←houts] at l2
  clear houts
  by_cases hne:outs=[]
  ·subst hne
   rw[show j7 ([]:List bc)=bt bv from rfl,show ko []=bd from rfl] at l2⊢
   exact lv 51 [2,3] (.f<|.l [ke 2,ke 3,ke 7,ke 20,ch 21 (di (k+1:Nat))]) (Y ((j:Int)<(I ws:Int))=O/\di (yu yt ((k:Int)+1))=di (↑(k+1):Int)/\_) ⟨yq,Ae,iK l2⟩
  ·rw[Tq hne,Ob hne] at l2⊢
   exact lv 51 [2,3] (.f<|.lo [ke 2,ke 3,ke 7,ke 20,ch 21 (di (k+1:Nat))] ⟨[G (Ab (outs.map eV))],[]⟩) (Y ((j:Int)<(I ws:Int))=O/\di (yu yt ((k:Int)+1))=di (↑(k+1):Int)/\cm 1 [] [G (dv outs)]=J/\Q [G (dv outs)]/\_) ⟨yq,Ae,HS.2 ⟨Ak 1 [] _,rfl⟩,rfl,iK l2⟩
 |succ n ih=>
  intro j outs hn houts
  obtain⟨w,hw1⟩:=yk (show j<I ws by omega)
  have hwl:=hws w (HG hw1)
  have hsp:=Pg c (by omega) s0 x k h0 hx s0.n w (by omega)
  have hsz:=JL h0 hx s0.n w c.n
  have hcs:=c.size_eq
  have hfw:=Aew h0 hx w
  have hol:I outs<=912:=by rw[houts,HO,H9,Ig];omega
  generalize bc.mk c.n (BL c.az s0 x s0.n (1+k) w)=v at hsp hsz hfw
  have hx0:(c.az.map eV)[Z 0]?=G (Ac s0):=An (i:=0) h0
  have l2:=ih (j+1) (outs++[v]) (by omega) (by rw[houts,IM,hw1, ←hfw];simp)
  clear houts
  rw[Tq (by simp),Ob (by simp)] at l2
  by_cases hne:outs=[]
  ·subst hne
   rw[show j7 ([]:List bc)=bt bv from rfl,show ko []=bd from rfl]
   refine lv 51 [2,3] (.t<|.x (cz w)<|.h (.xs (Ac s0))<|.c (dV v)<|.h (.p (.v (.list [Ac v])))<|.h .g<|.lo [ke 2,ke 3,ch 7 (.gro 0 1 2),ke 8,ke 20,ke 21,ke 28,ke 29,ch 30 (di (j+1:Nat))] ⟨[G (Ab ([v].map eV))],[]⟩) (Y ((j:Int)<(I ws:Int))=J/\0<=(j:Int)/\(U cz ws)[Z (j:Int)]?=G (cz w)/\Q 2/\iz 0<=0/\_/\_/\(∀(τ:St),Aj PP (Oper.mk (G 44) (Op.buildSlice 29 1 #[(0,Operand.tmp 43)]) 29 "channel.go:118" #[Edge.mk 9 Ground.data] none) [dV v] τ (bt (ai [Ac v])) τ)/\[Ac v]≠ []/\(∀(y:V),y∈ [Ac v]->V.size y=2)/\Ao 1 32/\Q (bm 0 1 2)/\di (yu yt ((j:Int)+1))=di (↑(j+1):Int)/\cm 1 [] [G (c7 v.n v.az)]=J/\[G (c7 v.n v.az)]=[G (Ab (eV v::nV))]/\_) ⟨yr,by omega,by rw[II,Ir,hw1];rfl,rfl,Ib _,hx0,hsp,fun τ=>m6 v τ rfl,by simp,fun y hy=>by rw[HQ.1 hy];rfl,⟨by decide,by decide⟩,rfl,Ae,rfl,?_,iK l2⟩
   show [G [di v.n,bt (dt v.az)]]=[G (Ab ([v].map eV))]
   rw[A8];rfl
  ·rw[Tq hne,Ob hne]
   refine lv 51 [2,3] (.t<|.x (cz w)<|.h (.xs (Ac s0))<|.c (dV v)<|.lo [ke 2,ke 3,ch 7 (.gro 1 (I outs+1) 2),ke 8,ke 20,ke 21,ke 28,ke 29,ch 30 (di (j+1:Nat))] ⟨[none,G (Ab ((outs++[v]).map eV))],[]⟩) (Y ((j:Int)<(I ws:Int))=J/\0<=(j:Int)/\(U cz ws)[Z (j:Int)]?=G (cz w)/\Q 2/\iz 0<=0/\(cc c.az)[Z 0]?=G (Ac s0)/\F0 227 [dV c,di s0.n,di (k:Int),cw w] (dV v)/\I (dv outs)=I outs*2/\[Ac v]≠ []/\(∀(y:V),y∈ [Ac v]->V.size y=2)/\Ao (I outs+I (Ac v::nV)) 32/\bm 1 (I outs+I (Ac v::nV)) 2=bm 1 (I outs+1) 2/\di (yu yt ((j:Int)+1))=di (↑(j+1):Int)/\cm 2 [] [none,G (Ab (U eV outs)++(c7 v.n v.az))]=J/\[none,G (Ab (U eV outs)++(c7 v.n v.az))]=[none,G (Ab (U eV (outs++[v])))]/\I0 Wv 0 (du (l,0)) bd [kl DQ [1,1,1,0,1,0,0,1,1,0,0,1,1,0,0],bh 2,bh 1,kc DQ [1,1,1,0,1,0,0,1,1,1],kl DQ gi,bh 0,kc DQ [1,1,1,1]] (ba 51 [(2,bt (ic m)),(ip c),(7,bm 1 (I outs+1) 2),(8,di (k:Int)),(20,di (I m.ay:Int)),(21,di (k:Int)),(28,bt (j1 ws)),(29,di (I ws:Int)),(30,di (↑(j+1):Int))]) (bi [none,G (Ab (U eV (outs++[v])))] [])) ?_
   rw[E2]
   refine⟨yr,by omega,by rw[II,Ir,hw1];rfl,rfl,Ib _,hx0,hsp,AT _,by simp,fun y hy=>by rw[HQ.1 hy];rfl,⟨?_,?_⟩,rfl,Ae,?_,rfl,⟨?_⟩⟩
   ·simp only[HF,HJ];omega
   ·simp only[HF,HJ];omega
   ·simp[cm,D.okNs,D.okN,Ak]
   ·rw[HO] at l2
    refine Ep (H0:=[none]) (fun E0 E h=>h.2) 1 rfl (fun cs hc=>?_) ?_ ?_ l2
    ·simp at hc;rw[hc];exact A3 _
    ·simp[ba,D.okNs,D.okN]
    ·simp[ba,D.rens,D.ren]
noncomputable abbrev wk:=(bw 21 [] [])
noncomputable abbrev k7:=fun a₀=>(bi [G (dv a₀)] [])
theorem AfG(m:b9)(c s0:bc)(hc:c.size<=128)(hr:I m.au<=1000)(hp:I m.ay<=2)(h0:c.az[0]?=G s0)(hl:I c.az=1+I m.ay)(hw:∀(k:Nat) (x:bc),c.az[1+k]?=G x->I x.az<=12)(n:Nat):
  ∀(k:Nat) (outs:List bc),I m.ay-k=n->k<=I m.ay->outs=e8 m c k->Rn PP Wv 0 (du (sortV (e8 m c (I m.ay)),0)) bd ([kl DQ [1,1,1,0,1,0,0],.blk 0,kc DQ [1,1,1,1]]++[]) (ba 51 [(2,.v (.ref (A1 m))),(3,.v (.ref (Ac c))),(7,j7 outs),(20,di (I m.ay)),(21,di k)]) (ko outs):=by
 induction n with
 |zero=>
  intro k outs hn hkp houts
  rw[show I m.ay=k by omega, ←houts]
  have ho:=O9 m c k
  rw[←houts] at ho
  have hs:∀v∈outs,v.size<=200:=fun v hv=>O8 (m:=m) (K:=k) hc (by omega) (by rw[←houts];exact hv)
  clear houts
  cases outs with
  |nil=>
   rw[show sortV []=[] by simp[sortV]]
   rw[show j7 ([]:List bc)=bt bv from rfl,show ko []=bd from rfl]
   exact lv 51 [2,3] (.f<|.c (.tup []) .r) (Y ((k:Int)<(k:Int))=O/\_/\bl n7=du ([],0)) ⟨yq,L3,rfl⟩
  |cons o outs=>
   rw[show j7 (o::outs)=bm 0 (I (o::outs)) 2 from rfl,show ko (o::outs)=⟨[G (Ab ((o::outs).map eV))],[]⟩ from rfl]
   generalize o::outs=ol at*
   have hsl:I (sortV ol)=I ol:=(A7 ol).length_eq
   refine lv 51 [2,3] (.f<|.h (.q 14 0)<|.h (.ga 7)<|.h (.oc (.tup []) ⟨[G (Ab ((sortV ol).map eV))],[]⟩)<|.h (.q 15 1)<|.h (.ct 50 (cx (sortV ol)) ⟨[none],[]⟩) .r) (Y ((k:Int)<(k:Int))=O/\(N0 [bt wk,bo 0 0 (I ol),bt mb] (k7 ol) (bl []) (bi [G (Ab (U eV (sortV ol)))] []))/\(∀(e:List D),e[50]?=G (bo 0 0 (I ol))->∀(E:cf) (g:Gh) (a:Act) (w:x5),FI E g (bi [G (Ab (U eV (sortV ol)))] []) e a w->∃g',FI E g' (bi [none] []) (List.set e 50 (cx (sortV ol))) a w)/\bl [bt (dt (sortV ol)),di 0]=du (sortV ol,0)) ⟨yq,fun o cl fo hop hc=>?_,fun e he=>?_,rfl⟩
   ·exact Dd (H:=[Ab (ol.map eV)]) hop hc (fs:=[]) (cs:=[]) (ds:=[.arr 0 0 (I ol),dfn 22]) rfl (G9 ol (by omega) (fun v hv=>by have:=hs v hv;omega)) rfl (fun cs hm=>by rw[HQ.1 hm];exact⟨Ak _ _ _,E3 _⟩) rfl (HS.2 ⟨Ak _ _ _,rfl⟩) (HH _)
   ·exact ZG (σ:=⟨[G (Ab ((sortV ol).map eV))],[]⟩) (q:=0) (sz:=2) (by decide) (Ct _) (by rw[H9,hsl]) rfl he
 |succ n ih=>
  intro k outs hn hkp houts
  obtain⟨x,hx⟩:∃x,c.az[1+k]?=G x:=⟨_,HA (by omega)⟩
  have hx12:=hw k x hx
  have hct:=Qw c k x hx (by omega) (by omega)
  have w3:=AdL m hr (AR x) (by rw[H9];omega)
  obtain⟨w1,w2⟩:=Lo m (AR x)
  have ho:=O9 m c k
  rw[←houts] at ho
  have hnx:=Lb m c k
  rw[←houts,show c.az.getD (1+k) (.mk 0 [])=x by rw[HI,hx];rfl] at hnx
  generalize E6 m (AR x)=ws at w1 w2 w3 hnx
  have l2:=Aij m c s0 x k (by omega) hc h0 hx ws w1 w2 (sortV (e8 m c (I m.ay))) outs (by omega) (by rw[←hnx];exact ih (k+1) _ (by omega) (by omega) rfl) _ 0 outs rfl (by simp)
  clear houts hnx
  generalize sortV (e8 m c (I m.ay))=l at l2⊢
  cases outs with
  |nil=>
   rw[show j7 ([]:List bc)=bt bv from rfl,show ko []=bd from rfl] at l2⊢
   exact lv 51 [2,3] (.t<|.c (cw (AR x))<|.c (dl (ws.map cz))<|.l [ke 2,ke 3,ke 7,ke 8,ke 20,ke 21,ke 28,ch 29 (di (I ws)),ch 30 (di (0:Nat))]) (Y ((k:Int)<(I m.ay:Int))=J/\_/\_/\di (I (U cz ws):Int)=di (I ws:Int)/\Q (di 0)/\_) ⟨yr,hct,w3,by rw[H9],rfl,iK l2⟩
  |cons o outs=>
   rw[Tq (by simp),Ob (by simp)] at l2⊢
   generalize o::outs=ol at*
   exact lv 51 [2,3] (.t<|.c (cw (AR x))<|.c (dl (ws.map cz))<|.l [ke 2,ke 3,ke 7,ke 8,ke 20,ke 21,ke 28,ch 29 (di (I ws)),ch 30 (di (0:Nat))]) (Y ((k:Int)<(I m.ay:Int))=J/\_/\_/\di (I (U cz ws):Int)=di (I ws:Int)/\Q (di 0)/\_) ⟨yr,hct,w3,by rw[H9],rfl,iK l2⟩
theorem AcE(m:b9)(t:cy)(hm:la m t)(hr:I m.au<=1000)(c:bc)(hv:Ah t c=J):F0 206 [Af m,dV c] (du (sortV (e8 m c (I m.ay)),0)):=by
 have hsh:=hm.shape c hv
 have hsz:=hsh.size
 have hck:=AeE m t hm c (by omega)
 rw[nv,HV hv] at hck
 obtain⟨s0,h0⟩:∃x,c.az[0]?=G x:=⟨_,HA (by rw[hsh.len];omega)⟩
 have l2:=AfG m c s0 hsz hr hm.few.2 h0 hsh.len hsh.word _ 0 [] rfl (by omega) rfl
 generalize sortV (e8 m c (I m.ay))=l at l2⊢
 rw[show j7 ([]:List bc)=bt bv from rfl,show ko []=bd from rfl] at l2
 exact sv Wv 51 [2,3] (.c (di 0)<|.k<|.l [ke 2,ke 3,ke 7,ch 20 (di (I m.ay)),ch 21 (di (0:Nat))]) (_/\di (I (dm m.ay):Int)=di (I m.ay:Int)/\Q (di 0)/\_) ⟨hck,by rw[H9],rfl,iK l2⟩
structure sx(c:bc):Prop where
 size:c.size<=128
 len:I c.az=2
 few:∀b,c.az[1]?=G b->I b.az<=12
 toks:∀b v,c.az[1]?=G b->v∈b.az->I v.az=2
structure kb(m:b9)(t:cy):Prop where
 int:Hq m t
 chk:F0 41 [Af m] (di 0)
 kind:m.kind=5
 few:I m.av<=12
 rule:∀r∈m.av,I r.ar<=1/\r.aq.length<=1
 shape:∀c,Ah t c=J->sx c
noncomputable abbrev mp:=Tryz.f219
noncomputable def Ww:=yl mp
theorem Abm(l:List bc)(hl:I l<=1000)(ps:List (Int×Int))(hp:I ps=I l)(hv:∀(k:Nat) (v:bc),l[k]?=G v->∃a b,v.az[0]?=G a/\v.az[1]?=G b/\ps[k]?=G (a.n,b.n))(n:Nat):∀k:Nat,I l-k=n->
  Rn PP mp 0 (.acc 1 (ps.map cq)) ⟨[],[(1,2,ps.map cq)]⟩ ([kl Ww [1,1,0,1,0,0],.blk 0,kc Ww [1,1,1]]++[]) (ba 32 [(3,.acc 1 ((ps.take k).map cq)),(10,cx l),(11,di (I l)),(12,di k)]) ⟨[],[(1,2,(ps.take k).map cq)]⟩:=by
 induction n with
 |zero=>
  intro k hn
  refine lv 32 [1] (.f .r) (Y ((k:Int)<(I l:Int))=O/\[(1,2,U cq (take k ps))]=[(1,2,U cq ps)]/\br 1 (U cq (take k ps))=br 1 (U cq ps)) ?_
  rw[Ic (by omega)]
  exact⟨yq,rfl,rfl⟩
 |succ n ih=>
  intro k hn
  obtain⟨x,hx⟩:=yk (show k<I l by omega)
  obtain⟨a,b,ha,hb,hpk⟩:=hv k x hx
  refine lv 32 [1] (.t<|.h (.xs (Ac x))<|.h (.xs (Ac a))<|.h (.xs (Ac b))<|.ls [ch 3 (.acc 1 ((ps.take (k+1)).map cq)),ke 10,ke 11,ch 12 (di (k+1:Nat))] ⟨[],[(1,2,(ps.take (k+1)).map cq)]⟩) (Y ((k:Int)<(I l:Int))=J/\Q 2/\0<=(k:Int)/\(U eV l)[Z (k:Int)]?=G (Ac x)/\Q 2/\iz 0<=0/\(cc x.az)[Z 0]?=G (Ac a)/\Q 2/\iz 0<=1/\(cc x.az)[Z 1]?=G (Ac b)/\Q (U cq (take k ps))/\Ao (I (U cq (take k ps))+I (ab (vi a.n::vi b.n::nV)::nV)) 16/\yo/\br 1 (U cq (take k ps)++[ab [vi a.n,vi b.n]])=br 1 (U cq (take (k+1) ps))/\di (yu yt ((k:Int)+1))=di (↑(k+1):Int)/\[(1,2,U cq (take k ps)++ab (vi a.n::vi b.n::nV)::nV)]=[(1,2,U cq (take (k+1) ps))]/\I0 mp 0 (br 1 (U cq ps)) (bi [] [(1,2,U cq ps)]) [kl Ww d5,bh 0,kc Ww [1,1,1]] (ba 32 [(3,br 1 (U cq (take (k+1) ps))),(10,cx l),(11,di (I l:Int)),(12,di (↑(k+1):Int))]) (bi [] [(1,2,U cq (take (k+1) ps))])) ?_
  have hk:=(HD.1 hx).1
  have ht:(ps.take (k+1)).map cq=(ps.take k).map cq++[ab [vi a.n,vi b.n]]:=by rw[IM,hpk];simp
  rw[ht]
  refine⟨yr,rfl,by omega,An hx,rfl,Ib _,An (i:=0) ha,rfl,by decide,An (i:=1) hb,rfl,⟨?_,?_⟩,ym,rfl,Ae,rfl,⟨?_⟩⟩
  ·simp only[H9,Ig,HF,HJ];omega
  ·simp only[H9,Ig,HF,HJ];omega
  ·have:=ih (k+1) (by omega)
   rw[ht] at this
   exact this
theorem Sn(c b:bc)(hb:c.az[1]?=G b)(hl:I b.az<=1000)(ps:List (Int×Int))(hp:I ps=I b.az)(hv:∀(k:Nat) (v:bc),b.az[k]?=G v->∃a y,v.az[0]?=G a/\v.az[1]?=G y/\ps[k]?=G (a.n,y.n)):
  F0 219 [dV c] (AK ps):=by
 have h:Aa PP 219 [dV c] bd (.acc 1 (ps.map cq)) ⟨[],[(1,2,ps.map cq)]⟩:=by
  exact sv mp 32 [1] (.h (.q 2 0)<|.h (.nw 3 1 2)<|.h (.xs (Ac b))<|.ls [ch 3 (.acc 1 []),ke 10,ch 11 (di (I b.az)),ch 12 (di (0:Nat))] ⟨[],[(1,2,[])]⟩) (Q 2/\iz 0<=1/\(cc c.az)[Z 1]?=G (Ac b)/\Q gp/\di (I (cc b.az):Int)=di (I b.az:Int)/\Q (di 0)/\Q [(1,2,nV)]/\_) ⟨rfl,by decide,An (i:=1) hb,rfl,by rw[H9],rfl,rfl,iK (Abm b.az hl ps hp hv _ 0 rfl)⟩
 exact F3 h
noncomputable abbrev AlE:=Tryz.f243
theorem RY(s:Int)(b:bc)(hb:b.size<=10000):F0 243 [di s,dl [Ac b]] (dV (.mk 0 [.mk s [],b])):=by
 refine sv AlE 13 [] (.c (cx [b])<|.c (cx [.mk s [],b]) .r) (F0 258 [bt (ai [Ac b])] (cx [b])/\F0 257 [bt (ai [ai [ab [vi s,ai []]],dt [b]])] (cx [bc.mk s [],b])/\bt (ab [vi 0,ai [eV (fz s),eV b]])=dV (bc.mk 0 [bc.mk s [],b])) ?_
 have h1:=Tu [b] (by simp) (fun x hx=>by rw[HQ.1 hx];exact Ts _ b (HH _) (by omega))
 rw[show cx [b]=dl [Ac b] from HX (fun z=>dl [z]) (AE b)] at h1⊢
 have h2:=Ad1 [[.mk s []],[b]] (by simp) (by simp)
 have e:[[bc.mk s []],[b]].flatten.map eV=[bc.mk s [],b].map eV:=rfl
 rw[e] at h2
 refine⟨h1,?_,?_⟩
 ·have e2:bt (ai [ai [ab [vi s,ai []]],dt [b]])=dl (Hj [[.mk s []],[b]]):=by
   show _=bt (.list [.list [eV (.mk s [])],.list [eV b]])
   rw[AE];rfl
  rw[e2];exact h2
 ·rfl
abbrev rt(ps:List (Int×Int)):St:=⟨[G (Ab (ps.map cq))],[]⟩
theorem GS(p:Int×Int)(l:List (Int×Int)):Ab ((p::l).map cq)=[di p.1,di p.2]++Ab (l.map cq):=rfl
theorem Me:∀l:List (Int×Int),I (Ab (l.map cq))=I l*2
 |[]=>rfl
 |p::l=>by rw[GS,HO,Me l,HF];simp;omega
theorem Zj(l k:List (Int×Int)):Ab ((l++k).map cq)=Ab (l.map cq)++Ab (k.map cq):=by simp only[Ab,IQ,List.flatMap_append]
theorem Xk(l:List bc)(hl:I l<=1000)(ps:List (Int×Int))(hp:I ps=I l)(hv:∀(k:Nat) (v:bc),l[k]?=G v->∃a b,v.az[0]?=G a/\v.az[1]?=G b/\ps[k]?=G (a.n,b.n))(n:Nat):∀k:Nat,I l- (k+1)=n->k<I l->
  Rn PP mp 0 (.arr 0 0 (I ps)) (rt ps) ([kl Ww [1,1,0,1,0,0],.blk 0,kc Ww [1,1,1]]++[]) (ba 32 [(3,.gro 0 (k+1) 2),(10,cx l),(11,di (I l)),(12,di (k+1:Nat))]) (rt (ps.take (k+1))):=by
 induction n with
 |zero=>
  intro k hn hk
  refine lv 32 [1] (.f<|.h (.q 7 0)<|.h (.ga 3) .ro) (Y ((↑(k+1):Int)<(I l:Int))=O/\cm 1 [] [G (Ab (U cq (take (k+1) ps)))]=J/\[G (Ab (U cq (take (k+1) ps)))]=[G (Ab (U cq ps))]/\bo 0 0 (k+1)=bo 0 0 (I ps)) ?_
  have e:k+1=I ps:=by omega
  rw[e,Ic (HH _)]
  exact⟨yq,HS.2 ⟨Ak 1 [] _,rfl⟩,rfl,rfl⟩
 |succ n ih=>
  intro k hn hk
  obtain⟨x,hx⟩:=yk (show k+1<I l by omega)
  obtain⟨a,b,ha,hb,hpk⟩:=hv (k+1) x hx
  refine lv 32 [1] (.t<|.h (.xs (Ac x))<|.h (.xs (Ac a))<|.h (.xs (Ac b))<|.lo [ch 3 (.gro 2 (k+1+1) 2),ke 10,ke 11,ch 12 (di (k+1+1:Nat))] ⟨[none,G (c7 x.n x.az),G (Ab ((ps.take (k+1+1)).map cq))],[]⟩) (Y ((↑(k+1):Int)<(I l:Int))=J/\Q 2/\0<=(↑(k+1):Int)/\(U eV l)[Z (↑(k+1):Int)]?=G (Ac x)/\Q 2/\iz 0<=0/\(cc x.az)[Z 0]?=G (Ac a)/\Q 2/\iz 0<=1/\(cc x.az)[Z 1]?=G (Ac b)/\I (Ab (U cq (take (k+1) ps)))=(k+1)*2/\[ab [vi a.n,vi b.n]]≠ []/\(∀(y:V),y∈ [ab [vi a.n,vi b.n]]->V.size y=2)/\Ao (k+1+I (ab (vi a.n::vi b.n::nV)::nV)) 16/\yo/\bm 2 (k+1+I (ab (vi a.n::vi b.n::nV)::nV)) 2=bm 2 (k+1+1) 2/\di (yu yt ((↑(k+1):Int)+1))=di (↑(k+1+1):Int)/\cm 3 [] [none,G (c7 x.n x.az),G (Ab (U cq (take (k+1) ps))++[di a.n,di b.n])]=J/\[none,G (c7 x.n x.az),G (Ab (U cq (take (k+1) ps))++[di a.n,di b.n])]=[none,G (c7 x.n x.az),G (Ab (U cq (take (k+1+1) ps)))]/\I0 mp 0 (bo 0 0 (I ps)) (rt ps) [kl Ww d5,bh 0,kc Ww [1,1,1]] (ba 32 [(3,bm 2 (k+1+1) 2),(10,cx l),(11,di (I l:Int)),(12,di (↑(k+1+1):Int))]) (bi [none,G (c7 x.n x.az),G (Ab (U cq (take (k+1+1) ps)))] [])) ?_
  have hk1:=(HD.1 hx).1
  have ht:(ps.take (k+1+1))=(ps.take (k+1))++[(a.n,b.n)]:=by rw[IM (i:=k+1),hpk];rfl
  have hf:Ab ((ps.take (k+1)).map cq)++[di a.n,di b.n]=Ab ((ps.take (k+1+1)).map cq):=by rw[ht,Zj];rfl
  have hih:=ih (k+1) (by omega) hk1
  rw[hf]
  refine⟨yr,rfl,by omega,An hx,rfl,Ib _,An (i:=0) ha,rfl,by decide,An (i:=1) hb,by rw[Me,Ig];omega,by simp,fun y hy=>by rw[HQ.1 hy];rfl,⟨?_,?_⟩,ym,rfl,Ae,?_,rfl,⟨?_⟩⟩
  ·simp only[HF,HJ];omega
  ·simp only[HF,HJ];omega
  ·simp[cm,D.okNs,D.okN,Ak]
  ·refine Ep (H0:=[none,G [di x.n,cx x.az]]) (fun E0 E h=>h.2) 2 rfl (fun cs hc=>?_) ?_ ?_ hih
   ·simp at hc;rw[hc];exact A3 _
   ·simp[ba,D.okNs,D.okN]
   ·simp[ba,D.rens,D.ren]
theorem Aku{o:yy}{t:Nat}(x:bc)(τ:St)(ho:o.op=.fieldAddr 31 (.tmp t) 0):Aj PP o [.v (.ref (Ac x))] τ (.v (.ref (vi x.n))) τ:=Fw ho (fo:=0) (n:=1) (b:=false) (by kernel_rfl) (by decide) (fun _=>rfl) rfl
theorem AlD{o:yy}{t:Nat}(x:Int)(τ:St)(ho:o.op=.load 3 (.tmp t)):Aj PP o [.v (.ref (vi x))] τ (di x) τ:=Fv ho (by unfold OV;kernel_rfl) rfl
theorem Alb{o:yy}{t t':Nat}(x y:Int)(τ:St)(ho:o.op=.build 136 #[(0,.tmp t),(1,.tmp t')]):Aj PP o [di x,di y] τ (.v (cq (x,y))) τ:=SK ho (z:=[vi 0,vi 0]) (ay:=[(0,1),(1,1)]) (by kernel_rfl) (xs:=[(0,vi x),(1,vi y)]) rfl rfl
theorem slP:Cd PP 214=G (136,2,16,G (.agg #[.int .i64 0,.int .i64 0])):=by kernel_rfl
theorem AlZ{o:yy}{t:Nat}(p:Int×Int)(τ:St)(ho:o.op=.buildSlice 214 1 #[(0,.tmp t)]):Aj PP o [.v (cq p)] τ (.v (.list [cq p])) τ:=
 EA ho rfl rfl slP rfl (xs:=[cq p]) rfl (fun y hy=>by rw[HQ.1 hy];rfl) (by decide) (by decide) (by decide)
theorem Xj(c b:bc)(hb:c.az[1]?=G b)(hl:I b.az<=1000)(hn:b.az≠ [])(ps:List (Int×Int))(hp:I ps=I b.az)(hv:∀(k:Nat) (v:bc),b.az[k]?=G v->∃a y,v.az[0]?=G a/\v.az[1]?=G y/\ps[k]?=G (a.n,y.n)):
  Aa PP 219 [dV c] bd (.arr 0 0 (I ps)) (rt ps):=by
 have hpos:=List.length_pos_iff.2 hn
 obtain⟨x,hx⟩:∃x,b.az[0]?=G x:=⟨_,HA hpos⟩
 obtain⟨a,y,ha,hy,hpk⟩:=hv 0 x hx
 have ht:ps.take 1=[(a.n,y.n)]:=by
  cases ps with
  |nil=>simp at hpk
  |cons p l=>simp at hpk;simp[hpk]
 have hih:=Xk b.az hl ps hp hv _ 0 rfl hpos
 refine sv mp 32 [1] (.h (.xs (Ac b))<|.n<|.t<|.h (.xs (Ac x))<|.h (.xs (Ac a))<|.h (.xs (Ac y))<|.h (.p (.v (.ref (vi y.n))))<|.h (.p (di y.n))<|.h (.p (.v (cq (a.n,y.n))))<|.h (.p (.v (.list [cq (a.n,y.n)])))<|.h .g<|.lo [ch 3 (.gro 1 1 2),ke 10,ch 11 (di (I b.az)),ch 12 (di (1:Nat))] ⟨[G (c7 x.n x.az),G (Ab ((ps.take 1).map cq))],[]⟩) (Q 2/\iz 0<=1/\(cc c.az)[Z 1]?=G (Ac b)/\Y (0<(I (cc b.az):Int))=J/\Q 2/\iz 0<=0/\(cc b.az)[Z 0]?=G (Ac x)/\Q 2/\iz 0<=0/\(cc x.az)[Z 0]?=G (Ac a)/\Q 2/\iz 0<=1/\(cc x.az)[Z 1]?=G (Ac y)/\(∀(τ:St),Aj PP (Oper.mk (G 25) (Op.fieldAddr 31 (Operand.tmp 24) 0) 0 "timed.go:30" #[Edge.mk 8 Ground.data] none) [bt (f7 y)] τ (bt (bz (vi y.n))) τ)/\(∀(τ:St),Aj PP (Oper.mk (G 26) (Op.load 3 (Operand.tmp 25)) 3 "timed.go:30" #[Edge.mk 9 Ground.data] none) [bt (bz (vi y.n))] τ (di y.n) τ)/\(∀(τ:St),Aj PP (Oper.mk (G 27) (Op.build 136 #[(0,Operand.tmp 21),(1,Operand.tmp 26)]) 136 "timed.go:30" #[Edge.mk 5 Ground.data,Edge.mk 10 Ground.data] none) [di a.n,di y.n] τ (bt (cq (bc.n a,bc.n y))) τ)/\(∀(τ:St),Aj PP (Oper.mk (G 28) (Op.buildSlice 214 1 #[(0,Operand.tmp 27)]) 214 "timed.go:30" #[Edge.mk 11 Ground.data] none) [bt (cq (bc.n a,bc.n y))] τ (bt (ai [cq (bc.n a,bc.n y)])) τ)/\[cq (bc.n a,bc.n y)]≠ []/\(∀(y_1:V),y_1∈ [cq (bc.n a,bc.n y)]->V.size y_1=2)/\Ao 1 16/\yo/\Q (bm 1 1 2)/\di (I (cc b.az):Int)=di (I b.az:Int)/\di (yu yt (0+1))=di (↑1:Int)/\cm 2 [] [G (c7 x.n x.az),G [di (bc.n a,bc.n y).fst,di (bc.n a,bc.n y).snd]]=J/\[G (c7 x.n x.az),G [di (bc.n a,bc.n y).fst,di (bc.n a,bc.n y).snd]]=[G (c7 x.n x.az),G (Ab (U cq (take 1 ps)))]/\I0 mp (I bd.H) (bo 0 0 (I ps)) (rt ps) [kl Ww d5,bh 0,kc Ww [1,1,1]] (ba 32 [(3,bm 1 1 2),(10,cx b.az),(11,di (I b.az:Int)),(12,di (↑1:Int))]) (bi [G (c7 x.n x.az),G (Ab (U cq (take 1 ps)))] [])) ⟨rfl,by decide,An (i:=1) hb,HC (by rw[H9];omega),rfl,Ib _,An (i:=0) hx,rfl,Ib _,An (i:=0) ha,rfl,by decide,An (i:=1) hy,fun τ=>Aku y τ rfl,fun τ=>AlD y.n τ rfl,fun τ=>Alb a.n y.n τ rfl,fun τ=>AlZ _ τ rfl,by simp,fun z hz=>by rw[HQ.1 hz];rfl,⟨by decide,by decide⟩,ym,rfl,by rw[H9],HX di (by decide),rfl,?_,⟨?_⟩⟩
 ·rw[ht];rfl
 ·refine Ep (H0:=[G [di x.n,cx x.az]]) (fun E0 E h=>h.2) 1 rfl (fun cs hc=>?_) ?_ ?_ hih
  ·simp at hc;rw[hc];exact A3 _
  ·simp[ba,D.okNs,D.okN]
  ·simp[ba,D.rens,D.ren]
noncomputable abbrev pt:=Tryz.f221
noncomputable def og:=yl pt
abbrev q0(xs:List bc):St:=⟨[G [di 0,.v .nils],G [di 0,.gro 2 (I xs) 2],G (Ab (xs.map eV))],[]⟩
abbrev pV(p:Int×Int):bc:=.mk 0 [.mk p.1 [],.mk p.2 []]
theorem Yl(p:Int×Int):(pV p).size=3:=rfl
theorem Abz{l k:List bc}(h:l.Perm k):bc.sizes l=bc.sizes k:=by
 induction h with
 |nil=>rfl
 |cons x _ ih=>rw[bc.sizes,bc.sizes,ih]
 |swap x y l=>simp only[bc.sizes];omega
 |trans _ _ ih1 ih2=>rw[ih1,ih2]
theorem Xt:∀l:List (Int×Int),bc.sizes (l.map pV)=3*I l
 |[]=>rfl
 |p::l=>by rw[Ia,bc.sizes,Xt l,Yl,HF];omega
theorem TF(l:List (Int×Int))(hl:I l<=100):(bc.mk 0 (sortV (l.map pV))).size<=301:=by
 rw[bc.size,Abz (A7 _),Xt];omega
theorem Alj(s:Int)(l:List (Int×Int))(hl:I l<=100):(bc.mk 0 [.mk s [],.mk 0 (sortV (l.map pV))]).size<=400:=by
 have:=TF l hl
 simp only[bc.size,bc.sizes] at this⊢;omega
theorem vsz(s:Int)(l:List (Int×Int))(hl:I l<=100):(bc.mk 0 [.mk s [],.mk 0 (sortV (l.map pV))]).size<=1000000:=by
 have:=Alj s l hl;omega
theorem AdO{R:List D->St->Prop}{ks:List KI}{e e':List D}(n:Nat)(x:List D)(F:List V)(_:Nat)(_:(0:Nat)<=0)(_:(0:Nat)=0)(he:D.okNs 3 [] e'=J)(hee:e=D.rens (fun i=>if i<2 then i else i+2) id e')
  (h:AB (CN 0) PP R ks e' ⟨[G [di 0,.v .nils],G [di 0,.gro 2 n 2],G (Ab F)],[]⟩):AB (CN 0) PP R ks e ⟨[G [di 0,.v .nils],G [di 0,.gro 4 n 2],none,G x,G (Ab F)],[]⟩:=by
 refine Ce (σ:=⟨[G [di 0,.v .nils],G [di 0,.gro 4 n 2],none,G x,G (Ab F)],[]⟩) (e':=e') (H':=[G [di 0,.v .nils],G [di 0,.gro 2 n 2],G (Ab F)]) (m:=0) (fun _ _ h=>h.2) (fun i=>if i<2 then i else i+2) (Ik _) (fun i hi=>by omega) (fun i j _ _ h=>?_) (fun i cs hi=>?_) he hee h
 ·have h:(if i<2 then i else i+2)=(if j<2 then j else j+2):=h
  split at h<;>split at h<;>omega
 ·match i,hi with
  |0,hi=>simp at hi;subst hi;exact⟨rfl,rfl⟩
  |1,hi=>simp at hi;subst hi;exact⟨rfl,rfl⟩
  |2,hi=>
   simp at hi;subst hi
   exact⟨by rw[AC (A3 _)];rfl,Ak _ _ _⟩
  |i+3,hi=>simp at hi
theorem Aai{R:List D->St->Prop}{ks:List KI}{e e':List D}(n:Nat)(x:List D)(F:List V)(_:(0:Nat)<=0)(_:(0:Nat)=0)(he:D.okNs 3 [] e'=J)(hee:e=D.rens (fun i=>if i<2 then i else i+1) id e')
  (h:AB (CN 0) PP R ks e' ⟨[G [di 0,.v .nils],G [di 0,.gro 2 n 2],G (Ab F)],[]⟩):AB (CN 0) PP R ks e ⟨[G [di 0,.v .nils],G [di 0,.gro 3 n 2],G x,G (Ab F)],[]⟩:=by
 refine Ce (σ:=⟨[G [di 0,.v .nils],G [di 0,.gro 3 n 2],G x,G (Ab F)],[]⟩) (e':=e') (H':=[G [di 0,.v .nils],G [di 0,.gro 2 n 2],G (Ab F)]) (m:=0) (fun _ _ h=>h.2) (fun i=>if i<2 then i else i+1) (Ik _) (fun i hi=>by omega) (fun i j _ _ h=>?_) (fun i cs hi=>?_) he hee h
 ·have h:(if i<2 then i else i+1)=(if j<2 then j else j+1):=h
  split at h<;>split at h<;>omega
 ·match i,hi with
  |0,hi=>simp at hi;subst hi;exact⟨rfl,rfl⟩
  |1,hi=>simp at hi;subst hi;exact⟨rfl,rfl⟩
  |2,hi=>
   simp at hi;subst hi
   exact⟨by rw[AC (A3 _)];rfl,Ak _ _ _⟩
  |i+3,hi=>simp at hi
noncomputable abbrev Apt:=fun a₀ b₀=>(ab (aa yt 0::ai (ab (gn a₀)::ab (gn b₀)::nV)::nV)::nV)
noncomputable abbrev Aqz:=fun a₀ b₀=>(U pV (take (a₀+1) b₀))
noncomputable abbrev vf:=fun a₀ b₀=>(ab (aa yt 0::ai (ab (vi a₀::ai nV::nV)::ab (vi b₀::ai nV::nV)::nV)::nV)::nV)
theorem AdP(m:b9)(t:cy)(hm:Hq m t)(s:Int)(l:List (Int×Int))(hl:I l<=100)(v:bc)(b:Bool)(hv:v=.mk 0 [.mk s [],.mk 0 (sortV (l.map pV))])(hb:b=Ah t v)(n:Nat):∀k:Nat,I l- (k+1)=n->k<I l->
  Rn PP pt 0 (.tup [dV v,db b]) bd ([kl og [1,1,0,1,0,0],.blk 0,kc og [1,1,1]]++[]) (ba 44 [(1,di s),(3,.v (.ref (A1 m))),(6,.ptr 0 0),(8,.ptr 1 0),(13,AK l),(14,di (I l)),(15,di (k+1:Nat))]) (q0 ((l.take (k+1)).map pV)):=by
 induction n with
 |zero=>
  intro k hn hk
  refine lv 44 [3] (.f<|.h (.q 7 2)<|.h (.ga 34)<|.h (.oc (.tup []) ⟨[G [di 0,.v .nils],G [di 0,.gro 2 (I l) 2],G (Ab ((sortV (l.map pV)).map eV))],[]⟩)<|.h (.q 8 0)<|.h (.cs ⟨[G [di 0,.v .nils],G [di 0,cx (sortV (l.map pV))],none],[]⟩)<|.c (dV v)<|.c (db b) .r) (Y ((↑(k+1):Int)<(I l:Int))=O/\(N0 [bt (bw 21 [] []),bo 2 0 (I (U pV (take (k+1) l))),bt (bw 22 [] [])] (q0 (U pV (take (k+1) l))) (bl []) (bi [G [di 0,dn],G [di 0,bm 2 (I l) 2],G (Ab (U eV (sortV (U pV l))))] []))/\(∀(e:List D) (E:cf) (g:Gh) (a:Act) (w:x5),FI E g (bi [G [di 0,dn],G [di 0,bm 2 (I l) 2],G (Ab (U eV (sortV (U pV l))))] []) e a w->∃g',FI E g' (bi [G [di 0,dn],G [di 0,cx (sortV (U pV l))],none] []) e a w)/\F0 243 [di s,bt (ai [ab [vi 0,dt (sortV (U pV l))]])] (dV v)/\F0 177 [Af m,dV v] (db b)/\yo/\bl [bt (ab [vi v.n,ai (U eV v.az)]),db b]=bl [dV v,db b]) ?_
  have e:k+1=I l:=by omega
  rw[e,Ic (HH _)]
  have hsz:∀x∈l.map pV,x.size<=1000000:=fun x hx=>by obtain⟨p,_,rfl⟩:=Is.1 hx;rw[Yl];decide
  have hsl:I (sortV (l.map pV))=I l:=by rw[(A7 _).length_eq,H9]
  have hbs:=TF l hl
  refine⟨yq,fun o cl fo hop hc=>?_,fun e=>?_,?_,hb▸hm.valid v (by rw[hv];exact vsz s l hl),ym,rfl⟩
  ·have:=Ox (dc:=[.arr 0 0 (I l),dfn 22]) (σ:=q0 (l.map pV)) (q:=2) (fs:=[]) (cs:=[]) (ds:=[.arr 2 0 (I (l.map pV)),dfn 22]) hop hc rfl (A3 _) (A3 _) (by rw[H9];exact .arr (.pl rfl .nil)) rfl (by have:=G9 (l.map pV) (by rw[H9];omega) hsz;rwa[H9] at this)
   simpa[q0] using this
  ·exact Kp (σ:=⟨[G [di 0,.v .nils],G [di 0,.gro 2 (I l) 2],G (Ab ((sortV (l.map pV)).map eV))],[]⟩) (p:=1) (q:=2) (i:=1) (sz:=2) (cs:=[di 0,.gro 2 (I l) 2]) (xs:=(sortV (l.map pV)).map eV) (by decide) rfl rfl (by decide) (by rw[H9,hsl];rfl) (Ct _) e
  ·rw[hv];exact RY s (.mk 0 (sortV (l.map pV))) (by omega)
 |succ n ih=>
  intro k hn hk
  obtain⟨x,hx⟩:=yk (show k+1<I l by omega)
  refine lv 44 [3] (.t<|.x (cq x)<|.lo [ke 1,ke 3,ke 6,ke 8,ke 13,ke 14,ch 15 (di (k+1+1:Nat))] ⟨[G [di 0,.v .nils],G [di 0,.gro 4 (k+1+1) 2],none,G [di x.1,di x.2],G (Ab (((l.take (k+1+1)).map pV).map eV))],[]⟩) (Y ((↑(k+1):Int)<(I l:Int))=J/\0<=(↑(k+1):Int)/\(U cq l)[Z (↑(k+1):Int)]?=G (cq x)/\iz 0<=0/\0<(↑2:Int)/\iz 0<=1/\1<(↑2:Int)/\I (Ab (U eV (U pV (take (k+1) l))))=I (U pV (take (k+1) l))*2/\[ab [vi 0,ai (sf x.fst x.snd)]]≠ []/\(∀(y:V),y∈ [ab [vi 0,ai (sf x.fst x.snd)]]->V.size y=2)/\Ao (I (U pV (take (k+1) l))+I (vf x.fst x.snd)) 32/\di (yu yt ((↑(k+1):Int)+1))=di (↑(k+1+1):Int)/\cm 5 [] [G [di 0,dn],G [di 0,bm 4 (I (U pV (take (k+1) l))+I (vf x.fst x.snd)) 2],none,G [di x.fst,di x.snd],G (Ab (U eV (U pV (take (k+1) l)))++[di 0,bt (ai (sf x.fst x.snd))])]=J/\[G [di 0,dn],G [di 0,bm 4 (I (U pV (take (k+1) l))+I (vf x.fst x.snd)) 2],none,G [di x.fst,di x.snd],G (Ab (U eV (U pV (take (k+1) l)))++[di 0,bt (ai (ab (vi x.fst::ai nV::nV)::ab (vi x.snd::ai nV::nV)::nV))])]=[G [di 0,dn],G [di 0,bm 4 (k+1+1) 2],none,G [di x.fst,di x.snd],G (Ab (U eV (U pV (take (k+1+1) l))))]/\I0 pt 0 (bl [dV v,db b]) bd [kl og [1,1,0,1,0,0],bh 0,kc og [1,1,1]] (ba 44 [(1,di s),(3,bt (bz (A1 m))),(6,bq 0 0),(8,bq 1 0),(13,bt (Ck l)),(14,di (I l:Int)),(15,di (↑(k+1+1):Int))]) (bi [G [di 0,dn],G [di 0,bm 4 (k+1+1) 2],none,G [di x.fst,di x.snd],G (Ab (U eV (U pV (take (k+1+1) l))))] [])) ?_
  have hk1:=(HD.1 hx).1
  have ht:l.take (k+1+1)=l.take (k+1)++[x]:=by rw[IM (i:=k+1),hx];rfl
  have hpe:bt (ai [ab [vi x.1,ai []],ab [vi x.2,ai []]])=cx (pV x).az:=by
   show _=bt (.list [eV (.mk x.1 []),eV (.mk x.2 [])])
   rw[AE,AE];rfl
  have hf:Ab (((l.take (k+1)).map pV).map eV)++[di 0,bt (ai [ab [vi x.1,ai []],ab [vi x.2,ai []]])]=Ab (((l.take (k+1+1)).map pV).map eV):=by
   rw[hpe,ht,IQ,DL]
   congr 1
  have hih:=ih (k+1) (by omega) hk1
  have hll:I ((l.take (k+1)).map pV)=k+1:=by rw[H9,Ig];omega
  have hll2:I ((l.take (k+1+1)).map pV)=k+1+1:=by rw[H9,Ig];omega
  rw[hll,hf]
  refine⟨yr,by omega,Am hx,Ib _,by decide,by decide,by decide,by rw[AT,hll],by simp,fun y hy=>by rw[HQ.1 hy];rfl,⟨?_,?_⟩,Ae,?_,?_,⟨?_⟩⟩
  ·simp only[HF,HJ];omega
  ·simp only[HF,HJ];omega
  ·simp[cm,D.okNs,D.okN,Ak]
  ·rfl
  ·rw[q0,hll2] at hih
   exact AdO _ _ _ 0 (by decide) rfl (by simp[ba,D.okNs,D.okN]) (by simp[ba,D.rens,D.ren]) hih
def Ch(s:Int)(l:List (Int×Int)):bc:=.mk 0 [.mk s [],.mk 0 (sortV (l.map pV))]
theorem Mw(s:Int)(l:List (Int×Int))(hl:I l<=100):(Ch s l).size<=400:=Alj s l hl
theorem OR(m:b9)(t:cy)(hm:Hq m t)(s:Int)(l:List (Int×Int))(hl:I l<=100):F0 221 [Af m,di s,AK l] (.tup [dV (Ch s l),db (Ah t (Ch s l))]):=by
 obtain⟨v,hv⟩:∃v:bc,v=Ch s l:=⟨_,rfl⟩
 rw[←hv]
 unfold Ch at hv
 ·cases l with
  |nil=>
   have hmv:=hm.valid v (by rw[hv];exact vsz s [] hl)
   have hn0:sortV ([].map pV)=[]:=(A7 _).eq_nil
   refine sv pt 44 [3] (.n<|.f<|.c (.tup [])<|.c (dV v)<|.c (db (Ah t v)) .r) (Y (0<(I (U cq []):Int))=O/\_/\F0 243 [di s,bt (ai [ab [vi 0,ai []]])] (dV v)/\_/\yo/\Q (bl [dV v,db (Ah t v)])) ⟨by decide,L3,?_,hmv,ym,rfl⟩
   rw[hv,hn0]
   exact RY s (.mk 0 []) (by decide)
  |cons x l=>
   have hpe:bt (ai [ab [vi x.1,ai []],ab [vi x.2,ai []]])=cx (pV x).az:=by
    show _=bt (.list [eV (.mk x.1 []),eV (.mk x.2 [])])
    rw[AE,AE];rfl
   have hf:[di 0,bt (ai [ab [vi x.1,ai []],ab [vi x.2,ai []]])]=Ab ([pV x].map eV):=by
    rw[hpe,A8];rfl
   have hlp:=AdP m t hm s (x::l) hl v _ hv rfl _ 0 rfl (by simp)
   refine sv pt 44 [3] (.h (.q 1 0)<|.h .rn<|.n<|.t<|.x (cq x)<|.h (.q 5 11)<|.h .g<|.lo [ke 1,ke 3,ke 6,ke 8,ke 13,ch 14 (di (I (x::l))),ch 15 (di (1:Nat))] ⟨[G [di 0,.v .nils],G [di 0,.gro 3 1 2],G [di x.1,di x.2],G (Ab ([pV x].map eV))],[]⟩) (Y (0<(I (U cq (x::l)):Int))=J/\iz 0<=0/\Q (G (cq x))/\iz 0<=0/\0<(↑2:Int)/\iz 0<=1/\1<(↑2:Int)/\[ab [vi 0,ai (ql x.fst x.snd)]]≠ []/\(∀(y:V),y∈ [ab [vi 0,ai (ql x.fst x.snd)]]->V.size y=2)/\Ao 1 32/\di (I (U cq (x::l)):Int)=di (I (x::l):Int)/\di (yu yt (0+1))=di (↑1:Int)/\cm 4 [] [G [di 0,dn],G [di 0,bm 3 1 2],G [di x.fst,di x.snd],G [di 0,bt (ai (ql x.fst x.snd))]]=J/\Q [G [di 0,dn],G [di 0,bm 3 1 2],G [di x.fst,di x.snd],G [di 0,bt (ai (ab (gn x.fst)::ab (gn x.snd)::nV))]]/\I0 pt (I bd.H) (bl [dV v,db (Ah t v)]) bd [kl og d5,bh 0,kc og [1,1,1]] (ba 44 [(1,di s),(3,bt (ic m)),j0,(8,bq 1 0),(13,AK (x::l)),(14,di (I (x::l):Int)),(15,di (↑1:Int))]) (bi [G [di 0,dn],G [di 0,bm 3 1 2],G [di x.fst,di x.snd],G [di 0,bt (ai (ql x.fst x.snd))]] [])) ⟨HC (by simp only[H9,HF];omega),Ib _,rfl,Ib _,by decide,by decide,by decide,by simp,fun y hy=>by rw[HQ.1 hy];rfl,⟨by decide,by decide⟩,by rw[H9],HX di (by decide),rfl,rfl,⟨?_⟩⟩
   rw[hf]
   exact Aai _ _ _ (by decide) rfl (by simp[ba,D.okNs,D.okN]) (by simp[ba,D.rens,D.ren]) hlp
noncomputable abbrev Akw:=Tryz.f239
theorem Xo(m:b9)(t:cy)(hm:kb m t)(c:bc)(hv:Ah t c=J):F0 239 [Af m,dV c] (di 0):=by
 have h1:=hm.int.valid c (by have:=(hm.shape c hv).size;omega)
 rw[hv] at h1
 exact sv Akw 20 [2,3] (.c (di 0)<|.k<|.f<|.c (db J) .r) (_/\(m.kind !=5)=O/\_/\Q (di 0)) ⟨hm.chk,by rw[hm.kind];rfl,h1,rfl⟩
def GL(b:bc):List (Int×Int):=b.az.map fun v=>((v.az.getD 0 ez).n,(v.az.getD 1 ez).n)
theorem Oo(b:bc):I (GL b)=I b.az:=H9 _
theorem XY(b:bc)(h:∀v∈b.az,I v.az=2)(k:Nat)(v:bc)(hk:b.az[k]?=G v):∃a y,v.az[0]?=G a/\v.az[1]?=G y/\(GL b)[k]?=G (a.n,y.n):=by
 have h2:=h v (HG hk)
 refine⟨v.az[0],v.az[1],HA (by omega),HA (by omega),?_⟩
 rw[GL,Ir,hk]
 simp[HI,h2]
def D9(m:b9)(x:Int):Int:=if yu yt (m.age+1)<yu yt (x+1) then yu yt (m.age+1) else yu yt (x+1)
theorem Zi{l:List (Int×Int)}{k:Nat}{x:Int×Int}(h:l[k]?=G x):(Ab (l.map cq))[k*2+1]?=G (di x.2):=by
 induction l generalizing k with
 |nil=>simp at h
 |cons y l ih=>
  cases k with
  |zero=>simp at h;subst h;rfl
  |succ k=>
   rw[GS,show(k+1)*2+1=(k*2+1)+2 by omega]
   exact ih (by simpa using h)
theorem PY{l:List (Int×Int)}{k:Nat}{x:Int×Int}(h:l[k]?=G x)(y:Int):(Ab (l.map cq)).set (k*2+1) (di y)=Ab ((l.set k (x.1,y)).map cq):=by
 induction l generalizing k with
 |nil=>simp at h
 |cons z l ih=>
  cases k with
  |zero=>simp at h;subst h;rfl
  |succ k=>
   rw[GS,IW,GS, ←ih (by simpa using h),show(k+1)*2+1=(k*2+1)+2 by omega]
   rfl
noncomputable abbrev ui:=Tryz.f207
noncomputable def AgI:=yl ui
def e9(m:b9)(ps:List (Int×Int)):List (Int×Int):=ps.map fun p=>(p.1,D9 m p.2)
noncomputable abbrev tl:=(TypeInfo.mk (TypeDesc.int yt) "int" 1 8 false 8 8 (G (Value.int yt 0)) true #[])
theorem Abw(m:b9)(c s0:bc)(h0:c.az[0]?=G s0)(ps:List (Int×Int))(N:Nat)(hpN:I ps=N)(hN:N<=100)(v:bc)(b:Bool)(v2:F0 221 [Af m,di s0.n,AK (e9 m ps)] (.tup [dV v,db b]))(n:Nat):∀(k:Nat) (l:List (Int×Int)),N-k=n->I l=N->(∀i:Nat,l[i]?=if i<k then(e9 m ps)[i]? else ps[i]?)->
  Rn PP ui 0 (.tup [dV v,di 0]) bd ([kl AgI [1,1,1,0,1,0,0],.blk 0,kc AgI [1,1,1,1]]++[]) (ba 52 [(2,.v (.ref (A1 m))),(3,.v (.ref (Ac c))),(4,.ptr 0 0),(7,.arr 1 0 N),(21,di N),(22,di k)]) ⟨[G [di 0,.v .nils],G (Ab (l.map cq))],[]⟩:=by
 induction n with
 |zero=>
  intro k l hn hl hi
  have e:l=e9 m ps:=List.ext_getElem? fun i=>by
   rw[hi i]
   split
   ·rfl
   ·rw[Iy (by omega),Iy (by rw[e9,H9];omega)]
  rw[←e] at v2
  clear hi e
  exact lv 52 [2,3] (.h (.q 6 0)<|.h (.ct 7 (AK l) ⟨[G [di 0,.v .nils],none],[]⟩)<|.f<|.h (.dr 11)<|.h (.xs (Ac s0))<|.c (.tup [dV v,db b]) .r) ((∀(e:List D),e[7]?=G (bo 1 0 N)->∀(E:cf) (g:Gh) (a:Act) (w:x5),FI E g (bi [G [di 0,dn],G (Ab (U cq l))] []) e a w->∃g',FI E g' (bi [G [di 0,dn],none] []) (List.set e 7 (AK l)) a w)/\Y ((k:Int)<(N:Int))=O/\Q 2/\iz 0<=0/\(cc c.az)[Z 0]?=G (Ac s0)/\_/\Q [bi [G [di 0,dn],none,G [di 0,dn]] []]/\True/\Q (bl [dV v,di 0])) ⟨fun e he=>ZG (σ:=⟨[G [di 0,.v .nils],G (Ab (l.map cq))],[]⟩) (q:=1) (sz:=2) (by decide) (Pu _) (by rw[H9];omega) rfl he,yq,rfl,Ib _,An (i:=0) h0,v2,rfl,trivial,rfl⟩
 |succ n ih=>
  intro k l hn hl hi
  obtain⟨x,hx⟩:=yk (show k<I l by omega)
  have v2:=ih (k+1) (l.set k (x.1,D9 m x.2)) (by omega) (by rw[length_set];exact hl) (fun i=>by
   have hx':=hi k
   rw[hx,HR (Nat.lt_irrefl k)] at hx'
   by_cases hik:i=k
   ·subst hik
    rw[List.getElem?_set_self (by omega),HV (Nat.lt_succ_self i),e9,Ir, ←hx'];rfl
   ·rw[List.getElem?_set_ne (fun h=>hik h.symm),hi i]
    by_cases h1:i<k
    ·rw[HV h1,HV (by omega)]
    ·rw[HR h1,HR (by omega)])
  clear hi
  have e1:0+Z (k:Int)*2+Z 1*1=k*2+1:=by omega
  refine lv 52 [2,3] (.t<|.m (di x.2)<|.w<|.lo [ke 2,ke 3,ke 4,ke 7,ke 21,ch 22 (di (k+1:Nat))] ⟨[G [di 0,.v .nils],G (Ab ((l.set k (x.1,D9 m x.2)).map cq))],[]⟩) (Y ((k:Int)<(N:Int))=J/\0<=(k:Int)/\(k:Int)<(N:Int)/\iz 0<=1/\1<(↑2:Int)/\(Ab (U cq l))[0+Z (k:Int)*2+Z 1*(1,match tl.desc with|TypeDesc.struct fields=>true|TypeDesc.array len elem=>true|x=>false).fst]?=G (di x.snd)/\0<=(k:Int)/\(k:Int)<(N:Int)/\iz 0<=1/\1<(↑2:Int)/\0+Z (k:Int)*2+Z 1*(1,match tl.desc with|TypeDesc.struct fields=>true|TypeDesc.array len elem=>true|x=>false).fst<I (Ab (U cq l))/\yp/\di (yu yt ((k:Int)+1))=di (↑(k+1):Int)/\cm 2 [] [G [di 0,dn],G (List.set (Ab (U cq l)) (0+Z (k:Int)*2+Z 1*(1,match tl.desc with|TypeDesc.struct fields=>true|TypeDesc.array len elem=>true|x=>false).fst) (di (if yu yt (m.age+1)<yu yt (x.snd+1) then yu yt (m.age+1) else yu yt (x.snd+1))))]=J/\[G [di 0,dn],G (List.set (Ab (U cq l)) (0+Z (k:Int)*2+Z 1*(1,match tl.desc with|TypeDesc.struct fields=>true|TypeDesc.array len elem=>true|x=>false).fst) (di (if yu yt (m.age+1)<yu yt (x.snd+1) then yu yt (m.age+1) else yu yt (x.snd+1))))]=[G [di 0,dn],G (Ab (U cq (List.set l k (x.fst,D9 m x.snd))))]/\_) ⟨yr,by omega,by omega,by decide,by decide,?_,by omega,by omega,by decide,by decide,?_,yn,Ae,?_,?_,iK v2⟩
  ·show(Ab (l.map cq))[0+Z (k:Int)*2+Z 1*1]?=_
   rw[e1];exact Zi hx
  ·show 0+Z (k:Int)*2+Z 1*1<_
   rw[e1,Me];omega
  ·show cm 2 [] [G [di 0,bt bv],G ((Ab (l.map cq)).set (0+Z (k:Int)*2+Z 1*1) (di (D9 m x.2)))]=J
   rw[e1,PY hx];simp[cm,D.okNs,D.okN,Ak]
  ·show [G [di 0,bt bv],G ((Ab (l.map cq)).set (0+Z (k:Int)*2+Z 1*1) (di (D9 m x.2)))]=_
   rw[e1,PY hx]
def ln(m:b9)(c:bc):bc:=Ch (c.az.getD 0 ez).n (e9 m (GL (c.az.getD 1 ez)))
theorem Sp(m:b9)(t:cy)(hm:kb m t)(c:bc)(hv:Ah t c=J):(ln m c).size<=1000/\F0 207 [Af m,dV c] (.tup [dV (ln m c),di 0]):=by
 have hsh:=hm.shape c hv
 have hck:=Xo m t hm c hv
 obtain⟨s0,h0⟩:∃x,c.az[0]?=G x:=⟨_,HA (by rw[hsh.len];omega)⟩
 obtain⟨b,hb⟩:∃x,c.az[1]?=G x:=⟨_,HA (by rw[hsh.len];omega)⟩
 have hb12:=hsh.few b hb
 have hpl:=Oo b
 have hol:I (e9 m (GL b))=I b.az:=by rw[e9,H9,hpl]
 have e0:c.az.getD 0 ez=s0:=by rw[HI,h0];rfl
 have e1:c.az.getD 1 ez=b:=by rw[HI,hb];rfl
 rw[ln,e0,e1]
 have v1:=Mw s0.n (e9 m (GL b)) (by omega)
 have v2:=OR m t hm.int s0.n (e9 m (GL b)) (by omega)
 refine⟨by omega,?_⟩
 generalize Ch s0.n (e9 m (GL b))=v at v1 v2⊢
 generalize Ah t v=x at v2
 by_cases hn:b.az=[]
 ·have ht:=Sn c b hb (by omega) [] (by rw[hn];rfl) (fun k v hk=>by rw[hn] at hk;simp at hk)
  rw[show e9 m (GL b)=[] by simp[e9,GL,hn]] at v2
  exact sv ui 52 [2,3] (.c (di 0)<|.k<|.c (AK [])<|.n<|.f<|.h (.dr 11)<|.h (.xs (Ac s0))<|.c (.tup [dV v,db x]) .r) (_/\_/\Y (0<(I (U cq []):Int))=O/\Q 2/\iz 0<=0/\(cc c.az)[Z 0]?=G (Ac s0)/\_/\Q [bi [G [di 0,dn],G [di 0,dn]] []]/\True/\Q (bl [dV v,di 0])) ⟨hck,ht,rfl,rfl,Ib _,An (i:=0) h0,v2,rfl,trivial,rfl⟩
 ·have ht:=Xj c b hb (by omega) hn (GL b) hpl (XY b fun v hv=>hsh.toks b v hb hv)
  have v3:=Abw m c s0 h0 (GL b) (I (GL b)) rfl (by omega) v x v2 _ 0 (GL b) rfl rfl (fun i=>by rw[HR (Nat.not_lt_zero i)])
  clear v2
  generalize GL b=ps at ht v3
  exact sv ui 52 [2,3] (.c (di 0)<|.k<|.h (.oc (.arr 1 0 (I ps)) ⟨[G [di 0,.v .nils],G (Ab (ps.map cq))],[]⟩)<|.lo [ke 2,ke 3,ke 4,ke 7,ch 21 (di (I ps)),ch 22 (di (0:Nat))] ⟨[G [di 0,.v .nils],G (Ab (ps.map cq))],[]⟩) (_/\(N0 [bt (bw 219 [] []),dV c] qt (bo 1 0 (I ps)) (bi [G [di 0,dn],G (Ab (U cq ps))] []))/\Q (di (I ps:Int))/\Q (di 0)/\cm 2 [] [G [di 0,dn],G (Ab (U cq ps))]=J/\Q [G [di 0,dn],G (Ab (U cq ps))]/\_) ⟨hck,fun o cl fo ho hc=>K4 (σ:=⟨[G [di 0,.v .nils]],[]⟩) (fs:=[]) (cs:=[]) (ds:=[dV c]) ho hc rfl (A3 _) ht,rfl,rfl,by simp[cm,D.okNs,D.okN,Ak],rfl,iK v3⟩
theorem Aa7(l:List bc):I (Ab (l.map eV))=I l*2:=AT l
theorem Ei{l:List bc}{i:Nat}{x:bc}(h:l[i]?=G x):i*2+2<=I (Ab (l.map eV)):=by
 obtain⟨h,_⟩:=HD.1 h
 rw[AT];omega
theorem Fo{l:List bc}{i:Nat}{x:bc}(h:l[i]?=G x):((Ab (l.map eV)).drop (i*2)).take 2=[.v (vi x.n),.v (dt x.az)]:=Dz h
theorem TN:∀(l:List bc) (k:Nat),(Ab (l.map eV)).take (k*2)=Ab ((l.take k).map eV)
 |[],k=>by simp[Ab]
 |v::l,0=>rfl
 |v::l,k+1=>by
  rw[A8,List.take_succ_cons,A8, ←TN l k,show(k+1)*2=k*2+1+1 by omega];rfl
theorem Pb:∀(l:List bc) (k:Nat) (x:bc) (_:k<I l),(Ab (l.map eV)).take (k*2)++[bt (vi x.n),bt (dt x.az)]++(Ab (l.map eV)).drop (k*2+2)=Ab ((l.set k x).map eV)
 |v::l,0,x,_=>by rw[List.set_cons_zero,A8,A8];rfl
 |v::l,k+1,x,h=>by
  rw[IW,A8,A8, ←Pb l k x (by simpa using h),show(k+1)*2=k*2+1+1 by omega];rfl
theorem Aeg(k:Nat):(((replicate k [vi 0,bv]).flatten.map bt).all D.one)=J:=by
 induction k with
 |zero=>rfl
 |succ k ih=>simp only[I4,IY,IQ,List.all_append,ih];rfl
theorem vx:Cd PP 29=G (31,2,32,G (.agg #[.int .i64 0,.slice none 0 0])):=by kernel_rfl
theorem RU(l:List V){R:List D}(h:D.pls R=J):D.pls (Ab l++R)=J:=by rw[Dc,A3,h];rfl
noncomputable abbrev Zy:=Tryz.f216
noncomputable def EK:=yl Zy
noncomputable abbrev wl:=[kl EK [1,1,0,1,0,0,1,0,0,1,0,1,0,1,0,0],bh 2,kc EK [1,1,0,1,0,0,1,0,0,1,0,1,1],bh 1,kc EK [1,1,0,1,0,0,1,1],kl EK d5,bh 0,kc EK [1,1,1]]
theorem AjG(F:yx)(l:List bc)(q:bc->bc->Bool)(hl:I l<=1000)(hq:∀x∈l,∀y∈l,F0 F [dV x,dV y] (db (q x y)))(k0:Nat)(h0:1<=k0)(h1:k0<I l)(n:Nat):∀(k j:Nat) (A:List bc),I l-k0-j=n->1<=k->1<=j->k<k0+j->j<=I l-k0->I A=I l->(∀x∈A,x∈l)->(∀i:Nat,k0+j-1<=i->A[i]?=l[i]?)->(∀p,l[k0+j-1]?=G p->A.take k++BQ q p (l.drop (k0+j))=AP q l)->
  ∃(ys:List bc) (R:List D),ys=AP q l/\D.pls R=J/\R.all D.one=J/\Rn PP Zy 1 (.arr 0 0 (I ys)) ⟨[G (Ab (ys.map eV)++R)],[]⟩ ([kl EK [1,1,0,1,0,0,1,0,0,1,0,1,0,1,0,0],.blk 2,kc EK [1,1,0,1,0,0,1,0,0,1,0,1,1],.blk 1,kc EK [1,1,0,1,0,0,1,1],kl EK [1,1,0,1,0,0],.blk 0,kc EK [1,1,1]]++[]) (ba 66 [(0,.arr 0 0 (I l)),(1,dfn F),(5,di k),(6,.arr 0 (k0*2) (I l-k0)),(7,di j)]) ⟨[G (Ab (A.map eV))],[]⟩:=by
 induction n with
 |zero=>
  intro k j A hn hk hj hkj hjl hA hAl hAe hT
  refine⟨A.take k,(replicate (I l-k) [vi 0,bv]).flatten.map .v,?_,?_,?_,?_⟩
  ·obtain⟨p,hp⟩:∃p,l[k0+j-1]?=G p:=⟨_,HA (by omega)⟩
   have:=hT p hp
   rw[HU (by omega),BQ,Iz] at this
   exact this
  ·exact BY _
  ·exact Aeg _
  have hkl:k<I l:=by omega
  have hsl:∀(o:yy) (x:x8) (y:x8) (τ:St),o.op=.slice 29 x (G y) none none->Aj PP o [.arr 0 0 (I l),di k] τ (.arr 0 (k*2) (I l-k)) τ:=fun o x y τ ho=>by
   have:=CJ (P:=PP) (o:=o) (σ:=τ) ho vx (q:=0) (off:=0) (len:=I l) (G (.i64,(k:Int))) none rfl rfl (l':=k) (h':=I l) (by simp[Cn];omega) hkl
   rwa[Iv] at this
  have hsh:∀(o:yy) (x:x8) (y:x8) (τ:St),o.op=.slice 29 x none (G y) none->Aj PP o [.arr 0 0 (I l),di k] τ (.arr 0 0 k) τ:=fun o x y τ ho=>by
   have:=CJ (P:=PP) (o:=o) (σ:=τ) ho vx (q:=0) (off:=0) (len:=I l) none (G (.i64,(k:Int))) rfl rfl (l':=0) (h':=k) (by simp[Cn];omega) (by omega)
   rwa[Nat.zero_mul,I8,Nat.sub_zero] at this
  have hfl:I (Ab (A.map eV))=I l*2:=by rw[Aa7,hA]
  have hcl:=fun(o:yy) (x:x8) (ho:o.op=.call { callee:=.builtin .clear,args:= #[x],argTypes:= #[29]})=>LM (P:=PP) (o:=o) (σ:=⟨[G (Ab (A.map eV))],[]⟩) ho vx (zs:=[vi 0,.nils]) rfl rfl (q:=0) (off:=k*2) (len:=I l-k) rfl (by omega) (by rw[hfl];omega)
  have hd:(Ab (A.map eV)).drop (k*2+(I l-k)*2)=[]:=HU (by rw[hfl];omega)
  have htk:(Ab (A.map eV)).take (k*2)=Ab ((A.take k).map eV):=TN A k
  rw[hd,htk,Iz] at hcl
  refine lv 66 [] (.f<|.h (.q 14 2)<|.h (.o (.arr 0 (k*2) (I l-k)) ⟨[G (Ab (A.map eV))],[]⟩)<|.h (.o (.tup []) ⟨[G (Ab ((A.take k).map eV)++(replicate (I l-k) [vi 0,bv]).flatten.map .v)],[]⟩)<|.h (.q 15 2)<|.h (.o (.arr 0 0 k) ⟨[G (Ab ((A.take k).map eV)++(replicate (I l-k) [vi 0,bv]).flatten.map .v)],[]⟩) .ro) (Y ((j:Int)<(↑(I l-k0):Int))=O/\Aj PP (Oper.mk (G 61) (Op.slice 29 (Operand.tmp 59) (G (Operand.tmp 60)) none none) 29 "slices.go:410" #[Edge.mk 0 Ground.data,Edge.mk 1 Ground.data] none) [bo 0 0 (I l),di (k:Int)] (k7 A) (bo 0 (k*2) (I l-k)) (k7 A)/\Aj PP (Oper.mk none (Op.call (Call.mk (Callee.builtin Builtin.clear) #[Operand.tmp 61] #[29])) 0 "slices.go:410" #[Edge.mk 2 Ground.data] none) [bo 0 (k*2) (I l-k)] (k7 A) (bl []) (bi [G (Ab (U eV (take k A))++U bt (flatten (replicate (I l-k) [vi 0,bv])))] [])/\Aj PP (Oper.mk (G 64) (Op.slice 29 (Operand.tmp 62) none (G (Operand.tmp 63)) none) 29 "slices.go:411" #[Edge.mk 0 Ground.data,Edge.mk 1 Ground.data] none) [bo 0 0 (I l),di (k:Int)] (bi [G (Ab (U eV (take k A))++U bt (flatten (replicate (I l-k) [vi 0,bv])))] []) (bo 0 0 k) (bi [G (Ab (U eV (take k A))++U bt (flatten (replicate (I l-k) [vi 0,bv])))] [])/\cm 1 [] [G (Ab (U eV (take k A))++U bt (flatten (replicate (I l-k) [vi 0,bv])))]=J/\Q [G (Ab (U eV (take k A))++U bt (flatten (replicate (I l-k) (vi 0::bv::nV))))]/\bo 0 0 k=bo 0 0 (I (take k A))) ⟨yq,hsl _ _ _ _ rfl,hcl _ _ rfl,hsh _ _ _ _ rfl,?_,rfl,by rw[Ig,hA,Nat.min_eq_left (by omega)]⟩
  exact HS.2 ⟨AS (RU _ (BY _)),rfl⟩
 |succ n ih=>
  intro k j A hn hk hj hkj hjl hA hAl hAe hT
  obtain⟨x,hx⟩:=yk (show k0+j<I A by omega)
  obtain⟨y,hy⟩:=yk (show k0+j-1<I A by omega)
  have hc:=hq x (hAl x (HG hx)) y (hAl y (HG hy))
  have hw1:yt.wrap ((j:Int)-1)=((j-1:Nat):Int):=by rw[Al];omega
  have hT':=hT y (by rw[←hAe _ (HH _)];exact hy)
  have hx':l[k0+j]?=G x:=by rw[←hAe _ (by omega)];exact hx
  rw[da hx',BQ] at hT'
  cases hb:q x y with
  |true=>
   rw[hb] at hc
   obtain⟨ys,R,r1,r3,r5,r4⟩:=ih k (j+1) A (by omega) hk (by omega) (by omega) (by omega) hA hAl (fun i hi=>hAe i (by omega)) (fun p hp=>by
    have e:x=p:=HZ (hx'.symm.trans hp)
    rw[hb,HV rfl,e] at hT';exact hT')
   refine⟨ys,R,r1,r3,r5,?_⟩
   refine lv 66 [] (.t<|.m (dV x)<|.m (dV y)<|.c (db J)<|.lo [ke 0,ke 1,ke 5,ke 6,ch 7 (di (j+1:Nat))] ⟨[G (Ab (A.map eV))],[]⟩) (Y ((j:Int)<(↑(I l-k0):Int))=J/\0<=(j:Int)/\(j:Int)<(↑(I l-k0):Int)/\k0*2+Z (j:Int)*2+2<=I (dv A)/\take 2 (W (k0*2+Z (j:Int)*2) (dv A))=(c7 x.n x.az)/\0<=yu yt ((j:Int)-1)/\yu yt ((j:Int)-1)<(↑(I l-k0):Int)/\k0*2+Z (yu yt ((j:Int)-1))*2+2<=I (dv A)/\take 2 (W (k0*2+Z (yu yt ((j:Int)-1))*2) (dv A))=(c7 y.n y.az)/\F0 F [dV x,dV y] (db J)/\yo/\di (yu yt ((j:Int)+1))=di (↑(j+1):Int)/\cm 1 [] [G (dv A)]=J/\Q [G (dv A)]/\I0 Zy 1 (bo 0 0 (I ys)) (bi [G (Ab (U eV ys)++R)] []) wl (ba 66 [(0,bo 0 0 (I l)),(kz F),(5,di (k:Int)),(6,bo 0 (k0*2) (I l-k0)),(7,di (↑(j+1):Int))]) (k7 A)) ?_
   rw[hw1]
   refine⟨yr,by omega,by omega,by rw[show k0*2+Z (j:Int)*2=(k0+j)*2 by omega];have:=Ei hx;omega,by rw[show k0*2+Z (j:Int)*2=(k0+j)*2 by omega];exact Fo hx,by omega,by omega,by rw[show k0*2+Z ((j-1:Nat):Int)*2=(k0+j-1)*2 by omega];have:=Ei hy;omega,by rw[show k0*2+Z ((j-1:Nat):Int)*2=(k0+j-1)*2 by omega];exact Fo hy,hc,ym,Ae,HS.2 ⟨Ak 1 [] _,rfl⟩,rfl,⟨r4⟩⟩
  |false=>
   rw[hb] at hc
   have hA2:∀z∈A.set k x,z∈l:=fun z hz=>by
    rcases IE hz with h|h
    ·exact hAl z h
    ·rw[h];exact hAl x (HG hx)
   obtain⟨ys,R,r1,r3,r5,r4⟩:=ih (k+1) (j+1) (A.set k x) (by omega) (by omega) (by omega) (by omega) (by omega) (by rw[length_set];exact hA) hA2 (fun i hi=>by rw[List.getElem?_set_ne (by omega)];exact hAe i (by omega)) (fun p hp=>by
    have e:x=p:=HZ (hx'.symm.trans hp)
    rw[hb,HR (by decide)] at hT'
    rw[Jz (by omega),IG,List.singleton_append, ←e];exact hT')
   refine⟨ys,R,r1,r3,r5,?_⟩
   refine lv 66 [] (.t<|.m (dV x)<|.m (dV y)<|.c (db O)<|.m (dV x)<|.h .ww<|.lo [ke 0,ke 1,ch 5 (di (k+1:Nat)),ke 6,ch 7 (di (j+1:Nat))] ⟨[G (Ab ((A.set k x).map eV))],[]⟩) (Y ((j:Int)<(↑(I l-k0):Int))=J/\0<=(j:Int)/\(j:Int)<(↑(I l-k0):Int)/\k0*2+Z (j:Int)*2+2<=I (dv A)/\take 2 (W (k0*2+Z (j:Int)*2) (dv A))=(c7 x.n x.az)/\0<=yu yt ((j:Int)-1)/\yu yt ((j:Int)-1)<(↑(I l-k0):Int)/\k0*2+Z (yu yt ((j:Int)-1))*2+2<=I (dv A)/\take 2 (W (k0*2+Z (yu yt ((j:Int)-1))*2) (dv A))=(c7 y.n y.az)/\F0 F [dV x,dV y] (db O)/\yo/\0<=(j:Int)/\(j:Int)<(↑(I l-k0):Int)/\k0*2+Z (j:Int)*2+2<=I (dv A)/\take 2 (W (k0*2+Z (j:Int)*2) (dv A))=(c7 x.n x.az)/\0<=(k:Int)/\(k:Int)<(I l:Int)/\0+Z (k:Int)*2+2<=I (dv A)/\di (yu yt ((k:Int)+1))=di (↑(k+1):Int)/\di (yu yt ((j:Int)+1))=di (↑(j+1):Int)/\cm 1 [] [G (take (0+Z (k:Int)*2) (dv A)++(c7 x.n x.az)++W (0+Z (k:Int)*2+2) (dv A))]=J/\[G (take (0+Z (k:Int)*2) (dv A)++(c7 x.n x.az)++W (0+Z (k:Int)*2+2) (dv A))]=[G (Ab (U eV (List.set A k x)))]/\I0 Zy 1 (bo 0 0 (I ys)) (bi [G (Ab (U eV ys)++R)] []) wl (ba 66 [(0,bo 0 0 (I l)),(kz F),(5,di (↑(k+1):Int)),(6,bo 0 (k0*2) (I l-k0)),(7,di (↑(j+1):Int))]) (bi [G (Ab (U eV (List.set A k x)))] [])) ?_
   rw[hw1]
   refine⟨yr,by omega,by omega,by rw[show k0*2+Z (j:Int)*2=(k0+j)*2 by omega];have:=Ei hx;omega,by rw[show k0*2+Z (j:Int)*2=(k0+j)*2 by omega];exact Fo hx,by omega,by omega,by rw[show k0*2+Z ((j-1:Nat):Int)*2=(k0+j-1)*2 by omega];have:=Ei hy;omega,by rw[show k0*2+Z ((j-1:Nat):Int)*2=(k0+j-1)*2 by omega];exact Fo hy,hc,ym,by omega,by omega,by rw[show k0*2+Z (j:Int)*2=(k0+j)*2 by omega];have:=Ei hx;omega,by rw[show k0*2+Z (j:Int)*2=(k0+j)*2 by omega];exact Fo hx,by omega,by omega,by rw[Aa7];omega,Ae,Ae,?_,?_,⟨r4⟩⟩
   ·rw[show 0+Z (k:Int)*2=k*2 by omega,Pb A k x (by omega)]
    exact HS.2 ⟨Ak 1 [] _,rfl⟩
   ·rw[show 0+Z (k:Int)*2=k*2 by omega,Pb A k x (by omega)]
theorem Ag2(F:yx)(l:List bc)(q:bc->bc->Bool)(hl:I l<=1000)(hq:∀x∈l,∀y∈l,F0 F [dV x,dV y] (db (q x y)))(n:Nat):∀(k:Nat),I l-k=n->1<=k->k<=I l->(∀p,l[k-1]?=G p->l.take k++BQ q p (l.drop k)=AP q l)->
  ∃(ys:List bc) (R:List D),ys=AP q l/\D.pls R=J/\R.all D.one=J/\Rn PP Zy 1 (.arr 0 0 (I ys)) ⟨[G (Ab (ys.map eV)++R)],[]⟩ ([kl EK [1,1,0,1,0,0],.blk 0,kc EK [1,1,1]]++[]) (ba 66 [(0,.arr 0 0 (I l)),(1,dfn F),(5,di k)]) ⟨[G (Ab (l.map eV))],[]⟩:=by
 induction n with
 |zero=>
  intro k hn hk hkl hT
  refine⟨l,[],?_,rfl,rfl,?_⟩
  ·obtain⟨p,hp⟩:∃p,l[k-1]?=G p:=⟨_,HA (by omega)⟩
   have:=hT p hp
   rw[HU (by omega),BQ,Iz,Ic (by omega)] at this
   exact this
  exact lv 66 [] (.f .ro) (Y ((k:Int)<(I l:Int))=O/\cm 1 [] [G (dv l)]=J/\[G (dv l)]=[G (Ab (U eV l)++[])]/\Q (bo 0 0 (I l))) ⟨yq,HS.2 ⟨Ak 1 [] _,rfl⟩,by rw[Iz],rfl⟩
 |succ n ih=>
  intro k hn hk hkl' hT
  obtain⟨x,hx⟩:=yk (show k<I l by omega)
  obtain⟨y,hy⟩:=yk (show k-1<I l by omega)
  have hc:=hq x (HG hx) y (HG hy)
  have hkl:k<I l:=by omega
  have hw1:yt.wrap ((k:Int)-1)=((k-1:Nat):Int):=by rw[Al];omega
  have hT':=hT y hy
  rw[da hx,BQ] at hT'
  cases hb:q x y with
  |true=>
   rw[hb] at hc
   obtain⟨ys,R,r1,r3,r5,r4⟩:=AjG F l q hl hq k hk (by omega) _ k 1 l rfl hk (by omega) (by omega) (by omega) rfl (fun x h=>h) (fun _ _=>rfl) (fun p hp=>by
    have e:x=p:=HZ (hx.symm.trans hp)
    rw[hb,HV rfl,e] at hT';exact hT')
   refine⟨ys,R,r1,r3,r5,?_⟩
   refine lv 66 [] (.t<|.m (dV x)<|.m (dV y)<|.c (db J)<|.k<|.h (.q 7 2)<|.h (.o (.arr 0 (k*2) (I l-k)) ⟨[G (Ab (l.map eV))],[]⟩)<|.lo [ke 0,ke 1,ke 5,ke 6,ch 7 (di (1:Nat))] ⟨[G (Ab (l.map eV))],[]⟩) (Y ((k:Int)<(I l:Int))=J/\0<=(k:Int)/\(k:Int)<(I l:Int)/\0+Z (k:Int)*2+2<=I (dv l)/\take 2 (W (0+Z (k:Int)*2) (dv l))=(c7 x.n x.az)/\0<=yu yt ((k:Int)-1)/\yu yt ((k:Int)-1)<(I l:Int)/\0+Z (yu yt ((k:Int)-1))*2+2<=I (dv l)/\take 2 (W (0+Z (yu yt ((k:Int)-1))*2) (dv l))=(c7 y.n y.az)/\F0 F [dV x,dV y] (db J)/\yo/\Aj PP (Oper.mk (G 31) (Op.slice 29 (Operand.tmp 29) (G (Operand.tmp 30)) none none) 29 "slices.go:402" #[Edge.mk 0 Ground.data,Edge.mk 1 Ground.data] none) [bo 0 0 (I l),di (k:Int)] (k7 l) (bo 0 (k*2) (I l-k)) (k7 l)/\di 1=di (↑1:Int)/\cm 1 [] [G (dv l)]=J/\Q [G (dv l)]/\I0 Zy 1 (bo 0 0 (I ys)) (bi [G (Ab (U eV ys)++R)] []) wl (ba 66 [(0,bo 0 0 (I l)),(kz F),(5,di (k:Int)),(6,bo 0 (k*2) (I l-k)),(7,di (↑1:Int))]) (k7 l)) ?_
   have hsl:∀(o:yy) (x:x8) (y:x8) (τ:St),o.op=.slice 29 x (G y) none none->Aj PP o [.arr 0 0 (I l),di k] τ (.arr 0 (k*2) (I l-k)) τ:=fun o x y τ ho=>by
    have:=CJ (P:=PP) (o:=o) (σ:=τ) ho vx (q:=0) (off:=0) (len:=I l) (G (.i64,(k:Int))) none rfl rfl (l':=k) (h':=I l) (by simp[Cn];omega) hkl
    rwa[Iv] at this
   rw[hw1]
   exact⟨yr,by omega,by omega,by rw[show 0+Z (k:Int)*2=(k)*2 by omega];have:=Ei hx;omega,by rw[show 0+Z (k:Int)*2=(k)*2 by omega];exact Fo hx,by omega,by omega,by rw[show 0+Z ((k-1:Nat):Int)*2=(k-1)*2 by omega];have:=Ei hy;omega,by rw[show 0+Z ((k-1:Nat):Int)*2=(k-1)*2 by omega];exact Fo hy,hc,ym,hsl _ _ _ _ rfl,rfl,HS.2 ⟨Ak 1 [] _,rfl⟩,rfl,⟨r4⟩⟩
  |false=>
   rw[hb] at hc
   obtain⟨ys,R,r1,r3,r5,r4⟩:=ih (k+1) (by omega) (by omega) (by omega) (fun p hp=>by
    have e:x=p:=HZ (hx.symm.trans hp)
    rw[hb,HR (by decide)] at hT'
    rw[IM,hx,Option.toList_some,IG,List.singleton_append, ←e];exact hT')
   refine⟨ys,R,r1,r3,r5,?_⟩
   refine lv 66 [] (.t<|.m (dV x)<|.m (dV y)<|.c (db O)<|.lo (n5 k) ⟨[G (Ab (l.map eV))],[]⟩) (Y ((k:Int)<(I l:Int))=J/\0<=(k:Int)/\(k:Int)<(I l:Int)/\0+Z (k:Int)*2+2<=I (dv l)/\take 2 (W (0+Z (k:Int)*2) (dv l))=(c7 x.n x.az)/\0<=yu yt ((k:Int)-1)/\yu yt ((k:Int)-1)<(I l:Int)/\0+Z (yu yt ((k:Int)-1))*2+2<=I (dv l)/\take 2 (W (0+Z (yu yt ((k:Int)-1))*2) (dv l))=(c7 y.n y.az)/\F0 F [dV x,dV y] (db O)/\yo/\di (yu yt ((k:Int)+1))=di (↑(k+1):Int)/\cm 1 [] [G (dv l)]=J/\Q [G (dv l)]/\I0 Zy 1 (bo 0 0 (I ys)) (bi [G (Ab (U eV ys)++R)] []) [kl EK d5,bh 0,kc EK [1,1,1]] (ba 66 [(0,bo 0 0 (I l)),(kz F),(5,di (↑(k+1):Int))]) (k7 l)) ?_
   rw[hw1]
   exact⟨yr,by omega,by omega,by rw[show 0+Z (k:Int)*2=(k)*2 by omega];have:=Ei hx;omega,by rw[show 0+Z (k:Int)*2=(k)*2 by omega];exact Fo hx,by omega,by omega,by rw[show 0+Z ((k-1:Nat):Int)*2=(k-1)*2 by omega];have:=Ei hy;omega,by rw[show 0+Z ((k-1:Nat):Int)*2=(k-1)*2 by omega];exact Fo hy,hc,ym,Ae,HS.2 ⟨Ak 1 [] _,rfl⟩,rfl,⟨r4⟩⟩
theorem AjH(F:yx)(l:List bc)(q:bc->bc->Bool)(hl:I l<=1000)(hq:∀x∈l,∀y∈l,F0 F [dV x,dV y] (db (q x y))):
  ∃R:List D,D.pls R=J/\R.all D.one=J/\Aa PP 216 [.arr 0 0 (I l),dfn F] ⟨[G (Ab (l.map eV))],[]⟩ (.arr 0 0 (I (AP q l))) ⟨[G (Ab ((AP q l).map eV)++R)],[]⟩:=by
 by_cases h2:I l<2
 ·refine⟨[],rfl,rfl,?_⟩
  rw[JD q h2]
  exact sv Zy 66 [] (.t .ro) (Y ((I l:Int)<2)=J/\cm 1 [] [G (dv l)]=J/\[G (dv l)]=[G (Ab (U eV l)++[])]/\Q (bo 0 0 (I l))) ⟨yr,HS.2 ⟨Ak 1 [] _,rfl⟩,by rw[Iz],rfl⟩
 ·obtain⟨ys,R,r1,r3,r5,r4⟩:=Ag2 F l q hl hq _ 1 rfl (HH _) (by omega) (fun p hp=>Mp hp)
  subst r1
  refine⟨R,r3,r5,?_⟩
  exact sv Zy 66 [] (.f<|.lo [ke 0,ke 1,ch 5 (di (1:Nat))] ⟨[G (Ab (l.map eV))],[]⟩) (Y ((I l:Int)<2)=O/\Q (di 1)/\cm 1 [] [G (dv l)]=J/\Q [G (dv l)]/\_) ⟨yq,rfl,HS.2 ⟨Ak 1 [] _,rfl⟩,rfl,iK r4⟩
abbrev w0(x:V):D:=.v (.ref x)
abbrev FB(m:b9)(r:cp)(ms:List (Int×Int)):List D:=[w0 (A1 m),w0 (Ai r),w0 (Ck ms),.ptr 0 0,.ptr 1 0]
abbrev Hk(b:Bool)(xs:List bc):St:=⟨[G [.gro 2 (I xs) 2],G [db b],G (Ab (xs.map eV))],[]⟩
abbrev Ej(b:Bool)(xs:List bc):St:=⟨[G [.gro 3 (I xs) 2],G [db b],none,G (Ab (xs.map eV))],[]⟩
noncomputable abbrev Ti:=Tryz.f220
noncomputable abbrev tu:=(Oper.mk (G 22) (Op.buildSlice 29 1 #[(0,Operand.tmp 21)]) 29 "timed.go:85" #[Edge.mk 1 Ground.data] none)
theorem AkU(m:b9)(t:cy)(hm:Hq m t)(r:cp)(ms l:List (Int×Int))(hl:I l<=50)(hms:I ms<=50)(b:Bool):Aa PP 220 ([AK l]++FB m r ms) ⟨[G [.v .nils],G [db b]],[]⟩ (.tup []) (Hk (b&&Ah t (Ch r.to (l++ms))) [Ch r.to (l++ms)]):=by
 have h2:=OR m t hm r.to (l++ms) (by simp;omega)
 generalize Ah t (Ch r.to (l++ms))=ok at h2⊢
 generalize Ch r.to (l++ms)=v at h2⊢
 have hco:F0 222 [bt (ai [Ck l,Ck ms])] (AK (l++ms)):=by
  have:=Ms [l,ms] (by simp) (by simp;omega)
  simp only[IY,flatten_nil,Iz] at this
  exact this
 have hfA:∀z:Bool,[G [bm 3 1 2],G [db z],G [di v.n,bt (dt v.az)],G [di v.n,bt (dt v.az)]]=[G [bm 3 1 2],G [db z],G [di v.n,cx v.az],G (Ab ([v].map eV))]:=fun z=>by rw[A8];rfl
 have h:Aa PP 220 ([AK l]++FB m r ms) ⟨[G [.v .nils],G [db b]],[]⟩ (.tup []) ⟨[G [.gro 3 1 2],G [db (b&&ok)],G [di v.n,cx v.az],G (Ab ([v].map eV))],[]⟩:=by
  cases b with
  |true=>
   exact sv Ti 28 [] (.h (.dr 11)<|.c (AK (l++ms))<|.c (.tup [dV v,db ok])<|.m (.v .nils)<|.m (dV v)<|.h (.p (.v (.list [Ac v])))<|.h .g<|.ro) (_/\_/\Q [bi [G [dn],G [db J],G [di 0,dn]] []]/\True/\Q (G (dn))/\2<=2/\Q (c7 v.n v.az)/\(∀(τ:St),Aj PP tu [dV v] τ (bt (ai [Ac v])) τ)/\[Ac v]≠ []/\(∀(y:V),y∈ [Ac v]->V.size y=2)/\Ao 1 32/\(True/\True/\(Q (G [db J])/\True)/\True)/\([]:List KI)=[]/\cm 4 [] [G [bm 3 1 2],G [db ok],G (c7 v.n v.az),G (c7 v.n v.az)]=J/\[G [bm 3 1 2],G [db ok],G (c7 v.n v.az),G (c7 v.n v.az)]=[G [bm 3 1 2],G [db (true&&ok)],G (c7 v.n v.az),G (Ab (eV v::nV))]/\Q (bl [])) ⟨hco,h2,rfl,trivial,rfl,HH _,rfl,fun τ=>m6 v τ rfl,by simp,fun y hy=>by rw[HQ.1 hy];rfl,⟨by decide,by decide⟩,⟨trivial,trivial,⟨rfl,trivial⟩,trivial⟩,rfl,rfl,hfA _,rfl⟩
  |false=>
   exact sv Ti 28 [] (.h (.dr 11)<|.c (AK (l++ms))<|.c (.tup [dV v,db ok])<|.m (.v .nils)<|.m (dV v)<|.h (.p (.v (.list [Ac v])))<|.h .g<|.ro) (_/\_/\Q [bi [G [dn],G [db O],G [di 0,dn]] []]/\True/\Q (G (dn))/\2<=2/\Q (c7 v.n v.az)/\(∀(τ:St),Aj PP tu [dV v] τ (bt (ai [Ac v])) τ)/\[Ac v]≠ []/\(∀(y:V),y∈ [Ac v]->V.size y=2)/\Ao 1 32/\(True/\True/\(Q (G [db O])/\True)/\True)/\([]:List KI)=[]/\cm 4 [] [G [bm 3 1 2],G [db O],G (c7 v.n v.az),G (c7 v.n v.az)]=J/\[G [bm 3 1 2],G [db O],G (c7 v.n v.az),G (c7 v.n v.az)]=[G [bm 3 1 2],G [db (false&&ok)],G (c7 v.n v.az),G (Ab (eV v::nV))]/\Q (bl [])) ⟨hco,h2,rfl,trivial,rfl,HH _,rfl,fun τ=>m6 v τ rfl,by simp,fun y hy=>by rw[HQ.1 hy];rfl,⟨by decide,by decide⟩,⟨trivial,trivial,⟨rfl,trivial⟩,trivial⟩,rfl,rfl,hfA _,rfl⟩
 refine Fq (σ:=⟨[G [.v .nils],G [db b]],[]⟩) (fun i=>if i<2 then i else i+1) (show 2<=3 by decide) (fun i hi=>HV hi) (fun i j _ _ h=>?_) (fun i hi=>?_) (fun i cs hi=>?_) rfl h
 ·have h:(if i<2 then i else i+1)=(if j<2 then j else j+1):=h
  split at h<;>split at h<;>omega
 ·have hi:i<3:=hi
  show(if i<2 then i else i+1)<4
  split<;>omega
 ·match i,hi with
  |0,hi=>have hi:=HZ (HZ (hi:G (G _)=G (G cs)));subst hi;exact⟨rfl,rfl⟩
  |1,hi=>have hi:=HZ (HZ (hi:G (G _)=G (G cs)));subst hi;exact⟨rfl,rfl⟩
  |2,hi=>have hi:=HZ (HZ (hi:G (G _)=G (G cs)));subst hi;exact⟨by rw[AC (A3 _)];rfl,Ak _ _ _⟩
  |i+3,hi=>simp at hi
theorem AkT(m:b9)(t:cy)(hm:Hq m t)(r:cp)(ms l:List (Int×Int))(hl:I l<=50)(hms:I ms<=50)(xs:List bc)(hx:I xs<=50)(b:Bool):Aa PP 220 ([AK l]++FB m r ms) (Hk b xs) (.tup []) (Ej (b&&Ah t (Ch r.to (l++ms))) (xs++[Ch r.to (l++ms)])):=by
 have h2:=OR m t hm r.to (l++ms) (by simp;omega)
 generalize Ah t (Ch r.to (l++ms))=ok at h2⊢
 generalize Ch r.to (l++ms)=v at h2⊢
 have hco:F0 222 [bt (ai [Ck l,Ck ms])] (AK (l++ms)):=by
  have:=Ms [l,ms] (by simp) (by simp;omega)
  simp only[IY,flatten_nil,Iz] at this
  exact this
 have hfB:∀z:Bool,[G [bm 4 (I xs+[Ac v].length) 2],G [db z],none,G [di v.n,bt (dt v.az)],G (Ab (xs.map eV)++[di v.n,bt (dt v.az)])]=[G [bm 4 (I (xs++[v])) 2],G [db z],none,G [di v.n,cx v.az],G (Ab ((xs++[v]).map eV))]:=fun z=>by
  rw[E2,HO];rfl
 have hkB:∀z:Bool,cm 5 [] [G [bm 4 (I xs+[Ac v].length) 2],G [db z],none,G [di v.n,bt (dt v.az)],G (Ab (xs.map eV)++[di v.n,bt (dt v.az)])]=J:=fun z=>by
  rw[E2];simp[cm,D.okNs,D.okN,Ak]
 have h:Aa PP 220 ([AK l]++FB m r ms) (Hk b xs) (.tup []) ⟨[G [.gro 4 (I (xs++[v])) 2],G [db (b&&ok)],none,G [di v.n,cx v.az],G (Ab ((xs++[v]).map eV))],[]⟩:=by
  cases b with
  |true=>
   exact sv Ti 28 [] (.h (.dr 11)<|.c (AK (l++ms))<|.c (.tup [dV v,db ok])<|.m (.gro 2 (I xs) 2)<|.m (dV v)<|.h (.p (.v (.list [Ac v])))<|.ro) (_/\_/\Q [bi [G [bm 2 (I xs) 2],G [db J],G (dv xs),G [di 0,dn]] []]/\True/\Q (G (bm 2 (I xs) 2))/\2<=2/\Q (c7 v.n v.az)/\(∀(τ:St),Aj PP tu [dV v] τ (bt (ai [Ac v])) τ)/\I (dv xs)=I xs*2/\[Ac v]≠ []/\(∀(y:V),y∈ [Ac v]->V.size y=2)/\Ao (I xs+I (Ac v::nV)) 32/\(True/\True/\(Q (G [db J])/\True)/\True)/\([]:List KI)=[]/\cm 5 [] [G [bm 4 (I xs+I (Ac v::nV)) 2],G [db ok],none,G (c7 v.n v.az),G (Ab (U eV xs)++(c7 v.n v.az))]=J/\[G [bm 4 (I xs+I (Ac v::nV)) 2],G [db ok],none,G (c7 v.n v.az),G (Ab (U eV xs)++(c7 v.n v.az))]=[G [bm 4 (I (xs++[v])) 2],G [db (true&&ok)],none,G (c7 v.n v.az),G (Ab (U eV (xs++[v])))]/\Q (bl [])) ⟨hco,h2,rfl,trivial,rfl,HH _,rfl,fun τ=>m6 v τ rfl,by rw[AT],by simp,fun y hy=>by rw[HQ.1 hy];rfl,⟨by simp only[HF,HJ];omega,by simp only[HF,HJ];omega⟩,⟨trivial,trivial,⟨rfl,trivial⟩,trivial⟩,rfl,hkB _,hfB _,rfl⟩
  |false=>
   exact sv Ti 28 [] (.h (.dr 11)<|.c (AK (l++ms))<|.c (.tup [dV v,db ok])<|.m (.gro 2 (I xs) 2)<|.m (dV v)<|.h (.p (.v (.list [Ac v])))<|.ro) (_/\_/\Q [bi [G [bm 2 (I xs) 2],G [db O],G (dv xs),G [di 0,dn]] []]/\True/\Q (G (bm 2 (I xs) 2))/\2<=2/\Q (c7 v.n v.az)/\(∀(τ:St),Aj PP tu [dV v] τ (bt (ai [Ac v])) τ)/\I (dv xs)=I xs*2/\[Ac v]≠ []/\(∀(y:V),y∈ [Ac v]->V.size y=2)/\Ao (I xs+I (Ac v::nV)) 32/\(True/\True/\(Q (G [db O])/\True)/\True)/\([]:List KI)=[]/\cm 5 [] [G [bm 4 (I xs+I (Ac v::nV)) 2],G [db O],none,G (c7 v.n v.az),G (Ab (U eV xs)++(c7 v.n v.az))]=J/\[G [bm 4 (I xs+I (Ac v::nV)) 2],G [db O],none,G (c7 v.n v.az),G (Ab (U eV xs)++(c7 v.n v.az))]=[G [bm 4 (I (xs++[v])) 2],G [db (false&&ok)],none,G (c7 v.n v.az),G (Ab (U eV (xs++[v])))]/\Q (bl [])) ⟨hco,h2,rfl,trivial,rfl,HH _,rfl,fun τ=>m6 v τ rfl,by rw[AT],by simp,fun y hy=>by rw[HQ.1 hy];rfl,⟨by simp only[HF,HJ];omega,by simp only[HF,HJ];omega⟩,⟨trivial,trivial,⟨rfl,trivial⟩,trivial⟩,rfl,hkB _,hfB _,rfl⟩
 refine Fq (σ:=Hk b xs) (fun i=>if i<3 then i else i+1) (show 3<=4 by decide) (fun i hi=>HV hi) (fun i j _ _ h=>?_) (fun i hi=>?_) (fun i cs hi=>?_) rfl h
 ·have h:(if i<3 then i else i+1)=(if j<3 then j else j+1):=h
  split at h<;>split at h<;>omega
 ·have hi:i<4:=hi
  show(if i<3 then i else i+1)<5
  split<;>omega
 ·match i,hi with
  |0,hi=>have hi:=HZ (HZ (hi:G (G _)=G (G cs)));subst hi;exact⟨rfl,rfl⟩
  |1,hi=>have hi:=HZ (HZ (hi:G (G _)=G (G cs)));subst hi;exact⟨rfl,rfl⟩
  |2,hi=>simp at hi
  |3,hi=>have hi:=HZ (HZ (hi:G (G _)=G (G cs)));subst hi;exact⟨by rw[AC (A3 _)];rfl,Ak _ _ _⟩
  |i+4,hi=>simp at hi
abbrev pg:x6:=136
theorem AhN:PP.underlying pg=G (.array 2 3):=by kernel_rfl
theorem Afw:(PP.info? 3).isSome=J:=by kernel_rfl
theorem Ace:PP.cellsOf 3=1:=by kernel_rfl
theorem SE:PP.plainKey 3=J:=by kernel_rfl
theorem AhM:PP.underlying 3=G (.int .i64):=by kernel_rfl
theorem Acd:PP.eqGuardType PP.depth pg=O:=by kernel_rfl
theorem AbS(d:Nat)(a b x y:Int)(w:x5):
  (Op.equalIn (d+2) pg (.agg #[.int .i64 a,.int .i64 b]) (.agg #[.int .i64 x,.int .i64 y])).run PP w=.ok (a==x&&b==y) w:=by
 obtain⟨i,hi⟩:=Option.isSome_iff_exists.1 Afw
 rw[run_equalIn_array w (d+1) _ _ AhN hi,Ace,show List.range 2=[0,1] from rfl]
 have e1:∀(x y:Int) w,(part 3 #[.int .i64 x,.int .i64 y] (0*1)).run PP w=.ok (.int .i64 x) w:=fun x y w=>run_part_plain w SE rfl
 have e2:∀(x y:Int) w,(part 3 #[.int .i64 x,.int .i64 y] (1*1)).run PP w=.ok (.int .i64 y) w:=fun x y w=>run_part_plain w SE rfl
 have e3:=fun(a x:Int) w=>run_equalIn_int (P:=PP) w d 3 .i64 .i64 a x AhM
 simp only[Op.eqItems,Sem.run_bind,e1,e2,e3,Result.andThen_ok,IJ]
 cases h1:(a==x)<;>cases h2:(b==y)<;>simp_all
theorem KY{o:yy}{σ:St}{ty:x6}{p q:x8}(ho:o.op=.binOp .neq pg p q ty)(a b x y:Int):Aj PP o [.v (cq (a,b)),.v (cq (x,y))] σ (db (!(a==x&&b==y))) σ:=by
 refine A0 fun E g ρ w hw hds=>?_
 simp only[ho,Op.operands,Av] at hds
 obtain⟨u,v,e,h1,h2'⟩:=hds
 simp only[Ia,I7,HN,Io] at e
 obtain⟨e1,e2⟩:=e
 simp only[Ag,C6] at h1 h2'
 obtain⟨ws,h1,rfl⟩:=h1
 obtain⟨vs,h3,rfl⟩:=h2'
 have hw1:ws=[.int .i64 a,.int .i64 b]:=by
  simp only[repA,repC,HN,Io] at h1
  obtain⟨u,us,rfl,_,rfl,u2,us2,rfl,_,rfl,rfl⟩:=h1;rfl
 have hw2:vs=[.int .i64 x,.int .i64 y]:=by
  simp only[repA,repC,HN,Io] at h3
  obtain⟨u,us,rfl,_,rfl,u2,us2,rfl,_,rfl,rfl⟩:=h3;rfl
 subst hw1 hw2
 refine⟨.bool (!(a==x&&b==y)),?_,by simp[Ag]⟩
 have hr:=AbS 9998 a b x y w
 simp[execOp,ho,e1,e2,run_eqGuard_agg w .neq pg p q _ _ Acd,run_neq_struct,hr]
abbrev i6(b:Bool):St:=⟨[G [.v .nils],G [db b]],[]⟩
abbrev ER(m:b9)(r:cp)(ms:List (Int×Int)):D:=.dfn 220 [] (FB m r ms)
noncomputable abbrev DP:=Tryz.f218
noncomputable def FC:=yl DP
theorem xq(m:b9)(t:cy)(hm:Hq m t)(r:cp)(ms l:List (Int×Int))(hl:I l<=50)(hms:I ms<=50)(b:Bool):Aa PP 218 [AK l,.v (AA []),ER m r ms] (i6 b) (.tup []) (Hk (b&&Ah t (Ch r.to (l++ms))) [Ch r.to (l++ms)]):=by
 have h2:=AkU m t hm r ms l hl hms b
 generalize Ah t (Ch r.to (l++ms))=ok at h2⊢
 generalize Ch r.to (l++ms)=v at h2⊢
 refine sv DP 71 [] (.t<|.h (.oc (.tup []) (Hk (b&&ok) [v])) .ro) (((I (U dx []):Int)==0)=J/\(N0 [ER m r ms,AK l] (i6 b) (bl []) (Hk (b&&ok) [v]))/\cm 3 [] [G [bm 2 1 2],G [db (b&&ok)],G (Ab [eV v])]=J/\Q [G [bm 2 1 2],G [db (b&&ok)],G (Ab (eV v::nV))]/\Q (bl [])) ⟨rfl,fun o cl fo ho hc=>?_,by rw[←show Ab ([v].map eV)=Ab [eV v] from rfl];simp[cm,D.okNs,D.okN,Ak],rfl,rfl⟩
 exact Dd (H:=[[.v .nils],[db b]]) ho hc (fs:=[]) (cs:=FB m r ms) (ds:=[AK l]) rfl h2 rfl (fun cs hm=>by
  simp at hm;rcases hm with rfl|rfl<;>exact⟨rfl,rfl⟩) rfl (by simp[cm,D.okNs,D.okN,Ak]) (by show 2<=3;decide)
theorem Ajt(m:b9)(t:cy)(hm:Hq m t)(r:cp)(ms l:List (Int×Int))(hl:I l<=50)(hms:I ms<=50)(xs:List bc)(hx:I xs<=50)(b:Bool):Aa PP 218 [AK l,.v (AA []),ER m r ms] (Hk b xs) (.tup []) (Ej (b&&Ah t (Ch r.to (l++ms))) (xs++[Ch r.to (l++ms)])):=by
 have h2:=AkT m t hm r ms l hl hms xs hx b
 generalize Ah t (Ch r.to (l++ms))=ok at h2⊢
 generalize Ch r.to (l++ms)=v at h2⊢
 refine sv DP 71 [] (.t<|.h (.oc (.tup []) (Ej (b&&ok) (xs++[v]))) .ro) (((I (U dx []):Int)==0)=J/\(N0 [ER m r ms,AK l] (Hk b xs) (bl []) (Ej (b&&ok) (xs++[v])))/\cm 4 [] [G [bm 3 (I (xs++[v])) 2],G [db (b&&ok)],none,G (Ab (U eV (xs++[v])))]=J/\Q [G [bm 3 (I (xs++[v])) 2],G [db (b&&ok)],none,G (Ab (U eV (xs++[v])))]/\Q (bl [])) ⟨rfl,fun o cl fo ho hc=>?_,by simp[cm,D.okNs,D.okN,Ak],rfl,rfl⟩
 exact Dd (H:=[[.gro 2 (I xs) 2],[db b],Ab (xs.map eV)]) ho hc (fs:=[]) (cs:=FB m r ms) (ds:=[AK l]) rfl h2 rfl (fun cs hm=>by
  simp at hm;rcases hm with rfl|rfl|rfl
  ·exact⟨rfl,rfl⟩
  ·exact⟨rfl,rfl⟩
  ·exact⟨Ak _ _ _,E3 _⟩) rfl (by simp[cm,D.okNs,D.okN,Ak]) (by show 3<=4;decide)
abbrev QD(b:Bool):St:=⟨[G [.v .nils],G [db b],none],[]⟩
def ux(b:Bool):List bc->St
 |[]=>QD b
 |x::xs=>Ej b (x::xs)
def rz(b:Bool):List bc->St
 |[]=>i6 b
 |x::xs=>Ej b (x::xs)
theorem Rc{b:Bool}{xs:List bc}(h:xs≠ []):ux b xs=Ej b xs:=by
 cases xs with
 |nil=>exact absurd rfl h
 |cons x xs=>rfl
theorem Rf{b:Bool}{xs:List bc}(h:xs≠ []):rz b xs=Ej b xs:=by
 cases xs with
 |nil=>exact absurd rfl h
 |cons x xs=>rfl
theorem C3{l:List (Int×Int)}{k:Nat}{x:Int×Int}(h:l[k]?=G x):(l.map cq)[Z (k:Int)]?=G (cq x):=by rw[II,Ir,h];rfl
def QC(tk:Tk)(l:List (Int×Int))(k:Nat):Bool:=match l[k]? with
 |some x=>(x.1==tk.place)&&(decide (x.2>=tk.low)&&(decide (x.2<=tk.high)&&(((k:Int)==0)||(match l[k-1]? with
  |some y=> !(y.1==x.1&&y.2==x.2)
  |none=>true))))
 |none=>false
theorem Dk(tk:Tk){l:List (Int×Int)}{k:Nat}{x:Int×Int}(h:l[k]?=G x):QC tk l k=((x.1==tk.place)&&(decide (x.2>=tk.low)&&(decide (x.2<=tk.high)&&(((k:Int)==0)||(match l[k-1]? with
  |some y=> !(y.1==x.1&&y.2==x.2)
  |none=>true))))):=by
 unfold QC;rw[h]
theorem OO(l:List (Int×Int))(hl:I l<=50)(k:Nat)(hk:k<I l):F0 222 [bt (ai [ai (W 0 (take (Z (k:Int)) (l.map cq))),ai (W (Z ((k+1:Nat):Int)) (take (I (l.map cq)) (l.map cq)))])] (AK (l.take k++l.drop (k+1))):=by
 have h:=Ms [l.take k,l.drop (k+1)] (by simp) (by simp;omega)
 simp only[IY,flatten_nil,Iz] at h
 have e:bt (ai [ai (W 0 (take (Z (k:Int)) (l.map cq))),ai (W (Z ((k+1:Nat):Int)) (take (I (l.map cq)) (l.map cq)))])=dl (Em [l.take k,l.drop (k+1)]):=by
  rw[Ic (HH _),Jk,II,II, ←map_take, ←map_drop];rfl
 rw[e];exact h
theorem Aic{R:List D->St->Prop}{ks:List KI}{e e':List D}(x:Int×Int)(v:bc)(b:Bool)(he:D.okNs 4 [] e'=J)(hee:e=D.rens (fun i=>if i<3 then i else i+1) id e')
  (h:AB (CN 2) PP R ks e' (Ej b [v])):AB (CN 2) PP R ks e ⟨[G [.gro 4 1 2],G [db b],none,G [di x.1,di x.2],G (Ab ([v].map eV))],[]⟩:=by
 refine Ce (σ:=⟨[G [.gro 4 1 2],G [db b],none,G [di x.1,di x.2],G (Ab ([v].map eV))],[]⟩) (e':=e') (H':=(Ej b [v]).H) (m:=2) (fun _ _ h=>h.2) (fun i=>if i<3 then i else i+1) (show 2<=4 by decide) (fun i hi=>HV (by omega)) (fun i j _ _ h=>?_) (fun i cs hi=>?_) he hee h
 ·have h:(if i<3 then i else i+1)=(if j<3 then j else j+1):=h
  split at h<;>split at h<;>omega
 ·match i,hi with
  |0,hi=>have hi:=HZ (HZ (hi:G (G _)=G (G cs)));subst hi;exact⟨rfl,rfl⟩
  |1,hi=>have hi:=HZ (HZ (hi:G (G _)=G (G cs)));subst hi;exact⟨rfl,rfl⟩
  |2,hi=>simp at hi
  |3,hi=>have hi:=HZ (HZ (hi:G (G _)=G (G cs)));subst hi;exact⟨by rw[AC (A3 _)];rfl,Ak _ _ _⟩
  |i+4,hi=>simp at hi
theorem Aib{R:List D->St->Prop}{ks:List KI}{e e':List D}(x:Int×Int)(v:bc)(xs:List bc)(b:Bool)(he:D.okNs 4 [] e'=J)(hee:e=D.rens (fun i=>if i<3 then i else i+2) id e')
  (h:AB (CN 2) PP R ks e' (Ej b (xs++[v]))):AB (CN 2) PP R ks e ⟨[G [.gro 5 (I (xs++[v])) 2],G [db b],none,none,G [di x.1,di x.2],G (Ab ((xs++[v]).map eV))],[]⟩:=by
 refine Ce (σ:=⟨[G [.gro 5 (I (xs++[v])) 2],G [db b],none,none,G [di x.1,di x.2],G (Ab ((xs++[v]).map eV))],[]⟩) (e':=e') (H':=(Ej b (xs++[v])).H) (m:=2) (fun _ _ h=>h.2) (fun i=>if i<3 then i else i+2) (show 2<=4 by decide) (fun i hi=>HV (by omega)) (fun i j _ _ h=>?_) (fun i cs hi=>?_) he hee h
 ·have h:(if i<3 then i else i+2)=(if j<3 then j else j+2):=h
  split at h<;>split at h<;>omega
 ·match i,hi with
  |0,hi=>have hi:=HZ (HZ (hi:G (G _)=G (G cs)));subst hi;exact⟨rfl,rfl⟩
  |1,hi=>have hi:=HZ (HZ (hi:G (G _)=G (G cs)));subst hi;exact⟨rfl,rfl⟩
  |2,hi=>simp at hi
  |3,hi=>have hi:=HZ (HZ (hi:G (G _)=G (G cs)));subst hi;exact⟨by rw[AC (A3 _)];rfl,Ak _ _ _⟩
  |i+4,hi=>simp at hi
theorem BK{n:Nat}{qs:List Nat}:∀{dcs ds:List D},D.okNs (I qs) [] dcs=J->ds=D.rens (df n qs) id dcs->Hi n qs ds dcs
 |[],ds,_,e=>by
  have e:ds=[]:=e
  subst e;exact .nil
 |d::dcs,ds,h,e=>by
  have e:ds=d.ren (df n qs) id::D.rens (df n qs) id dcs:=e
  subst e
  simp only[D.okNs,HB] at h
  exact .cons (.ren h.1) (BK h.2 rfl)
theorem Y6(m:b9)(r:cp)(ms l:List (Int×Int))(x:Int×Int)(v:bc)(b b2:Bool){o:yy}{c:Call}{fo:x8}(ho:o.op=.call c)(hc:c.callee=.value fo)
  (h:Aa PP 218 [AK l,.v (AA []),ER m r ms] (i6 b) (.tup []) (Hk b2 [v])):
  Aj PP o [.v (.fn 218 [] []),AK l,.v (AA []),ER m r ms] ⟨[G [.v .nils],G [db b],none,G [di x.1,di x.2]],[]⟩ (.tup []) ⟨[G [.gro 4 1 2],G [db b2],none,G [di x.1,di x.2],G (Ab ([v].map eV))],[]⟩:=by
 have h2:=BX (σ:=⟨[G [.v .nils],G [db b],none,G [di x.1,di x.2]],[]⟩) ho hc (fD:=.v (.fn 218 [] [])) (fs:=[]) (cs:=[]) (ds:=[AK l,.v (AA []),ER m r ms]) rfl [0,1] id h
  (BK rfl rfl) (.cons rfl (BK rfl rfl) rfl (.cons rfl (BK rfl rfl) rfl .nil)) (by decide) rfl (by simp) (by simp) rfl (by simp[cm,D.okNs,D.okN,Ak])
 have e:D7 (df 4 [0,1]) id (Hk b2 [v]).H=[G [.gro 4 1 2],G [db b2],G (Ab ([v].map eV))]:=by
  show [G _,G _,G (D.rens _ _ (Ab ([v].map eV)))]=_
  rw[AC (A3 _)];rfl
 have h2:Aj PP o _ _ _ ⟨CD _ _ (D7 (df 4 [0,1]) id (Hk b2 [v]).H),_⟩:=h2
 rw[e] at h2
 exact h2
theorem Y5(m:b9)(r:cp)(ms l:List (Int×Int))(x:Int×Int)(v:bc)(xs:List bc)(b b2:Bool){o:yy}{c:Call}{fo:x8}(ho:o.op=.call c)(hc:c.callee=.value fo)
  (h:Aa PP 218 [AK l,.v (AA []),ER m r ms] (Hk b xs) (.tup []) (Ej b2 (xs++[v]))):
  Aj PP o [.v (.fn 218 [] []),AK l,.v (AA []),ER m r ms] ⟨[G [.gro 3 (I xs) 2],G [db b],none,G (Ab (xs.map eV)),G [di x.1,di x.2]],[]⟩ (.tup []) ⟨[G [.gro 5 (I (xs++[v])) 2],G [db b2],none,none,G [di x.1,di x.2],G (Ab ((xs++[v]).map eV))],[]⟩:=by
 have h2:=BX (σ:=⟨[G [.gro 3 (I xs) 2],G [db b],none,G (Ab (xs.map eV)),G [di x.1,di x.2]],[]⟩) ho hc (fD:=.v (.fn 218 [] [])) (fs:=[]) (cs:=[]) (ds:=[AK l,.v (AA []),ER m r ms]) rfl [0,1,3] id h
  (BK rfl rfl) (.cons rfl (BK rfl rfl) rfl (.cons rfl (BK rfl rfl) rfl (.cons rfl (BK (Ak _ _ _) (AC (A3 _)).symm) (E3 _) .nil))) (by decide) rfl (by simp) (by simp) rfl (by simp[cm,D.okNs,D.okN,Ak])
 have e:D7 (df 5 [0,1,3]) id (Ej b2 (xs++[v])).H=[G [.gro 5 (I (xs++[v])) 2],G [db b2],none,G (Ab ((xs++[v]).map eV))]:=by
  show [G _,G _,none,G (D.rens _ _ (Ab ((xs++[v]).map eV)))]=_
  rw[AC (A3 _)];rfl
 have h2:Aj PP o _ _ _ ⟨CD _ _ (D7 (df 5 [0,1,3]) id (Ej b2 (xs++[v])).H),_⟩:=h2
 rw[e] at h2
 exact h2
noncomputable abbrev th:=(Oper.mk (G 54) (Op.binOp BinOp.neq 136 (Operand.tmp 52) (Operand.tmp 53) 136) 4 "timed.go:54" #[Edge.mk 27 Ground.data,Edge.mk 28 Ground.data,Edge.mk 22 Ground.guard] (G (22,false)))
noncomputable abbrev jp:=fun a₀=>[ke 0,ke 1,ke 2,ke 6,ke 18,ke 19,ch 20 (di (a₀+1:Nat))]
noncomputable abbrev l7:=(bw 218 [] [])
noncomputable abbrev ot:=fun a₀ b₀ c₀ d₀=>[G [bm 4 1 2],G [db a₀],none,G [di b₀,di c₀],G (Ab [eV d₀])]
noncomputable abbrev ou:=fun a₀ b₀ c₀=>(2,D.dfn 220 [] (FB a₀ b₀ c₀))
noncomputable abbrev ox:=[kl FC [1,1,1,0,0],bh 0]
theorem Ajs(m:b9)(t:cy)(hm:Hq m t)(r:cp)(ms l:List (Int×Int))(hl:I l<=50)(hms:I ms<=50)(tk:Tk)(b:Bool)(k:Nat)(hk:k<I l)(S:St)
  (ihy:QC tk l k=J->Rn PP DP 2 (.tup []) S ([kl FC [1,1,1,0,0],.blk 0]++[]) (ba 71 [(0,AK l),(1,.v (AA [tk])),(2,ER m r ms),(6,.v (.ref (dx tk))),(18,AK l),(19,di (I l)),(20,di (k+1:Nat))]) (Ej (b&&Ah t (Ch r.to (l.take k++l.drop (k+1)++ms))) ([Ch r.to (l.take k++l.drop (k+1)++ms)])))
  (ihn:QC tk l k=O->Rn PP DP 2 (.tup []) S ([kl FC [1,1,1,0,0],.blk 0]++[]) (ba 71 [(0,AK l),(1,.v (AA [tk])),(2,ER m r ms),(6,.v (.ref (dx tk))),(18,AK l),(19,di (I l)),(20,di (k+1:Nat))]) (QD b)):
  Rn PP DP 2 (.tup []) S ([kl FC [1,1,1,0,0],.blk 0]++[]) (ba 71 [(0,AK l),(1,.v (AA [tk])),(2,ER m r ms),(6,.v (.ref (dx tk))),(18,AK l),(19,di (I l)),(20,di k)]) (QD b):=by
 have hw1:yt.wrap ((k:Int)-1)=((k-1:Nat):Int)∨k=0:=by
  by_cases h:k=0
  ·exact .inr h
  ·left;rw[Al];omega
 have hw2:yt.wrap ((k:Int)+1)=((k+1:Nat):Int):=by rw[Al];omega
 obtain⟨x,hx⟩:∃x,l[k]?=G x:=⟨_,HA hk⟩
 have szp:∀y∈l.map cq,y.size=2:=fun y hy=>by obtain⟨z,_,rfl⟩:=Is.1 hy;rfl
 by_cases c1:(x.1==tk.place)=J
 ·by_cases c2:decide (x.2>=tk.low)=J
  ·by_cases c3:decide (x.2<=tk.high)=J
   ·by_cases c4:((k:Int)==0)=J
    ·have v2:=xq m t hm r ms (l.take k++l.drop (k+1)) (by simp;omega) hms b
     have r3:=ihy (by rw[Dk tk hx];simp only[c1,c2,c3,c4];rfl)
     generalize (b&&Ah t (Ch r.to (l.take k++l.drop (k+1)++ms)))=b2 at v2 r3
     generalize Ch r.to (l.take k++l.drop (k+1)++ms)=v at v2 r3
     refine lv 71 [] (.t<|.x (cq x)<|.t<|.t<|.t<|.t<|.c (AK (l.take k++l.drop (k+1)))<|.h (.oc (.tup []) ⟨[G [.gro 4 1 2],G [db b2],none,G [di x.1,di x.2],G (Ab ([v].map eV))],[]⟩)<|.lo (jp k) ⟨[G [.gro 4 1 2],G [db b2],none,G [di x.1,di x.2],G (Ab ([v].map eV))],[]⟩) (decide ((k:Int)<(I l:Int))=J/\0<=(k:Int)/\(U cq l)[Z (k:Int)]?=G (cq x)/\iz 0<=0/\0<(↑2:Int)/\(x.fst==tk.place)=J/\iz 0<=1/\1<(↑2:Int)/\decide (x.snd>=tk.low)=J/\iz 0<=1/\1<(↑2:Int)/\decide (x.snd<=tk.high)=J/\((k:Int)==0)=J/\(yj (True))/\(∀(x:V),x∈U cq l->V.size x=2)/\0<=(fun x=>x.snd) (ec k)/\(fun x=>x.snd) (ec k)<=(I (U cq l):Int)/\(∀(x:V),x∈U cq l->V.size x=2)/\0<=(fun x=>x.snd) (yt,yu yt ((k:Int)+1))/\(fun x=>x.snd) (yt,yu yt ((k:Int)+1))<=(I (U cq l):Int)/\F0 222 [bt (ai [ai (W 0 (take (Z ((fun x=>x.snd) (ec k))) (U cq l))),ai (W (Z ((fun x=>x.snd) (yt,yu yt ((k:Int)+1)))) (take (I (U cq l)) (U cq l)))])] (AK (take k l++W (k+1) l))/\(∀(x:V),x∈ [dx tk]->V.size x=3)/\0<=(1:Int)/\(1:Int)<=(I (U dx [tk]):Int)/\(N0 [bt l7,AK (take k l++W (k+1) l),bt (ai []),D.dfn 220 [] (FB m r ms)] (bi [G [dn],G [db b],none,G [di x.fst,di x.snd]] []) (bl []) (bi (ot b2 x.fst x.snd v) []))/\di (yu yt ((k:Int)+1))=di (↑(k+1):Int)/\cm 5 [] (ot b2 x.fst x.snd v)=J/\Q [G [bm 4 1 2],G [db b2],none,G [di x.fst,di x.snd],G (Ab (eV v::nV))]/\I0 DP 2 (bl []) S ox (ba 71 [(0,bt (Ck l)),(1,bt (AA [tk])),(ou m r ms),(6,bt (bz (dx tk))),(18,bt (Ck l)),(19,di (I l:Int)),(20,di (↑(k+1):Int))]) (bi (ot b2 x.fst x.snd v) [])) ?_
     rw[hw2]
     exact⟨decide_eq_true (by omega),by omega,C3 hx,Int.le_refl _,by decide,c1,by decide,by decide,c2,by decide,by decide,c3,c4,by repeat' first|with_reducible refine And.intro ?_ ?_|rfl|trivial,szp,(by show(0:Int)<=(k:Int);omega),(by show(k:Int)<=((I (l.map cq):Nat):Int);rw[length_map];omega),szp,(by show(0:Int)<=((k+1:Nat):Int);omega),(by show((k+1:Nat):Int)<=((I (l.map cq):Nat):Int);rw[length_map];omega),OO l hl k hk,fun y hy=>by rw[mem_singleton.1 hy];rfl,by decide,Int.le_refl 1,fun o cl fo ho hc=>Y6 m r ms _ x v b b2 ho hc v2,rfl,by simp[cm,D.okNs,D.okN,Ak],rfl,⟨Aic x v b2 rfl rfl r3⟩⟩
    ·have c4f:=HM c4
     obtain⟨y,hy⟩:=yk (show k-1<I l by omega)
     by_cases c5:(!(y.1==x.1&&y.2==x.2))=J
     ·have v2:=xq m t hm r ms (l.take k++l.drop (k+1)) (by simp;omega) hms b
      have r3:=ihy (by rw[Dk tk hx];simp only[c1,c2,c3,c4f,hy,c5];rfl)
      generalize (b&&Ah t (Ch r.to (l.take k++l.drop (k+1)++ms)))=b2 at v2 r3
      generalize Ch r.to (l.take k++l.drop (k+1)++ms)=v at v2 r3
      refine lv 71 [] (.t<|.x (cq x)<|.t<|.t<|.t<|.f<|.x (cq y)<|.m (.v (cq x))<|.h (.p (db (!(y.1==x.1&&y.2==x.2))))<|.t<|.c (AK (l.take k++l.drop (k+1)))<|.h (.oc (.tup []) ⟨[G [.gro 4 1 2],G [db b2],none,G [di x.1,di x.2],G (Ab ([v].map eV))],[]⟩)<|.lo (jp k) ⟨[G [.gro 4 1 2],G [db b2],none,G [di x.1,di x.2],G (Ab ([v].map eV))],[]⟩) (decide ((k:Int)<(I l:Int))=J/\0<=(k:Int)/\(U cq l)[Z (k:Int)]?=G (cq x)/\iz 0<=0/\0<(↑2:Int)/\(x.fst==tk.place)=J/\iz 0<=1/\1<(↑2:Int)/\decide (x.snd>=tk.low)=J/\iz 0<=1/\1<(↑2:Int)/\decide (x.snd<=tk.high)=J/\((k:Int)==0)=O/\0<=yu yt ((k:Int)-1)/\(U cq l)[Z (yu yt ((k:Int)-1))]?=G (cq y)/\2<=2/\Q [di x.fst,di x.snd]/\(∀(τ:St),Aj PP th [bt (cq y),bt (ab [vi x.fst,vi x.snd])] τ (db !(y.fst==x.fst&&y.snd==x.snd)) τ)/\(yi (True))/\(!(y.fst==x.fst&&y.snd==x.snd))=J/\(∀(x:V),x∈U cq l->V.size x=2)/\0<=(fun x=>x.snd) (ec k)/\(fun x=>x.snd) (ec k)<=(I (U cq l):Int)/\(∀(x:V),x∈U cq l->V.size x=2)/\0<=(fun x=>x.snd) (yt,yu yt ((k:Int)+1))/\(fun x=>x.snd) (yt,yu yt ((k:Int)+1))<=(I (U cq l):Int)/\F0 222 [bt (ai [ai (W 0 (take (Z ((fun x=>x.snd) (ec k))) (U cq l))),ai (W (Z ((fun x=>x.snd) (yt,yu yt ((k:Int)+1)))) (take (I (U cq l)) (U cq l)))])] (AK (take k l++W (k+1) l))/\(∀(x:V),x∈ [dx tk]->V.size x=3)/\0<=(1:Int)/\(1:Int)<=(I (U dx [tk]):Int)/\(N0 [bt l7,AK (take k l++W (k+1) l),bt (ai []),D.dfn 220 [] (FB m r ms)] (bi [G [dn],G [db b],none,G [di x.fst,di x.snd]] []) (bl []) (bi (ot b2 x.fst x.snd v) []))/\di (yu yt ((k:Int)+1))=di (↑(k+1):Int)/\cm 5 [] (ot b2 x.fst x.snd v)=J/\Q [G [bm 4 1 2],G [db b2],none,G [di x.fst,di x.snd],G (Ab (eV v::nV))]/\I0 DP 2 (bl []) S ox (ba 71 [(0,bt (Ck l)),(1,bt (AA [tk])),(ou m r ms),(6,bt (bz (dx tk))),(18,bt (Ck l)),(19,di (I l:Int)),(20,di (↑(k+1):Int))]) (bi (ot b2 x.fst x.snd v) [])) ?_
      have hw1:=hw1.resolve_right (fun h=>c4 (by rw[h];rfl))
      rw[hw1]
      rw[hw2]
      exact⟨decide_eq_true (by omega),by omega,C3 hx,Int.le_refl _,by decide,c1,by decide,by decide,c2,by decide,by decide,c3,c4f,by omega,C3 hy,Nat.le_refl _,rfl,fun τ=>KY rfl y.1 y.2 x.1 x.2,by repeat' first|with_reducible refine And.intro ?_ ?_|rfl|trivial,c5,szp,(by show(0:Int)<=(k:Int);omega),(by show(k:Int)<=((I (l.map cq):Nat):Int);rw[length_map];omega),szp,(by show(0:Int)<=((k+1:Nat):Int);omega),(by show((k+1:Nat):Int)<=((I (l.map cq):Nat):Int);rw[length_map];omega),OO l hl k hk,fun y hy=>by rw[mem_singleton.1 hy];rfl,by decide,Int.le_refl 1,fun o cl fo ho hc=>Y6 m r ms _ x v b b2 ho hc v2,rfl,by simp[cm,D.okNs,D.okN,Ak],rfl,⟨Aic x v b2 rfl rfl r3⟩⟩
     ·have r3:=ihn (by rw[Dk tk hx];simp only[c1,c2,c3,c4f,hy,HM c5];rfl)
      refine lv 71 [] (.t<|.x (cq x)<|.t<|.t<|.t<|.f<|.x (cq y)<|.m (.v (cq x))<|.h (.p (db (!(y.1==x.1&&y.2==x.2))))<|.f<|.lo (jp k) (QD b)) (decide ((k:Int)<(I l:Int))=J/\0<=(k:Int)/\(U cq l)[Z (k:Int)]?=G (cq x)/\iz 0<=0/\0<(↑2:Int)/\(x.fst==tk.place)=J/\iz 0<=1/\1<(↑2:Int)/\decide (x.snd>=tk.low)=J/\iz 0<=1/\1<(↑2:Int)/\decide (x.snd<=tk.high)=J/\((k:Int)==0)=O/\0<=yu yt ((k:Int)-1)/\(U cq l)[Z (yu yt ((k:Int)-1))]?=G (cq y)/\2<=2/\Q [di x.fst,di x.snd]/\(∀(τ:St),Aj PP th [bt (cq y),bt (ab [vi x.fst,vi x.snd])] τ (db !(y.fst==x.fst&&y.snd==x.snd)) τ)/\(yi (True))/\(!(y.fst==x.fst&&y.snd==x.snd))=O/\di (yu yt ((k:Int)+1))=di (↑(k+1):Int)/\cm 3 [] [G [dn],G [db b],none]=J/\Q (QD b).H/\I0 DP 2 (bl []) S ox (ba 71 [(0,bt (Ck l)),(1,bt (AA [tk])),(ou m r ms),(6,bt (bz (dx tk))),(18,bt (Ck l)),(19,di (I l:Int)),(20,di (↑(k+1):Int))]) (QD b)) ?_
      have hw1:=hw1.resolve_right (fun h=>c4 (by rw[h];rfl))
      rw[hw1]
      exact⟨decide_eq_true (by omega),by omega,C3 hx,Int.le_refl _,by decide,c1,by decide,by decide,c2,by decide,by decide,c3,c4f,by omega,C3 hy,Nat.le_refl _,rfl,fun τ=>KY rfl y.1 y.2 x.1 x.2,by repeat' first|with_reducible refine And.intro ?_ ?_|rfl|trivial,eq_false_of_ne_true c5,congrArg di hw2,rfl,rfl,⟨r3⟩⟩
   ·have r3:=ihn (by rw[Dk tk hx];simp only[c1,c2,HM c3];rfl)
    exact lv 71 [] (.t<|.x (cq x)<|.t<|.t<|.f<|.lo (jp k) (QD b)) (decide ((k:Int)<(I l:Int))=J/\0<=(k:Int)/\(U cq l)[Z (k:Int)]?=G (cq x)/\iz 0<=0/\0<(↑2:Int)/\_/\iz 0<=1/\1<(↑2:Int)/\_/\iz 0<=1/\1<(↑2:Int)/\decide (x.snd<=tk.high)=O/\(yj (True))/\di (yu yt ((k:Int)+1))=di (↑(k+1):Int)/\cm 3 [] [G [dn],G [db b],none]=J/\Q (QD b).H/\_) ⟨decide_eq_true (by omega),by omega,C3 hx,Int.le_refl _,by decide,c1,by decide,by decide,c2,by decide,by decide,eq_false_of_ne_true c3,by repeat' first|with_reducible refine And.intro ?_ ?_|rfl|trivial,congrArg di hw2,rfl,rfl,iK r3⟩
  ·have r3:=ihn (by rw[Dk tk hx];simp only[c1,HM c2];rfl)
   exact lv 71 [] (.t<|.x (cq x)<|.t<|.f<|.lo (jp k) (QD b)) (decide ((k:Int)<(I l:Int))=J/\0<=(k:Int)/\(U cq l)[Z (k:Int)]?=G (cq x)/\iz 0<=0/\0<(↑2:Int)/\_/\iz 0<=1/\1<(↑2:Int)/\decide (x.snd>=tk.low)=O/\yo/\di (yu yt ((k:Int)+1))=di (↑(k+1):Int)/\cm 3 [] [G [dn],G [db b],none]=J/\Q (QD b).H/\_) ⟨decide_eq_true (by omega),by omega,C3 hx,Int.le_refl _,by decide,c1,by decide,by decide,eq_false_of_ne_true c2,by repeat' first|with_reducible refine And.intro ?_ ?_|rfl|trivial,congrArg di hw2,rfl,rfl,iK r3⟩
 ·have r3:=ihn (by rw[Dk tk hx];simp only[HM c1];rfl)
  exact lv 71 [] (.t<|.x (cq x)<|.f<|.lo (jp k) (QD b)) (decide ((k:Int)<(I l:Int))=J/\0<=(k:Int)/\(U cq l)[Z (k:Int)]?=G (cq x)/\iz 0<=0/\0<(↑2:Int)/\(x.fst==tk.place)=O/\yp/\di (yu yt ((k:Int)+1))=di (↑(k+1):Int)/\cm 3 [] [G [dn],G [db b],none]=J/\Q (QD b).H/\_) ⟨decide_eq_true (by omega),by omega,C3 hx,Int.le_refl _,by decide,eq_false_of_ne_true c1,by repeat' first|with_reducible refine And.intro ?_ ?_|rfl|trivial,congrArg di hw2,rfl,rfl,iK r3⟩
noncomputable abbrev l6:=fun a₀ b₀ c₀ d₀ e₀=>[G [bm 5 (I (a₀++[b₀])) 2],G [db c₀],none,none,G [di d₀,di e₀],G (Ab (U eV (a₀++[b₀])))]
noncomputable abbrev ov:=fun a₀ b₀=>[G [bm 3 (I a₀) 2],G [db b₀],none,G (dv a₀)]
theorem Ajr(m:b9)(t:cy)(hm:Hq m t)(r:cp)(ms l:List (Int×Int))(hl:I l<=50)(hms:I ms<=50)(tk:Tk)(xs:List bc)(hxs:xs≠ [])(b:Bool)(k:Nat)(hk:k<I l)(hkx:I xs<=k)(S:St)
  (ihy:QC tk l k=J->Rn PP DP 2 (.tup []) S ([kl FC [1,1,1,0,0],.blk 0]++[]) (ba 71 [(0,AK l),(1,.v (AA [tk])),(2,ER m r ms),(6,.v (.ref (dx tk))),(18,AK l),(19,di (I l)),(20,di (k+1:Nat))]) (Ej (b&&Ah t (Ch r.to (l.take k++l.drop (k+1)++ms))) (xs++[Ch r.to (l.take k++l.drop (k+1)++ms)])))
  (ihn:QC tk l k=O->Rn PP DP 2 (.tup []) S ([kl FC [1,1,1,0,0],.blk 0]++[]) (ba 71 [(0,AK l),(1,.v (AA [tk])),(2,ER m r ms),(6,.v (.ref (dx tk))),(18,AK l),(19,di (I l)),(20,di (k+1:Nat))]) (Ej b xs)):
  Rn PP DP 2 (.tup []) S ([kl FC [1,1,1,0,0],.blk 0]++[]) (ba 71 [(0,AK l),(1,.v (AA [tk])),(2,ER m r ms),(6,.v (.ref (dx tk))),(18,AK l),(19,di (I l)),(20,di k)]) (Ej b xs):=by
 have hw1:yt.wrap ((k:Int)-1)=((k-1:Nat):Int)∨k=0:=by
  by_cases h:k=0
  ·exact .inr h
  ·left;rw[Al];omega
 have hw2:yt.wrap ((k:Int)+1)=((k+1:Nat):Int):=by rw[Al];omega
 obtain⟨x,hx⟩:∃x,l[k]?=G x:=⟨_,HA hk⟩
 have szp:∀y∈l.map cq,y.size=2:=fun y hy=>by obtain⟨z,_,rfl⟩:=Is.1 hy;rfl
 by_cases c1:(x.1==tk.place)=J
 ·by_cases c2:decide (x.2>=tk.low)=J
  ·by_cases c3:decide (x.2<=tk.high)=J
   ·by_cases c4:((k:Int)==0)=J
    ·have v2:=Ajt m t hm r ms (l.take k++l.drop (k+1)) (by simp;omega) hms xs (by omega) b
     have r3:=ihy (by rw[Dk tk hx];simp only[c1,c2,c3,c4];rfl)
     generalize (b&&Ah t (Ch r.to (l.take k++l.drop (k+1)++ms)))=b2 at v2 r3
     generalize Ch r.to (l.take k++l.drop (k+1)++ms)=v at v2 r3
     refine lv 71 [] (.t<|.x (cq x)<|.t<|.t<|.t<|.t<|.c (AK (l.take k++l.drop (k+1)))<|.h (.oc (.tup []) ⟨[G [.gro 5 (I (xs++[v])) 2],G [db b2],none,none,G [di x.1,di x.2],G (Ab ((xs++[v]).map eV))],[]⟩)<|.lo (jp k) ⟨[G [.gro 5 (I (xs++[v])) 2],G [db b2],none,none,G [di x.1,di x.2],G (Ab ((xs++[v]).map eV))],[]⟩) (decide ((k:Int)<(I l:Int))=J/\0<=(k:Int)/\(U cq l)[Z (k:Int)]?=G (cq x)/\iz 0<=0/\0<(↑2:Int)/\(x.fst==tk.place)=J/\iz 0<=1/\1<(↑2:Int)/\decide (x.snd>=tk.low)=J/\iz 0<=1/\1<(↑2:Int)/\decide (x.snd<=tk.high)=J/\((k:Int)==0)=J/\(yj (True))/\(∀(x:V),x∈U cq l->V.size x=2)/\0<=(fun x=>x.snd) (ec k)/\(fun x=>x.snd) (ec k)<=(I (U cq l):Int)/\(∀(x:V),x∈U cq l->V.size x=2)/\0<=(fun x=>x.snd) (yt,yu yt ((k:Int)+1))/\(fun x=>x.snd) (yt,yu yt ((k:Int)+1))<=(I (U cq l):Int)/\F0 222 [bt (ai [ai (W 0 (take (Z ((fun x=>x.snd) (ec k))) (U cq l))),ai (W (Z ((fun x=>x.snd) (yt,yu yt ((k:Int)+1)))) (take (I (U cq l)) (U cq l)))])] (AK (take k l++W (k+1) l))/\(∀(x:V),x∈ [dx tk]->V.size x=3)/\0<=(1:Int)/\(1:Int)<=(I (U dx [tk]):Int)/\(N0 [bt l7,AK (take k l++W (k+1) l),bt (ai []),D.dfn 220 [] (FB m r ms)] (bi [G [bm 3 (I xs) 2],G [db b],none,G (dv xs),G [di x.fst,di x.snd]] []) (bl []) (bi (l6 xs v b2 x.fst x.snd) []))/\di (yu yt ((k:Int)+1))=di (↑(k+1):Int)/\cm 6 [] (l6 xs v b2 x.fst x.snd)=J/\Q (l6 xs v b2 x.fst x.snd)/\I0 DP 2 (bl []) S ox (ba 71 [(0,bt (Ck l)),(1,bt (AA [tk])),(ou m r ms),(6,bt (bz (dx tk))),(18,bt (Ck l)),(19,di (I l:Int)),(20,di (↑(k+1):Int))]) (bi (l6 xs v b2 x.fst x.snd) [])) ?_
     rw[hw2]
     exact⟨decide_eq_true (by omega),by omega,C3 hx,Int.le_refl _,by decide,c1,by decide,by decide,c2,by decide,by decide,c3,c4,by repeat' first|with_reducible refine And.intro ?_ ?_|rfl|trivial,szp,(by show(0:Int)<=(k:Int);omega),(by show(k:Int)<=((I (l.map cq):Nat):Int);rw[length_map];omega),szp,(by show(0:Int)<=((k+1:Nat):Int);omega),(by show((k+1:Nat):Int)<=((I (l.map cq):Nat):Int);rw[length_map];omega),OO l hl k hk,fun y hy=>by rw[mem_singleton.1 hy];rfl,by decide,Int.le_refl 1,fun o cl fo ho hc=>Y5 m r ms _ x v xs b b2 ho hc v2,rfl,by simp[cm,D.okNs,D.okN,Ak],rfl,⟨Aib x v xs b2 rfl rfl r3⟩⟩
    ·have c4f:=HM c4
     obtain⟨y,hy⟩:=yk (show k-1<I l by omega)
     by_cases c5:(!(y.1==x.1&&y.2==x.2))=J
     ·have v2:=Ajt m t hm r ms (l.take k++l.drop (k+1)) (by simp;omega) hms xs (by omega) b
      have r3:=ihy (by rw[Dk tk hx];simp only[c1,c2,c3,c4f,hy,c5];rfl)
      generalize (b&&Ah t (Ch r.to (l.take k++l.drop (k+1)++ms)))=b2 at v2 r3
      generalize Ch r.to (l.take k++l.drop (k+1)++ms)=v at v2 r3
      refine lv 71 [] (.t<|.x (cq x)<|.t<|.t<|.t<|.f<|.x (cq y)<|.m (.v (cq x))<|.h (.p (db (!(y.1==x.1&&y.2==x.2))))<|.t<|.c (AK (l.take k++l.drop (k+1)))<|.h (.oc (.tup []) ⟨[G [.gro 5 (I (xs++[v])) 2],G [db b2],none,none,G [di x.1,di x.2],G (Ab ((xs++[v]).map eV))],[]⟩)<|.lo (jp k) ⟨[G [.gro 5 (I (xs++[v])) 2],G [db b2],none,none,G [di x.1,di x.2],G (Ab ((xs++[v]).map eV))],[]⟩) (decide ((k:Int)<(I l:Int))=J/\0<=(k:Int)/\(U cq l)[Z (k:Int)]?=G (cq x)/\iz 0<=0/\0<(↑2:Int)/\(x.fst==tk.place)=J/\iz 0<=1/\1<(↑2:Int)/\decide (x.snd>=tk.low)=J/\iz 0<=1/\1<(↑2:Int)/\decide (x.snd<=tk.high)=J/\((k:Int)==0)=O/\0<=yu yt ((k:Int)-1)/\(U cq l)[Z (yu yt ((k:Int)-1))]?=G (cq y)/\2<=2/\Q [di x.fst,di x.snd]/\(∀(τ:St),Aj PP th [bt (cq y),bt (ab [vi x.fst,vi x.snd])] τ (db !(y.fst==x.fst&&y.snd==x.snd)) τ)/\(yi (True))/\(!(y.fst==x.fst&&y.snd==x.snd))=J/\(∀(x:V),x∈U cq l->V.size x=2)/\0<=(fun x=>x.snd) (ec k)/\(fun x=>x.snd) (ec k)<=(I (U cq l):Int)/\(∀(x:V),x∈U cq l->V.size x=2)/\0<=(fun x=>x.snd) (yt,yu yt ((k:Int)+1))/\(fun x=>x.snd) (yt,yu yt ((k:Int)+1))<=(I (U cq l):Int)/\F0 222 [bt (ai [ai (W 0 (take (Z ((fun x=>x.snd) (ec k))) (U cq l))),ai (W (Z ((fun x=>x.snd) (yt,yu yt ((k:Int)+1)))) (take (I (U cq l)) (U cq l)))])] (AK (take k l++W (k+1) l))/\(∀(x:V),x∈ [dx tk]->V.size x=3)/\0<=(1:Int)/\(1:Int)<=(I (U dx [tk]):Int)/\(N0 [bt l7,AK (take k l++W (k+1) l),bt (ai []),D.dfn 220 [] (FB m r ms)] (bi [G [bm 3 (I xs) 2],G [db b],none,G (dv xs),G [di x.fst,di x.snd]] []) (bl []) (bi (l6 xs v b2 x.fst x.snd) []))/\di (yu yt ((k:Int)+1))=di (↑(k+1):Int)/\cm 6 [] (l6 xs v b2 x.fst x.snd)=J/\Q (l6 xs v b2 x.fst x.snd)/\I0 DP 2 (bl []) S ox (ba 71 [(0,bt (Ck l)),(1,bt (AA [tk])),(ou m r ms),(6,bt (bz (dx tk))),(18,bt (Ck l)),(19,di (I l:Int)),(20,di (↑(k+1):Int))]) (bi (l6 xs v b2 x.fst x.snd) [])) ?_
      have hw1:=hw1.resolve_right (fun h=>c4 (by rw[h];rfl))
      rw[hw1]
      rw[hw2]
      exact⟨decide_eq_true (by omega),by omega,C3 hx,Int.le_refl _,by decide,c1,by decide,by decide,c2,by decide,by decide,c3,c4f,by omega,C3 hy,Nat.le_refl _,rfl,fun τ=>KY rfl y.1 y.2 x.1 x.2,by repeat' first|with_reducible refine And.intro ?_ ?_|rfl|trivial,c5,szp,(by show(0:Int)<=(k:Int);omega),(by show(k:Int)<=((I (l.map cq):Nat):Int);rw[length_map];omega),szp,(by show(0:Int)<=((k+1:Nat):Int);omega),(by show((k+1:Nat):Int)<=((I (l.map cq):Nat):Int);rw[length_map];omega),OO l hl k hk,fun y hy=>by rw[mem_singleton.1 hy];rfl,by decide,Int.le_refl 1,fun o cl fo ho hc=>Y5 m r ms _ x v xs b b2 ho hc v2,rfl,by simp[cm,D.okNs,D.okN,Ak],rfl,⟨Aib x v xs b2 rfl rfl r3⟩⟩
     ·have r3:=ihn (by rw[Dk tk hx];simp only[c1,c2,c3,c4f,hy,HM c5];rfl)
      refine lv 71 [] (.t<|.x (cq x)<|.t<|.t<|.t<|.f<|.x (cq y)<|.m (.v (cq x))<|.h (.p (db (!(y.1==x.1&&y.2==x.2))))<|.f<|.lo (jp k) (Ej b xs)) (decide ((k:Int)<(I l:Int))=J/\0<=(k:Int)/\(U cq l)[Z (k:Int)]?=G (cq x)/\iz 0<=0/\0<(↑2:Int)/\(x.fst==tk.place)=J/\iz 0<=1/\1<(↑2:Int)/\decide (x.snd>=tk.low)=J/\iz 0<=1/\1<(↑2:Int)/\decide (x.snd<=tk.high)=J/\((k:Int)==0)=O/\0<=yu yt ((k:Int)-1)/\(U cq l)[Z (yu yt ((k:Int)-1))]?=G (cq y)/\2<=2/\Q [di x.fst,di x.snd]/\(∀(τ:St),Aj PP th [bt (cq y),bt (ab [vi x.fst,vi x.snd])] τ (db !(y.fst==x.fst&&y.snd==x.snd)) τ)/\(yi (True))/\(!(y.fst==x.fst&&y.snd==x.snd))=O/\di (yu yt ((k:Int)+1))=di (↑(k+1):Int)/\cm 4 [] (ov xs b)=J/\Q (Ej b xs).H/\I0 DP 2 (bl []) S ox (ba 71 [(0,bt (Ck l)),(1,bt (AA [tk])),(ou m r ms),(6,bt (bz (dx tk))),(18,bt (Ck l)),(19,di (I l:Int)),(20,di (↑(k+1):Int))]) (Ej b xs)) ?_
      have hw1:=hw1.resolve_right (fun h=>c4 (by rw[h];rfl))
      rw[hw1]
      exact⟨decide_eq_true (by omega),by omega,C3 hx,Int.le_refl _,by decide,c1,by decide,by decide,c2,by decide,by decide,c3,c4f,by omega,C3 hy,Nat.le_refl _,rfl,fun τ=>KY rfl y.1 y.2 x.1 x.2,by repeat' first|with_reducible refine And.intro ?_ ?_|rfl|trivial,eq_false_of_ne_true c5,congrArg di hw2,by simp[cm,D.okNs,D.okN,Ak],rfl,⟨r3⟩⟩
   ·have r3:=ihn (by rw[Dk tk hx];simp only[c1,c2,HM c3];rfl)
    exact lv 71 [] (.t<|.x (cq x)<|.t<|.t<|.f<|.lo (jp k) (Ej b xs)) (decide ((k:Int)<(I l:Int))=J/\0<=(k:Int)/\(U cq l)[Z (k:Int)]?=G (cq x)/\iz 0<=0/\0<(↑2:Int)/\_/\iz 0<=1/\1<(↑2:Int)/\_/\iz 0<=1/\1<(↑2:Int)/\decide (x.snd<=tk.high)=O/\(yj (True))/\di (yu yt ((k:Int)+1))=di (↑(k+1):Int)/\cm 4 [] (ov xs b)=J/\Q (Ej b xs).H/\_) ⟨decide_eq_true (by omega),by omega,C3 hx,Int.le_refl _,by decide,c1,by decide,by decide,c2,by decide,by decide,eq_false_of_ne_true c3,by repeat' first|with_reducible refine And.intro ?_ ?_|rfl|trivial,congrArg di hw2,by simp[cm,D.okNs,D.okN,Ak],rfl,iK r3⟩
  ·have r3:=ihn (by rw[Dk tk hx];simp only[c1,HM c2];rfl)
   exact lv 71 [] (.t<|.x (cq x)<|.t<|.f<|.lo (jp k) (Ej b xs)) (decide ((k:Int)<(I l:Int))=J/\0<=(k:Int)/\(U cq l)[Z (k:Int)]?=G (cq x)/\iz 0<=0/\0<(↑2:Int)/\_/\iz 0<=1/\1<(↑2:Int)/\decide (x.snd>=tk.low)=O/\yo/\di (yu yt ((k:Int)+1))=di (↑(k+1):Int)/\cm 4 [] (ov xs b)=J/\Q (Ej b xs).H/\_) ⟨decide_eq_true (by omega),by omega,C3 hx,Int.le_refl _,by decide,c1,by decide,by decide,eq_false_of_ne_true c2,by repeat' first|with_reducible refine And.intro ?_ ?_|rfl|trivial,congrArg di hw2,by simp[cm,D.okNs,D.okN,Ak],rfl,iK r3⟩
 ·have r3:=ihn (by rw[Dk tk hx];simp only[HM c1];rfl)
  exact lv 71 [] (.t<|.x (cq x)<|.f<|.lo (jp k) (Ej b xs)) (decide ((k:Int)<(I l:Int))=J/\0<=(k:Int)/\(U cq l)[Z (k:Int)]?=G (cq x)/\iz 0<=0/\0<(↑2:Int)/\(x.fst==tk.place)=O/\yp/\di (yu yt ((k:Int)+1))=di (↑(k+1):Int)/\cm 4 [] (ov xs b)=J/\Q (Ej b xs).H/\_) ⟨decide_eq_true (by omega),by omega,C3 hx,Int.le_refl _,by decide,eq_false_of_ne_true c1,by repeat' first|with_reducible refine And.intro ?_ ?_|rfl|trivial,congrArg di hw2,by simp[cm,D.okNs,D.okN,Ak],rfl,iK r3⟩
def QJ(tk:Tk)(l:List (Int×Int))(K:Nat):List (List (Int×Int)):=((List.range K).filter (QC tk l)).map fun k=>l.take k++l.drop (k+1)
theorem AdE{tk:Tk}{l:List (Int×Int)}{k:Nat}(h:QC tk l k=J):QJ tk l (k+1)=QJ tk l k++[l.take k++l.drop (k+1)]:=by simp[QJ,range_succ,h]
theorem Agd{tk:Tk}{l:List (Int×Int)}{k:Nat}(h:QC tk l k=O):QJ tk l (k+1)=QJ tk l k:=by simp[QJ,range_succ,h]
theorem T5(tk:Tk)(l:List (Int×Int))(k:Nat):I (QJ tk l k)<=k:=by
 have:=List.length_filter_le (QC tk l) (List.range k)
 rw[List.length_range] at this
 rw[QJ,H9];exact this
theorem Age{tk:Tk}{l:List (Int×Int)}{k:Nat}{x:List (Int×Int)}(h:x∈QJ tk l k):I x<=I l:=by
 obtain⟨i,_,rfl⟩:=Is.1 h
 rw[HO,Ig,IF];omega
theorem AdC(m:b9)(t:cy)(hm:Hq m t)(r:cp)(ms l:List (Int×Int))(hl:I l<=50)(hms:I ms<=50)(tk:Tk)(b0:Bool)(Y:List bc)(B:Bool)(hY:Y=(QJ tk l (I l)).map fun x=>Ch r.to (x++ms))(hB:B=(b0&&Y.all (Ah t)))(n:Nat):∀(k:Nat) (xs:List bc) (b:Bool),I l-k=n->k<=I l->xs=((QJ tk l k).map fun x=>Ch r.to (x++ms))->b=(b0&&xs.all (Ah t))->
  Rn PP DP 2 (.tup []) (rz B Y) ([kl FC [1,1,1,0,0],.blk 0]++[]) (ba 71 [(0,AK l),(1,.v (AA [tk])),(2,ER m r ms),(6,.v (.ref (dx tk))),(18,AK l),(19,di (I l)),(20,di k)]) (ux b xs):=by
 induction n with
 |zero=>
  intro k xs b hn hk hxk hb
  have e:Y=xs:=by rw[hY,hxk,show k=I l by omega]
  rw[hB,e, ←hb]
  clear hxk hb
  by_cases hxs:xs=[]
  ·subst hxs
   show Rn PP DP 2 (.tup []) (i6 b) _ _ (QD b)
   exact lv 71 [] (.f .ro) (decide ((k:Int)<(I l:Int))=O/\([]:List KI)=[]/\cm 2 [] [G [dn],G [db b]]=J/\Q [G [dn],G [db b]]/\Q (bl [])) ⟨yq,rfl,rfl,rfl,rfl⟩
  ·rw[Rc hxs,Rf hxs]
   exact lv 71 [] (.f .ro) (decide ((k:Int)<(I l:Int))=O/\([]:List KI)=[]/\cm 4 [] (ov xs b)=J/\Q (ov xs b)/\Q (bl [])) ⟨yq,rfl,by simp[cm,D.okNs,D.okN,Ak],rfl,rfl⟩
 |succ n ih=>
  intro k xs b hn hkl hxk hb
  have hk:k<I l:=by omega
  have hle:=T5 tk l k
  have hxl:I xs<=k:=by rw[hxk,H9];exact hle
  have ihy:QC tk l k=J->Rn PP DP 2 (.tup []) (rz B Y) ([kl FC [1,1,1,0,0],.blk 0]++[]) (ba 71 [(0,AK l),(1,.v (AA [tk])),(2,ER m r ms),(6,.v (.ref (dx tk))),(18,AK l),(19,di (I l)),(20,di (k+1:Nat))]) (ux (b&&Ah t (Ch r.to (l.take k++l.drop (k+1)++ms))) (xs++[Ch r.to (l.take k++l.drop (k+1)++ms)])):=fun h=>
   ih (k+1) _ _ (by omega) (by omega) (by rw[AdE h,IQ, ←hxk];rfl) (by rw[hb,List.all_append];simp[Bool.and_assoc])
  have ihn:QC tk l k=O->Rn PP DP 2 (.tup []) (rz B Y) ([kl FC [1,1,1,0,0],.blk 0]++[]) (ba 71 [(0,AK l),(1,.v (AA [tk])),(2,ER m r ms),(6,.v (.ref (dx tk))),(18,AK l),(19,di (I l)),(20,di (k+1:Nat))]) (ux b xs):=fun h=>
   ih (k+1) _ _ (by omega) (by omega) (by rw[Agd h];exact hxk) hb
  by_cases hxs:xs=[]
  ·subst hxs
   exact Ajs m t hm r ms l hl hms tk b k hk _ ihy ihn
  ·rw[Rc hxs] at ihn⊢
   exact Ajr m t hm r ms l hl hms tk xs hxs b k hk hxl _ (fun h=>by have:=ihy h;rwa[Rc (by simp)] at this) ihn
theorem Ajq(m:b9)(t:cy)(hm:Hq m t)(r:cp)(ms l:List (Int×Int))(hl:I l<=50)(hms:I ms<=50)(tk:Tk)(b:Bool)(ys:List bc)(b':Bool)(hY:ys=(QJ tk l (I l)).map fun x=>Ch r.to (x++ms))(hB:b'=(b&&ys.all (Ah t))):Aa PP 218 [AK l,.v (AA [tk]),ER m r ms] (i6 b) (.tup []) (rz b' ys):=by
 have r3:=AdC m t hm r ms l hl hms tk b ys b' hY hB _ 0 [] b rfl (Ik _) rfl (by simp)
 clear hY hB
 by_cases hy:ys=[]
 ·subst hy
  have r3:Rn PP DP 2 (.tup []) (i6 b') _ _ _:=r3
  show Aa PP _ _ _ _ (i6 b')
  exact sv DP 71 [] (.f<|.x (dx tk)<|.h (.q 3 0)<|.h (.fa 2 [6])<|.lo [ke 0,ke 1,ke 2,ke 6,ch 18 (AK l),ch 19 (di (I l)),ch 20 (di (0:Nat))] (QD b)) (((I (U dx [tk]):Int)==0)=O/\iz 0<=0/\Q (G (dx tk))/\Q (AK l)/\di (I (U cq l):Int)=di (I l:Int)/\Q (di 0)/\cm 3 [] [G [dn],G [db b],none]=J/\Q (QD b).H/\_) ⟨rfl,Ib _,rfl,rfl,by rw[H9],rfl,rfl,rfl,iK r3⟩
 ·rw[Rf hy] at r3⊢
  exact sv DP 71 [] (.f<|.x (dx tk)<|.h (.q 3 0)<|.h (.fa 2 [6])<|.lo [ke 0,ke 1,ke 2,ke 6,ch 18 (AK l),ch 19 (di (I l)),ch 20 (di (0:Nat))] (QD b)) (((I (U dx [tk]):Int)==0)=O/\iz 0<=0/\Q (G (dx tk))/\Q (AK l)/\di (I (U cq l):Int)=di (I l:Int)/\Q (di 0)/\cm 3 [] [G [dn],G [db b],none]=J/\Q (QD b).H/\_) ⟨rfl,Ib _,rfl,rfl,by rw[H9],rfl,rfl,rfl,iK r3⟩
def ru(b:Bool):List bc->St
 |[]=>i6 b
 |x::xs=>Hk b (x::xs)
theorem Re{b:Bool}{xs:List bc}(h:xs≠ []):ru b xs=Hk b xs:=by
 cases xs with
 |nil=>exact absurd rfl h
 |cons x xs=>rfl
def VP:List Tk->List (Int×Int)->List (List (Int×Int))
 |[],l=>[l]
 |tk::ts,l=>(QJ tk l (I l)).flatMap (VP ts)
theorem Tz(tk:Tk)(l:List (Int×Int)):VP [tk] l=QJ tk l (I l):=by simp[VP]
theorem Aga(m:b9)(t:cy)(hm:Hq m t)(r:cp)(ms l:List (Int×Int))(hl:I l<=50)(hms:I ms<=50)(ts:List Tk)(ht:I ts<=1)(b:Bool)(ys:List bc)(b':Bool)(hY:ys=(VP ts l).map fun x=>Ch r.to (x++ms))(hB:b'=(b&&ys.all (Ah t))):Aa PP 218 [AK l,.v (AA ts),ER m r ms] (i6 b) (.tup []) (ru b' ys):=by
 match ts,ht with
 |[],_=>
  have h:=xq m t hm r ms l hl hms b
  rw[hB,hY]
  have e:(VP [] l).map (fun x=>Ch r.to (x++ms))=[Ch r.to (l++ms)]:=rfl
  rw[e,all_cons,List.all_nil,Bool.and_true]
  exact h
 |[tk],_=>
  rw[Tz] at hY
  have h3:=Ajq m t hm r ms l hl hms tk b ys b' hY hB
  by_cases hy:ys=[]
  ·rw[hy] at h3⊢;exact h3
  ·rw[Re hy]
   rw[Rf hy] at h3
   refine Fq (σ:=i6 b) (fun i=>if i<2 then i else i+1) (show 2<=3 by decide) (fun i hi=>HV hi) (fun i j _ _ h=>?_) (fun i hi=>?_) (fun i cs hi=>?_) rfl h3
   ·have h:(if i<2 then i else i+1)=(if j<2 then j else j+1):=h
    split at h<;>split at h<;>omega
   ·have hi:i<3:=hi
    show(if i<2 then i else i+1)<4
    split<;>omega
   ·match i,hi with
    |0,hi=>have hi:=HZ (HZ (hi:G (G _)=G (G cs)));subst hi;exact⟨rfl,rfl⟩
    |1,hi=>have hi:=HZ (HZ (hi:G (G _)=G (G cs)));subst hi;exact⟨rfl,rfl⟩
    |2,hi=>have hi:=HZ (HZ (hi:G (G _)=G (G cs)));subst hi;exact⟨by rw[AC (A3 _)];rfl,Ak _ _ _⟩
    |i+3,hi=>simp at hi
noncomputable abbrev Mg:=Tryz.f182
noncomputable def Q4:=yl Mg
def pu(a b:bc):Bool:=Aq a b==0
def DU(l:List bc):List bc:=AP pu (sortV l)
theorem Se(l:List bc):I (DU l)<=I l:=by
 have:=Mq pu (sortV l)
 rwa[(A7 l).length_eq] at this
theorem NS{l:List bc}{v:bc}(h:v∈DU l):v∈l:=(A7 l).mem_iff.1 (RE h)
theorem RI:∀(ts:List Tk) (l:List (Int×Int)) {x:List (Int×Int)},x∈VP ts l->I x<=I l
 |[],l,x,h=>by rw[VP,HQ] at h;rw[h];exact HH _
 |tk::ts,l,x,h=>by
  rw[VP] at h
  obtain⟨y,hy,h⟩:=List.mem_flatMap.1 h
  exact I6 (RI ts y h) (Age hy)
theorem T3{ts:List Tk}(ht:I ts<=1){l:List (Int×Int)}(hl:I l<=50):I (VP ts l)<=50:=by
 match ts,ht with
 |[],_=>show 1<=50;decide
 |[tk],_=>rw[Tz];have:=T5 tk l (I l);omega
def jc(t:cy)(ys:List bc):List bc×Int:=if ys.all (Ah t)=J then(DU ys,0) else([],1)
theorem Aby(m:b9)(t:cy)(hm:kb m t)(i:Nat)(r:cp)(hi:m.av[i]?=G r)(c:bc)(hs:c.size<=1000)(hv:Ah t c=O):F0 182 [Af m,di i,dV c] (.tup [cx [],di 17]):=by
 have hil:=(HD.1 hi).1
 have hval:=hm.int.valid c (by omega)
 rw[hv] at hval
 exact sv Mg 77 [3,5] (.c (di 0)<|.k<|.f<|.f<|.f<|.c (db O) .r) (_/\(m.kind !=5)=O/\Y ((i:Int)<0)=O/\Y ((i:Int)>=(I (U Ai m.av):Int))=O/\_/\Q (bl [cx [],di 17])) ⟨hm.chk,by rw[hm.kind];rfl,yq,HE (by rw[H9];omega),hval,rfl⟩
theorem Xr(m:b9)(t:cy)(hm:kb m t)(i:Nat)(r:cp)(hi:m.av[i]?=G r)(c:bc)(hs:c.size<=1000)(hv:Ah t c=J)(s0:bc)(h0:c.az[0]?=G s0)(hf:s0.n≠r.aj):F0 182 [Af m,di i,dV c] (.tup [cx [],di 0]):=by
 have hil:=(HD.1 hi).1
 have hval:=hm.int.valid c (by omega)
 rw[hv] at hval
 exact sv Mg 77 [3,5] (.c (di 0)<|.k<|.f<|.f<|.f<|.c (db J)<|.x (Ai r)<|.h (.xs (Ac s0))<|.t .r) (_/\(m.kind !=5)=O/\Y ((i:Int)<0)=O/\Y ((i:Int)>=(I (U Ai m.av):Int))=O/\_/\0<=(i:Int)/\(U Ai m.av)[Z (i:Int)]?=G (Ai r)/\Q 2/\iz 0<=0/\(cc c.az)[Z 0]?=G (Ac s0)/\yp/\(s0.n !=r.aj)=J/\Q (bl [cx [],di 0])) ⟨hm.chk,by rw[hm.kind];rfl,yq,HE (by rw[H9];omega),hval,by omega,Am hi,rfl,Ib _,An (i:=0) h0,yn,bne_iff_ne.2 hf,rfl⟩
abbrev rC(r:cp):List D:=[.v (.str r.name),di r.aj,di r.to,cw r.am,cw r.ak,cw r.move,di r.chan,di r.act,di r.letter,cw r.path,cw r.next,.v (AA r.ar),cw r.aq,di r.second]
abbrev ee(l:List Int):List (Int×Int):=l.map fun p=>(p,0)
abbrev nj(ms:List Int):List (Nat×Nat×List V):=[(1,2,(ee ms).map cq)]
abbrev re(r:cp)(l:List Int):St:=⟨[G (rC r),G [.acc 1 ((ee l).map cq)]],nj l⟩
abbrev U8(b:Bool)(xs:List bc)(n:Nat)(ms:List Int):St:=⟨[none,none,G [.gro 4 n 2],G [db b],G (Ab (xs.map eV))],nj ms⟩
abbrev rh(n:Nat)(zs:List bc)(R:List D)(ms:List Int):St:=⟨[none,none,G [.gro 4 n 2],G [db J],G (Ab (zs.map eV)++R)],nj ms⟩
abbrev Aln(n:Nat)(ms:List Int):St:=⟨[none,none,G [.gro 4 n 2],G [db J],none],nj ms⟩
abbrev lm(b:Bool)(ms:List Int):St:=⟨[none,none,G [.v .nils],G [db b]],nj ms⟩
abbrev QI(m:b9)(r:cp):D:=.dfn 220 [] [.v (.ref (A1 m)),.v (.ref (Ai r)),.v (.ref (Ck (ee r.aq))),.ptr 2 0,.ptr 3 0]
theorem Ag3(F:yx):F0 216 [dl [],dfn F] (dl []):=by
 exact sv Zy 66 [] (.t .r) (Y ((I nV:Int)<2)=J/\bt (ai [])=dl []) ⟨by decide,rfl⟩
noncomputable abbrev Akx:=Tryz.f223
theorem Xs(x y:bc)(hx:x.size<=1000):F0 223 [dV x,dV y] (db (Aq x y==0)):=by
 exact sv Akx 9 [2,3] (.c (di (Aq x y)) .r) (_/\Q (db (Aq x y==0))) ⟨Mt _ x y (HH _) (by omega),rfl⟩
theorem Aep(m:b9)(r:cp)(ps:List (Int×Int)){b b':Bool}{o:yy}{c:Call}{fo:x8}(ho:o.op=.call c)(hc:c.callee=.value fo)
  (h:Aa PP 218 [AK ps,.v (AA r.ar),ER m r (ee r.aq)] (i6 b) (.tup []) (ru b' [])):
  Aj PP o [.v (.fn 218 [] []),AK ps,.v (AA r.ar),QI m r] (lm b r.aq) (.tup []) (lm b' r.aq):=
 BX (σ:=lm b r.aq) ho hc (fD:=.v (.fn 218 [] [])) (fs:=[]) (cs:=[]) (ds:=[AK ps,.v (AA r.ar),QI m r]) rfl [2,3] id h
  (BK rfl rfl) (.cons rfl (BK rfl rfl) rfl (.cons rfl (BK rfl rfl) rfl .nil)) (by decide) rfl (by simp[ru]) (by simp[ru]) rfl rfl
theorem Aeq(m:b9)(r:cp)(ps:List (Int×Int)){b b':Bool}{ys:List bc}{o:yy}{c:Call}{fo:x8}(ho:o.op=.call c)(hc:c.callee=.value fo)
  (h:Aa PP 218 [AK ps,.v (AA r.ar),ER m r (ee r.aq)] (i6 b) (.tup []) (Hk b' ys)):
  Aj PP o [.v (.fn 218 [] []),AK ps,.v (AA r.ar),QI m r] (lm b r.aq) (.tup []) (U8 b' ys (I ys) r.aq):=by
 have h2:=BX (σ:=lm b r.aq) ho hc (fD:=.v (.fn 218 [] [])) (fs:=[]) (cs:=[]) (ds:=[AK ps,.v (AA r.ar),QI m r]) rfl [2,3] id h
  (BK rfl rfl) (.cons rfl (BK rfl rfl) rfl (.cons rfl (BK rfl rfl) rfl .nil)) (by decide) rfl (by simp) (by simp) rfl (by simp[cm,D.okNs,D.okN,Ak])
 have e:D7 (df 4 [2,3]) id (Hk b' ys).H=[G [.gro 4 (I ys) 2],G [db b'],G (Ab (ys.map eV))]:=by
  show [G _,G _,G (D.rens _ _ (Ab (ys.map eV)))]=_
  rw[AC (A3 _)];rfl
 have h2:Aj PP o _ _ _ ⟨CD _ _ (D7 (df 4 [2,3]) id (Hk b' ys).H),_⟩:=h2
 rw[e] at h2
 exact h2
theorem AhS(ys:List bc)(hl:I ys<=1000)(hs:∀v∈ys,v.size<=1000000)(ms:List Int){o:yy}{c:Call}{fo:x8}(ho:o.op=.call c)(hc:c.callee=.value fo):
  Aj PP o [.v (.fn 21 [] []),.arr 4 0 (I ys),dfn 22] (U8 true ys (I ys) ms) (.tup []) (U8 true (sortV ys) (I ys) ms):=by
 have h2:=BX (σ:=U8 true ys (I ys) ms) ho hc (fD:=.v (.fn 21 [] [])) (fs:=[]) (cs:=[]) (ds:=[.arr 4 0 (I ys),dfn 22]) rfl [4] id (G9 ys (by omega) hs)
  (BK rfl rfl) (.cons rfl (BK (Ak _ _ _) (AC (A3 _)).symm) (E3 _) .nil) (by decide) rfl (by simp) (by simp) rfl (by simp[cm,D.okNs,D.okN,Ak])
 have e:D7 (df 5 [4]) id [G (Ab ((sortV ys).map eV))]=[G (Ab ((sortV ys).map eV))]:=by
  show [G (D.rens _ _ _)]=_
  rw[AC (A3 _)]
 have h2:Aj PP o _ _ _ ⟨CD _ _ (D7 (df 5 [4]) id [G (Ab ((sortV ys).map eV))]),_⟩:=h2
 rw[e] at h2
 exact h2
theorem AhV(xs zs:List bc)(n:Nat)(R:List D)(ms:List Int)(hR:D.pls R=J)(hn:I xs=n){F:yx}{o:yy}{c:Call}{fo:x8}(ho:o.op=.call c)(hc:c.callee=.value fo)
  (h:Aa PP 216 [.arr 0 0 (I xs),dfn F] ⟨[G (Ab (xs.map eV))],[]⟩ (.arr 0 0 (I zs)) ⟨[G (Ab (zs.map eV)++R)],[]⟩):
  Aj PP o [.v (.fn 216 [] []),.arr 4 0 n,dfn F] (U8 true xs n ms) (.arr 4 0 (I zs)) (rh n zs R ms):=by
 subst hn
 have h2:=BX (σ:=U8 true xs (I xs) ms) ho hc (fD:=.v (.fn 216 [] [])) (fs:=[]) (cs:=[]) (ds:=[.arr 4 0 (I xs),dfn F]) rfl [4] id h
  (BK rfl rfl) (.cons rfl (BK (Ak _ _ _) (AC (A3 _)).symm) (E3 _) .nil) (by decide) rfl (by simp) (by simp) rfl (HS.2 ⟨AS (RU _ hR),rfl⟩)
 have e:D7 (df 5 [4]) id [G (Ab (zs.map eV)++R)]=[G (Ab (zs.map eV)++R)]:=by
  show [G (D.rens _ _ _)]=_
  rw[AC (RU _ hR)]
 have h2:Aj PP o _ _ _ ⟨CD _ _ (D7 (df 5 [4]) id [G (Ab (zs.map eV)++R)]),_⟩:=h2
 rw[e] at h2
 exact h2
noncomputable abbrev ti:=(Oper.mk (G 69) (Op.makeFunc (Fn.func 220) #[] #[Operand.tmp 3,Operand.tmp 9,Operand.tmp 10,Operand.tmp 13,Operand.tmp 14]) 219 "timed.go:83" #[] none)
noncomputable abbrev tj:=fun a₀ b₀ c₀=>[bt (bz (A1 a₀)),bt (bz (Ai b₀)),bt (bz (ai (U cq (ee c₀)))),bq 2 0,bq 3 0]
noncomputable abbrev tp:=(Oper.mk (G 67) (Op.fieldAddr 72 (Operand.tmp 9) 11) 0 "timed.go:83" #[] none)
noncomputable abbrev tv:=(Oper.mk (G 68) (Op.load 70 (Operand.tmp 67)) 70 "timed.go:83" #[Edge.mk 2 Ground.data] none)
noncomputable abbrev tx:=fun a₀=>(bi [none,none,G [dn],G [db J]] [(1,2,U cq (ee a₀))])
theorem Xq(m:b9)(t:cy)(hm:kb m t)(r:cp)(hmk:I r.aq<=50)(htl:I r.ar<=1)(c:bc)(ps:List (Int×Int))(hps:I ps<=50)(htk:F0 219 [dV c] (AK ps))(ys:List bc)(hY:ys=(VP r.ar ps).map fun x=>Ch r.to (x++ee r.aq))(p:List bc×Int)(hp:p=jc t ys):
  ∀(n k:Nat),I r.aq-k=n->Rn PP Mg 0 (.tup [cx p.1,di p.2]) bd ([kl Q4 [1,1,1,1,1,1,0,1,0,0],.blk 1,kc Q4 [1,1,1,1,1,1,1]]++[]) (ba 77 [(3,.v (.ref (A1 m))),(5,.v (.ref (Ac c))),(9,.ptr 0 0),(10,.ptr 1 0),(53,cw r.aq),(54,di (I r.aq)),(55,di k)]) (re r (r.aq.take k)):=by
 suffices hz:∀(k:Nat),I r.aq-k=0->Rn PP Mg 0 (.tup [cx p.1,di p.2]) bd ([kl Q4 [1,1,1,1,1,1,0,1,0,0],.blk 1,kc Q4 [1,1,1,1,1,1,1]]++[]) (ba 77 [(3,.v (.ref (A1 m))),(5,.v (.ref (Ac c))),(9,.ptr 0 0),(10,.ptr 1 0),(53,cw r.aq),(54,di (I r.aq)),(55,di k)]) (re r r.aq) by
  intro n
  induction n with
  |zero=>
   intro k hn
   have:=hz k hn
   rw[Ic (by omega)];exact this
  |succ n ih=>
   intro k hn
   obtain⟨x,hx⟩:∃x,r.aq[k]?=G x:=⟨_,HA (show k<I r.aq by omega)⟩
   have hr:=ih (k+1) (by omega)
   have e:(ee (r.aq.take k)).map cq++[ab [vi x,vi 0]]=(ee (r.aq.take (k+1))).map cq:=by
    rw[IM,hx];simp
   refine lv 77 [3,5] (.t<|.x (vi x)<|.lo [ke 3,ke 5,ke 9,ke 10,ke 53,ke 54,ch 55 (di (k+1:Nat))] (re r (r.aq.take (k+1)))) (Y ((k:Int)<(I r.aq:Int))=J/\0<=(k:Int)/\(U vi r.aq)[Z (k:Int)]?=G (vi x)/\Q (U cq (ee (take k r.aq)))/\Ao (I (U cq (ee (take k r.aq)))+I (ab (vi x::aa yt 0::nV)::nV)) 16/\di (yu yt ((k:Int)+1))=di (↑(k+1):Int)/\cm 2 [1] [G (rC r),G [br 1 (U cq (ee (take k r.aq))++[ab [vi x,vi 0]])]]=J/\[G (rC r),G [br 1 (U cq (ee (take k r.aq))++ab (vi x::vi 0::nV)::nV)]]=[G (rC r),G [br 1 (U cq (ee (take (k+1) r.aq)))]]/\[(1,2,U cq (ee (take k r.aq))++ab (vi x::vi 0::nV)::nV)]=[(1,2,U cq (ee (take (k+1) r.aq)))]/\I0 Mg 0 (bl [cx p.fst,di p.snd]) bd [kl Q4 [1,1,1,1,1,1,0,1,0,0],bh 1,kc Q4 [1,1,1,1,1,1,1]] (ba 77 [(3,bt (ic m)),(5,bt (f7 c)),(9,bq 0 0),(10,bq 1 0),(53,cw r.aq),(54,di (I r.aq:Int)),(55,di (↑(k+1):Int))]) (re r (take (k+1) r.aq))) ?_
   rw[e]
   exact⟨yr,by omega,by rw[II,Ir,hx];rfl,rfl,⟨by simp only[H9,Ig,HF,HJ];omega,by simp only[H9,Ig,HF,HJ];omega⟩,Ae,rfl,rfl,rfl,⟨hr⟩⟩
 have h1:I ys<=50:=by rw[hY,H9];exact T3 htl hps
 have h2:∀v∈ys,v.size<=1000:=fun v hv=>by
  rw[hY] at hv
  obtain⟨x,hx,rfl⟩:=Is.1 hv
  have:=RI _ _ hx
  have:=Mw r.to (x++ee r.aq) (by rw[HO,H9];omega)
  omega
 have h3:=Aga m t hm.int r (ee r.aq) ps hps (by rw[H9];exact hmk) r.ar htl true ys (ys.all (Ah t)) hY rfl
 unfold jc at hp
 clear hY
 intro k hn
 cases hb:ys.all (Ah t) with
 |false=>
  rw[hb] at h3 hp
  rw[HR (by decide)] at hp
  subst hp
  clear hb
  show Rn PP Mg 0 (.tup [cx [],di 1]) bd _ _ _
  by_cases hy:ys=[]
  ·subst hy
   exact lv 77 [3,5] (.f<|.h (.q 20 0)<|.h (.fa 0 [9])<|.h (.f1 1 [10])<|.c (AK ps)<|.h (.p (.v (.ref (AA r.ar))))<|.h (.p (.v (AA r.ar)))<|.h (.p (QI m r))<|.h (.oc (.tup []) (lm false r.aq))<|.k<|.r) (Y ((k:Int)<(I r.aq:Int))=O/\_/\(∀(τ:St),Aj PP tp [bt (bz (Ai r))] τ (bt (bz (AA r.ar))) τ)/\(∀(τ:St),Aj PP tv [bt (bz (AA r.ar))] τ (bt (AA r.ar)) τ)/\(∀(τ:St),Aj PP ti (tj m r r.aq) τ (QI m r) τ)/\(N0 [bt l7,AK ps,bt (AA r.ar),QI m r] (tx r.aq) (bl []) (lm false r.aq))/\Q (bl [cx [],di 1])) ⟨yq,htk,fun τ=>Fw rfl (fo:=11) (n:=1) (b:=false) (by kernel_rfl) (by decide) (fun _=>rfl) rfl,fun τ=>Fv rfl (by unfold OV;kernel_rfl) rfl,fun τ=>Fh rfl rfl,fun o cl fo ho hc=>Aep m r ps ho hc h3,rfl⟩
  ·rw[Re hy] at h3
   exact lv 77 [3,5] (.f<|.h (.q 20 0)<|.h (.fa 0 [9])<|.h (.f1 1 [10])<|.c (AK ps)<|.h (.p (.v (.ref (AA r.ar))))<|.h (.p (.v (AA r.ar)))<|.h (.p (QI m r))<|.h (.oc (.tup []) (U8 false ys (I ys) r.aq))<|.k<|.r) (Y ((k:Int)<(I r.aq:Int))=O/\_/\(∀(τ:St),Aj PP tp [bt (bz (Ai r))] τ (bt (bz (AA r.ar))) τ)/\(∀(τ:St),Aj PP tv [bt (bz (AA r.ar))] τ (bt (AA r.ar)) τ)/\(∀(τ:St),Aj PP ti (tj m r r.aq) τ (QI m r) τ)/\(N0 [bt l7,AK ps,bt (AA r.ar),QI m r] (tx r.aq) (bl []) (U8 false ys (I ys) r.aq))/\Q (bl [cx [],di 1])) ⟨yq,htk,fun τ=>Fw rfl (fo:=11) (n:=1) (b:=false) (by kernel_rfl) (by decide) (fun _=>rfl) rfl,fun τ=>Fv rfl (by unfold OV;kernel_rfl) rfl,fun τ=>Fh rfl rfl,fun o cl fo ho hc=>Aeq m r ps ho hc h3,rfl⟩
 |true=>
  rw[hb] at h3 hp
  rw[HV rfl] at hp
  subst hp
  clear hb
  by_cases hy:ys=[]
  ·subst hy
   rw[show DU []=[] by simp[DU,sortV,AP]]
   show Rn PP Mg 0 (.tup [cx [],di 0]) bd _ _ _
   refine lv 77 [3,5] (.f<|.h (.q 20 0)<|.h (.fa 0 [9])<|.h (.f1 1 [10])<|.c (AK ps)<|.h (.p (.v (.ref (AA r.ar))))<|.h (.p (.v (AA r.ar)))<|.h (.p (QI m r))<|.h (.oc (.tup []) (lm true r.aq))<|.k<|.c (.tup [])<|.c (dl []) .r) (Y ((k:Int)<(I r.aq:Int))=O/\F0 219 [dV c] (AK ps)/\(∀(τ:St),Aj PP tp [bt (bz (Ai r))] τ (bt (bz (AA r.ar))) τ)/\(∀(τ:St),Aj PP tv [bt (bz (AA r.ar))] τ (bt (AA r.ar)) τ)/\(∀(τ:St),Aj PP ti (tj m r r.aq) τ (QI m r) τ)/\(N0 [bt l7,AK ps,bt (AA r.ar),QI m r] (tx r.aq) (bl []) (lm true r.aq))/\F0 21 [bt (ai []),bt mb] (bl [])/\F0 216 [bt (ai []),bt (bw 223 [] [])] (dl [])/\bl n7=bl [cx [],di 0]) ?_
   exact⟨yq,htk,fun τ=>Fw rfl (fo:=11) (n:=1) (b:=false) (by kernel_rfl) (by decide) (fun _=>rfl) rfl,fun τ=>Fv rfl (by unfold OV;kernel_rfl) rfl,fun τ=>Fh rfl rfl,fun o cl fo ho hc=>Aep m r ps ho hc h3,L3,Ag3 _,rfl⟩
  ·rw[Re hy] at h3
   obtain⟨R,c3,_,c4⟩:=AjH 223 (sortV ys) pu (by rw[(A7 ys).length_eq];omega) (fun x hx y hy=>Xs x y (h2 x ((A7 ys).mem_iff.1 hx)))
   rw[show AP pu (sortV ys)=DU ys from rfl] at c4
   generalize DU ys=zs at c4⊢
   show Rn PP Mg 0 (.tup [cx zs,di 0]) bd _ _ _
   exact lv 77 [3,5] (.f<|.h (.q 20 0)<|.h (.fa 0 [9])<|.h (.f1 1 [10])<|.c (AK ps)<|.h (.p (.v (.ref (AA r.ar))))<|.h (.p (.v (AA r.ar)))<|.h (.p (QI m r))<|.h (.oc (.tup []) (U8 true ys (I ys) r.aq))<|.k<|.h (.q 24 1)<|.h (.ga 73)<|.h (.oc (.tup []) (U8 true (sortV ys) (I ys) r.aq))<|.h (.q 25 1)<|.h (.ga 75)<|.h (.oc (.arr 4 0 (I zs)) (rh (I ys) zs R r.aq))<|.h (.q 25 2)<|.h (.ct 76 (cx zs) (Aln (I ys) r.aq)) .r) (Y ((k:Int)<(I r.aq:Int))=O/\_/\(∀(τ:St),Aj PP tp [bt (bz (Ai r))] τ (bt (bz (AA r.ar))) τ)/\(∀(τ:St),Aj PP tv [bt (bz (AA r.ar))] τ (bt (AA r.ar)) τ)/\(∀(τ:St),Aj PP ti (tj m r r.aq) τ (QI m r) τ)/\(N0 [bt l7,AK ps,bt (AA r.ar),QI m r] (tx r.aq) (bl []) (U8 true ys (I ys) r.aq))/\(N0 [bt wk,bo 4 0 (I ys),bt mb] (bi [none,none,G [bm 4 (I ys) 2],G [db J],G (dv ys)] (nj r.aq)) (bl []) (U8 true (sortV ys) (I ys) r.aq))/\(N0 [bt (bw 216 [] []),bo 4 0 (I ys),bt (bw 223 [] [])] (U8 true (sortV ys) (I ys) r.aq) (bo 4 0 (I zs)) (rh (I ys) zs R r.aq))/\(∀(e:List D),e[76]?=G (bo 4 0 (I zs))->∀(E:cf) (g:Gh) (a:Act) (w:x5),FI E g (rh (I ys) zs R r.aq) e a w->∃g',FI E g' (Aln (I ys) r.aq) (List.set e 76 (cx zs)) a w)/\Q (bl [cx zs,di 0])) ⟨yq,htk,fun τ=>Fw rfl (fo:=11) (n:=1) (b:=false) (by kernel_rfl) (by decide) (fun _=>rfl) rfl,fun τ=>Fv rfl (by unfold OV;kernel_rfl) rfl,fun τ=>Fh rfl rfl,fun o cl fo ho hc=>Aeq m r ps ho hc h3,fun o cl fo ho hc=>AhS ys (by omega) (fun v hv=>by have:=h2 v hv;omega) r.aq ho hc,fun o cl fo ho hc=>AhV (sortV ys) zs (I ys) R r.aq c3 (A7 ys).length_eq ho hc c4,fun e he=>RC (σ:=rh (I ys) zs R r.aq) (q:=4) (sz:=2) (by decide) (Ct _) (by rw[H9]) rfl he,rfl⟩
def Xh(r:cp)(c:bc):List bc:=(VP r.ar (GL (c.az.getD 1 ez))).map fun x=>Ch r.to (x++ee r.aq)
def Hv(t:cy)(r:cp)(c:bc):List bc×Int:=if Ah t c=J then(if (c.az.getD 0 ez).n=r.aj then jc t (Xh r c) else([],0)) else([],17)
theorem Xg{r:cp}{c:bc}(hc:sx c)(hr:I r.ar<=1/\r.aq.length<=1):I (Xh r c)<=50/\∀v∈Xh r c,v.size<=1000:=by
 obtain⟨b,hb⟩:∃x,c.az[1]?=G x:=⟨_,HA (by rw[hc.len];omega)⟩
 have hb12:=hc.few b hb
 have e1:c.az.getD 1 ez=b:=by rw[HI,hb];rfl
 have hpl:=Oo b
 rw[Xh,e1]
 refine⟨by rw[H9];exact T3 hr.1 (by omega),fun v hv=>?_⟩
 obtain⟨x,hx,rfl⟩:=Is.1 hv
 have:=RI _ _ hx
 have:=Mw r.to (x++ee r.aq) (by rw[HO,H9];omega)
 omega
theorem Xi{t:cy}{r:cp}{c:bc}(hc:Ah t c=J->sx c)(hr:I r.ar<=1/\r.aq.length<=1):(Hv t r c).1.length<=50/\∀v∈ (Hv t r c).1,v.size<=1000:=by
 unfold Hv jc
 split
 ·rename_i hv
  obtain⟨h1,h2⟩:=Xg (hc hv) hr
  have:=Se (Xh r c)
  split
  ·split
   ·exact⟨by show(DU (Xh r c)).length<=50;omega,fun v hv=>h2 v (NS hv)⟩
   ·exact⟨by simp,by simp⟩
  ·exact⟨by simp,by simp⟩
 ·exact⟨by simp,by simp⟩
theorem Xp(m:b9)(t:cy)(hm:kb m t)(i:Nat)(r:cp)(hi:m.av[i]?=G r)(c:bc)(hs:c.size<=1000):F0 182 [Af m,di i,dV c] (.tup [cx (Hv t r c).1,di (Hv t r c).2]):=by
 have hir:=(HD.1 hi).1
 have hfew:=hm.few
 unfold Hv
 cases hv:Ah t c with
 |false=>rw[HR (by decide)];exact Aby m t hm i r hi c hs hv
 |true=>
  rw[HV rfl]
  have hsh:=hm.shape c hv
  obtain⟨s0,h0⟩:∃x,c.az[0]?=G x:=⟨_,HA (by rw[hsh.len];omega)⟩
  obtain⟨b,hb⟩:∃x,c.az[1]?=G x:=⟨_,HA (by rw[hsh.len];omega)⟩
  have e0:c.az.getD 0 ez=s0:=by rw[HI,h0];rfl
  have e1:c.az.getD 1 ez=b:=by rw[HI,hb];rfl
  rw[e0]
  by_cases hf:s0.n=r.aj
  ·rw[HV hf]
   have hb12:=hsh.few b hb
   have hru:=hm.rule r (HG hi)
   have hpl:=Oo b
   have ht:=Sn c b hb (by omega) (GL b) hpl (XY b fun v hv=>hsh.toks b v hb hv)
   have p3:=Xq m t hm r (by omega) hru.1 c (GL b) (by omega) ht (Xh r c) (by rw[Xh,e1]) _ rfl
   generalize jc t (Xh r c)=p at p3⊢
   have hil:=hir
   have hval:=hm.int.valid c (by omega)
   rw[hv] at hval
   exact sv Mg 77 [3,5] (.c (di 0)<|.k<|.f<|.f<|.f<|.c (db J)<|.x (Ai r)<|.h (.xs (Ac s0))<|.f<|.h (.q 14 0)<|.h (.cl 1 0 1 2)<|.lo [ke 3,ke 5,ke 9,ke 10,ch 53 (cw r.aq),ch 54 (di (I r.aq)),ch 55 (di (0:Nat))] (re r [])) (_/\(m.kind !=5)=O/\Y ((i:Int)<0)=O/\Y ((i:Int)>=(I (U Ai m.av):Int))=O/\_/\0<=(i:Int)/\(U Ai m.av)[Z (i:Int)]?=G (Ai r)/\Q 2/\iz 0<=0/\(cc c.az)[Z 0]?=G (Ac s0)/\yp/\(s0.n !=r.aj)=O/\Q (cw r.aq)/\di (I (U vi r.aq):Int)=di (I r.aq:Int)/\Q (di 0)/\cm 2 [1] [G [bt (ae r.name),di r.aj,di r.to,cw r.am,cw r.ak,cw r.move,di r.chan,di r.act,di r.letter,cw r.path,cw r.next,bt (AA r.ar),cw r.aq,di r.second],G [br 1 []]]=J/\Q [G (rC r),G [br 1 nV]]/\Q [(1,2,nV)]/\_) ⟨hm.chk,by rw[hm.kind];rfl,yq,HE (by rw[H9];omega),hval,by omega,Am hi,rfl,Ib _,An (i:=0) h0,yn,by rw[hf];exact bne_self_eq_false _,rfl,by rw[H9],rfl,rfl,rfl,rfl,iK (p3 _ 0 rfl)⟩
  ·rw[HR hf]
   exact Xr m t hm i r hi c hs hv s0 h0 hf
theorem xc{ap:Int->List bc×Int}{Q:c8->Prop}(hq:∀i,∀v∈ (ap i).1,Q (i,v)):∀(n:Nat) (i:Int) (acc:List c8),(∀s∈acc,Q s)->(Cz ap n i acc).1.length<=256/\∀s∈ (Cz ap n i acc).1,Q s
 |0,i,acc,ha=>by
  rw[Cz]
  split
  ·exact⟨by simp,by simp⟩
  ·rename_i h
   exact⟨by have:=Iu (HM h);show I acc<=256;omega,ha⟩
 |n+1,i,acc,ha=>by
  rw[Cz]
  split
  ·exact⟨by simp,by simp⟩
  ·exact xc hq n (i+1) (acc++(ap i).1.map fun v=>(i,v)) (fun s hs=>by
    rcases Ix.1 hs with hs|hs
    ·exact ha s hs
    ·obtain⟨v,hv,rfl⟩:=Is.1 hs
     exact hq i v hv)
def Al3(p:List bc×Int):Prop:=I p.1<=1000/\∀v∈p.1,v.size<=1000
theorem Ac2{p:bc×Int}(h:p.1.size<=1000):Al3 (BG p):=by
 unfold BG
 split
 ·exact⟨by simp,by simp⟩
 ·split
  ·exact⟨by simp,by simp⟩
  ·exact⟨by simp,fun v hv=>by rw[HQ.1 hv];exact h⟩
structure qw(m:b9)(t:cy)(ap:bc->Int->List bc×Int):Prop where
 int:Hq m t
 chk:F0 41 [Af m] (di 0)
 kind:m.kind=2∨m.kind=3∨m.kind=5
 few:I m.av<=12
 bp:∀c:bc,Ah t c=J->∀i:Int,Al3 (ap c i)
 beh:∀c:bc,c.size<=1000->Ah t c=J->∀i:Int, -1<=i->i<I m.av->F0 125 [Af m,di i,dV c] (du (ap c i))
theorem Alm{m:b9}{t:cy}{ap:bc->Int->List bc×Int}(hm:qw m t ap):F0 176 [Af m] (di 0):=by
 exact sv Aiy 12 [1] (.c (di 0)<|.k<|.f .r) (_/\(m.kind==6)=O/\Q (di 0)) ⟨hm.chk,by rcases hm.kind with h|h|h<;>(rw[h];rfl),rfl⟩
theorem Akm{m:b9}{t:cy}{ap:bc->Int->List bc×Int}(hm:qw m t ap)(c:bc)(hs:c.size<=1000):F0 124 [Af m,dV c] (di (if Ah t c=J then 0 else 17)):=by
 have h1:=hm.int.valid c (by omega)
 cases hv:Ah t c with
 |true=>
  rw[hv] at h1
  show Aa PP _ _ _ (di 0) _
  exact sv xi 15 [2,3] (.c (di 0)<|.c (db J) .r) (_/\_/\Q (di 0)) ⟨Alm hm,h1,rfl⟩
 |false=>
  rw[hv] at h1
  show Aa PP _ _ _ (di 17) _
  exact sv xi 15 [2,3] (.c (di 0)<|.c (db O) .r) (_/\_/\Q (di 17)) ⟨Alm hm,h1,rfl⟩
def Pz(m:b9)(t:cy)(ap:bc->Int->List bc×Int)(c:bc):List c8×Int:=if Ah t c=J then Cz (ap c) (I m.av+1) (-1) [] else([],17)
theorem Ah8{m:b9}{t:cy}{ap:bc->Int->List bc×Int}(hm:qw m t ap)(c:bc)(hs:c.size<=1000):((Pz m t ap c).1.length<=256/\∀s∈ (Pz m t ap c).1,s.2.size<=1000)/\F0 77 [Af m,dV c] (e7 (Pz m t ap c)):=by
 have hc:=Akm hm c hs
 unfold Pz
 cases hv:Ah t c with
 |false=>
  rw[hv] at hc
  have hc:F0 124 [Af m,dV c] (di 17):=hc
  rw[HR (by decide)]
  refine⟨⟨by simp,by simp⟩,?_⟩
  exact sv Hf 53 [2,3] (.c (di 17) .r) (_/\bl [bt (ai []),di 17]=e7 ([],17)) ⟨hc,rfl⟩
 |true=>
  rw[hv] at hc
  have hc:F0 124 [Af m,dV c] (di 0):=hc
  rw[HV rfl]
  have hb:=hm.bp c hv
  have hap:=fun i h1 h2=>hm.beh c hs hv i h1 h2
  generalize ap c=ap at hb hap⊢
  refine⟨xc (ap:=ap) (Q:=fun s=>s.2.size<=1000) (fun i v hv=>(hb i).2 v hv) (I m.av+1) (-1) [] (by simp),?_⟩
  refine sv Hf 53 [2,3] (.c (di 0)<|.h (.q 5 0)<|.h (.nw 7 1 3)<|.ls sb (FF [])) (_/\Q (di (-1))/\Q [(1,3,nV)]/\I0 Hf (I bd.H) (e7 (Cz ap (I m.av+1) (-1) [])) bd [kl Dr gi,bh 0,kc Dr [1,1,1,1]] (ba 53 (tz m c)) (FF [])) ⟨hc,rfl,rfl,⟨?_⟩⟩
  exact Py m hm.few c ap (fun i=>(hb i).1) (fun i h1 h2=>hap i h1 h2) (I m.av+1) (-1) [] (by omega) (by omega) (by omega) (by simp)
theorem Al7{m:b9}{c:bc}(hk:m.kind=2∨m.kind=3){l:List bc}(hl:F0 206 [Af m,dV c] (du (l,0))):F0 178 [Af m,dV c] (cx l):=by
 rcases hk with hk|hk
 ·exact sv t8 31 [2,3] (.t<|.c (du (l,0)) .r) ((m.kind==2)=J/\_/\Q (cx l)) ⟨by rw[hk];rfl,hl,rfl⟩
 ·exact sv t8 31 [2,3] (.f<|.t<|.c (du (l,0)) .r) ((m.kind==2)=O/\(m.kind==3)=J/\_/\Q (cx l)) ⟨by rw[hk];rfl,by rw[hk];rfl,hl,rfl⟩
theorem Al6{m:b9}{c:bc}(hk:m.kind=5){v:bc}(hl:F0 207 [Af m,dV c] (.tup [dV v,di 0])):F0 178 [Af m,dV c] (cx [v]):=by
 refine sv t8 31 [2,3] (.f<|.f<|.t<|.c (.tup [dV v,di 0]) .r) ((m.kind==2)=O/\(m.kind==3)=O/\(m.kind==5)=J/\_/\bt (ai [ab [vi v.n,dt v.az]])=cx [v]) ⟨by rw[hk];rfl,by rw[hk];rfl,by rw[hk];rfl,hl,?_⟩
 show bt (.list [Ac v])=cx [v]
 rw[←AE];rfl
theorem AeG{m:b9}{c:bc}{l:List bc}(h:F0 178 [Af m,dV c] (cx l)):F0 125 [Af m,di (-1),dV c] (du (l,0)):=by
 exact sv qi 56 [3,5] (.c (cx l) .r) (_/\bl [cx l,di 0]=du (l,0)) ⟨h,rfl⟩
theorem Amb{m:b9}(hk:m.kind=2∨m.kind=3)(i:Nat)(c:bc)(p:bc×Int)(hp:F0 183 [Af m,di i,dV c] (dP p)):F0 125 [Af m,di i,dV c] (du (BG p)):=by
 exact sv qi 56 [3,5] (.f<|.f<|.f<|.f<|.c (dP p)<|.c (du (BG p)) .r) (((i:Int)== -1)=O/\(m.kind==1)=O/\(m.kind==4)=O/\(m.kind==5)=O/\_/\_/\bl [bt (dt (BG p).fst),di (BG p).snd]=du (BG p)) ⟨Ip.2 (by omega),by rcases hk with h|h<;>(rw[h];rfl),by rcases hk with h|h<;>(rw[h];rfl),by rcases hk with h|h<;>(rw[h];rfl),hp,Pr p,rfl⟩
theorem Ama{m:b9}(hk:m.kind=5)(i:Nat)(c:bc)(p:List bc×Int)(hp:F0 182 [Af m,di i,dV c] (du p)):F0 125 [Af m,di i,dV c] (du p):=by
 exact sv qi 56 [3,5] (.f<|.f<|.f<|.t<|.c (du p) .r) (((i:Int)== -1)=O/\(m.kind==1)=O/\(m.kind==4)=O/\(m.kind==5)=J/\_/\bl [cx p.fst,di p.snd]=du p) ⟨Ip.2 (by omega),by rw[hk];rfl,by rw[hk];rfl,by rw[hk];rfl,hp,rfl⟩
def g7(m:b9)(t:cy)(c:bc)(i:Int):List bc×Int:=if i<0 then(sortV (e8 m c (I m.ay)),0) else match m.av[i.toNat]? with
 |some r=>BG (RM t r c)
 |none=>([],0)
theorem la.st{m:b9}{t:cy}(hm:la m t)(hr:I m.au<=1000):qw m t (g7 m t):=by
 refine⟨hm.int,hm.chk,by rcases hm.kind with h|h<;>simp[h],hm.few.1,fun c hv i=>?_,fun c hs hv i h1 h2=>?_⟩
 ·have hsh:=hm.shape c hv
  have hl:=hsh.len
  have h2:=hm.few.2
  unfold g7
  split
  ·have hlen:=O9 m c (I m.ay)
   refine⟨by show(sortV _).length<=1000;rw[(A7 _).length_eq];omega,fun v hv=>?_⟩
   have:=O8 hsh.size (by omega) ((A7 _).mem_iff.1 hv)
   omega
  ·split
   ·rename_i r hr
    have:=hsh.size
    exact Ac2 (T9 m t hm _ r hr c (by omega)).1
   ·exact⟨by simp,by simp⟩
 ·unfold g7
  by_cases h0:i<0
  ·have:i= -1:=by omega
   subst this
   rw[HV h0]
   exact AeG (Al7 hm.kind (AcE m t hm hr c hv))
  ·obtain⟨k,rfl⟩:∃k:Nat,i=k:=⟨i.toNat,by omega⟩
   have hk:k<I m.av:=by omega
   have hr:m.av[k]?=G m.av[k]:=HA hk
   rw[HR h0,show((k:Nat):Int).toNat=k by omega,hr]
   exact Amb hm.kind k c _ (T9 m t hm k _ hr c hs).2
def Q9(m:b9)(t:cy)(c:bc)(i:Int):List bc×Int:=if i<0 then([ln m c],0) else match m.av[i.toNat]? with
 |some r=>Hv t r c
 |none=>([],0)
theorem kb.st{m:b9}{t:cy}(hm:kb m t):qw m t (Q9 m t):=by
 refine⟨hm.int,hm.chk,.inr (.inr hm.kind),hm.few,fun c hv i=>?_,fun c hs hv i h1 h2=>?_⟩
 ·unfold Q9
  split
  ·exact⟨by simp,fun y hy=>by rw[HQ.1 hy];exact(Sp m t hm c hv).1⟩
  ·split
   ·rename_i r hr
    have:=Xi (t:=t) (r:=r) (fun _=>hm.shape c hv) (hm.rule r (HG hr))
    exact⟨by omega,this.2⟩
   ·exact⟨by simp,by simp⟩
 ·unfold Q9
  by_cases h0:i<0
  ·have:i= -1:=by omega
   subst this
   rw[HV h0]
   exact AeG (Al6 hm.kind (Sp m t hm c hv).2)
  ·obtain⟨k,rfl⟩:∃k:Nat,i=k:=⟨i.toNat,by omega⟩
   have hk:k<I m.av:=by omega
   have hr:m.av[k]?=G m.av[k]:=HA hk
   rw[HR h0,show((k:Nat):Int).toNat=k by omega,hr]
   exact Ama hm.kind k c _ (Xp m t hm k _ hr c hs)
def cb(s:Int)(ws:List (List Int)):bc:=.mk 0 (lf s::ws.map ce)
structure i1(m:b9)(s:Int)(ws:List (List Int)):Prop where
 st:0<=s/\s<I m.aw
 len:I ws=I m.ay
 word:∀w∈ws,I w<=12/\∀x∈w,0<=x/\x<I m.ax
theorem Gp{n:Int}{v:bc}(h:Cx n v=J):v=lf v.n/\0<=v.n/\v.n<n:=by
 simp only[Cx,HB,HK,Il] at h
 obtain⟨h1,h2,h3⟩:=h
 cases v with
 |mk a ks=>
  have h3:(I ks:Int)=0:=h3
  have:ks=[]:=IT (by omega)
  subst this
  exact⟨rfl,h1,h2⟩
theorem PR{n x:Int}(h:0<=x/\x<n):Cx n (lf x)=J:=by
 simp only[Cx,bc.n,bc.az,HB,HK]
 exact⟨HC h.1,HC h.2,rfl⟩
theorem PQ{n:Int}:∀{ks:List bc},(ks.all fun k=>Cx n k)=J->∃w:List Int,ks=w.map lf/\∀x∈w,0<=x/\x<n
 |[],_=>⟨[],rfl,by simp⟩
 |k::ks,h=>by
  simp only[all_cons,HB] at h
  obtain⟨h1,h2,h3⟩:=Gp h.1
  obtain⟨w,e,hw⟩:=PQ h.2
  refine⟨k.n::w,?_,fun x hx=>?_⟩
  ·rw[Ia, ←h1, ←e]
  ·rcases Iq.1 hx with rfl|hx
   ·exact⟨h2,h3⟩
   ·exact hw x hx
theorem Ads{m:b9}(hk:m.kind=2∨m.kind=3){v:bc}(h:Ar (Cl m) v=J):∃w:List Int,v=ce w/\w.length<=12/\∀x∈w,0<=x/\x<I m.ax:=by
 have h2:v.n=0/\(I v.az:Int)<=12/\(v.az.all fun k=>Cx (I m.ax) k)=J:=by
  rcases hk with hk|hk
  ·rw[show Cl m=.word (.lab (I m.ax)) by simp[Cl,hk]] at h
   simp only[Ar,HB,HK,Il] at h
   exact⟨h.1,h.2.1,h.2.2⟩
  ·rw[show Cl m=.prio (I m.ax) m.au by simp[Cl,hk]] at h
   simp only[Ar,HB,HK,Il] at h
   exact⟨h.1,h.2.1,h.2.2⟩
 obtain⟨h1,h3,h4⟩:=h2
 obtain⟨w,e,hw⟩:=PQ h4
 cases v with
 |mk a ks=>
  simp only[bc.n,bc.az] at h1 h3 e
  subst h1;subst e
  exact⟨w,rfl,by rw[H9] at h3;omega,hw⟩
theorem Ajg{m:b9}(hk:m.kind=2∨m.kind=3){w:List Int}(h1:I w<=12)(h2:∀x∈w,0<=x/\x<I m.ax):Ar (Cl m) (ce w)=J:=by
 have h4:((w.map lf).all fun k=>Cx (I m.ax) k)=J:=Iw.2 fun k hk=>by
  obtain⟨x,hx,rfl⟩:=Is.1 hk
  exact PR (h2 x hx)
 have h5:I (w.map lf)=I w:=H9 _
 rcases hk with hk|hk
 ·rw[show Cl m=.word (.lab (I m.ax)) by simp[Cl,hk]]
  simp only[Ar,bc.n,bc.az,HB,HK,Il]
  exact⟨trivial,HC (by have:=h5;omega),h4⟩
 ·rw[show Cl m=.prio (I m.ax) m.au by simp[Cl,hk]]
  simp only[Ar,bc.n,bc.az,HB,HK,Il]
  exact⟨trivial,HC (by have:=h5;omega),h4⟩
theorem Qs{m:b9}(hk:m.kind=2∨m.kind=3):∀(n:Nat) (vs:List bc),I vs=n->BA (replicate n (Cl m)) vs=J->∃ws:List (List Int),vs=ws.map ce/\∀w∈ws,I w<=12/\∀x∈w,0<=x/\x<I m.ax
 |0,vs,hl,_=>⟨[],by simpa using hl,by simp⟩
 |n+1,[],hl,_=>by simp at hl
 |n+1,v::vs,hl,h=>by
  simp only[I4,BA,HB] at h
  obtain⟨w,e,h1,h2⟩:=Ads hk h.1
  obtain⟨ws,e2,h3⟩:=Qs hk n vs (by simpa using hl) h.2
  refine⟨w::ws,by rw[Ia, ←e, ←e2],fun x hx=>?_⟩
  rcases Iq.1 hx with rfl|hx
  ·exact⟨h1,h2⟩
  ·exact h3 x hx
theorem Z9{m:b9}(hk:m.kind=2∨m.kind=3):∀(ws:List (List Int)),(∀w∈ws,I w<=12/\∀x∈w,0<=x/\x<I m.ax)->BA (replicate (I ws) (Cl m)) (ws.map ce)=J
 |[],_=>rfl
 |w::ws,h=>by
  simp only[HF,I4,Ia,BA,HB]
  exact⟨Ajg hk (h w (by simp)).1 (h w (by simp)).2,Z9 hk ws fun x hx=>h x (by simp[hx])⟩
theorem Sb(w:List Int):(ce w).size=1+I w:=by rw[bc.size,J1]
theorem Sa:∀(ws:List (List Int)),(∀w∈ws,I w<=12)->bc.sizes (ws.map ce)<=13*I ws
 |[],_=>HH _
 |w::ws,h=>by
  have h1:=h w (by simp)
  have h2:=Sa ws fun z hz=>h z (by simp[hz])
  have h3:=Sb w
  rw[Ia,bc.sizes,HF];omega
theorem RK{m:b9}(hk:m.kind=2∨m.kind=3){c:bc}(h:Ah (AF m) c=J):∃s ws,c=cb s ws/\i1 m s ws:=by
 simp only[Ah,AF,Ar,HB,HK,Il] at h
 obtain⟨_,h2,h3,h4⟩:=h
 cases c with
 |mk a ks=>
  simp only[bc.n,bc.az] at h2 h3 h4
  subst h2
  cases ks with
  |nil=>simp at h3;omega
  |cons k ks=>
   simp only[BA,HB] at h4
   simp only[HF,List.length_replicate] at h3
   obtain⟨l1,l2⟩:=Gp (by simpa[Ar] using h4.1)
   obtain⟨ws,e,hw⟩:=Qs hk (I m.ay) ks (by omega) h4.2
   refine⟨k.n,ws,by rw[cb, ←l1, ←e],l2,?_,hw⟩
   have:=HX I e
   rw[H9] at this;omega
theorem Ed{m:b9}(hk:m.kind=2∨m.kind=3)(hp:I m.ay<=2){s:Int}{ws:List (List Int)}(h:i1 m s ws):Ah (AF m) (cb s ws)=J:=by
 have hz:=Sa ws fun w hw=>(h.word w hw).1
 have hl:=h.len
 have h4:=Z9 hk ws h.word
 rw[hl] at h4
 simp only[Ah,AF,Ar,cb,bc.n,bc.az,HB,HK,Il,BA]
 refine⟨?_,trivial,?_,PR h.st,h4⟩
 ·have e:(bc.mk 0 (lf s::ws.map ce)).size=1+(1+bc.sizes (ws.map ce)):=by simp only[bc.size,bc.sizes]
  exact yr
 ·simp[hl]
theorem JU(w:List Int):AR (ce w)=w:=YS w
theorem EI(s:Int)(ws:List (List Int)):(cb s ws).az.getD 0 ez=lf s:=rfl
theorem GV{s:Int}{ws:List (List Int)}{k:Nat}{w:List Int}(h:ws[k]?=G w):(cb s ws).az.getD (1+k) ez=ce w:=by
 rw[show 1+k=k+1 by omega,HI]
 show((lf s::ws.map ce)[k+1]?).getD ez=ce w
 rw[Js,Ir,h];rfl
theorem EH{s:Int}{ws:List (List Int)}{k:Nat}{w:List Int}(h:ws[k]?=G w)(s':Int)(w':List Int):GU (cb s ws) k s' w'=cb s' (ws.set k w'):=by
 rw[GU,EI,GV h,cb,BL]
 show bc.mk 0 (((lf s::ws.map ce).set 0 (.mk s' [])).set (1+k) (.mk 0 (w'.map lf)))=_
 rw[List.set_cons_zero,show 1+k=k+1 by omega,IW,cb,List.map_set]
theorem Q2{m:b9}(hk:m.kind=2∨m.kind=3)(hp:I m.ay<=2){s:Int}{ws:List (List Int)}(h:i1 m s ws){r:cp}{k:Nat}(hrk:r.chan=k){w:List Int}(hw:ws[k]?=G w):
  RM (AF m) r (cb s ws)=if ((s==r.aj)&&((r.act !=2)||w.head?==G r.letter))=J then
   if (r.act==1)=J then(if ((I w:Int)==12)=J then(ez,1) else(cb r.to (ws.set k (w++[r.letter])),0))
   else if (r.act==2)=J then(cb r.to (ws.set k (w.drop 1)),0) else(cb r.to (ws.set k w),0)
  else(ez,18):=by
 have ek:r.chan.toNat=k:=by rw[hrk];rfl
 unfold RM wb
 rw[HV (Ed hk hp h),ek,EI,GV hw,JU]
 simp only[EH hw]
 rfl
theorem Ta{m:b9}{s:Int}{ws:List (List Int)}(hl:I ws=I m.ay):∀K:Nat,K<=I ws->∀v,v∈e8 m (cb s ws) K↔∃k w w',k<K/\ws[k]?=G w/\w'∈E6 m w/\v=cb s (ws.set k w'):=by
 intro K hK v
 simp only[e8,List.mem_flatMap,List.mem_range,Is]
 constructor
 ·rintro ⟨k,hk,w',h1,rfl⟩
  obtain⟨w,hw⟩:=yk (show k<I ws by omega)
  rw[GV hw,JU] at h1
  exact⟨k,w,w',hk,hw,h1,by rw[f9,EI,EH hw];rfl⟩
 ·rintro ⟨k,w,w',hk,hw,h1,rfl⟩
  refine⟨k,hk,w',?_,?_⟩
  ·rw[GV hw,JU];exact h1
  ·rw[f9,EI,EH hw];rfl
theorem RL{s s':Int}{ws ws':List (List Int)}(h:cb s ws=cb s' ws'):s=s'/\ws=ws':=by
 simp only[cb,bc.mk.injEq,HN,true_and] at h
 refine⟨by have:=h.1;simpa using this,?_⟩
 exact(List.map_inj_right fun a b e=>QQ e).1 h.2
theorem Np{m:b9}{w w':List Int}(h:w'∈E6 m w):I w'+1=I w/\∀x∈w',x∈w:=by
 have hd:∀i,i<I w->I (fp w i)+1=I w/\∀x∈fp w i,x∈w:=fun i hi=>by
  refine⟨by rw[fp,HO,Ig,IF];omega,fun x hx=>?_⟩
  rcases Ix.1 hx with hx|hx
  ·exact IR hx
  ·exact I1 hx
 unfold E6 at h
 split at h
 ·unfold FU at h
  split at h
  ·obtain⟨i,hi,rfl⟩:=Is.1 (((DT _).2 w').1 h)
   have:=List.mem_range.1 (List.mem_filter.1 hi).1
   exact hd i (by omega)
  ·simp at h
 ·unfold FS at h
  split at h
  ·obtain⟨i,hi,rfl⟩:=Is.1 (((DT _).2 w').1 h)
   exact hd i (List.mem_range.1 hi)
  ·simp at h
theorem VW(m:b9)(w:List Int):(E6 m w).Nodup:=by
 unfold E6 FU FS
 split
 ·split
  ·exact JJ JE (DT _).1
  ·exact .nil
 ·split
  ·exact JJ JE (DT _).1
  ·exact .nil
theorem YW{m:b9}{s:Int}{ws:List (List Int)}(hl:I ws=I m.ay):∀K:Nat,K<=I ws->(e8 m (cb s ws) K).Nodup:=by
 intro K
 induction K with
 |zero=>intro _;exact .nil
 |succ K ih=>
  intro hK
  obtain⟨w,hw⟩:=yk (show K<I ws by omega)
  rw[Lb,GV hw,JU]
  refine List.nodup_append.2 ⟨ih (by omega),?_,fun a ha b hb e=>?_⟩
  ·refine(List.pairwise_map.2 ((VW m w).imp fun{a b} hab e=>hab ?_))
   rw[f9,f9,EI,EH hw,EH hw] at e
   have:=HX (fun l=>l[K]?) (RL e).2
   simp only[List.getElem?_set_self (show K<I ws by omega)] at this
   exact HZ this
  ·obtain⟨k,u,u',hk,hu,h1,rfl⟩:=(Ta hl K (by omega) a).1 ha
   obtain⟨w',h2,rfl⟩:=Is.1 hb
   rw[f9,EI,EH hw] at e
   have:=HX (fun l=>l[k]?) (RL e).2
   simp only[List.getElem?_set_self (show k<I ws by omega)] at this
   rw[List.getElem?_set_ne (by omega),hu] at this
   have h3:=(Np h1).1
   rw[HZ this] at h3
   omega
theorem Sw(l:List bc):(sortV l).Pairwise fun a b=>Aq a b<=0:=(GA l).imp fun{a b} h=>HL h
theorem YT{m:b9}{s:Int}{ws:List (List Int)}(hl:I ws=I m.ay):jz Aq (sortV (e8 m (cb s ws) (I m.ay)))/\∀v,v∈sortV (e8 m (cb s ws) (I m.ay))↔∃k w w',ws[k]?=G w/\w'∈E6 m w/\v=cb s (ws.set k w'):=by
 have hn:=YW (s:=s) hl (I m.ay) (by omega)
 refine⟨Aan Bz (Sw _) ((A7 _).nodup_iff.2 hn),fun v=>?_⟩
 rw[(A7 _).mem_iff,Ta hl _ (by omega)]
 constructor
 ·rintro ⟨k,w,w',_,h⟩;exact⟨k,w,w',h⟩
 ·rintro ⟨k,w,w',h⟩
  have:=(HD.1 h.1).1
  exact⟨k,w,w',by omega,h⟩
theorem i1.set{m:b9}{s:Int}{ws:List (List Int)}(h:i1 m s ws){s':Int}(hs:0<=s'/\s'<I m.aw)(k:Nat){w:List Int}(h1:I w<=12)(h2:∀x∈w,0<=x/\x<I m.ax):i1 m s' (ws.set k w):=
 ⟨hs,by rw[length_set];exact h.len,fun u hu=>by
  rcases IE hu with hu|rfl
  ·exact h.word u hu
  ·exact⟨h1,h2⟩⟩
structure sj(m:b9)(r:cp):Prop where
 to:0<=r.to/\r.to<I m.aw
 chan:0<=r.chan/\r.chan<I m.ay
 letter:r.act=1->0<=r.letter/\r.letter<I m.ax
theorem Agi{m:b9}(hk:m.kind=2∨m.kind=3)(hp:I m.ay<=2){s:Int}{ws:List (List Int)}(h:i1 m s ws){r:cp}(hr:sj m r):
  ((RM (AF m) r (cb s ws)).2=0/\∃s' ws',(RM (AF m) r (cb s ws)).1=cb s' ws'/\i1 m s' ws')∨(RM (AF m) r (cb s ws)).2=1∨(RM (AF m) r (cb s ws)).2=18:=by
 obtain⟨k,hrk⟩:∃k:Nat,r.chan=k:=⟨r.chan.toNat,by have:=hr.chan;omega⟩
 obtain⟨w,hw⟩:∃w,ws[k]?=G w:=⟨_,HA (by have:=hr.chan;rw[h.len];omega)⟩
 have hww:=h.word w (HG hw)
 rw[Q2 hk hp h hrk hw]
 split
 ·split
  ·rename_i h1
   split
   ·exact .inr (.inl rfl)
   ·rename_i h2
    have h2:¬(I w:Int)=12:=by simpa using h2
    refine .inl ⟨rfl,_,_,rfl,h.set hr.to k (by rw[HO];simp only[HF,HJ];omega) fun x hx=>?_⟩
    rcases Ix.1 hx with hx|hx
    ·exact hww.2 x hx
    ·rw[HQ.1 hx];exact hr.letter (by simpa using h1)
  ·split
   ·exact .inl ⟨rfl,_,_,rfl,h.set hr.to k (by rw[IF];omega) fun x hx=>hww.2 x (I1 hx)⟩
   ·exact .inl ⟨rfl,_,_,rfl,h.set hr.to k hww.1 hww.2⟩
 ·exact .inr (.inr rfl)
theorem Aii{m:b9}{s:Int}{ws:List (List Int)}(h:i1 m s ws){v:bc}(hv:v∈sortV (e8 m (cb s ws) (I m.ay))):∃ws',v=cb s ws'/\i1 m s ws':=by
 obtain⟨k,w,w',hw,h1,rfl⟩:=((YT h.len).2 v).1 hv
 have hww:=h.word w (HG hw)
 obtain⟨d1,d2⟩:=Np h1
 exact⟨_,rfl,h.set h.st k (by omega) fun x hx=>hww.2 x (d2 x hx)⟩
theorem TH{ap:Int->List bc×Int}{Q:c8->Prop}(hq:∀i,∀v∈ (ap i).1,Q (i,v))(n:Nat)(i:Int):∀s∈ (Cz ap n i []).1,Q s:=(xc hq n i [] (by simp)).2
theorem Aaq{m:b9}(hk:m.kind=2∨m.kind=3)(hp:I m.ay<=2)(hr:∀r∈m.av,sj m r){c:bc}(hc:Ah (AF m) c=J)(i:Int):((g7 m (AF m) c i).2=0∨(g7 m (AF m) c i).2=1)/\∀v∈ (g7 m (AF m) c i).1,Ah (AF m) v=J:=by
 obtain⟨s,ws,rfl,h⟩:=RK hk hc
 unfold g7
 split
 ·refine⟨.inl rfl,fun v hv=>?_⟩
  obtain⟨ws',rfl,h'⟩:=Aii h hv
  exact Ed hk hp h'
 ·split
  ·rename_i r hri
   rcases Agi hk hp h (hr r (HG hri)) with⟨h1,s',ws',h2,h3⟩|h1|h1
   ·have:BG (RM (AF m) r (cb s ws))=([cb s' ws'],0):=by
     rw[BG,HR (by rw[h1];decide),HR (by rw[h1];decide),h2]
    rw[this]
    exact⟨.inl rfl,fun v hv=>by rw[HQ.1 hv];exact Ed hk hp h3⟩
   ·have:BG (RM (AF m) r (cb s ws))=([],1):=by rw[BG,HR (by rw[h1];decide),HV (by rw[h1];decide),h1]
    rw[this];exact⟨.inr rfl,by simp⟩
   ·have:BG (RM (AF m) r (cb s ws))=([],0):=by rw[BG,HV (by rw[h1];decide)]
    rw[this];exact⟨.inl rfl,by simp⟩
  ·exact⟨.inl rfl,by simp⟩
def dq(s:Int)(ps:List (Int×Int)):bc:=.mk 0 [lf s,.mk 0 (ps.map pV)]
def B9(l:List (Int×Int)):List (Int×Int):=l.mergeSort fun a b=>Y (Aq (pV a) (pV b)<=0)
theorem GK(l:List (Int×Int)):(B9 l).Perm l:=List.mergeSort_perm l _
theorem SC(l:List (Int×Int)):((B9 l).map pV).Pairwise fun a b=>Aq a b<=0:=
 List.pairwise_map.2 ((List.pairwise_mergeSort (le:=fun a b=>Y (Aq (pV a) (pV b)<=0)) (fun a b c h1 h2=>HC (Ey (HL h1) (HL h2))) (fun a b=>by rcases J9 (pV a) (pV b) with h|h<;>simp[h]) l).imp fun{a b} h=>HL h)
theorem Sv(l:List (Int×Int)):sortV (l.map pV)=(B9 l).map pV:=
 (Oe ((GK l).map pV) ((SC l).imp fun{a b} h=>HC h)).symm
theorem Aaj(s:Int)(l:List (Int×Int)):Ch s l=dq s (B9 l):=by rw[Ch,Sv];rfl
structure nc(m:b9)(s:Int)(ps:List (Int×Int)):Prop where
 st:0<=s/\s<I m.aw
 len:I ps<=12
 tok:∀p∈ps,(0<=p.1/\p.1<I m.ay)/\0<=p.2/\p.2<m.age+2
 srt:(ps.map pV).Pairwise fun a b=>Aq a b<=0
theorem Sl{ks:List bc}(h:(I ks:Int)=2):∃x y,ks=[x,y]:=by
 match ks,h with
 |[x,y],_=>exact⟨x,y,rfl⟩
abbrev pk(m:b9):cy:=.prod [.lab (I m.ay),.lab (m.age+2)]
theorem Abk{m:b9}{v:bc}(h:Ar (pk m) v=J):∃p:Int×Int,v=pV p/\(0<=p.1/\p.1<I m.ay)/\0<=p.2/\p.2<m.age+2:=by
 simp only[Ar,HB,Il] at h
 obtain⟨h1,h2,h3⟩:=h
 cases v with
 |mk a ks=>
  have h1:a=0:=h1
  have h2:(I ks:Int)=2:=h2
  have h3:BA [.lab (I m.ay),.lab (m.age+2)] ks=J:=h3
  subst h1
  obtain⟨x,y,rfl⟩:=Sl h2
  ·have h3:=HS.1 h3
   have h4:=HS.1 h3.2
   obtain⟨x1,x2⟩:=Gp (by simpa[Ar] using h3.1)
   obtain⟨y1,y2⟩:=Gp (by simpa[Ar] using h4.1)
   exact⟨(x.n,y.n),by show _=bc.mk 0 [lf x.n,lf y.n];rw[←x1, ←y1],x2,y2⟩
theorem Ahn{m:b9}{p:Int×Int}(h:(0<=p.1/\p.1<I m.ay)/\0<=p.2/\p.2<m.age+2):Ar (pk m) (pV p)=J:=by
 rw[Ar]
 exact HS.2 ⟨rfl,HS.2 ⟨rfl,HS.2 ⟨by rw[Ar];exact PR h.1,HS.2 ⟨by rw[Ar];exact PR h.2,rfl⟩⟩⟩⟩
theorem Po{m:b9}:∀{ks:List bc},(ks.all fun k=>Ar (pk m) k)=J->∃ps:List (Int×Int),ks=ps.map pV/\∀p∈ps,(0<=p.1/\p.1<I m.ay)/\0<=p.2/\p.2<m.age+2
 |[],_=>⟨[],rfl,by simp⟩
 |k::ks,h=>by
  simp only[all_cons,HB] at h
  obtain⟨p,e,hp⟩:=Abk h.1
  obtain⟨ps,e2,hps⟩:=Po h.2
  refine⟨p::ps,by rw[Ia, ←e, ←e2],fun x hx=>?_⟩
  rcases Iq.1 hx with rfl|hx
  ·exact hp
  ·exact hps x hx
theorem NZ{m:b9}{c:bc}(h:Ah (As m) c=J):∃s ps,c=dq s ps/\nc m s ps:=by
 simp only[Ah,As,Ar,HB,HK,Il] at h
 obtain⟨_,h2,h3,h4⟩:=h
 cases c with
 |mk a ks=>
  have h2:a=0:=h2
  have h3:(I ks:Int)=2:=h3
  have h4:BA [.lab (I m.aw),.bag (pk m)] ks=J:=h4
  subst h2
  obtain⟨x,y,rfl⟩:=Sl h3
  ·have h4:=HS.1 h4
   obtain⟨x1,x2⟩:=Gp (by simpa[Ar] using h4.1)
   have hy:=(HS.1 h4.2).1
   rw[Ar] at hy
   simp only[HB,HK,Il] at hy
   obtain⟨⟨y1,y2,y3⟩,y4⟩:=hy
   obtain⟨ps,e,hps⟩:=Po y3
   cases y with
   |mk b vs=>
    have y1:b=0:=y1
    have y2:(I vs:Int)<=12:=y2
    have e:vs=ps.map pV:=e
    have y4:UA vs=J:=y4
    subst y1;subst e
    refine⟨x.n,ps,by rw[dq, ←x1],x2,by have hl:I (ps.map pV)=I ps:=H9 _;have y2:(I (ps.map pV):Int)<=12:=y2;omega,hps,(Oc _).1 y4⟩
theorem Sm{m:b9}{s:Int}{ps:List (Int×Int)}(h:nc m s ps):Ah (As m) (dq s ps)=J:=by
 have hz:=Xt ps
 have hl:=h.len
 have ha:((ps.map pV).all fun k=>Ar (pk m) k)=J:=Iw.2 fun k hk=>by
  obtain⟨p,hp,rfl⟩:=Is.1 hk
  exact Ahn (h.tok p hp)
 have e:(dq s ps).size=1+(1+(1+bc.sizes (ps.map pV)+0)):=by simp only[dq,bc.size,bc.sizes]
 have hb:Ar (.bag (pk m)) (.mk 0 (ps.map pV))=J:=by
  rw[Ar]
  simp only[HB]
  have hlm:I (ps.map pV)=I ps:=H9 _
  exact⟨⟨rfl,HC (by show(I (ps.map pV):Int)<=12;omega),ha⟩,(Oc _).2 h.srt⟩
 rw[Ah,yr,Ij,As,Ar]
 exact HS.2 ⟨rfl,HS.2 ⟨rfl,HS.2 ⟨by rw[Ar];exact PR h.st,HS.2 ⟨hb,rfl⟩⟩⟩⟩
theorem XX(ps:List (Int×Int)):GL (.mk 0 (ps.map pV))=ps:=by
 show(ps.map pV).map _=ps
 rw[List.map_map]
 exact(List.map_congr_left fun p _=>rfl).trans (List.map_id ps)
theorem Xf(s:Int)(ps:List (Int×Int)):(dq s ps).az.getD 0 ez=lf s:=rfl
theorem Xe(s:Int)(ps:List (Int×Int)):(dq s ps).az.getD 1 ez=.mk 0 (ps.map pV):=rfl
theorem Xn{m:b9}(ha:0<=m.age/\m.age<=1000){s:Int}{ps:List (Int×Int)}(h:nc m s ps):ln m (dq s ps)=dq s (B9 (e9 m ps))/\nc m s (B9 (e9 m ps)):=by
 have e:ln m (dq s ps)=dq s (B9 (e9 m ps)):=by rw[ln,Xf,Xe,XX,Aaj];rfl
 refine⟨e,h.st,?_,fun p hp=>?_,SC _⟩
 ·rw[(GK _).length_eq,e9,H9];exact h.len
 ·have hp:=(GK _).mem_iff.1 hp
  obtain⟨q,hq,rfl⟩:=Is.1 hp
  have:=h.tok q hq
  refine⟨this.1,?_⟩
  show 0<=D9 m q.2/\D9 m q.2<m.age+2
  unfold D9
  rw[Al,Al]
  split<;>omega
theorem Afc{m:b9}{s:Int}{ps:List (Int×Int)}{r:cp}:((Hv (As m) r (dq s ps)).2=0∨(Hv (As m) r (dq s ps)).2=1∨(Hv (As m) r (dq s ps)).2=17)/\∀v∈ (Hv (As m) r (dq s ps)).1,Ah (As m) v=J:=by
 unfold Hv jc
 split
 ·split
  ·split
   ·rename_i ha
    exact⟨.inl rfl,fun v hv=>Iw.1 ha v (NS hv)⟩
   ·exact⟨.inr (.inl rfl),by simp⟩
  ·exact⟨.inl rfl,by simp⟩
 ·exact⟨.inr (.inr rfl),by simp⟩
theorem Wl{m:b9}(ha:0<=m.age/\m.age<=1000){c:bc}(hc:Ah (As m) c=J)(i:Int):((Q9 m (As m) c i).2=0∨(Q9 m (As m) c i).2=1)/\∀v∈ (Q9 m (As m) c i).1,Ah (As m) v=J:=by
 obtain⟨s,ps,rfl,h⟩:=NZ hc
 unfold Q9
 split
 ·obtain⟨e,h2⟩:=Xn ha h
  exact⟨.inl rfl,fun v hv=>by rw[HQ.1 hv,e];exact Sm h2⟩
 ·split
  ·rename_i r hr
   obtain⟨h1,h2⟩:=Afc (m:=m) (s:=s) (ps:=ps) (r:=r)
   refine⟨?_,h2⟩
   rcases h1 with h1|h1|h1
   ·exact .inl h1
   ·exact .inr h1
   ·exfalso
    unfold Hv at h1
    rw[HV hc] at h1
    split at h1
    ·unfold jc at h1;split at h1<;>simp at h1
    ·simp at h1
  ·exact⟨.inl rfl,by simp⟩
theorem OE{α:Type}{c:α->α->Int}(h:iy c je):∀(ys acc:List α),jz c acc->jz c (ys.foldl (CO c) acc)/\∀x,x∈ys.foldl (CO c) acc↔(x∈acc∨x∈ys)
 |[],acc,ha=>⟨ha,fun x=>by simp⟩
 |y::ys,acc,ha=>by
  obtain⟨a1,a2⟩:=SB h y acc ha
  obtain⟨b1,b2⟩:=OE h ys (CO c acc y) a1
  exact⟨b1,fun x=>by rw[IN,b2 x,a2 x,Iq,or_assoc]⟩
theorem Jw(l:List (List Int)):l.foldl (CO A5) []=C4 l:=by
 obtain⟨a1,a2⟩:=OE JE l [] .nil
 obtain⟨b1,b2⟩:=DT l
 exact RO JE a1 b1 fun x=>by rw[a2 x,b2 x];simp
theorem Ln:iy Aq je:=Bz
theorem Sf(l:List bc):jz Aq (DU l)/\∀x,x∈DU l↔x∈l:=by
 obtain⟨h1,h2⟩:=Mr Ln (q:=pu) (fun x y=>by rw[pu,Il];exact EB) (Sw l)
 exact⟨h1,fun x=>(h2 x).trans (A7 l).mem_iff⟩
theorem XT:∀(l:List bc) (v:bc),BH l v=CO Aq l v
 |[],v=>rfl
 |x::l,v=>by
  have ih:=XT l v
  unfold BH CO at*
  by_cases h1:Aq x v<0
  ·rw[HV h1,show AQ v (x::l)=AQ v l+1 by rw[AQ,HV h1],Js]
   rw[←XT l v,BH]
   split
   ·split
    ·rfl
    ·rfl
   ·rfl
  ·rw[HR h1,show AQ v (x::l)=0 by rw[AQ,HR h1]]
   simp only[List.getElem?_cons_zero,List.take_zero,Jk,List.nil_append,Il]
theorem Lu{l k:List bc}(h:∀x,x∈l↔x∈k):l.foldl BH []=DU k:=by
 have e:l.foldl BH []=l.foldl (CO Aq) []:=by
  congr 1
  funext a b
  exact XT a b
 obtain⟨a1,a2⟩:=OE Ln l [] .nil
 obtain⟨b1,b2⟩:=Sf k
 rw[e]
 exact RO Ln a1 b1 fun x=>by rw[a2 x,b2 x,h x];simp
def ik(tk:Tk)(l:List (Int×Int))(k:Nat):Bool:=match l[k]? with
 |some x=>(x.1==tk.place)&&(Y (x.2>=tk.low)&&Y (x.2<=tk.high))
 |none=>false
def Fk(tk:Tk)(l:List (Int×Int))(K:Nat):List (List (Int×Int)):=((List.range K).filter (ik tk l)).map fun k=>l.take k++l.drop (k+1)
def Sq:List Tk->List (Int×Int)->List (List (Int×Int))
 |[],l=>[l]
 |tk::ts,l=>(Fk tk l (I l)).flatMap (Sq ts)
theorem Ahs{tk:Tk}{l:List (Int×Int)}{k:Nat}(h:QC tk l k=J):ik tk l k=J:=by
 unfold QC at h
 unfold ik
 split at h
 ·rename_i x hx
  try rw[hx]
  simp only[HB] at h⊢
  exact⟨h.1,h.2.1,h.2.2.1⟩
 ·simp at h
theorem Qz{tk:Tk}{l:List (Int×Int)}:∀k:Nat,ik tk l k=J->∃j,j<=k/\QC tk l j=J/\l.take j++l.drop (j+1)=l.take k++l.drop (k+1)
 |k,h=>by
  cases ho:QC tk l k with
  |true=>exact⟨k,HH _,ho,rfl⟩
  |false=>
   obtain⟨x,hx⟩:∃x,l[k]?=G x:=by
    unfold ik at h
    split at h
    ·exact⟨_,by assumption⟩
    ·simp at h
   have h':=h
   unfold ik at h'
   rw[hx] at h'
   simp only[HB] at h'
   rw[Dk tk hx,h'.1,h'.2.1,h'.2.2] at ho
   simp only[Ij,Bool.or_eq_false_iff] at ho
   obtain⟨h1,h2⟩:=ho
   have hk:k≠0:=fun e=>by rw[e] at h1;simp at h1
   obtain⟨j,rfl⟩:∃j,k=j+1:=⟨k-1,by omega⟩
   rw[show j+1-1=j by omega] at h2
   obtain⟨y,hy⟩:∃y,l[j]?=G y:=⟨_,HA (by have:=(HD.1 hx).1;omega)⟩
   rw[hy] at h2
   have e:y=x:=by
    simp only[Bool.not_eq_false',HB,Il] at h2
    exact Prod.ext h2.1 h2.2
   subst e
   have hm:ik tk l j=J:=by unfold ik;rw[hy];simp only[HB];exact h'
   obtain⟨i,hi,h3,h4⟩:=Qz j hm
   refine⟨i,by omega,h3,h4.trans ?_⟩
   rw[da hx,IM,hy,Option.toList_some,IG,List.singleton_append]
theorem ZZ(tk:Tk)(l x:List (Int×Int)):x∈QJ tk l (I l)↔x∈Fk tk l (I l):=by
 simp only[QJ,Fk,Is,List.mem_filter,List.mem_range]
 constructor
 ·rintro ⟨k,⟨h1,h2⟩,rfl⟩
  exact⟨k,⟨h1,Ahs h2⟩,rfl⟩
 ·rintro ⟨k,⟨h1,h2⟩,rfl⟩
  obtain⟨j,h3,h4,h5⟩:=Qz k h2
  exact⟨j,⟨by omega,h4⟩,h5⟩
theorem Oa:∀(ts:List Tk) (l x:List (Int×Int)),x∈VP ts l↔x∈Sq ts l
 |[],l,x=>Iff.rfl
 |tk::ts,l,x=>by
  simp only[VP,Sq,List.mem_flatMap]
  constructor
  ·rintro ⟨y,h1,h2⟩;exact⟨y,(ZZ tk l y).1 h1,(Oa ts y x).1 h2⟩
  ·rintro ⟨y,h1,h2⟩;exact⟨y,(ZZ tk l y).2 h1,(Oa ts y x).2 h2⟩
theorem AfY(a b:List Int):A5 a b=if (I a:Int)=I b then B0 AL a b else AL (I a) (I b):=by
 rw[A5,Gv]
 show(if AL 0 0=0 then _ else _)=_
 rw[HV (by decide)]
 show(if AL (I (a.map lf):Int) (I (b.map lf):Int)=0 then B0 Aq (a.map lf) (b.map lf) else AL (I (a.map lf):Int) (I (b.map lf):Int))=_
 rw[H9,H9,RH]
 by_cases h:(I a:Int)=I b
 ·rw[HV h,HV (by rw[h];exact JG.refl _ trivial)]
 ·rw[HR h,HR (fun e=>h (JG.eq _ _ trivial trivial e))]
noncomputable abbrev Nm:=Tryz.f228
noncomputable def NF:=yl Nm
theorem VM(a b:List Int)(hl:I a=I b)(ha:I a<=1000000)(n:Nat):∀k:Nat,I a-k=n->k<=I a->
  Rn PP Nm 0 (di (B0 AL (a.drop k) (b.drop k))) bd ([kl NF [1,1,0,1,0,0],.blk 0,kc NF [1,1,1]]++[]) (ba 40 [(0,cw a),(1,cw b),(5,di k)]) bd:=by
 induction n with
 |zero=>
  intro k hn hk
  rw[HU (by omega),HU (by omega)]
  exact lv 40 [] (.f .r) (Y ((k:Int)<(I (U vi a):Int))=O/\Q (di 0)) ⟨HE (by rw[H9];omega),rfl⟩
 |succ n ih=>
  intro k hn hk
  obtain⟨x,hx⟩:=yk (show k<I a by omega)
  obtain⟨y,hy⟩:=yk (show k<I b by omega)
  rw[da hx,da hy,B0]
  by_cases he:(x !=y)=J
  ·have hne:¬AL x y=0:=fun h=>by simp[JG.eq x y trivial trivial h] at he
   rw[HR hne]
   exact lv 40 [] (.t<|.x (vi x)<|.x (vi y)<|.t<|.x (vi x)<|.x (vi y)<|.c (di (AL x y)) .r) (Y ((k:Int)<(I (U vi a):Int))=J/\0<=(k:Int)/\(U vi a)[Z (k:Int)]?=G (vi x)/\0<=(k:Int)/\(U vi b)[Z (k:Int)]?=G (vi y)/\_/\0<=(k:Int)/\(U vi a)[Z (k:Int)]?=G (vi x)/\0<=(k:Int)/\(U vi b)[Z (k:Int)]?=G (vi y)/\_/\Q (di (AL x y))) ⟨HC (by rw[H9];omega),by omega,Am hx,by omega,Am hy,he,by omega,Am hx,by omega,Am hy,GM x y,rfl⟩
  ·have e:x=y:=by simpa using he
   rw[HV (by rw[e];exact JG.refl _ trivial)]
   exact lv 40 [] (.t<|.x (vi x)<|.x (vi y)<|.f<|.l (n5 k)) (Y ((k:Int)<(I (U vi a):Int))=J/\0<=(k:Int)/\(U vi a)[Z (k:Int)]?=G (vi x)/\0<=(k:Int)/\(U vi b)[Z (k:Int)]?=G (vi y)/\(x !=y)=O/\di (yu yt ((k:Int)+1))=di (↑(k+1):Int)/\_) ⟨HC (by rw[H9];omega),by omega,Am hx,by omega,Am hy,HM he,Ae,iK (ih (k+1) (by omega) (by omega))⟩
theorem GT(a b:List Int)(ha:I a<=1000000):F0 228 [cw a,cw b] (di (A5 a b)):=by
 rw[AfY]
 by_cases h:(I a:Int)=I b
 ·rw[HV h]
  have hlp:=VM a b (by omega) ha _ 0 rfl (Ik _)
  exact sv Nm 40 [] (.f<|.l sd) (((I (U vi a):Int) !=(I (U vi b):Int))=O/\Q (di 0)/\_) ⟨by rw[H9,H9,h];exact bne_self_eq_false _,rfl,iK hlp⟩
 ·rw[HR h]
  exact sv Nm 40 [] (.t<|.c (di (AL (I a) (I b))) .r) (((I (U vi a):Int) !=(I (U vi b):Int))=J/\F0 23 [di (I (U vi a):Int),di (I (U vi b):Int)] (di (AL (I a:Int) (I b:Int)))/\Q (di (AL (I a:Int) (I b:Int)))) ⟨by rw[H9,H9];exact bne_iff_ne.2 h,by rw[H9,H9];exact GM _ _,rfl⟩
noncomputable abbrev Ai4:=Tryz.f229
theorem MH(a b:List Int)(ha:I a<=1000000):F0 229 [cw a,cw b] (db (A5 a b==0)):=by
 exact sv Ai4 9 [] (.c (di (A5 a b)) .r) (_/\Q (db (A5 a b==0))) ⟨GT a b ha,rfl⟩
section
variable {α : Type} {c : α -> α -> Int}
def AX(c:α->α->Int)(v:α):List α->Nat
 |[]=>0
 |x::l=>if c x v<0 then AX c v l+1 else 0
theorem Yg(v:α):∀l:List α,AX c v l<=I l
 |[]=>HH _
 |x::l=>by
  have:=Yg v l
  unfold AX;split<;>simp only[HF]<;>omega
theorem Yf(v:α):∀(l:List α) (k:Nat),k<AX c v l->∃x,l[k]?=G x/\c x v<0
 |[],k,h=>by simp[AX] at h
 |x::l,k,h=>by
  unfold AX at h
  split at h
  ·rename_i hx
   cases k with
   |zero=>exact⟨x,rfl,hx⟩
   |succ k=>exact Yf v l k (by omega)
  ·omega
theorem Yh(v:α):∀(l:List α) (x:α),l[AX c v l]?=G x->¬c x v<0
 |[],x,h=>by simp at h
 |y::l,x,h=>by
  unfold AX at h
  split at h
  ·exact Yh v l x (by simpa using h)
  ·rename_i hy
   simp at h;subst h;exact hy
theorem P8(v:α):∀l:List α,l[AX c v l]?=none->CO c l v=l.take (AX c v l)++v::l.drop (AX c v l)
 |[],_=>rfl
 |x::l,h=>by
  unfold CO AX at*
  by_cases h1:c x v<0
  ·rw[HV h1] at h⊢
   rw[HV h1,P8 v l (by simpa using h)];rfl
  ·rw[HR h1] at h;simp at h
theorem P7(v x:α):∀l:List α,l[AX c v l]?=G x->c x v=0->CO c l v=l
 |[],h,_=>by simp at h
 |y::l,h,h0=>by
  unfold CO AX at*
  by_cases h1:c y v<0
  ·rw[HV h1] at h⊢
   rw[P7 v x l (by simpa using h) h0]
  ·rw[HR h1] at h⊢
   simp at h;subst h
   rw[HV h0]
theorem SA(v x:α):∀l:List α,l[AX c v l]?=G x->¬c x v=0->CO c l v=l.take (AX c v l)++v::l.drop (AX c v l)
 |[],h,_=>by simp at h
 |y::l,h,h0=>by
  unfold CO AX at*
  by_cases h1:c y v<0
  ·rw[HV h1] at h⊢
   rw[HV h1,SA v x l (by simpa using h) h0];rfl
  ·rw[HR h1] at h⊢
   simp at h;subst h
   rw[HR h0,HR h1];rfl
end
noncomputable abbrev Qg:=Tryz.f186
noncomputable def N9:=yl Qg
theorem Xv(l:List (List Int)):∀x∈l.map cz,x.size=1:=fun x hx=>by obtain⟨y,_,rfl⟩:=Is.1 hx;rfl
theorem Xu(l:List (List Int))(i j:Nat):∀x∈ ((l.map cz).take j).drop i,x.size=1:=fun x hx=>Xv l x (IR (I1 hx))
theorem P9(l:List (List Int))(v:List Int)(k:Nat):bt (ai (W 0 (take ((k:Nat):Int).toNat (l.map cz))++[cz v]++W ((k:Nat):Int).toNat (take (I (l.map cz)) (l.map cz))))=dl ((l.take k++v::l.drop k).map cz):=by
 rw[Jk,List.take_length];simp[map_take,map_drop]
theorem UP(l:List (List Int))(v:List Int)(hl:I l<=100000)(hs:∀x∈l,I x<=1000)(hv:I v<=1000)(n:Nat):∀k:Nat,AX A5 v l-k=n->k<=AX A5 v l->
  Rn PP Qg 0 (dl ((CO A5 l v).map cz)) bd ([kl N9 [1,1,0,0,0],.blk 0,kc N9 [1,1,1]]++[]) (ba 46 [(0,dl (l.map cz)),(1,cw v),(5,di k)]) bd:=by
 have hil:=Yg (c:=A5) v l
 induction n with
 |zero=>
  intro k hn hk0
  have hk:k=AX A5 v l:=by omega
  subst hk
  cases hx:l[AX A5 v l]? with
  |none=>
   have hlt:I l<=AX A5 v l:=List.getElem?_eq_none_iff.1 hx
   rw[P8 v l hx]
   refine lv 46 [] (.f<|.k<|.f<|.k<|.a 1<|.w<|.c (cw v)<|.w<|.w<|.r) (Y ((↑(AX A5 v l):Int)<(I (U cz l):Int))=O/\Y ((↑(AX A5 v l):Int)<(I (U cz l):Int))=O/\(∀(x:V),x∈U cz l->V.size x=1)/\0<=(fun x=>x.snd) (yt,(↑(AX A5 v l):Int))/\(fun x=>x.snd) (yt,(↑(AX A5 v l):Int))<=(I (U cz l):Int)/\Ao (I (W 0 (take (Z ((fun x=>x.snd) (yt,(↑(AX A5 v l):Int)))) (U cz l)))) 24/\(∀(y:V),y∈W 0 (take (Z ((fun x=>x.snd) (yt,(↑(AX A5 v l):Int)))) (U cz l))->V.size y=1)/\F0 66 [cw v] (cw v)/\Q (W 0 (take (Z ((fun x=>x.snd) (yt,(↑(AX A5 v l):Int)))) (U cz l)))/\Ao (I (W 0 (take (Z ((fun x=>x.snd) (yt,(↑(AX A5 v l):Int)))) (U cz l)))+I (cz v::nV)) 24/\(∀(y:V),y∈ [cz v]->V.size y=1)/\(∀(x:V),x∈U cz l->V.size x=1)/\0<=(fun x=>x.snd) (yt,(↑(AX A5 v l):Int))/\(fun x=>x.snd) (yt,(↑(AX A5 v l):Int))<=(I (U cz l):Int)/\Q (W 0 (take (Z ((fun x=>x.snd) (yt,(↑(AX A5 v l):Int)))) (U cz l))++cz v::nV)/\Ao (I (W 0 (take (Z ((fun x=>x.snd) (yt,(↑(AX A5 v l):Int)))) (U cz l))++cz v::nV)+I (W (Z ((fun x=>x.snd) (yt,(↑(AX A5 v l):Int)))) (take (I (U cz l)) (U cz l)))) 24/\(∀(y:V),y∈W (Z ((fun x=>x.snd) (yt,(↑(AX A5 v l):Int)))) (take (I (U cz l)) (U cz l))->V.size y=1)/\bt (ai (W 0 (take (Z ((fun x=>x.snd) (yt,(↑(AX A5 v l):Int)))) (U cz l))++[cz v]++W (Z ((fun x=>x.snd) (yt,(↑(AX A5 v l):Int)))) (take (I (U cz l)) (U cz l))))=dl (U cz (take (AX A5 v l) l++v::W (AX A5 v l) l))) ?_
   have z0:(0:Int)<=(AX A5 v l:Int):=by omega
   have z1:(AX A5 v l:Int)<=(I (l.map cz):Int):=by rw[H9];omega
   have z2:∀y∈ [cz v],y.size=1:=fun y hy=>by rw[HQ.1 hy];rfl
   repeat' first|with_reducible refine And.intro ?_ ?_
   all_goals first|exact HE (by rw[H9];omega)|exact Xv l|exact Xu l _ _|exact z2|exact Kq v (by omega)|exact z0|exact z1|exact Ik _|rfl|(simp only[HO,IF,Ig,H9,HF,HJ];omega)|exact P9 l v _
  |some x=>
   have hlt:=(HD.1 hx).1
   have hc:=Yh v l x hx
   have hsz:=hs x (HG hx)
   have z0':(0:Int)<=(AX A5 v l:Int):=by omega
   by_cases he:(A5 x v==0)=J
   ·rw[P7 v x l hx (by simpa using he)]
    exact lv 46 [] (.t<|.x (cz x)<|.c (di (A5 x v))<|.f<|.t<|.x (cz x)<|.c (db (A5 x v==0))<|.t<|.r) (Y ((↑(AX A5 v l):Int)<(I (U cz l):Int))=J/\_/\(U cz l)[Z (↑(AX A5 v l):Int)]?=G (cz x)/\_/\Y (A5 x v<0)=O/\Y ((↑(AX A5 v l):Int)<(I (U cz l):Int))=J/\_/\(U cz l)[Z (↑(AX A5 v l):Int)]?=G (cz x)/\_/\_/\bt (j1 l)=dl (U cz l)) ⟨HC (by rw[H9];omega),z0',by rw[II,Ir,hx];rfl,GT x v (by omega),HE hc,HC (by rw[H9];omega),z0',by rw[II,Ir,hx];rfl,MH x v (by omega),he,rfl⟩
   ·have he2:(A5 x v==0)=O:=by simpa using he
    rw[SA v x l hx (by simpa using he)]
    refine lv 46 [] (.t<|.x (cz x)<|.c (di (A5 x v))<|.f<|.t<|.x (cz x)<|.c (db (A5 x v==0))<|.f<|.a 1<|.w<|.c (cw v)<|.w<|.w<|.r) (Y ((↑(AX A5 v l):Int)<(I (U cz l):Int))=J/\0<=(↑(AX A5 v l):Int)/\(U cz l)[Z (↑(AX A5 v l):Int)]?=G (cz x)/\F0 228 [cw x,cw v] (di (A5 x v))/\Y (A5 x v<0)=O/\Y ((↑(AX A5 v l):Int)<(I (U cz l):Int))=J/\0<=(↑(AX A5 v l):Int)/\(U cz l)[Z (↑(AX A5 v l):Int)]?=G (cz x)/\F0 229 [cw x,cw v] (db (A5 x v==0))/\(A5 x v==0)=O/\(∀(x:V),x∈U cz l->V.size x=1)/\0<=(fun x=>x.snd) (yt,(↑(AX A5 v l):Int))/\(fun x=>x.snd) (yt,(↑(AX A5 v l):Int))<=(I (U cz l):Int)/\Ao (I (W 0 (take (Z ((fun x=>x.snd) (yt,(↑(AX A5 v l):Int)))) (U cz l)))) 24/\(∀(y:V),y∈W 0 (take (Z ((fun x=>x.snd) (yt,(↑(AX A5 v l):Int)))) (U cz l))->V.size y=1)/\F0 66 [cw v] (cw v)/\Q (W 0 (take (Z ((fun x=>x.snd) (yt,(↑(AX A5 v l):Int)))) (U cz l)))/\Ao (I (W 0 (take (Z ((fun x=>x.snd) (yt,(↑(AX A5 v l):Int)))) (U cz l)))+I (cz v::nV)) 24/\(∀(y:V),y∈ [cz v]->V.size y=1)/\(∀(x:V),x∈U cz l->V.size x=1)/\0<=(fun x=>x.snd) (yt,(↑(AX A5 v l):Int))/\(fun x=>x.snd) (yt,(↑(AX A5 v l):Int))<=(I (U cz l):Int)/\Q (W 0 (take (Z ((fun x=>x.snd) (yt,(↑(AX A5 v l):Int)))) (U cz l))++cz v::nV)/\Ao (I (W 0 (take (Z ((fun x=>x.snd) (yt,(↑(AX A5 v l):Int)))) (U cz l))++cz v::nV)+I (W (Z ((fun x=>x.snd) (yt,(↑(AX A5 v l):Int)))) (take (I (U cz l)) (U cz l)))) 24/\(∀(y:V),y∈W (Z ((fun x=>x.snd) (yt,(↑(AX A5 v l):Int)))) (take (I (U cz l)) (U cz l))->V.size y=1)/\bt (ai (W 0 (take (Z ((fun x=>x.snd) (yt,(↑(AX A5 v l):Int)))) (U cz l))++[cz v]++W (Z ((fun x=>x.snd) (yt,(↑(AX A5 v l):Int)))) (take (I (U cz l)) (U cz l))))=dl (U cz (take (AX A5 v l) l++v::W (AX A5 v l) l))) ?_
    have z0:(0:Int)<=(AX A5 v l:Int):=by omega
    have z1:(AX A5 v l:Int)<=(I (l.map cz):Int):=by rw[H9];omega
    have z2:∀y∈ [cz v],y.size=1:=fun y hy=>by rw[HQ.1 hy];rfl
    have z3:(l.map cz)[Z ((AX A5 v l:Nat):Int)]?=G (cz x):=by rw[II,Ir,hx];rfl
    repeat' first|with_reducible refine And.intro ?_ ?_
    all_goals first|exact HC (by rw[H9];omega)|exact z3|exact GT x v (by omega)|exact HE hc|exact MH x v (by omega)|exact he2|exact Xv l|exact Xu l _ _|exact z2|exact Kq v (by omega)|exact z0|exact z1|exact Ik _|rfl|(simp only[HO,IF,Ig,H9,HF,HJ];omega)|exact P9 l v _
 |succ n ih=>
  intro k hn hk0
  obtain⟨x,hx,hc⟩:=Yf (c:=A5) v l k (by omega)
  have hlt:=(HD.1 hx).1
  have hsz:=hs x (HG hx)
  exact lv 46 [] (.t<|.x (cz x)<|.c (di (A5 x v))<|.t<|.l (n5 k)) (Y ((k:Int)<(I (U cz l):Int))=J/\0<=(k:Int)/\(U cz l)[Z (k:Int)]?=G (cz x)/\_/\Y (A5 x v<0)=J/\di (yu yt ((k:Int)+1))=di (↑(k+1):Int)/\_) ⟨HC (by rw[H9];omega),by omega,by rw[II,Ir,hx];rfl,GT x v (by omega),HC hc,Ae,iK (ih (k+1) (by omega) (by omega))⟩
theorem MO(l:List (List Int))(v:List Int)(hl:I l<=100000)(hs:∀x∈l,I x<=1000)(hv:I v<=1000):F0 186 [dl (l.map cz),cw v] (dl ((CO A5 l v).map cz)):=by
 exact sv Qg 46 [] (.l sd) (Q (di 0)/\_) ⟨rfl,iK (UP l v hl hs hv _ 0 rfl (Ik _))⟩
noncomputable abbrev Qc:=Tryz.f185
noncomputable def N4:=yl Qc
theorem TY(w:List Int)(hw:I w<=12)(hx:∀x∈w,0<=x/\x<16)(n:Nat):∀k:Nat,I w-k=n->
  Rn PP Qc 0 (db J) bd ([kl N4 [1,0,1,0,0],.blk 0,kc N4 [1,1]]++[]) (ba 25 [(0,cw w),(3,di k)]) bd:=by
 induction n with
 |zero=>
  intro k hn
  exact lv 25 [] (.f .r) (Y ((k:Int)<(I (U vi w):Int))=O/\db (Y ((I (U vi w):Int)<=12))=db J) ⟨HE (by rw[H9];omega),HX db (HC (by rw[H9];omega))⟩
 |succ n ih=>
  intro k hn
  obtain⟨x,hxk⟩:=yk (show k<I w by omega)
  have hb:=hx x (HG hxk)
  exact lv 25 [] (.t<|.x (vi x)<|.f<|.x (vi x)<|.f<|.l [ke 0,ch 3 (di (k+1:Nat))]) (Y ((k:Int)<(I (U vi w):Int))=J/\0<=(k:Int)/\(U vi w)[Z (k:Int)]?=G (vi x)/\Y (x<0)=O/\0<=(k:Int)/\(U vi w)[Z (k:Int)]?=G (vi x)/\Y (x>=16)=O/\di (yu yt ((k:Int)+1))=di (↑(k+1):Int)/\_) ⟨HC (by rw[H9];omega),by omega,Am hxk,yq,by omega,Am hxk,yq,Ae,iK (ih (k+1) (by omega))⟩
theorem M9(w:List Int)(hw:I w<=12)(hx:∀x∈w,0<=x/\x<16):F0 185 [cw w] (db J):=by
 exact sv Qc 25 [] (.l [ke 0,ch 3 (di (0:Nat))]) (Q (di 0)/\_) ⟨rfl,iK (TY w hw hx _ 0 rfl)⟩
noncomputable abbrev Air:=Tryz.f187
theorem M7(w:List Int)(hw:I w<=1000)(i:Nat)(hi:i<I w):F0 187 [cw w,di i] (cw (fp w i)):=by
 refine sv Air 14 [] (.a 1<|.w<|.w .r) ((∀(x:V),x∈U vi w->V.size x=1)/\0<=(fun x=>x.snd) (ec i)/\(fun x=>x.snd) (ec i)<=(I (U vi w):Int)/\Ao (I (W 0 (take (Z ((fun x=>x.snd) (ec i))) (U vi w)))) 8/\(∀(y:V),y∈W 0 (take (Z ((fun x=>x.snd) (ec i))) (U vi w))->V.size y=1)/\(∀(x:V),x∈U vi w->V.size x=1)/\0<=(fun x=>x.snd) (yt,yu yt ((i:Int)+1))/\(fun x=>x.snd) (yt,yu yt ((i:Int)+1))<=(I (U vi w):Int)/\Q (W 0 (take (Z ((fun x=>x.snd) (ec i))) (U vi w)))/\Ao (I (W 0 (take (Z ((fun x=>x.snd) (ec i))) (U vi w)))+I (W (Z ((fun x=>x.snd) (yt,yu yt ((i:Int)+1)))) (take (I (U vi w)) (U vi w)))) 8/\(∀(y:V),y∈W (Z ((fun x=>x.snd) (yt,yu yt ((i:Int)+1)))) (take (I (U vi w)) (U vi w))->V.size y=1)/\bt (ai (W 0 (take (Z ((fun x=>x.snd) (ec i))) (U vi w))++W (Z ((fun x=>x.snd) (yt,yu yt ((i:Int)+1)))) (take (I (U vi w)) (U vi w))))=cw (fp w i)) ?_
 have hw1:yt.wrap ((i:Int)+1)=((i+1:Nat):Int):=by rw[Al];omega
 rw[hw1]
 have hv:=Hy w
 have z1:(0:Int)<=((i:Nat):Int):=by omega
 have z2:((i:Nat):Int)<=(I (w.map vi):Int):=by rw[H9];omega
 have z3:(0:Int)<=((i+1:Nat):Int):=by omega
 have z4:((i+1:Nat):Int)<=(I (w.map vi):Int):=by rw[H9];omega
 have e:bt (ai (W 0 (take (Z ((i:Nat):Int)) (w.map vi))++W (Z ((i+1:Nat):Int)) (take (I (w.map vi)) (w.map vi))))=cw (fp w i):=by
  rw[Jk,List.take_length,II,II, ←map_take, ←map_drop, ←IQ];rfl
 have hm:∀y∈W 0 (take (Z ((i:Nat):Int)) (w.map vi)),V.size y=1:=fun y hy=>hv y (IR (I1 hy))
 have hm2:∀y∈W (Z ((i+1:Nat):Int)) (take (I (w.map vi)) (w.map vi)),V.size y=1:=fun y hy=>hv y (IR (I1 hy))
 have l1:I (W 0 (take (Z ((i:Nat):Int)) (w.map vi)))<=1000:=by simp only[IF,Ig,H9];omega
 have l2:I (W (Z ((i+1:Nat):Int)) (take (I (w.map vi)) (w.map vi)))<=1000:=by simp only[IF,Ig,H9];omega
 have k1:∀n:Nat,n<=2000->Ao n 8:=fun n hn=>⟨by omega,by omega⟩
 exact⟨hv,z1,z2,k1 _ (I6 l1 (by decide)),hm,hv,z3,z4,rfl,k1 _ (I6 (Nat.add_le_add l1 l2) (by decide)),hm2,e⟩
noncomputable abbrev Qj:=Tryz.f136
noncomputable def NC:=yl Qj
abbrev W2(w:List Int)(k:Nat):List (List Int):=(Cs w k).foldl (CO A5) []
theorem Aa0(w:List Int)(k:Nat):W2 w (k+1)=CO A5 (W2 w k) (fp w k):=by rw[W2,M8,List.foldl_append];rfl
theorem Wp{w:List Int}(hw:I w<=12)(k:Nat):I (W2 w k)<=k/\∀v∈W2 w k,I v<=12:=by
 rw[W2,Jw]
 have:=KG (Cs w k)
 rw[Jx] at this
 exact⟨this,fun v hv=>NR hw (((DT _).2 v).1 hv)⟩
theorem VB(w:List Int)(hw:I w<=12)(hx:∀x∈w,0<=x/\x<16)(n:Nat):∀k:Nat,I w-k=n->k<=I w->
  Rn PP Qj 0 (dl ((C4 (Cs w (I w))).map cz)) bd ([kl NC [1,1,0,1,0,0],.blk 0,kc NC [1,1,1]]++[]) (ba 21 [(0,cw w),(3,dl ((W2 w k).map cz)),(4,di k)]) bd:=by
 induction n with
 |zero=>
  intro k hn hk
  rw[←Jw,show I w=k by omega,show(Cs w k).foldl (CO A5) []=W2 w k from rfl]
  have hv:=M9 w hw hx
  generalize W2 w k=ws
  exact lv 21 [] (.c (db J)<|.k<|.f .r) (_/\Y ((k:Int)<(I (U vi w):Int))=O/\bt (j1 ws)=dl (U cz ws)) ⟨hv,HE (by rw[H9];omega),rfl⟩
 |succ n ih=>
  intro k hn hk
  have ih':=ih (k+1) (by omega) (by omega)
  rw[Aa0] at ih'
  obtain⟨t1,t2⟩:=Wp hw k
  have hp:=MO (W2 w k) (fp w k) (by omega) (fun x hx=>by have:=t2 x hx;omega) (by have:=OK w k;omega)
  generalize W2 w k=ws at ih' hp⊢
  generalize C4 (Cs w (I w))=out at ih'⊢
  exact lv 21 [] (.c (db J)<|.k<|.t<|.c (cw (fp w k))<|.c (dl ((CO A5 ws (fp w k)).map cz))<|.l [ke 0,ch 3 (dl ((CO A5 ws (fp w k)).map cz)),ch 4 (di (k+1:Nat))]) (_/\Y ((k:Int)<(I (U vi w):Int))=J/\_/\_/\Q (dl (U cz (CO A5 ws (fp w k))))/\di (yu yt ((k:Int)+1))=di (↑(k+1):Int)/\_) ⟨M9 w hw hx,HC (by rw[H9];omega),M7 w (by omega) k (by omega),hp,rfl,Ae,iK ih'⟩
theorem VA(w:List Int)(hw:I w<=12)(hx:∀x∈w,0<=x/\x<16):F0 136 [cw w] (dl ((C4 (Cs w (I w))).map cz)):=by
 have h:=VB w hw hx _ 0 rfl (Ik _)
 rw[show W2 w 0=[] from rfl] at h
 generalize C4 (Cs w (I w))=out at h⊢
 exact sv Qj 21 [] (.h (.q 2 0)<|.h (.ct 3 (dl []) bd)<|.l [ke 0,ke 3,ch 4 (di (0:Nat))]) ((∀(e:List D),e[3]?=G (dn)->∀(E:cf) (g:Gh) (a:Act) (w:x5),FI E g bd e a w->∃g',FI E g' bd (List.set e 3 (dl [])) a w)/\Q (di 0)/\_) ⟨fun e he=>ZE e he,rfl,iK h⟩
noncomputable abbrev Qb:=Tryz.f188
noncomputable def N3:=yl Qb
theorem TX(rk w:List Int)(hr:CM rk=J)(hw:I w<=12)(hrl:I rk<=1000)(hx:∀x∈w,0<=x/\x<I rk)(n:Nat):∀k:Nat,I w-k=n->
  Rn PP Qb 0 (db J) bd ([kl N3 [1,0,1,0,0],.blk 0,kc N3 [1,1]]++[]) (ba 33 [(0,cw rk),(1,cw w),(5,di k)]) bd:=by
 induction n with
 |zero=>
  intro k hn
  exact lv 33 [] (.f<|.c (db J) .r) (Y ((k:Int)<(I (U vi w):Int))=O/\_/\db (Y ((I (U vi w):Int)<=12))=db J) ⟨HE (by rw[H9];omega),MJ rk hr,HX db (HC (by rw[H9];omega))⟩
 |succ n ih=>
  intro k hn
  obtain⟨x,hxk⟩:=yk (show k<I w by omega)
  have hb:=hx x (HG hxk)
  exact lv 33 [] (.t<|.x (vi x)<|.f<|.x (vi x)<|.f<|.l (n5 k)) (Y ((k:Int)<(I (U vi w):Int))=J/\0<=(k:Int)/\(U vi w)[Z (k:Int)]?=G (vi x)/\Y (x<0)=O/\0<=(k:Int)/\(U vi w)[Z (k:Int)]?=G (vi x)/\Y (x>=(I (U vi rk):Int))=O/\di (yu yt ((k:Int)+1))=di (↑(k+1):Int)/\_) ⟨HC (by rw[H9];omega),by omega,Am hxk,yq,by omega,Am hxk,HE (by rw[H9];omega),Ae,iK (ih (k+1) (by omega))⟩
theorem TW(rk w:List Int)(hr:CM rk=J)(hw:I w<=12)(hrl:I rk<=1000)(hx:∀x∈w,0<=x/\x<I rk):F0 188 [cw rk,cw w] (db J):=by
 exact sv Qb 33 [] (.l sd) (Q (di 0)/\_) ⟨rfl,iK (TX rk w hr hw hrl hx _ 0 rfl)⟩
noncomputable abbrev Nl:=Tryz.f137
noncomputable def KA:=yl Nl
abbrev EX(rk w:List Int)(k:Nat):List (List Int):=(Ca rk w k).foldl (CO A5) []
theorem Aa1{rk w:List Int}{k:Nat}(h:pc rk w k=J):EX rk w (k+1)=CO A5 (EX rk w k) (fp w k):=by rw[EX,LI h,List.foldl_append];rfl
theorem Aec{rk w:List Int}{k:Nat}(h:pc rk w k=O):EX rk w (k+1)=EX rk w k:=by rw[EX,Ot h]
theorem RR{rk w:List Int}(hw:I w<=12)(k:Nat):I (EX rk w k)<=k/\∀v∈EX rk w k,I v<=12:=by
 rw[EX,Jw]
 have:=KG (Ca rk w k)
 have:=LJ rk w k
 exact⟨by omega,fun v hv=>Ou hw (((DT _).2 v).1 hv)⟩
theorem V9(rk w:List Int)(hr:CM rk=J)(hw:I w<=12)(hrl:I rk<=1000)(hx:∀x∈w,0<=x/\x<I rk)(n:Nat):∀k:Nat,I w-1-k=n->k<=I w-1->
  Rn PP Nl 0 (dl ((C4 (Ca rk w (I w-1))).map cz)) bd ([kl KA [1,1,0,1,0,0],.blk 0,kc KA [1,1,1]]++[]) (ba 41 [(0,cw rk),(1,cw w),(5,dl ((EX rk w k).map cz)),(6,di k)]) bd:=by
 have hv:=TW rk w hr hw hrl hx
 induction n with
 |zero=>
  intro k hn hk
  rw[←Jw,show I w-1=k by omega,show(Ca rk w k).foldl (CO A5) []=EX rk w k from rfl]
  generalize EX rk w k=ws
  exact lv 41 [] (.c (db J)<|.k<|.f .r) (_/\Y (yu yt ((k:Int)+1)<(I (U vi w):Int))=O/\bt (j1 ws)=dl (U cz ws)) ⟨hv,HE (by rw[H9,NP k (by omega)];omega),rfl⟩
 |succ n ih=>
  intro k hn hk
  have ih':=ih (k+1) (by omega) (by omega)
  obtain⟨x,hx1⟩:=yk (show k<I w by omega)
  obtain⟨y,hy1⟩:=yk (show k+1<I w by omega)
  have bx:=hx x (HG hx1)
  have bY:=hx y (HG hy1)
  obtain⟨rx,hrx⟩:=yk (show x.toNat<I rk by omega)
  obtain⟨ry,hry⟩:=yk (show y.toNat<I rk by omega)
  have hpc:=xn hx1 hy1 hrx hry
  obtain⟨t1,t2⟩:=RR (rk:=rk) hw k
  by_cases hc:Y (rx<=ry)=J
  ·rw[Aa1 (hpc.trans hc)] at ih'
   have hp:=MO (EX rk w k) (fp w k) (by omega) (fun x hx=>by have:=t2 x hx;omega) (by have:=OK w k;omega)
   generalize EX rk w k=ws at ih' hp⊢
   generalize C4 (Ca rk w (I w-1))=out at ih'⊢
   refine lv 41 [] (.c (db J)<|.k<|.t<|.x (vi x)<|.x (vi rx)<|.x (vi y)<|.x (vi ry)<|.t<|.c (cw (fp w k))<|.c (dl ((CO A5 ws (fp w k)).map cz))<|.l [ke 0,ke 1,ch 5 (dl ((CO A5 ws (fp w k)).map cz)),ch 6 (di (k+1:Nat))]) (F0 188 [cw rk,cw w] (db J)/\Y (yu yt ((k:Int)+1)<(I (U vi w):Int))=J/\0<=(k:Int)/\(U vi w)[Z (k:Int)]?=G (vi x)/\0<=x/\(U vi rk)[Z x]?=G (vi rx)/\0<=yu yt ((k:Int)+1)/\(U vi w)[Z (yu yt ((k:Int)+1))]?=G (vi y)/\0<=y/\(U vi rk)[Z y]?=G (vi ry)/\Y (rx<=ry)=J/\F0 187 [cw w,di (k:Int)] (cw (fp w k))/\F0 186 [bt (j1 ws),bt (cz (fp w k))] (dl (U cz (CO A5 ws (fp w k))))/\Q (dl (U cz (CO A5 ws (fp w k))))/\di (yu yt ((k:Int)+1))=di (↑(k+1):Int)/\I0 Nl 0 (dl (U cz out)) bd [kl KA d5,bh 0,kc KA [1,1,1]] (ba 41 [(0,cw rk),(1,cw w),(5,dl (U cz (CO A5 ws (fp w k)))),(6,di (↑(k+1):Int))]) dh) ?_
   rw[NP k (by omega)]
   exact⟨hv,HC (by rw[H9];omega),by omega,Am hx1,bx.1,D1 bx.1 hrx,by omega,Am hy1,bY.1,D1 bY.1 hry,hc,M7 w (by omega) k (by omega),hp,rfl,rfl,⟨ih'⟩⟩
  ·rw[Aec (hpc.trans (HM hc))] at ih'
   generalize EX rk w k=ws at ih'⊢
   generalize C4 (Ca rk w (I w-1))=out at ih'⊢
   refine lv 41 [] (.c (db J)<|.k<|.t<|.x (vi x)<|.x (vi rx)<|.x (vi y)<|.x (vi ry)<|.f<|.l (me k)) (F0 188 [cw rk,cw w] (db J)/\Y (yu yt ((k:Int)+1)<(I (U vi w):Int))=J/\0<=(k:Int)/\(U vi w)[Z (k:Int)]?=G (vi x)/\0<=x/\(U vi rk)[Z x]?=G (vi rx)/\0<=yu yt ((k:Int)+1)/\(U vi w)[Z (yu yt ((k:Int)+1))]?=G (vi y)/\0<=y/\(U vi rk)[Z y]?=G (vi ry)/\Y (rx<=ry)=O/\di (yu yt ((k:Int)+1))=di (↑(k+1):Int)/\I0 Nl 0 (dl (U cz out)) bd [kl KA d5,bh 0,kc KA [1,1,1]] (ba 41 [(0,cw rk),(1,cw w),(5,bt (j1 ws)),(6,di (↑(k+1):Int))]) dh) ?_
   rw[NP k (by omega)]
   exact⟨hv,HC (by rw[H9];omega),by omega,Am hx1,bx.1,D1 bx.1 hrx,by omega,Am hy1,bY.1,D1 bY.1 hry,HM hc,rfl,⟨ih'⟩⟩
theorem V8(rk w:List Int)(hr:CM rk=J)(hw:I w<=12)(hrl:I rk<=1000)(hx:∀x∈w,0<=x/\x<I rk):F0 137 [cw rk,cw w] (dl ((C4 (Ca rk w (I w-1))).map cz)):=by
 have h:=V9 rk w hr hw hrl hx _ 0 rfl (Ik _)
 rw[show EX rk w 0=[] from rfl] at h
 generalize C4 (Ca rk w (I w-1))=out at h⊢
 exact sv Nl 41 [] (.h (.q 2 0)<|.h (.ct 5 (dl []) bd)<|.l [ke 0,ke 1,ke 5,ch 6 (di (0:Nat))]) ((∀(e:List D),e[5]?=G (dn)->∀(E:cf) (g:Gh) (a:Act) (w:x5),FI E g bd e a w->∃g',FI E g' bd (List.set e 5 (dl [])) a w)/\Q (di 0)/\_) ⟨fun e he=>ZE e he,rfl,iK h⟩
end Go.Proofs.YtfhgjfkleggjfaaGreatDoor
