/-
  A part of the proof.
-/
import Derived.Test.YtfhgjfkleggjfaaGreatDoorZi
import Derived.Test.YtfhgjfkleggjfaaGreatDoorZd
namespace Go.Proofs.YtfhgjfkleggjfaaGreatDoor
open Go.Dv Go.Nv
set_option maxRecDepth 20000
open Go.IntKind (u64)
open Go.IntKind renaming wrap → yu, i64 → yt
open List renaming length → I, map → U, drop → W
open Option renaming some → G
open Bool renaming true → J, false → O
open Decidable renaming decide → Y
open Int renaming toNat → Z
open Go.Dv.V renaming list → ai, str → ae, agg → ab, int → aa, ref → bz, fn → bw, nils → bv, bool → bu
open Go.Dv.D renaming v → bt, acc → br, ptr → bq, arr → bo, gro → bm, tup → bl, undef → bk, dagg → bj
open Go.Dv.St renaming mk → bi
open Go.Dv.KI renaming blk → bh
open _root_.ByteArray renaming mk → bf
open Go renaming Operand → x8, Program → x7, TypeId → x6, World → x5, Value → yz, Oper → yy, FuncId → yx, Func → yw, IntKind → yv
noncomputable abbrev QH:=Tryz.f3
noncomputable def DR:=yl QH
abbrev RN(m:b9):List D:=[di m.kind,.v (co m.aw),.v (co m.ay),.v (co m.ax),.v (cz m.au),di m.ao,di m.age,.v (Dq m.av),di m.start.n,cx m.start.az]
abbrev G8(l:List UInt8)(a:Nat)(m:b9)(c:bc):St:=⟨[G (cr l a),G (RN m),G [di c.n,cx c.az]],[]⟩
noncomputable abbrev oz:=fun a₀ b₀ c₀ d₀ e₀=>[G (cr a₀ b₀),G (RN c₀),G (c7 d₀ e₀)]
noncomputable abbrev va:=fun a₀=>[ke 4,ke 6,ke 7,ke 9,ke 66,ke 67,ch 68 (di (a₀+1:Nat))]
theorem Ae8(l:List UInt8)(n:Nat)(m:b9)(c:bc)(A B:List bc)(hA:I A<=1000)(hs:∀x∈A,x.size<=1000)(k:Nat)(hk:k<1000)(ho:Rn PP QH 0 (db J) bd ([kl DR [1,1,1,1,1,1,1,1,1,1,0,1,0,0],.blk 0,kc DR [1,1,1,1,1,1,1,1,1,1,1]]++[]) (ba 125 [(4,.ptr 1 0),(6,cx A),(7,db J),(9,cx B),(66,cx A),(67,di (I A)),(68,di (k+1:Nat))]) (G8 l n m c))
  (ss:List c8) (hss:I ss<=256) (hin:∀s∈ss,s.2∈A) (N:Nat):∀j:Nat,I ss-j=N->
  Rn PP QH 0 (db J) bd ([kl DR [1,1,1,1,1,1,1,1,1,1,0,1,0,0,1,1,0,0,1,1,1,1,1,0,0],.blk 2,.blk 1,kc DR [1,1,1,1,1,1,1,1,1,1,0,1,0,0,1,1,1],kl DR [1,1,1,1,1,1,1,1,1,1,0,1,0,0],.blk 0,kc DR [1,1,1,1,1,1,1,1,1,1,1]]++[]) (ba 125 [(4,.ptr 1 0),(6,cx A),(7,db J),(9,cx B),(17,di 0),(66,cx A),(67,di (I A)),(68,di k),(99,.v (Aw ss)),(100,di (I ss)),(101,di j)]) (G8 l n m c):=by
 induction N with
 |zero=>
  intro j hn
  exact lv 125 [] (.f<|.lo (va k) (G8 l n m c)) (Y ((j:Int)<(I ss:Int))=O/\di (yu yt ((k:Int)+1))=di (↑(k+1):Int)/\cm 3 [] (oz l n m c.n c.az)=J/\Q (G8 l n m c).H/\_) ⟨yq,by rw[Ae],rfl,rfl,iK ho⟩
 |succ N ih=>
  intro j hn
  obtain⟨s,hx⟩:=yk (show j<I ss by omega)
  have hi:=LY A (by omega) (fun x hx=>by have:=hs x hx;omega) s.2
  rw[(Lp A s.2).2 (hin s (HG hx))] at hi
  exact lv 125 [] (.t<|.x (d8 s)<|.k<|.c (db J)<|.k<|.lo [ke 4,ke 6,ke 7,ke 9,ke 17,ke 66,ke 67,ke 68,ke 99,ke 100,ch 101 (di (j+1:Nat))] (G8 l n m c)) (Y ((j:Int)<(I ss:Int))=J/\0<=(j:Int)/\(U d8 ss)[Z (j:Int)]?=G (d8 s)/\_/\di (yu yt ((j:Int)+1))=di (↑(j+1):Int)/\cm 3 [] (oz l n m c.n c.az)=J/\Q (G8 l n m c).H/\_) ⟨yr,by omega,Am hx,hi,by rw[Ae],rfl,rfl,iK (ih (j+1) (by omega))⟩
noncomputable abbrev Aqp:=fun a₀ b₀=>F0 10 [cx a₀,dV b₀] (db J)
noncomputable abbrev Aq6:=[kl DR [1,1,1,1,1,1,1,1,1,1,0,1,0,0],bh 0,kc DR [1,1,1,1,1,1,1,1,1,1,1]]
theorem Adm(l:List UInt8)(n:Nat)(m:b9)(hm:RV m)(c:bc)(F A B:List bc)(w:Bool)(hAF:A=sortV F)(hnd:F.Nodup)(hB:I B<=1000)(hBs:∀x∈B,x.size<=1000)(hl:I F<=1000)(hF:∀x∈F,TO m x)(hFB:∀x∈F,x∈B)(hcl:w=J->(∀x∈F,(AI m x).2=0/\∀s∈ (AI m x).1,s.2∈F)/\B.length=I A)(N:Nat):∀k:Nat,I A-k=N->
  Rn PP QH 0 (db J) bd ([kl DR [1,1,1,1,1,1,1,1,1,1,0,1,0,0],.blk 0,kc DR [1,1,1,1,1,1,1,1,1,1,1]]++[]) (ba 125 [(4,.ptr 1 0),(6,cx A),(7,db w),(9,cx B),(66,cx A),(67,di (I A)),(68,di k)]) (G8 l n m c):=by
 have hmem:∀z,z∈A↔z∈F:=fun z=>by rw[hAF];exact(A7 F).mem_iff
 have hlen:I A=I F:=by rw[hAF];exact(A7 F).length_eq
 have hsz:∀x∈A,x.size<=1000:=fun x hx=>by have:=F2 (hF x ((hmem x).1 hx));omega
 induction N with
 |zero=>
  intro k hn
  cases w with
  |false=>
   exact lv 125 [] (.f<|.k .r) (Y ((k:Int)<(I A:Int))=O/\Q (db J)) ⟨yq,rfl⟩
  |true=>
   exact lv 125 [] (.f<|.k<|.r) (Y ((k:Int)<(I A:Int))=O/\db ((I (U eV A):Int)==(I (U eV B):Int))=db J) ⟨yq,by rw[H9,H9,(hcl rfl).2,beq_self_eq_true]⟩
 |succ N ih=>
  intro k hn
  obtain⟨x,hx⟩:=yk (show k<I A by omega)
  have hxA:=HG hx
  have hxF:=(hmem x).1 hxA
  have hb:=LY B (by omega) (fun x hx=>by have:=hBs x hx;omega) x
  rw[(Lp B x).2 (hFB x hxF)] at hb
  have ih:=ih (k+1) (by omega)
  have hall:=hm.all22 (hF x hxF)
  have hst:=hm.steps.len x (hF x hxF)
  by_cases h0:k=0
  ·cases w with
   |false=>
    exact lv 125 [] (.t<|.h (.xs (Ac x))<|.c (db J)<|.k<|.f<|.k<|.t<|.lo (va k) (G8 l n m c)) (Y ((k:Int)<(I A:Int))=J/\Q 2/\0<=(k:Int)/\(U eV A)[Z (k:Int)]?=G (Ac x)/\_/\Y ((k:Int)>0)=O/\yp/\(!false)=J/\di (yu yt ((k:Int)+1))=di (↑(k+1):Int)/\cm 3 [] (oz l n m c.n c.az)=J/\Q (G8 l n m c).H/\_) ⟨yr,rfl,by omega,An hx,hb,yq,yn,rfl,by rw[Ae],rfl,rfl,iK ih⟩
   |true=>
    have hw:=hcl rfl
    have hin:=Ae8 l n m c A B (by omega) hsz k (by omega) ih (AI m x).1 hst (fun s hs=>(hmem _).2 ((hw.1 x hxF).2 s hs)) _ 0 rfl
    exact lv 125 [] (.t<|.h (.xs (Ac x))<|.c (db J)<|.k<|.f<|.k<|.f<|.c (e7 (AI m x))<|.lo [ke 4,ke 6,ke 7,ke 9,ch 17 (di 0),ke 66,ke 67,ke 68,ch 99 (.v (Aw (AI m x).1)),ch 100 (di (AI m x).1.length),ch 101 (di (0:Nat))] (G8 l n m c)) (Y ((k:Int)<(I A:Int))=J/\Q 2/\0<=(k:Int)/\(U eV A)[Z (k:Int)]?=G (Ac x)/\_/\Y ((k:Int)>0)=O/\yp/\(!true)=O/\_/\di (AI m x).snd=di 0/\Q (bt (Aw (AI m x).fst))/\di (I (U d8 (AI m x).fst):Int)=di (↑(I (AI m x).fst):Int)/\Q (di 0)/\cm 3 [] (oz l n m c.n c.az)=J/\Q (G8 l n m c).H/\_) ⟨yr,rfl,by omega,An hx,hb,yq,yn,rfl,hall,by rw[(hw.1 x hxF).1],rfl,by rw[H9],rfl,rfl,rfl,iK hin⟩
  ·obtain⟨y,hy⟩:=yk (show k-1<I A by omega)
   have hlt:=X4 (F:=F) hnd (i:=k-1) (a:=y) (b:=x) (by rw[←hAF];exact hy) (by rw[←hAF,show k-1+1=k by omega];exact hx)
   have hys:=hsz y (HG hy)
   have ew:yt.wrap ((k:Int)-1)=((k-1:Nat):Int):=by rw[Al];omega
   cases w with
   |false=>
    refine lv 125 [] (.t<|.h (.xs (Ac x))<|.c (db J)<|.k<|.t<|.h (.xs (Ac y))<|.c (di (Aq y x))<|.f<|.t<|.lo (va k) (G8 l n m c)) (Y ((k:Int)<(I A:Int))=J/\Q 2/\0<=(k:Int)/\(U eV A)[Z (k:Int)]?=G (Ac x)/\Aqp B x/\Y ((k:Int)>0)=J/\Q 2/\0<=yu yt ((k:Int)-1)/\(U eV A)[Z (yu yt ((k:Int)-1))]?=G (Ac y)/\ma y x/\yo/\Y (Aq y x>=0)=O/\(!false)=J/\di (yu yt ((k:Int)+1))=di (↑(k+1):Int)/\cm 3 [] (oz l n m c.n c.az)=J/\Q (G8 l n m c).H/\I0 QH 0 (db J) bd Aq6 (ba 125 [qu,(6,cx A),(7,db O),(9,cx B),(66,cx A),(67,di (I A:Int)),(68,di (↑(k+1):Int))]) (G8 l n m c)) ?_
    rw[ew]
    exact⟨yr,rfl,by omega,An hx,hb,yr,rfl,by omega,An hy,Dh _ y x (HH _) (by omega),ym,yq,rfl,by rw[Ae],rfl,rfl,⟨ih⟩⟩
   |true=>
    have hw:=hcl rfl
    have hin:=Ae8 l n m c A B (by omega) hsz k (by omega) ih (AI m x).1 hst (fun s hs=>(hmem _).2 ((hw.1 x hxF).2 s hs)) _ 0 rfl
    refine lv 125 [] (.t<|.h (.xs (Ac x))<|.c (db J)<|.k<|.t<|.h (.xs (Ac y))<|.c (di (Aq y x))<|.f<|.f<|.c (e7 (AI m x))<|.lo [ke 4,ke 6,ke 7,ke 9,ch 17 (di 0),ke 66,ke 67,ke 68,ch 99 (.v (Aw (AI m x).1)),ch 100 (di (AI m x).1.length),ch 101 (di (0:Nat))] (G8 l n m c)) (Y ((k:Int)<(I A:Int))=J/\Q 2/\0<=(k:Int)/\(U eV A)[Z (k:Int)]?=G (Ac x)/\Aqp B x/\Y ((k:Int)>0)=J/\Q 2/\0<=yu yt ((k:Int)-1)/\(U eV A)[Z (yu yt ((k:Int)-1))]?=G (Ac y)/\ma y x/\yo/\Y (Aq y x>=0)=O/\(!true)=O/\F0 12 [Af m,dV x] (e7 (AI m x))/\di (AI m x).snd=di 0/\Q (bt (Aw (AI m x).fst))/\di (I (U d8 (AI m x).fst):Int)=di (↑(I (AI m x).fst):Int)/\di 0=di (↑0:Int)/\cm 3 [] (oz l n m c.n c.az)=J/\Q (G8 l n m c).H/\I0 QH 0 (db J) bd [kl DR [1,1,1,1,1,1,1,1,1,1,0,1,0,0,1,1,0,0,1,1,1,1,1,0,0],bh 2,bh 1,kc DR [1,1,1,1,1,1,1,1,1,1,0,1,0,0,1,1,1],kl DR [1,1,1,1,1,1,1,1,1,1,0,1,0,0],bh 0,kc DR [1,1,1,1,1,1,1,1,1,1,1]] (ba 125 [qu,(6,cx A),(7,db J),(9,cx B),(17,di 0),(66,cx A),(67,di (I A:Int)),(68,di (k:Int)),(99,bt (Aw (AI m x).fst)),(100,di (↑(I (AI m x).fst):Int)),(101,di (↑0:Int))]) (G8 l n m c)) ?_
    rw[ew]
    exact⟨yr,rfl,by omega,An hx,hb,yr,rfl,by omega,An hy,Dh _ y x (HH _) (by omega),ym,yq,rfl,hall,by rw[(hw.1 x hxF).1],rfl,by rw[H9],rfl,rfl,rfl,⟨hin⟩⟩
theorem Af0(s:List UInt8){o:yy}{c:Call}{fo:x8}(ho:o.op=.call c)(hc:c.callee=.value fo):Aj PP o [.v (.fn 5 [] []),.v (i4 s)] bd (.ptr 0 0) (dz (s.take 200) 0):=by
 have:=BX (σ:=bd) ho hc (fD:=.v (.fn 5 [] [])) rfl (ds:=[.v (i4 s)]) [] id (Ac7 s) (.cons (.ren (dc:=.v (i4 s)) rfl) .nil) .nil (by simp) rfl (by simp) (by simp) rfl (by rfl)
 simp[D7,CD,Ev,D.ren,D.rens,df] at this
 exact this
noncomputable abbrev An5:=fun a₀ (b₀:Nat) c₀ d₀ e₀=>F0 8 [Af a₀,di (yu yt ((b₀:Int)+1)),di 200] (bl [cx c₀,db d₀,di e₀])
theorem explores_spec(s:List UInt8):F0 3 [.v (i4 s)] (db J):=by
 obtain⟨l,hl⟩:∃l,l=s.take 200:=⟨_,rfl⟩
 have hll:I l<=200:=by rw[hl,Ig];omega
 have hnew:=fun(o:yy) (c:Call) (fo:x8) (ho:o.op=.call c) (hc:c.callee=.value fo)=>hl▸Af0 s ho hc
 obtain⟨m,a1,hmk,m2,m3⟩:=AjA l hll 0 (Ik _)
 obtain⟨r,a2,r1,r2,r3,r4⟩:=A2 l hll a1 m2 3 (by decide) (by decide)
 obtain⟨n,rfl⟩:∃n:Nat,r=n:=⟨r.toNat,by omega⟩
 have hst:=hmk.steps
 have hx1:=JY hst 200 (by decide) n (by omega)
 have hx2:=JY hst 200 (by decide) (n+1) (by omega)
 obtain⟨c,run,a3,hr,hrl,a3l,hnr⟩:=Ac8 m hmk l hll a2 r3 n (by omega)
 have htl:=Qp (AI m) m.start n
 have hC:∀d:Nat,(AU (AI m) 200 d m.start).1.length<=200/\∀c∈ (AU (AI m) 200 d m.start).1,TO m c:=fun d=>by
  obtain⟨c1,c2⟩:=Ae9 hst 200 d [m.start] [] 0 (by simp) (fun v hv=>by rw[HQ.1 hv];exact hst.start) (by simp)
  unfold AU
  split
  ·exact⟨by simp,by simp⟩
  ·exact⟨by show(sortV _).length<=200;rw[(A7 _).length_eq];omega,fun c hc=>c2 c ((A7 _).mem_iff.1 hc)⟩
 have hp:=hC n
 have hq:=hC (n+1)
 generalize AU (AI m) 200 n m.start=p at*
 generalize AU (AI m) 200 (n+1) m.start=q at*
 have ew:yt.wrap ((n:Int)+1)=((n+1:Nat):Int):=by rw[Al];omega
 by_cases he:(p.2.2 !=0)=J
 ·exact sv QH 125 [] (.c (db J)<|.h (.oc (.ptr 0 0) (dz l 0))<|.c1 (cr l a1) (Af m)<|.c1 (cr l a2) (di n)<|.c (.tup [cx p.1,db p.2.1,di p.2.2])<|.c (.tup [cx q.1,db q.2.1,di q.2.2])<|.t .r) (_/\_/\_/\_/\_/\F0 8 [Af m,di (yu yt ((n:Int)+1)),di 200] (bl [cx q.fst,db q.snd.fst,di q.snd.snd])/\_/\Q (db J)) ⟨J2,hnew,m3,r4,hx1,by rw[ew];exact hx2,he,rfl⟩
 ·have hef:=HM he
  by_cases hf:(q.2.2 !=0)=J
  ·exact sv QH 125 [] (.c (db J)<|.h (.oc (.ptr 0 0) (dz l 0))<|.c1 (cr l a1) (Af m)<|.c1 (cr l a2) (di n)<|.c (.tup [cx p.1,db p.2.1,di p.2.2])<|.c (.tup [cx q.1,db q.2.1,di q.2.2])<|.f<|.t .r) (_/\_/\_/\_/\_/\F0 8 [Af m,di (yu yt ((n:Int)+1)),di 200] (bl [cx q.fst,db q.snd.fst,di q.snd.snd])/\_/\_/\Q (db J)) ⟨J2,hnew,m3,r4,hx1,by rw[ew];exact hx2,hef,hf,rfl⟩
  ·have hff:=HM hf
   obtain⟨F,f1,f2,f3,f4,f5⟩:=htl (by simpa using he) (by simpa using hf)
   have hlp:=Adm l a3 m hmk c F p.1 q.1 p.2.1 f1 f2 (by have:=hq.1;omega) (fun x hx=>by have:=F2 (hq.2 x hx);omega) (by have:=hp.1;rw[f1,(A7 F).length_eq] at this;omega) (fun x hx=>hp.2 x (by rw[f1];exact(A7 F).mem_iff.2 hx)) f3 f5 _ 0 rfl
   by_cases hrn:I run<=n
   ·refine sv QH 125 [] (.c (db J)<|.h (.oc (.ptr 0 0) (dz l 0))<|.c1 (cr l a1) (Af m)<|.c1 (cr l a2) (di n)<|.c (.tup [cx p.1,db p.2.1,di p.2.2])<|.c (.tup [cx q.1,db q.2.1,di q.2.2])<|.f<|.f<|.c1 (cr l a3) (.tup [dV c,.v (Aw run)])<|.t<|.c (db J)<|.k<|.lo [ke 4,ke 6,ke 7,ke 9,ch 66 (cx p.1),ch 67 (di (I p.1)),ch 68 (di (0:Nat))] (G8 l a3 m c)) (F0 4 [] (db J)/\(N0 [bt (bw 5 [] []),bt (i4 s)] bd (bq 0 0) (dz l 0))/\Aa PP 6 [bq 0 0] (bi [G (cr l 0)] []) (Af m) (dz l a1)/\Aa PP 7 [bq 0 0,di 3] (dz l a1) (di (n:Int)) (dz l a2)/\F0 8 [Af m,di (n:Int),di 200] (bl [cx p.fst,db p.snd.fst,di p.snd.snd])/\F0 8 [Af m,di (yu yt ((n:Int)+1)),di 200] (bl [cx q.fst,db q.snd.fst,di q.snd.snd])/\(p.snd.snd !=0)=O/\(q.snd.snd !=0)=O/\Aa PP 9 [bq 0 0,Af m,di (n:Int)] (dz l a2) (bl [dV c,bt (Aw run)]) (dz l a3)/\Y ((I (U d8 run):Int)<=(n:Int))=J/\F0 10 [cx p.fst,dV c] (db J)/\Q (cx p.fst)/\di (I (U eV p.fst):Int)=di (I p.fst:Int)/\di 0=di (↑0:Int)/\cm 3 [] [G (cr l a3),G [di m.kind,bt (co m.aw),bt (co m.ay),bt (co m.ax),cw m.au,di m.ao,di m.age,bt (Dq m.av),di m.start.n,cx m.start.az],G [di c.n,cx c.az]]=J/\[G (cr l a3),G [di m.kind,bt (co m.aw),bt (co m.ay),bt (co m.ax),cw m.au,di m.ao,di m.age,bt (Dq m.av),di m.start.n,cx m.start.az],G [di c.n,cx c.az]]=[G (cr l a3),G (RN m),G [di c.n,cx c.az]]/\I0 QH (I bd.H) (db J) bd [kl DR [1,1,1,1,1,1,1,1,1,1,0,1,0,0],bh 0,kc DR [1,1,1,1,1,1,1,1,1,1,1]] (ba 125 [(4,bq 1 0),(6,cx p.fst),(7,db p.snd.fst),(9,cx q.fst),(66,cx p.fst),(67,di (I p.fst:Int)),(68,di (↑0:Int))]) (G8 l a3 m c)) ?_
    have hin:=LY p.1 (by have:=hp.1;omega) (fun x hx=>by have:=F2 (hp.2 x hx);omega) c
    rw[(Lp p.1 c).2 (by rw[f1];exact(A7 F).mem_iff.2 (f4 _ _ hrn hr.rch))] at hin
    exact⟨J2,hnew,m3,r4,hx1,by rw[ew];exact hx2,hef,hff,hnr,HC (by rw[H9];omega),hin,rfl,by rw[H9],rfl,rfl,rfl,⟨hlp⟩⟩
   ·exact sv QH 125 [] (.c (db J)<|.h (.oc (.ptr 0 0) (dz l 0))<|.c1 (cr l a1) (Af m)<|.c1 (cr l a2) (di n)<|.c (.tup [cx p.1,db p.2.1,di p.2.2])<|.c (.tup [cx q.1,db q.2.1,di q.2.2])<|.f<|.f<|.c1 (cr l a3) (.tup [dV c,.v (Aw run)])<|.f<|.lo [ke 4,ke 6,ke 7,ke 9,ch 66 (cx p.1),ch 67 (di (I p.1)),ch 68 (di (0:Nat))] (G8 l a3 m c)) (_/\_/\_/\_/\_/\F0 8 [Af m,di (yu yt ((n:Int)+1)),di 200] (bl [cx q.fst,db q.snd.fst,di q.snd.snd])/\_/\_/\_/\Y ((I (U d8 run):Int)<=(n:Int))=O/\Q (cx p.fst)/\di (I (U eV p.fst):Int)=di (I p.fst:Int)/\Q (di 0)/\cm 3 [] [G (cr l a3),G [di m.kind,bt (co m.aw),bt (co m.ay),bt (co m.ax),cw m.au,di m.ao,di m.age,bt (Dq m.av),di m.start.n,cx m.start.az],G [di c.n,cx c.az]]=J/\Q [G (cr l a3),G (RN m),G [di c.n,cx c.az]]/\_) ⟨J2,hnew,m3,r4,hx1,by rw[ew];exact hx2,hef,hff,hnr,HE (by rw[H9];omega),rfl,by rw[H9],rfl,rfl,rfl,iK hlp⟩
end Go.Proofs.YtfhgjfkleggjfaaGreatDoor
