/-
  A part of the proof.
-/
import Derived.Test.YtkkplhjidondkaaGreatZh
import Derived.Test.YtkkplhjidondkaaGreatZi
namespace Go.Proofs.YtkkplhjidondkaaGreat
open Go.Dv Go.Nv
set_option maxRecDepth 20000
open Go.IntKind (u64)
open Go.IntKind renaming wrap → yu, i64 → yt
open List renaming length → I, map → U, drop → W
open Option renaming some → G
open Bool renaming true → J, false → O
open Decidable renaming decide → Y
open Int renaming toNat → Z
open Go.Dv.V renaming list → ai, str → ae, agg → ab, int → aa, ref → bz, fn → bw, nils → bv, bool → bu
open Go.Dv.D renaming v → bt, acc → br, ptr → bq, arr → bo, gro → bm, tup → bk, undef → bj, dagg → bi
open Go.Dv.St renaming mk → bh
open Go.Dv.KI renaming blk → bf
open _root_.ByteArray renaming mk → bc
open Go renaming Operand → x8, Program → x7, TypeId → x6, World → x5, Value → yz, Oper → yy, FuncId → yx, Func → yw, IntKind → yv
noncomputable abbrev uo:=Tryz.f92
noncomputable def rh:=yl uo
theorem AfV(F:yx)(fs cs:List V)(p:cb->Bool)(l:List (cb))(hl:I l<=1000000)(hp:∀x∈l,F0 F ((fs++[c8 x]++cs).map .v) (db (p x)))(n:Nat):∀k:Nat,I l-k=n->
  Rn PP uo 0 (di (de p (l.drop k) k)) ba ([kl rh [1,0,1,0,0],.blk 0,kc rh [1,1]]++[]) (cy 19 [(0,dl (l.map c8)),(1,.v (.fn F fs cs)),(7,di (I l)),(8,di k)]) ba:=by
 induction n using Nat.strongRecOn with
 |_ n ih=>
 intro k hn
 refine lv 19 [] (.b (.e fun x:cb=>.x (c8 x)<|.c (db (p x))<|.b .r (.l (qj k))) .r) ((Y ((k:Int)<(I l:Int))=J->∃a,0<=(k:Int)/\(U c8 l)[Z (k:Int)]?=G (c8 a)/\Aa PP F (U bt (fs++[c8 a]++cs)) d7 (db (p a)) d7/\(p a=J->di (k:Int)=di (de p (W k l) k))/\(p a=O->di (yu yt ((k:Int)+1))=di (↑(k+1):Int)/\Nv.It (A2 (CN 0) PP (fun env σ1=>A9 PP uo env σ1 (di (de p (W k l) k)) ba) [kl rh [1,0,1,0,0],bf 0,kc rh [1,1]] (cy 19 [(0,bt (ai (U c8 l))),(1,bt (bw F fs cs)),(7,di (I l:Int)),(8,di (↑(k+1):Int))]) ba)))/\(Y ((k:Int)<(I l:Int))=O->di (-1)=di (de p (W k l) k))) ⟨fun h=>?_,fun h=>?_⟩
 ·have hk:k<I l:=by grind
  have hx:l[k]?=G l[k]:=HI hk
  rw[HX hk]
  generalize l[k]=x at hx⊢
  refine⟨x,by omega,Am hx,hp x (HO hx),fun hf=>by simp[de,hf],fun hf=>⟨Ae,⟨?_⟩⟩⟩
  simp only[de,hf]
  exact ih (I l- (k+1)) (by omega) (k+1) rfl
 grind[List.drop_of_length_le,de]
theorem AfU(F:yx)(fs cs:List V)(p:cb->Bool)(l:List (cb))(hl:I l<=1000000)(hp:∀x∈l,F0 F ((fs++[c8 x]++cs).map .v) (db (p x))):
  F0 92 [dl (l.map c8),.v (.fn F fs cs)] (di (de p l 0)):=by
 refine sv uo 19 [] (.l [ke 0,ke 1,ch 7 (di (I l)),ch 8 (di (0:Nat))]) (di (I (U c8 l):Int)=di (I l:Int)/\Q (di 0)/\I0 uo (I ba.H) (di (de p l 0)) ba [kl rh [1,0,1,0,0],bf 0,kc rh [1,1]] (cy 19 [(0,dl (U c8 l)),(1,bt (bw F fs cs)),(7,di (I l:Int)),(8,di (↑0:Int))]) ba) ⟨by simp,rfl,⟨?_⟩⟩
 exact AfV F fs cs p l hl hp _ 0 rfl
noncomputable abbrev App:=Tryz.f51
theorem AbD(F:yx)(fs cs:List V)(p:cb->Bool)(l:List (cb))(hl:I l<=1000000)(hp:∀x∈l,F0 F ((fs++[c8 x]++cs).map .v) (db (p x))):
  F0 51 [dl (l.map c8),.v (.fn F fs cs)] (db (l.any p)):=by
 refine sv App 9 [] (.c (di (de p l 0)) .r) (F0 92 [bt (ai (U c8 l)),bt (bw F fs cs)] (di (de p l 0))/\db (Y (de p l 0>=0))=db (List.any l p)) ?_
 grind[AfU,FH]
noncomputable abbrev Ap0:=Tryz.f87
theorem AcZ{m:cz}{t:cr}(hm:G2 m t)(v:b9)(h:v.size<=1000000):F0 87 [.v (Ac v),.v (.ref (A0 m))] (db (!Ah t v)):=by
 exact sv Ap0 8 [2] (.c (db (Ah t v)) .r) (_/\Q (db !Ah t v)) ⟨hm.valid v h,rfl⟩
noncomputable abbrev xd:=Tryz.f48
noncomputable def x9:=yl xd
theorem Ahm(l:List b9)(hl:I l<=1000)(hs:∀v∈l,v.size<=1000)(ha:∀(i:Nat) (a b:b9),l[i]?=G a->l[i+1]?=G b->Ar a b<0)(n:Nat):∀k:Nat,I l- (k+1)=n->
  Rn PP xd 0 (di 0) ba ([kl x9 [1,1,0,1,0,0],.blk 0,kc x9 [1,1,1]]++[]) (cy 26 [(1,cq l),(5,di (k+1:Nat))]) ba:=by
 induction n with
 |zero=>
  intro k hn
  refine lv 26 [2] (.f .r) (Y ((↑(k+1):Int)<(I (U eV l):Int))=O/\Q (di 0)) ?_
  grind
 |succ n ih=>
  intro k hn
  obtain⟨x,hx⟩:=yk (show k<I l by omega)
  obtain⟨y,hy⟩:=yk (show k+1<I l by omega)
  have hc:=ha k x y hx hy
  refine lv 26 [2] (.t<|.x (Ac x)<|.x (Ac y)<|.c (di (Ar x y))<|.f<|.ls [ke 1,ch 5 (di (k+1+1:Nat))] ba) (Y ((↑(k+1):Int)<(I (U eV l):Int))=J/\0<=yu yt ((↑(k+1):Int)-1)/\(U eV l)[Z (yu yt ((↑(k+1):Int)-1))]?=G (Ac x)/\0<=(↑(k+1):Int)/\(U eV l)[Z (↑(k+1):Int)]?=G (Ac y)/\F0 41 [dV x,dV y] (di (Ar x y))/\Y (Ar x y>=0)=O/\di (yu yt ((↑(k+1):Int)+1))=di (↑(k+1+1):Int)/\I0 xd 0 (di 0) ba [kl x9 ee,bf 0,kc x9 [1,1,1]] (cy 26 [(1,cq l),(5,di (↑(k+1+1):Int))]) ba) ?_
  have ew:yt.wrap (((k+1:Nat):Int)-1)=(k:Int):=by grind[Ak]
  rw[ew]
  exact⟨HK (by grind),by omega,e8 hx,by omega,e8 hy,Hl _ x y (HP _) (by grind),yq,by rw[Ae],⟨ih (k+1) (by omega)⟩⟩
theorem Ahl{m:cz}{t:cr}(hm:G2 m t)(l:List b9)(hl:I l<=1000)(hs:∀v∈l,v.size<=1000)(hv:∀v∈l,Ah t v=J)(ha:∀(i:Nat) (a b:b9),l[i]?=G a->l[i+1]?=G b->Ar a b<0):F0 48 [Ad m,cq l] (di 0):=by
 have h1:=FV 87 [] [.ref (A0 m)] (fun v=> !Ah t v) l (by omega) (fun v h=>AcZ hm v (by grind))
 rw[List.any_eq_false.2 (fun v h=>by grind)] at h1
 exact sv xd 26 [2] (.c (db O)<|.k<|.ls [ke 1,ch 5 (di (0+1:Nat))] ba) (_/\Q (di 1)/\_) ⟨h1,rfl,iK (Ahm l hl hs ha _ 0 rfl)⟩
noncomputable abbrev Apx:=Tryz.f52
noncomputable abbrev Avy:=fun a₀ b₀=>F0 49 [cq a₀,dV b₀] (di (Dj a₀ b₀))
theorem AcA(l:List b9)(hl:I l<=1000000)(hs:∀v∈l,v.size<=1000000)(s:cb):F0 52 [.v (c8 s),.v (.ref (dt l))] (db (Y (Dj l s.2<0))):=by
 refine sv Apx 9 [2] (.c (di (Dj l s.2)) .r) (Avy l s.snd/\Q (db (Y (Dj l s.snd<0)))) ?_
 grind[Mn]
noncomputable abbrev xc:=Tryz.f28
noncomputable def AkS:=yl xc
theorem AgO(m:cz)(S:b9->List cb×Int)(l:List b9)(hl:I l<=1000)(hs:∀v∈l,v.size<=1000)(hS:∀v∈l,F0 50 [Ad m,dV v] (fw (S v))/\(S v).1.length<=256/\(S v).2=0/\∀s∈ (S v).1,s.2∈l)(n:Nat):∀k:Nat,I l-k=n->
  Rn PP xc 0 (di 0) ba ([kl AkS [1,1,1,0,1,0,0],.blk 1,kc AkS [1,1,1,1]]++[]) (cy 48 [(3,.v (.ref (A0 m))),(5,.v (.ref (dt l))),(29,cq l),(30,di (I l)),(31,di k)]) ba:=by
 induction n with
 |zero=>
  intro k hn
  refine lv 48 [3,4,5] (.f .r) (Y ((k:Int)<(I l:Int))=O/\Q (di 0)) ?_
  grind
 |succ n ih=>
  intro k hn
  obtain⟨x,hx⟩:=yk (show k<I l by omega)
  obtain⟨h1,h2,h3,h4⟩:=hS x (HO hx)
  generalize S x=p at h1 h2 h3 h4
  obtain⟨L,z⟩:=p
  dsimp only at h2 h3 h4
  subst h3
  have hh:=AbD 52 [] [.ref (dt l)] (fun s=>Y (Dj l s.2<0)) L (by omega) (fun s hsm=>AcA l (by omega) (fun v hv=>by grind) s)
  rw[List.any_eq_false.2 (fun s hsm=>by
   have:=(LJ l s.2).2 (h4 s hsm)
   grind)] at hh
  exact lv 48 [3,4,5] (.t<|.x (Ac x)<|.c (fw (L,0))<|.k<|.c (db O)<|.k<|.ls [ke 3,ke 5,ke 29,ke 30,ch 31 (di (k+1:Nat))] ba) (Y ((k:Int)<(I l:Int))=J/\0<=(k:Int)/\(U eV l)[Z (k:Int)]?=G (Ac x)/\_/\_/\di (yu yt ((k:Int)+1))=di (↑(k+1):Int)/\_) ⟨yr,by omega,e8 hx,h1,hh,by grind[Ae],iK (ih (k+1) (by omega))⟩
theorem AgN{m:cz}{t:cr}(hm:G2 m t)(S:b9->List cb×Int)(c:b9)(l:List b9)(hl:I l<=1000)(hs:∀v∈l,v.size<=1000)(hv:∀v∈l,Ah t v=J)(ha:∀(i:Nat) (a b:b9),l[i]?=G a->l[i+1]?=G b->Ar a b<0)(h0:m.start∈l)(hc:c∉l)(hS:∀v∈l,F0 50 [Ad m,dV v] (fw (S v))/\(S v).1.length<=256/\(S v).2=0/\∀s∈ (S v).1,s.2∈l):F0 28 [Ad m,dV c,cq l] (di 0):=by
 have h1:=Ahl hm l hl hs hv ha
 have hi:=fun v=>Mn l (by omega) (fun v hv=>by grind) v
 have h2:=HT ((LJ l m.start).2 h0)
 have h3:=HT ((Agb l c).2 hc)
 refine sv xc 48 [3,4,5] (.c (di 0)<|.k<|.c (di (Dj l m.start))<|.f<|.c (di (Dj l c))<|.f<|.ls [ke 3,ke 5,ch 29 (cq l),ch 30 (di (I l)),ch 31 (di (0:Nat))] ba) (F0 48 [Ad m,cq l] (di 0)/\Avy l m.start/\Y (Dj l m.start<0)=O/\Avy l c/\Y (Dj l c>=0)=O/\cq l=cq l/\di (I (U eV l):Int)=di (I l:Int)/\di 0=di (↑0:Int)/\I0 xc (I ba.H) (di 0) ba [kl AkS gb,bf 1,kc AkS [1,1,1,1]] (cy 48 [(3,bt (gd m)),(5,bt (bz (dt l))),(29,cq l),(30,di (I l:Int)),(31,di (↑0:Int))]) ba) ?_
 exact⟨h1,hi _,yq,hi _,yq,rfl,by grind,rfl,⟨AgO m S l hl hs hS _ 0 rfl⟩⟩
noncomputable abbrev AqI:=Tryz.f29
theorem Age(m:cz)(hm:em m)(a:fh)(ha:E3 m a):F0 29 [Ad m,m7 a] (di (Sy m a)):=by
 refine sv AqI 15 [2,3] (.c (di 0)<|.k<|.c (di (Sy m a)) .r) (F0 53 [Ad m,bt (Q4 a)] (di 0)/\F0 54 [Ad m,bt (Q4 a)] (di (Sy m a))/\Q (di (Sy m a))) ?_
 grind[AhZ,Rs]
noncomputable abbrev Aqe:=Tryz.f12
theorem AiZ{m:cz}{t:cr}(hm:G2 m t)(c:b9)(hc:Ah t c=J)(hs:c.size<=1000)(v:e9)(hd:v.decided=J)(hy:v.yes=O)(hne:v.closed≠ [])(hcl:F0 28 [Ad m,dV c,cq v.closed] (di 0)):F0 12 [Ad m,dV c,Cr v] (di 0):=by
 have hl:=List.length_pos_iff.2 hne
 refine sv Aqe 49 [3,4,5] (.c (di 0)<|.k<|.f<|.f<|.t<|.c (di 0) .r) (oy m c/\(!v.decided)=O/\v.yes=O/\Y ((I (ce v.closed):Int)>0)=J/\F0 28 [Ad m,dV c,cq v.closed] (di 0)/\Q (di 0)) ?_
 grind[J3]
theorem Aja{m:cz}{c:b9}(hm:G2 m (AE m))(hc:Ah (AE m) c=J)(hs:c.size<=1000)(v:e9)(hd:v.decided=J)(hy:v.yes=O)(he:v.closed=[])(hn:pf m c v):F0 12 [Ad m,dV c,Cr v] (di 0):=by
 have hx:=hn.exc
 simp only[XM,HJ,Iv,IA] at hx
 have h1:=Age m hn.pl _ hn.atm
 have h2:=Oh m hn.pl _ hn.atm c hn.tgt
 refine sv Aqe 49 [3,4,5] (.c (di 0)<|.k<|.f<|.f<|.f<|.c (di 0)<|.k<|.c (.tup [db O,di 0])<|.k .r) (oy m c/\(!v.decided)=O/\v.yes=O/\Y ((I (ce v.closed):Int)>0)=O/\F0 29 [Ad m,bt (ab [cw v.coefs,vi v.mod,cw v.vals])] (di 0)/\F0 30 [Ad m,bt (ab [cw v.coefs,vi v.mod,cw v.vals]),dV c] (bk [db O,di 0])/\Q (di 0)) ?_
 grind[J3]
theorem N9.not{m:cz}{c d:b9}{v:e9}(h:N9 (G3 m) (BE m) m.start c (pf m c) v){run:List cb}(hr:Ex m m.start run d)(hd:v.decided=J)(hy:v.yes=O):d≠c:=by
 rcases h hd with⟨h1,_⟩|⟨_,F,_,_,_,_,h5⟩|⟨_,_,h6⟩
 ·grind
 ·intro e;exact h5.2.1 (e▸h5.rch _ _ _ h5.1 hr.rch)
 ·exact h6.run hr
theorem AeQ{m:cz}(hm:El m){c:b9}(hc:G3 m c){v:e9}(h:N9 (G3 m) (BE m) m.start c (pf m c) v)(hd:v.decided=J)(hy:v.yes=O):F0 12 [Ad m,dV c,Cr v] (di 0):=by
 have hst:=hm.steps
 have hs:=hst.size c hc
 rcases h hd with⟨h1,_⟩|⟨_,F,f1,f2,f3,f4,f5⟩|⟨_,h5,h6⟩
 ·grind
 ·have hp:=AR F
  have hmem:∀x,x∈sortV F↔x∈F:=fun x=>hp.mem_iff
  have hne:v.closed≠ []:=by rw[f4];intro e;simp_all
  refine AiZ hm.int c hc hs v hd hy hne ?_
  rw[f4]
  exact AgN hm.int (BE m) c (sortV F) (by rw[hp.length_eq];omega) (fun v hv=>hst.size v (f3 v ((hmem v).1 hv))) (fun v hv=>f3 v ((hmem v).1 hv)) (fun i a b ha hb=>ZV f5.2.2.1 ha hb) ((hmem _).2 f5.1) (fun h=>f5.2.1 ((hmem _).1 h)) (fun v hv=>⟨hst.all v (f3 v ((hmem v).1 hv)),hst.len v (f3 v ((hmem v).1 hv)),(f5.2.2.2 v ((hmem v).1 hv)).1,fun s hs=>(hmem _).2 ((f5.2.2.2 v ((hmem v).1 hv)).2 s hs)⟩)
 ·have hk:o6 m=AE m:=FX (by have:=h6.pl.kind;omega)
  exact Aja (hk▸hm.int) (hk▸hc) hs v hd hy h5 h6
noncomputable abbrev Agr:=Tryz.f4
theorem cert_spec(s:List UInt8):F0 4 [.v (jr s)] (db J):=by
 obtain⟨l,hl⟩:∃l,l=s.take 200:=⟨_,rfl⟩
 have hll:I l<=200:=by grind
 have hnew:=fun(o:yy) (c:Call) (fo:x8) (ho:o.op=.call c) (hc:c.callee=.value fo)=>hl▸AlQ s ho hc
 obtain⟨m,a1,hmk,m2,m3⟩:=AnR l hll 0 (Iu _)
 obtain⟨c,a2,hc,c2,c3⟩:=hmk.cfg_ex l hll a1 m2
 have hcc:=hc.cfgA hmk
 obtain⟨d,run,a3,hr,hrl,a3l,hnr⟩:=Af8 m hmk l hll a2 c2 6 (by decide)
 obtain⟨X,hm,hX⟩:=hmk.mdlA hcc
 have hdc:=Acl hm 16 (by decide)
 have htl:=XV hm hX 16
 generalize ni m (BE m) X c 16 (BI m) (Aq 0)=p at hdc htl
 obtain⟨v,e⟩:=p
 dsimp only at hdc htl
 by_cases he:(e !=0)=J
 ·refine sv Agr 64 [] (.c (db J)<|.h (.oc (.ptr 0 0) (dz l 0))<|.c1 (co l a1) (Ad m)<|.c1 (co l a2) (dV c)<|.c (Fh (v,e))<|.t .r) (F0 5 [] (db J)/\(N0 [bt (bw 6 [] []),bt (jr s)] ba (bq 0 0) (dz l 0))/\Aa PP 7 [bq 0 0] (bh [G (co l 0)] []) (Ad m) (dz l a1)/\Aa PP 11 [bq 0 0,Ad m] (dz l a1) (dV c) (dz l a2)/\F0 9 [Ad m,dV c,di 16] (Fh (v,e))/\((v,e).snd !=0)=J/\Q (db J)) ?_
  grind[JL]
 ·have he2:e=0:=by grind
  subst he2
  cases h1:v.decided with
  |false=>
   refine sv Agr 64 [] (.c (db J)<|.h (.oc (.ptr 0 0) (dz l 0))<|.c1 (co l a1) (Ad m)<|.c1 (co l a2) (dV c)<|.c (Fh (v,0))<|.k<|.t .r) (F0 5 [] (db J)/\(N0 [bt (bw 6 [] []),bt (jr s)] ba (bq 0 0) (dz l 0))/\Aa PP 7 [bq 0 0] (bh [G (co l 0)] []) (Ad m) (dz l a1)/\Aa PP 11 [bq 0 0,Ad m] (dz l a1) (dV c) (dz l a2)/\F0 9 [Ad m,dV c,di 16] (Fh (v,0))/\(!(v,0).fst.decided)=J/\Q (db J)) ?_
   grind[JL]
  |true=>
   cases h2:v.yes with
   |true=>
    have hpv:F0 10 [Ad m,dV c,.v (B2 v.run)] (di 0):=by
     rcases htl h1 with⟨_,g2,g3,_⟩|⟨g1,_⟩|⟨g1,_⟩
     ·have:=QK m hmk v.run c c g2.runA g3
      grind[CW]
     all_goals grind
    exact sv Agr 64 [] (.c (db J)<|.h (.oc (.ptr 0 0) (dz l 0))<|.c1 (co l a1) (Ad m)<|.c1 (co l a2) (dV c)<|.c (Fh (v,0))<|.k<|.f<|.t<|.c (di 0) .r) (_/\_/\_/\_/\_/\(!(v,0).fst.decided)=O/\_/\_/\Q (db J)) ⟨JL,hnew,m3,c3,hdc,by grind,h2,hpv,rfl⟩
   |false=>
    have hne:=htl.not hr h1 h2
    have hb:(Ar d c==0)=O:=by
     grind[CW]
    have hrf:=AeQ hmk hcc htl h1 h2
    have hsm:=KA d c (by have:=hmk.steps.size d (hr.ok hmk);omega)
    have hpv:=QK m hmk run d c hr (by omega)
    rw[hb] at hsm hpv
    exact sv Agr 64 [] (.c (db J)<|.h (.oc (.ptr 0 0) (dz l 0))<|.c1 (co l a1) (Ad m)<|.c1 (co l a2) (dV c)<|.c (Fh (v,0))<|.k<|.f<|.f<|.c1 (co l a3) (.tup [dV d,.v (B2 run)])<|.c (di 0)<|.k<|.c (db O)<|.k<|.c (di 40)<|.r) (_/\_/\_/\_/\_/\(!(v,0).fst.decided)=O/\_/\_/\_/\_/\_/\db (40 !=0)=db J) ⟨JL,hnew,m3,c3,hdc,by grind,h2,hnr,hrf,hsm,hpv,rfl⟩
end Go.Proofs.YtkkplhjidondkaaGreat
