/-
  A part of the proof.
-/
import Derived.Test.YtpmahmngmgnnbaaGreatDoorZg
namespace Go.Proofs.YtpmahmngmgnnbaaGreatDoor
open Go.Dv Go.Nv
set_option maxRecDepth 20000
open Go.IntKind (wrap)
theorem Xp(l:List UInt8)(hl:l.length<=200)(m:Mod)(hm:DR m)(raw:Qst)(hr:raw.target.fit)(d:List UInt8)(hd:d.length<=100)(z:Int)(y:UInt8)(Ms:List Mod)(hM:∀x∈Ms,∃A B,XOK x A B)(hn:Ms.length<=900)(ML:List V)(hML:ML=Ms.map Az)(N:Nat):∀(i a:Nat),Ms.length-i=N->a<=l.length->
  Rn PP CD 0 (db true) σ0 ([.lp (sub AF [1,1,1,1,1,0,1,0,0]),.blk 0,.code (sub AF [1,1,1,1,1,1])]++[]) (mkE 146 (AaO raw d z y ML i)) (sM l a m):=by
 have hlen:ML.length=Ms.length:=by rw[hML,Hw]
 induction N with
 |zero=>
  intro i a hi ha
  refine lv 146 [6] (.f<|.r) (decide ((i:Int)<(ML.length:Int))=false/\Q (db true)) ?_
  exact⟨H1 (by omega),rfl⟩
 |succ N ih=>
  intro i a hi ha
  obtain⟨x,hxi⟩:∃x,Ms[i]?=some x:=⟨_,Hx (by omega)⟩
  obtain⟨A,B,hx⟩:=hM x (H4 hxi)
  obtain⟨q1,a1,s1,p1,h1⟩:=W8 m hm l hl a ha
  obtain⟨q2,a2,s2,p2,h2⟩:=W8 m hm l hl a1 p1
  have hih:=ih (i+1) a2 (by omega) p2
  obtain⟨QL,hQL⟩:∃QL,QL=[q1,q2,raw].map vQ:=⟨_,rfl⟩
  have hv:ML[i]?=some (Az x):=by rw[hML];simp[hxi]
  have hnx:Rn PP CD 0 (db true) σ0 [.blk 1,.code (sub AF [1,1,1,1,1,0,1,0,0,1,1,1]),.lp (sub AF [1,1,1,1,1,0,1,0,0]),.blk 0,.code (sub AF [1,1,1,1,1,1])] (mkE 146 (AaO raw d z y ML i)) (sX l a2 m x):=by
   refine BB (ks:=[.blk 1,.code (sub AF [1,1,1,1,1,0,1,0,0,1,1,1])]) (T:=[.lp (sub AF [1,1,1,1,1,0,1,0,0]),.blk 0,.code (sub AF [1,1,1,1,1,1])]) mixed 146 [6] (.ls [ke 2,ke 3,ke 4,ke 6,ke 11,ke 12,ke 39,ke 40,ch 41 (di (i+1:Nat))] (sM l a2 m)) ?_
   refine @via (di (wrap IntKind.i64 ((i:Int)+1))=di (↑(i+1):Int)/\Q [some (cDz l a2),some (DU m)]/\I0 CD 0 (db true) σ0 [kl AF [1,1,1,1,1,0,1,0,0],KI.blk 0,kc AF [1,1,1,1,1,1]] (mkE 146 [(2,D.v (V.str d)),(3,di z),(4,D.v (V.int IntKind.u8 (↑(UInt8.toNat y):Int))),(6,D.v (V.ref (vQ raw))),(11,D.ptr 0 0),(12,D.ptr 1 0),(39,D.v (V.list ML)),(40,di (ML.length:Int)),(41,di (↑(i+1):Int))]) (sM l a2 m)) _ ?hv ?_
   case hv=>kernel_rfl
   exact⟨Ae (by omega),rfl,⟨hih⟩⟩
  have hQ:∀q∈ [q1,q2,raw],q.target.fit:=fun q hq=>by
   simp only[Ib,IM,or_false] at hq
   rcases hq with rfl|rfl|rfl
   ·exact Val.fit_of _ (by have:=s1.size;omega)
   ·exact Val.fit_of _ (by have:=s2.size;omega)
   ·exact hr
  have hl2:=Xn l a2 m x raw d hd z y ML i _ hx [q1,q2,raw] hQ (by show 3<=900;decide) QL hQL hnx _ 0 rfl
  clear hnx hih
  refine lv 146 [6] (.t<|.x (Az x)<|.c1 (cDz l a1) (dQ q1)<|.c1 (cDz l a2) (dQ q2)<|.ls [ke 2,ke 3,ke 4,ke 6,ke 11,ke 12,ke 14,ke 39,ke 40,ke 41,ch 52 (.v (.list QL)),ch 53 (di QL.length),ch 54 (di (0:Nat))] (sX l a2 m x)) (decide ((i:Int)<(ML.length:Int))=true/\0<=(i:Int)/\ML[Int.toNat (i:Int)]?=some (Az x)/\Aa PP 8 [D.ptr 0 0,Ad m] (dz l a) (dQ q1) (dz l a1)/\Aa PP 8 [D.ptr 0 0,Ad m] (dz l a1) (dQ q2) (dz l a2)/\(True/\(Q (some [di m.kind,D.v (vSs m.states),D.v (vSs m.places),D.v (vSs m.letters),dIs m.ranks,di m.levels,di m.age,D.v (EV m.rules),di m.start.n,dVs m.start.kids])/\True)/\True)/\D.v (V.list [vQ q1,vQ q2,vQ raw])=D.v (V.list QL)/\di (List.length (vQ q1::vQ q2::vQ raw::nV):Int)=di (QL.length:Int)/\di 0=di (↑0:Int)/\[some (cDz l a2),some (DU m),some [di x.kind,D.v (vSs x.states),D.v (vSs x.places),D.v (vSs x.letters),dIs x.ranks,di x.levels,di x.age,D.v (EV x.rules),di x.start.n,dVs x.start.kids]]=[some (cDz l a2),some (DU m),some (DU x)]/\I0 CD 0 (db true) σ0 [kl AF [1,1,1,1,1,0,1,0,0,1,1,0,0,1,1,0,0],KI.blk 2,KI.blk 1,kc AF [1,1,1,1,1,0,1,0,0,1,1,1],kl AF [1,1,1,1,1,0,1,0,0],KI.blk 0,kc AF [1,1,1,1,1,1]] (mkE 146 [(2,D.v (V.str d)),(3,di z),(4,D.v (V.int IntKind.u8 (↑(UInt8.toNat y):Int))),(6,D.v (V.ref (vQ raw))),(11,D.ptr 0 0),(12,D.ptr 1 0),(14,D.ptr 2 0),(39,D.v (V.list ML)),(40,di (ML.length:Int)),(41,di (i:Int)),(52,D.v (V.list QL)),(53,di (QL.length:Int)),(54,di (↑0:Int))]) (sX l a2 m x)) ?_
  exact⟨Hz (by omega),by omega,hv,h1,h2,⟨trivial,⟨rfl,trivial⟩,trivial⟩,by rw[hQL];rfl,by rw[hQL];rfl,rfl,rfl,⟨hl2⟩⟩
theorem steps_spec(s:List UInt8)(raw:Qst)(d:List UInt8)(z:Int)(y:UInt8)(hr:raw.target.fit):Aa PP 3 [.v (vBs s),dQ raw,ds d,di z,.v (vb y)] σ0 (db true) σ0:=by
 by_cases hd:d.length<=100
 ·obtain⟨l,hl⟩:∃l,l=s.take 200:=⟨_,rfl⟩
  have hll:l.length<=200:=by rw[hl,HS];omega
  have hnew:=fun(o:Oper) (c:Call) (fo:Operand) (ho:o.op=.call c) (hc:c.callee=.value fo)=>hl▸YY s ho hc
  obtain⟨m,a0,hm,m2,m3⟩:=WA l hll 0 (HW _)
  obtain⟨x,e,a1,hb,b2,b3⟩:=Sk m l hll a0 m2
  obtain⟨ML,hML⟩:∃ML,ML=[m,mB,x].map Az:=⟨_,rfl⟩
  obtain⟨t,hR⟩:=hm.ref
  have hlp:=Xp l hll m hm raw hr d hd z y [m,mB,x] (fun x' hx'=>by
   simp only[Ib,IM,or_false] at hx'
   rcases hx' with rfl|rfl|rfl
   ·exact⟨_,_,hR.xok hm.small.2.1⟩
   ·exact⟨_,_,AbN.xok⟩
   ·exact⟨_,_,hb.xok⟩) (by show 3<=900;decide) ML hML _ 0 a1 rfl b2
  rw[←hML] at b3
  clear hML hR hb
  refine sv CD 146 [6] (.c (db true)<|.k<|.f<|.h (.oc (.ptr 0 0) (dz l 0))<|.c1 (cDz l a0) (Ad m)<|.c1 (cDz l a1) (.v (.list ML))<|.ls [ke 2,ke 3,ke 4,ke 6,ke 11,ke 12,ke 39,ch 40 (di ML.length),ch 41 (di (0:Nat))] (sM l a1 m)) (F0 4 [] (db true)/\decide ((d.length:Int)>100)=false/\(∀(o:Oper) (c:Call) (fo:Operand),o.op=Op.call c->c.callee=Callee.value fo->Ap PP o [D.v (V.fn 5 [] []),D.v (vBs s)] σ0 (D.ptr 0 0) (dz l 0))/\Aa PP 6 [D.ptr 0 0] (St.mk [some (cDz l 0)] []) (Ad m) (dz l a0)/\Aa PP 7 [D.ptr 0 0,Ad m] (dz l a0) (D.v (V.list ML)) (dz l a1)/\Q (di (ML.length:Int))/\di 0=di (↑0:Int)/\[some (cDz l a1),some [di m.kind,D.v (vSs m.states),D.v (vSs m.places),D.v (vSs m.letters),dIs m.ranks,di m.levels,di m.age,D.v (EV m.rules),di m.start.n,dVs m.start.kids]]=[some (cDz l a1),some (DU m)]/\I0 CD σ0.H.length (db true) σ0 [kl AF [1,1,1,1,1,0,1,0,0],KI.blk 0,kc AF [1,1,1,1,1,1]] (mkE 146 [(2,D.v (V.str d)),(3,di z),(4,D.v (V.int IntKind.u8 (↑(UInt8.toNat y):Int))),(6,D.v (V.ref (vQ raw))),(11,D.ptr 0 0),(12,D.ptr 1 0),(39,D.v (V.list ML)),(40,di (ML.length:Int)),(41,di (↑0:Int))]) (sM l a1 m)) ?_
  exact⟨Lv,H1 (by omega),hnew,m3,b3,rfl,rfl,rfl,⟨hlp⟩⟩
 ·refine sv CD 146 [6] (.c (db true)<|.k<|.t .r) (F0 4 [] (db true)/\decide ((d.length:Int)>100)=true/\Q (db true)) ?_
  exact⟨Lv,Hz (by omega),rfl⟩
end Go.Proofs.YtpmahmngmgnnbaaGreatDoor
