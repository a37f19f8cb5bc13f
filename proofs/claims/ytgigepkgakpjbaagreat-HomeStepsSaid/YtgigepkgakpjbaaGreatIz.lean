/-
  A part of the proof.
-/
import Derived.Test.YtgigepkgakpjbaaGreatZf
open Go.Proofs.Tryz renaming f3->gb
open Go.Dv Go.Nv
set_option maxRecDepth 20000
open Go.IntKind (u64)
open Go.IntKind renaming wrap->yu,i64->yt
open List renaming length->I,map->U,drop->W
open Option renaming some->G
open Bool renaming true->J,false->O
open Decidable renaming decide->Y
open Int renaming toNat->Z
open Go.Dv.V renaming list->ae,str->ab,agg->aa,int->a8,ref->bz,fn->bw,nils->bv,bool->bu
open Go.Dv.D renaming v->bt,acc->br,ptr->bq,arr->bo,gro->bm,tup->bl,undef->bk,dagg->bj
open Go.Dv.St renaming mk->bi
open Go.Dv.KI renaming blk->bh
open _root_.ByteArray renaming mk->bf
open Go renaming Operand->x8,Program->x7,TypeId->x6,World->x5,Value->yz,Oper->yy,FuncId->yx,Func->yw,IntKind->yv
namespace Go.Proofs.YtgigepkgakpjbaaGreat
open List (take)
theorem Aoe(s:List UInt8){o:yy}{c:Call}{fo:x8}(ho:o.op=.call c)(hc:c.callee=.value fo):Ak PP o [.v (.fn 5 [] []),.v (j1 s)] bd (.ptr 0 0) (dz (s.take 200) 0):=by
 have:=BE (σ:=bd) ho hc (fD:=.v (.fn 5 [] [])) rfl (ds:=[.v (j1 s)]) [] id (Ahm s) (.cons (.ren (dc:=.v (j1 s)) rfl) .nil) .nil (by simp) rfl (by simp) (by simp) rfl (by rfl)
 grind[Dn,CG,E5,D.ren,D.rens,d6]
theorem AjC(l:List UInt8)(hl:I l<=200)(m:cx)(hm:ZJ m)(raw:Gph)(hr:BT raw)(fr to lb mo:Int)(Ms:List cx)(hMs:I Ms<=1000)(hB:∀x∈Ms,ZJ x)(n:Nat):∀(i a:Nat),a<=I l->I Ms-i=n->
  Rn PP gb 0 (db J) bd ([.lp (sub ej [1,1,1,1,1,1,0,1,0,0]),.blk 0,.code (sub ej [1,1,1,1,1,1,1])]++[]) (cz 264 [(2,di fr),(3,di to),(4,di lb),(5,di mo),(7,.v (.ref (vG raw))),(13,.ptr 0 0),(14,.ptr 1 0),(65,.v (.list (Ms.map Aq))),(66,di (I Ms)),(67,di i)]) (RB l a m):=by
 induction n with
 |zero=>
  intro i a ha hn
  obtain⟨O,e,fO, -,p1⟩:=hm 20
  obtain⟨G,a1,⟨fG, -, -⟩,g2,g3⟩:=AjE l hl a ha
  obtain⟨B,a2,⟨fB,b1,b2⟩,b3,b4⟩:=AjE l hl a1 g2
  obtain⟨p,a3,q1,q2,q3,q4⟩:=A6 l hl a2 b3 (I B.cs) (by omega) (by omega)
  obtain⟨z,a4,r1,r2,r3,r4⟩:=A6 l hl a3 q3 3 (by decide) (by decide)
  obtain⟨k,rfl⟩:∃k:Nat,p=k:=⟨p.toNat,by omega⟩
  obtain⟨bc,ba⟩:=B
  dsimp only at b1 b2 q2 q4
  have hlt:k<I bc:=by omega
  obtain⟨X,b,Y,rfl,hk⟩:∃X b Y,bc=X++b::Y/\X.length=k:=⟨bc.take k,bc[k],bc.drop (k+1),by simp_all,by grind⟩
  subst hk
  have hxs:∀x∈ [O,G,⟨X++ .mk z []::Y,ba⟩,raw],BT x:=fun x hx=>by
   simp only[IN,JE,or_false] at hx
   rcases hx with rfl|rfl|rfl|rfl
   ·exact fO
   ·exact fG
   ·obtain⟨f1,f2,f3,f4⟩:=fB
    exact⟨by grind,f2,f3,fun v hv=>by
     rcases IV.1 hv with h|h
     ·grind
     ·rcases IN.1 h with h|h
      ·rw[h];exact b9.fit_of _ (show(1:Nat)<=1000000 by decide)
      grind⟩
   omega
  have h:=AsS l hl fr to lb G [O,G,⟨X++ .mk z []::Y,ba⟩,raw] (by simp) hxs _ 0 a4 r3 rfl
  have hf:=Lj X Y b (.mk z [])
  have hlen:=B1 (X++b::Y)
  have hl2:(0+I ((X++b::Y).map eV))=I ((X++ .mk z []::Y).map eV):=by simp
  have hp1:(I X:Int)<((0+I ((X++b::Y).map eV):Nat):Int):=by grind
  have hp2:Ao (0+I ((X++b::Y).map eV)) 32:=by grind
  have hp3:0+Z (I X:Int)*2+2<=I ([]++Ab ((X++b::Y).map eV)):=by grind
  refine zo [7] (.f<|.c (.tup [dG O,di e])<|.c1 (cn l a1) (dG G)<|.c1 (cn l a2) (dG ⟨X++b::Y,ba⟩)<|.h .g<|.h (.q 26 5)<|.h (.ga 119)<|.c1 (cn l a3) (di (I X))<|.c1 (cn l a4) (di z)<|.h .ww<|.h (.q 28 0)<|.h (.s [ke 2,ke 3,ke 4,ke 7,ke 13,ke 23,ke 25,ke 26]) .z) (decide ((i:Int)<(I Ms:Int))=false/\_/\_/\_/\Q 0/\U eV (Gph.mk (X++b::Y) ba).cs≠ []/\(∀(y:V),y∈U eV (Gph.mk (X++b::Y) ba).cs->V.size y=2)/\_/\Aa PP 7 [bq 0 0,di (↑(0+I (U eV (Gph.mk (X++b::Y) ba).cs)):Int)] (dz l a2) (di (I X:Int)) (dz l a3)/\_/\y6 (I X)/\_/\_/\((Q (some [bo 6 0 (0+I (U eV (Gph.mk (X++b::Y) ba).cs))])/\Q (some [bo 6 0 (0+I (U eV (Gph.mk (X++b::Y) ba).cs))])/\True)/\True/\True)/\Nv.It (BS (CN 0) PP (fun env σ1=>A7 PP gb env σ1 (db J) bd) [zt gb 32765,zt gb 16383] (AR (sub ej [1,1,1,1,1,1,1,1,1,1,1,1,0,0])) (W 0 (AR (sub ej [1,1,1,1,1,1,1,1,1,1,1,1,0,0])).toList) (cz 264 [(2,di fr),(3,di to),(4,di lb),(7,bt (bz (vG raw))),(13,bq 0 0),(23,bq 2 0),(25,bq 3 0),(26,bq 4 0)]) (bi [some (cn l a4),some (kg m),some [co O.cs,bt (gg O.ar)],some [co G.cs,bt (gg G.ar)],some [bo 6 0 (0+I (U eV (Gph.mk (X++b::Y) ba).cs)),bt (gg (Gph.mk (X++b::Y) ba).ar)],none,some (take (0+Z (I X:Int)*2) ([]++Ab (U eV (Gph.mk (X++b::Y) ba).cs))++[di z,bt (ae [])]++W (0+Z (I X:Int)*2+2) ([]++Ab (U eV (Gph.mk (X++b::Y) ba).cs)))] []))) ⟨HO (by omega),p1,g3,b4,rfl,by simp,fun y hy=>by grind[NY],hp2,by grind,r4,by omega,hp1,hp3,⟨⟨rfl,rfl,trivial⟩,trivial,trivial⟩,⟨?_⟩⟩
  rw[List.nil_append,show 0+Z (I X:Int)*2=I X*2 by omega,show [di z,bt (.list [])]=A2 (dV (.mk z [])) from rfl,hf,hl2]
  refine BS.cv (BA (p:=4) (q:=6) (i:=0) (sz:=2) (xs:=(X++ .mk z []::Y).map eV) (by decide) rfl rfl (by decide) rfl (fun y hy=>by grind[NY]) _) ?_
  refine OH mixed 264 [7] 28 0 (.h (.q 28 6)<|.h (.fa 3 [25])<|.lo [ke 2,ke 3,ke 4,ke 13,ke 25,ch 136 (.v (.list ([O,G,⟨X++ .mk z []::Y,ba⟩,raw].map vG))),ch 137 (di 4),ch 138 (di (0:Nat))] (dz l a4)) ?_
  refine @fu (bt (ae [aa [dq O.cs,gg O.ar],aa [dq G.cs,gg G.ar],aa [ae (U eV (X++b9.mk z []::Y)),gg (Gph.mk (X++b::Y) ba).ar],vG raw])=bt (ae [vG O,vG G,vG (Gph.mk (X++b9.mk z []::Y) ba),vG raw])/\di (I (aa (dq O.cs::gg O.ar::nV)::aa (dq G.cs::gg G.ar::nV)::aa (ae (U eV (X++b9.mk z []::Y))::gg (Gph.mk (X++b::Y) ba).ar::nV)::vG raw::nV):Int)=di 4/\di 0=di (↑0:Int)/\cp 1 [] [some (cn l a4)]=J/\Q [some (cn l a4)]/\I0 gb 0 (db J) bd [zu gb 131060,bh 4,zt gb 16383] (cz 264 [(2,di fr),(3,di to),(4,di lb),(13,bq 0 0),(25,bt (bz (aa [dq G.cs,gg G.ar]))),(136,bt (ae [vG O,vG G,vG (Gph.mk (X++b9.mk z []::Y) ba),vG raw])),(137,di 4),(138,di (↑0:Int))]) (dz l a4)) _ ?hv ?_
  case hv=>kernel_rfl
  exact⟨rfl,rfl,rfl,rfl,rfl,⟨h⟩⟩
 |succ n ih=>
  intro i a ha hn
  obtain⟨x,hxi⟩:∃x,Ms[i]?=some x:=⟨_,HK (show i<I Ms by omega)⟩
  have h:=Arf l a m raw fr to lb mo Ms hMs i (by omega) x (hB x (HQ hxi)) [mo,12,40,0] (by simp) _ _ (ih (i+1) a ha (by omega)) _ 0 rfl
  exact zo [7] (.t<|.x (Aq x)<|.h (.q 12 0)<|.h (.fa 2 [16])<|.lo [ke 2,ke 3,ke 4,ke 5,ke 7,ke 13,ke 14,ke 16,ke 65,ke 66,ke 67,ch 72 (cw [mo,12,40,0]),ch 73 (di 4),ch 74 (di (0:Nat))] (RB l a m)) (decide ((i:Int)<(I Ms:Int))=J/\y6 i/\(U Aq Ms)[Z (i:Int)]?=some (Aq x)/\Q (cw [mo,12,40,0])/\Q (di 4)/\Q (di 0)/\Q J/\Q (RB l a m).H/\_) ⟨HM (by omega),by omega,by simp[hxi],rfl,rfl,rfl,rfl,rfl,iK h⟩
theorem AcY(m:cx)(hm:DE m)(l:List UInt8)(hl:I l<=200)(a:Nat)(ha:a<=I l):∃(Ms:List cx) (a':Nat),I Ms<=1000/\(∀x∈Ms,ZJ x)/\a'<=I l/\Aa PP 9 [.ptr 0 0,Af m] (dz l a) (.v (.list (Ms.map Aq))) (dz l a'):=by
 obtain⟨x,e,a',h1,h2,h3⟩:=AcC m l hl a ha
 refine⟨[m,mB,x],a',by grind,fun y hy=>?_,h2,h3⟩
 simp only[IN,JE,or_false] at hy
 rcases hy with rfl|rfl|rfl
 ·exact hm.both
 ·exact Ats.both
 ·exact h1.both
theorem hs_spec(s:List UInt8)(raw:Gph)(fr to lb mo:Int)(_:I raw.ar<=9223372036854775807)(hr1:∀l∈raw.ar,I l<=9223372036854775807)(hr2:∀v∈raw.cs,v.fit):Aa PP 3 [.v (j1 s),dG raw,di fr,di to,di lb,di mo] bd (db J) bd:=by
 by_cases h1:I raw.cs<=5
 ·by_cases h2:I raw.ar<=6
  ·obtain⟨l,hl⟩:∃l,l=s.take 200:=⟨_,rfl⟩
   have hll:I l<=200:=by grind
   have hnew:=fun(o:yy) (c:Call) (fo:x8) (ho:o.op=.call c) (hc:c.callee=.value fo)=>hl▸Aoe s ho hc
   obtain⟨m,a0,hm,m2,m3⟩:=Akg l hll 0 (II _)
   obtain⟨k,a1,q1,q2,q3,q4⟩:=A6 l hll a0 m2 2 (by decide) (by decide)
   obtain⟨Ms,a3,c1,c2,c3,c4⟩:=AcY m hm l hll a1 q3
   obtain⟨m',a2,hm',s2,s3⟩:=AaS l hll a1 q3
   obtain⟨Ms',a4,d1,d2,d3,d4⟩:=AcY m' (.c hm') l hll a2 s2
   have hr:BT raw:=⟨by omega,by omega,hr1,hr2⟩
   have hA:=AjC l hll m hm.both raw hr fr to lb mo Ms c1 c2 _ 0 a3 c3 rfl
   have hA':=AjC l hll m' (DE.c hm').both raw hr fr to lb mo Ms' d1 d2 _ 0 a4 d3 rfl
   exact sv gb 264 [7] (.c (db J)<|.k<|.f<|.f<|.h (.oc (.ptr 0 0) (dz l 0))<|.c1 (cn l a0) (Af m)<|.c1 (cn l a1) (di k)<|.b (.c1 (cn l a2) (Af m')<|.c1 (cn l a4) (.v (.list (Ms'.map Aq)))<|.lo [ke 2,ke 3,ke 4,ke 5,ke 7,ke 13,ke 14,ch 65 (.v (.list (Ms'.map Aq))),ch 66 (di (I Ms')),ch 67 (di (0:Nat))] (RB l a4 m')) (.c1 (cn l a3) (.v (.list (Ms.map Aq)))<|.lo [ke 2,ke 3,ke 4,ke 5,ke 7,ke 13,ke 14,ch 65 (.v (.list (Ms.map Aq))),ch 66 (di (I Ms)),ch 67 (di (0:Nat))] (RB l a3 m))) (_/\decide ((I (c7 raw.cs):Int)>5)=false/\decide ((I (U Ai raw.ar):Int)>6)=false/\_/\_/\_/\((k==0)=J->type_of% s3/\type_of% d4/\Q (bt (ae (U Aq Ms')))/\di (I (U Aq Ms'):Int)=di (I Ms':Int)/\di 0=di (↑0:Int)/\Q J/\Q [some (cn l a4),some (kg m')]/\It (type_of% hA'))/\((k==0)=false->type_of% c4/\Q (bt (ae (U Aq Ms)))/\di (I (U Aq Ms):Int)=di (I Ms:Int)/\di 0=di (↑0:Int)/\Q J/\Q [some (cn l a3),some (kg m)]/\It (type_of% hA))) ⟨Ks,HO (by grind),HO (by grind),hnew,m3,q4,fun _=>⟨s3,d4,rfl,by rw[HJ],rfl,rfl,rfl,⟨hA'⟩⟩,fun _=>⟨c4,rfl,by rw[HJ],rfl,rfl,rfl,⟨hA⟩⟩⟩
  ·exact sv gb 264 [7] (.c (db J)<|.k<|.f<|.t .r) (_/\decide ((I (c7 raw.cs):Int)>5)=false/\decide ((I (U Ai raw.ar):Int)>6)=J/\Q (db J)) ⟨Ks,HO (by grind),HM (by grind),rfl⟩
 ·exact sv gb 264 [7] (.c (db J)<|.k<|.t<|.k .r) (_/\decide ((I (c7 raw.cs):Int)>5)=J/\Q (db J)) ⟨Ks,HM (by grind),rfl⟩
end Go.Proofs.YtgigepkgakpjbaaGreat
