/-
  A part of the proof.
-/
import Derived.Test.YtgigepkgakpjbaaGreatZc
import Derived.Test.YtgigepkgakpjbaaGreatZb
import Derived.Shelf.SlSortCmp.Whole1
import Derived.Shelf.SlSortCmp.NoneTotal
open Go.Proofs.Tryz renaming f72->Aia,f101->Aig,f170->Aih,f82->AjF,f85->AjG,f117->AjH,f16->AjM,f119->AjR,f104->AlD,f303->AoE,f287->AoF,f288->AoG,f105->AoV,f257->Ap0,f151->Ap1,f100->Apj,f227->Apk,f116->Apt,f36->Aq1,f154->Ar3,f228->ArL,f118->Arl,f46->Arq,f145->Ars,f298->Aru,f278->Arv,f305->Arx,f297->Ary,f289->As3,f300->As5,f70->As7,f215->As8,f103->As9,f285->AsU,f9->Ata,f169->Atg,f34->Ath,f10->E9,f11->El,f121->Em,f38->GP,f78->Hb,f40->He,f31->Hy,f79->Me,f172->Mk,f12->NS,f126->NV,f177->O2,f43->Pe,f214->Pi,f102->S8,f167->SF,f108->T4,f81->Vc,f28->YG,f89->YJ,f47->YK,f48->YL,f111->YM,f149->ZQ,f286->mf,f258->oy,f261->pm,f283->po,f83->qd,f262->qe,f259->qk,f73->ql,f35->s9,f137->sc,f132->th,f6->u7,f302->uk,f171->v7,f106->vz
open Go.Dv Go.Nv
set_option maxRecDepth 20000
open Go.IntKind (u64)
open Go.IntKind renaming wrap->yu,i64->yt
open List renaming length->I,map->U,drop->W
open Option renaming some->G
open Bool renaming true->J,false->O
open Decidable renaming decide->Y
open Int renaming toNat->Z
open Go.Dv.V renaming list->ae,str->ab,agg->aa,int->a8,ref->bz,fn->bw,nils->bv,bool->bu
open Go.Dv.D renaming v->bt,acc->br,ptr->bq,arr->bo,gro->bm,tup->bl,undef->bk,dagg->bj
open Go.Dv.St renaming mk->bi
open Go.Dv.KI renaming blk->bh
open _root_.ByteArray renaming mk->bf
open Go renaming Operand->x8,Program->x7,TypeId->x6,World->x5,Value->yz,Oper->yy,FuncId->yx,Func->yw,IntKind->yv
namespace Go.Proofs.YtgigepkgakpjbaaGreat
open List (ext_getElem? length_set map map_set replicate take zipWith)
def TM(P:x7)(t:x6):Bool:=match (P.fieldsOf t).toList with
 |[f,g]=>f.name !="_"&&g.name !="_"&&f.offset==0&&g.offset==1&&P.plainKey f.type&&P.plainKey g.type&&UV P f.type&&UV P g.type
 |_=>false
theorem AkM{P:x7}{t:x6}(h2:TM P t=J)(ht:P.underlying t=G (.struct (P.fieldsOf t)))(hp:P.stoodInHeld t=O)(d:Nat)(a b a' b':Int)(w:x5):
  (Op.equalIn (d+2) t (.agg #[.int .i64 a,.int .i64 b]) (.agg #[.int .i64 a',.int .i64 b'])).run P w=.ok (a==a'&&b==b') w:=by
 rw[run_equalIn_struct w (d+1) t _ _ ht hp]
 unfold TM at h2
 split at h2
 ·rename_i f g hfs
  rw[hfs]
  simp only[HL,bne_iff_ne,IJ] at h2
  obtain⟨⟨⟨⟨⟨⟨⟨n1,n2⟩,o1⟩,o2⟩,p1⟩,p2⟩,u1⟩,u2⟩:=h2
  have e1:∀w,(part f.type #[.int .i64 a,.int .i64 b] f.offset).run P w=.ok (.int .i64 a) w:=fun w=>run_part_plain w p1 (by grind)
  have e2:∀w,(part f.type #[.int .i64 a',.int .i64 b'] f.offset).run P w=.ok (.int .i64 a') w:=fun w=>run_part_plain w p1 (by grind)
  have e3:∀w,(part g.type #[.int .i64 a,.int .i64 b] g.offset).run P w=.ok (.int .i64 b) w:=fun w=>run_part_plain w p2 (by grind)
  have e4:∀w,(part g.type #[.int .i64 a',.int .i64 b'] g.offset).run P w=.ok (.int .i64 b') w:=fun w=>run_part_plain w p2 (by grind)
  simp only[Op.eqFields,ne_eq,n1,n2,not_false_eq_true,Jz,Sem.run_bind,e1,e2,Result.andThen_ok,run_equalIn_int _ d _ .i64 .i64 _ _ (Lc u1)]
  have u2':=fun w=>run_equalIn_int (P:=P) w d g.type .i64 .i64 b b' (Lc u2)
  cases h1:(a==a') with
  |true=>cases h3:(b==b')<;>simp[Sem.run_ite,e3,e4,u2',h3]
  |false=>simp
 grind
abbrev l8:x6:=63
theorem ApT:TM PP l8=J:=by kernel_rfl
theorem Ask:PP.underlying l8=G (.struct (PP.fieldsOf l8)):=by kernel_rfl
theorem Amo:PP.stoodInHeld l8=O:=by kernel_rfl
theorem AiT:PP.eqGuardType PP.depth l8=O:=by kernel_rfl
theorem Xu:Tw PP l8 2:=by rfl
theorem Wy{o:yy}{σ:St}{ty:x6}{x y:x8}(ho:o.op=.binOp .neq l8 x y ty)(a b:Aw):Ak PP o [.v (cg a),.v (cg b)] σ (db (a !=b)) σ:=by
 refine A8 fun E g ρ w hw hds=>?_
 simp only[ho,Op.operands,Ax] at hds
 obtain⟨u,v,e,h1,h2'⟩:=hds
 simp only[I9,Jo,HX,IL] at e
 obtain⟨e1,e2⟩:=e
 simp only[Ah,Cx] at h1 h2'
 obtain⟨ws,h1,rfl⟩:=h1
 obtain⟨vs,h3,rfl⟩:=h2'
 have hw1:ws=[.int .i64 a.1,.int .i64 a.2]:=by
  grind[repA,repC]
 have hw2:vs=[.int .i64 b.1,.int .i64 b.2]:=by
  grind[repA,repC]
 subst hw1 hw2
 refine⟨.bool (a !=b),?_,by simp[Ah]⟩
 have hb:(a.1==b.1&&a.2==b.2)=(a==b):=by rfl
 have hr:=AkM ApT Ask Amo 9998 a.1 a.2 b.1 b.2 w
 rw[hb] at hr
 simp[execOp,ho,e1,e2,run_eqGuard_agg w .neq l8 x y _ _ AiT,run_neq_struct,hr,bne]
def fx{α:Type}(p:α->α->Bool):List α->List α->Bool
 |[],[]=>true
 |a::l,b::m=>p a b&&fx p l m
 |_,_=>false
theorem K7{α:Type}{p:α->α->Bool}:∀{l m:List α},I l≠m.length->fx p l m=O
 |[],[],h=>absurd rfl h
 |a::l,b::m,h=>by rw[fx,K7 (l:=l) (m:=m) (by grind),JI]
 |[],_::_,_=>rfl
 |_::_,[],_=>rfl
theorem Dr{α:Type}{l:List α}{k:Nat}(h:k<I l):∃x,l[k]?=G x/\l.drop k=x::l.drop (k+1):=by simp_all
theorem Ac3{o:yy}{σ:St}{ty:x6}{x y:x8}(ho:o.op=.binOp .neq l8 x y ty)(a:Aw):Ak PP o [.v (cg a),.v (cg a)] σ (db O) σ:=by
 have:=Wy (σ:=σ) ho a a
 grind
theorem Ac2{o:yy}{σ:St}{ty:x6}{x y:x8}(ho:o.op=.binOp .neq l8 x y ty){a b:Aw}(h:a≠b):Ak PP o [.v (cg a),.v (cg b)] σ (db J) σ:=by
 have:=Wy (σ:=σ) ho a b
 grind
theorem LD{α β:Type}{f:α->β}{a b:List α}(h:I a=I b):((I (a.map f):Int) !=(I (b.map f):Int))=O:=by simp[h]
theorem LC{α β:Type}{f:α->β}{a b:List α}(h:I a≠b.length):((I (a.map f):Int) !=(I (b.map f):Int))=J:=by grind
noncomputable def Z7:=yl YL
noncomputable abbrev Awd:=(Oper.mk (G 24) (Op.binOp BinOp.neq 63 (Operand.tmp 19) (Operand.tmp 23) 63) 4 "slices.go:25" #[Edge.mk 3 Ground.data,Edge.mk 7 Ground.data] none)
noncomputable abbrev Ax1:=(Oper.mk (G 23) (Op.load 63 (Operand.tmp 22)) 63 "slices.go:25" #[Edge.mk 6 Ground.data] none)
theorem AdJ(a b:List Aw)(h:I a=I b)(ha:I a<=9223372036854775807)(n:Nat):∀k:Nat,I a-k=n->
  Rn PP YL 0 (db (fx (· == ·) (a.drop k) (b.drop k))) bd ([kl Z7 [1,1,0,1,0,0],.blk 0,kc Z7 [1,1,1]]++[]) (cz 26 [(0,.v (Ai a)),(1,.v (Ai b)),(12,di (I a)),(13,di k)]) bd:=by
 induction n with
 |zero=>
  intro k hn
  rw[I3 (by omega),I3 (by omega),fx]
  exact lv 26 [] (.f .r) (Y ((k:Int)<(I a:Int))=O/\Q (db J)) ⟨yq,rfl⟩
 |succ n ih=>
  intro k hn
  obtain⟨x,hx,ex⟩:=Dr (l:=a) (k:=k) (by omega)
  obtain⟨y,hy,ey⟩:=Dr (l:=b) (k:=k) (by omega)
  rw[ex,ey,fx]
  have hih:=ih (k+1) (by omega)
  by_cases hc:x=y
  ·subst hc
   rw[BEq.rfl,IG]
   exact lv 26 [] (.t<|.x (cg x)<|.x (cg x)<|.h (.p (.v (cg x)))<|.h (.p (db O))<|.f<|.ls [ke 0,ke 1,ke 12,ch 13 (di (k+1:Nat))] bd) (Y ((k:Int)<(I a:Int))=J/\0<=(k:Int)/\(U cg a)[Z (k:Int)]?=G (cg x)/\0<=(k:Int)/\(U cg b)[Z (k:Int)]?=G (cg x)/\(∀(τ:St),Ak PP Ax1 [bt (bz (cg x))] τ (bt (cg x)) τ)/\(∀(τ:St),Ak PP Awd [bt (cg x),bt (cg x)] τ (db O) τ)/\Q false/\di (yu yt ((k:Int)+1))=di (↑(k+1):Int)/\_) ⟨yr,by omega,Ae hx,by omega,Ae hy,fun τ=>Gf rfl Xu,fun τ=>Ac3 rfl x,rfl,by rw[Ac],iK hih⟩
  ·rw[IM.2 hc,IE]
   exact lv 26 [] (.t<|.x (cg x)<|.x (cg y)<|.h (.p (.v (cg y)))<|.h (.p (db J))<|.t<|.r) (Y ((k:Int)<(I a:Int))=J/\0<=(k:Int)/\(U cg a)[Z (k:Int)]?=G (cg x)/\0<=(k:Int)/\(U cg b)[Z (k:Int)]?=G (cg y)/\(∀(τ:St),Ak PP Ax1 [bt (bz (cg y))] τ (bt (cg y)) τ)/\(∀(τ:St),Ak PP Awd [bt (cg x),bt (cg y)] τ (db J) τ)/\Q true/\Q (db O)) ⟨yr,by omega,Ae hx,by omega,Ae hy,fun τ=>Gf rfl Xu,fun τ=>Ac2 rfl hc,rfl,rfl⟩
theorem AdI(a b:List Aw)(ha:I a<=9223372036854775807):F0 48 [.v (Ai a),.v (Ai b)] (db (fx (· == ·) a b)):=by
 by_cases h:I a=I b
 ·have hlp:=AdJ a b h ha _ 0 rfl
  rw[JG,JG] at hlp
  exact zq YL 26 (.f<|.ls [ke 0,ke 1,ch 12 (di (I a)),ch 13 (di (0:Nat))] bd) (((I (U cg a):Int) !=(I (U cg b):Int))=O/\di (I (U cg a):Int)=di (I a:Int)/\Q (di 0)/\_) ⟨LD h,by rw[HJ],rfl,iK hlp⟩
 ·rw[K7 h]
  exact zq YL 26 (.t .r) (((I (U cg a):Int) !=(I (U cg b):Int))=J/\Q (db O)) ⟨LC h,rfl⟩
noncomputable def Zw:=yl YG
noncomputable abbrev Awg:=(Oper.mk (G 25) (Op.binOp BinOp.neq 63 (Operand.tmp 20) (Operand.tmp 24) 63) 4 "ref.go:232" #[Edge.mk 3 Ground.data,Edge.mk 7 Ground.data] none)
noncomputable abbrev Ax5:=(Oper.mk (G 24) (Op.load 63 (Operand.tmp 23)) 63 "ref.go:232" #[Edge.mk 6 Ground.data] none)
theorem Abp(a b:List Aw)(h:I a=I b)(ha:I a<=9223372036854775807)(n:Nat):∀k:Nat,I a-k=n->
  Rn PP YG 0 (db (fx (· == ·) (a.drop k) (b.drop k))) bd ([kl Zw [1,1,0,1,0,0],.blk 0,kc Zw [1,1,1]]++[]) (cz 26 [(0,.v (Ai a)),(1,.v (Ai b)),(5,di k)]) bd:=by
 induction n with
 |zero=>
  intro k hn
  rw[I3 (by omega),I3 (by omega),fx]
  exact lv 26 [] (.f .r) (Y ((k:Int)<(I (U cg a):Int))=O/\Q (db J)) ⟨HO (by rw[HJ];omega),rfl⟩
 |succ n ih=>
  intro k hn
  obtain⟨x,hx,ex⟩:=Dr (l:=a) (k:=k) (by omega)
  obtain⟨y,hy,ey⟩:=Dr (l:=b) (k:=k) (by omega)
  rw[ex,ey,fx]
  have hih:=ih (k+1) (by omega)
  by_cases hc:x=y
  ·subst hc
   rw[BEq.rfl,IG]
   exact lv 26 [] (.t<|.x (cg x)<|.x (cg x)<|.h (.p (.v (cg x)))<|.h (.p (db O))<|.f<|.ls (qu k) bd) (Y ((k:Int)<(I (U cg a):Int))=J/\0<=(k:Int)/\(U cg a)[Z (k:Int)]?=G (cg x)/\0<=(k:Int)/\(U cg b)[Z (k:Int)]?=G (cg x)/\(∀(τ:St),Ak PP Ax5 [bt (bz (cg x))] τ (bt (cg x)) τ)/\(∀(τ:St),Ak PP Awg [bt (cg x),bt (cg x)] τ (db O) τ)/\Q false/\di (yu yt ((k:Int)+1))=di (↑(k+1):Int)/\_) ⟨HM (by rw[HJ];omega),by omega,Ae hx,by omega,Ae hy,fun τ=>Gf rfl Xu,fun τ=>Ac3 rfl x,rfl,by rw[Ac],iK hih⟩
  ·rw[IM.2 hc,IE]
   exact lv 26 [] (.t<|.x (cg x)<|.x (cg y)<|.h (.p (.v (cg y)))<|.h (.p (db J))<|.t<|.r) (Y ((k:Int)<(I (U cg a):Int))=J/\0<=(k:Int)/\(U cg a)[Z (k:Int)]?=G (cg x)/\0<=(k:Int)/\(U cg b)[Z (k:Int)]?=G (cg y)/\(∀(τ:St),Ak PP Ax5 [bt (bz (cg y))] τ (bt (cg y)) τ)/\(∀(τ:St),Ak PP Awg [bt (cg x),bt (cg y)] τ (db J) τ)/\Q true/\Q (db O)) ⟨HM (by rw[HJ];omega),by omega,Ae hx,by omega,Ae hy,fun τ=>Gf rfl Xu,fun τ=>Ac2 rfl hc,rfl,rfl⟩
theorem RM(a b:List Aw)(ha:I a<=9223372036854775807):F0 28 [.v (Ai a),.v (Ai b)] (db (fx (· == ·) a b)):=by
 by_cases h:I a=I b
 ·have hlp:=Abp a b h ha _ 0 rfl
  rw[JG,JG] at hlp
  exact zq YG 26 (.f<|.ls rq bd) (((I (U cg a):Int) !=(I (U cg b):Int))=O/\Q (di 0)/\_) ⟨LD h,rfl,iK hlp⟩
 ·rw[K7 h]
  exact zq YG 26 (.t .r) (((I (U cg a):Int) !=(I (U cg b):Int))=J/\Q (db O)) ⟨LC h,rfl⟩
noncomputable def P6:=yl Pe
noncomputable def P5:=yl NS
theorem YR(F:yx)(p:List Aw->List Aw->Bool)(a b:List (List Aw))(h:I a=I b)(ha:I a<=1000)(hp:∀x∈a,∀y,F0 F [.v (Ai x),.v (Ai y)] (db (p x y)))(n:Nat):∀k:Nat,I a-k=n->
  Rn PP YK 0 (db (fx p (a.drop k) (b.drop k))) bd ([zu YK 116,.blk 0,zt YK 15]++[]) (cz 32 [(0,dl (a.map Ai)),(1,dl (b.map Ai)),(2,dfn F),(15,dl (a.map Ai)),(16,di (I a)),(17,di k)]) bd:=by
 induction n with
 |zero=>
  intro k hn
  rw[I3 (by omega),I3 (by omega),fx]
  exact zp (.f .r) (yd k (I a)/\Q (db J)) ⟨yq,rfl⟩
 |succ n ih=>
  intro k hn
  obtain⟨x,hx,ex⟩:=Dr (l:=a) (k:=k) (by omega)
  obtain⟨y,hy,ey⟩:=Dr (l:=b) (k:=k) (by omega)
  rw[ex,ey,fx]
  have hih:=ih (k+1) (by omega)
  have hc:=hp x (HQ hx) y
  cases hb:p x y with
  |true=>
   rw[hb] at hc
   rw[IG]
   exact zp (.t<|.x (Ai x)<|.x (Ai y)<|.c (db J)<|.f<|.ls [ke 0,ke 1,ke 2,ke 15,ke 16,ch 17 (zw k)] bd) (ye k (I a)/\y6 k/\zy (U Ai a) k (Ai x)/\y6 k/\zy (U Ai b) k (Ai y)/\_/\(!true)=O/\zx k/\_) ⟨yr,by omega,Ae hx,by omega,Ae hy,hc,rfl,Ac,iK hih⟩
  |false=>
   rw[hb] at hc
   rw[IE]
   exact zp (.t<|.x (Ai x)<|.x (Ai y)<|.c (db O)<|.t<|.r) (ye k (I a)/\y6 k/\zy (U Ai a) k (Ai x)/\y6 k/\zy (U Ai b) k (Ai y)/\_/\(!false)=J/\Q (db O)) ⟨yr,by omega,Ae hx,by omega,Ae hy,hc,rfl,rfl⟩
theorem YQ(F:yx)(p:List Aw->List Aw->Bool)(a b:List (List Aw))(ha:I a<=1000)(hp:∀x∈a,∀y,F0 F [.v (Ai x),.v (Ai y)] (db (p x y))):F0 47 [dl (a.map Ai),dl (b.map Ai),dfn F] (db (fx p a b)):=by
 by_cases h:I a=I b
 ·have hlp:=YR F p a b h ha hp _ 0 rfl
  rw[JG,JG] at hlp
  exact zq YK 32 (.f<|.ls [ke 0,ke 1,ke 2,ke 15,ch 16 (di (I a)),ch 17 (di (0:Nat))] bd) (((I (U Ai a):Int) !=(I (U Ai b):Int))=O/\di (I (U Ai a):Int)=di (I a:Int)/\Q (di 0)/\_) ⟨LD h,by rw[HJ],rfl,iK hlp⟩
 ·rw[K7 h]
  exact zq YK 32 (.t .r) (((I (U Ai a):Int) !=(I (U Ai b):Int))=J/\Q (db O)) ⟨LC h,rfl⟩
theorem YP(F:yx)(p:b9->b9->Bool)(a b:List b9)(h:I a=I b)(ha:I a<=1000)(hp:∀x∈a,∀y,F0 F [.v (Ad x),.v (Ad y)] (db (p x y)))(n:Nat):∀k:Nat,I a-k=n->
  Rn PP YJ 0 (db (fx p (a.drop k) (b.drop k))) bd ([zu YJ 116,.blk 0,zt YJ 15]++[]) (cz 32 [(0,dl (a.map Ad)),(1,dl (b.map Ad)),(2,dfn F),(15,dl (a.map Ad)),(16,di (I a)),(17,di k)]) bd:=by
 induction n with
 |zero=>
  intro k hn
  rw[I3 (by omega),I3 (by omega),fx]
  exact zp (.f .r) (yd k (I a)/\Q (db J)) ⟨yq,rfl⟩
 |succ n ih=>
  intro k hn
  obtain⟨x,hx,ex⟩:=Dr (l:=a) (k:=k) (by omega)
  obtain⟨y,hy,ey⟩:=Dr (l:=b) (k:=k) (by omega)
  rw[ex,ey,fx]
  have hih:=ih (k+1) (by omega)
  have hc:=hp x (HQ hx) y
  cases hb:p x y with
  |true=>
   rw[hb] at hc
   rw[IG]
   exact zp (.t<|.x (Ad x)<|.x (Ad y)<|.c (db J)<|.f<|.ls [ke 0,ke 1,ke 2,ke 15,ke 16,ch 17 (zw k)] bd) (ye k (I a)/\y6 k/\zy (U Ad a) k (Ad x)/\y6 k/\zy (U Ad b) k (Ad y)/\_/\(!true)=O/\zx k/\_) ⟨yr,by omega,Ae hx,by omega,Ae hy,hc,rfl,Ac,iK hih⟩
  |false=>
   rw[hb] at hc
   rw[IE]
   exact zp (.t<|.x (Ad x)<|.x (Ad y)<|.c (db O)<|.t<|.r) (ye k (I a)/\y6 k/\zy (U Ad a) k (Ad x)/\y6 k/\zy (U Ad b) k (Ad y)/\_/\(!false)=J/\Q (db O)) ⟨yr,by omega,Ae hx,by omega,Ae hy,hc,rfl,rfl⟩
theorem YO(F:yx)(p:b9->b9->Bool)(a b:List b9)(ha:I a<=1000)(hp:∀x∈a,∀y,F0 F [.v (Ad x),.v (Ad y)] (db (p x y))):F0 89 [dl (a.map Ad),dl (b.map Ad),dfn F] (db (fx p a b)):=by
 by_cases h:I a=I b
 ·have hlp:=YP F p a b h ha hp _ 0 rfl
  rw[JG,JG] at hlp
  exact zq YJ 32 (.f<|.ls [ke 0,ke 1,ke 2,ke 15,ch 16 (di (I a)),ch 17 (di (0:Nat))] bd) (((I (U Ad a):Int) !=(I (U Ad b):Int))=O/\di (I (U Ad a):Int)=di (I a:Int)/\Q (di 0)/\_) ⟨LD h,by rw[HJ],rfl,iK hlp⟩
 ·rw[K7 h]
  exact zq YJ 32 (.t .r) (((I (U Ad a):Int) !=(I (U Ad b):Int))=J/\Q (db O)) ⟨LC h,rfl⟩
def XY(a b:b9):Bool:=Ay a b==0
def qh(A B:Gph):Bool:=fx XY A.cs B.cs&&fx (fx (· == ·)) A.ar B.ar
theorem AcI(l:List b9):l.map eV=l.map Ad:=List.map_congr_left fun v _=>AE v
theorem WM{l:List b9}{k:Nat}{x:b9}(h:l[k]?=G x):(l.map eV)[Z (k:Int)]?=G (Ad x):=by grind[AcI]
theorem Abe(a b:List b9)(ha:I a<=1000)(hf:∀v∈a,v.fit):F0 46 [co a,co b] (db (fx XY a b)):=by
 have h:=YO 76 XY a b ha fun x hx y=>MQ x y (hf x hx)
 rw[←AcI, ←AcI] at h
 generalize fx XY a b=r at*
 refine zq Arq 8 (.c (db r) .r) (type_of% h/\Q (db r)) ?_
 grind
theorem Ag0(a b:List b9)(h:I a=I b)(ha:I a<=1000)(hf:∀v∈a,v.fit)(n:Nat):∀k:Nat,I a-k=n->
  Rn PP Pe 0 (db (fx XY (a.drop k) (b.drop k))) bd ([kl P6 [1,1,0,1,0,0],.blk 0,kc P6 [1,1,1]]++[]) (cz 27 [(0,co a),(1,co b),(5,di k)]) bd:=by
 induction n with
 |zero=>
  intro k hn
  rw[I3 (by omega),I3 (by omega),fx]
  exact lv 27 [] (.f .r) (Y ((k:Int)<(I (U eV a):Int))=O/\Q (db J)) ⟨HO (by rw[HJ];omega),rfl⟩
 |succ n ih=>
  intro k hn
  obtain⟨x,hx,ex⟩:=Dr (l:=a) (k:=k) (by omega)
  obtain⟨y,hy,ey⟩:=Dr (l:=b) (k:=k) (by omega)
  rw[ex,ey,fx]
  have hih:=ih (k+1) (by omega)
  have hc:=MU x y (hf x (HQ hx))
  rw[←XY] at hc
  cases hb:XY x y with
  |true=>
   rw[hb] at hc
   rw[IG]
   exact lv 27 [] (.t<|.x (Ad x)<|.x (Ad y)<|.c (db J)<|.f<|.ls (qu k) bd) (Y ((k:Int)<(I (U eV a):Int))=J/\0<=(k:Int)/\(U eV a)[Z (k:Int)]?=G (Ad x)/\0<=(k:Int)/\(U eV b)[Z (k:Int)]?=G (Ad y)/\_/\(!true)=O/\di (yu yt ((k:Int)+1))=di (↑(k+1):Int)/\_) ⟨HM (by rw[HJ];omega),by omega,WM hx,by omega,WM hy,hc,rfl,by rw[Ac],iK hih⟩
  |false=>
   rw[hb] at hc
   rw[IE]
   exact lv 27 [] (.t<|.x (Ad x)<|.x (Ad y)<|.c (db O)<|.t<|.r) (Y ((k:Int)<(I (U eV a):Int))=J/\0<=(k:Int)/\(U eV a)[Z (k:Int)]?=G (Ad x)/\0<=(k:Int)/\(U eV b)[Z (k:Int)]?=G (Ad y)/\_/\(!false)=J/\Q (db O)) ⟨HM (by rw[HJ];omega),by omega,WM hx,by omega,WM hy,hc,rfl,rfl⟩
theorem Agz(a b:List b9)(ha:I a<=1000)(hf:∀v∈a,v.fit):F0 43 [co a,co b] (db (fx XY a b)):=by
 by_cases h:I a=I b
 ·have hlp:=Ag0 a b h ha hf _ 0 rfl
  rw[JG,JG] at hlp
  exact zq Pe 27 (.f<|.ls rq bd) (((I (U eV a):Int) !=(I (U eV b):Int))=O/\Q (di 0)/\_) ⟨LD h,rfl,iK hlp⟩
 ·rw[K7 h]
  exact zq Pe 27 (.t .r) (((I (U eV a):Int) !=(I (U eV b):Int))=J/\Q (db O)) ⟨LC h,rfl⟩
theorem AcX(A B:Gph)(hA:BT A):F0 16 [dG A,dG B] (db (qh A B)):=by
 have h1:=Abe A.cs B.cs hA.cs hA.fit
 have h2:=YQ 48 (fx (· == ·)) A.ar B.ar hA.ar fun x hx y=>AdI x y (hA.row x hx)
 rw[qh]
 generalize fx (fx (· == ·)) A.ar B.ar=r at*
 cases hb:fx XY A.cs B.cs with
 |true=>
  refine sv AjM 17 [2,3] (.c (db J)<|.k<|.c (db r)<|.r) (F0 46 [co A.cs,co B.cs] (db J)/\type_of% h2/\Q (db r)) ?_
  grind
 |false=>
  refine sv AjM 17 [2,3] (.c (db O)<|.k<|.r) (F0 46 [co A.cs,co B.cs] (db O)/\Q (db O)) ?_
  grind
theorem Agy(A B:Gph)(h:I A.ar=I B.ar)(hA:BT A)(n:Nat):∀k:Nat,I A.ar-k=n->
  Rn PP NS 0 (db (fx (fx (· == ·)) (A.ar.drop k) (B.ar.drop k))) bd ([kl P5 [1,1,0,1,0,0],.blk 0,kc P5 [1,1,1]]++[]) (cz 40 [(2,.v (.ref (vG A))),(3,.v (.ref (vG B))),(5,di k)]) bd:=by
 have hl:=hA.ar
 induction n with
 |zero=>
  intro k hn
  rw[I3 (by omega),I3 (by omega),fx]
  exact lv 40 [2,3] (.f .r) (Y ((k:Int)<(I (U Ai A.ar):Int))=O/\Q (db J)) ⟨HO (by rw[HJ];omega),rfl⟩
 |succ n ih=>
  intro k hn
  obtain⟨x,hx,ex⟩:=Dr (l:=A.ar) (k:=k) (by omega)
  obtain⟨y,hy,ey⟩:=Dr (l:=B.ar) (k:=k) (by omega)
  rw[ex,ey,fx]
  have hih:=ih (k+1) (by omega)
  have hc:=RM x y (hA.row x (HQ hx))
  cases hb:fx (· == ·) x y with
  |true=>
   rw[hb] at hc
   rw[IG]
   exact lv 40 [2,3] (.t<|.x (Ai x)<|.x (Ai y)<|.c (db J)<|.f<|.ls [ke 2,ke 3,ch 5 (di (k+1:Nat))] bd) (Y ((k:Int)<(I (U Ai A.ar):Int))=J/\0<=(k:Int)/\(U Ai A.ar)[Z (k:Int)]?=G (Ai x)/\0<=(k:Int)/\(U Ai B.ar)[Z (k:Int)]?=G (Ai y)/\_/\(!true)=O/\di (yu yt ((k:Int)+1))=di (↑(k+1):Int)/\_) ⟨HM (by rw[HJ];omega),by omega,Ae hx,by omega,Ae hy,hc,rfl,by rw[Ac],iK hih⟩
  |false=>
   rw[hb] at hc
   rw[IE]
   exact lv 40 [2,3] (.t<|.x (Ai x)<|.x (Ai y)<|.c (db O)<|.t<|.r) (Y ((k:Int)<(I (U Ai A.ar):Int))=J/\0<=(k:Int)/\(U Ai A.ar)[Z (k:Int)]?=G (Ai x)/\0<=(k:Int)/\(U Ai B.ar)[Z (k:Int)]?=G (Ai y)/\_/\(!false)=J/\Q (db O)) ⟨HM (by rw[HJ];omega),by omega,Ae hx,by omega,Ae hy,hc,rfl,rfl⟩
theorem MX(A B:Gph)(hA:BT A):F0 12 [dG A,dG B] (db (qh A B)):=by
 have h1:=Agz A.cs B.cs hA.cs hA.fit
 rw[qh]
 cases hb:fx XY A.cs B.cs with
 |false=>
  refine sv NS 40 [2,3] (.c (db O)<|.k<|.r) (F0 43 [co A.cs,co B.cs] (db O)/\Q (db O)) ?_
  grind
 |true=>
  rw[hb] at h1
  by_cases h:I A.ar=I B.ar
  ·have hlp:=Agy A B h hA _ 0 rfl
   rw[JG,JG] at hlp
   exact sv NS 40 [2,3] (.c (db J)<|.k<|.f<|.ls w5 bd) (_/\((I (U Ai A.ar):Int) !=(I (U Ai B.ar):Int))=O/\Q (di 0)/\_) ⟨h1,LD h,rfl,iK hlp⟩
  ·rw[K7 h]
   exact sv NS 40 [2,3] (.c (db J)<|.k<|.t .r) (_/\((I (U Ai A.ar):Int) !=(I (U Ai B.ar):Int))=J/\Q (db O)) ⟨h1,LC h,rfl⟩
def ia(most:Int):List er->List b9->List Aw->Option (List b9×List Aw)
 |[],cs,row=>some (cs,row)
 |s::l,cs,row=>if decide (AZ cs s.2<0)=true then(if decide ((cs.length:Int)>=most)=true then none else ia most l (cs++[s.2]) (row++[(s.1,(cs.length:Int))])) else ia most l cs (row++[(s.1,AZ cs s.2)])
def Ra(S:b9->List er×Int)(most:Int):Nat->List b9->As->(List b9×As)×Int
 |0,cs,A=>((cs,A),0)
 |n+1,cs,A=>match cs[A.length]? with
  |none=>((cs,A),0)
  |some c=>if ((S c).2 !=0)=true then(([],[]),(S c).2) else match ia most (S c).1 cs [] with
   |none=>(([],[]),1)
   |some (cs',row)=>Ra S most n cs' (A++[row])
theorem idN(l:List b9)(v:b9):decide (AZ l v<0)=true↔v∉l:=by
 have h:=Fp (fun x=>Ay x v==0) l 0
 grind[AZ,EB]
theorem Al2{l:List b9}{v:b9}(h:¬decide (AZ l v<0)=true):0<=AZ l v/\l[(AZ l v).toNat]?=some v:=by
 have key:∀(l:List b9) (i:Nat),0<=dv (fun x=>Ay x v==0) l i->(i:Int)<=dv (fun x=>Ay x v==0) l i/\l[(dv (fun x=>Ay x v==0) l i).toNat-i]?=some v:=by
  intro l
  induction l with
  |nil=>intro i h;simp[dv] at h
  |cons x l ih=>
   intro i h
   rw[dv] at h⊢
   split
   ·rename_i hx
    rw[IJ,EB] at hx
    simp[hx]
   ·rename_i hx
    rw[Iz hx] at h
    obtain⟨h1,h2⟩:=ih (i+1) h
    refine⟨by omega,?_⟩
    have e:(dv (fun x=>Ay x v==0) l (i+1)).toNat-i=(dv (fun x=>Ay x v==0) l (i+1)).toNat- (i+1)+1:=by omega
    rw[e];simpa using h2
 grind[AZ]
def mq(cs:List b9)(L:List er)(row:List Aw):Prop:=row.length=L.length/\∀(k:Nat) (s:er),L[k]?=some s->∃a,row[k]?=some a/\a.1=s.1/\0<=a.2/\a.2<cs.length/\cs[a.2.toNat]?=some s.2
theorem mq.grow{cs:List b9}{L:List er}{row:List Aw}(h:mq cs L row)(t:List b9):mq (cs++t) L row:=by
 grind[mq]
theorem mq.snoc{cs:List b9}{L:List er}{row:List Aw}(h:mq cs L row){s:er}{x:Int}(h0:0<=x)(hx:cs[x.toNat]?=some s.2):mq cs (L++[s]) (row++[(s.1,x)]):=by
 have hlt:=(HN.1 hx).1
 refine⟨by simp[h.1],fun k s' hs=>?_⟩
 rw[List.getElem?_append] at hs⊢
 rw[h.1]
 split at hs
 ·rename_i hk;rw[I4 hk];exact h.2 k s' hs
 ·rename_i hk
  rw[Iz hk]
  have e:k-L.length=0:=by
   grind
  simp_all
structure Aq4(S:b9->List er×Int)(C:b9->Prop)(st:b9)(most:Int)(cs:List b9):Prop where
 st:cs[0]?=some st
 nodup:cs.Nodup
 len:(cs.length:Int)<=most
 cfg:∀v∈cs,C v
 fnd:∀(j:Nat) v,0<j->cs[j]?=some v->∃(i:Nat) (c:b9),i<j/\cs[i]?=some c/\∃s∈ (S c).1,s.2=v
theorem AeD{S:b9->List er×Int}{C:b9->Prop}{st c:b9}{most:Int}{cs0:List b9}{at':Nat}(hc:cs0[at']?=some c):∀(l L0:List er) (cs:List b9) (row:List Aw) (cs':List b9) (row':List Aw),ia most l cs row=some (cs',row')->Aq4 S C st most cs->(∃t,cs=cs0++t)->mq cs L0 row->(∀s∈l,C s.2)->(∀s∈l,s∈ (S c).1)->
  Aq4 S C st most cs'/\(∃t,cs'=cs++t)/\mq cs' (L0++l) row'
 |[],L0,cs,row,cs',row',h,hf,_,hr,_,_=>by
  simp only[ia,IF,Prod.mk.injEq] at h
  simp_all
 |s::l,L0,cs,row,cs',row',h,hf,ht,hr,hC,hs=>by
  obtain⟨t,rfl⟩:=ht
  rw[ia] at h
  split at h
  ·rename_i hi
   split at h
   ·cases h
   ·rename_i hm
    have hni:s.2∉cs0++t:=by
     have:=(idN (cs0++t) s.2).1 hi
     exact this
    have hat:=(HN.1 hc).1
    have hf2:Aq4 S C st most (cs0++t++[s.2]):={
     st:=by
      rw[I5 (by simp;omega)];exact hf.st
     nodup:=List.nodup_append.2 ⟨hf.nodup,by simp,fun a ha b hb=>by rw[Ia.1 hb];exact fun e=>hni (e▸ha)⟩
     len:=by simp at hm⊢;omega
     cfg:=fun v hv=>by
      rcases IV.1 hv with hv|hv
      ·exact hf.cfg v hv
      ·rw[Ia.1 hv];exact hC s (by simp)
     fnd:=fun j v hj hv=>by
      rw[List.getElem?_append] at hv
      split at hv
      ·obtain⟨i,c',h1,h2,h3⟩:=hf.fnd j v hj hv
       exact⟨i,c',h1,by rw[I5 (by have:=(HN.1 h2).1;omega)];exact h2,h3⟩
      ·rename_i hlt
       have hj2:j=(cs0++t).length:=by have:=(HN.1 hv).1;simp at this hlt⊢;omega
       rw[hj2] at hv;simp at hv
       refine⟨at',c,by simp at hlt;omega,by rw[Jx,I5 (by omega)];exact hc,s,hs s (by simp),hv⟩}
    have hr2:mq (cs0++t++[s.2]) (L0++[s]) (row++[(s.1,((cs0++t).length:Int))]):=(hr.grow [s.2]).snoc (by omega) (by rw[Jy,I2 (HR _)];simp)
    obtain⟨g1,⟨u,g2⟩,g3⟩:=AeD hc l (L0++[s]) _ _ cs' row' h hf2 ⟨t++[s.2],by simp⟩ hr2 (fun s hs=>hC s (by simp[hs])) (fun x hx=>hs x (by simp[hx]))
    grind
  ·rename_i hi
   obtain⟨h0,h1⟩:=Al2 hi
   obtain⟨g1,g2,g3⟩:=AeD hc l (L0++[s]) _ _ cs' row' h hf ⟨t,rfl⟩ (hr.snoc h0 h1) (fun s hs=>hC s (by simp[hs])) (fun x hx=>hs x (by simp[hx]))
   grind
structure ta(S:b9->List er×Int)(C:b9->Prop)(st:b9)(most:Int)(cs:List b9)(A:As):Prop where
 fi:Aq4 S C st most cs
 len:A.length<=cs.length
 row:∀(i:Nat) (r:List Aw),A[i]?=some r->∃c,cs[i]?=some c/\(S c).2=0/\mq cs (S c).1 r
theorem AeC{S:b9->List er×Int}{C:b9->Prop}{st:b9}{most:Int}(hS:∀v,C v->∀s∈ (S v).1,C s.2):∀(n:Nat) (cs:List b9) (A:As),ta S C st most cs A->most<n+A.length->(Ra S most n cs A).2=0->ta S C st most (Ra S most n cs A).1.1 (Ra S most n cs A).1.2/\(Ra S most n cs A).1.2.length=(Ra S most n cs A).1.1.length
 |0,cs,A,h,hn,_=>by have h1:=h.len;have h2:=h.fi.len;omega
 |n+1,cs,A,h,hn,he=>by
  have h1:=h.len
  rw[Ra] at he⊢
  split
  ·grind
  ·rename_i c hc
   rw[hc] at he
   dsimp only at he
   split at he
   ·grind
   ·rename_i h2
    rw[Iz h2]
    have h2:(S c).2=0:=by grind
    have hcc:=h.fi.cfg c (HQ hc)
    cases hb:ia most (S c).1 cs [] with
    |none=>grind
    |some p=>
     obtain⟨cs',row⟩:=p
     rw[hb] at he
     dsimp only at he⊢
     obtain⟨g1,⟨t,g2⟩,g3⟩:=AeD hc (S c).1 [] cs [] cs' row hb h.fi ⟨[],by simp⟩ ⟨rfl,fun k s hs=>by grind⟩ (hS c hcc) (fun s hs=>hs)
     refine AeC hS n cs' (A++[row]) ⟨g1,?_,fun i r hr=>?_⟩ (by grind) he
     ·grind
     ·rw[List.getElem?_append] at hr
      split at hr
      ·obtain⟨c',k1,k2,k3⟩:=h.row i r hr
       grind[mq]
      grind
theorem ta.first{S:b9->List er×Int}{C:b9->Prop}{st:b9}{most:Int}(hm:1<=most)(hC:C st):ta S C st most [st] [] where
 fi:={ st:=rfl,nodup:=by simp,len:=by simpa using hm,cfg:=by simpa using hC,fnd:=fun j v hj hv=>by(have:=(HN.1 hv).1;simp at this;omega)}
 len:=by simp
 row:=fun i r hr=>by simp at hr
theorem OO{P:x7}{o:yy}{σ:St}{t:x6}{parts:Array (Nat×x8)}(ho:o.op=.build t parts){z:List V}{ay:List (Nat×Nat)}(hst:Lb P t=J)(hb:ua P t=G (z,ay)){ds:List D}{xs:List (Nat×D)}{out:List D}
  (hx:n7 parts.toList ds=G xs) (hf:Vb ay (z.map .v) xs=G out):Ak P o ds σ (.dagg out) σ:=by
 intro E g a w K Q hw hds hK
 simp only[ho,Op.operands] at hds
 unfold ua at hb
 unfold Lb at hst
 have key:∃U,P.built t (parts.toList.map fun p=>(p.1,a.eval p.2))=G U/\Ag g out U.toList:=by
  cases hz:Oy P t with
  |none=>grind
  |some z0=>
   obtain⟨i,zv,hi,hz1,hcv⟩:=Kr hz
   cases hu:P.underlying t with
   |none=>grind
   |some dd=>
    cases dd<;>simp only[hz,hu,reduceCtorEq] at hb hst
    case struct fs=>
     cases hp:fs.toList.mapM (fun f=>(P.info? f.type).map fun i=>(f.offset,i.size)) with
     |none=>grind
     |some pl=>
      simp[hp] at hb
      obtain⟨rfl,rfl⟩:=hb
      obtain⟨U,hU,hrU⟩:=NP (a:=a) hx (by grind[Function.comp_def]) (D7 (Eo (M:=g.M) hcv)).1 hf
      grind[Program.built]
 obtain⟨U,hU,hrU⟩:=key
 have:=hK g w (.agg U) hw g.le_refl (by grind[Ah])
 have hrun:=run_build (P:=P) w t (parts.map fun p=>(p.1,a.eval p.2)) U (by simp_all)
 unfold Oper.wp execOp
 simp only[ho]
 simp only[Sem.run_bind]
 rw[show(parts.map fun(x:Nat×x8)=>match x with|(i,x)=>(i,a.eval x))=parts.map fun p=>(p.1,a.eval p.2) from rfl,hrun]
 exact this
noncomputable def AW:=yl E9
abbrev f7:List D:=[.v .nils,.v .nils]
abbrev ZN(cs:List b9)(A:As):St:=⟨[G f7,G [.acc 1 (cs.map eV),.acc 2 (A.map Ai)]],[(2,1,A.map Ai),(1,2,cs.map eV)]⟩
abbrev CV(cs:List b9)(A:As)(row:List Aw):St:=⟨[G f7,G [.acc 1 (cs.map eV),.acc 2 (A.map Ai)]],[(3,2,row.map cg),(2,1,A.map Ai),(1,2,cs.map eV)]⟩
structure Aq5(m:cx)(S:b9->List er×Int)(C:b9->Prop):Prop where
 walks:F0 36 [Af m] (di 0)
 all:∀c,C c->F0 38 [Af m,dV c] (fv (S c))
 cl:∀c,C c->∀s∈ (S c).1,C s.2
 st:C m.start
 sz:∀c,C c->c.size<=1000
 len:∀c,C c->(S c).1.length<=1000000
theorem Al4(m:cx)(most:Int)(cs:List b9)(A:As)(row:List Aw)(at' k:Nat)(l:List er)(hl:I l<=1000000)(hrl:I row<=1000000)(s:er)(hs:l[k]?=G s)(res:D)
  (hI:F0 39 [co cs,dV s.2] (di (AZ cs s.2))) (hx:Y (AZ cs s.2<0)=O)
  (next:Rn PP E9 0 res bd ([zu E9 512628,.blk 2,zt E9 64079,.blk 1,zt E9 2003,zu E9 500,.blk 0,zt E9 63]++[]) (cz 97 [(1,di most),(2,.v (.ref (Aq m))),(4,.ptr 0 0),(7,.ptr 1 0),(8,di at'),(11,.acc 3 ((row++[(s.1,AZ cs s.2)]).map cg)),(54,.v (FA l)),(55,di (I l)),(56,zw k)]) (CV cs A (row++[(s.1,AZ cs s.2)]))):
  Rn PP E9 0 res bd ([zu E9 512628,.blk 2,zt E9 64079,.blk 1,zt E9 2003,zu E9 500,.blk 0,zt E9 63]++[]) (cz 97 [(1,di most),(2,.v (.ref (Aq m))),(4,.ptr 0 0),(7,.ptr 1 0),(8,di at'),(11,.acc 3 (row.map cg)),(54,.v (FA l)),(55,di (I l)),(56,di k)]) (CV cs A row):=by
 have hk:=(HN.1 hs).1
 rw[J5,List.map_singleton] at next
 exact zo [2] (.t<|.x (eb s)<|.c (di (AZ cs s.2))<|.f<|.lo [ke 1,ke 2,ke 4,ke 7,ke 8,ke 11,ke 54,ke 55,ch 56 (zw k)] (CV cs A (row++[(s.1,AZ cs s.2)]))) (ye k (I l)/\y6 k/\zy (map eb l) k (eb s)/\_/\_/\Q (map cg row)/\Ao (I (map cg row)+I (aa (vi s.fst::a8 yt (AZ cs s.snd)::nV)::nV)) 16/\zx k/\Q J/\Q (CV cs A (row++[(s.1,AZ cs s.2)])).H/\[(3,2,map cg row++aa (vi s.fst::vi (AZ cs s.snd)::nV)::nV),(2,1,map Ai A),(1,2,map eV cs)]=[(3,2,map cg (row++[(s.fst,AZ cs s.snd)])),(2,1,map Ai A),(1,2,map eV cs)]/\_) ⟨yr,by omega,Ae hs,hI,hx,rfl,⟨by grind,by grind⟩,by grind[Ac],rfl,rfl,by simp,iK next⟩
noncomputable abbrev nz:=(Gph.mk [] [])
noncomputable abbrev w6:=(aa [ae [],ae []])
theorem AcZ(m:cx)(most:Int)(cs:List b9)(A:As)(row:List Aw)(at' k:Nat)(l:List er)(_:I l<=1000000)(_:I row<=1000000)(s:er)(hs:l[k]?=G s)
  (hI:F0 39 [co cs,dV s.2] (di (AZ cs s.2))) (hx:Y (AZ cs s.2<0)=J) (hf:Y ((I cs:Int)>=most)=J):
  Rn PP E9 0 (.tup [dG ⟨[],[]⟩,di 1]) bd ([zu E9 512628,.blk 2,zt E9 64079,.blk 1,zt E9 2003,zu E9 500,.blk 0,zt E9 63]++[]) (cz 97 [(1,di most),(2,.v (.ref (Aq m))),(4,.ptr 0 0),(7,.ptr 1 0),(8,di at'),(11,.acc 3 (row.map cg)),(54,.v (FA l)),(55,di (I l)),(56,di k)]) (CV cs A row):=by
 refine zo [2] (.t<|.x (eb s)<|.c (di (AZ cs s.2))<|.t<|.t<|.r) (ye k (I l)/\y6 k/\zy (map eb l) k (eb s)/\type_of% hI/\ye (AZ cs s.snd) 0/\y8 (I (map eV cs)) most/\Q (bl [dG nz,di 1])) ?_
 grind
theorem AhQ(m:cx)(most:Int)(cs:List b9)(A:As)(row:List Aw)(at' k:Nat)(l:List er)(hl:I l<=1000000)(hrl:I row<=1000000)(s:er)(hs:l[k]?=G s)(res:D)
  (hI:F0 39 [co cs,dV s.2] (di (AZ cs s.2))) (hx:Y (AZ cs s.2<0)=J) (hf:Y ((I cs:Int)>=most)=O) (hcl:I cs<=1000) (hO:F0 37 [dV s.2] (.v (Ad s.2)))
  (next:Rn PP E9 0 res bd ([zu E9 512628,.blk 2,zt E9 64079,.blk 1,zt E9 2003,zu E9 500,.blk 0,zt E9 63]++[]) (cz 97 [(1,di most),(2,.v (.ref (Aq m))),(4,.ptr 0 0),(7,.ptr 1 0),(8,di at'),(11,.acc 3 ((row++[(s.1,(I cs:Int))]).map cg)),(54,.v (FA l)),(55,di (I l)),(56,zw k)]) (CV (cs++[s.2]) A (row++[(s.1,(I cs:Int))]))):
  Rn PP E9 0 res bd ([zu E9 512628,.blk 2,zt E9 64079,.blk 1,zt E9 2003,zu E9 500,.blk 0,zt E9 63]++[]) (cz 97 [(1,di most),(2,.v (.ref (Aq m))),(4,.ptr 0 0),(7,.ptr 1 0),(8,di at'),(11,.acc 3 (row.map cg)),(54,.v (FA l)),(55,di (I l)),(56,di k)]) (CV cs A row):=by
 have hk:=(HN.1 hs).1
 rw[J5,List.map_singleton] at next
 refine zo [2] (.t<|.x (eb s)<|.c (di (AZ cs s.2))<|.t<|.f<|.c (.v (Ad s.2))<|.lo [ke 1,ke 2,ke 4,ke 7,ke 8,ke 11,ke 54,ke 55,ch 56 (zw k)] (CV (cs++[s.2]) A (row++[(s.1,(I cs:Int))]))) (ye k (I l)/\y6 k/\zy (map eb l) k (eb s)/\type_of% hI/\ye (AZ cs s.snd) 0/\y7 (I (map eV cs)) most/\type_of% hO/\Q (map eV cs)/\Ao (I (map eV cs)+I (Ad s.snd::nV)) 32/\yo/\Q (map cg row)/\Ao (I (map cg row)+I (aa (vi s.fst::a8 yt (I (map eV cs):Int)::nV)::nV)) 16/\zx k/\Q J/\[G f7,G [br 1 (map eV cs++Ad s.snd::nV),br 2 (map Ai A)]]=[G f7,G [br 1 (map eV (cs++[s.snd])),br 2 (map Ai A)]]/\[(3,2,map cg row++aa (vi s.fst::vi (I (map eV cs):Int)::nV)::nV),(2,1,map Ai A),(1,2,map eV cs++Ad s.snd::nV)]=[(3,2,map cg (row++[(s.fst,(I cs:Int))])),(2,1,map Ai A),(1,2,map eV (cs++[s.snd]))]/\I0 E9 0 res bd [zu E9 512628,bh 2,zt E9 64079,bh 1,kc AW t7,kl AW iy,bh 0,zt E9 63] (cz 97 [(1,di most),(2,bt (g7 m)),o8,(7,bq 1 0),(8,di (at':Int)),(11,br 3 (map cg row++[aa [vi s.fst,vi (I (map eV cs):Int)]])),(54,bt (FA l)),(55,di (I l:Int)),(56,zw k)]) (CV (cs++[s.snd]) A (row++[(s.fst,(I cs:Int))]))) ?_
 rw[HJ]
 exact⟨yr,by omega,Ae hs,hI,hx,hf,hO,rfl,⟨by grind,by grind⟩,by trivial,rfl,⟨by grind,by grind⟩,by grind[Ac],rfl,by simp[AE],by simp[AE],⟨next⟩⟩
theorem CT(v:b9)(h:v.size<=1000):F0 37 [dV v] (.v (Ad v)):=by grind[AgK]
theorem Ao6(m:cx)(most:Int)(hmo:most<=128)(C:b9->Prop)(hC:∀c,C c->c.size<=1000)(A:As)(hA:I A<=1000)(at':Nat)(hat:at'<=1000)(l:List er)(hl:I l<=1000000)(hlC:∀s∈l,C s.2)(res:D)(R:Option (List b9×List Aw))(hnone:R=none->res=.tup [dG ⟨[],[]⟩,di 1])
  (next:∀cs' row',R=G (cs',row')->Rn PP E9 0 res bd ([zu E9 500,.blk 0,zt E9 63]++[]) (cz 97 [(1,di most),(2,.v (.ref (Aq m))),(4,.ptr 0 0),(7,.ptr 1 0),(8,zw at')]) (ZN cs' (A++[row']))) (n:Nat):∀(k:Nat) (cs:List b9) (row:List Aw),I l-k=n->k<=I l->I row=k->I cs<=128->(∀v∈cs,C v)->ia most (l.drop k) cs row=R->
  Rn PP E9 0 res bd ([zu E9 512628,.blk 2,zt E9 64079,.blk 1,zt E9 2003,zu E9 500,.blk 0,zt E9 63]++[]) (cz 97 [(1,di most),(2,.v (.ref (Aq m))),(4,.ptr 0 0),(7,.ptr 1 0),(8,di at'),(11,.acc 3 (row.map cg)),(54,.v (FA l)),(55,di (I l)),(56,di k)]) (CV cs A row):=by
 induction n with
 |zero=>
  intro k cs row hn hk hr hc hcs he
  rw[I3 (by omega),ia] at he
  have hnx:=next cs row he.symm
  exact zo [2] (.f<|.h (.q 25 0)<|.h (.un 11)<|.lo [ke 1,ke 2,ke 4,ke 7,ch 8 (zw at')] (ZN cs (A++[row]))) (yd k (I l)/\Q (map Ai A)/\Ao (I (map Ai A)+I (ae (map cg row)::nV)) 24/\zx at'/\Q J/\[G f7,G [br 1 (map eV cs),br 2 (map Ai A++ae (map cg row)::nV)]]=[G f7,G [br 1 (map eV cs),br 2 (map Ai (A++[row]))]]/\[(2,1,map Ai A++ae (map cg row)::nV),(1,2,map eV cs)]=[(2,1,map Ai (A++[row])),(1,2,map eV cs)]/\_) ⟨yq,rfl,⟨by grind,by grind⟩,by grind[Ac],rfl,by simp,by simp,iK hnx⟩
 |succ n ih=>
  intro k cs row hn hk hr hc hcs he
  obtain⟨s,hs,es⟩:=Dr (l:=l) (k:=k) (by omega)
  have hsC:=hlC s (HQ hs)
  have hI:=Aba cs (by omega) (fun v hv=>by grind) s.2
  rw[es,ia] at he
  by_cases hx:Y (AZ cs s.2<0)=J
  ·rw[I4 hx] at he
   by_cases hf:Y ((I cs:Int)>=most)=J
   ·rw[I4 hf] at he
    rw[hnone he.symm]
    grind[AcZ]
   ·rw[Iz hf] at he
    exact AhQ m most cs A row at' k l hl (by omega) s hs res hI hx (HW hf) (by omega) (CT s.2 (hC _ hsC)) (ih (k+1) (cs++[s.2]) _ (by omega) (by omega) (by grind) (by have hf:=IR (HW hf);simp;omega) (fun v hv=>by
     grind) he)
  ·rw[Iz hx] at he
   exact Al4 m most cs A row at' k l hl (by omega) s hs res hI (HW hx) (ih (k+1) cs _ (by omega) (by omega) (by grind) hc hcs he)
theorem Rb{C:b9->Prop}{most:Int}:∀(l:List er) (cs:List b9) (row:List Aw) (cs':List b9) (row':List Aw),ia most l cs row=G (cs',row')->(I cs:Int)<=most->(∀v∈cs,C v)->(∀s∈l,C s.2)->I cs<=I cs'/\(I cs':Int)<=most/\∀v∈cs',C v
 |[],cs,row,cs',row',h,h1,h2,_=>by
  grind[ia]
 |s::l,cs,row,cs',row',h,h1,h2,h3=>by
  rw[ia] at h
  split at h
  ·split at h
   ·cases h
   ·rename_i hm
    obtain⟨g1,g2,g3⟩:=Rb l _ _ cs' row' h (by grind) (fun v hv=>by
     grind) (fun s hs=>h3 s (by grind))
    grind
  ·exact Rb l _ _ cs' row' h h1 h2 (fun s hs=>h3 s (by grind))
theorem Ao5{m:cx}{S:b9->List er×Int}{C:b9->Prop}(hm:Aq5 m S C)(most:Int)(hmo:most<=128)(R:(List b9×As)×Int)(n:Nat):∀(cs:List b9) (A:As),Ra S most n cs A=R->I A<=I cs->I cs<=most->(∀v∈cs,C v)->most<n+I A->
  Rn PP E9 0 (.tup [dG ⟨R.1.1,R.1.2⟩,di R.2]) bd ([zu E9 500,.blk 0,zt E9 63]++[]) (cz 97 [(1,di most),(2,.v (.ref (Aq m))),(4,.ptr 0 0),(7,.ptr 1 0),(8,di (I A))]) (ZN cs A):=by
 induction n with
 |zero=>omega
 |succ n ih=>
  intro cs A he h1 h2 h3 h4
  rw[Ra] at he
  cases hc:cs[I A]? with
  |none=>
   refine zo [2] (.f<|.r) (yd (I A) (I (map eV cs))/\bl [bt (aa [ae (map eV cs),ae (map Ai A)]),di 0]=bl [dG (Gph.mk R.fst.fst R.fst.snd),di R.snd]) ?_
   grind
  |some c=>
   rw[hc] at he
   dsimp only at he
   have hcC:=h3 c (HQ hc)
   have hall:=hm.all c hcC
   by_cases hz:((S c).2 !=0)=J
   ·refine zo [2] (.t<|.x (Ad c)<|.c (fv (S c))<|.t<|.r) (ye (I A) (I (map eV cs))/\y6 (I A)/\zy (map eV cs) (I A) (Ad c)/\type_of% hall/\yp/\((S c).snd !=0)=J/\bl [bt w6,di (S c).snd]=bl [dG (Gph.mk R.fst.fst R.fst.snd),di R.snd]) ?_
    grind[Ap]
   ·rw[Iz hz] at he
    have hlp:Rn PP E9 0 (.tup [dG ⟨R.1.1,R.1.2⟩,di R.2]) bd ([zu E9 512628,.blk 2,zt E9 64079,.blk 1,zt E9 2003,zu E9 500,.blk 0,zt E9 63]++[]) (cz 97 [(1,di most),(2,.v (.ref (Aq m))),(4,.ptr 0 0),(7,.ptr 1 0),(8,di (I A)),(11,.acc 3 []),(54,.v (FA (S c).1)),(55,di (S c).1.length),(56,di (0:Nat))]) (CV cs A []):=by
     refine Ao6 m most hmo C hm.sz A (by omega) (I A) (by omega) (S c).1 (hm.len c hcC) (hm.cl c hcC) _ (ia most (S c).1 cs []) (fun e=>?_) (fun cs' row' e=>?_) _ 0 cs [] rfl (II _) rfl (by omega) h3 (by rfl)
     ·grind
     ·obtain⟨g1,g2,g3⟩:=Rb (C:=C) (S c).1 cs [] cs' row' e h2 h3 (hm.cl c hcC)
      grind
    exact zo [2] (.t<|.x (Ad c)<|.c (fv (S c))<|.f<|.h (.q 14 0)<|.h (.nw 11 3 2)<|.lo [ke 1,ke 2,ke 4,ke 7,ke 8,ke 11,ch 54 (.v (FA (S c).1)),ch 55 (di (S c).1.length),ch 56 (di (0:Nat))] (CV cs A [])) (ye (I A) (I (map eV cs))/\y6 (I A)/\zy (map eV cs) (I A) (Ad c)/\_/\yp/\((S c).snd !=0)=O/\Q (bt (FA (S c).fst))/\di (I (map eb (S c).fst):Int)=di (↑(I (S c).fst):Int)/\Q (di 0)/\Q J/\Q (CV cs A []).H/\Q (CV cs A []).own/\_) ⟨HM (by grind),by omega,Ap hc,hall,by trivial,HW hz,rfl,by grind,rfl,rfl,rfl,rfl,iK hlp⟩
theorem Sr{m:cx}{S:b9->List er×Int}{C:b9->Prop}(hm:Aq5 m S C)(most:Int)(h1:1<=most)(h2:most<=128)(R:(List b9×As)×Int)(hR:Ra S most (most.toNat+1) [m.start] []=R):F0 10 [Af m,di most] (.tup [dG ⟨R.1.1,R.1.2⟩,di R.2]):=by
 have hlp:=Ao5 hm most h2 R _ [m.start] [] hR (by simp) (by omega) (by simpa using hm.st) (by omega)
 exact sv E9 97 [2] (.c (di 0)<|.f<|.f<|.f<|.c (.v (Ad m.start))<|.a 1<|.h (.q 6 4)<|.h (.p (.dagg [.acc 1 [Ad m.start],.v .nils]))<|.h (.q 7 0)<|.h (.cl 1 1 2 1)<|.lo [ke 1,ke 2,ke 4,ke 7,ch 8 (di (0:Nat))] (ZN [m.start] [])) (_/\(0 !=0)=O/\yd most 1/\yb most 128/\_/\(∀(τ:St),Ak PP (Oper.mk (G 32) (Op.build 26 #[(0,Operand.tmp 31)]) 26 "home.go:20" #[Edge.mk 3 Ground.data] none) [br 1 [Ad m.start]] τ (bj [br 1 [Ad m.start],dn]) τ)/\Q (di 0)/\Q J/\[G [dn,dn],G [br 1 (Ad m.start::nV),br 2 nV]]=[G f7,G [br 1 (eV m.start::nV),br 2 nV]]/\[(2,1,nV),(1,2,Ad m.start::nV)]=[(2,1,nV),(1,2,eV m.start::nV)]/\_) ⟨hm.walks,rfl,yq,yq,CT _ (hm.sz _ hm.st),fun τ=>OO (z:=[.nils,.nils]) (ay:=[(0,1),(1,1)]) rfl (by kernel_rfl) (by kernel_rfl) rfl rfl,rfl,rfl,by simp[AE],by simp[AE],iK hlp⟩
noncomputable def AV:=yl El
structure Ass(m:cx)(S:b9->List er×Int)(C:b9->Prop):Prop where
 check:F0 40 [Af m] (di 0)
 kind:m.kind≠6
 all:∀c,C c->F0 41 [Af m,dV c] (fv (S c))
 cl:∀c,C c->∀s∈ (S c).1,C s.2
 st:C m.start
 sz:∀c,C c->c.size<=1000
 len:∀c,C c->(S c).1.length<=1000000
theorem AkY(m:cx)(most:Int)(cs:List b9)(A:As)(row:List Aw)(at' k:Nat)(l:List er)(hl:I l<=1000000)(hrl:I row<=1000000)(s:er)(hs:l[k]?=G s)(res:D)
  (hI:F0 42 [co cs,dV s.2] (di (AZ cs s.2))) (hx:Y (AZ cs s.2<0)=O)
  (next:Rn PP El 0 res bd ([zu El 1036916,.blk 2,zt El 129615,.blk 1,zt El 4051,zu El 1012,.blk 0,zt El 127]++[]) (cz 108 [(1,di most),(2,.v (.ref (Aq m))),(4,.ptr 0 0),(7,.ptr 1 0),(8,di at'),(9,.v (FA l)),(11,.acc 3 ((row++[(s.1,AZ cs s.2)]).map cg)),(12,zw k)]) (CV cs A (row++[(s.1,AZ cs s.2)]))):
  Rn PP El 0 res bd ([zu El 1036916,.blk 2,zt El 129615,.blk 1,zt El 4051,zu El 1012,.blk 0,zt El 127]++[]) (cz 108 [(1,di most),(2,.v (.ref (Aq m))),(4,.ptr 0 0),(7,.ptr 1 0),(8,di at'),(9,.v (FA l)),(11,.acc 3 (row.map cg)),(12,di k)]) (CV cs A row):=by
 have hk:=(HN.1 hs).1
 rw[J5,List.map_singleton] at next
 exact zo [2] (.t<|.x (eb s)<|.c (di (AZ cs s.2))<|.f<|.x (eb s)<|.lo [ke 1,ke 2,ke 4,ke 7,ke 8,ke 9,ke 11,ch 12 (zw k)] (CV cs A (row++[(s.1,AZ cs s.2)]))) (ye k (I (U eb l))/\y6 k/\zy (U eb l) k (eb s)/\_/\yp/\_/\y6 k/\zy (U eb l) k (eb s)/\Q (U cg row)/\Ao (I (U cg row)+I (aa (vi s.fst::a8 yt (AZ cs s.snd)::nV)::nV)) 16/\zx k/\Q J/\Q (CV cs A (row++[(s.1,AZ cs s.2)])).H/\[(3,2,U cg row++aa (vi s.fst::vi (AZ cs s.snd)::nV)::nV),(2,1,U Ai A),(1,2,U eV cs)]=[(3,2,U cg (row++[(s.fst,AZ cs s.snd)])),(2,1,U Ai A),(1,2,U eV cs)]/\_) ⟨HM (by grind),by omega,Ae hs,hI,by trivial,hx,by omega,Ae hs,rfl,⟨by grind,by grind⟩,by grind[Ac],rfl,rfl,by simp,iK next⟩
theorem AbL(m:cx)(most:Int)(cs:List b9)(A:As)(row:List Aw)(at' k:Nat)(l:List er)(_:I l<=1000000)(_:I row<=1000000)(s:er)(hs:l[k]?=G s)
  (hI:F0 42 [co cs,dV s.2] (di (AZ cs s.2))) (hx:Y (AZ cs s.2<0)=J) (hf:Y ((I cs:Int)>=most)=J):
  Rn PP El 0 (.tup [dG ⟨[],[]⟩,di 1]) bd ([zu El 1036916,.blk 2,zt El 129615,.blk 1,zt El 4051,zu El 1012,.blk 0,zt El 127]++[]) (cz 108 [(1,di most),(2,.v (.ref (Aq m))),(4,.ptr 0 0),(7,.ptr 1 0),(8,di at'),(9,.v (FA l)),(11,.acc 3 (row.map cg)),(12,di k)]) (CV cs A row):=by
 refine zo [2] (.t<|.x (eb s)<|.c (di (AZ cs s.2))<|.t<|.t<|.r) (ye k (I (U eb l))/\y6 k/\zy (U eb l) k (eb s)/\type_of% hI/\yp/\ye (AZ cs s.snd) 0/\y8 (I (U eV cs)) most/\Q (bl [dG nz,di 1])) ?_
 grind
theorem AgA(m:cx)(most:Int)(cs:List b9)(A:As)(row:List Aw)(at' k:Nat)(l:List er)(hl:I l<=1000000)(hrl:I row<=1000000)(s:er)(hs:l[k]?=G s)(res:D)
  (hI:F0 42 [co cs,dV s.2] (di (AZ cs s.2))) (hx:Y (AZ cs s.2<0)=J) (hf:Y ((I cs:Int)>=most)=O) (hcl:I cs<=1000) (_:F0 37 [dV s.2] (.v (Ad s.2)))
  (next:Rn PP El 0 res bd ([zu El 1036916,.blk 2,zt El 129615,.blk 1,zt El 4051,zu El 1012,.blk 0,zt El 127]++[]) (cz 108 [(1,di most),(2,.v (.ref (Aq m))),(4,.ptr 0 0),(7,.ptr 1 0),(8,di at'),(9,.v (FA l)),(11,.acc 3 ((row++[(s.1,(I cs:Int))]).map cg)),(12,zw k)]) (CV (cs++[s.2]) A (row++[(s.1,(I cs:Int))]))):
  Rn PP El 0 res bd ([zu El 1036916,.blk 2,zt El 129615,.blk 1,zt El 4051,zu El 1012,.blk 0,zt El 127]++[]) (cz 108 [(1,di most),(2,.v (.ref (Aq m))),(4,.ptr 0 0),(7,.ptr 1 0),(8,di at'),(9,.v (FA l)),(11,.acc 3 (row.map cg)),(12,di k)]) (CV cs A row):=by
 have hk:=(HN.1 hs).1
 rw[J5,List.map_singleton] at next
 have hv:eV s.2=aa [vi (b9.n s.2),dq (b9.az s.2)]:=AE s.2
 refine zo [2] (.t<|.x (eb s)<|.c (di (AZ cs s.2))<|.t<|.f<|.x (eb s)<|.x (eb s)<|.lo [ke 1,ke 2,ke 4,ke 7,ke 8,ke 9,ke 11,ch 12 (zw k)] (CV (cs++[s.2]) A (row++[(s.1,(I cs:Int))]))) (ye k (I (U eb l))/\y6 k/\zy (U eb l) k (eb s)/\type_of% hI/\yp/\ye (AZ cs s.snd) 0/\y7 (I (U eV cs)) most/\y6 k/\zy (U eb l) k (eb s)/\Q (U eV cs)/\Ao (I (U eV cs)+I (aa (take (1+1) (W 1 (vi s.fst::vi s.snd.n::dq s.snd.az::nV)))::nV)) 32/\yp/\y6 k/\zy (U eb l) k (eb s)/\Q (U cg row)/\Ao (I (U cg row)+I (aa (vi s.fst::a8 yt (I (U eV cs):Int)::nV)::nV)) 16/\zx k/\Q J/\[G f7,G [br 1 (U eV cs++aa (vi s.snd.n::dq s.snd.az::nV)::nV),br 2 (U Ai A)]]=[G f7,G [br 1 (U eV (cs++[s.snd])),br 2 (U Ai A)]]/\[(3,2,U cg row++aa (vi s.fst::vi (I (U eV cs):Int)::nV)::nV),(2,1,U Ai A),(1,2,U eV cs++aa (vi s.snd.n::dq s.snd.az::nV)::nV)]=[(3,2,U cg (row++[(s.fst,(I cs:Int))])),(2,1,U Ai A),(1,2,U eV (cs++[s.snd]))]/\I0 El 0 res bd [zu El 1036916,bh 2,zt El 129615,bh 1,zt El 4051,kl AV mr,bh 0,kc AV mu] (cz 108 [(1,di most),(2,bt (g7 m)),o8,(7,bq 1 0),(8,di (at':Int)),(9,bt (FA l)),(11,br 3 (U cg row++[aa [vi s.fst,vi (I (U eV cs):Int)]])),(12,zw k)]) (CV (cs++[s.snd]) A (row++[(s.fst,(I cs:Int))]))) ?_
 rw[HJ]
 rw[HJ]
 exact⟨yr,by omega,Ae hs,hI,by trivial,hx,hf,by omega,Ae hs,rfl,⟨by grind,by grind⟩,by trivial,by omega,Ae hs,rfl,⟨by grind,by grind⟩,by grind[Ac],rfl,by grind,by grind,⟨next⟩⟩
theorem AnQ(m:cx)(most:Int)(hmo:most<=128)(C:b9->Prop)(hC:∀c,C c->c.size<=1000)(A:As)(hA:I A<=1000)(at':Nat)(hat:at'<=1000)(l:List er)(hl:I l<=1000000)(hlC:∀s∈l,C s.2)(res:D)(R:Option (List b9×List Aw))(hnone:R=none->res=.tup [dG ⟨[],[]⟩,di 1])
  (next:∀cs' row',R=G (cs',row')->Rn PP El 0 res bd ([zu El 1012,.blk 0,zt El 127]++[]) (cz 108 [(1,di most),(2,.v (.ref (Aq m))),(4,.ptr 0 0),(7,.ptr 1 0),(8,zw at')]) (ZN cs' (A++[row']))) (n:Nat):∀(k:Nat) (cs:List b9) (row:List Aw),I l-k=n->k<=I l->I row=k->I cs<=128->(∀v∈cs,C v)->ia most (l.drop k) cs row=R->
  Rn PP El 0 res bd ([zu El 1036916,.blk 2,zt El 129615,.blk 1,zt El 4051,zu El 1012,.blk 0,zt El 127]++[]) (cz 108 [(1,di most),(2,.v (.ref (Aq m))),(4,.ptr 0 0),(7,.ptr 1 0),(8,di at'),(9,.v (FA l)),(11,.acc 3 (row.map cg)),(12,di k)]) (CV cs A row):=by
 induction n with
 |zero=>
  intro k cs row hn hk hr hc hcs he
  rw[I3 (by omega),ia] at he
  have hnx:=next cs row he.symm
  exact zo [2] (.f<|.h (.q 26 0)<|.h (.un 11)<|.lo [ke 1,ke 2,ke 4,ke 7,ch 8 (zw at')] (ZN cs (A++[row]))) (yd k (I (U eb l))/\Q (U Ai A)/\Ao (I (U Ai A)+I (ae (U cg row)::nV)) 24/\zx at'/\Q J/\[G f7,G [br 1 (U eV cs),br 2 (U Ai A++ae (U cg row)::nV)]]=[G f7,G [br 1 (U eV cs),br 2 (U Ai (A++[row]))]]/\[(2,1,U Ai A++ae (U cg row)::nV),(1,2,U eV cs)]=[(2,1,U Ai (A++[row])),(1,2,U eV cs)]/\_) ⟨HO (by grind),rfl,⟨by grind,by grind⟩,by grind[Ac],rfl,by simp,by simp,iK hnx⟩
 |succ n ih=>
  intro k cs row hn hk hr hc hcs he
  obtain⟨s,hs,es⟩:=Dr (l:=l) (k:=k) (by omega)
  have hsC:=hlC s (HQ hs)
  have hI:=RN cs (by omega) (fun v hv=>b9.fit_of v (by grind)) s.2
  rw[es,ia] at he
  by_cases hx:Y (AZ cs s.2<0)=J
  ·rw[I4 hx] at he
   by_cases hf:Y ((I cs:Int)>=most)=J
   ·rw[I4 hf] at he
    rw[hnone he.symm]
    grind[AbL]
   ·rw[Iz hf] at he
    exact AgA m most cs A row at' k l hl (by omega) s hs res hI hx (HW hf) (by omega) (CT s.2 (hC _ hsC)) (ih (k+1) (cs++[s.2]) _ (by omega) (by omega) (by grind) (by have hf:=IR (HW hf);simp;omega) (fun v hv=>by
     grind) he)
  ·rw[Iz hx] at he
   exact AkY m most cs A row at' k l hl (by omega) s hs res hI (HW hx) (ih (k+1) cs _ (by omega) (by omega) (by grind) hc hcs he)
theorem AnP{m:cx}{S:b9->List er×Int}{C:b9->Prop}(hm:Ass m S C)(most:Int)(hmo:most<=128)(R:(List b9×As)×Int)(n:Nat):∀(cs:List b9) (A:As),Ra S most n cs A=R->I A<=I cs->I cs<=most->(∀v∈cs,C v)->most<n+I A->
  Rn PP El 0 (.tup [dG ⟨R.1.1,R.1.2⟩,di R.2]) bd ([zu El 1012,.blk 0,zt El 127]++[]) (cz 108 [(1,di most),(2,.v (.ref (Aq m))),(4,.ptr 0 0),(7,.ptr 1 0),(8,di (I A))]) (ZN cs A):=by
 induction n with
 |zero=>omega
 |succ n ih=>
  intro cs A he h1 h2 h3 h4
  rw[Ra] at he
  cases hc:cs[I A]? with
  |none=>
   refine zo [2] (.f<|.r) (yd (I A) (I (U eV cs))/\bl [bt (aa [ae (U eV cs),ae (U Ai A)]),di 0]=bl [dG (Gph.mk R.fst.fst R.fst.snd),di R.snd]) ?_
   grind
  |some c=>
   rw[hc] at he
   dsimp only at he
   have hcC:=h3 c (HQ hc)
   have hall:=hm.all c hcC
   by_cases hz:((S c).2 !=0)=J
   ·refine zo [2] (.t<|.x (Ad c)<|.c (fv (S c))<|.t<|.r) (ye (I A) (I (U eV cs))/\y6 (I A)/\zy (U eV cs) (I A) (Ad c)/\type_of% hall/\yp/\((S c).snd !=0)=J/\bl [bt w6,di (S c).snd]=bl [dG (Gph.mk R.fst.fst R.fst.snd),di R.snd]) ?_
    grind[Ap]
   ·rw[Iz hz] at he
    have hlp:Rn PP El 0 (.tup [dG ⟨R.1.1,R.1.2⟩,di R.2]) bd ([zu El 1036916,.blk 2,zt El 129615,.blk 1,zt El 4051,zu El 1012,.blk 0,zt El 127]++[]) (cz 108 [(1,di most),(2,.v (.ref (Aq m))),(4,.ptr 0 0),(7,.ptr 1 0),(8,di (I A)),(9,.v (FA (S c).1)),(11,.acc 3 []),(12,di (0:Nat))]) (CV cs A []):=by
     refine AnQ m most hmo C hm.sz A (by omega) (I A) (by omega) (S c).1 (hm.len c hcC) (hm.cl c hcC) _ (ia most (S c).1 cs []) (fun e=>?_) (fun cs' row' e=>?_) _ 0 cs [] rfl (II _) rfl (by omega) h3 (by rfl)
     ·grind
     ·obtain⟨g1,g2,g3⟩:=Rb (C:=C) (S c).1 cs [] cs' row' e h2 h3 (hm.cl c hcC)
      grind
    exact zo [2] (.t<|.x (Ad c)<|.c (fv (S c))<|.f<|.h (.q 16 0)<|.h (.nw 11 3 2)<|.lo [ke 1,ke 2,ke 4,ke 7,ke 8,ch 9 (.v (FA (S c).1)),ke 11,ch 12 (di (0:Nat))] (CV cs A [])) (ye (I A) (I (U eV cs))/\y6 (I A)/\zy (U eV cs) (I A) (Ad c)/\_/\yp/\((S c).snd !=0)=O/\Q (bt (FA (S c).fst))/\Q (di 0)/\Q J/\Q (CV cs A []).H/\Q (CV cs A []).own/\_) ⟨HM (by grind),by omega,Ap hc,hall,by trivial,HW hz,rfl,rfl,rfl,rfl,rfl,iK hlp⟩
theorem AbK{m:cx}{S:b9->List er×Int}{C:b9->Prop}(hm:Ass m S C)(most:Int)(h1:1<=most)(h2:most<=128)(R:(List b9×As)×Int)(hR:Ra S most (most.toNat+1) [m.start] []=R):F0 11 [Af m,di most] (.tup [dG ⟨R.1.1,R.1.2⟩,di R.2]):=by
 have hlp:=AnP hm most h2 R _ [m.start] [] hR (by simp) (by omega) (by simpa using hm.st) (by omega)
 exact sv El 108 [2] (.c (di 0)<|.f<|.f<|.f<|.f<|.a 1<|.h (.q 8 3)<|.h (.p (.dagg [.acc 1 [Ad m.start],.v .nils]))<|.h (.q 9 0)<|.h (.cl 1 1 2 1)<|.lo [ke 1,ke 2,ke 4,ke 7,ch 8 (di (0:Nat))] (ZN [m.start] [])) (_/\(0 !=0)=O/\(m.kind==6)=O/\yd most 1/\yb most 128/\(∀(τ:St),Ak PP (Oper.mk (G 34) (Op.build 26 #[(0,Operand.tmp 33)]) 26 "ref.go:32" #[Edge.mk 2 Ground.data] none) [br 1 [aa [vi m.start.n,dq m.start.az]]] τ (bj [br 1 [Ad m.start],dn]) τ)/\Q (di 0)/\Q J/\[G [dn,dn],G [br 1 (Ad m.start::nV),br 2 nV]]=[G f7,G [br 1 (eV m.start::nV),br 2 nV]]/\[(2,1,nV),(1,2,aa (vi m.start.n::dq m.start.az::nV)::nV)]=[(2,1,nV),(1,2,eV m.start::nV)]/\_) ⟨hm.check,rfl,IM.2 hm.kind,yq,yq,fun τ=>OO (z:=[.nils,.nils]) (ay:=[(0,1),(1,1)]) rfl (by kernel_rfl) (by kernel_rfl) rfl rfl,rfl,rfl,by simp[AE],by rw[AE],iK hlp⟩
structure X3(m:cx)(t:cr):Prop where
 walks:F0 36 [Af m] (di 0)
 valid:∀v:b9,v.size<=1000000->F0 105 [Af m,dV v] (db (Al t v))
 ay:I m.ay<=1000000
theorem cx.ok.int{m:cx}(h:m.ok):X3 m (AM m):=by
 obtain⟨h1,h2,h3,h4,h5,h6,h7,h8⟩:=h.sz
 exact⟨Afr m h,fun v hv=>Hr m h v hv,by omega⟩
def ib(r:cm)(k:Nat):Int:=if r.move=[] then k else r.move.getD k 0
def l5(r:cm)(k:Nat)(x:Int)(ws:List Int):List Int:=if ib r k>=0 then ws.set (ib r k).toNat (ws.getD (ib r k).toNat 0+x) else ws
def iq(r:cm):Nat->List Int->List Int->List Int->List Int
 |k,y::ys,n::ns,ws=>iq r (k+1) ys ns (l5 r k (y-n) ws)
 |_,_,_,ws=>ws
def qm(r:cm)(ys:List Int):List Int:=iq r 0 ys r.ak (replicate (I ys) 0)
theorem UN(r:cm)(k:Nat)(ns ws:List Int):iq r k [] ns ws=ws:=by rfl
theorem AcA(r:cm)(k:Nat)(x:Int)(ws:List Int):I (l5 r k x ws)=I ws:=by
 grind[l5]
theorem UO(r:cm):∀(ys ns:List Int) (k:Nat) (ws:List Int),I (iq r k ys ns ws)=I ws
 |[],_,_,_=>by rfl
 |_::_,[],_,_=>by rfl
 |y::ys,n::ns,k,ws=>by rw[iq,UO r ys ns,AcA]
def py(r:cm)(N:Nat):Prop:=r.move=[]∨r.move.length=N/\∀t∈r.move, -1<=t/\t<N
theorem Aj7{r:cm}{N k:Nat}(h:py r N)(hk:k<N): -1<=ib r k/\ib r k<N:=by
 unfold ib
 rcases h with h|⟨h1,h2⟩
 all_goals grind[List.getElem_mem]
noncomputable abbrev Aw8:=[zu NV 2036,bh 0,zt NV 255]
theorem AiV(r:cm)(c:b9)(s:Int)(ys:List Int)(hc:mz c s ys)(hl:I r.ak=I ys)(hg:I r.aj=I ys)(hy:I ys<=6)(by1:∀y∈ys,0<=y/\y<=1048576)(bn:∀y∈r.ak,0<=y/\y<=16)(bg:∀y∈r.aj,0<=y/\y<=16)(N:Nat)(hN:N=I ys)(hm:py r N)(n:Nat):∀(k:Nat) (ws:List Int),N-k=n->k<=N->I ws=N->(∀w∈ws, -(1048576*(k:Int))<=w/\w<=1048576*(k:Int))->
  Rn PP NV 0 (ox [lf r.to] (iq r k (ys.drop k) (r.ak.drop k) ws) r.aj) bd ([zu NV 2036,.blk 0,zt NV 255]++[]) (cz 116 [(5,.v (.ref (Ad c))),(6,.ptr 0 0),(10,.ptr 1 0),(11,.arr 2 0 N),(12,di k)]) (gn r ws):=by
 induction n with
 |zero=>
  intro k ws hn hkN hx hb
  refine zo [3,5] (.f<|.a 1<|.h .g<|.lo [ke 6,ke 10,ke 11,ke 14,ch 15 (di (0:Nat))] (ki r ws [lf r.to])) (yd k N/\di 0=di (↑0:Int)/\cp 4 [1] [G [di 0,dn],G (cR r),G (cb ws),G [di 0,br 1 [aa [vi r.to,ae []]]]]=J/\Q [G [di 0,dn],G (cR r),G (cb ws),G [di 0,br 1 (eV (lf r.to)::nV)]]/\Q [(1,2,eV (lf r.to)::nV)]/\I0 NV 0 (ox [lf r.to] (iq r k (W k ys) (W k r.ak) ws) r.aj) bd [zu NV 8180,bh 2,zt NV 1023] (cz 116 [kf,(10,bq 1 0),(11,bo 2 0 N),(14,bq 3 0),(15,di (↑0:Int))]) (ki r ws [lf r.to])) ?_
  rw[I3 (show I ys<=k by omega),UN]
  refine⟨yq,rfl,by simp[cp,D.okNs,D.okN,Ce],rfl,rfl,⟨?_⟩⟩
  have:=Amx r ws (by omega) (by omega) (fun w hw=>by have:=hb w hw;omega) (fun w hw=>by have:=bg w hw;omega) _ 0 [lf r.to] rfl (by simp)
  rw[hx] at this
  exact this
 |succ n ih=>
  intro k ws hn hkN hx hb
  have hk:k<N:=by omega
  have okS:∀l:List Int,cp 3 [] [G [di 0,.v .nils],G (cR r),G (cb l)]=J:=fun l=>by simp[cp,D.okNs,D.okN,Ce]
  obtain⟨y,hy1⟩:=@yk _ ys k (by omega)
  obtain⟨x,hn1⟩:∃x,r.ak[k]?=G x:=⟨_,HK (by omega)⟩
  have e3:ys.drop k=y::ys.drop (k+1):=by rw[HZ (by omega)];congr 1;rw[HK (by omega)] at hy1;simpa using hy1
  have e4:r.ak.drop k=x::r.ak.drop (k+1):=by rw[HZ (by omega)];congr 1;rw[HK (by omega)] at hn1;simpa using hn1
  have hcy:=hc.at' k _ hy1
  have b1:=by1 _ (HQ hy1)
  have b2:=bn _ (HQ hn1)
  have ht:=Aj7 hm hk
  obtain⟨t,hte⟩:∃t,t=ib r k:=⟨_,rfl⟩
  have e1:yt.wrap (1+(k:Int))=((k+1:Nat):Int):=by rw[An];omega
  rw[e3,e4,iq,l5, ←hte]
  by_cases h0:t>=0
  ·rw[I4 h0]
   obtain⟨w,hw⟩:∃w,ws[t.toNat]?=G w:=⟨_,HK (by omega)⟩
   rw[show ws.getD t.toNat 0=w by rw[HS,hw];rfl]
   by_cases hmv:r.move=[]
   ·refine zo [3,5] (.t<|.f<|.t<|.m (di w)<|.h (.xs (Ad (lf y)))<|.x (vi x)<|.w<|.lo [ke 5,ke 6,ke 10,ke 11,ch 12 (zw k)] (gn r (ws.set t.toNat (w+(y-x))))) (ye k N/\yb (I (dt r.move)) 0/\y8 k 0/\y6 k/\y5 k N/\(cb ws)[0+Z (k:Int)*1]?=G (di w)/\Q 2/\0<=yu yt (1+(k:Int))/\zy (c7 c.az) (yu yt (1+(k:Int))) (Ad (lf y))/\y6 k/\zy (dt r.ak) k (vi x)/\y6 k/\y5 k N/\0+Z (k:Int)*1<I (cb ws)/\yo/\zx k/\cp 3 [] [G [di 0,dn],G (cR r),G (List.set (cb ws) (0+Z (k:Int)*1) (di (yu yt (w+yu yt (b9.n (lf y)-x)))))]=J/\[G [di 0,dn],G (cR r),G (List.set (cb ws) (0+Z (k:Int)*1) (di (yu yt (w+yu yt (b9.n (lf y)-x)))))]=[G [di 0,dn],G (cR r),G (cb (List.set ws (Z t) (w+(y-x))))]/\I0 NV 0 (ox [lf r.to] (iq r (k+1) (W (k+1) ys) (W (k+1) r.ak) (List.set ws (Z t) (w+(y-x)))) r.aj) bd Aw8 (cz 116 [(5,bt (jk c)),kf,(10,bq 1 0),(11,bo 2 0 N),(12,zw k)]) (gn r (List.set ws (Z t) (w+(y-x))))) ?_
    have htk:t=(k:Int):=by rw[hte,ib,I4 hmv]
    have hwb:=hb w (HQ hw)
    have ew:yt.wrap (w+yt.wrap (b9.n (lf y)-x))=w+(y-x):=by
     rw[show b9.n (lf y)=y from rfl,An (n:=y-x),An]
    have es:List.set (cb ws) (0+Z (k:Int)*1) (di (w+(y-x)))=cb (ws.set t.toNat (w+(y-x))):=by
     rw[htk,Jy];simp[cb,map_set]
    have hi:=ih (k+1) (ws.set t.toNat (w+(y-x))) (by omega) (by omega) (by rw[length_set];exact hx) (fun v hv=>by
     rcases Jv hv with hv|hv
     ·have:=hb v hv;omega
     ·rw[hv];omega)
    rw[ew,es,e1]
    refine⟨yr,wj _ hmv,yr,by omega,by omega,?_,rfl,by omega,Ap hcy,by omega,Ae hn1,by omega,by omega,by simp[cb];omega,ym,Ac,okS _,rfl,⟨hi⟩⟩
    rw[htk,Jy] at hw
    simp[cb,hw]
   ·refine zo [3,5] (.t<|.t<|.x (vi t)<|.t<|.m (di w)<|.h (.xs (Ad (lf y)))<|.x (vi x)<|.w<|.lo [ke 5,ke 6,ke 10,ke 11,ch 12 (zw k)] (gn r (ws.set t.toNat (w+(y-x))))) (ye k N/\yc (I (dt r.move)) 0/\y6 k/\zy (dt r.move) k (vi t)/\y8 t 0/\0<=t/\y5 t N/\(cb ws)[0+Z t*1]?=G (di w)/\Q 2/\0<=yu yt (1+(k:Int))/\zy (c7 c.az) (yu yt (1+(k:Int))) (Ad (lf y))/\y6 k/\zy (dt r.ak) k (vi x)/\0<=t/\y5 t N/\0+Z t*1<I (cb ws)/\yo/\zx k/\cp 3 [] [G [di 0,dn],G (cR r),G (List.set (cb ws) (0+Z t*1) (di (yu yt (w+yu yt (b9.n (lf y)-x)))))]=J/\[G [di 0,dn],G (cR r),G (List.set (cb ws) (0+Z t*1) (di (yu yt (w+yu yt (b9.n (lf y)-x)))))]=[G [di 0,dn],G (cR r),G (cb (List.set ws (Z t) (w+(y-x))))]/\I0 NV 0 (ox [lf r.to] (iq r (k+1) (W (k+1) ys) (W (k+1) r.ak) (List.set ws (Z t) (w+(y-x)))) r.aj) bd Aw8 (cz 116 [(5,bt (jk c)),kf,(10,bq 1 0),(11,bo 2 0 N),(12,zw k)]) (gn r (List.set ws (Z t) (w+(y-x))))) ?_
    have hml:I r.move=N/\∀t∈r.move, -1<=t/\t<N:=hm.resolve_left hmv
    have hti:r.move[k]?=G t:=by rw[hte,ib,Iz hmv,HS,HK (show k<I r.move by omega)];rfl
    have hmp:Y ((I (r.move.map vi):Int)>0)=J:=HM (by rw[HJ];omega)
    have hwb:=hb w (HQ hw)
    have ew:yt.wrap (w+yt.wrap (b9.n (lf y)-x))=w+(y-x):=by
     rw[show b9.n (lf y)=y from rfl,An (n:=y-x),An]
    have es:List.set (cb ws) (0+Z t*1) (di (w+(y-x)))=cb (ws.set t.toNat (w+(y-x))):=by
      simp[cb,map_set]
    have hi:=ih (k+1) (ws.set t.toNat (w+(y-x))) (by omega) (by omega) (by rw[length_set];exact hx) (fun v hv=>by
     rcases Jv hv with hv|hv
     ·have:=hb v hv;omega
     ·rw[hv];omega)
    rw[ew,es,e1]
    exact⟨yr,hmp,by omega,Ae hti,yr,by omega,by omega,by simp[cb,hw],rfl,by omega,Ap hcy,by omega,Ae hn1,by omega,by omega,by simp[cb];omega,ym,Ac,okS _,rfl,⟨hi⟩⟩
  ·rw[Iz h0]
   have hmv:r.move≠ []:=fun e=>by rw[hte,ib,I4 e] at h0;omega
   have hml:I r.move=N/\∀t∈r.move, -1<=t/\t<N:=hm.resolve_left hmv
   have hti:r.move[k]?=G t:=by rw[hte,ib,Iz hmv,HS,HK (show k<I r.move by omega)];rfl
   have hmp:Y ((I (r.move.map vi):Int)>0)=J:=HM (by rw[HJ];omega)
   exact zo [3,5] (.t<|.t<|.x (vi t)<|.f<|.lo [ke 5,ke 6,ke 10,ke 11,ch 12 (zw k)] (gn r ws)) (ye k N/\_/\y6 k/\zy (dt r.move) k (vi t)/\y7 t 0/\zx k/\cp 3 [] [G [di 0,dn],G (cR r),G (cb ws)]=J/\Q (gn r ws).H/\_) ⟨yr,hmp,by omega,Ae hti,yq,Ac,okS _,rfl,iK (ih (k+1) ws (by omega) (by omega) hx (fun w hw=>by have:=hb w hw;omega))⟩
def jy(r:cm)(s:Int)(ys:List Int):b9×Int:=if io r s ys=J then UC [lf r.to] (qm r ys) r.aj else(.mk 0 [],18)
theorem ZD(m:cx)(hm:m.ok)(hk:m.kind=1)(i:Nat)(r:cm)(hi:m.av[i]?=G r)(c:b9)(hcs:c.size<=1000000)(hv:Al (AM m) c=J)(s:Int)(ys:List Int)(hc:mz c s ys)(hl:I r.ak=I ys)(hg:I r.aj=I ys)(hy:I ys<=6)(hmv:py r (I ys))(by1:∀y∈ys,0<=y/\y<=1048576)(bn:∀y∈r.ak,0<=y/\y<=16)(bg:∀y∈r.aj,0<=y/\y<=16):
  F0 126 [Af m,di i,dV c] (dP (jy r s ys)):=by
 have he:=YS m hm hk i r hi c hcs hv s ys hc hl (by omega)
 cases hb:io r s ys with
 |false=>
  rw[hb] at he
  exact sv NV 116 [3,5] (.c (.tup [db O,di 0]) .r) (_/\bl [bt nv,di 18]=dP (jy r s ys)) ⟨he,by rw[jy,hb];rfl⟩
 |true=>
  rw[hb] at he
  obtain⟨N,hN⟩:∃N,N=I ys:=⟨_,rfl⟩
  obtain⟨ws,hws⟩:∃ws:List Int,ws=replicate N 0:=⟨_,rfl⟩
  refine sv NV 116 [3,5] (.c (.tup [db J,di 0])<|.x (Aj r)<|.lo [ke 5,ke 6,ke 10,ch 11 (.arr 2 0 N),ch 12 (di (0:Nat))] (gn r ws)) (type_of% he/\y6 i/\zy (U Aj m.av) i (Aj r)/\Q (I (dt r.ak):Int)/\y6 (I (dt r.ak))/\(8:Int)*(I (dt r.ak):Int)<=281474976710656/\(I (dt r.ak):Int)<=9223372036854775807/\bo 2 0 (Z (I (dt r.ak):Int))=bo 2 0 N/\di 0=di (↑0:Int)/\cp 3 [] [G [di 0,dn],G [bt (ab r.name),di r.ai,di r.to,cw r.ak,cw r.aj,cw r.move,di r.chan,di r.act,di r.letter,cw r.path,cw r.next,bt (AH r.aq),cw r.ao,di r.second],G (replicate (Z (I (dt r.ak):Int)) (di 0))]=J/\[G [di 0,dn],G [bt (ab r.name),di r.ai,di r.to,cw r.ak,cw r.aj,cw r.move,di r.chan,di r.act,di r.letter,cw r.path,cw r.next,bt (AH r.aq),cw r.ao,di r.second],G (replicate (Z (I (dt r.ak):Int)) (di 0))]=[G [di 0,dn],G (cR r),G (cb ws)]/\I0 NV (I bd.H) (dP (jy r s ys)) bd Aw8 (cz 116 [(5,bt (jk c)),kf,(10,bq 1 0),(11,bo 2 0 N),(12,di (↑0:Int))]) (gn r ws)) ?_
  have hlen:Z (I (r.ak.map vi):Int)=N:=by rw[HJ,Jy];omega
  have hrep:replicate N (di 0)=cb ws:=by rw[hws,cb,List.map_replicate]
  rw[hlen,hrep]
  refine⟨he,by omega,Ae hi,rfl,by omega,by rw[HJ];omega,by rw[HJ];omega,rfl,rfl,by simp[cp,D.okNs,D.okN,Ce],rfl,⟨?_⟩⟩
  have:=AiV r c s ys hc hl hg hy by1 bn bg N hN (hN▸hmv) _ 0 ws rfl (by omega) (by rw[hws,List.length_replicate]) (fun w hw=>by rw[hws] at hw;rw[(List.mem_replicate.1 hw).2];omega)
  grind[jy,qm]
structure iv(m:cx):Prop where
 ok:m.ok
 kind:m.kind=1
 start:BO m m.start
structure Asp(m:cx)(r:cm):Prop where
 ai:0<=r.ai/\r.ai<I m.aw
 to:0<=r.to/\r.to<I m.aw
 needL:I r.ak=I m.ay
 giveL:I r.aj=I m.ay
 ak:∀x∈r.ak,0<=x/\x<=16
 aj:∀x∈r.aj,0<=x/\x<=16
 move:py r (I m.ay)
theorem iv.rule{m:cx}(h:iv m){r:cm}(hr:r∈m.av):Asp m r:=by
 have h1:=h.ok.right r hr
 rw[FB,I4 h.kind] at h1
 simp only[EO,Cf,E6,HL,Bool.or_eq_true,IU,IJ] at h1
 obtain⟨h2,h3,⟨h4,h5,h6,h7⟩,h8,_⟩:=h1
 have h2:=C6 h2
 have h3:=C6 h3
 refine⟨⟨h3.1,by omega⟩,⟨h2.1,by omega⟩,by omega,by omega,fun x hx=>C6 (h6 x hx),fun x hx=>C6 (h7 x hx),?_⟩
 rcases h8 with h8|⟨h8,h9⟩
 ·exact .inl (List.length_eq_zero_iff.1 (by omega))
 ·exact .inr ⟨by omega,fun t ht=>by have:=C6 (h9 t ht);omega⟩
theorem iv.ay{m:cx}(h:iv m):1<=I m.ay/\m.ay.length<=6/\1<=I m.aw/\m.aw.length<=8/\m.av.length<=12:=by
 obtain⟨h1,h2,h3,h4,h5,_⟩:=h.ok.sz
 omega
theorem BO.sizeM{m:cx}(hm:iv m){c:b9}(h:BO m c):c.size<=8:=by
 rw[h.eq,H7,h.len]
 have:=hm.ay;omega
theorem BO.validM{m:cx}(hm:iv m){c:b9}(h:BO m c):Al (AM m) c=J:=by
 rw[h.eq]
 exact Lu m hm.kind (by have:=hm.ay;omega) _ h.st _ h.len h.nm
theorem Alu(r:cm)(k:Nat)(x:Int)(ws gs:List Int)(h:I ws=I gs):l5 r k x (zipWith (fun w g=>w+g) ws gs)=zipWith (fun w g=>w+g) (l5 r k x ws) gs:=by
 unfold l5
 split
 ·apply ext_getElem?
  grind
 ·rfl
theorem AcB(r:cm)(gs:List Int):∀(ys ns:List Int) (k:Nat) (ws:List Int),I ws=I gs->iq r k ys ns (zipWith (fun w g=>w+g) ws gs)=zipWith (fun w g=>w+g) (iq r k ys ns ws) gs
 |[],_,_,_,_=>by rfl
 |_::_,[],_,_,_=>by rfl
 |y::ys,n::ns,k,ws,h=>by
  rw[iq,iq,Alu r k _ ws gs h,AcB r gs ys ns (k+1) _ (by grind[AcA])]
theorem V6:∀gs:List Int,zipWith (fun w g=>w+g) (replicate (I gs) 0) gs=gs
 |[]=>rfl
 |g::gs=>by simp[Jk,V6 gs]
def mp(r:cm)(ys:List Int):List Int:=zipWith (fun w g=>w+g) (qm r ys) r.aj
theorem Amy(r:cm)(ys:List Int)(h:I r.aj=I ys):iq r 0 ys r.ak r.aj=mp r ys:=by
 grind[mp,qm,AcB,V6]
theorem Zu(m:cx)(hm:iv m)(i:Nat)(hi:i<I m.av)(c:b9)(hc:BO m c):F0 151 [Af m,di i,dV c] (di 0):=by
 have hsz:=hc.sizeM hm
 have h1:=Hr m hm.ok c (by omega)
 rw[hc.validM hm] at h1
 exact sv Ap1 32 [3,5] (.c (di 0)<|.k<|.f<|.f<|.f<|.c (db J) .r) (_/\(m.kind !=1)=O/\yd i 0/\y7 i (I (U Aj m.av))/\_/\Q (di 0)) ⟨G3 m hm.ok,by rw[hm.kind];rfl,yq,by grind,h1,rfl⟩
theorem Ac8(r:cm)(i N:Nat)(h:py r N)(hi:i<N):F0 154 [BK r,di i] (di (ib r i)):=by
 by_cases hr:r.move=[]
 ·refine sv Ar3 15 [2] (.t .r) (((I (dt r.move):Int)==0)=J/\di (i:Int)=di (ib r i)) ?_
  grind[ib]
 ·have hl:=(h.resolve_left hr).1
  have hti:r.move[i]?=G (ib r i):=by rw[ib,Iz hr,HS,HK (show i<I r.move by omega)];rfl
  generalize ib r i=t at*
  refine sv Ar3 15 [2] (.f<|.x (vi t) .r) (((I (dt r.move):Int)==0)=O/\y6 i/\zy (dt r.move) i (vi t)/\Q (di t)) ?_
  grind
theorem Amf(r:cm)(ys:List Int)(hl:I r.ak=I ys)(hy:I ys<=6)(by1:∀y∈ys,0<=y/\y<=1048576)(bn:∀y∈r.ak,0<=y/\y<=16)(N:Nat)(hN:N=I ys)(hm:py r N)(n:Nat):∀(k:Nat) (ws:List Int),N-k=n->k<=N->I ws=N->(∀w∈ws, -(1048576*(k:Int))<=w/\w<=1048576*(k:Int)+16)->
  Rn PP T4 0 (dP (Ty [lf r.to] (iq r k (ys.drop k) (r.ak.drop k) ws))) bd ([zu T4 1012,.blk 0,zt T4 127]++[]) (cz 90 [(6,.ptr 0 0),(9,.ptr 1 0),(10,.arr 2 0 N),(40,co (ys.map lf)),(41,di (I ys)),(42,di k)]) (gn r ws):=by
 induction n with
 |zero=>
  intro k ws hn hkN hx hb
  refine zo [3,5] (.f<|.a 1<|.h .g<|.lo [ke 6,ke 14,ch 72 (.arr 2 0 N),ch 73 (di N),ch 74 (di (0:Nat))] (ki r ws [lf r.to])) (yd k (I ys)/\Q (bo 2 0 N)/\Q (di (N:Int))/\di 0=di (↑0:Int)/\cp 4 [1] [G [di 0,dn],G (cR r),G (cb ws),G [di 0,br 1 [aa [vi r.to,ae []]]]]=J/\Q [G [di 0,dn],G (cR r),G (cb ws),G [di 0,br 1 (eV (lf r.to)::nV)]]/\Q [(1,2,eV (lf r.to)::nV)]/\I0 T4 0 (dP (Ty [lf r.to] (iq r k (W k ys) (W k r.ak) ws))) bd Aw0 (cz 90 [kf,(14,bq 3 0),(72,bo 2 0 N),(73,di (N:Int)),(74,di (↑0:Int))]) (ki r ws [lf r.to])) ?_
  rw[I3 (show I ys<=k by omega),UN]
  refine⟨yq,rfl,rfl,rfl,by simp[cp,D.okNs,D.okN,Ce],rfl,rfl,⟨?_⟩⟩
  have:=Aka r ws (by omega) _ 0 [lf r.to] rfl (by simp)
  rw[hx] at this
  exact this
 |succ n ih=>
  intro k ws hn hkN hx hb
  have hk:k<N:=by omega
  have okS:∀l:List Int,cp 3 [] [G [di 0,.v .nils],G (cR r),G (cb l)]=J:=fun l=>by simp[cp,D.okNs,D.okN,Ce]
  obtain⟨y,hy1⟩:=@yk _ ys k (by omega)
  obtain⟨x,hn1⟩:∃x,r.ak[k]?=G x:=⟨_,HK (by omega)⟩
  have e3:ys.drop k=y::ys.drop (k+1):=by rw[HZ (by omega)];congr 1;rw[HK (by omega)] at hy1;simpa using hy1
  have e4:r.ak.drop k=x::r.ak.drop (k+1):=by rw[HZ (by omega)];congr 1;rw[HK (by omega)] at hn1;simpa using hn1
  have b1:=by1 _ (HQ hy1)
  have b2:=bn _ (HQ hn1)
  have ht:=Aj7 hm hk
  have hmd:=Ac8 r k N hm hk
  have hyv:((ys.map lf).map eV)[Z (k:Int)]?=G (Ad (lf y)):=Ap (by rw[IP,hy1];rfl)
  rw[e3,e4,iq,l5]
  generalize ib r k=t at*
  by_cases h0:t>=0
  ·rw[I4 h0]
   obtain⟨w,hw⟩:∃w,ws[t.toNat]?=G w:=⟨_,HK (by omega)⟩
   rw[show ws.getD t.toNat 0=w by rw[HS,hw];rfl]
   refine zo [3,5] (.t<|.h (.xs (Ad (lf y)))<|.c (di t)<|.t<|.m (di w)<|.x (vi x)<|.w<|.lo (Ayb k) (gn r (ws.set t.toNat (w+(y-x))))) (ye k (I ys)/\Q 2/\y6 k/\type_of% hyv/\type_of% hmd/\y8 t 0/\0<=t/\y5 t N/\(cb ws)[0+Z t*1]?=G (di w)/\y6 k/\zy (dt r.ak) k (vi x)/\0<=t/\y5 t N/\0+Z t*1<I (cb ws)/\(yj (True))/\zx k/\cp 3 [] [G [di 0,dn],G (cR r),G (List.set (cb ws) (0+Z t*1) (di (yu yt (w+yu yt (b9.n (lf y)-x)))))]=J/\[G [di 0,dn],G (cR r),G (List.set (cb ws) (0+Z t*1) (di (yu yt (w+yu yt (b9.n (lf y)-x)))))]=[G [di 0,dn],G (cR r),G (cb (List.set ws (Z t) (w+(y-x))))]/\I0 T4 0 (dP (Ty [lf r.to] (iq r (k+1) (W (k+1) ys) (W (k+1) r.ak) (List.set ws (Z t) (w+(y-x)))))) bd [kl GD mr,bh 0,kc GD mu] (cz 90 [kf,(9,bq 1 0),(10,bo 2 0 N),(40,bt (dq (U lf ys))),(41,di (I ys:Int)),(42,zw k)]) (gn r (List.set ws (Z t) (w+(y-x))))) ?_
   have hwb:=hb w (HQ hw)
   have ew:yt.wrap (w+yt.wrap (b9.n (lf y)-x))=w+(y-x):=by
    rw[show b9.n (lf y)=y from rfl,An (n:=y-x),An]
   have es:List.set (cb ws) (0+Z t*1) (di (w+(y-x)))=cb (ws.set t.toNat (w+(y-x))):=by simp[cb,map_set]
   have hi:=ih (k+1) (ws.set t.toNat (w+(y-x))) (by omega) (by omega) (by rw[length_set];exact hx) (fun v hv=>by
    rcases Jv hv with hv|hv
    ·have:=hb v hv;omega
    ·rw[hv];omega)
   rw[ew,es]
   exact⟨yr,rfl,by omega,hyv,hmd,yr,by omega,by omega,by simp[cb,hw],by omega,Ae hn1,by omega,by omega,by simp[cb];omega,⟨trivial,trivial,trivial,trivial⟩,Ac,okS _,rfl,⟨hi⟩⟩
  ·rw[Iz h0]
   exact zo [3,5] (.t<|.h (.xs (Ad (lf y)))<|.c (di t)<|.f<|.lo (Ayb k) (gn r ws)) (ye k (I ys)/\Q 2/\y6 k/\_/\_/\y7 t 0/\zx k/\cp 3 [] [G [di 0,dn],G (cR r),G (cb ws)]=J/\Q (gn r ws).H/\_) ⟨yr,rfl,by omega,hyv,hmd,yq,Ac,okS _,rfl,iK (ih (k+1) ws (by omega) (by omega) hx (fun w hw=>by have:=hb w hw;omega))⟩
theorem Ae5(m:cx)(hm:iv m)(i:Nat)(r:cm)(hi:m.av[i]?=G r)(c:b9)(hc:BO m c):F0 108 [Af m,di i,dV c] (dP (jy r (gr c) (fg c))):=by
 have hr:=hm.rule (HQ hi)
 have hp:=hm.ay
 have hil:=(HN.1 hi).1
 have hck:=Zu m hm i hil c hc
 have hcc:=hc.isC
 have hyl:=hc.len
 have hnm:=hc.nm
 have he:=Xm r c _ _ hcc (by rw[hr.needL,hc.len]) (by omega)
 generalize gr c=s at*
 generalize fg c=ys at*
 cases hb:io r s ys with
 |false=>
  rw[hb] at he
  exact sv T4 90 [3,5] (.c (di 0)<|.x (Aj r)<|.c (db O) .r) (_/\y6 i/\zy (U Aj m.av) i (Aj r)/\_/\bl [bt nv,di 18]=dP (jy r s ys)) ⟨hck,by omega,Ae hi,he,by rw[jy,hb];rfl⟩
 |true=>
  rw[hb] at he
  obtain⟨N,hN⟩:∃N,N=I ys:=⟨_,rfl⟩
  have hN0:r.aj≠ []:=by intro h;have:=hr.giveL;grind
  have hgl:I r.aj=N:=by rw[hr.giveL];omega
  have hd:=ND hcc
  have hlen:I c.az=I ys+1:=hcc.len
  refine sv T4 90 [3,5] (.c (di 0)<|.x (Aj r)<|.c (db J)<|.h (.q 7 2)<|.h (.oc (.arr 2 0 N) (gn r r.aj))<|.lo [ke 6,ke 9,ke 10,ch 40 (co (ys.map lf)),ch 41 (di (I ys)),ch 42 (di (0:Nat))] (gn r r.aj)) (_/\y6 i/\zy (U Aj m.av) i (Aj r)/\_/\(N0 [bt (bw 153 [] []),cw r.aj] (bi [G [di 0,dn],G [bt (ab r.name),di r.ai,di r.to,cw r.ak,cw r.aj,cw r.move,di r.chan,di r.act,di r.letter,cw r.path,cw r.next,bt (AH r.aq),cw r.ao,di r.second]] []) (bo 2 0 N) (gn r r.aj))/\(∀(x:V),x∈U eV c.az->V.size x=2)/\y6 1/\(1:Int)<=(I (c7 c.az):Int)/\bt (ae (W (Z ((1:Int))) (take (I (c7 c.az)) (c7 c.az))))=co (U lf ys)/\di (I (W (Z ((1:Int))) (take (I (c7 c.az)) (c7 c.az))):Int)=di (I ys:Int)/\Q (di 0)/\cp 3 [] [G [di 0,dn],G (cR r),G (cb r.aj)]=J/\Q (gn r r.aj).H/\I0 T4 (I bd.H) (dP (jy r s ys)) bd [kl GD mr,bh 0,kc GD mu] (cz 90 [kf,(9,bq 1 0),(10,bo 2 0 N),(40,co (U lf ys)),(41,di (I ys:Int)),(42,di (↑0:Int))]) (gn r r.aj)) ⟨hck,by omega,Ae hi,he,fun o c' fo ho hc'=>?_,?_,by omega,?_,?_,?_,rfl,by simp[cp,D.okNs,D.okN,Ce],rfl,⟨?_⟩⟩
  ·exact Fm (σ:=⟨[G [di 0,.v .nils],G (cR r)],[]⟩) (fs:=[]) (cs:=[]) (ds:=[cw r.aj]) ho hc' rfl (Hc:=[none,G (cb r.aj)]) (j:=1) rfl (AbZ _) (by grind[Pu])
  ·grind[AE,V.size]
  ·grind
  ·grind
  ·grind
  ·have h1:=Amf r ys (by rw[hr.needL];omega) (by omega) hnm hr.ak N hN (by rw[hN,hyl];exact hr.move) _ 0 r.aj rfl (by omega) hgl (fun w hw=>by have:=hr.aj w hw;omega)
   rw[JG,JG,Amy r ys (by omega),mp,UA _ _ _ (by grind[qm,UO])] at h1
   rw[jy,I4 hb]
   exact h1
theorem Aos{r:cm}{k:Nat}{x:Int}(hx:0<=x){ws:List Int}(h:∀w∈ws,0<=w):∀w∈l5 r k x ws,0<=w:=by
 intro w hw
 unfold l5 at hw
 split at hw
 ·rcases Jv hw with hw|hw
  ·grind
  ·cases hi:ws[(ib r k).toNat]? with
   |none=>grind
   |some v=>have:=h v (HQ hi);grind
 grind
theorem Aj8(r:cm):∀(ys ns:List Int) (k:Nat) (ws:List Int),Ei ns ys=J->(∀w∈ws,0<=w)->∀w∈iq r k ys ns ws,0<=w
 |[],ns,k,ws,_,h=>by grind[UN]
 |y::ys,[],k,ws,_,h=>by grind[iq]
 |y::ys,n::ns,k,ws,hn,h=>by
  simp only[Ei,HL,IZ,J8] at hn
  exact Aj8 r ys ns (k+1) _ hn.2 (Aos (by omega) h)
theorem Ajb{m:cx}{r:cm}(hr:Asp m r){ys:List Int}(hy:I ys=I m.ay):I (mp r ys)=I m.ay:=by
 have h2:=hr.giveL
 grind[mp,qm,UO]
theorem ApY{m:cx}{r:cm}(hr:Asp m r){c:b9}(hc:BO m c):
  ((jy r (gr c) (fg c)).2=0/\gr c=r.ai/\(jy r (gr c) (fg c)).1=DQ r.to (mp r (fg c))/\BO m (DQ r.to (mp r (fg c))))∨(jy r (gr c) (fg c)).2=1∨(jy r (gr c) (fg c)).2=18:=by
 unfold jy
 split
 ·rename_i he
  simp only[io,HL,IJ] at he
  rcases UB (qm r (fg c)) r.aj [lf r.to] with⟨h1,h2,h3⟩|h1
  ·refine .inl ⟨h1,he.1,by rw[h2];rfl,vd m _ hr.to _ (Ajb hr hc.len) fun z hz=>⟨?_,h3 z hz⟩⟩
   obtain⟨i,hi⟩:=List.getElem?_of_mem hz
   rw[mp,List.getElem?_zipWith] at hi
   split at hi
   ·rename_i w g hw hg
    cases hi
    have b1:=Aj8 r (fg c) r.ak 0 (replicate (I (fg c)) 0) he.2 (fun w hw=>by grind) w (HQ hw)
    have b2:=(hr.aj g (HQ hg)).1
    omega
   grind
  grind
 omega
def j7(m:cx)(c:b9)(i:Int):List b9×Int:=if i<0 then([],0) else match m.av[i.toNat]? with
 |some r=>C7 (jy r (gr c) (fg c))
 |none=>([],0)
def HH(m:cx)(c:b9):List er×Int:=DD (j7 m c) (I m.av+1) (-1) []
structure Am0(m:cx)(c:b9)(s:er):Prop where
 rule:∃(i:Nat) (r:cm),s.1=i/\m.av[i]?=G r/\gr c=r.ai/\s.2=DQ r.to (mp r (fg c))/\jy r (gr c) (fg c)=(s.2,0)
 ok:BO m s.2
theorem Tr{m:cx}(hm:iv m){c:b9}(hc:BO m c)(i:Int):((j7 m c i).2=0∨(j7 m c i).2=1)/\(j7 m c i).1.length<=1/\∀v∈ (j7 m c i).1,Am0 m c (i,v):=by
 unfold j7
 split
 ·grind
 ·split
  ·rename_i r hi
   have hr:=hm.rule (HQ hi)
   rcases ApY hr hc with⟨h1,h2,h3,h4⟩|h1|h1
   ·have:C7 (jy r (gr c) (fg c))=([DQ r.to (mp r (fg c))],0):=by
     grind[C7]
    rw[this]
    refine⟨.inl rfl,by simp,fun v hv=>?_⟩
    rw[Ia.1 hv]
    exact⟨⟨i.toNat,r,by omega,hi,h2,rfl,by grind⟩,h4⟩
   all_goals grind[C7]
  grind
theorem R9{m:cx}(hm:iv m){c:b9}(hc:BO m c):((HH m c).2=0∨(HH m c).2=1)/\(HH m c).1.length<=13/\∀s∈ (HH m c).1,Am0 m c s:=by
 have:=hm.ay
 obtain⟨h1,h2,h3⟩:=V2 (ap:=j7 m c) (fun i=>(Tr hm hc i).1) (fun i=>(Tr hm hc i).2.1) (Q:=Am0 m c) (fun i=>(Tr hm hc i).2.2) (I m.av+1) (-1) [] (by simp)
 grind[HH]
theorem Asn(m:cx)(hm:iv m)(c:b9)(hc:BO m c)(i:Int)(h1: -1<=i)(h2:i<I m.av):F0 86 [Af m,di i,dV c] (dm (j7 m c i)):=by
 have hsz:=hc.sizeM hm
 by_cases h0:i<0
 ·have:i= -1:=by omega
  subst this
  exact Aqd m hm.ok hm.kind c (by omega) (hc.validM hm)
 ·obtain⟨k,rfl⟩:∃k:Nat,i=k:=⟨i.toNat,by omega⟩
  have hk:k<I m.av:=by omega
  have hr:m.av[k]?=G m.av[k]:=HK hk
  have hro:=hm.rule (HQ hr)
  rw[j7,Iz h0,show((k:Nat):Int).toNat=k by omega,hr]
  generalize m.av[k]=r at hr hro
  have hp:=hm.ay
  exact Aqe m hm.ok hm.kind k hk c (by omega) (hc.validM hm) _ (ZD m hm.ok hm.kind k r hr c (by omega) (hc.validM hm) _ _ hc.isC (by rw[hro.needL,hc.len]) (by rw[hro.giveL,hc.len]) (by rw[hc.len];omega) (by rw[hc.len];exact hro.move) hc.nm hro.ak hro.aj)
theorem Aqg{m:cx}(hm:iv m){c:b9}(hc:BO m c):F0 41 [Af m,dV c] (fv (HH m c)):=by
 have hsz:=hc.sizeM hm
 exact ZE m hm.ok c (by omega) (hc.validM hm) (j7 m c) (fun i=>by grind[Tr]) (fun i h1 h2=>Asn m hm c hc i h1 h2)
theorem XS(m:cx)(hm:iv m):F0 104 [Af m] (di 0):=by
 exact sv AlD 12 [1] (.c (di 0)<|.k<|.f .r) (_/\(m.kind==6)=O/\Q (di 0)) ⟨G3 m hm.ok,by rw[hm.kind];rfl,rfl⟩
theorem XX(m:cx)(hm:iv m)(c:b9)(hc:BO m c):F0 72 [Af m,dV c] (di 0):=by
 refine sv Aia 15 [2,3] (.c (di 0)<|.c (db J) .r) (xt m/\F0 105 [Af m,dV c] (db J)/\Q (di 0)) ?_
 have hsz:=hc.sizeM hm
 have h1:=Hr m hm.ok c (by omega)
 rw[hc.validM hm] at h1
 grind[XS]
theorem AaX(m:cx)(hm:iv m)(c:b9):F0 106 [Af m,dV c] (co []):=by
 exact sv vz 31 [2,3] (.f<|.f<|.f .r) ((m.kind==2)=O/\(m.kind==3)=O/\(m.kind==5)=O/\Q (co [])) ⟨by rw[hm.kind];rfl,by rw[hm.kind];rfl,by rw[hm.kind];rfl,rfl⟩
theorem ApS(m:cx)(hm:iv m)(c:b9):F0 73 [Af m,di (-1),dV c] (dm ([],0)):=by
 refine sv ql 56 [3,5] (.c (co []) .r) (F0 106 [Af m,dV c] (co [])/\Q (dm ([],0))) ?_
 grind[AaX]
theorem ApR(m:cx)(hm:iv m)(i:Nat)(c:b9)(p:b9×Int)(hp:F0 108 [Af m,di i,dV c] (dP p)):F0 73 [Af m,di i,dV c] (dm (C7 p)):=by
 exact sv ql 56 [3,5] (.f<|.t<|.c (dP p)<|.c (dm (C7 p)) .r) (((i:Int)== -1)=O/\(m.kind==1)=J/\_/\_/\Q (dm (C7 p))) ⟨IM.2 (by omega),by rw[hm.kind];rfl,hp,MP p,rfl⟩
theorem Ae9(m:cx)(hm:iv m)(c:b9)(hc:BO m c)(i:Int)(h1: -1<=i)(h2:i<I m.av):F0 73 [Af m,di i,dV c] (dm (j7 m c i)):=by
 grind[ApS,j7,ApR,Ae5]
theorem XZ(m:cx)(hm:iv m)(c:b9)(hc:BO m c):F0 38 [Af m,dV c] (fv (HH m c)):=by
 have hp:=hm.ay
 refine sv GP 53 [2,3] (.c (di 0)<|.h (.q 5 0)<|.h (.nw 7 1 3)<|.ls uy (FO [])) (_/\Q (di (-1))/\Q [(1,3,nV)]/\I0 GP (I bd.H) (fv (HH m c)) bd [kl Dt fd,bh 0,zt GP 31] (cz 53 (uu m c)) (FO [])) ⟨XX m hm c hc,rfl,rfl,⟨?_⟩⟩
 exact MV m (by omega) c (j7 m c) (fun i=>by grind[Tr]) (fun i h1 h2=>Ae9 m hm c hc i h1 h2) (I m.av+1) (-1) [] (by omega) (by omega) (by omega) (by simp)
def jn(nm:List UInt8)(f t:Int)(nd gv mv:List Int):cm:=⟨nm,f,t,nd,gv,mv,0,0,0,[],[],[],[],0⟩
structure Tt(ns np:Nat)(k:Nat)(r:cm):Prop where
 name:k6[k]?=G r.name
 ai:0<=r.ai/\r.ai<ns
 to:0<=r.to/\r.to<ns
 ak:I r.ak=np/\∀x∈r.ak,0<=x/\x<=2
 aj:I r.aj=np/\∀x∈r.aj,0<=x/\x<=2
 move:py r np
 rest:r=jn r.name r.ai r.to r.ak r.aj r.move
structure Tu(m:cx):Prop where
 kind:m.kind=1
 aw:m.aw=[[97]]∨m.aw=[[97],[98]]
 ay:m.ay=[[120]]∨m.ay=[[120],[121]]
 ax:m.ax=[]
 au:m.au=[]
 am:m.am=0
 age:m.age=0
 count:I m.av<=3
 pos:1<=I m.av
 av:∀k r,m.av[k]?=G r->Tt (I m.aw) (I m.ay) k r
 start:∃ys:List Int,I ys=I m.ay/\(∀x∈ys,0<=x/\x<=3)/\m.start=DQ 0 ys
theorem Aov{ns np:Nat}{rs:List cm}{k:Nat}{nm:List UInt8}{f t:Int}{nd gv mv:List Int}(hnm:k6[k]?=G nm)(hf:0<=f/\f<ns)(ht:0<=t/\t<ns)(hn:I nd=np/\∀x∈nd,0<=x/\x<=2)(hg:I gv=np/\∀x∈gv,0<=x/\x<=2)(hm:mv=[]∨mv.length=np/\∀t∈mv, -1<=t/\t<np)(hrs:I rs=k)(hR:∀i r,rs[i]?=G r->Tt ns np i r):∀i r,(rs++[jn nm f t nd gv mv])[i]?=G r->Tt ns np i r:=fun i r hi=>by
 by_cases hik:i<I rs
 ·grind
 ·rw[I2 (by omega)] at hi
  have h1:i-I rs=0:=by
   grind
  rw[h1] at hi
  simp at hi;subst hi
  have hik2:i=k:=by omega
  subst hik2
  exact⟨hnm,hf,ht,hn,hg,hm,rfl⟩
theorem AlQ{H:List (Option (List D))}{own:List (Nat×Nat×List V)}{q tag:Nat}{nm:List UInt8}{f t:Int}{nd gv xs:List Int}(hq:H[q]?=G (G [.v (.str nm),di f,di t,.v (cy nd),.v (cy gv),.acc tag (xs.map vi),di 0,di 0,di 0,.v .nils,.v .nils,.v .nils,.v .nils,di 0]))(e:List D):Cv e ⟨H,own⟩ e ⟨H.set q (G (cR (jn nm f t nd gv xs))),own⟩:=
 F4 (σ:=⟨H,own⟩) (q:=q) hq (fun g us hr=>by
  have:=Dz (ts:=[]) (kn:=false) hr
  exact this) (fun _ x hx=>by
  simp only[cR,IN,JE,or_false] at hx
  rcases hx with rfl|rfl|rfl|rfl|rfl|rfl|rfl|rfl|rfl|rfl|rfl|rfl|rfl|rfl<;>rfl) e
abbrev mc(l:List UInt8)(a:Nat)(S Pl:List (List UInt8))(rs:List cm)(nm:List UInt8)(f t:Int)(nd gv xs:List Int):St:=⟨[G (cn l a),G zM,G (cM S Pl rs),G [.v (.str nm),di f,di t,.v (cy nd),.v (cy gv),.acc 3 (xs.map vi),di 0,di 0,di 0,.v .nils,.v .nils,.v .nils,.v .nils,di 0]],[(3,1,xs.map vi),(2,14,rs.map Aj)]⟩
abbrev wc(d:D)(σ':St)(n k:Nat)(s:St):Prop:=BS (CN 1) PP (fun env σ1=>A7 PP Hy env σ1 d σ') [.blk 1,zt Hy 979,zu Hy 244,.blk 0,zt Hy 31] (AR (sub Ca [1,1,1,0,1,0,0,1,0,0,1,1])) (W 0 (AR (sub Ca [1,1,1,0,1,0,0,1,0,0,1,1])).toList) (cz 85 [(0,.ptr 0 0),(1,db J),(4,.ptr 1 0),(5,.ptr 2 0),(6,di n),(7,di k),(8,.ptr 3 0)]) s
noncomputable abbrev xx:=(5,bq 2 0)
theorem AdX{l:List UInt8}{S Pl:List (List UInt8)}{k a:Nat}{rs:List cm}{f t:Int}{nd gv xs:List Int}{nm:List UInt8}{d:D}{σ':St}(hk:k<=2)(hrs:I rs=k)(m3:Rn PP Hy 1 d σ' ([zu Hy 244,.blk 0,zt Hy 31]++[]) (cz 85 [(0,.ptr 0 0),(1,db J),(4,.ptr 1 0),(5,.ptr 2 0),(6,di (I Pl)),(7,zw k)]) (qb l a S Pl (rs++[jn nm f t nd gv xs]))):wc d σ' (I Pl) k (mc l a S Pl rs nm f t nd gv xs):=by
 refine OH mixed 85 [] 12 0 (.h (.q 12 2)<|.h (.cs ⟨[G (cn l a),G zM,G (cM S Pl rs),G (cR (jn nm f t nd gv xs))],[(3,1,xs.map vi),(2,14,rs.map Aj)]⟩)<|.ls [ke 0,ke 1,ke 4,ke 5,ke 6,ch 7 (zw k)] (qb l a S Pl (rs++[jn nm f t nd gv xs]))) ?_
 refine fu (by kernel_rfl:((∀(e:List D) (E:c9) (g:Gh) (a_1:Act) (w:x5),FI E g (bi [G (cn l a),G zM,G (cM S Pl rs),G [bt (ab nm),di f,di t,cw nd,cw gv,br 3 (U vi xs),di 0,di 0,di 0,dn,dn,dn,dn,di 0]] [(3,1,U vi xs),(2,14,U Aj rs)]) e a_1 w->∃g',FI E g' (bi [G (cn l a),G zM,G (cM S Pl rs),G (cR (jn nm f t nd gv xs))] [(3,1,U vi xs),(2,14,U Aj rs)]) e a_1 w)/\Q (U Aj rs)/\Ao (I (U Aj rs)+I (Aj (jn nm f t nd gv xs)::nV)) 232/\di (yu yt ((k:Int)+1))=zw k/\[G (cn l a),G zM,G [di 1,bt (cc S),bt (cc Pl),dn,dn,di 0,di 0,br 2 (U Aj rs++Aj (jn nm f t nd gv xs)::nV),di 0,dn]]=[G (cn l a),G zM,G (cM S Pl (rs++[jn nm f t nd gv xs]))]/\[(2,14,U Aj rs++Aj (jn nm f t nd gv xs)::nV)]=[(2,14,U Aj (rs++[jn nm f t nd gv xs]))]/\I0 Hy 1 d σ' [kl Ca fd,bh 0,zt Hy 31] (cz 85 [(0,bq 0 0),(1,db J),(4,bq 1 0),xx,(6,di (I Pl:Int)),(7,zw k)]) (qb l a S Pl (rs++[jn nm f t nd gv xs])))=_) ?_
 repeat' first|with_reducible refine And.intro ?_ ?_
 all_goals first|rfl|exact⟨m3⟩|exact Ac|exact(fun e=>AlQ (q:=3) rfl e)|exact I6 (fun z=>[G (cn l a),G zM,G [di 1,.v (cc S),.v (cc Pl),.v .nils,.v .nils,di 0,di 0,.acc 2 z,di 0,.v .nils]]) (Dk rs _)|exact I6 (fun z=>[(2,14,z)]) (Dk rs _)|(simp only[HJ,HP,HT];omega)|skip
noncomputable abbrev Av7:=[zu Hy 250452,bh 2,zt Hy 7827,bh 1,zt Hy 979,kl Ca fd,bh 0,zt Hy 31]
theorem AdY(l:List UInt8)(hl:I l<=200)(S Pl:List (List UInt8))(hPl:I Pl<=2)(k:Nat)(rs:List cm)(f t:Int)(nd gv:List Int)(nm:List UInt8):∀(j a:Nat) (xs:List Int),I xs+j=I Pl->a<=I l->(∀t∈xs, -1<=t/\t<I Pl)->∃(ys:List Int) (a':Nat),(I ys=I Pl/\∀t∈ys, -1<=t/\t<I Pl)/\a'<=I l/\∀(d:D) (σ':St),wc d σ' (I Pl) k (mc l a' S Pl rs nm f t nd gv ys)->Rn PP Hy 1 d σ' ([zu Hy 250452,.blk 2,zt Hy 7827,.blk 1,zt Hy 979,zu Hy 244,.blk 0,zt Hy 31]++[]) (cz 85 [(0,.ptr 0 0),(1,db J),(4,.ptr 1 0),(5,.ptr 2 0),(6,di (I Pl)),(7,di k),(8,.ptr 3 0),(9,di (I xs))]) (mc l a S Pl rs nm f t nd gv xs)
 |0,a,xs,hj,ha,hx=>by
  refine⟨xs,a,⟨by omega,hx⟩,ha,fun d σ' h=>?_⟩
  exact zp (.f<|.h (.q 12 0)<|.h (.s [ke 0,ke 1,ke 4,ke 5,ke 6,ke 7,ke 8]) .z) (yd (I xs) (I Pl)/\_) ⟨yq,iK h⟩
 |j+1,a,xs,hj,ha,hx=>by
  obtain⟨v,b,v1,v2,v3,v4⟩:=A6 l hl a ha (I Pl+1) (by omega) (by omega)
  obtain⟨ys,a',y1,y2,y3⟩:=AdY l hl S Pl hPl k rs f t nd gv nm j b (xs++[v-1]) (by grind) v3 (by grind)
  refine⟨ys,a',y1,y2,fun d σ' h=>?_⟩
  have y3:=y3 d σ' h
  refine zp (.t<|.m (.acc 3 (xs.map vi))<|.c1 (cn l b) (di v)<|.ls [ke 0,ke 1,ke 4,ke 5,ke 6,ke 7,ke 8,ch 9 (di (I (xs++[v-1])))] (mc l b S Pl rs nm f t nd gv (xs++[v-1]))) (ye (I xs) (I Pl)/\Q (G (br 3 (U vi xs)))/\Aa PP 7 [bq 0 0,di (yu yt ((I Pl:Int)+1))] (dz l a) (di v) (dz l b)/\Q (U vi xs)/\Ao (I (U vi xs)+I (a8 yt (yu yt (v-1))::nV)) 8/\((Q (G [br 3 (U vi xs)])/\True)/\True)/\di (yu yt ((I xs:Int)+1))=di (I (xs++[v-1]):Int)/\[G (cn l b),G zM,G (cM S Pl rs),G [bt (ab nm),di f,di t,cw nd,cw gv,br 3 (U vi xs++vi (yu yt (v-1))::nV),di 0,di 0,di 0,dn,dn,dn,dn,di 0]]=[G (cn l b),G zM,G (cM S Pl rs),G [bt (ab nm),di f,di t,cw nd,cw gv,br 3 (U vi (xs++[v-1])),di 0,di 0,di 0,dn,dn,dn,dn,di 0]]/\[(3,1,U vi xs++vi (yu yt (v-1))::nV),(2,14,U Aj rs)]=[(3,1,U vi (xs++[v-1])),(2,14,U Aj rs)]/\It (type_of% y3)) ?_
  rw[An (n:=v-1),An (n:=(I Pl:Int)+1),An (n:=(I xs:Int)+1)]
  repeat' first|with_reducible refine And.intro ?_ ?_
  all_goals first|rfl|trivial|exact⟨y3⟩|exact v4|exact yr|(simp;done)|(simp;omega)|skip
noncomputable abbrev iu:=fun a₀=>(G [bt (cc a₀)])
theorem AdZ(l:List UInt8)(hl:I l<=200)(S Pl:List (List UInt8))(hS:S=[[97]]∨S=[[97],[98]])(hP:Pl=[[120]]∨Pl=[[120],[121]])(n:Nat):∀(k a:Nat) (rs:List cm),3-k=n->a<=I l->k<=3->I rs=k->(∀i r,rs[i]?=G r->Tt (I S) (I Pl) i r)->
  ∃(m:cx) (a':Nat),Tu m/\a'<=I l/\Rn PP Hy 1 (Af m) (dz l a') ([zu Hy 244,.blk 0,zt Hy 31]++[]) (cz 85 [(0,.ptr 0 0),(1,db J),(4,.ptr 1 0),(5,.ptr 2 0),(6,di (I Pl)),(7,di k)]) (qb l a S Pl rs):=by
 induction n using Nat.strongRecOn with
 |_ n ih=>
 intro k a rs hn ha hk3 hrs hR
 have hSl:1<=I S/\S.length<=2:=by grind
 have hPl:1<=I Pl/\Pl.length<=2:=by grind
 obtain⟨r,a1,h1,h2,h3,h4⟩:=A6 l hl a ha 3 (by decide) (by decide)
 by_cases hk:(k:Int)<1+r
 ·obtain⟨f,a2,f1,f2,f3,f4⟩:=A6 l hl a1 h3 (I S) (by omega) (by omega)
  obtain⟨t,a3,t1,t2,t3,t4⟩:=A6 l hl a2 f3 (I S) (by omega) (by omega)
  obtain⟨nd,a4,n1,n2,n3,n4⟩:=FQ l hl a3 t3 (I Pl) (by omega) 2 (by decide) (by decide)
  obtain⟨gv,a5,g1,g2,g3,g4⟩:=FQ l hl a4 n1 (I Pl) (by omega) 2 (by decide) (by decide)
  obtain⟨nm,hnm⟩:∃nm,k6[k]?=G nm:=⟨_,HK (show k<I k6 by grind)⟩
  obtain⟨w,a6,w1,w2,w3,w4⟩:=A6 l hl a5 g1 2 (by decide) (by decide)
  have hkr:Y ((k:Int)<yu yt (1+r))=J:=by grind[An]
  have hSm:(I (S.map ab):Int)=(I S:Int):=by rw[HJ]
  have de:∀(d:D) (σ':St),((w==0)=J->Rn PP Hy 1 d σ' ([zu Hy 250452,.blk 2,zt Hy 7827,.blk 1,zt Hy 979,zu Hy 244,.blk 0,zt Hy 31]++[]) (cz 85 [(0,.ptr 0 0),(1,db J),(4,.ptr 1 0),(5,.ptr 2 0),(6,di (I Pl)),(7,di k),(8,.ptr 3 0),(9,di (0:Nat))]) (mc l a6 S Pl rs nm f t nd gv []))->((w==0)=O->wc d σ' (I Pl) k (mc l a6 S Pl rs nm f t nd gv []))->Rn PP Hy 1 d σ' ([zu Hy 244,.blk 0,zt Hy 31]++[]) (cz 85 [(0,.ptr 0 0),(1,db J),(4,.ptr 1 0),(5,.ptr 2 0),(6,di (I Pl)),(7,di k)]) (qb l a S Pl rs):=fun d σ' hT hF=>by
   refine zp (.c1 (cn l a1) (di r)<|.t<|.h (.dr 21)<|.x (.str nm)<|.c1 (cn l a2) (di f)<|.c1 (cn l a3) (di t)<|.c1 (cn l a4) (cw nd)<|.c1 (cn l a5) (cw gv)<|.h .rn<|.c1 (cn l a6) (di w)<|.b (.h (.q 8 0)<|.h (.cl 3 5 3 1)<|.ls [ke 0,ke 1,ke 4,ke 5,ke 6,ke 7,ke 8,ch 9 (di (0:Nat))] (mc l a6 S Pl rs nm f t nd gv [])) (.h (.q 12 0)<|.h (.cl 3 5 3 1)<|.h (.s [ke 0,ke 1,ke 4,ke 5,ke 6,ke 7,ke 8]) .z)) (type_of% h4/\ye k (yu yt (1+r))/\y6 k/\zy [ab (bf #[114]).data.toList,ab (bf #[115]).data.toList,ab (bf #[116]).data.toList] k (ab nm)/\Aa PP 7 [bq 0 0,di (I (U ab S):Int)] (dz l a1) (di f) (dz l a2)/\Aa PP 7 [bq 0 0,di (I (U ab S):Int)] (dz l a1) (di f) (dz l a2)/\Q (di f)/\Aa PP 7 [bq 0 0,di (I (U ab S):Int)] (dz l a2) (di t) (dz l a3)/\Aa PP 7 [bq 0 0,di (I (U ab S):Int)] (dz l a2) (di t) (dz l a3)/\Q (di t)/\type_of% n4/\type_of% n4/\Q (cw nd)/\type_of% g4/\type_of% g4/\Q (cw gv)/\Q (U (fun st=>bi [G (cn l st),G zM,G (cM S Pl rs),G p8] [(2,14,U Aj rs)]) [a1,a2,a3,a4,a5])/\((yf (Q (iu S)))/\(yf (Q (iu S)))/\True)/\type_of% w4/\((w==0)=J->di 0=di (↑0:Int)/\Q [G (cn l a6),G zM,G (cM S Pl rs),G [bt (ab nm),di f,di t,cw nd,cw gv,br 3 nV,di 0,di 0,di 0,dn,dn,dn,dn,di 0]]/\Q [(3,1,nV),(2,14,U Aj rs)]/\I0 Hy 1 d σ' Av7 (cz 85 [(0,bq 0 0),(1,db J),(4,bq 1 0),xx,(6,di (I Pl:Int)),(7,di (k:Int)),(8,bq 3 0),(9,di (↑0:Int))]) (mc l a6 S Pl rs nm f t nd gv []))/\((w==0)=O->Nv.It (BS (CN 1) PP (fun env σ1=>A7 PP Hy env σ1 d σ') [bh 1,zt Hy 979,kl Ca fd,bh 0,zt Hy 31] (AR (sub Ca [1,1,1,0,1,0,0,1,0,0,1,1])) (W 0 (AR (sub Ca [1,1,1,0,1,0,0,1,0,0,1,1])).toList) (cz 85 [(0,bq 0 0),(1,db J),(4,bq 1 0),xx,(6,di (I Pl:Int)),(7,di (k:Int)),(8,bq 3 0)]) (bi [G (cn l a6),G zM,G (cM S Pl rs),G [bt (ab nm),di f,di t,cw nd,cw gv,br 3 [],di 0,di 0,di 0,dn,dn,dn,dn,di 0]] [(3,1,[]),(2,14,U Aj rs)])))) ?_
   rw[hSm]
   repeat' first|with_reducible refine And.intro ?_ ?_
   all_goals first|exact h4|exact hkr|exact f4|exact t4|exact n4|exact g4|exact w4|exact DT hnm|exact fun h=>⟨rfl,rfl,rfl,⟨hT h⟩⟩|exact fun h=>⟨hF h⟩|omega|rfl|trivial
  have nx:∀(mv:List Int) (b:Nat),b<=I l->py (jn nm f t nd gv mv) (I Pl)->∃(m:cx) (a':Nat),Tu m/\a'<=I l/\wc (Af m) (dz l a') (I Pl) k (mc l b S Pl rs nm f t nd gv mv):=fun mv b hb hm=>by
   obtain⟨m,a',m1,m2,m3⟩:=ih (3- (k+1)) (by omega) (k+1) b (rs++[jn nm f t nd gv mv]) rfl hb (by omega) (by simp[hrs]) (Aov hnm ⟨f1,f2⟩ ⟨t1,t2⟩ ⟨n2,n3⟩ ⟨g2,g3⟩ hm hrs hR)
   exact⟨m,a',m1,m2,AdX (by omega) hrs m3⟩
  by_cases hw:(w==0)=J
  ·obtain⟨mv,a7,y1,y2,y3⟩:=AdY l hl S Pl hPl.2 k rs f t nd gv nm (I Pl) a6 [] (by simp) w3 (by simp)
   obtain⟨m,a',m1,m2,m3⟩:=nx mv a7 y2 (.inr y1)
   exact⟨m,a',m1,m2,de _ _ (fun _=>y3 _ _ m3) (by simp[hw])⟩
  ·obtain⟨m,a',m1,m2,m3⟩:=nx [] a6 w3 (.inl rfl)
   exact⟨m,a',m1,m2,de _ _ (fun h=>absurd h hw) fun _=>m3⟩
 ·obtain⟨ys,a2,y1,y2,y3,y4⟩:=FQ l hl a1 h3 (I Pl) (by omega) 3 (by decide) (by decide)
  obtain⟨c,hc⟩:∃c,c=DQ 0 ys:=⟨_,rfl⟩
  refine⟨⟨1,S,Pl,[],[],0,0,rs,c⟩,a2,⟨rfl,hS,hP,rfl,rfl,rfl,rfl,by grind,by grind,hR,ys,y2,y3,hc⟩,y1,?_⟩
  refine zp (.c1 (cn l a1) (di r)<|.f<|.c1 (cn l a2) (cw ys)<|.c (dV c) .r) (_/\yd k (yu yt (1+r))/\_/\F0 67 [di 0,cw ys] (dV c)/\Q (gp l a2)/\Q (Af (cx.mk 1 S Pl [] [] 0 0 rs c))) ⟨h4,?_,y4,hc▸Px ys (by omega) 0,rfl,rfl⟩
  grind[An]
noncomputable abbrev Atw:=[ab (bf #[120]).data.toList,ab (bf #[121]).data.toList]
noncomputable abbrev Aub:=[ab (bf #[97]).data.toList,ab (bf #[98]).data.toList]
noncomputable abbrev Auq:=(ab (bf #[120]).data.toList::ab (bf #[121]).data.toList::nV)
theorem AlS(l:List UInt8)(hl:I l<=200)(a:Nat)(ha:a<=I l):
  ∃(m:cx) (a':Nat),Tu m/\a'<=I l/\Aa PP 31 [.ptr 0 0,db J] (dz l a) (Af m) (dz l a'):=by
 obtain⟨r1,a1,h1,h2,h3,h4⟩:=A6 l hl a ha 2 (by decide) (by decide)
 obtain⟨r2,a2,h5,h6,h7,h8⟩:=A6 l hl a1 h3 2 (by decide) (by decide)
 obtain⟨S,hS,hS2⟩:∃S:List (List UInt8),(S=[[97]]∨S=[[97],[98]])/\(r1=0/\S=[[97]]∨r1=1/\S=[[97],[98]]):=by
  rcases(show r1=0∨r1=1 by omega) with h|h
  all_goals simp_all
 obtain⟨Pl,hP,hP2⟩:∃S:List (List UInt8),(S=[[120]]∨S=[[120],[121]])/\(r2=0/\S=[[120]]∨r2=1/\S=[[120],[121]]):=by
  rcases(show r2=0∨r2=1 by omega) with h|h
  all_goals simp_all
 obtain⟨m,a',m1,m2,m3⟩:=AdZ l hl S Pl hS hP _ 0 a2 [] rfl h7 (by omega) rfl (fun i r h=>by grind)
 refine⟨m,a',m1,m2,?_⟩
 refine zq Hy 85 (.h (.dr 11)<|.c1 (cn l a1) (di r1)<|.c1 (cn l a2) (di r2)<|.h .rn<|.h (.q 3 0)<|.h (.cl 2 7 2 14)<|.ls [ke 0,ke 1,ke 4,ke 5,ch 6 (di (I Pl)),ch 7 (di (0:Nat))] (qb l a2 S Pl [])) (_/\_/\Q (di r1)/\(∀(x:V),x∈ Aub->V.size x=1)/\0<=(yu yt (1+r1))/\(yu yt (1+r1))<=(↑(I Aub):Int)/\_/\_/\Q (di r2)/\(∀(x:V),x∈ Atw->V.size x=1)/\0<=(yu yt (1+r2))/\(yu yt (1+r2))<=(↑(I Atw):Int)/\Q (U (fun st=>bi [G (cn l st),G jo,G jo] []) [a,a1,a2])/\True/\di (I (W 0 (take (Z ((yu yt (1+r2)))) Auq)):Int)=di (I Pl:Int)/\Q (di 0)/\[G (cn l a2),G jo,G [di 1,bt (ae (W 0 (take (Z ((yu yt (1+r1)))) (ab (bf #[97]).data.toList::ab (bf #[98]).data.toList::nV)))),bt (ae (W 0 (take (Z ((yu yt (1+r2)))) Auq))),dn,dn,di 0,di 0,br 2 nV,di 0,dn]]=[G (cn l a2),G zM,G (cM S Pl [])]/\Q [(2,14,nV)]/\_) ⟨h4,h4,rfl,by simp[V.size],?_,?_,h8,h8,rfl,by simp[V.size],?_,?_,rfl,trivial,?_,rfl,?_,rfl,iK m3⟩
 ·grind[An]
 ·grind[An]
 ·grind[An]
 ·grind[An]
 ·rcases hP2 with⟨rfl,rfl⟩|⟨rfl,rfl⟩<;>rfl
 ·rcases hS2 with⟨rfl,rfl⟩|⟨rfl,rfl⟩<;>rcases hP2 with⟨rfl,rfl⟩|⟨rfl,rfl⟩<;>rfl
theorem Tt.short{ns np k:Nat}{r:cm}(h:Tt ns np k r)(hnp:np<=2):r.short:=by
 have h1:=h.ak.1
 have h2:=h.aj.1
 have h3:I r.move<=2:=by
  rcases h.move with e|e
  all_goals grind
 rw[h.rest]
 exact⟨by show I r.ak<=_;omega,by show I r.aj<=_;omega,by show I r.move<=_;omega,II _,II _,II _,II _⟩
theorem Ahv{rs:List cm}(_:I rs<=3){ns np:Nat}(h:∀k r,rs[k]?=G r->Tt ns np k r):rs.map cm.name=k6.take (I rs):=by
 apply ext_getElem?
 intro i
 by_cases hi:i<I rs
 ·have hx:rs[i]?=G rs[i]:=HK hi
  rw[IP,hx,List.getElem?_take_of_lt hi,(h i _ hx).name];rfl
 grind
theorem Tu.ok{m:cx}(h:Tu m):m.ok:=by
 have hst:1<=I m.aw/\m.aw.length<=2:=by rcases h.aw with e|e<;>rw[e]<;>decide
 have hpl:1<=I m.ay/\m.ay.length<=2:=by rcases h.ay with e|e<;>rw[e]<;>decide
 have hb:∀{x a b:Int},a<=x->x<=b->A4 x a b=J:=fun h1 h2=>by grind[A4]
 have hget:∀r∈m.av,Tt (I m.aw) (I m.ay) (m.av.idxOf r) r:=fun r hr=>by
  exact h.av _ r (by grind)
 have hc:=h.count
 refine⟨.inl h.kind,?_,?_,?_,?_,?_,?_,?_⟩
 ·simp only[Cw,Sn,I4 h.kind,HL,HU,h.ax,h.am,h.age]
  grind
 ·rw[Ck,I4 (by rw[h.kind];rfl),h.au];rfl
 ·have hn:=Ahv h.count h.av
  rw[DJ,FE,hn,Ch,h.ax]
  have:I m.av=0∨m.av.length=1∨m.av.length=2∨m.av.length=3:=by omega
  rcases h.aw with e|e<;>rcases h.ay with e'|e'<;>rcases this with e2|e2|e2|e2<;>rw[e,e',e2]<;>decide
 ·intro r hr
  have hm:=hget r hr
  exact hm.short (by omega)
 ·intro r hr
  have hm:=hget r hr
  obtain⟨f1,f2⟩:=hm.ai
  obtain⟨t1,t2⟩:=hm.to
  obtain⟨n1,n2⟩:=hm.ak
  obtain⟨g1,g2⟩:=hm.aj
  have hmv:r.move=[]∨r.move.length=I m.ay/\∀t∈r.move, -1<=t/\t<I m.ay:=hm.move
  have hr:=hm.rest
  rw[FB,I4 h.kind]
  grind[EO,Cf,Cj,Si,jn,E6]
 ·obtain⟨ys,y1,y2,y3⟩:=h.start
  rw[y3]
  exact Lu m h.kind (by omega) 0 ⟨by omega,by omega⟩ ys y1 fun x hx=>by grind
 ·obtain⟨ys,y1,y2,y3⟩:=h.start
  grind[H7]
theorem Tu.ctm{m:cx}(h:Tu m):iv m:=by
 have hst:1<=I m.aw:=by rcases h.aw with e|e<;>rw[e]<;>decide
 refine⟨h.ok,h.kind,?_⟩
 obtain⟨ys,y1,y2,y3⟩:=h.start
 grind[vd]
abbrev kw(S Pl:List (List UInt8))(d:D):List D:=[di 1,.v (cc S),.v (cc Pl),.v .nils,.v .nils,di 0,di 0,d,di 0,.v .nils]
abbrev f8(S Pl:List (List UInt8))(d:D)(c:b9):List D:=[di 1,.v (cc S),.v (cc Pl),.v .nils,.v .nils,di 0,di 0,d,di c.n,co c.az]
abbrev AqM(l:List UInt8)(a:Nat)(S Pl:List (List UInt8))(rs:List cm):St:=⟨[some (cn l a),some zM,some (kw S Pl (.gro 3 (I rs) 14)),some (Ab (rs.map Aj))],[]⟩
abbrev vo(l:List UInt8)(a:Nat)(S Pl:List (List UInt8))(rs:List cm)(c:b9):St:=⟨[some (cn l a),some (f8 S Pl (.gro 3 (I rs) 14) c),some (f8 S Pl (.gro 3 (I rs) 14) c),some (Ab (rs.map Aj))],[]⟩
abbrev Asw(l:List UInt8)(a:Nat)(S Pl:List (List UInt8))(r:cm):St:=⟨[some (cn l a),some zM,some (kw S Pl (.gro 4 1 14)),some (cR r),some (Ab ([r].map Aj))],[]⟩
abbrev AqN(l:List UInt8)(a:Nat)(S Pl:List (List UInt8))(rs:List cm)(r:cm):St:=⟨[some (cn l a),some zM,some (kw S Pl (.gro 5 (I (rs++[r])) 14)),none,some (cR r),some (Ab ((rs++[r]).map Aj))],[]⟩
theorem Pc(rs:List cm)(r:cm):Ab (rs.map Aj)++cR r=Ab ((rs++[r]).map Aj):=by
 simp only[Ab,J5,List.flatMap_append];rfl
theorem Lm:∀l:List cm,I (Ab (l.map Aj))=I l*14
 |[]=>rfl
 |r::l=>by
  have h:Ab ((r::l).map Aj)=cR r++Ab (l.map Aj):=by rfl
  rw[h,HY,Lm l]
  show 14+I l*14=(I l+1)*14
  omega
theorem AsL{l:List UInt8}{a:Nat}{S Pl:List (List UInt8)}{rs:List cm}{r:cm}:cp 6 [] (AqN l a S Pl rs r).H=J:=by
 have h:D.okNs 6 [] (Ab ((rs++[r]).map Aj))=J:=AO (BJ _)
 simp only[cp,h];rfl
theorem AsK{l:List UInt8}{a:Nat}{S Pl:List (List UInt8)}{rs:List cm}{c:b9}:cp 4 [] (vo l a S Pl rs c).H=J:=by
 have h:D.okNs 4 [] (Ab (rs.map Aj))=J:=AO (BJ _)
 simp only[cp,h];rfl
theorem Ah3{P:x7}(hm:P.follows .mixedOrders=J){C:Nat}{fn:yw}{d:D}{σ':St}(nt:Nat)(im:List Nat){ks T:List KI}{L:List (Nat×D)}{σ:St}(s:Sc)
  (h:B3 (cz nt L) fun env=>vc (CN C) C P (fun env σ1=>A7 P fn env σ1 d σ') (fun _ env σ=>Af1 P fn.results.toList d σ' env σ) nt im T 10000 (.h .n s) ks env σ):Rn P fn C d σ' (ks++T) (cz nt L) σ:=by
 rw[AX] at h
 exact PR (NA _) (fun _ _ h=>h.2) hm (fun b env σ _ h=>PU h) (by simp[cz,DA]) h
theorem Aop{R:List D->St->Prop}{ks:List KI}{e:List D}{l:List UInt8}{a:Nat}{S Pl:List (List UInt8)}{rs:List cm}(G:List (Option (List D)))(he:D.okNs 4 [] e=J)(hee:e=D.rens (fun i=>if i<3 then i else i+I G) id e)(h:A5 (CN 1) PP R ks e (AqM l a S Pl rs)):A5 (CN 1) PP R ks e ⟨[some (cn l a),some zM,some (kw S Pl (.gro (3+I G) (I rs) 14))]++(G++[some (Ab (rs.map Aj))]),[]⟩:=by
 refine Cq (σ:=⟨[some (cn l a),some zM,some (kw S Pl (.gro (3+I G) (I rs) 14))]++(G++[some (Ab (rs.map Aj))]),[]⟩) (H':=(AqM l a S Pl rs).H) (m:=1) (fun _ _ h=>h.2) (fun i=>if i<3 then i else i+I G) (show 1<=4 by decide) (fun i hi=>I4 (by omega)) (fun i j _ _ h=>?_) (fun i cs hi=>?_) he hee h
 ·grind
 ·match i,hi with
  |0,hi=>have hi:=I8 (I8 (hi:some (some _)=some (some cs)));subst hi;exact⟨rfl,rfl⟩
  |1,hi=>have hi:=I8 (I8 (hi:some (some _)=some (some cs)));subst hi;exact⟨rfl,rfl⟩
  |2,hi=>have hi:=I8 (I8 (hi:some (some _)=some (some cs)));subst hi;exact⟨rfl,rfl⟩
  |3,hi=>grind[Ab,AA,BJ,AO]
  |i+4,hi=>grind
theorem Aj9{ns np:Nat}{rs:List cm}{k:Nat}{nm:List UInt8}{f t:Int}{nd gv:List Int}(hnm:k6[k]?=some nm)(hf:0<=f/\f<ns)(ht:0<=t/\t<ns)(hn:I nd=np/\∀x∈nd,0<=x/\x<=2)(hg:I gv=np/\∀x∈gv,0<=x/\x<=2)(hrs:I rs=k)(hR:∀i r,rs[i]?=some r->ZI ns np i r):∀i r,(rs++[c8 nm f t nd gv])[i]?=some r->ZI ns np i r:=fun i r hi=>by
 by_cases hik:i<I rs
 ·grind
 ·rw[I2 (by omega)] at hi
  have h1:i-I rs=0:=by
   grind
  rw[h1] at hi
  simp at hi;subst hi
  have hik2:i=k:=by omega
  subst hik2
  exact⟨hnm,hf,ht,hn,hg,rfl⟩
noncomputable abbrev e7:=fun a₀=>(some [bt (cc a₀)])
noncomputable abbrev Aug:=fun a₀ b₀ c₀ d₀=>Aa PP 7 [bq 0 0,di 3] (dz a₀ b₀) (di c₀) (dz a₀ d₀)
noncomputable abbrev xj:=fun a₀ b₀ c₀ d₀ e₀=>[bt (ab a₀),di b₀,di c₀,cw d₀,cw e₀,bt (ae nV),di 0,di 0,di 0,bt (ae nV),bt (ae nV),bt (ae nV),bt (ae nV),di 0]
noncomputable abbrev xk:=fun a₀ b₀ c₀ d₀ e₀=>[bt (ab a₀),di b₀,di c₀,cw d₀,cw e₀,bt (ae []),di 0,di 0,di 0,bt (ae []),bt (ae []),bt (ae []),bt (ae []),di 0]
noncomputable abbrev Auw:=fun a₀ b₀ c₀ d₀ e₀=>(aa (ab a₀::a8 yt b₀::a8 yt c₀::cy d₀::cy e₀::ae nV::a8 yt 0::a8 yt 0::a8 yt 0::ae nV::ae nV::ae nV::ae nV::a8 yt 0::nV)::nV)
noncomputable abbrev xn:=fun a₀ b₀ c₀ d₀ e₀=>[ab a₀,vi b₀,vi c₀,cy d₀,cy e₀,ae [],vi 0,vi 0,vi 0,ae [],ae [],ae [],ae [],vi 0]
noncomputable abbrev o5:=fun a₀=>(Ab (U Aj a₀))
theorem AdW(l:List UInt8)(hl:I l<=200)(S Pl:List (List UInt8))(hS:S=[[97]]∨S=[[97],[98]])(hP:Pl=[[120]]∨Pl=[[120],[121]])(n:Nat):∀(k a:Nat) (rs:List cm),3-k=n->a<=I l->1<=k->k<=3->I rs=k->(∀i r,rs[i]?=some r->ZI (I S) (I Pl) i r)->
  ∃(rs':List cm) (c:b9) (a':Nat),GU ⟨1,S,Pl,[],[],0,0,rs',c⟩/\a'<=I l/\Rn PP Hy 1 (.dagg (f8 S Pl (.gro 3 (I rs') 14) c)) (vo l a' S Pl rs' c) ([zu Hy 244,.blk 0,zt Hy 31]++[]) (cz 85 [(0,.ptr 0 0),(1,db O),(4,.ptr 1 0),(5,.ptr 2 0),(6,di (I Pl)),(7,di k)]) (AqM l a S Pl rs):=by
 induction n using Nat.strongRecOn with
 |_ n ih=>
 intro k a rs hn ha hk1 hk3 hrs hR
 have hSl:1<=I S/\S.length<=2:=by rcases hS with rfl|rfl<;>decide
 have hPl:1<=I Pl/\Pl.length<=2:=by rcases hP with rfl|rfl<;>decide
 obtain⟨r,a1,h1,h2,h3,h4⟩:=A6 l hl a ha 3 (by decide) (by decide)
 by_cases hk:(k:Int)<1+r
 ·obtain⟨f,a2,f1,f2,f3,f4⟩:=A6 l hl a1 h3 (I S) (by omega) (by omega)
  obtain⟨t,a3,t1,t2,t3,t4⟩:=A6 l hl a2 f3 (I S) (by omega) (by omega)
  obtain⟨nd,a4,n1,n2,n3,n4⟩:=FQ l hl a3 t3 (I Pl) (by omega) 2 (by decide) (by decide)
  obtain⟨gv,a5,g1,g2,g3,g4⟩:=FQ l hl a4 n1 (I Pl) (by omega) 2 (by decide) (by decide)
  obtain⟨nm,hnm⟩:∃nm,k6[k]?=some nm:=⟨_,HK (show k<I k6 by show k<3;omega)⟩
  obtain⟨rs',c,a',m1,m2,m3⟩:=ih (3- (k+1)) (by omega) (k+1) a5 (rs++[c8 nm f t nd gv]) rfl g1 (by omega) (by omega) (by simp[hrs]) (Aj9 hnm ⟨f1,f2⟩ ⟨t1,t2⟩ ⟨n2,n3⟩ ⟨g2,g3⟩ hrs hR)
  refine⟨rs',c,a',m1,m2,?_⟩
  have m3:=Aop [none,some (cR (c8 nm f t nd gv))] rfl rfl m3
  refine zp (.c1 (cn l a1) (di r)<|.t<|.h (.dr 21)<|.x (.str nm)<|.c1 (cn l a2) (di f)<|.c1 (cn l a3) (di t)<|.c1 (cn l a4) (cw nd)<|.c1 (cn l a5) (cw gv)<|.lo [ke 0,ke 1,ke 4,ke 5,ke 6,ch 7 (zw k)] (AqN l a5 S Pl rs (c8 nm f t nd gv))) (Aug l a r a1/\ye k (yu yt (1+r))/\y6 k/\[ab (bf #[114]).data.toList,ab (bf #[115]).data.toList,ab (bf #[116]).data.toList][Z (k:Int)]?=some (ab nm)/\Aa PP 7 [bq 0 0,di (I (U ab S):Int)] (dz l a1) (di f) (dz l a2)/\Aa PP 7 [bq 0 0,di (I (U ab S):Int)] (dz l a1) (di f) (dz l a2)/\Q (di f)/\Aa PP 7 [bq 0 0,di (I (U ab S):Int)] (dz l a2) (di t) (dz l a3)/\Aa PP 7 [bq 0 0,di (I (U ab S):Int)] (dz l a2) (di t) (dz l a3)/\Q (di t)/\type_of% n4/\type_of% n4/\Q (cw nd)/\type_of% g4/\type_of% g4/\Q (cw gv)/\Q (U (fun st=>bi [some (cn l st),some zM,some (kw S Pl (bm 3 (I rs) 14)),some (o5 rs),some p8] []) [a1,a2,a3,a4,a5])/\((yf (Q (e7 S)))/\(yf (Q (e7 S)))/\True)/\I (o5 rs)=I rs*14/\[aa (xn nm f t nd gv)]≠ []/\(∀(y:V),y∈ [aa (xn nm f t nd gv)]->V.size y=14)/\Ao (I rs+I (Auw nm f t nd gv)) 232/\zx k/\cp 6 [] [some (cn l a5),some zM,some [di 1,bt (cc S),bt (cc Pl),dn,dn,di 0,di 0,bm 5 (I rs+I (Auw nm f t nd gv)) 14,di 0,dn],none,some (xk nm f t nd gv),some (Ab (U Aj rs)++(xk nm f t nd gv))]=J/\[some (cn l a5),some zM,some [di 1,bt (cc S),bt (cc Pl),dn,dn,di 0,di 0,bm 5 (I rs+I (Auw nm f t nd gv)) 14,di 0,dn],none,some (xj nm f t nd gv),some (Ab (U Aj rs)++(xj nm f t nd gv))]=[some (cn l a5),some zM,some (kw S Pl (bm 5 (I (rs++[c8 nm f t nd gv])) 14)),none,some (cR (c8 nm f t nd gv)),some (Ab (U Aj (rs++[c8 nm f t nd gv])))]/\It (type_of% m3)) ?_
  rw[show(I (S.map ab):Int)=(I S:Int) by rw[HJ]]
  refine⟨h4,?_,by omega,DT hnm,f4,f4,rfl,t4,t4,rfl,n4,n4,rfl,g4,g4,rfl,rfl,by repeat' first|with_reducible refine And.intro ?_ ?_|rfl|trivial,Lm rs,List.cons_ne_nil _ _,fun y hy=>by rw[List.mem_singleton.1 hy];rfl,⟨?_,?_⟩,Ac,?_,?_,⟨m3⟩⟩
  ·rw[An];exact HM hk
  ·simp only[HP,HT];omega
  ·simp only[HP,HT];omega
  ·refine(I6 (cp 6 []) (?_:_=[some (cn l a5),some zM,some (kw S Pl (.gro 5 (I (rs++[c8 nm f t nd gv])) 14)),none,some (cR (c8 nm f t nd gv)),some (Ab ((rs++[c8 nm f t nd gv]).map Aj))])).trans AsL
   rw[←Pc,HY];rfl
  ·rw[←Pc,HY];rfl
 ·obtain⟨ys,a2,y1,y2,y3,y4⟩:=FQ l hl a1 h3 (I Pl) (by omega) 3 (by decide) (by decide)
  obtain⟨c,hc⟩:∃c,c=DQ 0 ys:=⟨_,rfl⟩
  refine⟨rs,c,a2,⟨rfl,hS,hP,rfl,rfl,rfl,rfl,by show I rs<=3;omega,by show 1<=I rs;omega,hR,ys,y2,y3,hc⟩,y1,?_⟩
  refine Ah3 mixed 85 [] (.c1 (cn l a1) (di r)<|.f<|.c1 (cn l a2) (cw ys)<|.c (dV c)<|.h (.m (.dagg (f8 S Pl (.gro 3 (I rs) 14) c))) .rd) ?_
  refine fu (by kernel_rfl:(Aug l a r a1/\Y ((k:Int)<yu yt (1+r))=O/\Aa PP 66 [bq 0 0,di (I Pl:Int),di 3] (dz l a1) (cw ys) (dz l a2)/\F0 67 [di 0,cw ys] (dV c)/\10<=10/\[di 1,bt (cc S),bt (cc Pl),dn,dn,di 0,di 0,bm 3 (I rs) 14,di c.n,co c.az]=f8 S Pl (bm 3 (I rs) 14) c/\cp 4 [] [some (cn l a2),some [di 1,bt (cc S),bt (cc Pl),dn,dn,di 0,di 0,bm 3 (I rs) 14,di c.n,co c.az],some [di 1,bt (cc S),bt (cc Pl),dn,dn,di 0,di 0,bm 3 (I rs) 14,di c.n,co c.az],some (o5 rs)]=J/\[some (cn l a2),some [di 1,bt (cc S),bt (cc Pl),dn,dn,di 0,di 0,bm 3 (I rs) 14,di c.n,co c.az],some [di 1,bt (cc S),bt (cc Pl),dn,dn,di 0,di 0,bm 3 (I rs) 14,di c.n,co c.az],some (o5 rs)]=[some (cn l a2),some (f8 S Pl (bm 3 (I rs) 14) c),some (f8 S Pl (bm 3 (I rs) 14) c),some (o5 rs)]/\bj [di 1,bt (cc S),bt (cc Pl),dn,dn,di 0,di 0,bm 3 (I rs) 14,di c.n,co c.az]=bj (f8 S Pl (bm 3 (I rs) 14) c))=_) ?_
  exact⟨h4,by rw[An];exact HO hk,y4,hc▸Px ys (by omega) 0,HR _,rfl,AsK,rfl,rfl⟩
theorem ApF(l:List UInt8)(hl:I l<=200)(S Pl:List (List UInt8))(hS:S=[[97]]∨S=[[97],[98]])(hP:Pl=[[120]]∨Pl=[[120],[121]])(a:Nat)(ha:a<=I l):
  ∃(rs':List cm) (c:b9) (a':Nat),GU ⟨1,S,Pl,[],[],0,0,rs',c⟩/\a'<=I l/\Rn PP Hy 1 (.dagg (f8 S Pl (.gro 3 (I rs') 14) c)) (vo l a' S Pl rs' c) ([zu Hy 244,.blk 0,zt Hy 31]++[]) (cz 85 [(0,.ptr 0 0),(1,db O),(4,.ptr 1 0),(5,.ptr 2 0),(6,di (I Pl)),(7,di (0:Nat))]) ⟨[some (cn l a),some zM,some (kw S Pl (.v .nils))],[]⟩:=by
 have hSl:1<=I S/\S.length<=2:=by grind
 have hPl:1<=I Pl/\Pl.length<=2:=by grind
 obtain⟨r,a1,h1,h2,h3,h4⟩:=A6 l hl a ha 3 (by decide) (by decide)
 have hk:((0:Nat):Int)<1+r:=by omega
 obtain⟨f,a2,f1,f2,f3,f4⟩:=A6 l hl a1 h3 (I S) (by omega) (by omega)
 obtain⟨t,a3,t1,t2,t3,t4⟩:=A6 l hl a2 f3 (I S) (by omega) (by omega)
 obtain⟨nd,a4,n1,n2,n3,n4⟩:=FQ l hl a3 t3 (I Pl) (by omega) 2 (by decide) (by decide)
 obtain⟨gv,a5,g1,g2,g3,g4⟩:=FQ l hl a4 n1 (I Pl) (by omega) 2 (by decide) (by decide)
 obtain⟨nm,hnm⟩:∃nm,k6[0]?=some nm:=⟨_,rfl⟩
 obtain⟨rs',c,a',m1,m2,m3⟩:=AdW l hl S Pl hS hP _ 1 a5 [c8 nm f t nd gv] rfl g1 (by decide) (by decide) rfl (Aj9 (rs:=[]) hnm ⟨f1,f2⟩ ⟨t1,t2⟩ ⟨n2,n3⟩ ⟨g2,g3⟩ rfl (fun i r h=>by grind))
 refine⟨rs',c,a',m1,m2,?_⟩
 have m3:=Aop [some (cR (c8 nm f t nd gv))] rfl rfl m3
 refine zp (.c1 (cn l a1) (di r)<|.t<|.h (.dr 21)<|.x (.str nm)<|.c1 (cn l a2) (di f)<|.c1 (cn l a3) (di t)<|.c1 (cn l a4) (cw nd)<|.c1 (cn l a5) (cw gv)<|.h (.q 12 4)<|.h .g<|.lo [ke 0,ke 1,ke 4,ke 5,ke 6,ch 7 (di (1:Nat))] (Asw l a5 S Pl (c8 nm f t nd gv))) (Aug l a r a1/\ye (↑0:Int) (yu yt (1+r))/\0<=(↑0:Int)/\some (ab (bf #[114]).data.toList)=some (ab nm)/\Aa PP 7 [bq 0 0,di (I (U ab S):Int)] (dz l a1) (di f) (dz l a2)/\Aa PP 7 [bq 0 0,di (I (U ab S):Int)] (dz l a1) (di f) (dz l a2)/\Q (di f)/\Aa PP 7 [bq 0 0,di (I (U ab S):Int)] (dz l a2) (di t) (dz l a3)/\Aa PP 7 [bq 0 0,di (I (U ab S):Int)] (dz l a2) (di t) (dz l a3)/\Q (di t)/\type_of% n4/\type_of% n4/\Q (cw nd)/\type_of% g4/\type_of% g4/\Q (cw gv)/\Q (U (fun st=>bi [some (cn l st),some zM,some (kw S Pl (dn)),some p8] []) [a1,a2,a3,a4,a5])/\((yf (Q (e7 S)))/\(yf (Q (e7 S)))/\True)/\[aa (xn nm f t nd gv)]≠ []/\(∀(y:V),y∈ [aa (xn nm f t nd gv)]->V.size y=14)/\Ao 1 232/\Q (di (↑1:Int))/\Q J/\Q [some (cn l a5),some zM,some [di 1,bt (cc S),bt (cc Pl),dn,dn,di 0,di 0,bm 4 1 14,di 0,dn],some (xj nm f t nd gv),some (xj nm f t nd gv)]/\It (type_of% m3)) ?_
 rw[show(I (S.map ab):Int)=(I S:Int) by rw[HJ]]
 refine⟨h4,?_,by omega,congrArg (Option.map ab) hnm,f4,f4,rfl,t4,t4,rfl,n4,n4,rfl,g4,g4,rfl,rfl,by grind,List.cons_ne_nil _ _,fun y hy=>by rw[List.mem_singleton.1 hy];rfl,by decide,rfl,rfl,rfl,⟨m3⟩⟩
 grind[An]
noncomputable abbrev Atx:=[ab (bf #[120]).data.toList,ab (bf #[121]).data.toList]
noncomputable abbrev Auc:=[ab (bf #[97]).data.toList,ab (bf #[98]).data.toList]
noncomputable abbrev Aur:=(ab (bf #[120]).data.toList::ab (bf #[121]).data.toList::nV)
theorem Aea(l:List UInt8)(hl:I l<=200)(a:Nat)(ha:a<=I l):
  ∃(S Pl:List (List UInt8)) (rs:List cm) (c:b9) (a':Nat),GU ⟨1,S,Pl,[],[],0,0,rs,c⟩/\a'<=I l/\
  Aa PP 31 [.ptr 0 0,db O] (dz l a) (.dagg (f8 S Pl (.arr 1 0 (I rs)) c)) ⟨[some (cn l a'),some (Ab (rs.map Aj))],[]⟩:=by
 obtain⟨r1,a1,h1,h2,h3,h4⟩:=A6 l hl a ha 2 (by decide) (by decide)
 obtain⟨r2,a2,h5,h6,h7,h8⟩:=A6 l hl a1 h3 2 (by decide) (by decide)
 obtain⟨S,hS,hS2⟩:∃S:List (List UInt8),(S=[[97]]∨S=[[97],[98]])/\(r1=0/\S=[[97]]∨r1=1/\S=[[97],[98]]):=by
  rcases(show r1=0∨r1=1 by omega) with h|h
  all_goals simp_all
 obtain⟨Pl,hP,hP2⟩:∃S:List (List UInt8),(S=[[120]]∨S=[[120],[121]])/\(r2=0/\S=[[120]]∨r2=1/\S=[[120],[121]]):=by
  rcases(show r2=0∨r2=1 by omega) with h|h
  all_goals simp_all
 obtain⟨rs,c,a',m1,m2,m3⟩:=ApF l hl S Pl hS hP a2 h7
 refine⟨S,Pl,rs,c,a',m1,m2,VT (q:=2) (n:=I rs) (sz:=14) (c1:=[di 1,.v (cc S),.v (cc Pl),.v .nils,.v .nils,di 0,di 0]) (c2:=[di c.n,co c.az]) (T:=[some (f8 S Pl (.gro 3 (I rs) 14) c),some (f8 S Pl (.gro 3 (I rs) 14) c),some (Ab (rs.map Aj))]) rfl (BJ _) rfl rfl rfl ?_⟩
 refine zq Hy 85 (.h (.dr 11)<|.c1 (cn l a1) (di r1)<|.c1 (cn l a2) (di r2)<|.h .rn<|.lo [ke 0,ke 1,ke 4,ke 5,ch 6 (di (I Pl)),ch 7 (di (0:Nat))] ⟨[some (cn l a2),some zM,some (kw S Pl (.v .nils))],[]⟩) (_/\_/\Q (di r1)/\(∀(x:V),x∈ Auc->V.size x=1)/\0<=(yu yt (1+r1))/\(yu yt (1+r1))<=(↑(I Auc):Int)/\_/\_/\Q (di r2)/\(∀(x:V),x∈ Atx->V.size x=1)/\0<=(yu yt (1+r2))/\(yu yt (1+r2))<=(↑(I Atx):Int)/\Q (U (fun st=>bi [some (cn l st),some jo,some jo] []) [a,a1,a2])/\True/\di (I (W 0 (take (Z ((yu yt (1+r2)))) Aur)):Int)=di (I Pl:Int)/\Q (di 0)/\Q J/\[some (cn l a2),some jo,some [di 1,bt (ae (W 0 (take (Z ((yu yt (1+r1)))) (ab (bf #[97]).data.toList::ab (bf #[98]).data.toList::nV)))),bt (ae (W 0 (take (Z ((yu yt (1+r2)))) Aur))),dn,dn,di 0,di 0,dn,di 0,dn]]=[some (cn l a2),some zM,some (kw S Pl (dn))]/\_) ⟨h4,h4,rfl,by simp[V.size],?_,?_,h8,h8,rfl,by simp[V.size],?_,?_,rfl,trivial,?_,rfl,?_,?_,iK m3⟩
 ·grind[An]
 ·grind[An]
 ·grind[An]
 ·grind[An]
 ·rcases hP2 with⟨rfl,rfl⟩|⟨rfl,rfl⟩<;>rfl
 ·rfl
 ·rcases hS2 with⟨rfl,rfl⟩|⟨rfl,rfl⟩<;>rcases hP2 with⟨rfl,rfl⟩|⟨rfl,rfl⟩<;>rfl
theorem Agl{P:x7}{f:yx}{ds A B c1 c2:List D}{xs vs:List V}{sz:Nat}(hsz:0<sz)(hx:∀x∈xs,x.size=sz)(hok:cp 1 [] [some B]=J)(hv:Fu ((c1++ .v (.list xs)::c2).map (ir [] false))=some vs)(h1:∀c∈ (c1++ .v (.list xs)::c2).map (ir [] false),c.one=J)
  (h:Aa P f ds ⟨[some A],[]⟩ (.dagg (c1++ .arr 1 0 (I xs)::c2)) ⟨[some B,some (Ab xs)],[]⟩):Aa P f ds ⟨[some A],[]⟩ (.v (.agg vs)) ⟨[some B],[]⟩:=by
 refine⟨h.1,fun g w args hw ha=>Calls.mono (h.2 g w args hw ha) ?_⟩
 rintro e w' ⟨u,g',rfl,hw',hr⟩
 obtain⟨us,rest,et,hb,hr1,hone,hM,_⟩:=hw'.rep.obj 1 _ rfl
 have hA:repA g'.M (xs.flatMap V.cellsV) us:=Gp (Gq _) hr1 hone
 let M':c6:=fun b o=>if b=g'.β 1 then us[o]? else g'.M b o
 have hle:g'.M.le M':=fun b o v hm=>by
  simp only[M']
  rw[Iz]; ·exact hm
  intro e;subst e;rw[hM o] at hm;simp at hm
 have hlg:g'.le { g' with M:=M' }:=⟨hle,HR _,fun _ _=>rfl,fun _ _ _ h=>h,fun _ _=>rfl⟩
 have hin:f9 M' (g'.β 1) 0 us:=fun j v hj=>by simp[M',hj]
 have hw2:=hw'.setObjG (q:=1) (oc:=none) (w':=w') hle rfl (fun c hc=>by simp at hc) (fun b _ hne=>⟨rfl,fun o=>by simp[M',hne]⟩) (fun b o v hm=>by
   simp only[M'] at hm
   split at hm
   ·rename_i e;subst e
    simp only[World.cell?,hb,List.getElem?_toArray];exact UX hm
   ·exact hw'.rep.mem b o v hm) (HR _) rfl rfl rfl
 have hw3:=XE (σ':=⟨[some B],[]⟩) hw2 (m:=1) rfl (Nat.le_succ 1) (by rw[hw.n];exact HR _) hok (by simp)
 refine⟨u,_,rfl,hw3,?_⟩
 simp only[Ah] at hr⊢
 obtain⟨us2,rfl,hrs⟩:=hr
 rw[Cx]
 obtain⟨u3,hu,hru⟩:=B7 hrs (i:=I c1) (d:=.arr 1 0 (I xs)) (by simp)
 obtain⟨_,cap,hcap,rfl⟩:=hru
 have hlist:repV M' (.list xs) (.slice (some ⟨g'.β 1,0,none⟩) (I xs) cap):=CH hsz hin (E3 hx (repA.mono hle _ _ hA)) hcap
 have hset:=CB (Ag.mono hlg _ _ hrs) (I c1) (d:=.v (.list xs)) (u:=.slice (some ⟨g'.β 1,0,none⟩) (I xs) cap) (by simp only[Ah];exact hlist)
 rw[D4 hu,show(c1++ .arr 1 0 (I xs)::c2).set (I c1) (.v (.list xs))=c1++ .v (.list xs)::c2 by simp] at hset
 exact⟨us2,Gp hv (Dz hset) h1,rfl⟩
theorem AlT(l:List UInt8)(hl:I l<=200)(a:Nat)(ha:a<=I l):
  ∃(m:cx) (a':Nat),GU m/\a'<=I l/\Aa PP 31 [.ptr 0 0,db O] (dz l a) (Af m) (dz l a'):=by
 obtain⟨S,Pl,rs,c,a',h1,h2,h3⟩:=Aea l hl a ha
 rw[show I rs=I (rs.map Aj) by rw[HJ]] at h3
 exact⟨_,a',h1,h2,Agl (sz:=14) (c1:=[di 1,.v (cc S),.v (cc Pl),.v .nils,.v .nils,di 0,di 0]) (c2:=[di c.n,co c.az]) (by decide) (fun x hx=>by obtain⟨z,_,rfl⟩:=IQ.1 hx;rfl) rfl rfl (by simp[D.one,V.isAgg,ir]) h3⟩
theorem Ahw{rs:List cm}(h3:I rs<=2){ns np:Nat}{ag:Int}(h:∀k r,rs[k]?=G r->PK ns np ag k r):rs.map cm.name=te.take (I rs):=by
 apply ext_getElem?
 intro i
 by_cases hi:i<I rs
 ·have hx:rs[i]?=G rs[i]:=HK hi
  rw[IP,hx,List.getElem?_take_of_lt hi,(h i _ hx).name];rfl
 ·rw[List.getElem?_eq_none (by simp;omega),List.getElem?_eq_none (by simp;omega)]
structure Dp(m:cx):Prop where
 kind:m.kind=5
 aw:m.aw=[[97]]∨m.aw=[[97],[98]]
 ay:m.ay=[[120]]∨m.ay=[[120],[121]]
 ax:m.ax=[]
 au:m.au=[]
 am:m.am=0
 age:0<=m.age/\m.age<=1
 count:I m.av<=2
 named:DJ m=J
structure G7(m:cx):Prop where
 n:Dp m
 av:∀k r,m.av[k]?=G r->PK (I m.aw) (I m.ay) m.age k r
theorem BB.n{m:cx}(h:BB m):Dp m:=⟨h.kind,h.aw,h.ay,h.ax,h.au,h.am,h.age,h.count,by
 have hn:=Ahw h.count h.av
 have hc:=h.count
 rw[DJ,FE,hn,Ch,h.ax]
 have:I m.av=0∨m.av.length=1∨m.av.length=2:=by omega
 rcases h.aw with e|e<;>rcases h.ay with e'|e'<;>rcases this with e2|e2|e2<;>rw[e,e',e2]<;>decide+kernel⟩
theorem BB.s{m:cx}(h:BB m):G7 m:=⟨h.n,h.av⟩
instance {m:cx}:Coe (BB m) (Dp m):=⟨BB.n⟩
instance {m:cx}:Coe (G7 m) (Dp m):=⟨G7.n⟩
instance {m:cx}:Coe (BB m) (G7 m):=⟨BB.s⟩
theorem Dp.sz{m:cx}(h:Dp m):(1<=I m.aw/\m.aw.length<=2)/\(1<=I m.ay/\m.ay.length<=2):=
 ⟨by rcases h.aw with e|e<;>rw[e]<;>decide,by rcases h.ay with e|e<;>rw[e]<;>decide⟩
theorem BB.sz{m:cx}(h:BB m):(1<=I m.aw/\m.aw.length<=2)/\(1<=I m.ay/\m.ay.length<=2):=h.n.sz
theorem G7.right{m:cx}(h:G7 m)(r:cm)(hr:r∈m.av):F0 102 [Af m,BK r] (db J):=by
 obtain⟨hst,hpl⟩:=h.n.sz
 have hag:=h.n.age
 have hi:=List.idxOf_lt_length_of_mem hr
 have hm:=h.av _ r (by rw[HK hi,List.getElem_idxOf])
 rw[hm.rest]
 refine Ab2 m (by omega) (by omega) h.n.kind (by omega) _ _ _ _ _ hm.ai hm.to ?_ ?_ ?_ ?_
 ·rcases hm.aq with e|⟨p,lo,hi,_,_,e⟩<;>rw[e]<;>simp
 ·rcases hm.ao with e|⟨p,_,e⟩<;>rw[e]<;>simp
 ·rcases hm.aq with e|⟨p,lo,hi,h1,h2,e⟩
  ·rw[e];simp
  ·rw[e];intro t ht;rw[Ia.1 ht];exact⟨h1,h2⟩
 ·rcases hm.ao with e|⟨p,h1,e⟩
  ·rw[e];simp
  ·rw[e];intro t ht;rw[Ia.1 ht];exact h1
theorem BB.right{m:cx}(h:BB m)(r:cm)(hr:r∈m.av):F0 102 [Af m,BK r] (db J):=h.s.right r hr
theorem Zn(m:cx)(hm:G7 m)(r:cm)(hr:r∈m.av):F0 101 [BK r,.v (.ref (Aq m))] (db O):=by
 exact sv Aig 8 [2] (.c (db J) .r) (_/\Q (db O)) ⟨hm.right r hr,rfl⟩
theorem Dp.good{m:cx}(h:Dp m):CW 8 (Az m)=J:=Arj m (by have:=h.sz;omega) (by have:=h.sz;omega) (by have:=h.age;omega)
theorem BB.good{m:cx}(h:BB m):CW 8 (Az m)=J:=h.n.good
theorem BB.start_ok{m:cx}(h:BB m):Al (Az m) m.start=J:=by
 obtain⟨ts,h1,h2⟩:=h.start
 have:=h.sz
 rw[h2];exact AeA m 0 ⟨by omega,by omega⟩ ts h1
theorem Xk(m:cx)(hm:G7 m):F0 70 [Af m] (di (if Al (Az m) m.start then 0 else 17)):=by
 obtain⟨hst,hpl⟩:=hm.n.sz
 have hag:=hm.n.age
 have hc:=hm.n.count
 have hb:∀{x a b:Int},a<=x->x<=b->A4 x a b=J:=fun h1 h2=>by simp[A4,h1,h2]
 have:=Oh m true true true true false (Al (Az m) m.start) (by rw[hm.n.kind];rfl) (fun _=>?_) (fun _=>?_) (fun _=>?_) (fun _=>?_) (fun _=>Akd m _ _ (by rw[hm.n.kind];rfl) (MI m hm.n.kind (by omega)) (Mx _ hm.n.good _))
 ·exact this
 ·have:=EM s7 m (by rw[hm.n.kind];exact AqW)
  rwa[show Cw s7 m=J by
   simp only[Cw,HL,HU,hm.n.ax,hm.n.am]
   exact⟨hb (by omega) (by omega),by omega,hb (by omega) (by omega),by decide,by decide,hb (by omega) (by omega)⟩] at this
 ·have:=Fx m (by rw[hm.n.au];decide)
  rwa[show Ck m=J by rw[Ck,I4 (by rw[hm.n.kind];rfl),hm.n.au];rfl] at this
 ·have:=KU m (by simp only[Ch,JC,List.flatten_nil,HY,HT,hm.n.ax];omega)
  rwa[hm.n.named] at this
 ·have:=NF 101 [] [.ref (Aq m)] (fun _=>false) m.av (by omega) (fun r hr=>Zn m hm r hr)
  rw[show m.av.any (fun _=>false)=O by simp] at this
  exact this
theorem Oi(m:cx)(hm:BB m):F0 70 [Af m] (di 0):=by
 have:=Xk m hm
 rwa[hm.start_ok,I4 rfl] at this
theorem Ac9(m:cx)(hm:BB m)(v:b9):F0 105 [Af m,dV v] (db (Al (Az m) v)):=by
 exact sv AoV 14 [2,3] (.c (di 0)<|.c (dT (Az m))<|.c (db (Al (Az m) v)) .r) (_/\_/\_/\Q (db (Al (Az m) v))) ⟨Oi m hm,MI m hm.kind (by have:=hm.age;omega),Mx _ hm.good v,rfl⟩
theorem Y0(m:cx)(hm:BB m)(v:b9)(_:v.size<=1000000):F0 105 [Af m,dV v] (db (Al (Az m) v)):=Ac9 m hm v
theorem Aae(m:cx)(hm:BB m):F0 36 [Af m] (di 0):=by
 exact sv Aq1 12 [1] (.c (di 0)<|.k<|.f .r) (_/\(m.kind==6)=O/\Q (di 0)) ⟨Oi m hm,by rw[hm.kind];rfl,rfl⟩
theorem BB.int{m:cx}(h:BB m):X3 m (Az m):=⟨Aae m h,fun v hv=>Y0 m h v hv,by have:=h.sz;omega⟩
inductive DE (m:cx):Prop where
 |cM (h:Tu m)
 |l2 (h:G8 2 m)
 |l3 (h:G8 3 m)
 |tm (h:BB m)
 |c (h:GU m)
theorem Akg(l:List UInt8)(hl:I l<=200)(a:Nat)(ha:a<=I l):
  ∃(m:cx) (a':Nat),DE m/\a'<=I l/\Aa PP 6 [.ptr 0 0] (dz l a) (Af m) (dz l a'):=by
 obtain⟨r,a1,p1,p2,p3,p4⟩:=A6 l hl a ha 5 (by decide) (by decide)
 rcases(show r=0∨r=1∨r=2∨r=3∨r=4 by omega) with rfl|rfl|rfl|rfl|rfl
 ·obtain⟨m,a2,h1,h2,h3⟩:=AlS l hl a1 p3
  refine⟨m,a2,.cM h1,h2,?_⟩
  refine zq u7 23 (.c1 (cn l a1) (di 0)<|.c1 (cn l a2) (Af m) .r) (type_of% p4/\type_of% h3/\Q (gp l a2)/\Q (Af m)) ?_
  trivial
 ·obtain⟨m,a2,h1,h2,h3⟩:=AjV l hl a1 p3 2 (.inl rfl)
  refine⟨m,a2,.l2 h1,h2,?_⟩
  refine zq u7 23 (.c1 (cn l a1) (di 1)<|.c1 (cn l a2) (Af m) .r) (type_of% p4/\type_of% h3/\Q (gp l a2)/\Q (Af m)) ?_
  trivial
 ·obtain⟨m,a2,h1,h2,h3⟩:=AjV l hl a1 p3 3 (.inr rfl)
  refine⟨m,a2,.l3 h1,h2,?_⟩
  refine zq u7 23 (.c1 (cn l a1) (di 2)<|.c1 (cn l a2) (Af m) .r) (type_of% p4/\type_of% h3/\Q (gp l a2)/\Q (Af m)) ?_
  trivial
 ·obtain⟨m,a2,h1,h2,h3⟩:=Anz l hl a1 p3
  refine⟨m,a2,.tm h1,h2,?_⟩
  refine zq u7 23 (.c1 (cn l a1) (di 3)<|.c1 (cn l a2) (Af m) .r) (type_of% p4/\type_of% h3/\Q (gp l a2)/\Q (Af m)) ?_
  trivial
 ·obtain⟨m,a2,h1,h2,h3⟩:=AlT l hl a1 p3
  refine⟨m,a2,.c h1,h2,?_⟩
  refine zq u7 23 (.c1 (cn l a1) (di 4)<|.c1 (cn l a2) (Af m) .r) (type_of% p4/\type_of% h3/\Q (gp l a2)/\Q (Af m)) ?_
  trivial
def rB:cm:=⟨[114], -1,0,[0],[1],[],0,0,0,[],[],[],[], -1⟩
def mB:cx:=⟨6,[[97]],[[120]],[],[],0,0,[rB],.mk 0 []⟩
theorem AiL:F0 34 [] (Af mB):=by
 refine zq Ath 8 .r (bt (aa [vi 6,ae [ab (bf #[97]).data.toList],ae [ab (bf #[120]).data.toList],ae [],ae [],vi 0,vi 0,ae [aa [ab Aws.data.toList,vi (-1),vi 0,ae [vi 0],ae [vi 1],ae [],vi 0,vi 0,vi 0,ae [],ae [],ae [],ae [],vi (-1)]],vi 0,ae []])=Af mB) ?_
 trivial
theorem Aj4(m:cx)(hm:Dp m):F0 78 [Af m] (db J):=by
 have h1:∀a b x,A4 x a b=J->F0 77 [di x,di a,di b] (db J):=fun a b x h=>h▸AU x a b
 have hb:∀{x a b:Int},a<=x->x<=b->A4 x a b=J:=fun h1 h2=>by simp[A4,h1,h2]
 obtain⟨hst,hpl⟩:=hm.sz
 have hag:=hm.age
 have hc:=hm.count
 have hle:=hm.ax
 have hlv:=hm.am
 have hk:=hm.kind
 clear hm
 obtain⟨kind,aw,ay,ax,au,am,age,av,start⟩:=m
 dsimp only at*
 subst hk
 subst hle
 subst hlv
 refine sv Hb 81 [1] (.c (db J)<|.c (db J)<|.k<|.f<|.c (db J)<|.c (db J)<|.c (db J) .r) (F0 77 [di (I (U ab (cx.mk 5 aw ay [] au 0 age av start).aw):Int),di 1,di 8] (db J)/\F0 77 [di (I (U ab (cx.mk 5 aw ay [] au 0 age av start).ay):Int),di 1,di 6] (db J)/\Y ((I (U Aj (cx.mk 5 aw ay [] au 0 age av start).av):Int)>12)=O/\F0 77 [di (I (U ab (cx.mk 5 aw ay [] au 0 age av start).ax):Int),di 0,di 0] (db J)/\F0 77 [di (cx.mk 5 aw ay [] au 0 age av start).am,di 0,di 0] (db J)/\F0 77 [di (cx.mk 5 aw ay [] au 0 age av start).age,di 0,di 3] (db J)/\Q (db J)) ?_
 have b1:A4 (I aw:Int) 1 8=J:=hb (by omega) (by omega)
 have b2:A4 (I ay:Int) 1 6=J:=hb (by omega) (by omega)
 have b3:Y ((I av:Int)>12)=O:=yq
 have b4:A4 age 0 3=J:=hb (by omega) (by omega)
 exact⟨by rw[HJ];exact h1 _ _ _ b1,by rw[HJ];exact h1 _ _ _ b2,by rw[HJ];exact b3,h1 _ _ _ rfl,h1 _ _ _ rfl,h1 _ _ _ b4,rfl⟩
theorem Ajx(m:cx)(hm:Dp m):F0 79 [Af m] (db J):=by
 exact sv Me 32 [1] (.t .r) ((m.kind !=3)=J/\db ((I (dt m.au):Int)==0)=db J) ⟨by rw[hm.kind];rfl,by rw[hm.au];rfl⟩
theorem Aj6(m:cx)(hm:Dp m):F0 80 [Af m] (db J):=by
 obtain⟨hst,hpl⟩:=hm.sz
 have hc:=hm.count
 exact Q7 m (by simp only[FE,Ch,JC,List.flatten_nil,HY,HJ,HT,hm.ax];omega) (by omega) hm.named
theorem AhY(l:List Int)(hl:I l<=3)(b:Int)(h:∀x∈l,0<=x/\x<=b):F0 116 [cw l,di 3,di b] (db J):=by
 have:=Gx l (by omega) (I l) 0 b rfl (fun x hx=>by simp[A4,h x hx])
 refine sv Apt 18 [] (.t<|.c (db J) .r) (Y ((I (U vi l):Int)<=3)=J/\F0 115 [cw l,di (I (U vi l):Int),di 0,di b] (db J)/\Q (db J)) ?_
 grind
theorem AfD(m:cx)(hp:1<=I m.ay/\m.ay.length<=1000)(ha:0<=m.age/\m.age<=1000)(r:cm)(h1:r.aq=[]∨∃p lo hi:Int,(0<=p/\p<I m.ay)/\(0<=lo/\lo<=hi/\hi<=m.age+1)/\r.aq=[⟨p,lo,hi⟩])(h2:r.ao=[]∨∃p:Int,(0<=p/\p<I m.ay)/\r.ao=[p]):F0 117 [Af m,BK r] (db J):=by
 have hw:yt.wrap ((I (m.ay.map ab):Int)-1)=(I m.ay:Int)-1:=Gm _ _ (by omega)
 have hwa:yt.wrap (m.age+1)=m.age+1:=An
 have hm1:I r.ao<=1:=by grind
 have hfew:=AhY r.ao (by omega) ((I m.ay:Int)-1) (fun x hx=>by
  grind)
 have hml:¬(1:Int)<(I (r.ao.map vi):Int):=by grind
 rcases h1 with e|⟨p,lo,hi,⟨p1,p2⟩,⟨l1,l2,l3⟩,e⟩
 ·refine sv AjH 81 [2,3] (.f<|.c (db J)<|.k<|.n<|.f<|.n<|.f .r) (Y ((I (U d9 r.aq):Int)>3)=O/\F0 116 [cw r.ao,di 3,di (yu yt ((I (df m.ay):Int)-1))] (db J)/\Y (0<(I (U d9 r.aq):Int))=O/\Y (1<(I (dt r.ao):Int))=O/\Q (db J)) ?_
  grind
 ·have hbt:F0 77 [di p,di 0,di ((I m.ay:Int)-1)] (db J):=by
   grind[AU,A4]
  refine sv AjH 81 [2,3] (.f<|.c (db J)<|.k<|.n<|.t<|.x (d9 ⟨p,lo,hi⟩)<|.c (db J)<|.k<|.f<|.f<|.f<|.n<|.f<|.n<|.f .r) (Y ((I (U d9 r.aq):Int)>3)=O/\F0 116 [cw r.ao,di 3,di (yu yt ((I (df m.ay):Int)-1))] (db J)/\Y (0<(I (U d9 r.aq):Int))=J/\iz 0<=0/\(U d9 r.aq)[Z 0]?=G (d9 (Tk.mk p lo hi))/\F0 77 [di (Tk.mk p lo hi).place,di 0,di (yu yt ((I (df m.ay):Int)-1))] (db J)/\Y ((Tk.mk p lo hi).low<0)=O/\Y ((Tk.mk p lo hi).low>(Tk.mk p lo hi).high)=O/\Y ((Tk.mk p lo hi).high>yu yt (m.age+1))=O/\Y (yu yt (0+1)<(I (U d9 r.aq):Int))=O/\Y (1<(I (dt r.ao):Int))=O/\Q (db J)) ?_
  rw[hw,hwa]
  exact⟨by grind,hfew,by grind,IA _,by grind,hbt,HO (by grind),HO (by grind),HO (by grind),by rw[e];rfl,HO hml,rfl⟩
theorem AqP(m:cx)(hm:G7 m)(r:cm)(hr:r∈m.av):F0 81 [Af m,BK r] (db J):=by
 have h1:∀a b x,A4 x a b=J->F0 77 [di x,di a,di b] (db J):=fun a b x h=>h▸AU x a b
 have hb:∀{x a b:Int},a<=x->x<=b->A4 x a b=J:=fun h1 h2=>by simp[A4,h1,h2]
 obtain⟨i,hi⟩:=List.getElem?_of_mem hr
 have hR:=hm.av i r hi
 obtain⟨hst,hpl⟩:=hm.n.sz
 have ht:=AfD m (by omega) (by have:=hm.n.age;omega) r hR.aq hR.ao
 have hf:=hR.ai
 have hto:=hR.to
 have hw:yt.wrap ((I (m.aw.map ab):Int)-1)=(I m.aw:Int)-1:=Gm _ _ (by omega)
 have hre:=hR.rest
 have hk:=hm.n.kind
 clear hm hr hi hR
 generalize r.name=nm at*
 generalize r.ai=f at*
 generalize r.to=t at*
 generalize r.aq=tk at*
 generalize r.ao=mk at*
 subst hre
 obtain⟨kind,aw,ay,ax,au,am,age,av,start⟩:=m
 dsimp only at*
 subst hk
 refine sv Vc 234 [2,3] (.c (db J)<|.c (db J)<|.c (db J) .r) (F0 77 [di (du nm f t tk mk).ai,di 0,di (yu yt ((I (U ab (cx.mk 5 aw ay ax au am age av start).aw):Int)-1))] (db J)/\F0 77 [di (du nm f t tk mk).to,di 0,di (yu yt ((I (U ab (cx.mk 5 aw ay ax au am age av start).aw):Int)-1))] (db J)/\type_of% ht/\Q (db J)) ?_
 rw[hw]
 have b1:A4 f 0 ((I aw:Int)-1)=J:=hb hf.1 (by omega)
 have b2:A4 t 0 ((I aw:Int)-1)=J:=hb hto.1 (by omega)
 exact⟨h1 _ _ _ b1,h1 _ _ _ b2,ht,rfl⟩
theorem Ak2(m:cx)(hk:m.kind=5)(hag:0<=m.age/\m.age<=1000):F0 83 [Af m] (dT (Az m)):=by
 obtain⟨kind,aw,ay,ax,au,am,age,av,start⟩:=m
 dsimp only at*
 subst hk
 refine sv qd 96 [1] (.a 1<|.h .g .r) (Q (aa (vi 2::vi (I (U ab (cx.mk 5 aw ay ax au am age av start).aw):Int)::ae nV::ae nV::nV)::nV)/\Ao 2 64/\bt (aa [vi 3,vi 0,ae [],ae [aa [vi 2,vi (I (U ab (cx.mk 5 aw ay ax au am age av start).aw):Int),ae [],ae []],aa [vi 5,vi 0,ae [],ae [aa [vi 3,vi 0,ae [],ae [aa [vi 2,vi (I (U ab (cx.mk 5 aw ay ax au am age av start).ay):Int),ae [],ae []],aa [vi 2,vi (yu yt ((cx.mk 5 aw ay ax au am age av start).age+2)),ae [],ae []]]]]]]])=dT (Az (cx.mk 5 aw ay ax au am age av start))) ⟨rfl,⟨by decide,by decide⟩,?_⟩
 show bt (aa [vi 3,vi 0,ae [],ae [aa [vi 2,vi (I (aw.map ab):Int),ae [],ae []],aa [vi 5,vi 0,ae [],ae [aa [vi 3,vi 0,ae [],ae [aa [vi 2,vi (I (ay.map ab):Int),ae [],ae []],aa [vi 2,vi (yu yt (age+2)),ae [],ae []]]]]]]])=_
 rw[HJ,HJ,An (n:=age+2)]
 show _=bt (vT (.prod [.lab (I aw),.bag (.prod [.lab (I ay),.lab (age+2)])]))
 rfl
theorem Afx(d:Nat)(t:cr)(hd:d<=100)(h:F0 177 [dT t,di d] (db J)):F0 177 [dT (.bag t),di ((d+1:Nat):Int)] (db J):=by
 rw[dT,VF]
 refine sv O2 132 [2] (.f<|.x (vT t)<|.c (db J) .r) (((↑(d+1):Int)==0)=O/\iz 0<=0/\Q (G (vT t))/\F0 177 [bt (vT t),di (yu yt ((↑(d+1):Int)-1))] (db J)/\Q (db J)) ?_
 have hz:(((d+1:Nat):Int)==0)=O:=IM.2 (by omega)
 rw[show yt.wrap (((d+1:Nat):Int)-1)=d by rw[An];omega]
 exact⟨hz,by decide,rfl,h,rfl⟩
theorem Aak(m:cx)(hm:Dp m):F0 177 [dT (Az m),di 8] (db J):=by
 obtain⟨hst,hpl⟩:=hm.sz
 have hag:=hm.age
 refine MG 7 _ (by decide) rfl rfl fun t ht=>?_
 simp only[IN,JE,or_false] at ht
 rcases ht with rfl|rfl
 ·exact KB 6 _ (by omega) (by omega)
 ·refine Afx 6 _ (by decide) (MG 5 _ (by decide) rfl rfl fun t ht=>?_)
  simp only[IN,JE,or_false] at ht
  rcases ht with rfl|rfl
  ·exact KB 4 _ (by omega) (by omega)
  ·exact KB 4 _ (by omega) (by omega)
theorem Ae0(m:cx)(hm:Dp m):F0 119 [dT (Az m)] (di 0):=by
 refine sv AjR 6 [1] (.c (db J) .r) (F0 177 [bt (vT (Az m)),di 8] (db J)/\Q (di 0)) ?_
 grind[Aak]
def pj(t:cr)(l:List b9):Nat->Nat->Bool
 |0,_=>true
 |n+1,k=>(A1 t (l.getD k default)&& !(Y (k>0)&&Y (Ay (l.getD (k-1) default) (l.getD k default)>0)))&&pj t l n (k+1)
theorem Yx(t:cr)(v:b9)(hv:I v.az<=12)(hz:v.size<=1000000)(h:∀k∈v.az,F0 121 [dT t,dV k] (db (A1 t k)))(n:Nat):∀k:Nat,I v.az-k=n->
  Rn PP Em 0 (db (pj t v.az n k)) bd ([kl CE [1,1,1,0,1,0,0],.blk 3,kc CE [1,1,1,1]]++[]) (cz 169 [(2,.v (.ref (lc 5 0 [] [vT t]))),(3,.v (.ref (Ad v))),(6,di k)]) bd:=by
 induction n with
 |zero=>
  intro k hn
  exact lv 169 [2,3] (.f .r) (Y ((k:Int)<(I (c7 v.az):Int))=O/\Q (db J)) ⟨HO (by rw[HJ];omega),rfl⟩
 |succ n ih=>
  intro k hn
  obtain⟨x,hx⟩:∃r,v.az[k]?=G r:=⟨_,HK (by omega)⟩
  have hlt:Y ((k:Int)<(I (v.az.map eV):Int))=J:=HM (by rw[HJ];omega)
  have hxd:v.az.getD k default=x:=by rw[HS,hx];rfl
  have ho:=h x (HQ hx)
  rw[pj,hxd]
  have hih:=ih (k+1) (by omega)
  generalize pj t v.az n (k+1)=b at*
  cases hb:A1 t x with
  |false=>
   rw[hb] at ho
   exact lv 169 [2,3] (.t<|.x (vT t)<|.x (Ad x)<|.c (db O)<|.k<|.k .r) (_/\iz 0<=0/\Q (G (vT t))/\0<=(k:Int)/\(c7 v.az)[Z (k:Int)]?=G (Ad x)/\_/\db O=db (false&& !(Y (k>0)&&Y (Ay (List.getD v.az (k-1) default) x>0))&&b)) ⟨hlt,by decide,rfl,by omega,Ap hx,ho,by rw[IE,IE]⟩
  |true=>
   rw[hb] at ho
   cases k with
   |zero=>
    exact lv 169 [2,3] (.t<|.x (vT t)<|.x (Ad x)<|.c (db J)<|.k<|.k<|.k<|.l [ke 2,ke 3,ch 6 (di ((0:Nat)+1:Nat))]) (_/\iz 0<=0/\Q (G (vT t))/\0<=(↑0:Int)/\(c7 v.az)[Z (↑0:Int)]?=G (Ad x)/\_/\Q (di (↑(0+1):Int))/\It (type_of% hih)) ⟨hlt,by decide,rfl,by omega,Ap hx,ho,rfl,⟨by simpa using hih⟩⟩
   |succ k=>
    obtain⟨y,hy⟩:∃r,v.az[k]?=G r:=⟨_,HK (by omega)⟩
    have hyd:v.az.getD k default=y:=by rw[HS,hy];rfl
    rw[show k+1-1=k by omega,hyd]
    have hyz:=b9.size_mem (HQ hy)
    have hvz:=b9.size_eq v
    have hcm:=Fh _ y x (HR _) (by omega)
    have hw1:yu yt (((k+1:Nat):Int)-1)=(k:Int):=by rw[An];omega
    have hg:Y (((k+1:Nat):Int)>0)=J:=yr
    by_cases hc:Ay y x>0
    ·refine lv 169 [2,3] (.t<|.x (vT t)<|.x (Ad x)<|.c (db J)<|.k<|.k<|.t<|.x (Ad y)<|.x (Ad x)<|.c (di (Ay y x))<|.t .r) (type_of% hlt/\iz 0<=0/\Q (G (vT t))/\0<=(↑(k+1):Int)/\(c7 v.az)[Z (↑(k+1):Int)]?=G (Ad x)/\type_of% ho/\type_of% hg/\0<=yu yt ((↑(k+1):Int)-1)/\(c7 v.az)[Z (yu yt ((↑(k+1):Int)-1))]?=G (Ad y)/\0<=(↑(k+1):Int)/\(c7 v.az)[Z (↑(k+1):Int)]?=G (Ad x)/\uq y x/\Y (Ay y x>0)=J/\db O=db (true&& !(Y (k+1>0)&&Y (Ay y x>0))&&b)) ?_
     rw[hw1]
     exact⟨hlt,by decide,rfl,by omega,Ap hx,ho,hg,by omega,Ap hy,by omega,Ap hx,hcm,HM hc,by rw[HM hc];simp⟩
    ·refine lv 169 [2,3] (.t<|.x (vT t)<|.x (Ad x)<|.c (db J)<|.k<|.k<|.t<|.x (Ad y)<|.x (Ad x)<|.c (di (Ay y x))<|.f<|.l [ke 2,ke 3,ch 6 (di (k+1+1:Nat))]) (type_of% hlt/\iz 0<=0/\Q (G (vT t))/\0<=(↑(k+1):Int)/\(c7 v.az)[Z (↑(k+1):Int)]?=G (Ad x)/\type_of% ho/\type_of% hg/\0<=yu yt ((↑(k+1):Int)-1)/\(c7 v.az)[Z (yu yt ((↑(k+1):Int)-1))]?=G (Ad y)/\0<=(↑(k+1):Int)/\(c7 v.az)[Z (↑(k+1):Int)]?=G (Ad x)/\uq y x/\Y (Ay y x>0)=O/\di (yu yt ((↑(k+1):Int)+1))=di (↑(k+1+1):Int)/\I0 Em 0 (db (true&& !(Y (k+1>0)&&Y (Ay y x>0))&&b)) bd qq (cz 169 [(2,bt (bz (lc 5 0 [] [vT t]))),(jq v),(6,di (↑(k+1+1):Int))]) d7) ?_
     rw[hw1]
     exact⟨hlt,by decide,rfl,by omega,Ap hx,ho,hg,by omega,Ap hy,by omega,Ap hx,hcm,HO hc,Ac,⟨by rw[HO hc];simpa using hih⟩⟩
theorem AiR(t:cr)(l:List b9)(n:Nat):∀k:Nat,I l-k=n->k<=I l->(pj t l n k=J↔(∀i,k<=i->i<I l->A1 t (l.getD i default)=J)/\∀i,k<=i->0<i->i<I l->Ay (l.getD (i-1) default) (l.getD i default)<=0):=by
 induction n with
 |zero=>
  grind[pj]
 |succ n ih=>
  intro k hn hk
  rw[pj,HL,HL,ih (k+1) (by omega) (by omega)]
  simp only[IZ,Bool.and_eq_false_iff,J8]
  constructor
  ·all_goals grind
  ·grind
theorem Amn(t:cr)(l:List b9):pj t l (I l) 0=(l.all (fun k=>A1 t k)&&XV l):=by
 rw[Bool.eq_iff_iff,AiR t l (I l) 0 (Nat.sub_zero _) (II _),HL,IU,Qc]
 grind[Nn,List.getElem?_of_mem,List.pairwise_iff_getElem]
theorem Ahk(t:cr)(v:b9)(hz:v.size<=1000000)(h:∀k∈v.az,F0 121 [dT t,dV k] (db (A1 t k))):F0 121 [dT (.bag t),dV v] (db (A1 (.bag t) v)):=by
 rw[dT,VF]
 refine sv Em 169 [2,3] (.k<|.k<|.k<|.k<|.b .r (.b .r (.l [ke 2,ke 3,ch 6 (di (0:Nat))]))) (((v.n !=0)=J->db O=db (A1 (cr.bag t) v))/\((v.n !=0)=O->(Y ((I (c7 v.az):Int)>12)=J->db O=db (A1 (cr.bag t) v))/\(Y ((I (c7 v.az):Int)>12)=O->di 0=di (↑0:Int)/\I0 Em (I bd.H) (db (A1 (cr.bag t) v)) bd qq (cz 169 [(2,bt (bz (lc 5 0 [] [vT t]))),(jq v),(6,di (↑0:Int))]) bd))) ⟨fun h1=>?_,fun h1=>⟨fun h2=>?_,fun h2=>⟨rfl,⟨?_⟩⟩⟩⟩
 ·have h1:(v.n==0)=O:=by simpa using h1
  simp only[A1,h1,IE]
 ·have h2:¬((I v.az:Int)<=12):=by simpa using h2
  simp only[A1,HO h2,IE,JI]
 ·have h1:(v.n==0)=J:=by simpa using h1
  have h2:(I v.az:Int)<=12:=by simpa using h2
  simp only[A1,h1,HM h2,IG]
  rw[←Amn]
  exact Yx t v (by omega) hz h _ 0 rfl
theorem Acy(m:cx)(v:b9)(hv:v.size<=1000000):F0 121 [dT (Az m),dV v] (db (A1 (Az m) v)):=
 N8 _ v hv fun t ht k hk=>by
  have hks:=b9.size_mem hk
  have hvs:=v.size_eq
  simp only[IN,JE,or_false] at ht
  rcases ht with rfl|rfl
  ·exact M0 _ k
  ·refine Ahk _ k (by omega) fun x hx=>N8 _ x (by have:=b9.size_mem hx;have:=k.size_eq;omega) fun t ht y _=>?_
   grind[M0]
theorem HB(m:cx)(hm:Dp m)(v:b9):F0 82 [dT (Az m),dV v] (db (Al (Az m) v)):=by
 refine sv AjF 18 [2,3] (.c (di 0)<|.c (di (min (v.size:Int) 129))<|.b (.c (db (A1 (Az m) v)) .r) .r) (_/\_/\(Y (min (↑(jz v):Int) 129<=128)=J->F0 121 [bt (vT (Az m)),dV v] (db (A1 (Az m) v))/\db (A1 (Az m) v)=db (Al (Az m) v))/\(Y (min (↑(jz v):Int) 129<=128)=O->db O=db (Al (Az m) v))) ⟨Ae0 m hm,JR _ v (HR _) 128 (by decide) (by decide),fun h1=>?_,fun h1=>?_⟩
 all_goals grind[Acy,Al]
theorem Pw(m:cx)(hm:G7 m):F0 40 [Af m] (di (if Al (Az m) m.start then 0 else 17)):=
 QV m _ (by rw[hm.n.kind];rfl) (Aj4 m hm) (Ajx m hm) (Aj6 m hm) (Pv m _ _ (by have:=hm.n.count;omega) (by rw[hm.n.kind];rfl) (fun r hr=>AqP m hm r hr) (Ak2 m hm.n.kind (by have:=hm.n.age;omega)) (HB m hm m.start) _ 0 rfl)
theorem Ta(m:cx)(hm:BB m):F0 40 [Af m] (di 0):=by
 have:=Pw m hm
 rwa[hm.start_ok,I4 rfl] at this
theorem HC(m:cx)(hm:BB m)(v:b9):F0 85 [Af m,dV v] (db (Al (Az m) v)):=by
 exact sv AjG 14 [2,3] (.c (di 0)<|.c (dT (Az m))<|.c (db (Al (Az m) v)) .r) (_/\_/\_/\Q (db (Al (Az m) v))) ⟨Ta m hm,Ak2 m hm.kind (by have:=hm.age;omega),HB m hm v,rfl⟩
theorem Ab5(x:Int):F0 145 [di x] (db (x==0)):=by
 refine zq Ars 5 .r (Q (db (x==0))) ?_
 trivial
theorem Wq:rB.short:=⟨by decide,by decide,by decide,by decide,by decide,by decide,by decide⟩
theorem AnL:F0 102 [Af mB,BK rB] (db J):=by
 have h1:=CD 0 1 (by decide)
 have h2:=CD (-1) 1 (by decide)
 have h3:=Xl mB rB Wq
 have h4:=Ht 145 [] [] (fun x=>x==0) [0] (by decide) (fun x _=>Ab5 x)
 have h5:=MT rB rB Wq rfl
 rw[show Cf mB rB=J from by decide] at h3
 rw[show Cj rB rB=J from by decide] at h5
 refine sv S8 142 [2,3] (.c (db J)<|.c (db O)<|.c (db J)<|.c (db J)<|.c (db J) .r) (F0 138 [di rB.to,di (I (U ab mB.aw):Int)] (db J)/\F0 138 [di rB.ai,di (I (U ab mB.aw):Int)] (db O)/\type_of% h3/\F0 144 [cw rB.ak,bt (bw 145 [] [])] (db J)/\F0 146 [BK rB,bt (aa [ab rB.name,vi rB.ai,vi rB.to,cy rB.ak,cy rB.aj,ae [],vi 0,vi 0,vi 0,ae [],ae [],ae [],ae [],vi rB.second])] (db J)/\Q (db J)) ?_
 trivial
theorem Asb:F0 101 [BK rB,.v (.ref (Aq mB))] (db O):=by
 exact sv Aig 8 [2] (.c (db J) .r) (_/\Q (db O)) ⟨AnL,rfl⟩
theorem Atr:F0 103 [Af mB] (db J):=by
 refine sv As9 22 [1] .r (db ((I (U eV mB.start.az):Int)==0)=db J) ?_
 trivial
theorem AsN:F0 132 [di 6] (Vl qj):=by
 refine zq th 29 .r (bt (aa [vi 1,vi 6,vi 0,vi 0,vi 0,vi 0,vi 0,vi 0])=Vl qj) ?_
 rfl
theorem Atm:F0 70 [Af mB] (di 0):=by
 have h1:=Er 6 1 6
 have h2:=EM qj mB AsN
 have h3:=Fx mB (by decide)
 have h4:=KU mB (by decide)
 have h5:=NF 101 [] [.ref (Aq mB)] (fun _=>false) mB.av (by decide) (fun r hr=>by rw[Ia.1 hr];exact Asb)
 rw[show Cw qj mB=J from by decide] at h2
 rw[show Ck mB=J from by decide] at h3
 rw[show DJ mB=J from by decide+kernel] at h4
 exact sv As7 29 [1] (.c (db J)<|.c (db J)<|.c (db J)<|.c (db J)<|.c (db O)<|.c (db J) .r) (_/\_/\_/\_/\_/\_/\Q (di 0)) ⟨h1,h2,h3,h4,h5,Atr,rfl⟩
theorem AsE:F0 36 [Af mB] (di 15):=by
 exact sv Aq1 12 [1] (.c (di 0)<|.k<|.r) (_/\Q (di 15)) ⟨Atm,rfl⟩
theorem DE.c15{m:cx}(h:DE m):F0 40 [Af m] (di 0):=by
 cases h with
 |cM h=>exact Dc m h.ok
 |l2 h=>exact Dc m (h.ok (.inl rfl))
 |l3 h=>exact Dc m (h.ok (.inr rfl))
 |tm h=>exact Ta m h
 |c h=>exact Dc m h.ok
theorem DE.count12{m:cx}(h:DE m):I m.av<=12:=by
 cases h with
 |cM h=>exact h.ok.sz.2.2.1
 |l2 h=>exact(h.ok (.inl rfl)).sz.2.2.1
 |l3 h=>exact(h.ok (.inr rfl)).sz.2.2.1
 |tm h=>have:=h.count;omega
 |c h=>exact h.ok.sz.2.2.1
structure Rm(x:cx)(e:Int):Prop where
 ne:(e !=0)=J
 walks:F0 36 [Af x] (di e)
 ref:F0 40 [Af x] (di e)∨(F0 40 [Af x] (di 0)/\(x.kind==6)=J/\e=15)
theorem Rm.of{x:cx}{e:Int}(hne:(e !=0)=J)(hc:F0 70 [Af x] (di e))(hr:F0 40 [Af x] (di e)):Rm x e:=by
 refine⟨hne,?_,.inl hr⟩
 exact sv Aq1 12 [1] (.c (di e)<|.t .r) (_/\_/\Q (di e)) ⟨hc,hne,rfl⟩
theorem Att(x:cx)(h:x.kind=9):Rm x 15:=by
 have hb:A4 x.kind 1 6=O:=by rw[h];rfl
 have h15:=hb▸AU x.kind 1 6
 refine .of rfl (Oh x false false true true true true hb (fun e=>by cases e) (fun e=>by cases e) (fun e=>by cases e) (fun e=>by cases e) (fun e=>by cases e)) ?_
 exact sv He 52 [1] (.c (db O)<|.r) (_/\Q (di 15)) ⟨h15,rfl⟩
theorem Alt(x:cx)(hk:x.kind=1∨x.kind=2∨x.kind=3∨x.kind=5)(hs:x.aw=[]):F0 78 [Af x] (db O):=by
 have h0:F0 77 [di 0,di 1,di 8] (db O):=AU 0 1 8
 obtain⟨kind,aw,ay,ax,au,am,age,av,start⟩:=x
 dsimp only at*
 subst hs
 rcases hk with rfl|rfl|rfl|rfl
 ·exact sv Hb 81 [1] (.c (db O) .r) (_/\Q (db O)) ⟨h0,rfl⟩
 ·exact sv Hb 81 [1] (.c (db O) .r) (_/\Q (db O)) ⟨h0,rfl⟩
 ·exact sv Hb 81 [1] (.c (db O) .r) (_/\Q (db O)) ⟨h0,rfl⟩
 ·exact sv Hb 81 [1] (.c (db O) .r) (_/\Q (db O)) ⟨h0,rfl⟩
theorem bad1(x:cx)(l:pz)(hof:F0 132 [di x.kind] (Vl l))(hk:x.kind=1∨x.kind=2∨x.kind=3∨x.kind=5)(hs:x.aw=[]):Rm x 1:=by
 have hb:A4 x.kind 1 6=J:=by rcases hk with h|h|h|h<;>rw[h]<;>rfl
 have h15:=hb▸AU x.kind 1 6
 have hz:=EM l x hof
 rw[show Cw l x=O by rw[Cw,hs];rfl] at hz
 have hn:=Alt x hk hs
 refine .of rfl (Oh x true false true true true true hb (fun _=>hz) (fun e=>by cases e) (fun e=>by cases e) (fun e=>by cases e) (fun e=>by cases e)) ?_
 exact sv He 52 [1] (.c (db J)<|.c (db O)<|.r) (_/\_/\Q (di 1)) ⟨h15,hn,rfl⟩
theorem Al5(F:yx)(cs:List V)(r:cm)(l:List cm)(hp:F0 F (([Aj r]++cs).map .v) (db J)):F0 100 [dl ((r::l).map Aj),.v (.fn F [] cs)] (db J):=by
 obtain⟨L,hL⟩:∃L,L=(r::l).map Aj:=⟨_,rfl⟩
 have h0:L[Z 0]?=G (Aj r):=by rw[hL];rfl
 have h1:Y ((0:Int)<(I L:Int))=J:=by rw[hL];exact HM (by simp only[I9,HP];omega)
 rw[←hL]
 clear hL
 have h:F0 137 [dl L,.v (.fn F [] cs)] (di 0):=by
  exact zq sc 19 (.n<|.t<|.x (Aj r)<|.c (db J)<|.r) (_/\iz 0<=0/\_/\_/\Q (di 0)) ⟨h1,by decide,h0,hp,rfl⟩
 exact zq Apj 9 (.c (di 0) .r) (_/\db (Y (0>=0))=db J) ⟨h,rfl⟩
theorem AnM(x:cx)(r:cm)(hst:I x.aw<=8):F0 101 [BK { r with to:=9 },.v (.ref (Aq x))] (db J):=by
 have h1:=CD 9 (I x.aw) (by omega)
 rw[show A4 9 0 (I x.aw-1)=O by simp only[A4,Bool.and_eq_false_iff,J8];omega] at h1
 have h2:F0 102 [Af x,BK { r with to:=9 }] (db O):=by
  exact sv S8 142 [2,3] (.c (db O)<|.r) (F0 138 [di (cm.mk r.name r.ai 9 r.ak r.aj r.move r.chan r.act r.letter r.path r.next r.aq r.ao r.second).to,di (I (df x.aw):Int)] (db O)/\Q (db O)) ⟨by rw[HJ];exact h1,rfl⟩
 refine sv Aig 8 [2] (.c (db O) .r) (type_of% h2/\(db !false)=db J) ?_
 grind
theorem AnH(x:cx)(r:cm)(hk:(x.kind==6)=O)(hst:I x.aw<=8):F0 81 [Af x,BK { r with to:=9 }] (db O):=by
 have hw:yt.wrap ((I (x.aw.map ab):Int)-1)=(I x.aw:Int)-1:=Gm _ _ (by omega)
 have h1:=AU r.ai 0 (I x.aw-1)
 have h2:=AU 9 0 (I x.aw-1)
 rw[show A4 9 0 (I x.aw-1)=O by grind[A4]] at h2
 cases hb:A4 r.ai 0 (I x.aw-1) with
 |true=>
  refine sv Vc 234 [2,3] (.f<|.c (db J)<|.c (db O)<|.r) ((x.kind==6)=O/\F0 77 [di (cm.mk r.name r.ai 9 r.ak r.aj r.move r.chan r.act r.letter r.path r.next r.aq r.ao r.second).ai,di 0,di (yu yt ((I (df x.aw):Int)-1))] (db J)/\F0 77 [di (cm.mk r.name r.ai 9 r.ak r.aj r.move r.chan r.act r.letter r.path r.next r.aq r.ao r.second).to,di 0,di (yu yt ((I (df x.aw):Int)-1))] (db O)/\Q (db O)) ?_
  grind
 |false=>
  refine sv Vc 234 [2,3] (.f<|.c (db O)<|.r) ((x.kind==6)=O/\F0 77 [di (cm.mk r.name r.ai 9 r.ak r.aj r.move r.chan r.act r.letter r.path r.next r.aq r.ao r.second).ai,di 0,di (yu yt ((I (df x.aw):Int)-1))] (db O)/\Q (db O)) ?_
  grind
theorem Ama(x:cx)(r:cm)(l:List cm)(hx:x.av={ r with to:=9 }::l)(hk:(x.kind==6)=O)(hst:I x.aw<=8):
  Rn PP He 0 (di 16) bd ([zu He 1012,.blk 0,zt He 127]++[]) (cz 52 [(1,.v (.ref (Aq x))),(3,di (0:Nat))]) bd:=by
 have h:=AnH x r hk hst
 obtain⟨q,hq⟩:∃q:cm,q={ r with to:=9 }:=⟨_,rfl⟩
 refine zo [1] (.t<|.x (Aj q)<|.c (db O)<|.r) (ye (↑0:Int) (I (U Aj x.av))/\0<=(↑0:Int)/\zy (U Aj x.av) (↑0:Int) (Aj q)/\F0 81 [Af x,BK q] (db O)/\Q (di 16)) ?_
 grind
theorem bad3(x:cx)(r:cm)(l:List cm)(hx:x.av={ r with to:=9 }::l)(hk6:(x.kind==6)=O)(hst:I x.aw<=8)(hb:A4 x.kind 1 6=J)(hz:F0 97 [Af x] (db J))(hr:F0 98 [Af x] (db J))(hn:F0 99 [Af x] (db J))
  (h2:F0 78 [Af x] (db J)) (h3:F0 79 [Af x] (db J)) (h4:F0 80 [Af x] (db J)):Rm x 16:=by
 have hc:=Al5 101 [.ref (Aq x)] { r with to:=9 } l (AnM x r hst)
 rw[←hx] at hc
 exact .of rfl (Oh x true true true true true true hb (fun _=>hz) (fun _=>hr) (fun _=>hn) (fun _=>hc) (fun e=>by cases e)) (QV x 16 hb h2 h3 h4 (Ama x r l hx hk6 hst))
theorem Q1{m:cx}(h:m.ok):Rm { m with start:=.mk 1 []} 17:=by
 have hS:cx.okS { m with start:=.mk 1 []}:=⟨⟨h.kind,h.sized,h.ranked,h.named⟩,h.rshort,h.right⟩
 have h1:=Aey _ hS
 have h2:=SZ _ hS
 exact .of rfl h1 h2
theorem Ak4{m:cx}(h:BB m):Rm { m with start:=.mk 1 []} 17:=by
 have hS:G7 { m with start:=.mk 1 []}:=⟨⟨h.kind,h.aw,h.ay,h.ax,h.au,h.am,h.age,h.count,h.n.named⟩,h.av⟩
 have h1:=Xk _ hS
 have h2:=Pw _ hS
 exact .of rfl h1 h2
theorem Ac4{m:cx}{r:cm}{l:List cm}(hr:m.av=r::l)(h:DJ m=J):DJ { m with av:={ r with to:=9 }::l }=J:=by
 rw[DJ,FE,hr] at h
 exact h
theorem Ahg{x:cx}(hN:x.okN){r:cm}{l:List cm}(hx:x.av={ r with to:=9 }::l):Rm x 16:=by
 obtain⟨h1,h2,h3,h4,h5,h6,h7,h8⟩:=hN.sz
 have hz:=EM (Sn x) _ (by
  unfold Sn
  rcases hN.kind with h|h|h<;>rw[h]
  all_goals grind[AqZ,AqY,AqX])
 rw[hN.sized] at hz
 have hrk:=Fx x (by omega)
 rw[hN.ranked] at hrk
 have hnm:=KU x (by grind[Ch])
 rw[hN.named] at hnm
 exact bad3 _ r l hx (by rcases hN.kind with h|h|h<;>rw[h]<;>rfl) h2 (by rcases hN.kind with h|h|h<;>rw[h]<;>rfl) hz hrk hnm (OQ _ hN) (OF _ hN) (OR _ hN)
theorem AfE{x:cx}(hN:Dp x){r:cm}{l:List cm}(hx:x.av={ r with to:=9 }::l):Rm x 16:=by
 obtain⟨hst,hpl⟩:=hN.sz
 have hag:=hN.age
 have hc:=hN.count
 have hb:∀{x a b:Int},a<=x->x<=b->A4 x a b=J:=fun h1 h2=>by grind[A4]
 have hz:=EM s7 x (by rw[hN.kind];exact AqW)
 rw[show Cw s7 x=J by
  simp only[Cw,HL,HU]
  rw[hN.ax,hN.am]
  grind] at hz
 have hrk:=Fx x (by rw[hN.au];decide)
 rw[show Ck x=J by rw[Ck,I4 (by rw[hN.kind];rfl),hN.au];rfl] at hrk
 have hnm:=KU x (by simp only[Ch,JC,List.flatten_nil,HY,HT];rw[hN.ax];grind)
 rw[hN.named] at hnm
 exact bad3 _ r l hx (by rw[hN.kind];rfl) (by omega) (by rw[hN.kind];rfl) hz hrk hnm (Aj4 _ hN) (Ajx _ hN) (Aj6 _ hN)
theorem Q0{m:cx}(h:m.ok){r:cm}{l:List cm}(hr:m.av=r::l):Rm { m with av:={ r with to:=9 }::l } 16:=
 Ahg ⟨h.kind,by have:=h.sized;rw[Cw,hr] at this;exact this,h.ranked,Ac4 hr h.named⟩ rfl
theorem Ak3{m:cx}(h:BB m){r:cm}{l:List cm}(hr:m.av=r::l):Rm { m with av:={ r with to:=9 }::l } 16:=
 AfE ⟨h.kind,h.aw,h.ay,h.ax,h.au,h.am,h.age,by have:=h.count;grind,Ac4 hr h.n.named⟩ rfl
theorem DE.kind4{m:cx}(h:DE m):m.kind=1∨m.kind=2∨m.kind=3∨m.kind=5:=by
 cases h with
 |cM h=>exact .inl h.kind
 |c h=>exact .inl h.kind
 |l2 h=>exact .inr (.inl h.kind)
 |l3 h=>exact .inr (.inr (.inl h.kind))
 |tm h=>exact .inr (.inr (.inr h.kind))
theorem DE.pos{m:cx}(h:DE m):1<=I m.av:=by
 cases h with
 |cM h=>exact h.pos
 |c h=>exact h.pos
 |l2 h=>exact h.pos
 |l3 h=>exact h.pos
 |tm h=>exact h.pos
theorem DE.bad1{m:cx}(h:DE m):Rm { m with aw:=[]} 1:=by
 obtain⟨l,hl⟩:∃l,F0 132 [di m.kind] (Vl l):=by
  rcases h.kind4 with e|e|e|e<;>rw[e]
  ·exact⟨_,AqZ⟩
  ·exact⟨_,AqY⟩
  ·exact⟨_,AqX⟩
  ·exact⟨_,AqW⟩
 exact YtgigepkgakpjbaaGreat.bad1 { m with aw:=[]} l hl h.kind4 rfl
theorem DE.bad2{m:cx}(h:DE m):Rm { m with start:=.mk 1 []} 17:=by
 cases h with
 |cM h=>exact Q1 h.ok
 |c h=>exact Q1 h.ok
 |l2 h=>exact Q1 (h.ok (.inl rfl))
 |l3 h=>exact Q1 (h.ok (.inr rfl))
 |tm h=>exact Ak4 h
theorem DE.bad3{m:cx}(h:DE m){r:cm}{l:List cm}(hr:m.av=r::l):Rm { m with av:={ r with to:=9 }::l } 16:=by
 cases h with
 |cM h=>exact Q0 h.ok hr
 |c h=>exact Q0 h.ok hr
 |l2 h=>exact Q0 (h.ok (.inl rfl)) hr
 |l3 h=>exact Q0 (h.ok (.inr rfl)) hr
 |tm h=>grind[Ak3]
theorem Aon:F0 78 [Af mB] (db J):=by
 have h1:F0 77 [di 1,di 1,di 8] (db J):=AU 1 1 8
 have h2:F0 77 [di 1,di 1,di 6] (db J):=AU 1 1 6
 have h3:F0 77 [di 0,di 0,di 0] (db J):=AU 0 0 0
 exact sv Hb 81 [1] (.c (db J)<|.c (db J)<|.c (db J)<|.c (db J) .r) (_/\_/\_/\_/\Q (db J)) ⟨h1,h2,h3,h3,rfl⟩
theorem AqQ:F0 81 [Af mB,BK rB] (db J):=by
 have h1:F0 77 [di (-1),di (-1),di 0] (db J):=AU (-1) (-1) 0
 have h2:F0 77 [di 0,di 0,di 0] (db J):=AU 0 0 0
 have h3:=Gx [0] (by decide) 1 0 16 rfl (by decide)
 have h4:=Gx [1] (by decide) 1 0 16 rfl (by decide)
 have h5:=Gx [0] (by decide) 1 0 0 rfl (by decide)
 have h6:F0 118 [cw [0]] (db J):=by
  refine zq Arl 7 (.c (db J) .r) (F0 115 [bt (cy [0]),di (I (U vi [0]):Int),di 0,di 0] (db J)/\Q (db J)) ?_
  grind
 exact sv Vc 234 [2,3] (.c (db J)<|.c (db J)<|.c (db J)<|.c (db J)<|.c (db J) .r) (_/\_/\_/\_/\_/\Q (db J)) ⟨h1,h2,h3,h4,h6,rfl⟩
theorem ApL:F0 40 [Af mB] (di 0):=by
 have h1:F0 77 [di 6,di 1,di 6] (db J):=AU 6 1 6
 have h3:F0 79 [Af mB] (db J):=by
  refine sv Me 32 [1] .r (db ((I (U vi mB.au):Int)==0)=db J) ?_
  rfl
 have h4:=Q7 mB (by decide) (by decide) (by rfl)
 exact sv He 52 [1] (.c (db J)<|.c (db J)<|.c (db J)<|.c (db J)<|.n<|.x (Aj rB)<|.c (db J)<|.n<|.r) (_/\_/\_/\_/\iz 0<=0/\Q (G (Aj rB))/\_/\Q (di 0)) ⟨h1,Aon,h3,h4,by decide,rfl,AqQ,rfl⟩
theorem Ats:Rm mB 15:=⟨rfl,AsE,.inr ⟨ApL,rfl,rfl⟩⟩
theorem VZ{d d':D}(h:∀g u,Ah g d u->Ah g d' u)(h1:d'.one=J):∀(cs:List D) (i:Nat),cs[i]?=G d->um cs (cs.set i d')
 |[],i,hi=>by grind
 |c::cs,0,hi=>by
  grind[Ag,um]
 |c::cs,i+1,hi=>by
  have ih:=VZ h h1 cs i (by grind)
  grind[Ag,um]
theorem AlR{H:List (Option (List D))}{own:List (Nat×Nat×List V)}{p q i sz n:Nat}{cs cq:List D}{xs:List V}(hsz:0<sz)(hp:H[p]?=G (G cs))(hq:H[q]?=G (G cq))(hcq:cq=Ab xs)(hpq:p≠q)(hi:cs[i]?=G (.gro q n sz))(hn:n=I xs)(hx:∀x∈xs,x.size=sz)(e:List D):
  Cv e ⟨H,own⟩ e ⟨(H.set q none).set p (G (cs.set i (.v (.list xs)))),own⟩:=fun E g a w hf=>by
 obtain⟨g1,h1⟩:=ApB (env:=e) (σ:=⟨H,own⟩) hp (VZ (fun _ _=>Abc) rfl cs i hi) E g a w hf
 have hpl:=(HN.1 hp).1
 have hil:=(HN.1 hi).1
 subst hn hcq
 obtain⟨g2,h2⟩:=BA (σ:=⟨H.set p (G (cs.set i (.arr q 0 (I xs)))),own⟩) (p:=p) (q:=q) (i:=i) (sz:=sz) hsz (List.getElem?_set_self hpl) (by grind) hpq (List.getElem?_set_self hil) hx e E g1 a w h1
 grind[List.set_set,List.set_comm]
noncomputable def Ase:=yl s9
theorem Afp(l:List UInt8)(hl:I l<=200)(a:Nat)(ha:a<=I l):∃(x:cx) (e:Int) (a':Nat),Rm x e/\a'<=I l/\Aa PP 35 [.ptr 0 0] (dz l a) (Af x) (dz l a'):=by
 obtain⟨m,a1,hm,h1,h2⟩:=Akg l hl a ha
 obtain⟨k,a2,p1,p2,p3,p4⟩:=A6 l hl a1 h1 4 (by decide) (by decide)
 rcases(show k=0∨k=1∨k=2∨k=3 by omega) with rfl|rfl|rfl|rfl
 ·refine⟨{ m with kind:=9 },15,a2,Att _ rfl,p3,?_⟩
  exact zq s9 28 (.c1 (cn l a1) (Af m)<|.c1 (cn l a2) (di 0)<|.r) (_/\_/\Q (gp l a2)/\Q (Af (cx.mk 9 m.aw m.ay m.ax m.au m.am m.age m.av m.start))) ⟨h2,p4,rfl,rfl⟩
 ·refine⟨{ m with aw:=[]},1,a2,hm.bad1,p3,?_⟩
  exact zq s9 28 (.c1 (cn l a1) (Af m)<|.c1 (cn l a2) (di 1)<|.r) (_/\_/\Q (gp l a2)/\Q (Af (cx.mk m.kind [] m.ay m.ax m.au m.am m.age m.av m.start))) ⟨h2,p4,rfl,rfl⟩
 ·refine⟨{ m with start:=.mk 1 []},17,a2,hm.bad2,p3,?_⟩
  exact zq s9 28 (.c1 (cn l a1) (Af m)<|.c1 (cn l a2) (di 2)<|.r) (_/\_/\Q (gp l a2)/\Q (Af (cx.mk m.kind m.aw m.ay m.ax m.au m.am m.age m.av (b9.mk 1 [])))) ⟨h2,p4,rfl,rfl⟩
 ·obtain⟨r,rs,hr⟩:∃r rs,m.av=r::rs:=by
   have:=hm.pos
   cases h:m.av with
   |nil=>rw[h] at this;simp at this
   |cons r rs=>exact⟨r,rs,rfl⟩
  refine⟨{ m with av:={ r with to:=9 }::rs },16,a2,hm.bad3 hr,p3,?_⟩
  have hne:m.av.map Aj≠ []:=by rw[hr];simp
  have hs:∀y∈m.av.map Aj,y.size=14:=fun y hy=>by obtain⟨z,_,rfl⟩:=IQ.1 hy;rfl
  have hln:I m.av<=12:=by have:=hm.count12;omega
  have hL:Ao (0+I (m.av.map Aj)) 232:=by constructor<;>(simp only[HJ];omega)
  have hf:([]++Ab (m.av.map Aj)).set (Nat.add (0+Z 0*14) 2) (di 9)=Ab (({ r with to:=9 }::rs).map Aj):=by rw[hr];rfl
  have hpos:2<I ([]++Ab (m.av.map Aj)):=by rw[hr];show 2<I (Ab (Aj r::rs.map Aj));simp only[Ab,List.flatMap_cons,HY,HJ];show 2<14+_;omega
  have hp0:(0:Int)<((0+I (m.av.map Aj):Nat):Int):=by rw[hr,HJ,HP];omega
  have hlen2:0+I (m.av.map Aj)=I (({ r with to:=9 }::rs).map Aj):=by rw[hr];simp
  obtain⟨rs',hrs'⟩:∃rs':List cm,rs'={ r with to:=9 }::rs:=⟨_,rfl⟩
  rw[←hrs'] at hf hlen2⊢
  clear hrs' hr
  refine zq s9 28 (.c1 (cn l a1) (Af m)<|.c1 (cn l a2) (di 3)<|.h .g<|.h (.q 4 1)<|.m (.gro 4 (0+I (m.av.map Aj)) 14)<|.h (.q 4 2)<|.h (.ga 14)<|.w<|.h (.q 11 0)<|.h (.s [ke 2,ke 3]) .z) (_/\_/\Q 0/\_/\_/\_/\Q (G (bm 4 (0+I (U Aj m.av)) 14))/\iz 0<=0/\_/\_/\Nv.It (BS (CN (I (dz l a).H)) PP (fun env σ1=>A7 PP s9 env σ1 (Af (cx.mk m.kind m.aw m.ay m.ax m.au m.am m.age rs' m.start)) (dz l a2)) [zt s9 31] (AR (sub Ase [1,1,1,0])) (W 0 (AR (sub Ase [1,1,1,0])).toList) (cz 28 [(2,bq 1 0),(3,bq 2 0)]) (bi [G (cn l a2),G jo,G [di m.kind,bt (cc m.aw),bt (cc m.ay),bt (cc m.ax),cw m.au,di m.am,di m.age,bm 4 (0+I (U Aj m.av)) 14,di m.start.n,co m.start.az],none,G (List.set ([]++Ab (U Aj m.av)) (Nat.add (0+Z 0*14) 2) (di 9))] []))) ⟨h2,p4,rfl,hne,hs,hL,rfl,by decide,hp0,hpos,⟨?_⟩⟩
  rw[hf]
  refine BS.cv (AlR (H:=[G (cn l a2),G zM,G [di m.kind,.v (cc m.aw),.v (cc m.ay),.v (cc m.ax),.v (cy m.au),di m.am,di m.age,.gro 4 (0+I (m.av.map Aj)) 14,di m.start.n,co m.start.az],none,G (Ab (rs'.map Aj))]) (own:=[]) (p:=2) (q:=4) (i:=7) (sz:=14) (xs:=rs'.map Aj) (by decide) rfl rfl rfl (by decide) rfl hlen2 (fun y hy=>by obtain⟨z,_,rfl⟩:=IQ.1 hy;rfl) _) ?_
  refine OH mixed 28 [] 11 0 (.r) ?_
  refine fu (by kernel_rfl:(Q (gp l a2)/\bt (aa [vi m.kind,ae (df m.aw),ae (df m.ay),ae (df m.ax),ae (dt m.au),vi m.am,vi m.age,ae (U Aj rs'),vi m.start.n,ae (c7 m.start.az)])=Af (cx.mk m.kind m.aw m.ay m.ax m.au m.am m.age rs' m.start))=_) ?_
  exact⟨rfl,rfl⟩
theorem AcC(m:cx)(l:List UInt8)(hl:I l<=200)(a:Nat)(ha:a<=I l):∃(x:cx) (e:Int) (a':Nat),Rm x e/\a'<=I l/\Aa PP 9 [.ptr 0 0,Af m] (dz l a) (.v (.list ([m,mB,x].map Aq))) (dz l a'):=by
 obtain⟨x,e,a',h1,h2,h3⟩:=Afp l hl a ha
 refine⟨x,e,a',h1,h2,?_⟩
 have hB:=AiL
 exact sv Ata 10 [3] (.c (Af mB)<|.c1 (cn l a') (Af x)<|.r) (_/\_/\Q (gp l a')/\Q (bt (ae [Aq m,Aq mB,Aq x]))) ⟨hB,h3,rfl,rfl⟩
end Go.Proofs.YtgigepkgakpjbaaGreat

namespace Go.Proofs
open Go.Shelf
def Tryz.sortW_ren:Go.Shelf.Ren:=⟨fun|6=>284|15=>226|14=>301|28=>271|29=>272|20=>306|21=>307|22=>308|23=>309|24=>310|25=>311|26=>312|27=>313|46=>314|47=>291|48=>292|49=>315|50=>316|57=>317|n=>n,fun|22=>50|24=>31|25=>250|3=>3|39=>134|0=>0|53=>184|55=>187|4=>4|46=>236|45=>235|50=>240|5=>5|9=>9|66=>254|70=>258|76=>262|77=>263|n=>n,fun|n=>n⟩
theorem Tryz.sortW:Go.Proofs.SlLaysF.n6 Tryz.prog Tryz.sortW_ren:={
 mixed:=by kernel_rfl
 f6:=⟨Tryz.f284.name,by decide,Tryz.func284.trans (I6 G (by kernel_rfl))⟩
 f14:=⟨Tryz.f301.name,by decide,Tryz.func301.trans (I6 G (by kernel_rfl))⟩
 f15:=Tryz.func226.trans (I6 G (by kernel_rfl))
 f20:=⟨Tryz.f306.name,by decide,Tryz.func306.trans (I6 G (by kernel_rfl))⟩
 f21:=⟨Tryz.f307.name,by decide,Tryz.func307.trans (I6 G (by kernel_rfl))⟩
 f22:=⟨Tryz.f308.name,by decide,Tryz.func308.trans (I6 G (by kernel_rfl))⟩
 f23:=⟨Tryz.f309.name,by decide,Tryz.func309.trans (I6 G (by kernel_rfl))⟩
 f24:=⟨Tryz.f310.name,by decide,Tryz.func310.trans (I6 G (by kernel_rfl))⟩
 f25:=⟨Tryz.f311.name,by decide,Tryz.func311.trans (I6 G (by kernel_rfl))⟩
 f26:=⟨Tryz.f312.name,by decide,Tryz.func312.trans (I6 G (by kernel_rfl))⟩
 f27:=⟨Tryz.f313.name,by decide,Tryz.func313.trans (I6 G (by kernel_rfl))⟩
 f28:=Tryz.func271.trans (I6 G (by kernel_rfl))
 f29:=Tryz.func272.trans (I6 G (by kernel_rfl))
 f46:=⟨Tryz.f314.name,by decide,Tryz.func314.trans (I6 G (by kernel_rfl))⟩
 f47:=Tryz.func291.trans (I6 G (by kernel_rfl))
 f48:=Tryz.func292.trans (I6 G (by kernel_rfl))
 f49:=⟨Tryz.f315.name,by decide,Tryz.func315.trans (I6 G (by kernel_rfl))⟩
 f50:=⟨Tryz.f316.name,by decide,Tryz.func316.trans (I6 G (by kernel_rfl))⟩
 f57:=⟨Tryz.f317.name,by decide,Tryz.func317.trans (I6 G (by kernel_rfl))⟩
 t0:=Tryz.underlying0
 a0:=Tryz.isAgg0
 z0:=Tryz.sizeOf0
 v0:=Tryz.zeroValue0
 t3:=Tryz.underlying3
 a3:=Tryz.isAgg3
 z3:=Tryz.sizeOf3
 v3:=Tryz.zeroValue3
 t4:=Tryz.underlying4
 a4:=Tryz.isAgg4
 z4:=Tryz.sizeOf4
 v4:=Tryz.zeroValue4
 t5:=Tryz.underlying5
 a5:=Tryz.isAgg5
 z5:=Tryz.sizeOf5
 v5:=Tryz.zeroValue5
 t9:=Tryz.underlying9
 a9:=Tryz.isAgg9
 z9:=Tryz.sizeOf9
 v9:=Tryz.zeroValue9
 t22:=Tryz.underlying50
 a22:=Tryz.isAgg50
 z22:=Tryz.sizeOf50
 v22:=Tryz.zeroValue50
 a24:=Tryz.isAgg31
 z24:=Tryz.sizeOf31
 t25:=Tryz.underlying250
 a25:=Tryz.isAgg250
 z25:=Tryz.sizeOf250
 v25:=Tryz.zeroValue250
 t39:=Tryz.underlying134
 a39:=Tryz.isAgg134
 z39:=Tryz.sizeOf134
 v39:=Tryz.zeroValue134
 t45:=Tryz.underlying235
 a45:=Tryz.isAgg235
 z45:=Tryz.sizeOf235
 v45:=Tryz.zeroValue235
 t46:=Tryz.underlying236
 a46:=Tryz.isAgg236
 z46:=Tryz.sizeOf236
 v46:=Tryz.zeroValue236
 t50:=Tryz.underlying240
 a50:=Tryz.isAgg240
 z50:=Tryz.sizeOf240
 v50:=Tryz.zeroValue240
 t53:=Tryz.underlying184
 a53:=Tryz.isAgg184
 z53:=Tryz.sizeOf184
 v53:=Tryz.zeroValue184
 t55:=Tryz.underlying187
 a55:=Tryz.isAgg187
 z55:=Tryz.sizeOf187
 v55:=Tryz.zeroValue187
 t66:=Tryz.underlying254
 a66:=Tryz.isAgg254
 z66:=Tryz.sizeOf254
 v66:=Tryz.zeroValue254
 t70:=Tryz.underlying258
 a70:=Tryz.isAgg258
 z70:=Tryz.sizeOf258
 v70:=Tryz.zeroValue258
 t76:=Tryz.underlying262
 a76:=Tryz.isAgg262
 z76:=Tryz.sizeOf262
 v76:=Tryz.zeroValue262
 t77:=Tryz.underlying263
 a77:=Tryz.isAgg263
 z77:=Tryz.sizeOf263
 v77:=Tryz.zeroValue263 }
end Go.Proofs
namespace Go.Proofs.YtgigepkgakpjbaaGreat
open Go.Dv Go.Nv Go.Shelf Go.RowKit Go.Lib Go.Sort
abbrev dy(w:List Int):b9:=.mk 0 (w.map lf)
def AB(a b:List Int):Int:=Ay (dy a) (dy b)
theorem Aai{a b:List Int}(h:dy a=dy b):a=b:=by
 grind[AcH]
abbrev r9(M:c6):={p:List Int×yz//p.1.length<=1000000/\repV M (cy p.1) p.2}
instance (M:c6):Inhabited (r9 M):=⟨⟨([],.slice none 0 0),by decide,E2 _⟩⟩
def Rs{M:c6}(x:r9 M):yz:=x.1.2
def qz{M:c6}(x y:r9 M):Int:=AB x.1.1 y.1.1
theorem AsG{M:c6}:SWO (ltOf (qz (M:=M))) where
 irrefl x:=by simp only[ltOf,qz,AB,BF.refl _ trivial];decide
 trans x y z h1 h2:=by
  have h1:Ay (dy x.1.1) (dy y.1.1)<0:=HV h1
  have h2:Ay (dy y.1.1) (dy z.1.1)<0:=HV h2
  exact HM (BF.trans (dy x.1.1) (dy y.1.1) (dy z.1.1) trivial trivial trivial h1 h2)
 ntrans x y z h1 h2:=by
  grind[AB,NB,EW,ltOf,qz]
theorem Ae3{g:Gh}{l:List (List Int)}(hl:∀v∈l,I v<=1000000){us:List yz}(h:Ag g (Ab (l.map cy)) us):∃ps:List (r9 g.M),ps.map (fun p=>p.1.1)=l/\us=ps.map Rs:=by
 induction l generalizing us with
 |nil=>exact⟨[],rfl,by grind[Ab,Ag]⟩
 |cons v l ih=>
  have h':Ag g (.v (cy v)::Ab (l.map cy)) us:=h
  obtain⟨u,us',rfl,h1,h2⟩:=h'
  obtain⟨ps,h5,h6⟩:=ih (fun v hv=>hl v (by simp[hv])) h2
  exact⟨⟨(v,u),hl v (by simp),h1⟩::ps,by simp[h5],by simp[h6,Rs]⟩
theorem Zt{g:Gh}(ps:List (r9 g.M)):Ag g (Ab ((ps.map fun p=>p.1.1).map cy)) (ps.map Rs)/\∀c∈Ab ((ps.map fun p=>p.1.1).map cy),c.one=J:=by
 induction ps with
 |nil=>grind[Ab,Ag]
 |cons p ps ih=>
  constructor
  ·show Ag g (.v (cy p.1.1)::Ab ((ps.map fun p=>p.1.1).map cy)) (Rs p::ps.map Rs)
   simp only[Ag]
   grind[Ah,Rs]
  ·intro c hc
   have hc:c∈bt (cy p.1.1)::Ab ((ps.map fun p=>p.1.1).map cy):=hc
   rcases IN.1 hc with rfl|hc
   ·rfl
   grind
def sortW(l:List (List Int)):List (List Int):=l.mergeSort fun a b=>Y (AB a b<=0)
theorem DV(l:List (List Int)):(sortW l).Perm l:=List.mergeSort_perm l _
theorem Agn{l k:List (List Int)}(hp:k.Perm l)(hs:k.Pairwise fun a b=>Y (AB a b<=0)=J):k=sortW l:=by
 have hso:(sortW l).Pairwise fun a b=>Y (AB a b<=0)=J:=List.pairwise_mergeSort (le:=fun a b=>Y (AB a b<=0)) (fun a b c h1 h2=>HM (EW (HV h1) (HV h2))) (fun a b=>by
  grind[KZ,AB]) l
 refine List.Perm.eq_of_pairwise (fun a b _ _ h1 h2=>?_) hs hso (hp.trans (DV l).symm)
 have h1:Ay (dy a) (dy b)<=0:=HV h1
 have h2:Ay (dy b) (dy a)<=0:=HV h2
 have:=BF.swap (dy b) (dy a) trivial trivial
 grind[Aai,EB]
abbrev Am2:Prop:=∀a b:List Int,I a<=1000000->I b<=1000000->F0 285 [cw a,cw b] (di (AB a b))
theorem Aeq(hC:Am2){g:Gh}{w:x5}{σ:St}(hw:dh g σ w){blk:Nat}(hM:∀o,g.M blk o=none)(n:Nat):CmpLays1 PP 285 #[] (Rs (M:=g.M)) qz blk 0 n w:=by
 intro m os dk _ x y
 obtain⟨W,hW⟩:∃W,W=sortWorld Rs w blk 0 m dk os:=⟨_,rfl⟩
 have hmem:∀b o v,g.M b o=G v->W.cell? ⟨b,o,none⟩=G v:=by
  intro b o v h
  have hne:b≠blk:=fun e=>by rw[e,hM] at h;simp at h
  have hc:=hw.mem b o v h
  have hlt:b<w.heap.size:=hw.mem_lt h
  rw[hW,sortWorld,cell?_grow _ _ _ (by rw[Go.Sort.size_putRow];exact hlt),cell?_putRow_other _ _ _ _ _ _ (.inl hne)]
  exact hc
 have hrep:dh { M:=g.M,β:=g.β,n:=0,ι:=fun _ _=>none,κ:=g.κ } ⟨[],[]⟩ W:=
  { n:=rfl,mem:=hmem,obj:=fun i cs hi=>by simp at hi,inj:=fun i j cs ds hi=>by simp at hi,own:=fun k sz xs hx=>by simp at hx,tags:=by simp,sep:=fun x hx=>by simp at hx,ownObj:=fun x hx=>by simp at hx,fresh:=fun _ _ _=>rfl,gl:=hw.gl,gw:=fun p hp=>by simp[GA] at hp }
 have arg:∀z:r9 g.M,Ah { M:=g.M,β:=g.β,n:=0,ι:=fun _ _=>none,κ:=g.κ } (cw z.1.1) (Rs z):=by
  intro z
  simp only[Ah]
  exact z.2.2
 have hs:=(hC x.1.1 y.1.1 x.2.1 y.2.1).2 _ W [Rs x,Rs y] hrep (Ax.2 ⟨_,_,rfl,arg x,arg y⟩)
 grind[Calls.mono,Ah,AC,Adc,qz]
theorem OC(hC:Am2)(l:List (List Int))(hl:I l<=100000)(hs:∀v∈l,I v<=1000000):
  Aa PP 284 [.arr 0 0 (I l),dfn 285] ⟨[G (Ab (l.map cy))],[]⟩ (.tup []) ⟨[G (Ab ((sortW l).map cy))],[]⟩:=by
 refine⟨⟨_, Tryz.func284,by rfl,by rfl⟩,fun g w args hw hargs=>?_⟩
 obtain⟨u0,u1,rfl,h0,h1⟩:=Ax.1 hargs
 simp only[Ah] at h0 h1
 obtain⟨hn,cap,hcap,rfl⟩:=h0
 obtain⟨us1,vs1,rfl,hu1,hv1⟩:=Kz.1 h1
 simp only[GZ] at hu1 hv1
 subst hu1;subst hv1
 obtain⟨us,rest,et,hb,hr,hone,hM,hκ⟩:=hw.obj 0 _ rfl
 obtain⟨ps,hp1,hp2⟩:=Ae3 hs hr
 have hpl:I ps=I l:=by grind
 have hul:I us=I l:=by grind
 have hH:Holds Rs w (g.β 0) 0 ps.toArray:=by
  grind[World.frozen?,World.cell?,Holds]
 have hblk:g.β 0<w.heap.size:=QE hb
 have eg:∀args w,(callFunc 285 args).run PP w=.ok (.enter 285 args) w:=enters_of Tryz.func285 (by rfl) rfl
 have hcon:=Any.slices_SortFunc Tryz.sortW (Rs (M:=g.M)) (fun x=>DG (x:=cy x.1.1) rfl x.2.2) qz AsG 285 #[] (g.β 0) 0 cap ps.toArray w eg (Aeq hC hw hM _) hH hblk (by grind)
 change Calls PP 284 _ _ _ at hcon
 rw[show ps.toArray.size=I l by omega] at hcon
 refine Calls.mono hcon ?_
 rintro e w' ⟨rfl,d',n,os,hperm,hsorted,rfl⟩
 obtain⟨hsz,_,hperm⟩:=hperm
 have hdl:d'.toList.map (fun p=>p.1.1)=sortW l:=by
  refine Agn ?_ ?_
  ·grind[Array.extract_eq_self_of_le]
  ·rw[List.pairwise_iff_getElem]
   intro i j hi hj hij
   have hj':j<d'.size:=by simpa using hj
   have h3:=hsorted i j (II _) hij (by simp only[J4] at hsz;omega)
   grind[ltOf,qz,NB,AB]
 have hd2:d'.size=I l:=by grind
 have hFl:I (d'.toList.map Rs)=I us:=by grind
 have hcs:=Zt d'.toList
 rw[hdl] at hcs
 have hb2:(putRow Rs (Sort.ahead w n) (g.β 0) 0 d').heap[g.β 0]?=G (.cells ((d'.toList.map Rs)++rest).toArray et (0,0)):=by
  simp only[putRow,mapBlock,Sort.ahead,Array.getElem?_modify,hb,onCells,Jz,Jr]
  congr 2
  apply Array.ext_getElem?
  intro t
  simp only[putCells,Array.getElem?_mapIdx,Nat.sub_zero,II,true_and,IT,List.getElem?_toArray]
  by_cases ht:t<I us
  ·have htF:t<d'.size:=by omega
   rw[I5 ht,I5 (by omega),HK ht,Jr,I4 htF,IP,JH,getElem!_pos d' t htF,Array.getElem?_eq_getElem htF];rfl
  ·have htF:¬t<d'.size:=by omega
   rw[I2 (by omega),I2 (by omega),hFl]
   simp only[Iz htF,Option.map_id']
 have h2:=(WI.start hw).setObj (cs':=Ab ((sortW l).map cy)) (q:=0) (w':=putRow Rs (Sort.ahead w n) (g.β 0) 0 d') rfl hb2 (by grind) hcs.1 hcs.2 (fun b hb'=>by
  grind[putRow,mapBlock,Sort.ahead]) (by simp_all) rfl rfl rfl (drawn:=.of (Nat.le_add_right _ _))
 have h3:=h2.grow (w':=sortWorld Rs w (g.β 0) 0 n d' os) (M':=g.M) (c6.le_refl _) (fun b hb'=>⟨heap_grow_old _ _ hb',fun _=>rfl⟩) (fun b o v h=>by
  rw[sortWorld,cell?_grow _ _ _ (h2.rep.mem_lt h)];exact h2.rep.mem b o v h) (by grind[sortWorld,size_grow]) rfl rfl rfl
 grind[Ah,Ag]
end Go.Proofs.YtgigepkgakpjbaaGreat

namespace Go.Proofs.YtgigepkgakpjbaaGreat
open List (flatten length_set pairwise_cons replicate take take_of_length_le)
abbrev cd(p:Int×Int):V:=.agg [vi p.1,vi p.2]
abbrev DF(l:List (Int×Int)):V:=.list (l.map cd)
abbrev AI(l:List (Int×Int)):D:=.v (DF l)
theorem RF(l:List (Int×Int)):∀y∈l.map cd,y.size=2:=by grind[V.size]
theorem AhT(n:Nat)(hn:n<=1000000):Aa PP 300 [.v .nils,di n] bd (.acc 1 []) ⟨[],[(1,1,[])]⟩:=by
 have h1:yt.wrap (0-0)=0:=by decide
 by_cases h:n=0
 ·subst h
  refine zq As5 27 (.f<|.f<|.h (.q 6 0)<|.h (.nw 0 1 1) .r) (yd (↑0:Int) 0/\yb (yu yt ((↑0:Int)-yu yt (0-0))) 0/\Q [(1,1,nV)]/\Q ig) ?_
  grind
 ·refine zq As5 27 (.f<|.t<|.a 1 .r) (yd n 0/\yc (yu yt ((n:Int)-yu yt (0-0))) 0/\iz 0=0/\0<yu yt ((n:Int)-yu yt (0-0))/\Ao (Z (yu yt ((n:Int)-yu yt (0-0)))) 8/\iz 0=0/\Q [(1,1,nV)]/\Q ig) ?_
  grind[An]
noncomputable def ZY:=yl po
abbrev R1(ls:List (List (Int))):List V:=ls.map fun l=>.list (l.map vi)
theorem Aen(ls:List (List (Int)))(hl:I ls<=1000)(ht:I ls.flatten<=1000000)(n:Nat):∀k:Nat,I ls-k=n->
  Rn PP po 0 (dl (ls.flatten.map vi)) bd ([kl ZY [1,1,1,1,0,1,0,0],.blk 2,kc ZY [1,1,1,1,1]]++[]) (cz 36 [(0,dl (R1 ls)),(6,.acc 1 ((ls.take k).flatten.map vi)),(25,dl (R1 ls)),(26,di (I ls)),(27,di k)]) ⟨[],[(1,1,(ls.take k).flatten.map vi)]⟩:=by
 induction n using Nat.strongRecOn with
 |_ n ih=>
 intro k hn
 refine lv 36 [] (.b (.e fun x:List (Int)=>.x (.list (x.map vi))<|.w<|.ls [ke 0,ch 6 (.acc 1 ((ls.take (k+1)).flatten.map vi)),ke 25,ke 26,ch 27 (di (k+1:Nat))] ⟨[],[(1,1,(ls.take (k+1)).flatten.map vi)]⟩) .r) ((Y ((k:Int)<(I ls:Int))=J->∃a,0<=(k:Int)/\(R1 ls)[Z (k:Int)]?=G (ae (U vi a))/\Q (U vi (flatten (take k ls)))/\Ao (I (U vi (flatten (take k ls)))+I (U vi a)) 8/\(∀(y:V),y∈U vi a->V.size y=1)/\br 1 (U vi (flatten (take k ls))++U vi a)=br 1 (U vi (flatten (take (k+1) ls)))/\di (yu yt ((k:Int)+1))=di (↑(k+1):Int)/\[(1,1,U vi (flatten (take k ls))++U vi a)]=[(1,1,U vi (flatten (take (k+1) ls)))]/\Nv.It (A5 (CN 0) PP (fun env σ1=>A7 PP po env σ1 (dl (U vi (flatten ls))) bd) [kl ZY iy,bh 2,kc ZY [1,1,1,1,1]] (cz 36 [(0,bt (ae (R1 ls))),(6,br 1 (U vi (flatten (take (k+1) ls)))),(25,bt (ae (R1 ls))),(26,di (I ls:Int)),(27,di (↑(k+1):Int))]) (bi [] [(1,1,U vi (flatten (take (k+1) ls)))])))/\(Y ((k:Int)<(I ls:Int))=O->bt (ae (U vi (flatten (take k ls))))=dl (U vi (flatten ls)))) ⟨fun h=>?_,fun h=>?_⟩
 ·have hk:k<I ls:=by simpa using h
  have hx:ls[k]?=G ls[k]:=HK hk
  have hf:=Ek hk
  have hle:=GO ls (k+1)
  have hih:=ih (I ls- (k+1)) (by omega) (k+1) rfl
  rw[hf] at hle hih⊢
  generalize ls[k]=x at hx hle hih⊢
  simp only[HY] at hle
  refine⟨x,by omega,by simp[hx],rfl,OW (by omega) (by decide),Qg x,by simp,Ac,by simp,⟨hih⟩⟩
 grind[take_of_length_le]
theorem Aeo(ls:List (List (Int)))(hl:I ls<=1000)(ht:I ls.flatten<=1000000)(n:Nat):∀k:Nat,I ls-k=n->
  Rn PP po 0 (dl (ls.flatten.map vi)) bd ([kl ZY [1,1,0,1,0,0],.blk 0,kc ZY [1,1,1]]++[]) (cz 36 [(0,dl (R1 ls)),(3,di ((ls.take k).flatten.length:Nat)),(9,dl (R1 ls)),(10,di (I ls)),(11,di k)]) bd:=by
 induction n using Nat.strongRecOn with
 |_ n ih=>
 intro k hn
 refine lv 36 [] (.b (.e fun x:List (Int)=>.x (.list (x.map vi))<|.f<|.l [ke 0,ch 3 (di ((ls.take (k+1)).flatten.length:Nat)),ke 9,ke 10,ch 11 (di (k+1:Nat))]) (.h (.ckn 1 1 1 [])<|.ls [ke 0,ch 6 (.acc 1 ((ls.take 0).flatten.map vi)),ke 25,ch 26 (di (I ls)),ch 27 (di (0:Nat))] ⟨[],[(1,1,(ls.take 0).flatten.map vi)]⟩)) ((Y ((k:Int)<(I ls:Int))=J->∃a,0<=(k:Int)/\(R1 ls)[Z (k:Int)]?=G (ae (U vi a))/\Y (yu yt ((I (flatten (take k ls)):Int)+(I (U vi a):Int))<0)=O/\di (yu yt ((I (flatten (take k ls)):Int)+(I (U vi a):Int)))=di (I (flatten (take (k+1) ls)):Int)/\di (yu yt ((k:Int)+1))=di (↑(k+1):Int)/\Nv.It (A5 (CN 0) PP (fun env σ1=>A7 PP po env σ1 (dl (U vi (flatten ls))) bd) [kl ZY e9,bh 0,kc ZY [1,1,1]] (cz 36 [(0,bt (ae (R1 ls))),(3,di (I (flatten (take (k+1) ls)):Int)),(9,bt (ae (R1 ls))),(10,di (I ls:Int)),(11,di (↑(k+1):Int))]) bd))/\(Y ((k:Int)<(I ls:Int))=O->Aa PP 300 [dn,di (I (flatten (take k ls)):Int)] d7 ig t8/\Q ig/\di (I (R1 ls):Int)=di (I ls:Int)/\di 0=di (↑0:Int)/\Q [(1,1,nV)]/\I0 po 0 (dl (U vi (flatten ls))) bd [kl ZY iy,bh 2,kc ZY [1,1,1,1,1]] (cz 36 [(0,bt (ae (R1 ls))),(6,br 1 []),(25,bt (ae (R1 ls))),(26,di (I ls:Int)),(27,di (↑0:Int))]) t8)) ⟨fun h=>?_,fun h=>?_⟩
 ·have hk:k<I ls:=by grind
  have hx:ls[k]?=G ls[k]:=HK hk
  have hf:=I6 I (Ek hk)
  rw[HY] at hf
  have hle:=GO ls (k+1)
  generalize ls[k]=x at hx hf⊢
  have h2:yt.wrap ((((ls.take k).flatten.length:Nat):Int)+(I (x.map vi):Int))=(((ls.take (k+1)).flatten.length:Nat):Int):=by rw[An (by omega) (by grind),hf];simp
  refine⟨x,by omega,by simp[hx],by grind,by rw[h2],Ac,⟨?_⟩⟩
  grind
 ·have hk:I ls<=k:=by grind
  rw[IB hk]
  refine⟨AhT (I ls.flatten) ht,rfl,by simp,rfl,rfl,⟨?_⟩⟩
  exact Aen ls hl ht _ 0 rfl
theorem Aiy(ls:List (List (Int)))(hl:I ls<=1000)(ht:I ls.flatten<=1000000):F0 283 [dl (R1 ls)] (dl (ls.flatten.map vi)):=by
 refine zq po 36 (.l [ke 0,ch 3 (di ((ls.take 0).flatten.length:Nat)),ke 9,ch 10 (di (I ls)),ch 11 (di (0:Nat))]) (Q (di 0)/\di (I (R1 ls):Int)=di (I ls:Int)/\Q (di 0)/\I0 po (I bd.H) (dl (U vi (flatten ls))) bd [kl ZY e9,bh 0,zt po 15] (cz 36 [(0,dl (R1 ls)),(3,di (I (flatten (take 0 ls)):Int)),(9,dl (R1 ls)),(10,di (I ls:Int)),(11,di (↑0:Int))]) bd) ⟨rfl,by simp,rfl,⟨?_⟩⟩
 exact Aeo ls hl ht _ 0 rfl
theorem Adh(n:Nat)(hn:n<=1000000):Aa PP 227 [.v .nils,di n] bd (.acc 1 []) ⟨[],[(1,2,[])]⟩:=by
 have h1:yt.wrap (0-0)=0:=by decide
 by_cases h:n=0
 ·subst h
  refine zq Apk 27 (.f<|.f<|.h (.q 6 0)<|.h (.nw 0 1 2) .r) (yd (↑0:Int) 0/\yb (yu yt ((↑0:Int)-yu yt (0-0))) 0/\Q [(1,2,nV)]/\Q ig) ?_
  grind
 ·refine zq Apk 27 (.f<|.t<|.a 1 .r) (yd n 0/\yc (yu yt ((n:Int)-yu yt (0-0))) 0/\iz 0=0/\0<yu yt ((n:Int)-yu yt (0-0))/\Ao (Z (yu yt ((n:Int)-yu yt (0-0)))) 16/\iz 0=0/\Q [(1,2,nV)]/\Q ig) ?_
  grind[An]
noncomputable def Mn:=yl SF
abbrev EH(ls:List (List (Int×Int))):List V:=ls.map fun l=>.list (l.map cd)
theorem Zg(ls:List (List (Int×Int)))(hl:I ls<=1000)(ht:I ls.flatten<=1000000)(n:Nat):∀k:Nat,I ls-k=n->
  Rn PP SF 0 (dl (ls.flatten.map cd)) bd ([kl Mn [1,1,1,1,0,1,0,0],.blk 2,kc Mn [1,1,1,1,1]]++[]) (cz 36 [(0,dl (EH ls)),(6,.acc 1 ((ls.take k).flatten.map cd)),(25,dl (EH ls)),(26,di (I ls)),(27,di k)]) ⟨[],[(1,2,(ls.take k).flatten.map cd)]⟩:=by
 induction n using Nat.strongRecOn with
 |_ n ih=>
 intro k hn
 refine lv 36 [] (.b (.e fun x:List (Int×Int)=>.x (.list (x.map cd))<|.w<|.ls [ke 0,ch 6 (.acc 1 ((ls.take (k+1)).flatten.map cd)),ke 25,ke 26,ch 27 (di (k+1:Nat))] ⟨[],[(1,2,(ls.take (k+1)).flatten.map cd)]⟩) .r) ((Y ((k:Int)<(I ls:Int))=J->∃a,0<=(k:Int)/\(EH ls)[Z (k:Int)]?=G (ae (U cd a))/\Q (U cd (flatten (take k ls)))/\Ao (I (U cd (flatten (take k ls)))+I (U cd a)) 16/\(∀(y:V),y∈U cd a->V.size y=2)/\br 1 (U cd (flatten (take k ls))++U cd a)=br 1 (U cd (flatten (take (k+1) ls)))/\di (yu yt ((k:Int)+1))=di (↑(k+1):Int)/\[(1,2,U cd (flatten (take k ls))++U cd a)]=[(1,2,U cd (flatten (take (k+1) ls)))]/\Nv.It (A5 (CN 0) PP (fun env σ1=>A7 PP SF env σ1 (dl (U cd (flatten ls))) bd) [kl Mn iy,bh 2,kc Mn [1,1,1,1,1]] (cz 36 [(0,bt (ae (EH ls))),(6,br 1 (U cd (flatten (take (k+1) ls)))),(25,bt (ae (EH ls))),(26,di (I ls:Int)),(27,di (↑(k+1):Int))]) (bi [] [(1,2,U cd (flatten (take (k+1) ls)))])))/\(Y ((k:Int)<(I ls:Int))=O->bt (ae (U cd (flatten (take k ls))))=dl (U cd (flatten ls)))) ⟨fun h=>?_,fun h=>?_⟩
 ·have hk:k<I ls:=by simpa using h
  have hx:ls[k]?=G ls[k]:=HK hk
  have hf:=Ek hk
  have hle:=GO ls (k+1)
  have hih:=ih (I ls- (k+1)) (by omega) (k+1) rfl
  rw[hf] at hle hih⊢
  generalize ls[k]=x at hx hle hih⊢
  simp only[HY] at hle
  refine⟨x,by omega,by simp[hx],rfl,OW (by omega) (by decide),RF x,by simp,Ac,by simp,⟨hih⟩⟩
 grind[take_of_length_le]
theorem Zh(ls:List (List (Int×Int)))(hl:I ls<=1000)(ht:I ls.flatten<=1000000)(n:Nat):∀k:Nat,I ls-k=n->
  Rn PP SF 0 (dl (ls.flatten.map cd)) bd ([kl Mn [1,1,0,1,0,0],.blk 0,kc Mn [1,1,1]]++[]) (cz 36 [(0,dl (EH ls)),(3,di ((ls.take k).flatten.length:Nat)),(9,dl (EH ls)),(10,di (I ls)),(11,di k)]) bd:=by
 induction n using Nat.strongRecOn with
 |_ n ih=>
 intro k hn
 refine lv 36 [] (.b (.e fun x:List (Int×Int)=>.x (.list (x.map cd))<|.f<|.l [ke 0,ch 3 (di ((ls.take (k+1)).flatten.length:Nat)),ke 9,ke 10,ch 11 (di (k+1:Nat))]) (.h (.ckn 1 1 2 [])<|.ls [ke 0,ch 6 (.acc 1 ((ls.take 0).flatten.map cd)),ke 25,ch 26 (di (I ls)),ch 27 (di (0:Nat))] ⟨[],[(1,2,(ls.take 0).flatten.map cd)]⟩)) ((Y ((k:Int)<(I ls:Int))=J->∃a,0<=(k:Int)/\(EH ls)[Z (k:Int)]?=G (ae (U cd a))/\Y (yu yt ((I (flatten (take k ls)):Int)+(I (U cd a):Int))<0)=O/\di (yu yt ((I (flatten (take k ls)):Int)+(I (U cd a):Int)))=di (I (flatten (take (k+1) ls)):Int)/\di (yu yt ((k:Int)+1))=di (↑(k+1):Int)/\Nv.It (A5 (CN 0) PP (fun env σ1=>A7 PP SF env σ1 (dl (U cd (flatten ls))) bd) [kl Mn e9,bh 0,kc Mn [1,1,1]] (cz 36 [(0,bt (ae (EH ls))),(3,di (I (flatten (take (k+1) ls)):Int)),(9,bt (ae (EH ls))),(10,di (I ls:Int)),(11,di (↑(k+1):Int))]) bd))/\(Y ((k:Int)<(I ls:Int))=O->Aa PP 227 [dn,di (I (flatten (take k ls)):Int)] d7 ig (bi [] [(1,2,[])])/\Q ig/\di (I (EH ls):Int)=di (I ls:Int)/\di 0=di (↑0:Int)/\Q [(1,2,nV)]/\I0 SF 0 (dl (U cd (flatten ls))) bd [kl Mn iy,bh 2,kc Mn [1,1,1,1,1]] (cz 36 [(0,bt (ae (EH ls))),(6,br 1 []),(25,bt (ae (EH ls))),(26,di (I ls:Int)),(27,di (↑0:Int))]) (bi [] [(1,2,[])]))) ⟨fun h=>?_,fun h=>?_⟩
 ·have hk:k<I ls:=by grind
  have hx:ls[k]?=G ls[k]:=HK hk
  have hf:=I6 I (Ek hk)
  rw[HY] at hf
  have hle:=GO ls (k+1)
  generalize ls[k]=x at hx hf⊢
  have h2:yt.wrap ((((ls.take k).flatten.length:Nat):Int)+(I (x.map cd):Int))=(((ls.take (k+1)).flatten.length:Nat):Int):=by rw[An (by omega) (by grind),hf];simp
  refine⟨x,by omega,by simp[hx],by grind,by rw[h2],Ac,⟨?_⟩⟩
  grind
 ·have hk:I ls<=k:=by grind
  rw[IB hk]
  refine⟨Adh (I ls.flatten) ht,rfl,by simp,rfl,rfl,⟨?_⟩⟩
  exact Zg ls hl ht _ 0 rfl
theorem Of(ls:List (List (Int×Int)))(hl:I ls<=1000)(ht:I ls.flatten<=1000000):F0 167 [dl (EH ls)] (dl (ls.flatten.map cd)):=by
 refine zq SF 36 (.l [ke 0,ch 3 (di ((ls.take 0).flatten.length:Nat)),ke 9,ch 10 (di (I ls)),ch 11 (di (0:Nat))]) (Q (di 0)/\di (I (EH ls):Int)=di (I ls:Int)/\Q (di 0)/\I0 SF (I bd.H) (dl (U cd (flatten ls))) bd [kl Mn e9,bh 0,zt SF 15] (cz 36 [(0,dl (EH ls)),(3,di (I (flatten (take 0 ls)):Int)),(9,dl (EH ls)),(10,di (I ls:Int)),(11,di (↑0:Int))]) bd) ⟨rfl,by simp,rfl,⟨?_⟩⟩
 exact Zh ls hl ht _ 0 rfl
theorem AhR(n:Nat)(hn:n<=1000000):Aa PP 289 [.v .nils,di n] bd (.acc 1 []) ⟨[],[(1,2,[])]⟩:=by
 have h1:yt.wrap (0-0)=0:=by decide
 by_cases h:n=0
 ·subst h
  refine zq As3 27 (.f<|.f<|.h (.q 6 0)<|.h (.nw 0 1 2) .r) (yd (↑0:Int) 0/\yb (yu yt ((↑0:Int)-yu yt (0-0))) 0/\Q [(1,2,nV)]/\Q ig) ?_
  grind
 ·refine zq As3 27 (.f<|.t<|.a 1 .r) (yd n 0/\yc (yu yt ((n:Int)-yu yt (0-0))) 0/\iz 0=0/\0<yu yt ((n:Int)-yu yt (0-0))/\Ao (Z (yu yt ((n:Int)-yu yt (0-0)))) 32/\iz 0=0/\Q [(1,2,nV)]/\Q ig) ?_
  grind[An]
noncomputable def ZW:=yl pm
abbrev Rp(ls:List (List (b9))):List V:=ls.map fun l=>.list (l.map eV)
theorem Aek(ls:List (List (b9)))(hl:I ls<=1000)(ht:I ls.flatten<=1000000)(n:Nat):∀k:Nat,I ls-k=n->
  Rn PP pm 0 (dl (ls.flatten.map eV)) bd ([kl ZW [1,1,1,1,0,1,0,0],.blk 2,kc ZW [1,1,1,1,1]]++[]) (cz 36 [(0,dl (Rp ls)),(6,.acc 1 ((ls.take k).flatten.map eV)),(25,dl (Rp ls)),(26,di (I ls)),(27,di k)]) ⟨[],[(1,2,(ls.take k).flatten.map eV)]⟩:=by
 induction n using Nat.strongRecOn with
 |_ n ih=>
 intro k hn
 refine lv 36 [] (.b (.e fun x:List (b9)=>.x (.list (x.map eV))<|.w<|.ls [ke 0,ch 6 (.acc 1 ((ls.take (k+1)).flatten.map eV)),ke 25,ke 26,ch 27 (di (k+1:Nat))] ⟨[],[(1,2,(ls.take (k+1)).flatten.map eV)]⟩) .r) ((Y ((k:Int)<(I ls:Int))=J->∃a,0<=(k:Int)/\(Rp ls)[Z (k:Int)]?=G (ae (U eV a))/\Q (U eV (flatten (take k ls)))/\Ao (I (U eV (flatten (take k ls)))+I (U eV a)) 32/\(∀(y:V),y∈U eV a->V.size y=2)/\br 1 (U eV (flatten (take k ls))++U eV a)=br 1 (U eV (flatten (take (k+1) ls)))/\di (yu yt ((k:Int)+1))=di (↑(k+1):Int)/\[(1,2,U eV (flatten (take k ls))++U eV a)]=[(1,2,U eV (flatten (take (k+1) ls)))]/\Nv.It (A5 (CN 0) PP (fun env σ1=>A7 PP pm env σ1 (dl (U eV (flatten ls))) bd) [kl ZW iy,bh 2,kc ZW [1,1,1,1,1]] (cz 36 [(0,bt (ae (Rp ls))),(6,br 1 (U eV (flatten (take (k+1) ls)))),(25,bt (ae (Rp ls))),(26,di (I ls:Int)),(27,di (↑(k+1):Int))]) (bi [] [(1,2,U eV (flatten (take (k+1) ls)))])))/\(Y ((k:Int)<(I ls:Int))=O->bt (ae (U eV (flatten (take k ls))))=dl (U eV (flatten ls)))) ⟨fun h=>?_,fun h=>?_⟩
 ·have hk:k<I ls:=by simpa using h
  have hx:ls[k]?=G ls[k]:=HK hk
  have hf:=Ek hk
  have hle:=GO ls (k+1)
  have hih:=ih (I ls- (k+1)) (by omega) (k+1) rfl
  rw[hf] at hle hih⊢
  generalize ls[k]=x at hx hle hih⊢
  simp only[HY] at hle
  refine⟨x,by omega,by simp[hx],rfl,OW (by omega) (by decide),D3 x,by simp,Ac,by simp,⟨hih⟩⟩
 grind[take_of_length_le]
theorem Ael(ls:List (List (b9)))(hl:I ls<=1000)(ht:I ls.flatten<=1000000)(n:Nat):∀k:Nat,I ls-k=n->
  Rn PP pm 0 (dl (ls.flatten.map eV)) bd ([kl ZW [1,1,0,1,0,0],.blk 0,kc ZW [1,1,1]]++[]) (cz 36 [(0,dl (Rp ls)),(3,di ((ls.take k).flatten.length:Nat)),(9,dl (Rp ls)),(10,di (I ls)),(11,di k)]) bd:=by
 induction n using Nat.strongRecOn with
 |_ n ih=>
 intro k hn
 refine lv 36 [] (.b (.e fun x:List (b9)=>.x (.list (x.map eV))<|.f<|.l [ke 0,ch 3 (di ((ls.take (k+1)).flatten.length:Nat)),ke 9,ke 10,ch 11 (di (k+1:Nat))]) (.h (.ckn 1 1 2 [])<|.ls [ke 0,ch 6 (.acc 1 ((ls.take 0).flatten.map eV)),ke 25,ch 26 (di (I ls)),ch 27 (di (0:Nat))] ⟨[],[(1,2,(ls.take 0).flatten.map eV)]⟩)) ((Y ((k:Int)<(I ls:Int))=J->∃a,0<=(k:Int)/\(Rp ls)[Z (k:Int)]?=G (ae (U eV a))/\Y (yu yt ((I (flatten (take k ls)):Int)+(I (U eV a):Int))<0)=O/\di (yu yt ((I (flatten (take k ls)):Int)+(I (U eV a):Int)))=di (I (flatten (take (k+1) ls)):Int)/\di (yu yt ((k:Int)+1))=di (↑(k+1):Int)/\Nv.It (A5 (CN 0) PP (fun env σ1=>A7 PP pm env σ1 (dl (U eV (flatten ls))) bd) [kl ZW e9,bh 0,kc ZW [1,1,1]] (cz 36 [(0,bt (ae (Rp ls))),(3,di (I (flatten (take (k+1) ls)):Int)),(9,bt (ae (Rp ls))),(10,di (I ls:Int)),(11,di (↑(k+1):Int))]) bd))/\(Y ((k:Int)<(I ls:Int))=O->Aa PP 289 [dn,di (I (flatten (take k ls)):Int)] d7 ig (bi [] [(1,2,[])])/\Q ig/\di (I (Rp ls):Int)=di (I ls:Int)/\di 0=di (↑0:Int)/\Q [(1,2,nV)]/\I0 pm 0 (dl (U eV (flatten ls))) bd [kl ZW iy,bh 2,kc ZW [1,1,1,1,1]] (cz 36 [(0,bt (ae (Rp ls))),(6,br 1 []),(25,bt (ae (Rp ls))),(26,di (I ls:Int)),(27,di (↑0:Int))]) (bi [] [(1,2,[])]))) ⟨fun h=>?_,fun h=>?_⟩
 ·have hk:k<I ls:=by grind
  have hx:ls[k]?=G ls[k]:=HK hk
  have hf:=I6 I (Ek hk)
  rw[HY] at hf
  have hle:=GO ls (k+1)
  generalize ls[k]=x at hx hf⊢
  have h2:yt.wrap ((((ls.take k).flatten.length:Nat):Int)+(I (x.map eV):Int))=(((ls.take (k+1)).flatten.length:Nat):Int):=by rw[An (by omega) (by grind),hf];simp
  refine⟨x,by omega,by simp[hx],by grind,by rw[h2],Ac,⟨?_⟩⟩
  grind
 ·have hk:I ls<=k:=by grind
  rw[IB hk]
  refine⟨AhR (I ls.flatten) ht,rfl,by simp,rfl,rfl,⟨?_⟩⟩
  exact Aek ls hl ht _ 0 rfl
theorem Aix(ls:List (List (b9)))(hl:I ls<=1000)(ht:I ls.flatten<=1000000):F0 261 [dl (Rp ls)] (dl (ls.flatten.map eV)):=by
 refine zq pm 36 (.l [ke 0,ch 3 (di ((ls.take 0).flatten.length:Nat)),ke 9,ch 10 (di (I ls)),ch 11 (di (0:Nat))]) (Q (di 0)/\di (I (Rp ls):Int)=di (I ls:Int)/\Q (di 0)/\I0 pm (I bd.H) (dl (U eV (flatten ls))) bd [kl ZW e9,bh 0,zt pm 15] (cz 36 [(0,dl (Rp ls)),(3,di (I (flatten (take 0 ls)):Int)),(9,dl (Rp ls)),(10,di (I ls:Int)),(11,di (↑0:Int))]) bd) ⟨rfl,by simp,rfl,⟨?_⟩⟩
 exact Ael ls hl ht _ 0 rfl
theorem Ai6(a b:List Int)(ha:I a<=1000000)(n:Nat):∀k:Nat,I a-k=n->k<=I b->k<=I a->
  Rn PP uk 0 (di (B4 AP (a.drop k) (b.drop k))) bd ([zu uk 52,.blk 0,zt uk 7]++[]) (cz 36 [(0,cw a),(1,cw b),(9,cw a),(10,di (I a)),(11,di k)]) bd:=by
 induction n using Nat.strongRecOn with
 |_ n ih=>
 intro k hn hkb hka
 refine zp (.b (.e fun x:Int=>.x (vi x)<|.b .r<|.e fun y:Int=>.x (vi y)<|.c (di (AP x y))<|.b .r (.ls [ke 0,ke 1,ke 9,ke 10,ch 11 (zw k)] bd)) (.b .r .r)) ((ye k (I a)->∃a_2,y6 k/\zy (U vi a) k (vi a_2)/\(y8 k (I (U vi b))->di 1=di (B4 AP (W k a) (W k b)))/\(y7 k (I (U vi b))->∃a_4,y6 k/\zy (U vi b) k (vi a_4)/\Aa PP 174 [di a_2,di a_4] d7 (di (AP a_2 a_4)) d7/\((AP a_2 a_4 !=0)=J->di (AP a_2 a_4)=di (B4 AP (W k a) (W k b)))/\((AP a_2 a_4 !=0)=O->zx k/\Nv.It (A5 (CN 0) PP (fun env σ1=>A7 PP uk env σ1 (di (B4 AP (W k a) (W k b))) bd) [zu uk 52,bh 0,zt uk 7] (cz 36 [(0,cw a),(1,cw b),(9,cw a),(10,di (I a:Int)),(11,zw k)]) bd))))/\(yd k (I a)->(ye (I (U vi a)) (I (U vi b))->di (-1)=di (B4 AP (W k a) (W k b)))/\(yd (I (U vi a)) (I (U vi b))->di 0=di (B4 AP (W k a) (W k b))))) ⟨fun h=>?_,fun h=>?_⟩
 ·have hk:k<I a:=by grind
  have hx:a[k]?=G a[k]:=HK hk
  rw[HZ hk]
  generalize a[k]=x at hx⊢
  refine⟨x,by omega,Ae hx,fun h1=>?_,fun h1=>?_⟩
  ·grind[List.drop_of_length_le,B4]
  ·have hk2:k<I b:=by grind
   have hy:b[k]?=G b[k]:=HK hk2
   rw[HZ hk2]
   generalize b[k]=y at hy⊢
   refine⟨y,by omega,Ae hy,Ls x y,fun h2=>?_,fun h2=>⟨Ac,⟨?_⟩⟩⟩
   ·grind[B4]
   ·have:AP x y=0:=by grind
    simp only[B4,this,Jz]
    grind
 ·have hk:k=I a:=by grind
  subst hk
  rw[List.drop_length]
  refine⟨fun h1=>?_,fun h1=>?_⟩
  ·grind[List.drop_eq_getElem_cons,B4]
  grind[List.drop_of_length_le,B4]
theorem Ai5(a b:List Int)(ha:I a<=1000000):F0 302 [cw a,cw b] (di (B4 AP a b)):=by
 refine zq uk 36 (.ls [ke 0,ke 1,ke 9,ch 10 (di (I a)),ch 11 (di (0:Nat))] bd) (di (I (U vi a):Int)=di (I a:Int)/\Q (di 0)/\I0 uk (I bd.H) (di (B4 AP a b)) bd [zu uk 52,bh 0,zt uk 7] (cz 36 [(0,cw a),(1,cw b),(9,cw a),(10,di (I a:Int)),(11,di (↑0:Int))]) bd) ⟨by grind,rfl,⟨?_⟩⟩
 exact Ai6 a b ha _ 0 rfl (by omega) (by omega)
theorem AlX(x y:Int):Ay (lf x) (lf y)=AP x y:=by
 rw[QS]
 grind[jb,AP,b9.n,b9.az,B4]
theorem Vr:∀a b:List Int,B4 Ay (a.map lf) (b.map lf)=B4 AP a b
 |[],[]=>rfl
 |[],_::_=>rfl
 |_::_,[]=>rfl
 |x::a,y::b=>by simp only[I9,B4,AlX,Vr a b]
theorem VB:Am2:=by
 intro a b ha hb
 have h1:AB a b=jb [AP (I a) (I b),B4 AP a b]:=by
  rw[AB,QS]
  grind[jb,AP,Vr,b9.n,b9.az]
 refine zq AsU 15 (.c (di (AP (I a) (I b)))<|.c (di (B4 AP a b))<|.c (di (AB a b)) .r) (F0 174 [di (I (U vi a):Int),di (I (U vi b):Int)] (di (AP (I a:Int) (I b:Int)))/\_/\F0 173 [bt (ae [vi (AP (I a:Int) (I b:Int)),vi (B4 AP a b)])] (di (AB a b))/\Q (di (AB a b))) ⟨by grind[Ls],Ai5 a b ha,?_,rfl⟩
 rw[h1];exact Acg [_,_] (by simp)
structure ChC(m:cx)(c:b9):Prop where
 size:c.size<=128
 len:I c.az=1+I m.ay
 word:∀(k:Nat) (x:b9),c.az[1+k]?=G x->I x.az<=12
structure oa(m:cx)(t:cr):Prop where
 int:X3 m t
 chk:F0 70 [Af m] (di 0)
 kind:m.kind=2∨m.kind=3
 few:I m.av<=12/\m.ay.length<=2
 rule:∀r∈m.av,0<=r.chan/\r.chan<I m.ay
 shape:∀c,Al t c=J->ChC m c
theorem Zv(m:cx)(t:cr)(hm:X3 m t)(c:b9)(hs:c.size<=1000000):F0 257 [dV c,.v (.ref (Aq m))] (db (!Al t c)):=by
 exact sv Ap0 8 [2] (.c (db (Al t c)) .r) (_/\Q (db !Al t c)) ⟨hm.valid c hs,rfl⟩
theorem ApN(m:cx)(t:cr)(hm:oa m t):F0 214 [Af m,dl []] (di 0):=by
 have h:=Lg 257 [] [.ref (Aq m)] (fun c=> !Al t c) [] (by simp) (by simp)
 rcases hm.kind with hk|hk
 ·exact sv Pi 24 [2] (.c (di 0)<|.k<|.f<|.c (db O) .r) (_/\(m.kind !=2)=O/\_/\Q (di 0)) ⟨hm.chk,by grind,h,rfl⟩
 ·exact sv Pi 24 [2] (.c (di 0)<|.k<|.t<|.f<|.c (db O) .r) (_/\(m.kind !=2)=J/\(m.kind !=3)=O/\_/\Q (di 0)) ⟨hm.chk,by grind,by grind,h,rfl⟩
def pr(t:cr)(c:b9):Int:=if Al t c=J then 0 else 17
theorem AjZ(m:cx)(t:cr)(hm:oa m t)(c:b9)(hs:c.size<=1000000):F0 214 [Af m,dl [Ad c]] (di (pr t c)):=by
 have h:=Lg 257 [] [.ref (Aq m)] (fun c=> !Al t c) [c] (by simp) (fun x hx=>by rw[Ia.1 hx];exact Zv m t hm.int c hs)
 rw[show [c].map eV=[Ad c] from I6 (fun z=>[z]) (AE c)] at h
 rw[pr]
 cases hv:Al t c with
 |true=>
  rw[show([c].any fun c=> !Al t c)=O by simp[hv]] at h
  rcases hm.kind with hk|hk
  ·exact sv Pi 24 [2] (.c (di 0)<|.k<|.f<|.c (db O) .r) (_/\(m.kind !=2)=O/\_/\Q (di 0)) ⟨hm.chk,by rw[hk];rfl,h,rfl⟩
  ·exact sv Pi 24 [2] (.c (di 0)<|.k<|.t<|.f<|.c (db O) .r) (_/\(m.kind !=2)=J/\(m.kind !=3)=O/\_/\Q (di 0)) ⟨hm.chk,by rw[hk];rfl,by rw[hk];rfl,h,rfl⟩
 |false=>
  rw[show([c].any fun c=> !Al t c)=J by simp[hv]] at h
  rcases hm.kind with hk|hk
  ·exact sv Pi 24 [2] (.c (di 0)<|.k<|.f<|.c (db J) .r) (_/\(m.kind !=2)=O/\_/\Q (di 17)) ⟨hm.chk,by rw[hk];rfl,h,rfl⟩
  ·exact sv Pi 24 [2] (.c (di 0)<|.k<|.t<|.f<|.c (db J) .r) (_/\(m.kind !=2)=J/\(m.kind !=3)=O/\_/\Q (di 17)) ⟨hm.chk,by rw[hk];rfl,by rw[hk];rfl,h,rfl⟩
theorem AiH(m:cx)(t:cr)(hm:oa m t)(i:Nat)(hi:i<I m.av)(c:b9)(hs:c.size<=1000000):F0 169 [Af m,di i,dV c] (di (pr t c)):=by
 refine sv Atg 28 [3,5] (.c (di 0)<|.k<|.k<|.f<|.c (di (pr t c)) .r) (F0 214 [Af m,bt (ae [])] (di 0)/\y7 i (I (U Aj m.av))/\F0 214 [Af m,bt (ae [Ad c])] (di (pr t c))/\Q (di (pr t c))) ?_
 grind[ApN,AjZ]
abbrev AY(x:b9):List Int:=x.az.map b9.n
noncomputable def Z9:=yl v7
theorem Aei(l:List b9)(hl:I l<=1000000)(n:Nat):∀k:Nat,I l-k=n->
  Rn PP v7 0 (.acc 1 ((l.map b9.n).map vi)) ⟨[],[(1,1,(l.map b9.n).map vi)]⟩ ([kl Z9 [1,1,0,1,0,0],.blk 0,kc Z9 [1,1,1]]++[]) (cz 27 [(5,.acc 1 (((l.take k).map b9.n).map vi)),(14,co l),(15,di (I l)),(16,di k)]) ⟨[],[(1,1,((l.take k).map b9.n).map vi)]⟩:=by
 induction n with
 |zero=>
  intro k hn
  refine lv 27 [2] (.f .r) (Y ((k:Int)<(I l:Int))=O/\[(1,1,U vi (U b9.n (take k l)))]=[(1,1,U vi (U b9.n l))]/\br 1 (U vi (U b9.n (take k l)))=br 1 (U vi (U b9.n l))) ?_
  grind[take_of_length_le]
 |succ n ih=>
  intro k hn
  obtain⟨x,hx⟩:=yk (show k<I l by omega)
  refine lv 27 [2] (.t<|.h (.xs (Ad x))<|.ls [ch 5 (.acc 1 (((l.take (k+1)).map b9.n).map vi)),ke 14,ke 15,ch 16 (di (k+1:Nat))] ⟨[],[(1,1,((l.take (k+1)).map b9.n).map vi)]⟩) (Y ((k:Int)<(I l:Int))=J/\Q 2/\0<=(k:Int)/\(U eV l)[Z (k:Int)]?=G (Ad x)/\Q (U vi (U b9.n (take k l)))/\Ao (I (U vi (U b9.n (take k l)))+I (vi x.n::nV)) 8/\br 1 (U vi (U b9.n (take k l))++[vi x.n])=br 1 (U vi (U b9.n (take (k+1) l)))/\di (yu yt ((k:Int)+1))=di (↑(k+1):Int)/\[(1,1,U vi (U b9.n (take k l))++vi x.n::nV)]=[(1,1,U vi (U b9.n (take (k+1) l)))]/\I0 v7 0 (br 1 (U vi (U b9.n l))) (bi [] [(1,1,U vi (U b9.n l))]) [kl Z9 e9,bh 0,kc Z9 [1,1,1]] (cz 27 [(5,br 1 (U vi (U b9.n (take (k+1) l)))),(14,co l),(15,di (I l:Int)),(16,di (↑(k+1):Int))]) (bi [] [(1,1,U vi (U b9.n (take (k+1) l)))])) ?_
  have ht:((l.take (k+1)).map b9.n).map vi=((l.take k).map b9.n).map vi++[vi x.n]:=by rw[J2,hx];simp
  rw[ht]
  refine⟨yr,rfl,by omega,Ap hx,rfl,⟨?_,?_⟩,rfl,Ac,rfl,⟨?_⟩⟩
  ·simp only[HJ,ID,HP,HT];omega
  ·simp only[HJ,ID,HP,HT];omega
  grind
theorem Pp(c:b9)(k:Nat)(x:b9)(hx:c.az[1+k]?=G x)(hl:I c.az<=1000000)(hs:I x.az<=1000000):Aa PP 171 [dV c,di k] bd (.acc 1 ((AY x).map vi)) ⟨[],[(1,1,(AY x).map vi)]⟩:=by
 refine sv v7 27 [2] (.h (.q 2 0)<|.h (.nw 5 1 1)<|.h (.xs (Ad x))<|.ls [ch 5 (.acc 1 []),ke 14,ch 15 (di (I x.az)),ch 16 (di (0:Nat))] ⟨[],[(1,1,[])]⟩) (Q 2/\0<=yu yt (1+(k:Int))/\zy (c7 c.az) (yu yt (1+(k:Int))) (Ad x)/\Q ig/\di (I (c7 x.az):Int)=di (I x.az:Int)/\di 0=di (↑0:Int)/\Q [(1,1,nV)]/\I0 v7 (I bd.H) (br 1 (U vi (AY x))) (bi [] [(1,1,U vi (AY x))]) [kl Z9 e9,bh 0,zt v7 15] (cz 27 [(5,br 1 []),(14,co x.az),(15,di (I x.az:Int)),(16,di (↑0:Int))]) t8) ?_
 have hk:=(HN.1 hx).1
 have hw:yt.wrap (1+(k:Int))=((1+k:Nat):Int):=by grind[An]
 rw[hw]
 exact⟨rfl,by omega,Ap hx,rfl,by grind,rfl,rfl,⟨Aei x.az hs _ 0 rfl⟩⟩
theorem SU(c:b9)(k:Nat)(x:b9)(hx:c.az[1+k]?=G x)(hl:I c.az<=1000000)(hs:I x.az<=1000000):F0 171 [dV c,di k] (cw (AY x)):=HI (Pp c k x hx hl hs)
theorem Ae2(r:cm)(c:b9)(k:Nat)(hk:r.chan=k)(s x:b9)(hs:c.az[0]?=G s)(hx:c.az[1+k]?=G x)(hl:I c.az<=1000000)(hz:I x.az<=1000000):
  F0 170 [BK r,dV c] (db ((s.n==r.ai)&&((r.act !=2)||(AY x).head?==G r.letter))):=by
 have hct:=SU c k x hx hl hz
 rw[←hk] at hct
 have hx0:(c.az.map eV)[Z 0]?=G (Ad s):=Ap (i:=0) hs
 by_cases h1:(s.n !=r.ai)=J
 ·have e1:(s.n==r.ai)=O:=by simpa using h1
  refine sv Aih 32 [2,3] (.h (.xs (Ad s))<|.t .r) (Q 2/\iz 0<=0/\zy (c7 c.az) 0 (Ad s)/\(s.n !=r.ai)=J/\db O=db (s.n==r.ai&&(r.act !=2||List.head? (AY x)==G r.letter))) ?_
  rw[e1]
  exact⟨rfl,IA _,hx0,h1,rfl⟩
 ·have f1:=HW h1
  have e1:(s.n==r.ai)=J:=by simpa using h1
  by_cases h2:(r.act !=2)=J
  ·refine sv Aih 32 [2,3] (.h (.xs (Ad s))<|.f<|.t .r) (Q 2/\iz 0<=0/\zy (c7 c.az) 0 (Ad s)/\(s.n !=r.ai)=O/\(r.act !=2)=J/\db J=db (s.n==r.ai&&(r.act !=2||List.head? (AY x)==G r.letter))) ?_
   rw[e1,h2]
   exact⟨rfl,IA _,hx0,f1,rfl,rfl⟩
  ·have f2:=HW h2
   rw[e1,f2]
   cases hn:AY x with
   |nil=>
    rw[hn] at hct
    exact sv Aih 32 [2,3] (.h (.xs (Ad s))<|.f<|.f<|.c (cw []) .r) (Q 2/\iz 0<=0/\_/\_/\_/\_/\Q (db O)) ⟨rfl,IA _,hx0,f1,f2,hct,rfl⟩
   |cons y ys=>
    rw[hn] at hct
    exact sv Aih 32 [2,3] (.h (.xs (Ad s))<|.f<|.f<|.c (cw (y::ys))<|.t<|.x (vi y) .r) (Q 2/\iz 0<=0/\_/\_/\_/\_/\yc (I (U vi (y::ys))) 0/\iz 0<=0/\Q (G (vi y))/\Q (db (y==r.letter))) ⟨rfl,IA _,hx0,f1,f2,hct,HM (by simp only[HJ,HP];omega),IA _,rfl,by simp⟩
noncomputable def ZV:=yl qe
theorem Aiv(l:List b9)(hl:I l<=1000000)(hp:∀v∈l,F0 228 [dV v] (dV v))(n:Nat):∀k:Nat,I l-k=n->
  Rn PP qe 0 (.acc 1 (l.map eV)) ⟨[],[(1,2,l.map eV)]⟩ ([zu qe 116,.blk 0,zt qe 15]++[]) (cz 19 [(3,.acc 1 ((l.take k).map eV)),(6,co l),(7,di (I l)),(8,di k)]) ⟨[],[(1,2,(l.take k).map eV)]⟩:=by
 induction n with
 |zero=>
  intro k hn
  refine zp (.f .r) (yd k (I l)/\[(1,2,U eV (take k l))]=[(1,2,U eV l)]/\br 1 (U eV (take k l))=br 1 (U eV l)) ?_
  rw[IB (by omega)]
  exact⟨yq,rfl,rfl⟩
 |succ n ih=>
  intro k hn
  obtain⟨x,hx⟩:=yk (show k<I l by omega)
  have hk:=(HN.1 hx).1
  have ht:l.take (k+1)=l.take k++[x]:=by rw[J2,hx];rfl
  refine zp (.t<|.h (.xs (Ad x))<|.c (dV x)<|.ls [ch 3 (.acc 1 ((l.take (k+1)).map eV)),ke 6,ke 7,ch 8 (zw k)] ⟨[],[(1,2,(l.take (k+1)).map eV)]⟩) (ye k (I l)/\Q 2/\y6 k/\zy (U eV l) k (Ad x)/\_/\Q (U eV (take k l))/\Ao (I (U eV (take k l))+I (Ad x::nV)) 32/\br 1 (U eV (take k l)++[Ad x])=br 1 (U eV (take (k+1) l))/\zx k/\[(1,2,U eV (take k l)++Ad x::nV)]=[(1,2,U eV (take (k+1) l))]/\_) ⟨yr,rfl,by omega,Ap hx,hp x (HQ hx),rfl,⟨?_,?_⟩,?_,Ac,?_,iK (ih (k+1) (by omega))⟩
  ·simp only[HJ,ID,HP,HT];omega
  ·simp only[HJ,ID,HP,HT];omega
  ·rw[C4, ←ht]
  ·rw[ht, ←C4]
theorem Xa(l:List b9)(hl:I l<=1000000)(hp:∀v∈l,F0 228 [dV v] (dV v)):F0 262 [co l] (co l):=by
 have h:Aa PP 262 [co l] bd (.acc 1 (l.map eV)) ⟨[],[(1,2,l.map eV)]⟩:=by
  exact zq qe 19 (.h (.q 2 0)<|.h (.nw 3 1 2)<|.ls [ch 3 (.acc 1 []),ke 6,ch 7 (di (I l)),ch 8 (di (0:Nat))] ⟨[],[(1,2,[])]⟩) (Q ig/\di (I (U eV l):Int)=di (I l:Int)/\Q (di 0)/\Q [(1,2,nV)]/\_) ⟨rfl,by rw[HJ],rfl,rfl,iK (Aiv l hl hp _ 0 rfl)⟩
 exact HI h
noncomputable def Atn:=yl ArL
theorem WY(N:Nat):∀v:b9,v.size<=N->v.size<=1000000->F0 228 [dV v] (dV v):=by
 induction N with
 |zero=>intro v h;have:=v.size_pos;omega
 |succ N ih=>
  intro v hN hv
  have hs:=v.size_eq
  have hl:=b9.length_le v.az
  exact sv ArL 9 [1] (.c (co v.az) .r) (_/\Q (dV v)) ⟨Xa v.az (by omega) (fun x hx=>by have:=b9.size_mem hx;exact ih x (by omega) (by omega)),rfl⟩
abbrev vr(xs:List b9):St:=⟨[G (Ab (xs.map eV))],[]⟩
theorem Aeh(l:List b9)(hl:I l<=100000)(hp:∀v∈l,F0 228 [dV v] (dV v))(n:Nat):∀k:Nat,I l- (k+1)=n->k<I l->
  Rn PP qe 0 (.arr 0 0 (I l)) (vr l) ([zu qe 116,.blk 0,zt qe 15]++[]) (cz 19 [(3,.gro 0 (k+1) 2),(6,co l),(7,di (I l)),(8,zw k)]) (vr (l.take (k+1))):=by
 induction n with
 |zero=>
  intro k hn hk
  refine zp (.f<|.h (.q 7 0)<|.h (.ga 3) .ro) (yd ↑(k+1) (I l)/\cp 1 [] [G (Ab (U eV (take (k+1) l)))]=J/\[G (Ab (U eV (take (k+1) l)))]=[G (ec l)]/\bo 0 0 (k+1)=bo 0 0 (I l)) ?_
  have e:k+1=I l:=by omega
  rw[e,IB (HR _)]
  exact⟨yq,I1.2 ⟨Am 1 [] _,rfl⟩,rfl,rfl⟩
 |succ n ih=>
  intro k hn hk
  obtain⟨x,hx⟩:=yk (show k+1<I l by omega)
  refine zp (.t<|.h (.xs (Ad x))<|.c (dV x)<|.lo [ch 3 (.gro 2 (k+1+1) 2),ke 6,ke 7,ch 8 (di (k+1+1:Nat))] ⟨[none,G (da x.n x.az),G (Ab ((l.take (k+1+1)).map eV))],[]⟩) (ye ↑(k+1) (I l)/\Q 2/\y6 ↑(k+1)/\zy (U eV l) ↑(k+1) (Ad x)/\F0 228 [dV x] (dV x)/\I (Ab (U eV (take (k+1) l)))=(k+1)*2/\[Ad x]≠ []/\(∀(y:V),y∈ [Ad x]->V.size y=2)/\Ao (k+1+I (Ad x::nV)) 32/\Q (bm 2 (k+1+1) 2)/\di (yu yt ((↑(k+1):Int)+1))=di (↑(k+1+1):Int)/\cp 3 [] [none,G (da x.n x.az),G (Ab (U eV (take (k+1) l))++(da x.n x.az))]=J/\[none,G (da x.n x.az),G (Ab (U eV (take (k+1) l))++(da x.n x.az))]=[none,G (da x.n x.az),G (Ab (U eV (take (k+1+1) l)))]/\I0 qe 0 (bo 0 0 (I l)) (vr l) [kl ZV e9,bh 0,zt qe 15] (cz 19 [(3,bm 2 (k+1+1) 2),(6,co l),(7,di (I l:Int)),(8,di (↑(k+1+1):Int))]) (bi [none,G (da x.n x.az),G (Ab (U eV (take (k+1+1) l)))] [])) ?_
  have hk1:=(HN.1 hx).1
  have ht:l.take (k+1+1)=l.take (k+1)++[x]:=by rw[J2 (i:=k+1),hx];rfl
  have hf:Ab ((l.take (k+1)).map eV)++[di x.n,bt (dq x.az)]=Ab ((l.take (k+1+1)).map eV):=by rw[ht,Ll,AK];rfl
  have hih:=ih (k+1) (by omega) hk1
  rw[hf]
  refine⟨yr,rfl,by omega,Ap hx,hp x (HQ hx),by rw[B1,ID];omega,by simp,fun y hy=>by rw[Ia.1 hy];rfl,⟨?_,?_⟩,rfl,Ac,?_,rfl,⟨?_⟩⟩
  ·simp only[HP,HT];omega
  ·simp only[HP,HT];omega
  ·simp[cp,D.okNs,D.okN,Am]
  ·refine EN (H0:=[none,G [di x.n,co x.az]]) (fun E0 E h=>h.2) 2 rfl (fun cs hc=>?_) ?_ ?_ hih
   ·simp at hc;rw[hc];exact A9 _
   ·simp[cz,D.okNs,D.okN]
   ·simp[cz,D.rens,D.ren]
theorem Aeg(l:List b9)(hn:l≠ [])(hl:I l<=100000)(hp:∀v∈l,F0 228 [dV v] (dV v)):Aa PP 262 [co l] bd (.arr 0 0 (I l)) (vr l):=by
 obtain⟨x,hx⟩:∃x,l[0]?=G x:=⟨_,HK (List.length_pos_iff.2 hn)⟩
 have hk1:=(HN.1 hx).1
 have ht:l.take 1=[x]:=by
  cases l with
  |nil=>simp at hx
  |cons y l=>simp at hx;simp[hx]
 have hih:=Aeh l hl hp _ 0 rfl (by omega)
 refine zq qe 19 (.n<|.t<|.h (.xs (Ad x))<|.c (dV x)<|.h (.q 5 4)<|.h .g<|.lo [ch 3 (.gro 1 1 2),ke 6,ch 7 (di (I l)),ch 8 (di (1:Nat))] ⟨[G (da x.n x.az),G (Ab ((l.take 1).map eV))],[]⟩) (ye 0 (I (U eV l))/\Q 2/\iz 0<=0/\zy (U eV l) 0 (Ad x)/\_/\[Ad x]≠ []/\(∀(y:V),y∈ [Ad x]->V.size y=2)/\Ao 1 32/\Q (bm 1 1 2)/\di (I (U eV l):Int)=di (I l:Int)/\Q (di (↑1:Int))/\Q J/\[G (da x.n x.az),G (da x.n x.az)]=[G (da x.n x.az),G (Ab (U eV (take 1 l)))]/\I0 qe (I bd.H) (bo 0 0 (I l)) (vr l) [kl ZV e9,bh 0,zt qe 15] (cz 19 [(3,bm 1 1 2),(6,co l),(7,di (I l:Int)),(8,di (↑1:Int))]) (bi [G (da x.n x.az),G (Ab (U eV (take 1 l)))] [])) ⟨HM (by simp only[HJ];omega),rfl,IA _,Ap (i:=0) hx,hp x (HQ hx),by simp,fun y hy=>by rw[Ia.1 hy];rfl,⟨by decide,by decide⟩,rfl,by rw[HJ],I6 di (by decide),rfl,?_,⟨?_⟩⟩
 ·rw[ht,AK];rfl
 ·refine EN (H0:=[G [di x.n,co x.az]]) (fun E0 E h=>h.2) 1 rfl (fun cs hc=>?_) ?_ ?_ hih
  ·simp at hc;rw[hc];exact A9 _
  ·simp[cz,D.okNs,D.okN]
  ·simp[cz,D.rens,D.ren]
theorem Aef(v:b9)(hn:v.az≠ [])(hv:v.size<=100000):Aa PP 228 [dV v] bd (.dagg [di v.n,.arr 1 0 (I v.az)]) ⟨[G [di v.n,.arr 1 0 (I v.az)],G (Ab (v.az.map eV))],[]⟩:=by
 have hs:=v.size_eq
 have hl:=b9.length_le v.az
 refine Qe mixed ArL Atn (by kernel_rfl) (by kernel_rfl) (by kernel_rfl) (by kernel_rfl) 9 (by kernel_rfl) [1] (.h (.oc (.arr 1 0 (I v.az)) ⟨[G [di 0,.v .nils],G (Ab (v.az.map eV))],[]⟩)<|.h .g<|.r) ?_
 refine fu (by kernel_rfl:((N0 [bt (bw 262 [] []),co v.az] uz (bo 1 0 (I v.az)) (bi [G [di 0,dn],G (ec v.az)] []))/\cp 2 [] [G [di v.n,bo 1 0 (I v.az)],G (ec v.az)]=J/\Q [G [di v.n,bo 1 0 (I v.az)],G (ec v.az)]/\Q (bj [di v.n,bo 1 0 (I v.az)]))=_) ?_
 refine⟨fun o cl fo ho hc=>?_,by simp[cp,D.okNs,D.okN,Am],rfl,rfl⟩
 exact JQ (σ:=⟨[G [di 0,.v .nils]],[]⟩) (fs:=[]) (cs:=[]) (ds:=[co v.az]) ho hc rfl (A9 _) (Aeg v.az hn (by omega) (fun x hx=>by have:=b9.size_mem hx;exact WY _ x (HR _) (by omega)))
theorem gd{P:x7}{o:yy}{ds ds':List D}{σ σ':St}{d:D}(h:DSL ds ds')(ho:Ak P o ds' σ d σ'):Ak P o ds σ d σ':=fun E g a w K Q hw hds hK=>ho E g a w K Q hw (h.rep hds) hK
theorem Aha{P:x7}{o:yy}{ds ds':List D}{σ σ':St}{d:D}(h:∀(g:Gh) (a:Act),Ag g ds' (o.op.operands.toList.map a.eval))(ho:Ak P o ds' σ d σ'):Ak P o ds σ d σ':=by grind[Ak]
noncomputable def BG:=yl Mk
noncomputable def u6:Array yy:=match sub BG [1,1,1,1,1,0,1,0,0,1,1,0,0,1] with
 |.region _ ops _=>ops
 |_=> #[]
noncomputable def oW(i:Nat):yy:=(u6[i]?).getD ⟨none,.alloc 0,0,"", #[],none⟩
theorem CR:u6.size=12:=by rfl
theorem Ach:u6.toList=[oW 0,oW 1,oW 2,oW 3,oW 4,oW 5,oW 6,oW 7,oW 8,oW 9,oW 10,oW 11]:=by rfl
abbrev BM(c:b9)(L:List D)(T:List (Option (List D))):St:=⟨[G [di 0,.v .nils],G [di c.n,.arr 2 0 (I c.az)],G L,G [di c.n,.arr 2 0 (I c.az)]]++T,[]⟩
abbrev zE:V:=.agg [vi 0,.nils]
abbrev lE(x:Int):V:=.agg [vi x,.list []]
theorem AqE(p:Nat)(σ:St):Ak PP (oW 0) [.ptr 2 p] σ (.ptr 2 p) σ:=by
 obtain⟨_,d,σ',kd,⟨rfl,rfl,rfl⟩,h⟩:=CQ (P:=PP) (im:=[]) (s:=.z) (o:=oW 0) (ds:=[.ptr 2 p]) (σ:=σ) (K:=fun _ d' σ' kd=>d'=(.ptr 2 p)/\σ'=σ/\kd=.pure) (by
  refine fu (by kernel_rfl:(Q (bq 2 p)/\Q σ/\Q Kd.pure)=_) ?_
  grind)
 exact h.op
theorem AqD(p:Nat)(σ:St):Ak PP (oW 1) [.ptr 2 p] σ (.ptr 2 p) σ:=by
 obtain⟨_,d,σ',kd,⟨rfl,rfl,rfl⟩,h⟩:=CQ (P:=PP) (im:=[]) (s:=.z) (o:=oW 1) (ds:=[.ptr 2 p]) (σ:=σ) (K:=fun _ d' σ' kd=>d'=(.ptr 2 p)/\σ'=σ/\kd=.pure) (by
  refine fu (by kernel_rfl:(Q (bq 2 p)/\Q σ/\Q Kd.pure)=_) ?_
  grind)
 exact h.op
theorem Ann(p:Nat)(σ:St):Ak PP (oW 10) [.ptr 2 p] σ (.ptr 2 p) σ:=by
 obtain⟨_,d,σ',kd,⟨rfl,rfl,rfl⟩,h⟩:=CQ (P:=PP) (im:=[]) (s:=.z) (o:=oW 10) (ds:=[.ptr 2 p]) (σ:=σ) (K:=fun _ d' σ' kd=>d'=(.ptr 2 p)/\σ'=σ/\kd=.pure) (by
  refine fu (by kernel_rfl:(Q (bq 2 p)/\Q σ/\Q Kd.pure)=_) ?_
  grind)
 exact h.op
theorem AqC(c:b9)(L:List D)(p:Nat)(g0:D)(T:List (Option (List D)))(h:L[p]?=G g0):Ak PP (oW 2) [.ptr 2 p] (BM c L T) g0 (BM c L T):=by
 obtain⟨_,d,σ',kd,⟨rfl,rfl,rfl⟩,h⟩:=CQ (P:=PP) (im:=[]) (s:=.m g0 .z) (o:=oW 2) (ds:=[.ptr 2 p]) (σ:=(BM c L T)) (K:=fun _ d' σ' kd=>d'=g0/\σ'=(BM c L T)/\kd=.load 2 p 1) (by
  refine fu (by kernel_rfl:(L[p]?=G g0/\Q g0/\Q (BM c L T)/\Q (Kd.load 2 p 1))=_) ?_
  grind)
 exact h.op
theorem AqB(x:Int)(σ:St):Ak PP (oW 3) [di x] σ (di x) σ:=by
 obtain⟨_,d,σ',kd,⟨rfl,rfl,rfl⟩,h⟩:=CQ (P:=PP) (im:=[]) (s:=.z) (o:=oW 3) (ds:=[di x]) (σ:=σ) (K:=fun _ d' σ' kd=>d'=(di x)/\σ'=σ/\kd=.pure) (by
  refine fu (by kernel_rfl:(Q (di x)/\Q σ/\Q Kd.pure)=_) ?_
  grind)
 exact h.op
theorem AqA(x:Int)(σ:St):Ak PP (oW 4) [di x] σ (.v (lE x)) σ:=by
 obtain⟨_,d,σ',kd,⟨rfl,rfl,rfl⟩,h⟩:=CQ (P:=PP) (im:=[]) (s:=.z) (o:=oW 4) (ds:=[di x]) (σ:=σ) (K:=fun _ d' σ' kd=>d'=(.v (lE x))/\σ'=σ/\kd=.pure) (by
  refine fu (by kernel_rfl:(bt (aa [vi x,ae []])=bt (lE x)/\Q σ/\Q Kd.pure)=_) ?_
  grind)
 exact h.op
theorem Aq9(σ:St):Ak PP (oW 6) [.v zE] σ (.v (.list [zE])) σ:=by
 obtain⟨_,d,σ',kd,⟨rfl,rfl,rfl⟩,h⟩:=CQ (P:=PP) (im:=[]) (s:=.z) (o:=oW 6) (ds:=[.v zE]) (σ:=σ) (K:=fun _ d' σ' kd=>d'=(.v (.list [zE]))/\σ'=σ/\kd=.pure) (by
  refine fu (by kernel_rfl:(Q (bt (ae [zE]))/\Q σ/\Q Kd.pure)=_) ?_
  grind)
 exact h.op
theorem Anl(q n:Nat)(σ:St):Ak PP (oW 5) [.arr q 0 n] σ (di n) σ:=by
 obtain⟨_,d,σ',kd,⟨rfl,rfl,rfl⟩,h⟩:=CQ (P:=PP) (im:=[]) (s:=.z) (o:=oW 5) (ds:=[.arr q 0 n]) (σ:=σ) (K:=fun _ d' σ' kd=>d'=(di n)/\σ'=σ/\kd=.pure) (by
  refine fu (by kernel_rfl:(Q (di (n:Int))/\Q σ/\Q Kd.pure)=_) ?_
  grind)
 exact h.op
theorem Ank(σ:St):Ak PP (oW 5) [.v .nils] σ (di 0) σ:=by
 obtain⟨_,d,σ',kd,⟨rfl,rfl,rfl⟩,h⟩:=CQ (P:=PP) (im:=[]) (s:=.z) (o:=oW 5) (ds:=[.v .nils]) (σ:=σ) (K:=fun _ d' σ' kd=>d'=(di 0)/\σ'=σ/\kd=.pure) (by
  refine fu (by kernel_rfl:(Q (di 0)/\Q σ/\Q Kd.pure)=_) ?_
  grind)
 exact h.op
theorem Anh(q n j:Nat)(σ:St)(h:j<n):Ak PP (oW 8) [.arr q 0 n,di j] σ (.ptr q (0+Z (j:Int)*2)) σ:=by
 obtain⟨_,d,σ',kd,⟨rfl,rfl,rfl⟩,h⟩:=CQ (P:=PP) (im:=[]) (s:=.z) (o:=oW 8) (ds:=[.arr q 0 n,di j]) (σ:=σ) (K:=fun _ d' σ' kd=>d'=(.ptr q (0+Z (j:Int)*2))/\σ'=σ/\kd=.pure) (by
  refine fu (by kernel_rfl:(0<=(j:Int)/\(j:Int)<(n:Int)/\Q (bq q (0+Z (j:Int)*2))/\Q σ/\Q Kd.pure)=_) ?_
  grind)
 exact h.op
theorem Aq8(c:b9)(L:List D)(Cc:List D)(n:Nat)(hn:n<=1000)(hC:I Cc=n*2):Ak PP (oW 7) [.gro 4 n 2,.v (.list [zE])] (BM c L [G Cc]) (.gro 5 (n+1) 2) (BM c L [none,G (Cc++[di 0,.v .nils])]):=by
 obtain⟨_,d,σ',kd,⟨rfl,rfl,rfl⟩,h⟩:=CQ (P:=PP) (im:=[]) (s:=.z) (o:=oW 7) (ds:=[.gro 4 n 2,.v (.list [zE])]) (σ:=(BM c L [G Cc])) (K:=fun _ d' σ' kd=>d'=(.gro 5 (n+1) 2)/\σ'=(BM c L [none,G (Cc++[di 0,.v .nils])])/\kd=.eff) (by
  refine fu (by kernel_rfl:(I Cc=n*2/\[zE]≠ []/\(∀(y:V),y∈ [zE]->V.size y=2)/\Ao (n+I (zE::nV)) 32/\bm 5 (n+I (zE::nV)) 2=bm 5 (n+1) 2/\bi [G [di 0,dn],G [di c.n,bo 2 0 (I c.az)],G L,G [di c.n,bo 2 0 (I c.az)],none,G (Cc++[di 0,dn])] []=BM c L [none,G (Cc++[di 0,dn])]/\Q Kd.eff)=_) ?_
  grind[V.size])
 exact h.op
theorem Ani(c:b9)(L:List D):Ak PP (oW 7) [.v .nils,.v (.list [zE])] (BM c L []) (.gro 4 1 2) (BM c L [G [di 0,.v .nils]]):=by
 obtain⟨_,d,σ',kd,⟨rfl,rfl,rfl⟩,h⟩:=CQ (P:=PP) (im:=[]) (s:=.h .g .z) (o:=oW 7) (ds:=[.v .nils,.v (.list [zE])]) (σ:=(BM c L [])) (K:=fun _ d' σ' kd=>d'=(.gro 4 1 2)/\σ'=(BM c L [G [di 0,.v .nils]])/\kd=.eff) (by
  refine fu (by kernel_rfl:([zE]≠ []/\(∀(y:V),y∈ [zE]->V.size y=2)/\Ao 1 32/\Q (bm 4 1 2)/\bi [G [di 0,dn],G [di c.n,bo 2 0 (I c.az)],G L,G [di c.n,bo 2 0 (I c.az)],G [di 0,dn]] []=BM c L [G [di 0,dn]]/\Q Kd.eff)=_) ?_
  exact⟨by simp,fun y hy=>by rw[Ia.1 hy];rfl,⟨by decide,by decide⟩,rfl,rfl,rfl⟩)
 exact h.op
theorem Aq7(c:b9)(L:List D)(Cc:List D)(j:Nat)(x:Int)(hC:j+2<=I Cc):Ak PP (oW 9) [.ptr 5 j,.v (lE x)] (BM c L [none,G Cc]) .undef (BM c L [none,G (Cc.take j++[di x,.v (.list [])]++Cc.drop (j+2))]):=by
 obtain⟨_,d,σ',kd,⟨rfl,rfl,rfl⟩,h⟩:=CQ (P:=PP) (im:=[]) (s:=.h .ww .z) (o:=oW 9) (ds:=[.ptr 5 j,.v (lE x)]) (σ:=(BM c L [none,G Cc])) (K:=fun _ d' σ' kd=>d'=.undef/\σ'=(BM c L [none,G (Cc.take j++[di x,.v (.list [])]++Cc.drop (j+2))])/\kd=.eff) (by
  refine fu (by kernel_rfl:(j+2<=I Cc/\Q bk/\bi [G [di 0,dn],G [di c.n,bo 2 0 (I c.az)],G L,G [di c.n,bo 2 0 (I c.az)],none,G (take j Cc++[di x,bt (ae [])]++W (j+2) Cc)] []=BM c L [none,G (take j Cc++[di x,bt (ae [])]++W (j+2) Cc)]/\Q Kd.eff)=_) ?_
  grind)
 exact h.op
theorem Ang(c:b9)(L:List D)(x:Int):Ak PP (oW 9) [.ptr 4 0,.v (lE x)] (BM c L [G [di 0,.v .nils]]) .undef (BM c L [G [di x,.v (.list [])]]):=by
 obtain⟨_,d,σ',kd,⟨rfl,rfl,rfl⟩,h⟩:=CQ (P:=PP) (im:=[]) (s:=.z) (o:=oW 9) (ds:=[.ptr 4 0,.v (lE x)]) (σ:=(BM c L [G [di 0,.v .nils]])) (K:=fun _ d' σ' kd=>d'=.undef/\σ'=(BM c L [G [di x,.v (.list [])]])/\kd=.eff) (by
  refine fu (by kernel_rfl:(Q bk/\bi [G [di 0,dn],G [di c.n,bo 2 0 (I c.az)],G L,G [di c.n,bo 2 0 (I c.az)],G [di x,bt (ae [])]] []=BM c L [G [di x,bt (ae [])]]/\Q Kd.eff)=_) ?_
  grind)
 exact h.op
theorem Anm(c:b9)(L:List D)(p q j:Nat)(T:List (Option (List D)))(hp:p<I L):Ak PP (oW 11) [.ptr 2 p,.gro q j 2] (BM c L T) .undef (BM c (L.set p (.gro q j 2)) T):=by
 obtain⟨_,d,σ',kd,⟨rfl,rfl,rfl⟩,h⟩:=CQ (P:=PP) (im:=[]) (s:=.w .z) (o:=oW 11) (ds:=[.ptr 2 p,.gro q j 2]) (σ:=(BM c L T)) (K:=fun _ d' σ' kd=>d'=.undef/\σ'=(BM c (L.set p (.gro q j 2)) T)/\kd=.eff) (by
  refine fu (by kernel_rfl:(p<I L/\Q bk/\bi (G [di 0,dn]::G [di c.n,bo 2 0 (I c.az)]::G (List.set L p (bm q j 2))::G [di c.n,bo 2 0 (I c.az)]::[]++T) []=BM c (List.set L p (bm q j 2)) T/\Q Kd.eff)=_) ?_
  grind)
 exact h.op
theorem Anj(ds:List D)(σ:St):Ak PP (oW 6) ds σ (.v (.list [zE])) σ:=by
 refine Aha (fun g a=>?_) (Aq9 σ)
 have e:(oW 6).op.operands.toList=[.const (.agg #[.int .i64 0,.slice none 0 0])]:=by kernel_rfl
 rw[e]
 refine⟨_,_,rfl,⟨[.int .i64 0,.slice none 0 0],?_,rfl⟩,rfl⟩
 exact⟨_,_,rfl,rfl,rfl,_,_,rfl,rfl,rfl,rfl⟩
theorem V8{C:c9->c9->Prop}{R:List D->St->Prop}{ks:List KI}(c:b9)(p:Nat)(L:List D)(hp:p<I L)(x:Int)(j:Nat)(g0:D)(T0 T1 T2:List (Option (List D)))(q1:Nat)(hq:4+I T0<=q1)(ws:List Int)(kk:Int)
  (h5:∀τ,Ak PP (oW 5) [g0] τ (di j) τ) (h7:Ak PP (oW 7) [g0,.v (.list [zE])] (BM c (L.set p g0) T0) (.gro q1 (j+1) 2) (BM c (L.set p g0) T1))
  (h9:∀M,Ak PP (oW 9) [.ptr q1 (0+Z (j:Int)*2),.v (lE x)] (BM c M T1) .undef (BM c M T2))
  (hk:A5 C PP R ks (cz 46 [(8,.ptr 0 0),(9,.ptr 3 0),(10,.ptr 2 p),(12,di x),(28,cw ws),(29,di (I ws)),(30,di kk),(34,.ptr 2 p),(35,.ptr 2 p),(36,g0),(37,di x),(38,.v (lE x)),(39,di j),(40,.v (.list [zE])),(41,.gro q1 (j+1) 2),(42,.ptr q1 (0+Z (j:Int)*2)),(43,.ptr 2 p)]) (BM c (L.set p (.gro q1 (j+1) 2)) T2)):
  A5 C PP R (.code (sub BG [1,1,1,1,1,0,1,0,0,1,1,0,0,1])::ks) (cz 46 [(8,.ptr 0 0),(9,.ptr 3 0),(10,.ptr 2 p),(12,di x),(28,cw ws),(29,di (I ws)),(30,di kk)]) (BM c (L.set p g0) T0):=by
 have hx:sub BG [1,1,1,1,1,0,1,0,0,1,1,0,0,1]=.region 8 u6 true:=by rfl
 rw[hx]
 have h11:∀T,Ak PP (oW 11) [.ptr 2 p,.gro q1 (j+1) 2] (BM c (L.set p g0) T) .undef (BM c (L.set p (.gro q1 (j+1) 2)) T):=fun T=>by
  grind[Anm,List.set_set]
 have h2:=AqC c (L.set p g0) p g0 T0 (by grind)
 let sts:Bool->List St:=fun b=>match b with
  |false=>[BM c (L.set p g0) T0,BM c (L.set p g0) T1,BM c (L.set p (.gro q1 (j+1) 2)) T1]
  |true=>[k9,BM c (L.set p g0) T2,BM c (L.set p (.gro q1 (j+1) 2)) T2]
 have h8:∀τ,Ak PP (oW 8) [.gro q1 (j+1) 2,di j] τ (.ptr q1 (0+Z (j:Int)*2)) τ:=fun τ=>gd (.cons .gro (.cons (.same _) .nil)) (Anh q1 (j+1) j τ (by omega))
 refine KH mixed sts 9 (vals:=[.ptr 2 p,.ptr 2 p,g0,di x,.v (lE x),di j,.v (.list [zE]),.gro q1 (j+1) 2,.ptr q1 (0+Z (j:Int)*2),.undef,.ptr 2 p,.undef]) (j':=2) (σ':=BM c (L.set p (.gro q1 (j+1) 2)) T2) (effs:=[(false,none),(false,none),(false,G 0),(false,none),(false,none),(false,none),(false,none),(true,none),(false,none),(false,none),(false,none),(true,none)]) rfl (by rfl) ?_ (by kernel_rfl) hk
 rw[Ach]
 have en:∀{a b:List D},a=b->Hh PP u6 sts 9 [] a 2 [] [] b 2:=fun h=>h▸ .nil
 have e:∀{a b:List D} {o:yy} {s s':St} {d:D},a=b->Ak PP o b s d s'->Ak PP o a s d s':=fun h k=>h▸k
 refine .quiet (d:=.ptr 2 p) (by grind[CR]) (by rfl) (fun b s _=>e (by rfl) (AqE p s)) ?_
 refine .quiet (d:=.ptr 2 p) (by grind[CR]) (by rfl) (fun b s _=>e (by rfl) (AqD p s)) ?_
 refine .quietW (d:=g0) 0 (by grind[CR]) (by rfl) (fun b k s hk0 hs=>?_) ?_
 ·have hk0:k=0:=by omega
  subst hk0
  cases b with
  |false=>simp[sts] at hs;subst hs;exact e (by rfl) h2
  |true=>grind[W1]
 refine .quiet (d:=di x) (by grind[CR]) (by rfl) (fun b s _=>e (by rfl) (AqB x s)) ?_
 refine .quiet (d:=.v (lE x)) (by grind[CR]) (by rfl) (fun b s _=>e (by rfl) (AqA x s)) ?_
 refine .quiet (d:=di j) (by grind[CR]) (by rfl) (fun b s _=>e (by kernel_rfl) (h5 s)) ?_
 refine .quiet (d:=.v (.list [zE])) (by grind[CR]) (by rfl) (fun b s _=>Anj _ s) ?_
 refine .eff (d:=.gro q1 (j+1) 2) (by grind[CR]) (by rfl) (fun b s hs _=>?_) ?_
 ·cases b with
  |false=>simp[sts] at hs;subst hs;exact⟨_,rfl,e (by kernel_rfl) h7⟩
  |true=>grind[W1]
 refine .quiet (d:=.ptr q1 (0+Z (j:Int)*2)) (by grind[CR]) (by rfl) (fun b s _=>e (by kernel_rfl) (h8 s)) ?_
 refine .free (d:=.undef) (by rfl) (by rfl) (fun k s hs=>?_) ?_
 ·match k,hs with
  |0,hs=>simp[sts] at hs;subst hs;exact⟨_,rfl,e (b:=[.ptr q1 (0+Z (j:Int)*2),.v (lE x)]) (by kernel_rfl) (AgZ (by grind))⟩
  |1,hs=>simp[sts] at hs;subst hs;exact⟨_,rfl,e (by kernel_rfl) (h9 _)⟩
  |2,hs=>simp[sts] at hs;subst hs;exact⟨_,rfl,e (by kernel_rfl) (h9 _)⟩
  |k+3,hs=>grind
 refine .quiet (d:=.ptr 2 p) (by grind[CR]) (by rfl) (fun b s _=>e (by kernel_rfl) (Ann p s)) ?_
 refine .eff (d:=.undef) (by grind[CR]) (by rfl) (fun b s hs _=>?_) (en (by kernel_rfl))
 cases b with
 |false=>simp[sts] at hs;subst hs;exact⟨_,rfl,e (by kernel_rfl) (h11 _)⟩
 |true=>simp[sts] at hs;subst hs;exact⟨_,rfl,e (by kernel_rfl) (h11 _)⟩
theorem NM:∀(l:List b9) (i:Nat) (x:b9) (s:Int),l[i]?=G x->(Ab (l.map eV)).set (i*2) (di s)=Ab ((l.set i (.mk s x.az)).map eV)
 |[],_,_,_,h=>by rfl
 |y::l,0,x,s,h=>by
  simp at h;subst h
  rw[AK,List.set_cons_zero,AK];rfl
 |y::l,i+1,x,s,h=>by
  have h':l[i]?=G x:=by grind
  rw[AK,JA,AK, ←NM l i x s h',show(i+1)*2=i*2+2 by omega]
  rfl
theorem S0:∀(l:List b9) (i:Nat) (x:b9) (ys:List b9),l[i]?=G x->(Ab (l.map eV)).set (i*2+1) (co ys)=Ab ((l.set i (.mk x.n ys)).map eV)
 |[],_,_,_,h=>by rfl
 |y::l,0,x,s,h=>by
  simp at h;subst h
  rw[AK,List.set_cons_zero,AK];rfl
 |y::l,i+1,x,s,h=>by
  have h':l[i]?=G x:=by grind
  rw[AK,JA,AK, ←S0 l i x s h',show(i+1)*2+1=(i*2+1)+2 by omega]
  rfl
theorem AcO(ws:List Int):ws.map lE=(ws.map lf).map eV:=by
 rw[List.map_map]
 rfl
def Cb(l:List b9)(s0 x:b9)(s:Int)(i:Nat)(ws:List Int):List b9:=(l.set 0 (.mk s s0.az)).set i (.mk x.n (ws.map lf))
theorem QQ{e e1 e2:List D}{σ σ1 σ2:St}(h1:Cv e σ e1 σ1)(h2:Cv e1 σ1 e2 σ2):Cv e σ e2 σ2:=fun E g a w hf=>by
 obtain⟨g1,hf1⟩:=h1 E g a w hf
 exact h2 E g1 a w hf1
theorem Po{σ:St}{p q i sz:Nat}{cs:List D}{xs:List V}(hsz:0<sz)(hp:σ.H[p]?=G (G cs))(hq:σ.H[q]?=G (G (Ab xs)))(hpq:p≠q)(hi:cs[i]?=G (.gro q (I xs) sz))(hx:∀x∈xs,x.size=sz)(e:List D):
  Cv e σ e ⟨(σ.H.set q none).set p (G (cs.set i (.v (.list xs)))),σ.own⟩:=by
 have hpl:=(HN.1 hp).1
 have hil:=(HN.1 hi).1
 have h1:Cv e σ e ⟨σ.H.set p (G (cs.set i (.arr q 0 (I xs)))),σ.own⟩:=F4 (σ:=σ) (q:=p) (cs:=cs) (cs':=cs.set i (.arr q 0 (I xs))) hp (fun g us hr=>by
  obtain⟨u,hu,hru⟩:=B7 hr hi
  have:=CB hr i (d:=.arr q 0 (I xs)) (u:=u) (DS.rep .gro hru)
  grind[D4]) (fun h c hc=>by
  grind[D.one]) e
 have h2:=BA (σ:=⟨σ.H.set p (G (cs.set i (.arr q 0 (I xs)))),σ.own⟩) (p:=p) (q:=q) (i:=i) (cs:=cs.set i (.arr q 0 (I xs))) (xs:=xs) hsz (by grind) (by grind) hpq (by grind) hx e
 grind[List.set_set,List.set_comm,Cv]
abbrev tx(c:b9)(xs:List b9)(T:List (Option (List D))):St:=⟨[G [di 0,.v .nils],G [di c.n,.arr 2 0 (I c.az)],none,G [di c.n,co xs]]++T,[]⟩
theorem WX(c:b9)(xs:List b9)(L:List D)(hL:L=Ab (xs.map eV))(hx:I xs=I c.az)(T:List (Option (List D)))(e:List D):Cv e (BM c L T) e (tx c xs T):=by
 have h:=BA (σ:=BM c L T) (p:=3) (q:=2) (i:=1) (sz:=2) (cs:=[di c.n,.arr 2 0 (I c.az)]) (xs:=xs.map eV) (by decide) rfl (by grind) (by decide) (by grind) (D3 _) e
 exact h
theorem Ais(c:b9)(xs:List b9)(L:List D)(p:Nat)(hp:p<I L)(ws:List Int)(hL:L.set p (.v (.list (ws.map lE)))=Ab (xs.map eV))(hx:I xs=I c.az)(e:List D):
  Cv e (BM c (L.set p (.gro 4 (I ws) 2)) [G (Ab (ws.map lE))]) e (tx c xs [none]):=by
 have h:=Po (σ:=BM c (L.set p (.gro 4 (I ws) 2)) [G (Ab (ws.map lE))]) (p:=2) (q:=4) (i:=p) (sz:=2) (cs:=L.set p (.gro 4 (I ws) 2)) (xs:=ws.map lE) (by decide) rfl rfl (by decide) (by grind) (fun y hy=>by obtain⟨x,_,rfl⟩:=IQ.1 hy;rfl) e
 grind[List.set_set,QQ,WX]
theorem Wm{ρ τ:Nat->Nat}:∀(L:List D) (p:Nat) (d:D),D.pls L=J->D.rens ρ τ (L.set p d)=L.set p (d.ren ρ τ)
 |[],_,_,_=>by rfl
 |x::L,0,d,h=>by
  grind[D.pls,D.rens,AA]
 |x::L,p+1,d,h=>by
  simp only[D.pls,HL] at h
  rw[JA,D.rens,Wm L p d h.2,AbD x h.1,JA]
theorem W2{n:Nat}{ts:List Nat}:∀(L:List D) (p:Nat) (d:D),D.pls L=J->d.okN n ts=J->D.okNs n ts (L.set p d)=J
 |[],_,_,_,_=>by rfl
 |x::L,0,d,h,hd=>by
  grind[D.pls,D.okNs,AO]
 |x::L,p+1,d,h,hd=>by
  simp only[D.pls,HL] at h
  rw[JA,D.okNs,Acw x h.1,W2 L p d h.2 hd];rfl
noncomputable abbrev we(p:Nat)(ws:List Int)(k:Nat):List D:=cz 46 [(8,.ptr 0 0),(9,.ptr 3 0),(10,.ptr 2 p),(28,cw ws),(29,di (I ws)),(30,di k)]
theorem Aag{R:List D->St->Prop}{ks:List KI}(c:b9)(L F:List D)(hL:D.pls L=J)(hF:D.pls F=J)(p n:Nat)(ws:List Int)(k:Nat)
  (h:A5 (CN 0) PP R ks (we p ws k) (BM c (L.set p (.gro 4 n 2)) [G F])):A5 (CN 0) PP R ks (we p ws k) (BM c (L.set p (.gro 5 n 2)) [none,G F]):=by
 refine Cq (σ:=BM c (L.set p (.gro 5 n 2)) [none,G F]) (e':=we p ws k) (H':=(BM c (L.set p (.gro 4 n 2)) [G F]).H) (m:=0) (fun _ _ h=>h.2) (fun i=>if i<4 then i else i+1) (II _) (fun i hi=>by omega) (fun i j _ _ h=>?_) (fun i cs hi=>?_) ?_ ?_ h
 ·grind
 ·match i,hi with
  |0,hi=>simp at hi;subst hi;exact⟨rfl,rfl⟩
  |1,hi=>simp at hi;subst hi;exact⟨rfl,rfl⟩
  |2,hi=>
   simp at hi;subst hi
   refine⟨?_,W2 L p _ hL rfl⟩
   rw[Wm L p _ hL];rfl
  |3,hi=>simp at hi;subst hi;exact⟨rfl,rfl⟩
  |4,hi=>
   grind[AO,AA]
  |i+5,hi=>grind
 all_goals rfl
theorem Rw(d:D)(σ':St)(c:b9)(L:List D)(T:List (Option (List D)))(p:Nat)(ws:List Int)(x:Int)(k:Nat)(hk:k<=1000)(d36 d39 d41 d42:D)
  (h:Rn PP Mk 0 d σ' [zu Mk 1012,.blk 0,zt Mk 127] (we p ws (k+1)) (BM c L T)):
  Rn PP Mk 0 d σ' [.blk 1,zt Mk 8103,zu Mk 1012,.blk 0,zt Mk 127] (cz 46 [(8,.ptr 0 0),(9,.ptr 3 0),(10,.ptr 2 p),(12,di x),(28,cw ws),(29,di (I ws)),(30,di k),(34,.ptr 2 p),(35,.ptr 2 p),(36,d36),(37,di x),(38,.v (lE x)),(39,d39),(40,.v (.list [zE])),(41,d41),(42,d42),(43,.ptr 2 p)]) (BM c L T):=by
 have h0:Rn PP Mk 0 d σ' ([.blk 1,zt Mk 8103,zu Mk 1012,.blk 0,zt Mk 127]++[]) (cz 46 [(8,.ptr 0 0),(9,.ptr 3 0),(10,.ptr 2 p),(12,di x),(28,cw ws),(29,di (I ws)),(30,di k)]) (BM c L T):=by
  refine Aiw mixed 46 [4] (.l [ke 8,ke 9,ke 10,ke 28,ke 29,ch 30 (zw k)]) ?_
  refine fu (by kernel_rfl:(di (yu yt ((k:Int)+1))=zw k/\I0 Mk 0 d σ' [kl BG mr,bh 0,kc BG mu] (cz 46 [(8,bq 0 0),(9,bq 3 0),(10,bq 2 p),(28,cw ws),(29,di (I ws:Int)),(30,zw k)]) (BM c L T))=_) ?_
  exact⟨Ac,⟨h⟩⟩
 refine U0 (L:=[(8,.ptr 0 0),(9,.ptr 3 0),(10,.ptr 2 p),(12,di x),(28,cw ws),(29,di (I ws)),(30,di k)]) (L2:=[(34,.ptr 2 p),(35,.ptr 2 p),(36,d36),(37,di x),(38,.v (lE x)),(39,d39),(40,.v (.list [zE])),(41,d41),(42,d42),(43,.ptr 2 p)]) (fun q hq=>?_) h0
 simp only[IN,JE,or_false] at hq
 rcases hq with rfl|rfl|rfl|rfl|rfl|rfl|rfl|rfl|rfl|rfl<;>simp[cz]
theorem Va(l:List Int):I (Ab (l.map lE))=I l*2:=by grind[AcO,B1]
noncomputable abbrev xi:=[zt Mk 32409,bh 1,zt Mk 8103,zu Mk 1012,bh 0,zt Mk 127]
noncomputable abbrev xu:=(AR (sub BG [1,1,1,1,1,0,1,0,0,1,1,0,0,0]))
theorem Aah(c:b9)(xs:List b9)(L:List D)(hpl:D.pls L=J)(p:Nat)(hp:p<I L)(ws:List Int)(hw:I ws<=900)(hL:L.set p (.v (.list (ws.map lE)))=Ab (xs.map eV))(hx:I xs=I c.az)(n:Nat):∀k:Nat,I ws- (k+1)=n->k<I ws->
  Rn PP Mk 0 (dV (.mk c.n xs)) bd ([zu Mk 1012,.blk 0,zt Mk 127]++[]) (cz 46 [(8,.ptr 0 0),(9,.ptr 3 0),(10,.ptr 2 p),(28,cw ws),(29,di (I ws)),(30,zw k)]) (BM c (L.set p (.gro 4 (k+1) 2)) [G (Ab ((ws.take (k+1)).map lE))]):=by
 induction n with
 |zero=>
  intro k hn hk
  refine zo [4] (.f<|.h (.q 10 0)<|.h (.cs (tx c xs [none])) .r) (yd ↑(k+1) (I ws)/\(∀(e:List D) (E:c9) (g:Gh) (a:Act) (w:x5),FI E g (bi [G [di 0,dn],G [di c.n,bo 2 0 (I c.az)],G (List.set L p (bm 4 (k+1) 2)),G [di c.n,bo 2 0 (I c.az)],G (Ab (U lE (take (k+1) ws)))] []) e a w->∃g',FI E g' (tx c xs [none]) e a w)/\Q (dV (b9.mk c.n xs))) ?_
  have e:k+1=I ws:=by omega
  rw[e,IB (HR _)]
  exact⟨yq,fun e=>Ais c xs L p hp ws hL hx e,rfl⟩
 |succ n ih=>
  intro k hn hk
  obtain⟨x,hx1⟩:=yk (show k+1<I ws by omega)
  refine zo [4] (.t<|.x (vi x)<|.h (.q 7 2)<|.h (.s [ke 8,ke 9,ke 10,ke 28,ke 29,ke 30,ke 33]) .z) (ye ↑(k+1) (I ws)/\y6 ↑(k+1)/\zy (U vi ws) ↑(k+1) (vi x)/\Nv.It (BS (CN 0) PP (fun env σ1=>A7 PP Mk env σ1 (dV (b9.mk c.n xs)) bd) xi xu (W 2 xu.toList) (cz 46 [(8,bq 0 0),(9,bq 3 0),(10,bq 2 p),(28,cw ws),(29,di (I ws:Int)),(30,zw k),(33,di x)]) (BM c (List.set L p (bm 4 (k+1) 2)) [G (Ab (U lE (take (k+1) ws)))]))) ⟨yr,by omega,Ae hx1,⟨?_⟩⟩
  refine Qj (ks:=[]) (T:=[zt Mk 32409,.blk 1,zt Mk 8103,zu Mk 1012,.blk 0,zt Mk 127]) mixed (NA 0) 0 (fun _ _ h=>h.2) 46 [4] 7 2 (.l [ke 8,ke 9,ke 10,ch 12 (di x),ke 28,ke 29,ke 30]) ?_
  refine fu (by kernel_rfl:(Q (di x)/\I0 Mk 0 (dV (b9.mk c.n xs)) bd xi (cz 46 [(8,bq 0 0),(9,bq 3 0),(10,bq 2 p),(12,di x),(28,cw ws),(29,di (I ws:Int)),(30,zw k)]) (BM c (List.set L p (bm 4 (k+1) 2)) [G (Ab (U lE (take (k+1) ws)))]))=_) ?_
  have hk1:=(HN.1 hx1).1
  have ht:(ws.take (k+1+1)).map lE=(ws.take (k+1)).map lE++[lE x]:=by rw[J2 (i:=k+1),hx1];simp
  have hfl:I (Ab ((ws.take (k+1)).map lE))=(k+1)*2:=by grind[Va,List.length_take]
  have hih:=ih (k+1) (by omega) hk1
  have hF:(Ab ((ws.take (k+1)).map lE)++[di 0,.v .nils]).take (0+Z ((k+1:Nat):Int)*2)++[di x,.v (.list [])]++(Ab ((ws.take (k+1)).map lE)++[di 0,.v .nils]).drop (0+Z ((k+1:Nat):Int)*2+2)=Ab ((ws.take (k+1+1)).map lE):=by
   rw[show 0+Z ((k+1:Nat):Int)*2=(k+1)*2 by omega,List.take_left' hfl,I3 (by simp_all),IX,ht]
   simp only[Ab,List.flatMap_append,J5];rfl
  refine⟨rfl,⟨V8 c p L hp x (k+1) (.gro 4 (k+1) 2) [G (Ab ((ws.take (k+1)).map lE))] _ _ 5 (by simp) ws (k+1:Nat) (fun τ=>gd (.cons .gro .nil) (Anl 4 (k+1) τ)) (Aq8 c _ _ (k+1) (by omega) hfl) (fun M=>Aq7 c M _ _ x (by simp_all)) ?_⟩⟩
  refine Rw _ _ c _ _ p ws x (k+1) (by omega) _ _ _ _ ?_
  rw[hF]
  exact Aag c L _ hpl (A9 _) p (k+1+1) ws (k+1+1) hih
theorem Za{σ:St}{q i:Nat}{cs:List D}(hq:σ.H[q]?=G (G cs))(hi:cs[i]?=G (.v .nils))(e:List D):Cv e σ e ⟨σ.H.set q (G (cs.set i (.v (.list [])))),σ.own⟩:=
 F4 (σ:=σ) (q:=q) (cs:=cs) (cs':=cs.set i (.v (.list []))) hq (fun g us hr=>by
  obtain⟨u,hu,hru⟩:=B7 hr hi
  have:=CB hr i (d:=.v (.list [])) (u:=u) (FZ hru)
  grind[D4]) (fun h c hc=>by
  rcases Jv hc with h2|h2
  ·grind
  ·rw[h2];rfl) e
theorem ME{l:List b9}{s0 x:b9}{k:Nat}(h0:l[0]?=G s0)(hx:l[1+k]?=G x)(s:Int)(ws:List Int):
  ((Ab (l.map eV)).set 0 (di s)).set ((1+k)*2+1) (.v (.list (ws.map lE)))=Ab ((Cb l s0 x s (1+k) ws).map eV):=by
 have h1:=NM l 0 s0 s h0
 rw[h1,AcO]
 exact S0 _ (1+k) x _ (by rw[List.getElem?_set_ne (by omega)];exact hx)
theorem Acq(c:b9)(hn:c.az≠ [])(hc:c.size<=1000){o:yy}{cl:Call}{fo:x8}(ho:o.op=.call cl)(hc2:cl.callee=.value fo):Ak PP o [.v (.fn 228 [] []),dV c] ⟨[G [di 0,.v .nils]],[]⟩ (.dagg [di c.n,.arr 2 0 (I c.az)]) ⟨[G [di 0,.v .nils],G [di c.n,.arr 2 0 (I c.az)],G (Ab (c.az.map eV))],[]⟩:=by
 have h:=BE (σ:=⟨[G [di 0,.v .nils]],[]⟩) ho hc2 (fD:=.v (.fn 228 [] [])) rfl (ds:=[dV c]) [] id (Aef c hn (by omega)) (.cons (.ren (dc:=dV c) rfl) .nil) .nil (by simp) rfl (by simp) (by simp) (by rfl) (by simp[cp,D.okN,D.okNs,Am])
 have e1:D.rens (d6 1 []) id (Ab (c.az.map eV))=Ab (c.az.map eV):=AA (A9 _)
 simpa[Dn,CG,E5,D.ren,D.rens,d6,e1] using h
noncomputable abbrev ur:=fun a₀ b₀=>(bi [G [di 0,dn],G [di a₀,bo 2 0 (I b₀)],G (ec b₀)] [])
theorem Rx(c:b9)(hc:c.size<=1000)(s0 x:b9)(k:Nat)(h0:c.az[0]?=G s0)(hx:c.az[1+k]?=G x)(s:Int)(ws:List Int)(hw:I ws<=900):
  F0 172 [dV c,di s,di k,cw ws] (dV (.mk c.n (Cb c.az s0 x s (1+k) ws))):=by
 have hk:=(HN.1 hx).1
 have hkl:=b9.length_le c.az
 have hks:=c.size_eq
 have hww:yt.wrap (1+(k:Int))=((1+k:Nat):Int):=by rw[An];omega
 have hfl:I (Ab (c.az.map eV))=I c.az*2:=B1 _
 have hp0:Nat.add (0+Z ((1+k:Nat):Int)*2) 1=(1+k)*2+1:=by show 0+Z ((1+k:Nat):Int)*2+1=_;omega
 have hne:c.az≠ []:=by intro e;rw[e] at h0;simp at h0
 have hxl:I (Cb c.az s0 x s (1+k) ws)=I c.az:=by simp[Cb]
 have hcl:=ME h0 hx s ws
 cases ws with
 |nil=>
  refine sv Mk 46 [4] (.h (.oc (.dagg [di c.n,.arr 2 0 (I c.az)]) ⟨[G [di 0,.v .nils],G [di c.n,.arr 2 0 (I c.az)],G (Ab (c.az.map eV))],[]⟩)<|.h (.q 2 5)<|.w<|.h (.q 4 2)<|.w<|.n<|.f<|.h (.q 10 0)<|.h (.cs (tx c (Cb c.az s0 x s (1+k) []) [])) .r) ((N0 [bt (bw 228 [] []),dV c] uz (bj [di c.n,bo 2 0 (I c.az)]) (ur c.n c.az))/\iz 0<=0/\y5 0 (I c.az)/\0<I (ec c.az)/\0<=yu yt (1+(k:Int))/\yu yt (1+(k:Int))<(I c.az:Int)/\Nat.add (0+Z (yu yt (1+(k:Int)))*2) 1<I (List.set (ec c.az) (Nat.add (0+Z 0*2) 0) (di s))/\yd 0 (I (U vi []))/\(∀(e:List D) (E:c9) (g:Gh) (a:Act) (w:x5),FI E g (bi [G [di 0,dn],G [di c.n,bo 2 0 (I c.az)],G (List.set (List.set (ec c.az) (Nat.add (0+Z 0*2) 0) (di s)) (Nat.add (0+Z (yu yt (1+(k:Int)))*2) 1) (m8 [dV c,di s,di (k:Int),cw [],bt (jk c),bk,bk,bk,bq (I bd.H) 0,bq (I (ur c.n c.az).H) 0,bq 2 (Nat.add (0+Z (yu yt (1+(k:Int)))*2) 1),bk,bk,dV c,bj [di c.n,bo 2 0 (I c.az)],bq (I (ur c.n c.az).H) (Nat.add 0 1),bo 2 0 (I c.az),di s,bq 2 (0+Z 0*2),bq 2 (Nat.add (0+Z 0*2) 0),bq (I (ur c.n c.az).H) (Nat.add 0 1),bo 2 0 (I c.az),di (k:Int),bt (a8 yt (yu yt (1+(k:Int)))),bq 2 (0+Z (yu yt (1+(k:Int)))*2),bq 2 (Nat.add (0+Z (yu yt (1+(k:Int)))*2) 1),bq 2 (Nat.add (0+Z (yu yt (1+(k:Int)))*2) 1),bq 2 (Nat.add (0+Z (yu yt (1+(k:Int)))*2) 1),bk,bk,bk,bk,bk,bk,bk,bk,bk,bk,bk,bk,bk,bk,bk,bk,bk,bk] (Operand.const (Value.slice none 0 0)))),G [di c.n,bo 2 0 (I c.az)]] []) e a w->∃g',FI E g' (tx c (Cb c.az s0 x s (1+k) []) []) e a w)/\Q (dV (b9.mk c.n (Cb c.az s0 x s (1+k) [])))) ?_
  rw[hww,hp0]
  refine⟨fun o cl fo ho hc2=>Acq c hne hc ho hc2,IA _,by omega,by rw[hfl];omega,by omega,by omega,by rw[length_set,hfl];omega,rfl,fun e=>?_,rfl⟩
  refine QQ (Za (σ:=BM c (((Ab (c.az.map eV)).set 0 (di s)).set ((1+k)*2+1) (.v .nils)) []) (q:=2) (i:=(1+k)*2+1) rfl (by rw[List.getElem?_set_self (by rw[length_set,hfl];omega)]) e) ?_
  rw[List.set_set]
  exact WX c _ _ hcl hxl [] e
 |cons y ws=>
  refine sv Mk 46 [4] (.h (.oc (.dagg [di c.n,.arr 2 0 (I c.az)]) ⟨[G [di 0,.v .nils],G [di c.n,.arr 2 0 (I c.az)],G (Ab (c.az.map eV))],[]⟩)<|.h (.q 2 5)<|.w<|.h (.q 4 2)<|.w<|.n<|.t<|.x (vi y)<|.h (.q 7 2)<|.h (.s [ke 8,ke 9,ke 10,ke 28,ke 29,ke 30,ke 33]) .z) ((N0 [bt (bw 228 [] []),dV c] uz (bj [di c.n,bo 2 0 (I c.az)]) (ur c.n c.az))/\iz 0<=0/\y5 0 (I c.az)/\0<I (ec c.az)/\0<=yu yt (1+(k:Int))/\yu yt (1+(k:Int))<(I c.az:Int)/\Nat.add (0+Z (yu yt (1+(k:Int)))*2) 1<I (List.set (ec c.az) (Nat.add (0+Z 0*2) 0) (di s))/\ye 0 (I (U vi (y::ws)))/\iz 0<=0/\Q (G (vi y))/\Nv.It (BS (CN (I bd.H)) PP (fun env σ1=>A7 PP Mk env σ1 (dV (b9.mk c.n (Cb c.az s0 x s (1+k) (y::ws)))) bd) xi xu (W 2 xu.toList) (cz 46 [(8,bq 0 0),(9,bq 3 0),(10,bq 2 (Nat.add (0+Z (yu yt (1+(k:Int)))*2) 1)),(28,cw (y::ws)),(29,di (I (U vi (y::ws)):Int)),(30,di 0),(33,di y)]) (bi [G [di 0,dn],G [di c.n,bo 2 0 (I c.az)],G (List.set (List.set (ec c.az) (Nat.add (0+Z 0*2) 0) (di s)) (Nat.add (0+Z (yu yt (1+(k:Int)))*2) 1) (dn)),G [di c.n,bo 2 0 (I c.az)]] []))) ?_
  rw[hww,hp0]
  refine⟨fun o cl fo ho hc2=>Acq c hne hc ho hc2,IA _,by omega,by rw[hfl];omega,by omega,by omega,by rw[length_set,hfl];omega,HM (by simp only[HJ,HP];omega),IA _,rfl,⟨?_⟩⟩
  obtain⟨L,hL⟩:∃L,L=(Ab (c.az.map eV)).set 0 (di s):=⟨_,rfl⟩
  rw[←hL] at hcl
  have hpl:D.pls L=J:=by
   rw[hL]
   have h1:=NM c.az 0 s0 s h0
   rw[Nat.zero_mul] at h1
   rw[h1];exact A9 _
  have hpL:(1+k)*2+1<I L:=by rw[hL,length_set,hfl];omega
  have hlp:=Aah c _ L hpl ((1+k)*2+1) hpL (y::ws) hw hcl hxl _ 0 rfl (by simp)
  have hst:bi [G [di 0,bt bv],G [di c.n,bo 2 0 (I c.az)],G (((Ab (c.az.map eV)).set (Nat.add (0+Z 0*2) 0) (di s)).set ((1+k)*2+1) (bt bv)),G [di c.n,bo 2 0 (I c.az)]] []=BM c (L.set ((1+k)*2+1) (.v .nils)) []:=by rw[hL];rfl
  rw[hst]
  refine Qj (ks:=[]) (T:=[zt Mk 32409,.blk 1,zt Mk 8103,zu Mk 1012,.blk 0,zt Mk 127]) mixed (NA 0) 0 (fun _ _ h=>h.2) 46 [4] 7 2 (.l [ke 8,ke 9,ke 10,ch 12 (di y),ke 28,ch 29 (di (I (y::ws))),ch 30 (di (0:Nat))]) ?_
  refine fu (by kernel_rfl:(Q (di y)/\di (I (U vi (y::ws)):Int)=di (I (y::ws):Int)/\di 0=di (↑0:Int)/\I0 Mk 0 (dV (b9.mk c.n (Cb c.az s0 x s (1+k) (y::ws)))) bd xi (cz 46 [(8,bq 0 0),(9,bq 3 0),(10,bq 2 ((1+k)*2+1)),(12,di y),(28,bt (cy (y::ws))),(29,di (I (y::ws):Int)),(30,di (↑0:Int))]) (BM c (List.set L ((1+k)*2+1) (dn)) []))=_) ?_
  refine⟨rfl,by rw[HJ],rfl,⟨V8 c ((1+k)*2+1) L hpL y 0 (.v .nils) [] [G [di 0,.v .nils]] [G [di y,.v (.list [])]] 4 (by simp) (y::ws) (0:Nat) (fun τ=>Ank τ) (Ani c _) (fun M=>Ang c M y) ?_⟩⟩
  exact Rw _ _ c _ _ ((1+k)*2+1) (y::ws) y 0 (by omega) _ _ _ _ hlp
theorem MS:∀(l:List b9) (i:Nat) (x y:b9),l[i]?=G x->b9.sizes (l.set i y)+x.size=b9.sizes l+y.size
 |[],_,_,_,h=>by grind
 |z::l,0,x,y,h=>by
  grind[b9.sizes]
 |z::l,i+1,x,y,h=>by
  have:=MS l i x y (by grind)
  grind[b9.sizes]
theorem Agr(ws:List Int):b9.sizes (ws.map lf)=I ws:=KG ws
theorem Lx{l:List b9}{s0 x:b9}{k:Nat}(h0:l[0]?=G s0)(hx:l[1+k]?=G x)(s:Int)(ws:List Int)(n:Int):(b9.mk n (Cb l s0 x s (1+k) ws)).size<=1+b9.sizes l+I ws+1:=by
 have h1:=MS l 0 s0 (.mk s s0.az) h0
 have h2:=MS (l.set 0 (.mk s s0.az)) (1+k) x (.mk x.n (ws.map lf)) (by grind)
 have h3:(b9.mk n (Cb l s0 x s (1+k) ws)).size=1+b9.sizes ((l.set 0 (.mk s s0.az)).set (1+k) (.mk x.n (ws.map lf))):=by rfl
 have h4:(b9.mk s s0.az).size=1+b9.sizes s0.az:=by rfl
 have h5:(b9.mk x.n (ws.map lf)).size=1+b9.sizes (ws.map lf):=by rfl
 have h6:=s0.size_eq
 grind[Agr]
abbrev e8:b9:=.mk 0 []
def Lt(c:b9)(k:Nat)(s:Int)(w:List Int):b9:=.mk c.n (Cb c.az (c.az.getD 0 e8) (c.az.getD (1+k) e8) s (1+k) w)
def Asd(r:cm)(c:b9):Bool:=((c.az.getD 0 e8).n==r.ai)&&((r.act !=2)||(AY (c.az.getD (1+r.chan.toNat) e8)).head?==G r.letter)
def ZS(t:cr)(r:cm)(c:b9):b9×Int:=
 if Al t c=J then
  if Asd r c=J then
   if (r.act==1)=J then
    if ((I (AY (c.az.getD (1+r.chan.toNat) e8)):Int)==12)=J then(e8,1) else(Lt c r.chan.toNat r.to (AY (c.az.getD (1+r.chan.toNat) e8)++[r.letter]),0)
   else if (r.act==2)=J then(Lt c r.chan.toNat r.to ((AY (c.az.getD (1+r.chan.toNat) e8)).drop 1),0) else(Lt c r.chan.toNat r.to (AY (c.az.getD (1+r.chan.toNat) e8)),0)
  else(e8,18)
 else(e8,17)
theorem Tc{c s0 x:b9}{k:Nat}(h0:c.az[0]?=G s0)(hx:c.az[1+k]?=G x)(s:Int)(w:List Int):Lt c k s w=.mk c.n (Cb c.az s0 x s (1+k) w):=by
 grind[Lt]
theorem Xn(m:cx)(t:cr)(hm:oa m t)(i:Nat)(r:cm)(hi:m.av[i]?=G r)(c:b9)(hs:c.size<=1000):(ZS t r c).1.size<=1000/\F0 111 [Af m,di i,dV c] (dP (ZS t r c)):=by
 have hir:=(HN.1 hi).1
 have hat:=AiH m t hm i hir c (by omega)
 have hfew:=hm.few
 rw[pr] at hat
 unfold ZS
 by_cases hv:Al t c=J
 ·rw[I4 hv] at hat
  rw[I4 hv]
  have hsh:=hm.shape c hv
  have hrc:=hm.rule r (HQ hi)
  obtain⟨k,hk⟩:∃k:Nat,r.chan=k:=⟨r.chan.toNat,by omega⟩
  obtain⟨s0,h0⟩:∃x,c.az[0]?=G x:=⟨_,HK (by rw[hsh.len];omega)⟩
  obtain⟨x,hx⟩:∃x,c.az[1+k]?=G x:=⟨_,HK (by rw[hsh.len];omega)⟩
  have hx12:=hsh.word k x hx
  have hkl:I c.az<=1000000:=by rw[hsh.len];omega
  have hen:=Ae2 r c k hk s0 x h0 hx hkl (by omega)
  have hct:=Pp c k x hx hkl (by omega)
  have hwi:=fun ws hw=>Rx c hs s0 x k h0 hx r.to ws hw
  have hsz:=fun ws=>Lx h0 hx r.to ws c.n
  have hcs:=c.size_eq
  have h128:=hsh.size
  rw[←hk] at hct hwi
  have hnl:I (AY x)<=12:=by grind
  have ek:r.chan.toNat=k:=by omega
  have e0:c.az.getD 0 e8=s0:=by grind
  have ex:c.az.getD (1+k) e8=x:=by grind
  unfold Asd
  rw[ek,e0,ex]
  simp only[Tc h0 hx]
  cases hb:((s0.n==r.ai)&&((r.act !=2)||(AY x).head?==G r.letter)) with
  |false=>
   rw[hb] at hen
   rw[Iz (by decide)]
   refine⟨by decide,?_⟩
   exact sv YM 57 [3,5] (.c (di 0)<|.k<|.x (Aj r)<|.c (db O) .r) (_/\y6 i/\zy (U Aj m.av) i (Aj r)/\_/\Q (dP (e8,18))) ⟨hat,by omega,Ae hi,hen,rfl⟩
  |true=>
   rw[hb] at hen
   by_cases h1:(r.act==1)=J
   ·rw[I4 h1]
    by_cases h2:((I (AY x):Int)==12)=J
    ·rw[I4 h2]
     refine⟨by decide,?_⟩
     exact sv YM 57 [3,5] (.c (di 0)<|.k<|.x (Aj r)<|.c (db J)<|.k<|.h (.ck 1 1 1 ((AY x).map vi))<|.t<|.t .r) (_/\y6 i/\zy (U Aj m.av) i (Aj r)/\_/\_/\_/\((I (U vi (AY x)):Int)==12)=J/\Q (dP (e8,1))) ⟨hat,by omega,Ae hi,hen,hct,h1,by rw[HJ];exact h2,rfl⟩
    ·rw[Iz h2]
     refine⟨?_,?_⟩
     ·have:=hsz (AY x++[r.letter])
      simp only[HY,HP,HT] at this
      show(b9.mk c.n (Cb c.az s0 x r.to (1+k) (AY x++[r.letter]))).size<=1000
      omega
     ·refine sv YM 57 [3,5] (.c (di 0)<|.k<|.x (Aj r)<|.c (db J)<|.k<|.h (.ck 1 1 1 ((AY x).map vi))<|.t<|.f<|.c (dV (.mk c.n (Cb c.az s0 x r.to (1+k) (AY x++[r.letter])))) .r) (type_of% hat/\y6 i/\zy (U Aj m.av) i (Aj r)/\type_of% hen/\type_of% hct/\(r.act==1)=J/\((I (U vi (AY x)):Int)==12)=O/\Q (U vi (AY x))/\Ao (I (U vi (AY x))+I (vi r.letter::nV)) 8/\F0 172 [dV c,di r.to,di r.chan,bt (ae (U vi (AY x)++[vi r.letter]))] (dV (b9.mk c.n (Cb c.az s0 x r.to (1+k) (AY x++[r.letter]))))/\Q (dP (b9.mk c.n (Cb c.az s0 x r.to (1+k) (AY x++[r.letter])),0))) ?_
      have hw:=hwi (AY x++[r.letter]) (by simp only[HY,HP,HT];omega)
      have e:(AY x).map vi++[vi r.letter]=(AY x++[r.letter]).map vi:=by simp
      rw[e]
      exact⟨hat,by omega,Ae hi,hen,hct,h1,by rw[HJ];exact HW h2,rfl,⟨by simp only[HJ,HP,HT] at*;omega,by simp only[HJ,HP,HT] at*;omega⟩,hw,rfl⟩
   ·rw[Iz h1]
    by_cases h2:(r.act==2)=J
    ·rw[I4 h2]
     have hn:1<=I (AY x):=by
      cases hn:AY x with
      |nil=>rw[hn] at hb;simp_all
      |cons y ys=>simp
     obtain⟨W,hW⟩:∃W,W=AY x:=⟨_,rfl⟩
     rw[←hW] at hct hn hnl⊢
     refine⟨?_,?_⟩
     ·have:=hsz (W.drop 1)
      rw[Jw] at this
      show(b9.mk c.n (Cb c.az s0 x r.to (1+k) (W.drop 1))).size<=1000
      omega
     ·refine sv YM 57 [3,5] (.c (di 0)<|.k<|.x (Aj r)<|.c (db J)<|.k<|.h (.ck 1 1 1 (W.map vi))<|.f<|.t<|.c (dV (.mk c.n (Cb c.az s0 x r.to (1+k) (W.drop 1)))) .r) (type_of% hat/\y6 i/\zy (U Aj m.av) i (Aj r)/\type_of% hen/\type_of% hct/\(r.act==1)=O/\(r.act==2)=J/\(∀(x:V),x∈U vi W->V.size x=1)/\y6 1/\(1:Int)<=(I (U vi W):Int)/\F0 172 [dV c,di r.to,di r.chan,bt (ae (List.drop (Z ((1:Int))) (take (I (U vi W)) (U vi W))))] (dV (b9.mk c.n (Cb c.az s0 x r.to (1+k) (List.drop 1 W))))/\Q (dP (b9.mk c.n (Cb c.az s0 x r.to (1+k) (List.drop 1 W)),0))) ?_
      have e:List.drop (Z (1:Int)) (take (I (W.map vi)) (W.map vi))=(W.drop 1).map vi:=by rw[IB (HR _),List.map_drop];rfl
      rw[e]
      exact⟨hat,by omega,Ae hi,hen,hct,HW h1,h2,fun y hy=>by obtain⟨z,_,rfl⟩:=IQ.1 hy;rfl,by omega,by rw[HJ];omega,hwi (W.drop 1) (by rw[Jw];omega),rfl⟩
    ·rw[Iz h2]
     refine⟨?_,?_⟩
     ·have:=hsz (AY x)
      show(b9.mk c.n (Cb c.az s0 x r.to (1+k) (AY x))).size<=1000
      omega
     ·exact sv YM 57 [3,5] (.c (di 0)<|.k<|.x (Aj r)<|.c (db J)<|.k<|.h (.ck 1 1 1 ((AY x).map vi))<|.f<|.f<|.c (dV (.mk c.n (Cb c.az s0 x r.to (1+k) (AY x)))) .r) (_/\y6 i/\zy (U Aj m.av) i (Aj r)/\_/\_/\(r.act==1)=O/\(r.act==2)=O/\_/\Q (dP (b9.mk c.n (Cb c.az s0 x r.to (1+k) (AY x)),0))) ⟨hat,by omega,Ae hi,hen,hct,HW h1,HW h2,hwi (AY x) (by omega),rfl⟩
 ·rw[Iz hv] at hat
  rw[Iz hv]
  refine⟨by decide,?_⟩
  exact sv YM 57 [3,5] (.c (di 17) .r) (_/\Q (dP (e8,17))) ⟨hat,rfl⟩
section
variable {α : Type} {c : α -> α -> Int}
abbrev ln:α->Prop:=fun _=>True
abbrev ko(c:α->α->Int)(l:List α):Prop:=l.Pairwise fun a b=>c a b<0
theorem AeF(h:jr c ln)(x:α):¬c x x<0:=by rw[h.refl x trivial];omega
theorem ApV(h:jr c ln){x y:α}(h1:c x y<0):¬c y x<0:=fun h2=>AeF h x (h.trans x y x trivial trivial trivial h1 h2)
theorem Oo(h:jr c ln){l:List α}(ha:ko c l):l.Nodup:=ha.imp fun{a b} hab e=>by subst e;exact AeF h a hab
theorem V1(h:jr c ln){l k:List α}(ha:ko c l)(hb:ko c k)(hm:∀x,x∈l↔x∈k):l=k:=
 List.Perm.eq_of_pairwise (fun _ _ _ _ h1 h2=>absurd h2 (ApV h h1)) ha hb ((List.perm_ext_iff_of_nodup (Oo h ha) (Oo h hb)).2 hm)
theorem AeE(h:jr c ln){k:List α}(hs:k.Pairwise fun a b=>c a b<=0)(hn:k.Nodup):ko c k:=
 (hs.and hn).imp fun{a b} hab=>by
  have:=h.eq a b trivial trivial
  grind
def Cp(q:α->α->Bool):α->List α->List α
 |_,[]=>[]
 |p,x::r=>if q x p=J then Cp q x r else x::Cp q x r
def AT(q:α->α->Bool):List α->List α
 |[]=>[]
 |x::r=>x::Cp q x r
theorem LP(q:α->α->Bool):∀(l:List α) (p x:α),x∈Cp q p l->x∈l
 |[],_,_,h=>by grind[Cp]
 |y::l,p,x,h=>by
  unfold Cp at h
  split at h
  ·exact List.mem_cons_of_mem _ (LP q l y x h)
  ·rcases IN.1 h with rfl|h
   ·simp
   ·exact List.mem_cons_of_mem _ (LP q l y x h)
theorem d8{l:List α}{i:Nat}{x:α}(h:l[i]?=G x):l.drop i=x::l.drop (i+1):=by
 grind[List.drop_eq_getElem_cons]
theorem KF{l:List α}{k:Nat}{x:α}(h:k<I l):(l.set k x).take (k+1)=l.take k++[x]:=by
 grind[List.take_add_one,List.take_set_of_le]
theorem Lr(q:α->α->Bool){l:List α}(h:I l<2):AT q l=l:=by
 match l,h with
 |[],_=>rfl
 |[_],_=>rfl
theorem Oc{q:α->α->Bool}{l:List α}{p:α}(h:l[1-1]?=G p):l.take 1++Cp q p (l.drop 1)=AT q l:=by
 cases l<;>grind[AT]
theorem Vp{q:α->α->Bool}{l:List α}{x:α}(h:x∈AT q l):x∈l:=by
 cases l<;>grind[AT,LP]
theorem Ps(q:α->α->Bool):∀(l:List α) (p:α),I (Cp q p l)<=I l
 |[],_=>HR _
 |y::l,p=>by
  have:=Ps q l y
  grind[Cp]
theorem Od(q:α->α->Bool)(l:List α):I (AT q l)<=I l:=by
 cases l<;>grind[Ps,AT]
theorem Pt(h:jr c ln){q:α->α->Bool}(hq:∀x y,q x y=J↔x=y):∀(l:List α) (p:α),(p::l).Pairwise (fun a b=>c a b<=0)->ko c (p::Cp q p l)/\∀x,(x=p∨x∈Cp q p l)↔(x=p∨x∈l)
 |[],p,_=>⟨by simp[Cp],fun x=>by rfl⟩
 |y::l,p,hs=>by
  have hp:=pairwise_cons.1 hs
  obtain⟨a1,a2⟩:=Pt h hq l y hp.2
  unfold Cp
  by_cases e:y=p
  ·grind
  ·rw[Iz (fun he=>e ((hq y p).1 he))]
   have h1:c p y<0:=by
    rcases Int.lt_or_eq_of_le (hp.1 y (by simp)) with h1|h1
    ·exact h1
    ·exact absurd (h.eq p y trivial trivial h1).symm e
   refine⟨pairwise_cons.2 ⟨fun b hb=>?_,a1⟩,fun x=>?_⟩
   ·rcases IN.1 hb with rfl|hb
    ·exact h1
    ·exact h.trans p y b trivial trivial trivial h1 ((pairwise_cons.1 a1).1 b hb)
   grind
theorem Oe(h:jr c ln){q:α->α->Bool}(hq:∀x y,q x y=J↔x=y){l:List α}(hs:l.Pairwise fun a b=>c a b<=0):ko c (AT q l)/\∀x,x∈AT q l↔x∈l:=by
 cases l with
 |nil=>exact⟨.nil,fun x=>Iff.rfl⟩
 |cons p l=>
  grind[Pt,AT]
def Dg(c:α->α->Int):List α->α->List α
 |[],v=>[v]
 |x::l,v=>if c x v<0 then x::Dg c l v else if c x v=0 then x::l else v::x::l
theorem Wt(h:jr c ln)(v:α):∀l:List α,ko c l->ko c (Dg c l v)/\∀x,x∈Dg c l v↔(x∈l∨x=v)
 |[],_=>⟨List.pairwise_singleton _ _,fun x=>by simp[Dg]⟩
 |y::l,ha=>by
  have hp:=pairwise_cons.1 ha
  obtain⟨a1,a2⟩:=Wt h v l hp.2
  unfold Dg
  by_cases h1:c y v<0
  ·grind[pairwise_cons]
  ·rw[Iz h1]
   by_cases h2:c y v=0
   ·have:=h.eq y v trivial trivial h2
    grind
   ·rw[Iz h2]
    have h3:c v y<0:=by
     have:=(h.swap v y trivial trivial)
     omega
    refine⟨pairwise_cons.2 ⟨fun b hb=>?_,ha⟩,fun x=>?_⟩
    ·rcases IN.1 hb with rfl|hb
     ·exact h3
     ·exact h.trans v y b trivial trivial trivial h3 (hp.1 b hb)
    grind
end
theorem Ox(l:List (List Int)):Ab (l.map cy)=l.map fun w=>bt (cy w):=by
 induction l with
 |nil=>rfl
 |cons x l ih=>show bt (cy x)::Ab (l.map cy)=_;grind
theorem Rk(l:List (List Int)):I (Ab (l.map cy))=I l*1:=by grind[Ox]
theorem FW{l:List (List Int)}{i:Nat}{x:List Int}(h:l[i]?=G x):(Ab (l.map cy))[i]?=G (bt (cy x)):=by grind[Ox]
theorem Ajf(l:List (List Int))(k:Nat):(Ab (l.map cy)).take (k*1)=Ab ((l.take k).map cy):=by grind[Ox,List.map_take]
theorem AeV(l:List (List Int))(k:Nat)(x:List Int)(_:k<I l):(Ab (l.map cy)).set k (bt (cy x))=Ab ((l.set k x).map cy):=by grind[Ox,List.map_set]
theorem Ajg(k:Nat):(((replicate k [bv]).flatten.map bt).all D.one)=J:=by
 induction k with
 |zero=>rfl
 |succ k ih=>simp only[Jk,JC,J5,List.all_append,ih];rfl
theorem Ow(l:List (List Int)):(Ab (l.map cy)).all D.one=J:=by
 rw[Ox,IU]
 intro x hx
 obtain⟨w,_,rfl⟩:=IQ.1 hx
 rfl
theorem wt:BW PP 50=G (31,1,24,G (.slice none 0 0)):=by rfl
theorem Ov(l:List V){R:List D}(h:D.pls R=J):D.pls (Ab l++R)=J:=by grind[D8,A9]
noncomputable def F6:=yl mf
noncomputable abbrev gt:=fun a₀=>(Ab (U cy a₀))
noncomputable abbrev Au4:=[zu mf 119380,bh 2,zt mf 14923,bh 1,zt mf 467,kl F6 e9,bh 0,zt mf 15]
noncomputable abbrev ny:=fun a₀ b₀=>(bi [G (Ab (U cy a₀)++b₀)] [])
noncomputable abbrev kb:=fun a₀=>(bi [G (gt a₀)] [])
theorem Aqn(F:yx)(l:List (List Int))(q:(List Int)->(List Int)->Bool)(hl:I l<=1000)(hq:∀x∈l,∀y∈l,F0 F [.v (cy x),.v (cy y)] (db (q x y)))(k0:Nat)(h0:1<=k0)(h1:k0<I l)(n:Nat):∀(k j:Nat) (A:List (List Int)),I l-k0-j=n->1<=k->1<=j->k<k0+j->j<=I l-k0->I A=I l->(∀x∈A,x∈l)->(∀i:Nat,k0+j-1<=i->A[i]?=l[i]?)->(∀p,l[k0+j-1]?=G p->A.take k++Cp q p (l.drop (k0+j))=AT q l)->
  ∃(ys:List (List Int)) (R:List D),ys=AT q l/\D.pls R=J/\R.all D.one=J/\Rn PP mf 1 (.arr 0 0 (I ys)) ⟨[G (Ab (ys.map cy)++R)],[]⟩ ([zu mf 119380,.blk 2,zt mf 14923,.blk 1,zt mf 467,zu mf 116,.blk 0,zt mf 15]++[]) (cz 66 [(0,.arr 0 0 (I l)),(1,dfn F),(5,di k),(6,.arr 0 (k0*1) (I l-k0)),(7,di j)]) ⟨[G (Ab (A.map cy))],[]⟩:=by
 induction n with
 |zero=>
  intro k j A hn hk hj hkj hjl hA hAl hAe hT
  refine⟨A.take k,(replicate (I l-k) [bv]).flatten.map .v,?_,?_,?_,?_⟩
  ·obtain⟨p,hp⟩:∃p,l[k0+j-1]?=G p:=⟨_,HK (by omega)⟩
   have:=hT p hp
   rw[I3 (by omega),Cp,IX] at this
   exact this
  ·exact BJ _
  ·exact Ajg _
  have hkl:k<I l:=by omega
  have hsl:∀(o:yy) (x:x8) (y:x8) (τ:St),o.op=.slice 50 x (G y) none none->Ak PP o [.arr 0 0 (I l),di k] τ (.arr 0 (k*1) (I l-k)) τ:=fun o x y τ ho=>by
   have:=Da (P:=PP) (o:=o) (σ:=τ) ho wt (q:=0) (off:=0) (len:=I l) (G (.i64,(k:Int))) none rfl rfl (l':=k) (h':=I l) (by simp[C8];omega) hkl
   rwa[IT] at this
  have hsh:∀(o:yy) (x:x8) (y:x8) (τ:St),o.op=.slice 50 x none (G y) none->Ak PP o [.arr 0 0 (I l),di k] τ (.arr 0 0 k) τ:=fun o x y τ ho=>by
   have:=Da (P:=PP) (o:=o) (σ:=τ) ho wt (q:=0) (off:=0) (len:=I l) none (G (.i64,(k:Int))) rfl rfl (l':=0) (h':=k) (by simp[C8];omega) (by omega)
   rwa[Nat.zero_mul,Jp,Nat.sub_zero] at this
  have hfl:I (Ab (A.map cy))=I l*1:=by rw[Rk,hA]
  have hcl:=fun(o:yy) (x:x8) (ho:o.op=.call { callee:=.builtin .clear,args:= #[x],argTypes:= #[50]})=>Nx (P:=PP) (o:=o) (σ:=⟨[G (Ab (A.map cy))],[]⟩) ho wt (zs:=[.nils]) rfl rfl (q:=0) (off:=k*1) (len:=I l-k) rfl (by omega) (by rw[hfl];omega)
  have hd:(Ab (A.map cy)).drop (k*1+(I l-k)*1)=[]:=I3 (by rw[hfl];omega)
  have htk:(Ab (A.map cy)).take (k*1)=Ab ((A.take k).map cy):=Ajf A k
  rw[hd,htk,IX] at hcl
  refine zp (.f<|.h (.q 14 2)<|.h (.o (.arr 0 (k*1) (I l-k)) ⟨[G (Ab (A.map cy))],[]⟩)<|.h (.o (.tup []) ⟨[G (Ab ((A.take k).map cy)++(replicate (I l-k) [bv]).flatten.map .v)],[]⟩)<|.h (.q 15 2)<|.h (.o (.arr 0 0 k) ⟨[G (Ab ((A.take k).map cy)++(replicate (I l-k) [bv]).flatten.map .v)],[]⟩) .ro) (yd j ↑(I l-k0)/\Ak PP (Oper.mk (G 61) (Op.slice 50 (Operand.tmp 59) (G (Operand.tmp 60)) none none) 50 "slices.go:410" #[Edge.mk 0 Ground.data,Edge.mk 1 Ground.data] none) [bo 0 0 (I l),di (k:Int)] (kb A) (bo 0 (k*1) (I l-k)) (kb A)/\Ak PP (Oper.mk none (Op.call (Call.mk (Callee.builtin Builtin.clear) #[Operand.tmp 61] #[50])) 0 "slices.go:410" #[Edge.mk 2 Ground.data] none) [bo 0 (k*1) (I l-k)] (kb A) (bl []) (bi [G (Ab (U cy (take k A))++U bt (flatten (replicate (I l-k) [bv])))] [])/\Ak PP (Oper.mk (G 64) (Op.slice 50 (Operand.tmp 62) none (G (Operand.tmp 63)) none) 50 "slices.go:411" #[Edge.mk 0 Ground.data,Edge.mk 1 Ground.data] none) [bo 0 0 (I l),di (k:Int)] (bi [G (Ab (U cy (take k A))++U bt (flatten (replicate (I l-k) [bv])))] []) (bo 0 0 k) (bi [G (Ab (U cy (take k A))++U bt (flatten (replicate (I l-k) [bv])))] [])/\cp 1 [] [G (Ab (U cy (take k A))++U bt (flatten (replicate (I l-k) [bv])))]=J/\Q [G (Ab (U cy (take k A))++U bt (flatten (replicate (I l-k) (bv::nV))))]/\bo 0 0 k=bo 0 0 (I (take k A))) ⟨yq,hsl _ _ _ _ rfl,hcl _ _ rfl,hsh _ _ _ _ rfl,?_,rfl,by rw[ID,hA,Nat.min_eq_left (by omega)]⟩
  exact I1.2 ⟨AO (Ov _ (BJ _)),rfl⟩
 |succ n ih=>
  intro k j A hn hk hj hkj hjl hA hAl hAe hT
  obtain⟨x,hx⟩:=yk (show k0+j<I A by omega)
  obtain⟨y,hy⟩:=yk (show k0+j-1<I A by omega)
  have hc:=hq x (hAl x (HQ hx)) y (hAl y (HQ hy))
  have hw1:yt.wrap ((j:Int)-1)=((j-1:Nat):Int):=by rw[An];omega
  have hT':=hT y (by rw[←hAe _ (HR _)];exact hy)
  have hx':l[k0+j]?=G x:=by rw[←hAe _ (by omega)];exact hx
  rw[d8 hx',Cp] at hT'
  cases hb:q x y with
  |true=>
   rw[hb] at hc
   obtain⟨ys,R,r1,r3,r5,r4⟩:=ih k (j+1) A (by omega) hk (by omega) (by omega) (by omega) hA hAl (fun i hi=>hAe i (by omega)) (fun p hp=>by
    have e:x=p:=I8 (hx'.symm.trans hp)
    rw[hb,I4 rfl,e] at hT';exact hT')
   refine⟨ys,R,r1,r3,r5,?_⟩
   refine zp (.t<|.m (.v (cy x))<|.m (.v (cy y))<|.c (db J)<|.lo [ke 0,ke 1,ke 5,ke 6,ch 7 (zw j)] ⟨[G (Ab (A.map cy))],[]⟩) (ye j ↑(I l-k0)/\y6 j/\y5 j ↑(I l-k0)/\(gt A)[k0*1+Z (j:Int)*1]?=G (cw x)/\0<=yu yt ((j:Int)-1)/\y5 (yu yt ((j:Int)-1)) ↑(I l-k0)/\(gt A)[k0*1+Z (yu yt ((j:Int)-1))*1]?=G (cw y)/\type_of% hc/\yo/\zx j/\cp 1 [] [G (gt A)]=J/\Q [G (gt A)]/\It (type_of% r4)) ?_
   rw[hw1]
   refine⟨yr,by omega,by omega,by rw[show k0*1+Z (j:Int)*1=k0+j by omega];exact FW hx,by omega,by omega,by rw[show k0*1+Z ((j-1:Nat):Int)*1=k0+j-1 by omega];exact FW hy,hc,ym,Ac,I1.2 ⟨Am 1 [] _,rfl⟩,rfl,⟨r4⟩⟩
  |false=>
   rw[hb] at hc
   have hA2:∀z∈A.set k x,z∈l:=fun z hz=>by
    rcases Jv hz with h|h
    ·exact hAl z h
    ·rw[h];exact hAl x (HQ hx)
   obtain⟨ys,R,r1,r3,r5,r4⟩:=ih (k+1) (j+1) (A.set k x) (by omega) (by omega) (by omega) (by omega) (by omega) (by rw[length_set];exact hA) hA2 (fun i hi=>by rw[List.getElem?_set_ne (by omega)];exact hAe i (by omega)) (fun p hp=>by
    have e:x=p:=I8 (hx'.symm.trans hp)
    rw[hb,Iz (by decide)] at hT'
    rw[KF (by omega),Jx,List.singleton_append, ←e];exact hT')
   refine⟨ys,R,r1,r3,r5,?_⟩
   refine zp (.t<|.m (.v (cy x))<|.m (.v (cy y))<|.c (db O)<|.m (.v (cy x))<|.w<|.lo [ke 0,ke 1,ch 5 (zw k),ke 6,ch 7 (zw j)] ⟨[G (Ab ((A.set k x).map cy))],[]⟩) (ye j ↑(I l-k0)/\y6 j/\y5 j ↑(I l-k0)/\(gt A)[k0*1+Z (j:Int)*1]?=G (cw x)/\0<=yu yt ((j:Int)-1)/\y5 (yu yt ((j:Int)-1)) ↑(I l-k0)/\(gt A)[k0*1+Z (yu yt ((j:Int)-1))*1]?=G (cw y)/\type_of% hc/\yo/\y6 j/\y5 j ↑(I l-k0)/\(gt A)[k0*1+Z (j:Int)*1]?=G (cw x)/\y6 k/\y5 k (I l)/\0+Z (k:Int)*1<I (gt A)/\zx k/\zx j/\cp 1 [] [G (List.set (gt A) (0+Z (k:Int)*1) (cw x))]=J/\[G (List.set (gt A) (0+Z (k:Int)*1) (cw x))]=[G (Ab (U cy (List.set A k x)))]/\It (type_of% r4)) ?_
   rw[hw1]
   refine⟨yr,by omega,by omega,by rw[show k0*1+Z (j:Int)*1=k0+j by omega];exact FW hx,by omega,by omega,by rw[show k0*1+Z ((j-1:Nat):Int)*1=k0+j-1 by omega];exact FW hy,hc,ym,by omega,by omega,by rw[show k0*1+Z (j:Int)*1=k0+j by omega];exact FW hx,by omega,by omega,by rw[Rk];omega,Ac,Ac,?_,?_,⟨r4⟩⟩
   ·rw[show 0+Z (k:Int)*1=k by omega,AeV A k x (by omega)]
    exact I1.2 ⟨Am 1 [] _,rfl⟩
   ·rw[show 0+Z (k:Int)*1=k by omega,AeV A k x (by omega)]
theorem Am3(F:yx)(l:List (List Int))(q:(List Int)->(List Int)->Bool)(hl:I l<=1000)(hq:∀x∈l,∀y∈l,F0 F [.v (cy x),.v (cy y)] (db (q x y)))(n:Nat):∀(k:Nat),I l-k=n->1<=k->k<=I l->(∀p,l[k-1]?=G p->l.take k++Cp q p (l.drop k)=AT q l)->
  ∃(ys:List (List Int)) (R:List D),ys=AT q l/\D.pls R=J/\R.all D.one=J/\Rn PP mf 1 (.arr 0 0 (I ys)) ⟨[G (Ab (ys.map cy)++R)],[]⟩ ([zu mf 116,.blk 0,zt mf 15]++[]) (cz 66 [(0,.arr 0 0 (I l)),(1,dfn F),(5,di k)]) ⟨[G (Ab (l.map cy))],[]⟩:=by
 induction n with
 |zero=>
  intro k hn hk hkl hT
  refine⟨l,[],?_,rfl,rfl,?_⟩
  ·obtain⟨p,hp⟩:∃p,l[k-1]?=G p:=⟨_,HK (by omega)⟩
   have:=hT p hp
   rw[I3 (by omega),Cp,IX,IB (by omega)] at this
   exact this
  exact zp (.f .ro) (yd k (I l)/\cp 1 [] [G (gt l)]=J/\[G (gt l)]=[G (Ab (U cy l)++[])]/\Q (bo 0 0 (I l))) ⟨yq,I1.2 ⟨Am 1 [] _,rfl⟩,by rw[IX],rfl⟩
 |succ n ih=>
  intro k hn hk hkl' hT
  obtain⟨x,hx⟩:=yk (show k<I l by omega)
  obtain⟨y,hy⟩:=yk (show k-1<I l by omega)
  have hc:=hq x (HQ hx) y (HQ hy)
  have hkl:k<I l:=by omega
  have hw1:yt.wrap ((k:Int)-1)=((k-1:Nat):Int):=by rw[An];omega
  have hT':=hT y hy
  rw[d8 hx,Cp] at hT'
  cases hb:q x y with
  |true=>
   rw[hb] at hc
   obtain⟨ys,R,r1,r3,r5,r4⟩:=Aqn F l q hl hq k hk (by omega) _ k 1 l rfl hk (by omega) (by omega) (by omega) rfl (fun x h=>h) (fun _ _=>rfl) (fun p hp=>by
    have e:x=p:=I8 (hx.symm.trans hp)
    rw[hb,I4 rfl,e] at hT';exact hT')
   refine⟨ys,R,r1,r3,r5,?_⟩
   refine zp (.t<|.m (.v (cy x))<|.m (.v (cy y))<|.c (db J)<|.k<|.h (.q 7 2)<|.h (.o (.arr 0 (k*1) (I l-k)) ⟨[G (Ab (l.map cy))],[]⟩)<|.lo [ke 0,ke 1,ke 5,ke 6,ch 7 (di (1:Nat))] ⟨[G (Ab (l.map cy))],[]⟩) (ye k (I l)/\y6 k/\y5 k (I l)/\(gt l)[0+Z (k:Int)*1]?=G (cw x)/\0<=yu yt ((k:Int)-1)/\yu yt ((k:Int)-1)<(I l:Int)/\(gt l)[0+Z (yu yt ((k:Int)-1))*1]?=G (cw y)/\type_of% hc/\yo/\Ak PP (Oper.mk (G 31) (Op.slice 50 (Operand.tmp 29) (G (Operand.tmp 30)) none none) 50 "slices.go:402" #[Edge.mk 0 Ground.data,Edge.mk 1 Ground.data] none) [bo 0 0 (I l),di (k:Int)] (kb l) (bo 0 (k*1) (I l-k)) (kb l)/\di 1=di (↑1:Int)/\cp 1 [] [G (gt l)]=J/\Q [G (gt l)]/\It (type_of% r4)) ?_
   have hsl:∀(o:yy) (x:x8) (y:x8) (τ:St),o.op=.slice 50 x (G y) none none->Ak PP o [.arr 0 0 (I l),di k] τ (.arr 0 (k*1) (I l-k)) τ:=fun o x y τ ho=>by
    have:=Da (P:=PP) (o:=o) (σ:=τ) ho wt (q:=0) (off:=0) (len:=I l) (G (.i64,(k:Int))) none rfl rfl (l':=k) (h':=I l) (by simp[C8];omega) hkl
    rwa[IT] at this
   rw[hw1]
   exact⟨yr,by omega,by omega,by rw[show 0+Z (k:Int)*1=k by omega];exact FW hx,by omega,by omega,by rw[show 0+Z ((k-1:Nat):Int)*1=k-1 by omega];exact FW hy,hc,ym,hsl _ _ _ _ rfl,rfl,I1.2 ⟨Am 1 [] _,rfl⟩,rfl,⟨r4⟩⟩
  |false=>
   rw[hb] at hc
   obtain⟨ys,R,r1,r3,r5,r4⟩:=ih (k+1) (by omega) (by omega) (by omega) (fun p hp=>by
    have e:x=p:=I8 (hx.symm.trans hp)
    rw[hb,Iz (by decide)] at hT'
    rw[J2,hx,Option.toList_some,Jx,List.singleton_append, ←e];exact hT')
   refine⟨ys,R,r1,r3,r5,?_⟩
   refine zp (.t<|.m (.v (cy x))<|.m (.v (cy y))<|.c (db O)<|.lo (qu k) ⟨[G (Ab (l.map cy))],[]⟩) (ye k (I l)/\y6 k/\y5 k (I l)/\(gt l)[0+Z (k:Int)*1]?=G (cw x)/\0<=yu yt ((k:Int)-1)/\yu yt ((k:Int)-1)<(I l:Int)/\(gt l)[0+Z (yu yt ((k:Int)-1))*1]?=G (cw y)/\type_of% hc/\yo/\zx k/\cp 1 [] [G (gt l)]=J/\Q [G (gt l)]/\It (type_of% r4)) ?_
   rw[hw1]
   exact⟨yr,by omega,by omega,by rw[show 0+Z (k:Int)*1=k by omega];exact FW hx,by omega,by omega,by rw[show 0+Z ((k-1:Nat):Int)*1=k-1 by omega];exact FW hy,hc,ym,Ac,I1.2 ⟨Am 1 [] _,rfl⟩,rfl,⟨r4⟩⟩
theorem Akk(F:yx)(l:List (List Int))(q:(List Int)->(List Int)->Bool)(hl:I l<=1000)(hq:∀x∈l,∀y∈l,F0 F [.v (cy x),.v (cy y)] (db (q x y))):
  ∃R:List D,D.pls R=J/\R.all D.one=J/\Aa PP 286 [.arr 0 0 (I l),dfn F] ⟨[G (Ab (l.map cy))],[]⟩ (.arr 0 0 (I (AT q l))) ⟨[G (Ab ((AT q l).map cy)++R)],[]⟩:=by
 by_cases h2:I l<2
 ·refine⟨[],rfl,rfl,?_⟩
  rw[Lr q h2]
  exact zq mf 66 (.t .ro) (ye (I l) 2/\cp 1 [] [G (gt l)]=J/\[G (gt l)]=[G (Ab (U cy l)++[])]/\Q (bo 0 0 (I l))) ⟨yr,I1.2 ⟨Am 1 [] _,rfl⟩,by rw[IX],rfl⟩
 ·obtain⟨ys,R,r1,r3,r5,r4⟩:=Am3 F l q hl hq _ 1 rfl (HR _) (by omega) (fun p hp=>Oc hp)
  subst r1
  refine⟨R,r3,r5,?_⟩
  exact zq mf 66 (.f<|.lo [ke 0,ke 1,ch 5 (di (1:Nat))] ⟨[G (Ab (l.map cy))],[]⟩) (yd (I l) 2/\Q (di 1)/\cp 1 [] [G (gt l)]=J/\Q [G (gt l)]/\_) ⟨yq,rfl,I1.2 ⟨Am 1 [] _,rfl⟩,rfl,iK r4⟩
end Go.Proofs.YtgigepkgakpjbaaGreat

namespace Go.Proofs.YtgigepkgakpjbaaGreat
open Go.Dv Go.Nv Go.Shelf
open List (take)
theorem RD:F0 284 [dl [],dfn 285] (.tup []):=by
 refine⟨⟨_, Tryz.func284,by kernel_rfl,by kernel_rfl⟩,fun g w args hw hargs=>?_⟩
 obtain⟨u0,u1,rfl,h0,h1⟩:=Ax.1 hargs
 simp only[Ah,B6] at h0
 obtain⟨a,cap,rfl,_,_⟩:=h0
 have h:=AnyF.slices_SortFunc_none { Tryz.sortW with } a cap u1 w
 refine Calls.mono h ?_
 rintro e w' ⟨rfl,rfl⟩
 exact⟨_,g,rfl,WI.start hw,by simp only[Ah];exact⟨[],rfl,by simp[Ag]⟩⟩
theorem MR:F0 160 [dl [],dfn 112] (.tup []):=by
 refine⟨⟨_, Tryz.func160,by kernel_rfl,by kernel_rfl⟩,fun g w args hw hargs=>?_⟩
 obtain⟨u0,u1,rfl,h0,h1⟩:=Ax.1 hargs
 simp only[Ah,B6] at h0
 obtain⟨a,cap,rfl,_,_⟩:=h0
 have h:=AnyF.slices_SortFunc_none Tryz.sortV a cap u1 w
 refine Calls.mono h ?_
 rintro e w' ⟨rfl,rfl⟩
 exact⟨_,g,rfl,WI.start hw,by simp only[Ah];exact⟨[],rfl,by simp[Ag]⟩⟩
theorem M8:jr AB ln:=by
 constructor
 ·exact fun x _=>BF.refl (dy x) trivial
 ·exact fun x y _ _ h=>Aai (BF.eq (dy x) (dy y) trivial trivial h)
 ·exact fun x y _ _=>BF.swap (dy x) (dy y) trivial trivial
 ·exact fun x y z _ _ _=>BF.trans (dy x) (dy y) (dy z) trivial trivial trivial
theorem Agm(l:List (List Int)):(sortW l).Pairwise fun a b=>AB a b<=0:=
 (List.pairwise_mergeSort (le:=fun a b=>Y (AB a b<=0)) (fun a b c h1 h2=>HM (EW (HV h1) (HV h2))) (fun a b=>by rcases KZ (dy a) (dy b) with h|h<;>simp[AB,h]) l).imp fun{a b} h=>HV h
def oh(a b:List Int):Bool:=Y (a=b)
def CO(l:List (List Int)):List (List Int):=AT oh (sortW l)
theorem Fq(l:List (List Int)):ko AB (CO l)/\∀x,x∈CO l↔x∈l:=by
 obtain⟨h1,h2⟩:=Oe M8 (q:=oh) (fun x y=>by simp[oh]) (Agm l)
 exact⟨h1,fun x=>(h2 x).trans (DV l).mem_iff⟩
theorem Mp(l:List (List Int)):I (CO l)<=I l:=by
 have:=Od oh (sortW l)
 rwa[(DV l).length_eq] at this
noncomputable abbrev Aw2:=(bw 285 [] [])
noncomputable abbrev Axa:=(bw 206 [] [])
noncomputable abbrev xy:=fun a₀=>(bi [G (Ab (U cy (sortW a₀)))] [])
theorem Akm(l:List (List Int))(hl:I l<=1000)(hs:∀v∈l,I v<=1000):∃R:List D,D.pls R=J/\R.all D.one=J/\Aa PP 288 [.arr 0 0 (I l)] ⟨[G (Ab (l.map cy))],[]⟩ (.arr 0 0 (I (CO l))) ⟨[G (Ab ((CO l).map cy)++R)],[]⟩:=by
 have hlen:I (sortW l)=I l:=(DV l).length_eq
 obtain⟨R,h3,h5,h4⟩:=Akk 206 (sortW l) oh (by omega) (fun x hx y hy=>EA x y (by have:=hs x ((DV l).mem_iff.1 hx);omega))
 refine⟨R,h3,h5,?_⟩
 rw[hlen] at h4
 obtain⟨ys,hys⟩:∃ys,ys=CO l:=⟨_,rfl⟩
 rw[show AT oh (sortW l)=CO l from rfl, ←hys] at h4
 rw[←hys]
 have hsp:=OC VB l (by omega) (fun v hv=>by have:=hs v hv;omega)
 refine zq AoG 7 (.h (.oc (.tup []) ⟨[G (Ab ((sortW l).map cy))],[]⟩)<|.h (.oc (.arr 0 0 (I ys)) ⟨[G (Ab (ys.map cy)++R)],[]⟩) .ro) ((N0 [bt (bw 284 [] []),bo 0 0 (I l),bt Aw2] (kb l) (bl []) (xy l))/\(N0 [bt (bw 286 [] []),bo 0 0 (I l),bt Axa] (xy l) (bo 0 0 (I ys)) (ny ys R))/\cp 1 [] [G (Ab (U cy ys)++R)]=J/\Q [G (Ab (U cy ys)++R)]/\Q (bo 0 0 (I ys))) ⟨fun o cl fo ho hc=>?_,fun o cl fo ho hc=>?_,I1.2 ⟨AO (Ov _ h3),rfl⟩,rfl,rfl⟩
 ·exact D9 (H:=[Ab (l.map cy)]) ho hc (fs:=[]) (cs:=[]) (ds:=[.arr 0 0 (I l),dfn 285]) rfl hsp rfl (fun cs hm=>by rw[Ia.1 hm];exact⟨Am _ _ _,Ow l⟩) rfl (I1.2 ⟨Am _ _ _,rfl⟩) (HR _)
 ·exact D9 (H:=[Ab ((sortW l).map cy)]) ho hc (fs:=[]) (cs:=[]) (ds:=[.arr 0 0 (I l),dfn 206]) rfl h4 rfl (fun cs hm=>by rw[Ia.1 hm];exact⟨Am _ _ _,Ow _⟩) rfl (I1.2 ⟨AO (Ov _ h3),rfl⟩) (HR _)
theorem AeW(F:yx):F0 286 [dl [],dfn F] (dl []):=by
 exact zq mf 66 (.t .r) (ye (I nV) 2/\bt (ae [])=dl []) ⟨by decide,rfl⟩
noncomputable abbrev Ayh:=F0 284 [bt (ae []),bt Aw2] (bl [])
noncomputable abbrev Ayi:=F0 286 [bt (ae []),bt Axa] (dl [])
theorem Afo:F0 288 [dl []] (dl []):=by
 refine zq AoG 7 (.c (.tup [])<|.c (dl []) .r) (Ayh/\Ayi/\bt (ae [])=dl []) ?_
 exact⟨RD,AeW _,rfl⟩
theorem X8(x:Int):F0 303 [di x] (db (Y (x<0)||Y (x>=16))):=by
 exact zq AoE 9 (.b .r .r) ((ye x 0->db J=db (Y (x<0)||Y (x>=16)))/\(yd x 0->db (Y (x>=16))=db (Y (x<0)||Y (x>=16)))) ⟨fun h=>by rw[h];rfl,fun h=>by rw[h];rfl⟩
def T9(w:List Int):Bool:=Y ((I w:Int)<=12)&& !(w.any fun x=>Y (x<0)||Y (x>=16))
theorem Aac(w:List Int)(hw:I w<=1000):F0 287 [cw w] (db (T9 w)):=by
 rw[T9]
 by_cases h:Y ((I w:Int)<=12)=J
 ·rw[h,IG]
  exact zq AoF 11 (.t<|.c (db (w.any fun x=>Y (x<0)||Y (x>=16))) .r) (ya (I (U vi w)) 12/\_/\Q (db !List.any w fun x=>Y (x<0)||Y (x>=16))) ⟨by rw[HJ];exact h,Ej 303 [] [] (fun x=>Y (x<0)||Y (x>=16)) w (by omega) (fun x _=>X8 x),rfl⟩
 ·rw[HW h,IE]
  exact zq AoF 11 (.f .r) (y9 (I (U vi w)) 12/\Q (db O)) ⟨by rw[HJ];exact HW h,rfl⟩
theorem Ru{w:List Int}(h:T9 w=J):I w<=12:=by
 have:=(I1.1 h).1
 have:=HV this
 omega
theorem M5(w:List Int)(hw:I w<=1000)(i:Nat)(hi:i<I w):F0 283 [bt (ae [ae (W 0 (take (Z (i:Int)) (w.map vi))),ae (W (Z ((i+1:Nat):Int)) (take (I (w.map vi)) (w.map vi)))])] (cw (w.take i++w.drop (i+1))):=by
 have h:=Aiy [w.take i,w.drop (i+1)] (by simp) (by simp only[JC,List.flatten_nil,IX,HY,ID,Jw];omega)
 rw[Jy,Jy,JG,IB (HR _), ←List.map_take, ←List.map_drop,show cw (w.take i++w.drop (i+1))=dl ([w.take i,w.drop (i+1)].flatten.map vi) by simp]
 exact h
theorem R8(w:List Int):∀x∈w.map vi,V.size x=1:=fun x h=>by obtain⟨y,_,rfl⟩:=IQ.1 h;rfl
theorem Pb(l:List (List Int))(x:List Int):Ab (l.map cy)++[bt (cy x)]=Ab ((l++[x]).map cy):=by rw[Ox,Ox];simp
theorem AsB{o:yy}{t:Nat}(x:List Int)(τ:St)(ho:o.op=.buildSlice 50 1 #[(0,.tmp t)]):Ak PP o [cw x] τ (.v (.list [cy x])) τ:=
 Fo ho rfl rfl wt rfl (xs:=[cy x]) rfl (fun y hy=>by rw[Ia.1 hy];rfl) (by decide) (by decide) (by decide)
noncomputable def se:=yl qk
def gz(w:List Int)(i:Nat):List Int:=w.take i++w.drop (i+1)
theorem QM(w:List Int)(i:Nat):I (gz w i)<=I w:=by unfold gz;rw[HY,ID,Jw];omega
def CK(w:List Int)(k:Nat):List (List Int):=(List.range k).map (gz w)
theorem O6(w:List Int)(k:Nat):CK w (k+1)=CK w k++[gz w k]:=by simp[CK,List.range_succ]
theorem KA(w:List Int)(k:Nat):I (CK w k)=k:=by simp[CK]
theorem PO{w:List Int}(hw:I w<=12){k:Nat}{v:List Int}(h:v∈CK w k):I v<=12:=by
 obtain⟨i,_,rfl⟩:=IQ.1 h
 have:=QM w i;omega
def Gn(w:List Int):List (List Int):=if T9 w=J then CO (CK w (I w)) else[]
noncomputable abbrev mw:=fun a₀=>(ae (U cy a₀))
theorem Afu(w:List Int)(hw:I w<=12)(n:Nat):∀k:Nat,I w- (k+1)=n->k<I w->
  Rn PP qk 0 (dl ((CO (CK w (I w))).map cy)) bd ([zu qk 244,.blk 0,zt qk 31]++[]) (cz 28 [(0,cw w),(3,.gro 0 (k+1) 1),(8,cw w),(9,di (I w)),(10,zw k)]) ⟨[G (Ab ((CK w (k+1)).map cy))],[]⟩:=by
 induction n with
 |zero=>
  intro k hn hk
  obtain⟨outs,houts⟩:∃outs,outs=CK w (k+1):=⟨_,rfl⟩
  have ho:I outs=k+1:=by rw[houts];exact KA _ _
  obtain⟨R,h3,h5,h4⟩:=Akm outs (by omega) (fun v hv=>by rw[houts] at hv;have:=PO hw hv;omega)
  rw[ho] at h4
  obtain⟨ys,hys⟩:∃ys,ys=CO outs:=⟨_,rfl⟩
  rw[←hys] at h4
  rw[←houts,show CK w (I w)=outs by rw[houts];congr 1;omega, ←hys]
  refine zp (.f<|.h (.q 9 0)<|.h (.ga 3)<|.h (.oc (.arr 0 0 (I ys)) ⟨[G (Ab (ys.map cy)++R)],[]⟩)<|.h (.q 9 2)<|.h (.ct 27 (dl (ys.map cy)) ⟨[none],[]⟩) .r) (yd ↑(k+1) (I w)/\(N0 [bt (bw 288 [] []),bo 0 0 (k+1)] (kb outs) (bo 0 0 (I ys)) (ny ys R))/\(∀(e:List D),e[27]?=G (bo 0 0 (I ys))->∀(E:c9) (g:Gh) (a:Act) (w:x5),FI E g (ny ys R) e a w->∃g',FI E g' (bi [none] []) (List.set e 27 (dl (U cy ys))) a w)/\Q (bt (mw ys))) ⟨yq,fun o cl fo hop hc=>?_,fun e he=>?_,rfl⟩
  ·exact D9 (H:=[Ab (outs.map cy)]) hop hc (fs:=[]) (cs:=[]) (ds:=[.arr 0 0 (k+1)]) rfl h4 rfl (fun cs hm=>by rw[Ia.1 hm];exact⟨Am _ _ _,Ow _⟩) rfl (I1.2 ⟨AO (Ov _ h3),rfl⟩) (HR _)
  ·exact Vm (σ:=⟨[G (Ab (ys.map cy)++R)],[]⟩) (q:=0) (sz:=1) (rest:=R) (by decide) (fun x hx=>by obtain⟨y,_,rfl⟩:=IQ.1 hx;rfl) (by rw[HJ]) rfl he
 |succ n ih=>
  intro k hn hk
  have g3:=ih (k+1) (by omega) (by omega)
  rw[O6 w (k+1),show gz w (k+1)=w.take (k+1)++w.drop (k+2) from rfl] at g3
  have ho:=KA w (k+1)
  generalize CO (CK w (I w))=ws at g3⊢
  generalize CK w (k+1)=outs at g3 ho⊢
  refine zp (.t<|.c (cw (w.take (k+1)++w.drop (k+2)))<|.lo [ke 0,ch 3 (.gro 1 (k+1+1) 1),ke 8,ke 9,ch 10 (di (k+1+1:Nat))] ⟨[none,G (Ab ((outs++[w.take (k+1)++w.drop (k+2)]).map cy))],[]⟩) (ye ↑(k+1) (I w)/\(∀(x:V),x∈U vi w->V.size x=1)/\0<=((↑(k+1):Int))/\((↑(k+1):Int))<=(I (U vi w):Int)/\(∀(x:V),x∈U vi w->V.size x=1)/\0<=(yu yt ((↑(k+1):Int)+1))/\(yu yt ((↑(k+1):Int)+1))<=(I (U vi w):Int)/\F0 283 [bt (ae [ae (W 0 (take (Z (((↑(k+1):Int)))) (U vi w))),ae (W (Z ((yu yt ((↑(k+1):Int)+1)))) (take (I (U vi w)) (U vi w)))])] (cw (take (k+1) w++W (k+2) w))/\I (gt outs)=(k+1)*1/\[cy (take (k+1) w++W (k+2) w)]≠ []/\(∀(y:V),y∈ [cy (take (k+1) w++W (k+2) w)]->V.size y=1)/\Ao (k+1+I (cy (take (k+1) w++W (k+2) w)::nV)) 24/\Q (bm 1 (k+1+1) 1)/\di (yu yt ((↑(k+1):Int)+1))=di (↑(k+1+1):Int)/\cp 2 [] [none,G (Ab (U cy outs)++[bt (cy (take (k+1) w++W (k+2) w))])]=J/\[none,G (Ab (U cy outs)++[bt (cy (take (k+1) w++W (k+2) w))])]=[none,G (Ab (U cy (outs++[take (k+1) w++W (k+2) w])))]/\I0 qk 0 (dl (U cy ws)) bd [kl se fd,bh 0,zt qk 31] (cz 28 [(0,cw w),(3,bm 1 (k+1+1) 1),(8,cw w),(9,di (I w:Int)),(10,di (↑(k+1+1):Int))]) (bi [none,G (Ab (U cy (outs++[take (k+1) w++W (k+2) w])))] [])) ?_
  have hw1:yt.wrap (((k+1:Nat):Int)+1)=((k+1+1:Nat):Int):=by rw[An];omega
  rw[hw1,Pb]
  refine⟨yr,R8 w,by show(0:Int)<=((k+1:Nat):Int);omega,by show((k+1:Nat):Int)<=_;rw[HJ];omega,R8 w,by show(0:Int)<=((k+1+1:Nat):Int);omega,by show((k+1+1:Nat):Int)<=_;rw[HJ];omega,M5 w (by omega) (k+1) (by omega),by rw[Rk,ho],by simp,fun y hy=>by rw[Ia.1 hy];rfl,⟨by simp only[HP,HT];omega,by simp only[HP,HT];omega⟩,rfl,rfl,?_,rfl,⟨?_⟩⟩
  ·simp[cp,Am]
  ·refine EN (H0:=[none]) (fun E0 E h=>h.2) 1 rfl (fun cs hc=>?_) ?_ ?_ g3
   ·simp at hc;rw[hc];exact A9 _
   ·simp[cz,D.okNs,D.okN]
   ·simp[cz,D.rens,D.ren]
theorem Aft(w:List Int)(hw:I w<=1000):F0 259 [cw w] (dl ((Gn w).map cy)):=by
 have hb2:=Aac w hw
 unfold Gn
 cases hv:T9 w with
 |false=>
  rw[hv] at hb2
  rw[Iz (by decide)]
  exact zq qk 28 (.c (db O) .r) (_/\Q (bt (ae []))) ⟨hb2,rfl⟩
 |true=>
  have h12:=Ru hv
  rw[hv] at hb2
  rw[I4 rfl]
  by_cases h0:w=[]
  ·subst h0
   rw[show CO (CK [] (I ([]:List Int)))=[] by simp[CO,CK,sortW,AT]]
   exact zq qk 28 (.c (db J)<|.k<|.n<|.f<|.c (dl []) .r) (_/\yd 0 (I (U vi []))/\_/\Q (bt (ae []))) ⟨hb2,rfl,Afo,rfl⟩
  ·have hpos:=List.length_pos_iff.2 h0
   have g3:=Afu w h12 _ 0 rfl hpos
   rw[show CK w (0+1)=[w.drop 1] by simp[CK,List.range_succ,gz]] at g3
   generalize CO (CK w (I w))=ws at g3⊢
   refine zq qk 28 (.c (db J)<|.k<|.n<|.t<|.c (cw (w.drop 1))<|.h (.p (.v (.list [cy (w.drop 1)])))<|.h .g<|.lo [ke 0,ch 3 (.gro 0 1 1),ke 8,ch 9 (di (I w)),ch 10 (di (1:Nat))] ⟨[G (Ab ([w.drop 1].map cy))],[]⟩) (F0 287 [cw w] (db J)/\ye 0 (I (U vi w))/\(∀(x:V),x∈U vi w->V.size x=1)/\y6 0/\(0:Int)<=(I (U vi w):Int)/\(∀(x:V),x∈U vi w->V.size x=1)/\0<=(yu yt (0+1))/\(yu yt (0+1))<=(I (U vi w):Int)/\F0 283 [bt (ae [ae [],ae (W (Z ((yu yt (0+1)))) (take (I (U vi w)) (U vi w)))])] (cw (W 1 w))/\(∀(τ:St),Ak PP (Oper.mk (G 23) (Op.buildSlice 50 1 #[(0,Operand.tmp 22)]) 50 "word.go:71" #[Edge.mk 9 Ground.data] none) [cw (W 1 w)] τ (bt (ae [cy (W 1 w)])) τ)/\[cy (W 1 w)]≠ []/\(∀(y:V),y∈ [cy (W 1 w)]->V.size y=1)/\Ao 1 24/\Q (bm 0 1 1)/\di (I (U vi w):Int)=di (I w:Int)/\Q (di (↑1:Int))/\Q J/\Q [G [bt (cy (W 1 w))]]/\It (type_of% g3)) ?_
   have hw1:yt.wrap (0+1)=((0+1:Nat):Int):=by decide
   rw[hw1]
   refine⟨hb2,HM (by rw[HJ];omega),R8 w,IA _,by omega,R8 w,by decide,by show((0+1:Nat):Int)<=_;rw[HJ];omega,M5 w (by omega) 0 hpos,fun τ=>AsB _ τ rfl,by simp,fun y hy=>by rw[Ia.1 hy];rfl,⟨by decide,by decide⟩,rfl,by rw[HJ],rfl,rfl,rfl,⟨g3⟩⟩
theorem XF(w:List Int):I (Gn w)<=12/\∀v∈Gn w,I v<=12:=by
 unfold Gn
 split
 ·rename_i h
  have h12:=Ru h
  have hl:=Mp (CK w (I w))
  rw[KA] at hl
  exact⟨by omega,fun v hv=>PO h12 (((Fq _).2 v).1 hv)⟩
 ·exact⟨by decide,by simp⟩
end Go.Proofs.YtgigepkgakpjbaaGreat

namespace Go.Proofs.YtgigepkgakpjbaaGreat
open List (range_succ take)
theorem PM(k:Nat)(h:k<=1000000):yt.wrap ((k:Int)+1)=((k+1:Nat):Int):=by rw[An];omega
theorem DU{l:List Int}{x r:Int}(_:0<=x)(h:l[x.toNat]?=G r):(l.map vi)[Z x]?=G (vi r):=by rw[IP,h];rfl
theorem AbU(x:Int):F0 305 [di x] (db (Y (x<0)||Y (x>=6))):=by
 exact zq Arx 9 (.b .r .r) ((ye x 0->db J=db (Y (x<0)||Y (x>=6)))/\(yd x 0->db (Y (x>=6))=db (Y (x<0)||Y (x>=6)))) ⟨fun h=>by rw[h];rfl,fun h=>by rw[h];rfl⟩
def vu(rk:List Int):Bool:=Y ((I rk:Int)>=1)&&(Y ((I rk:Int)<=6)&& !(rk.any fun x=>Y (x<0)||Y (x>=6)))
theorem AgF(rk:List Int)(hr:I rk<=1000):F0 297 [cw rk] (db (vu rk)):=by
 rw[vu]
 by_cases h:Y ((I rk:Int)>=1)=J
 ·rw[h,IG]
  by_cases h2:Y ((I rk:Int)<=6)=J
  ·rw[h2,IG]
   exact zq Ary 16 (.t<|.t<|.c (db (rk.any fun x=>Y (x<0)||Y (x>=6))) .r) (y8 (I (U vi rk)) 1/\ya (I (U vi rk)) 6/\_/\Q (db !List.any rk fun x=>Y (x<0)||Y (x>=6))) ⟨by rw[HJ];exact h,by rw[HJ];exact h2,Ej 305 [] [] (fun x=>Y (x<0)||Y (x>=6)) rk (by omega) (fun x _=>AbU x),rfl⟩
  ·rw[HW h2,IE]
   exact zq Ary 16 (.t<|.f .r) (y8 (I (U vi rk)) 1/\y9 (I (U vi rk)) 6/\Q (db O)) ⟨by rw[HJ];exact h,by rw[HJ];exact HW h2,rfl⟩
 ·rw[HW h,IE]
  exact zq Ary 16 (.f .r) (y7 (I (U vi rk)) 1/\Q (db O)) ⟨by rw[HJ];exact HW h,rfl⟩
theorem AbM(rk:List Int)(x:Int):F0 298 [di x,.v (.ref (cy rk))] (db (Y (x<0)||Y (x>=I rk))):=by
 exact zq Aru 12 (.b .r .r) ((ye x 0->db J=db (Y (x<0)||Y (x>=(I rk:Int))))/\(yd x 0->db (Y (x>=(I (U vi rk):Int)))=db (Y (x<0)||Y (x>=(I rk:Int))))) ⟨fun h=>by rw[h];rfl,fun h=>by rw[h,HJ];rfl⟩
def qi(rk w:List Int):Bool:=vu rk&&(Y ((I w:Int)<=12)&& !(w.any fun x=>Y (x<0)||Y (x>=I rk)))
theorem AgC(rk w:List Int)(hr:I rk<=1000)(hw:I w<=1000):F0 278 [cw rk,cw w] (db (qi rk w)):=by
 have hb:=AgF rk hr
 rw[qi]
 cases hv:vu rk with
 |false=>
  rw[hv] at hb
  exact sv Arv 18 [2] (.c (db O) .r) (_/\Q (db O)) ⟨hb,rfl⟩
 |true=>
  rw[hv] at hb
  rw[IG]
  by_cases h:Y ((I w:Int)<=12)=J
  ·rw[h,IG]
   exact sv Arv 18 [2] (.c (db J)<|.k<|.t<|.c (db (w.any fun x=>Y (x<0)||Y (x>=I rk))) .r) (_/\ya (I (U vi w)) 12/\_/\Q (db !List.any w fun x=>Y (x<0)||Y (x>=(I rk:Int)))) ⟨hb,by rw[HJ];exact h,Ej 298 [] [.ref (cy rk)] (fun x=>Y (x<0)||Y (x>=I rk)) w (by omega) (fun x _=>AbM rk x),rfl⟩
  ·rw[HW h,IE]
   exact sv Arv 18 [2] (.c (db J)<|.k<|.f .r) (_/\y9 (I (U vi w)) 12/\Q (db O)) ⟨hb,by rw[HJ];exact HW h,rfl⟩
theorem OL{rk w:List Int}(hv:qi rk w=J):I w<=12/\∀x∈w,0<=x/\x<I rk:=by
 unfold qi at hv
 simp only[HL,IZ] at hv
 refine⟨by have:=HV hv.2.1;omega,fun x hx=>?_⟩
 have:=List.any_eq_false.1 hv.2.2 x hx
 simp at this;omega
noncomputable def Xp:=yl oy
def pc(rk w:List Int)(i:Nat):Bool:=Y (rk.getD (w.getD i 0).toNat 0<=rk.getD (w.getD (i+1) 0).toNat 0)
def C3(rk w:List Int)(k:Nat):List (List Int):=((List.range k).filter (pc rk w)).map (gz w)
theorem Nr{rk w:List Int}{k:Nat}(h:pc rk w k=J):C3 rk w (k+1)=C3 rk w k++[w.take k++w.drop (k+1)]:=by simp[C3,range_succ,h,gz]
theorem Qt{rk w:List Int}{k:Nat}(h:pc rk w k=O):C3 rk w (k+1)=C3 rk w k:=by simp[C3,range_succ,h]
theorem Ns(rk w:List Int)(k:Nat):I (C3 rk w k)<=k:=by
 have:=List.length_filter_le (pc rk w) (List.range k)
 rw[List.length_range] at this
 rw[C3,HJ];exact this
theorem Qu{rk w:List Int}(hw:I w<=12){k:Nat}{v:List Int}(h:v∈C3 rk w k):I v<=12:=by
 obtain⟨i,_,rfl⟩:=IQ.1 h
 have:=QM w i;omega
theorem Ald{rk w:List Int}{k:Nat}{x y rx ry:Int}(h1:w[k]?=G x)(h2:w[k+1]?=G y)(h3:rk[x.toNat]?=G rx)(h4:rk[y.toNat]?=G ry):pc rk w k=Y (rx<=ry):=by
 simp only[pc,HS,h1,h2,h3,h4,JD]
def Gv(rk w:List Int):List (List Int):=if qi rk w=J then CO (C3 rk w (I w-1)) else[]
theorem Yn(rk w:List Int):I (Gv rk w)<=12/\∀v∈Gv rk w,I v<=12:=by
 unfold Gv
 split
 ·rename_i h
  have h12:=(OL h).1
  have hl:=Mp (C3 rk w (I w-1))
  have:=Ns rk w (I w-1)
  exact⟨by omega,fun v hv=>Qu h12 (((Fq _).2 v).1 hv)⟩
 ·exact⟨by decide,by simp⟩
noncomputable abbrev qt:=fun a₀=>[ke 0,ke 1,ke 5,ch 6 (zw a₀)]
noncomputable abbrev gm:=fun (a₀:Nat)=>(yt,(a₀:Int))
noncomputable abbrev xz:=[kl Xp fd,bh 0,zt oy 31]
theorem AgJ(rk w:List Int)(hw:I w<=12)(hx:∀x∈w,0<=x/\x<I rk)(n:Nat):∀(k m:Nat) (outs:List (List Int)),I w-k=n->I outs=m+1->k+1<=I w->outs=C3 rk w k->
  Rn PP oy 0 (dl ((CO (C3 rk w (I w-1))).map cy)) bd ([kl Xp [1,1,1,0,1,0,0],.blk 0,kc Xp [1,1,1,1]]++[]) (cz 50 [(0,cw rk),(1,cw w),(5,.gro 0 (m+1) 1),(6,di k)]) ⟨[G (Ab (outs.map cy))],[]⟩:=by
 induction n using Nat.strongRecOn with
 |_ n ih=>
 intro k m outs hn ho hkw houts
 have hm:=Ns rk w k
 rw[←houts,ho] at hm
 by_cases hk:k+1<I w
 ·obtain⟨x,hx1⟩:=yk (show k<I w by omega)
  obtain⟨y,hy1⟩:=yk (show k+1<I w by omega)
  have bx:=hx x (HQ hx1)
  have bY:=hx y (HQ hy1)
  obtain⟨rx,hrx⟩:=yk (show x.toNat<I rk by omega)
  obtain⟨ry,hry⟩:=yk (show y.toNat<I rk by omega)
  have hpc:=Ald hx1 hy1 hrx hry
  by_cases hc:Y (rx<=ry)=J
  ·have g3:=ih (I w- (k+1)) (by omega) (k+1) (m+1) (outs++[w.take k++w.drop (k+1)]) rfl (by simp[ho]) (by omega) (by rw[houts];exact(Nr (hpc.trans hc)).symm)
   generalize CO (C3 rk w (I w-1))=ws at g3⊢
   clear houts
   refine lv 50 [] (.t<|.x (vi x)<|.x (vi rx)<|.x (vi y)<|.x (vi ry)<|.t<|.c (cw (w.take k++w.drop (k+1)))<|.lo [ke 0,ke 1,ch 5 (.gro 1 (m+1+1) 1),ch 6 (di (k+1:Nat))] ⟨[none,G (Ab ((outs++[w.take k++w.drop (k+1)]).map cy))],[]⟩) (Y (yu yt ((k:Int)+1)<(I (U vi w):Int))=J/\0<=(k:Int)/\(U vi w)[Z (k:Int)]?=G (vi x)/\0<=x/\(U vi rk)[Z x]?=G (vi rx)/\0<=yu yt ((k:Int)+1)/\(U vi w)[Z (yu yt ((k:Int)+1))]?=G (vi y)/\0<=y/\(U vi rk)[Z y]?=G (vi ry)/\Y (rx<=ry)=J/\(∀(x:V),x∈U vi w->V.size x=1)/\0<=(fun x=>x.snd) (gm k)/\(fun x=>x.snd) (gm k)<=(I (U vi w):Int)/\(∀(x:V),x∈U vi w->V.size x=1)/\0<=(fun x=>x.snd) (yt,yu yt ((k:Int)+1))/\(fun x=>x.snd) (yt,yu yt ((k:Int)+1))<=(I (U vi w):Int)/\F0 283 [bt (ae [ae (W 0 (take (Z ((fun x=>x.snd) (gm k))) (U vi w))),ae (W (Z ((fun x=>x.snd) (yt,yu yt ((k:Int)+1)))) (take (I (U vi w)) (U vi w)))])] (cw (take k w++W (k+1) w))/\I (gt outs)=(m+1)*1/\[cy (take k w++W (k+1) w)]≠ []/\(∀(y:V),y∈ [cy (take k w++W (k+1) w)]->V.size y=1)/\Ao (m+1+I (cy (take k w++W (k+1) w)::nV)) 24/\Q (bm 1 (m+1+1) 1)/\di (yu yt ((k:Int)+1))=di (↑(k+1):Int)/\cp 2 [] [none,G (Ab (U cy outs)++[bt (cy (take k w++W (k+1) w))])]=J/\[none,G (Ab (U cy outs)++[bt (cy (take k w++W (k+1) w))])]=[none,G (Ab (U cy (outs++[take k w++W (k+1) w])))]/\I0 oy 0 (dl (U cy ws)) bd xz (cz 50 [(0,cw rk),(1,cw w),(5,bm 1 (m+1+1) 1),(6,di (↑(k+1):Int))]) (bi [none,G (Ab (U cy (outs++[take k w++W (k+1) w])))] [])) ?_
   rw[PM k (by omega),Pb]
   refine⟨HM (by rw[HJ];omega),by omega,Ae hx1,bx.1,DU bx.1 hrx,by omega,Ae hy1,bY.1,DU bY.1 hry,hc,R8 w,by show(0:Int)<=(k:Int);omega,by show(k:Int)<=_;rw[HJ];omega,R8 w,by show(0:Int)<=((k+1:Nat):Int);omega,by show((k+1:Nat):Int)<=_;rw[HJ];omega,M5 w (by omega) k (by omega),by rw[Rk,ho],by simp,fun y hy=>by rw[Ia.1 hy];rfl,⟨by simp only[HP,HT];omega,by simp only[HP,HT];omega⟩,rfl,rfl,?_,rfl,⟨?_⟩⟩
   ·simp[cp,Am]
   ·refine EN (H0:=[none]) (fun E0 E h=>h.2) 1 rfl (fun cs hc=>?_) ?_ ?_ g3
    ·simp at hc;rw[hc];exact A9 _
    ·simp[cz,D.okNs,D.okN]
    ·simp[cz,D.rens,D.ren]
  ·have g3:=ih (I w- (k+1)) (by omega) (k+1) m outs rfl ho (by omega) (by rw[houts];exact(Qt (hpc.trans (HW hc))).symm)
   generalize CO (C3 rk w (I w-1))=ws at g3⊢
   clear houts
   refine lv 50 [] (.t<|.x (vi x)<|.x (vi rx)<|.x (vi y)<|.x (vi ry)<|.f<|.lo (qt k) ⟨[G (Ab (outs.map cy))],[]⟩) (Y (yu yt ((k:Int)+1)<(I (U vi w):Int))=J/\0<=(k:Int)/\(U vi w)[Z (k:Int)]?=G (vi x)/\0<=x/\(U vi rk)[Z x]?=G (vi rx)/\0<=yu yt ((k:Int)+1)/\(U vi w)[Z (yu yt ((k:Int)+1))]?=G (vi y)/\0<=y/\(U vi rk)[Z y]?=G (vi ry)/\Y (rx<=ry)=O/\di (yu yt ((k:Int)+1))=di (↑(k+1):Int)/\cp 1 [] [G (gt outs)]=J/\Q [G (gt outs)]/\It (type_of% g3)) ?_
   rw[PM k (by omega)]
   exact⟨HM (by rw[HJ];omega),by omega,Ae hx1,bx.1,DU bx.1 hrx,by omega,Ae hy1,bY.1,DU bY.1 hry,HW hc,rfl,I1.2 ⟨Am 1 [] _,rfl⟩,rfl,⟨g3⟩⟩
 ·have hlen:I (sortW outs)=I outs:=(DV outs).length_eq
  have hs:∀v∈outs,I v<=12:=fun v hv=>by rw[houts] at hv;exact Qu hw hv
  obtain⟨R,h3,h5,h4⟩:=Akk 206 (sortW outs) oh (by omega) (fun x hx y hy=>EA x y (by have:=hs x ((DV outs).mem_iff.1 hx);omega))
  rw[hlen,ho] at h4
  rw[show I w-1=k by omega, ←houts]
  obtain⟨ys,hys⟩:∃ys,ys=CO outs:=⟨_,rfl⟩
  rw[show AT oh (sortW outs)=CO outs from rfl, ←hys] at h4
  rw[←hys]
  refine lv 50 [] (.f<|.h (.q 9 0)<|.h (.ga 5)<|.h (.oc (.tup []) ⟨[G (Ab ((sortW outs).map cy))],[]⟩)<|.h (.oc (.arr 0 0 (I ys)) ⟨[G (Ab (ys.map cy)++R)],[]⟩)<|.h (.q 10 2)<|.h (.ct 49 (dl (ys.map cy)) ⟨[none],[]⟩) .r) (Y (yu yt ((k:Int)+1)<(I (U vi w):Int))=O/\(N0 [bt (bw 284 [] []),bo 0 0 (m+1),bt Aw2] (kb outs) (bl []) (xy outs))/\(N0 [bt (bw 286 [] []),bo 0 0 (m+1),bt Axa] (xy outs) (bo 0 0 (I ys)) (ny ys R))/\(∀(e:List D),e[49]?=G (bo 0 0 (I ys))->∀(E:c9) (g:Gh) (a:Act) (w:x5),FI E g (ny ys R) e a w->∃g',FI E g' (bi [none] []) (List.set e 49 (dl (U cy ys))) a w)/\Q (bt (mw ys))) ?_
  rw[PM k (by omega)]
  have hsp:=OC VB outs (by omega) (fun v hv=>by have:=hs v hv;omega)
  rw[ho] at hsp
  refine⟨HO (by rw[HJ];omega),fun o cl fo hop hc=>?_,fun o cl fo hop hc=>?_,fun e he=>?_,rfl⟩
  ·exact D9 (H:=[Ab (outs.map cy)]) hop hc (fs:=[]) (cs:=[]) (ds:=[.arr 0 0 (m+1),dfn 285]) rfl hsp rfl (fun cs hm=>by rw[Ia.1 hm];exact⟨Am _ _ _,Ow _⟩) rfl (I1.2 ⟨Am _ _ _,rfl⟩) (HR _)
  ·exact D9 (H:=[Ab ((sortW outs).map cy)]) hop hc (fs:=[]) (cs:=[]) (ds:=[.arr 0 0 (m+1),dfn 206]) rfl h4 rfl (fun cs hm=>by rw[Ia.1 hm];exact⟨Am _ _ _,Ow _⟩) rfl (I1.2 ⟨AO (Ov _ h3),rfl⟩) (HR _)
  ·exact Vm (σ:=⟨[G (Ab (ys.map cy)++R)],[]⟩) (q:=0) (sz:=1) (rest:=R) (by decide) (fun x hx=>by obtain⟨y,_,rfl⟩:=IQ.1 hx;rfl) (by rw[HJ]) rfl he
theorem Aca(rk w:List Int)(hw:I w<=12)(hx:∀x∈w,0<=x/\x<I rk)(n:Nat):∀(k:Nat),I w-k=n->(k=0∨k+1<=I w)->C3 rk w k=[]->
  Rn PP oy 0 (dl ((CO (C3 rk w (I w-1))).map cy)) bd ([kl Xp [1,1,1,0,1,0,0],.blk 0,kc Xp [1,1,1,1]]++[]) (cz 50 [(0,cw rk),(1,cw w),(5,.v .nils),(6,di k)]) bd:=by
 induction n using Nat.strongRecOn with
 |_ n ih=>
 intro k hn hkw houts
 by_cases hk:k+1<I w
 ·obtain⟨x,hx1⟩:=yk (show k<I w by omega)
  obtain⟨y,hy1⟩:=yk (show k+1<I w by omega)
  have bx:=hx x (HQ hx1)
  have bY:=hx y (HQ hy1)
  obtain⟨rx,hrx⟩:=yk (show x.toNat<I rk by omega)
  obtain⟨ry,hry⟩:=yk (show y.toNat<I rk by omega)
  have hpc:=Ald hx1 hy1 hrx hry
  by_cases hc:Y (rx<=ry)=J
  ·have g3:=AgJ rk w hw hx (I w- (k+1)) (k+1) 0 [w.take k++w.drop (k+1)] rfl rfl (by omega) (by rw[Nr (hpc.trans hc),houts];rfl)
   generalize CO (C3 rk w (I w-1))=ws at g3⊢
   refine lv 50 [] (.t<|.x (vi x)<|.x (vi rx)<|.x (vi y)<|.x (vi ry)<|.t<|.c (cw (w.take k++w.drop (k+1)))<|.h (.p (.v (.list [cy (w.take k++w.drop (k+1))])))<|.h .g<|.lo [ke 0,ke 1,ch 5 (.gro 0 1 1),ch 6 (di (k+1:Nat))] ⟨[G (Ab ([w.take k++w.drop (k+1)].map cy))],[]⟩) (Y (yu yt ((k:Int)+1)<(I (U vi w):Int))=J/\0<=(k:Int)/\(U vi w)[Z (k:Int)]?=G (vi x)/\0<=x/\(U vi rk)[Z x]?=G (vi rx)/\0<=yu yt ((k:Int)+1)/\(U vi w)[Z (yu yt ((k:Int)+1))]?=G (vi y)/\0<=y/\(U vi rk)[Z y]?=G (vi ry)/\Y (rx<=ry)=J/\(∀(x:V),x∈U vi w->V.size x=1)/\0<=(fun x=>x.snd) (gm k)/\(fun x=>x.snd) (gm k)<=(I (U vi w):Int)/\(∀(x:V),x∈U vi w->V.size x=1)/\0<=(fun x=>x.snd) (yt,yu yt ((k:Int)+1))/\(fun x=>x.snd) (yt,yu yt ((k:Int)+1))<=(I (U vi w):Int)/\F0 283 [bt (ae [ae (W 0 (take (Z ((fun x=>x.snd) (gm k))) (U vi w))),ae (W (Z ((fun x=>x.snd) (yt,yu yt ((k:Int)+1)))) (take (I (U vi w)) (U vi w)))])] (cw (take k w++W (k+1) w))/\(∀(τ:St),Ak PP (Oper.mk (G 44) (Op.buildSlice 50 1 #[(0,Operand.tmp 43)]) 50 "priority.go:29" #[Edge.mk 9 Ground.data] none) [cw (take k w++W (k+1) w)] τ (bt (ae [cy (take k w++W (k+1) w)])) τ)/\[cy (take k w++W (k+1) w)]≠ []/\(∀(y:V),y∈ [cy (take k w++W (k+1) w)]->V.size y=1)/\Ao 1 24/\Q (bm 0 1 1)/\di (yu yt ((k:Int)+1))=di (↑(k+1):Int)/\Q J/\Q [G [bt (cy (take k w++W (k+1) w))]]/\It (type_of% g3)) ?_
   rw[PM k (by omega)]
   exact⟨HM (by rw[HJ];omega),by omega,Ae hx1,bx.1,DU bx.1 hrx,by omega,Ae hy1,bY.1,DU bY.1 hry,hc,R8 w,by show(0:Int)<=(k:Int);omega,by show(k:Int)<=_;rw[HJ];omega,R8 w,by show(0:Int)<=((k+1:Nat):Int);omega,by show((k+1:Nat):Int)<=_;rw[HJ];omega,M5 w (by omega) k (by omega),fun τ=>AsB _ τ rfl,by simp,fun y hy=>by rw[Ia.1 hy];rfl,⟨by decide,by decide⟩,rfl,rfl,rfl,rfl,⟨g3⟩⟩
  ·have g3:=ih (I w- (k+1)) (by omega) (k+1) rfl (by omega) (by rw[Qt (hpc.trans (HW hc))];exact houts)
   generalize CO (C3 rk w (I w-1))=ws at g3⊢
   refine lv 50 [] (.t<|.x (vi x)<|.x (vi rx)<|.x (vi y)<|.x (vi ry)<|.f<|.l (qt k)) (Y (yu yt ((k:Int)+1)<(I (U vi w):Int))=J/\0<=(k:Int)/\(U vi w)[Z (k:Int)]?=G (vi x)/\0<=x/\(U vi rk)[Z x]?=G (vi rx)/\0<=yu yt ((k:Int)+1)/\(U vi w)[Z (yu yt ((k:Int)+1))]?=G (vi y)/\0<=y/\(U vi rk)[Z y]?=G (vi ry)/\Y (rx<=ry)=O/\di (yu yt ((k:Int)+1))=di (↑(k+1):Int)/\It (type_of% g3)) ?_
   rw[PM k (by omega)]
   exact⟨HM (by rw[HJ];omega),by omega,Ae hx1,bx.1,DU bx.1 hrx,by omega,Ae hy1,bY.1,DU bY.1 hry,HW hc,rfl,⟨g3⟩⟩
 ·have e:CO (C3 rk w (I w-1))=[]:=by
   rw[show C3 rk w (I w-1)=[] by rw[show I w-1=k by omega];exact houts]
   simp[CO,sortW,AT]
  rw[e]
  refine lv 50 [] (.f<|.c (.tup [])<|.c (dl []) .r) (Y (yu yt ((k:Int)+1)<(I (U vi w):Int))=O/\Ayh/\Ayi/\Q (bt (ae []))) ?_
  refine⟨?_,RD,AeW _,rfl⟩
  rw[HJ,PM k (by omega)];exact yq
theorem AgI(rk w:List Int)(hr:I rk<=1000)(hw:I w<=1000):F0 258 [cw rk,cw w] (dl ((Gv rk w).map cy)):=by
 have hb2:=AgC rk w hr hw
 unfold Gv
 cases hv:qi rk w with
 |false=>
  rw[hv] at hb2
  rw[Iz (by decide)]
  exact zq oy 50 (.c (db O) .r) (_/\Q (bt (ae []))) ⟨hb2,rfl⟩
 |true=>
  rw[hv] at hb2
  rw[I4 rfl]
  obtain⟨h12,hx⟩:=OL hv
  have g3:=Aca rk w h12 hx _ 0 rfl (.inl rfl) rfl
  generalize CO (C3 rk w (I w-1))=ws at g3⊢
  exact zq oy 50 (.c (db J)<|.k<|.l [ke 0,ke 1,ke 5,ch 6 (di (0:Nat))]) (_/\Q (di 0)/\_) ⟨hb2,rfl,iK g3⟩
def Fi(m:cx)(w:List Int):List (List Int):=if (m.kind==3)=J then Gv m.au w else Gn w
theorem MA(m:cx)(w:List Int):I (Fi m w)<=12/\∀v∈Fi m w,I v<=12:=by
 grind[Fi,Yn,XF]
theorem AiG(m:cx)(hr:I m.au<=1000)(w:List Int)(hw:I w<=1000):F0 215 [Af m,cw w] (dl ((Fi m w).map cy)):=by
 unfold Fi
 by_cases hk:(m.kind==3)=J
 ·have g3:=AgI m.au w hr hw
  generalize Gv m.au w=ws at g3⊢
  refine sv As8 14 [2] (.t<|.c (dl (ws.map cy)) .r) ((m.kind==3)=J/\type_of% g3/\bt (mw ws)=dl (U cy (if (m.kind==3)=J then ws else Gn w))) ?_
  grind
 ·have g3:=Aft w hw
  generalize Gn w=ws at g3⊢
  refine sv As8 14 [2] (.f<|.c (dl (ws.map cy)) .r) ((m.kind==3)=O/\type_of% g3/\bt (mw ws)=dl (U cy (if (m.kind==3)=J then Gv m.au w else ws))) ?_
  grind
noncomputable def Ev:=yl ZQ
def pa(outs:List b9):St:=match outs with
 |[]=>bd
 |o::outs=>⟨[G (Ab ((o::outs).map eV))],[]⟩
def og(outs:List b9):D:=match outs with
 |[]=>.v .nils
 |_::outs=>.gro 0 (I outs+1) 2
theorem WW{l:List b9}(h:l≠ []):og l=.gro 0 (I l) 2:=by cases l with
 |nil=>grind
 |cons=>rfl
theorem Qb{l:List b9}(h:l≠ []):pa l=⟨[G (Ab (l.map eV))],[]⟩:=by cases l with
 |nil=>grind
 |cons=>rfl
theorem qo{o:yy}{t:Nat}(x:b9)(τ:St)(ho:o.op=.buildSlice 23 1 #[(0,.tmp t)]):Ak PP o [dV x] τ (.v (.list [Ad x])) τ:=
 Fo ho rfl rfl l6 rfl (xs:=[Ad x]) rfl (fun y hy=>by rw[Ia.1 hy];rfl) (by decide) (by decide) (by decide)
theorem Db(l:List b9):(Ab (l.map eV)).all D.one=J:=by
 induction l with
 |nil=>rfl
 |cons x l ih=>rw[AK,List.all_append,ih];rfl
theorem EY(l:List b9)(x:b9):Ab (l.map eV)++[bt (vi x.n),bt (dq x.az)]=Ab ((l++[x]).map eV):=by rw[Ll,AK];rfl
def iw(c:b9)(k:Nat)(w:List Int):b9:=Lt c k (c.az.getD 0 e8).n w
def fp(m:cx)(c:b9)(K:Nat):List b9:=(List.range K).flatMap fun k=>(Fi m (AY (c.az.getD (1+k) (.mk 0 [])))).map (iw c k)
theorem M1(m:cx)(c:b9)(K:Nat):fp m c (K+1)=fp m c K++(Fi m (AY (c.az.getD (1+K) (.mk 0 [])))).map (iw c K):=by simp[fp,range_succ]
theorem QA(m:cx)(c:b9)(K:Nat):I (fp m c K)<=12*K:=by
 induction K<;>grind[MA,M1,fp]
theorem AjB{c s0 x:b9}{k:Nat}(h0:c.az[0]?=G s0)(hx:c.az[1+k]?=G x)(w:List Int):iw c k w=.mk c.n (Cb c.az s0 x s0.n (1+k) w):=by
 grind[iw,Tc]
theorem Q8{c:b9}(hc:c.size<=128){k:Nat}(hk:1+k<I c.az){w:List Int}(hw:I w<=12):(iw c k w).size<=200:=by
 obtain⟨s0,h0⟩:∃x,c.az[0]?=G x:=⟨_,HK (by omega)⟩
 obtain⟨x,hx⟩:∃x,c.az[1+k]?=G x:=⟨_,HK hk⟩
 rw[AjB h0 hx]
 have:=Lx h0 hx s0.n w c.n
 have:=c.size_eq
 omega
theorem Q9{m:cx}{c:b9}(hc:c.size<=128){K:Nat}(hK:K<I c.az){v:b9}(hv:v∈fp m c K):v.size<=200:=by
 obtain⟨k,hk,hv⟩:=List.mem_flatMap.1 hv
 grind[Q8,MA]
theorem Aoz(m:cx)(c s0 x:b9)(k:Nat)(hk2:k<=1000)(hc:c.size<=128)(h0:c.az[0]?=G s0)(hx:c.az[1+k]?=G x)(ws:List (List Int))(hw:I ws<=12)(hws:∀v∈ws,I v<=12)(l o1:List b9)(ho1:I o1<=900)
  (l2:Rn PP ZQ 0 (dm (l,0)) bd ([kl Ev [1,1,1,0,1,0,0],.blk 0,kc Ev [1,1,1,1]]++[]) (cz 51 [(2,.v (.ref (Aq m))),(3,.v (.ref (Ad c))),(7,og (o1++ws.map (iw c k))),(20,di (I m.ay)),(21,di (k+1:Nat))]) (pa (o1++ws.map (iw c k)))) (n:Nat):
  ∀(j:Nat) (outs:List b9),I ws-j=n->outs=o1++(ws.take j).map (iw c k)->Rn PP ZQ 0 (dm (l,0)) bd ([kl Ev [1,1,1,0,1,0,0,1,1,0,0,1,1,0,0],.blk 2,.blk 1,kc Ev [1,1,1,0,1,0,0,1,1,1],kl Ev [1,1,1,0,1,0,0],.blk 0,kc Ev [1,1,1,1]]++[]) (cz 51 [(2,.v (.ref (Aq m))),(3,.v (.ref (Ad c))),(7,og outs),(8,di k),(20,di (I m.ay)),(21,di k),(28,dl (ws.map cy)),(29,di (I ws)),(30,di j)]) (pa outs):=by
 induction n with
 |zero=>
  intro j outs hn houts
  rw[IB (by omega)] at houts
  rw[←houts] at l2
  clear houts
  by_cases hne:outs=[]
  ·subst hne
   exact lv 51 [2,3] (.f<|.l [ke 2,ke 3,ke 7,ke 20,ch 21 (di (k+1:Nat))]) (Y ((j:Int)<(I ws:Int))=O/\di (yu yt ((k:Int)+1))=di (↑(k+1):Int)/\_) ⟨yq,Ac,iK l2⟩
  ·rw[WW hne,Qb hne] at l2⊢
   exact lv 51 [2,3] (.f<|.lo [ke 2,ke 3,ke 7,ke 20,ch 21 (di (k+1:Nat))] ⟨[G (Ab (outs.map eV))],[]⟩) (Y ((j:Int)<(I ws:Int))=O/\di (yu yt ((k:Int)+1))=di (↑(k+1):Int)/\cp 1 [] [G (ec outs)]=J/\Q [G (ec outs)]/\_) ⟨yq,Ac,I1.2 ⟨Am 1 [] _,rfl⟩,rfl,iK l2⟩
 |succ n ih=>
  intro j outs hn houts
  obtain⟨w,hw1⟩:=yk (show j<I ws by omega)
  have hwl:=hws w (HQ hw1)
  have hsp:=Rx c (by omega) s0 x k h0 hx s0.n w (by omega)
  have hsz:=Lx h0 hx s0.n w c.n
  have hfw:=AjB h0 hx w
  have hol:I outs<=912:=by rw[houts,HY,HJ,ID];omega
  generalize b9.mk c.n (Cb c.az s0 x s0.n (1+k) w)=v at hsp hsz hfw
  have hx0:(c.az.map eV)[Z 0]?=G (Ad s0):=Ap (i:=0) h0
  have l2:=ih (j+1) (outs++[v]) (by omega) (by rw[houts,J2,hw1, ←hfw];simp)
  clear houts
  rw[WW (by simp),Qb (by simp)] at l2
  by_cases hne:outs=[]
  ·subst hne
   rw[show og ([]:List b9)=bt bv from rfl,show pa []=bd from rfl]
   refine lv 51 [2,3] (.t<|.x (cy w)<|.h (.xs (Ad s0))<|.c (dV v)<|.h (.p (.v (.list [Ad v])))<|.h .g<|.lo [ke 2,ke 3,ch 7 (.gro 0 1 2),ke 8,ke 20,ke 21,ke 28,ke 29,ch 30 (di (j+1:Nat))] ⟨[G (Ab ([v].map eV))],[]⟩) (Y ((j:Int)<(I ws:Int))=J/\0<=(j:Int)/\(U cy ws)[Z (j:Int)]?=G (cy w)/\Q 2/\iz 0<=0/\_/\_/\(∀(τ:St),Ak PP (Oper.mk (G 44) (Op.buildSlice 23 1 #[(0,Operand.tmp 43)]) 23 "channel.go:118" #[Edge.mk 9 Ground.data] none) [dV v] τ (bt (ae [Ad v])) τ)/\[Ad v]≠ []/\(∀(y:V),y∈ [Ad v]->V.size y=2)/\Ao 1 32/\Q (bm 0 1 2)/\di (yu yt ((j:Int)+1))=di (↑(j+1):Int)/\Q J/\[G (da v.n v.az)]=[G (Ab (eV v::nV))]/\_) ⟨yr,by omega,by rw[Jy,IP,hw1];rfl,rfl,IA _,hx0,hsp,fun τ=>qo v τ rfl,by simp,fun y hy=>by rw[Ia.1 hy];rfl,⟨by decide,by decide⟩,rfl,Ac,rfl,?_,iK l2⟩
   show [G [di v.n,bt (dq v.az)]]=[G (Ab ([v].map eV))]
   rw[AK];rfl
  ·rw[WW hne,Qb hne]
   refine lv 51 [2,3] (.t<|.x (cy w)<|.h (.xs (Ad s0))<|.c (dV v)<|.lo [ke 2,ke 3,ch 7 (.gro 1 (I outs+1) 2),ke 8,ke 20,ke 21,ke 28,ke 29,ch 30 (di (j+1:Nat))] ⟨[none,G (Ab ((outs++[v]).map eV))],[]⟩) (Y ((j:Int)<(I ws:Int))=J/\0<=(j:Int)/\(U cy ws)[Z (j:Int)]?=G (cy w)/\Q 2/\iz 0<=0/\type_of% hx0/\type_of% hsp/\I (ec outs)=I outs*2/\[Ad v]≠ []/\(∀(y:V),y∈ [Ad v]->V.size y=2)/\Ao (I outs+I (Ad v::nV)) 32/\Q (bm 1 (I outs+1) 2)/\di (yu yt ((j:Int)+1))=di (↑(j+1):Int)/\cp 2 [] [none,G (Ab (U eV outs)++(da v.n v.az))]=J/\[none,G (Ab (U eV outs)++(da v.n v.az))]=[none,G (Ab (U eV (outs++[v])))]/\I0 ZQ 0 (dm (l,0)) bd [kl Ev [1,1,1,0,1,0,0,1,1,0,0,1,1,0,0],bh 2,bh 1,kc Ev [1,1,1,0,1,0,0,1,1,1],kl Ev fd,bh 0,kc Ev [1,1,1,1]] (cz 51 [(2,bt (g7 m)),(jq c),(7,bm 1 (I outs+1) 2),(8,di (k:Int)),(20,di (I m.ay:Int)),(21,di (k:Int)),(28,bt (mw ws)),(29,di (I ws:Int)),(30,di (↑(j+1):Int))]) (bi [none,G (Ab (U eV (outs++[v])))] [])) ?_
   rw[EY]
   refine⟨yr,by omega,by rw[Jy,IP,hw1];rfl,rfl,IA _,hx0,hsp,B1 _,by simp,fun y hy=>by rw[Ia.1 hy];rfl,⟨?_,?_⟩,rfl,Ac,?_,rfl,⟨?_⟩⟩
   ·simp only[HP,HT];omega
   ·simp only[HP,HT];omega
   ·simp[cp,Am]
   ·rw[HY] at l2
    refine EN (H0:=[none]) (fun E0 E h=>h.2) 1 rfl (fun cs hc=>?_) ?_ ?_ l2
    ·simp at hc;rw[hc];exact A9 _
    ·simp[cz,D.okNs,D.okN]
    ·simp[cz,D.rens,D.ren]
noncomputable abbrev Av3:=(bw 160 [] [])
noncomputable abbrev uv:=fun a₀=>(bi [G (ec a₀)] [])
theorem Alx(m:cx)(c s0:b9)(hc:c.size<=128)(hr:I m.au<=1000)(hp:I m.ay<=2)(h0:c.az[0]?=G s0)(hl:I c.az=1+I m.ay)(hw:∀(k:Nat) (x:b9),c.az[1+k]?=G x->I x.az<=12)(n:Nat):
  ∀(k:Nat) (outs:List b9),I m.ay-k=n->k<=I m.ay->outs=fp m c k->Rn PP ZQ 0 (dm (sortV (fp m c (I m.ay)),0)) bd ([zu ZQ 244,.blk 0,zt ZQ 31]++[]) (cz 51 [(2,.v (.ref (Aq m))),(3,.v (.ref (Ad c))),(7,og outs),(20,di (I m.ay)),(21,di k)]) (pa outs):=by
 induction n with
 |zero=>
  intro k outs hn hkp houts
  rw[show I m.ay=k by omega, ←houts]
  have ho:=QA m c k
  rw[←houts] at ho
  have hs:∀v∈outs,v.size<=200:=fun v hv=>Q9 (m:=m) (K:=k) hc (by omega) (by rw[←houts];exact hv)
  clear houts
  cases outs with
  |nil=>
   rw[show sortV []=[] by simp[sortV]]
   rw[show og ([]:List b9)=bt bv from rfl,show pa []=bd from rfl]
   exact zo [2,3] (.f<|.c (.tup []) .r) (yd k k/\_/\bl qv=dm ([],0)) ⟨yq,MR,rfl⟩
  |cons o outs=>
   rw[show og (o::outs)=bm 0 (I (o::outs)) 2 from rfl,show pa (o::outs)=⟨[G (Ab ((o::outs).map eV))],[]⟩ from rfl]
   generalize o::outs=ol at*
   have hsl:I (sortV ol)=I ol:=(BL ol).length_eq
   refine zo [2,3] (.f<|.h (.q 14 0)<|.h (.ga 7)<|.h (.oc (.tup []) ⟨[G (Ab ((sortV ol).map eV))],[]⟩)<|.h (.q 15 1)<|.h (.ct 50 (co (sortV ol)) ⟨[none],[]⟩) .r) (yd k k/\(N0 [bt Av3,bo 0 0 (I ol),bt rc] (uv ol) (bl []) (bi [G (Ab (U eV (sortV ol)))] []))/\(∀(e:List D),e[50]?=G (bo 0 0 (I ol))->∀(E:c9) (g:Gh) (a:Act) (w:x5),FI E g (bi [G (Ab (U eV (sortV ol)))] []) e a w->∃g',FI E g' (bi [none] []) (List.set e 50 (co (sortV ol))) a w)/\Q (dm (sortV ol,0))) ⟨yq,fun o cl fo hop hc=>?_,fun e he=>?_,rfl⟩
   ·exact D9 (H:=[Ab (ol.map eV)]) hop hc (fs:=[]) (cs:=[]) (ds:=[.arr 0 0 (I ol),dfn 112]) rfl (L1 ol (by omega) (fun v hv=>by have:=hs v hv;omega)) rfl (fun cs hm=>by rw[Ia.1 hm];exact⟨Am _ _ _,Db _⟩) rfl (I1.2 ⟨Am _ _ _,rfl⟩) (HR _)
   ·exact AdV (σ:=⟨[G (Ab ((sortV ol).map eV))],[]⟩) (q:=0) (sz:=2) (by decide) (D3 _) (by rw[HJ,hsl]) rfl he
 |succ n ih=>
  intro k outs hn hkp houts
  obtain⟨x,hx⟩:∃x,c.az[1+k]?=G x:=⟨_,HK (by omega)⟩
  have hx12:=hw k x hx
  have hct:=SU c k x hx (by omega) (by omega)
  have w3:=AiG m hr (AY x) (by rw[HJ];omega)
  obtain⟨w1,w2⟩:=MA m (AY x)
  have ho:=QA m c k
  rw[←houts] at ho
  have hnx:=M1 m c k
  rw[←houts,show c.az.getD (1+k) (.mk 0 [])=x by rw[HS,hx];rfl] at hnx
  generalize Fi m (AY x)=ws at w1 w2 w3 hnx
  have l2:=Aoz m c s0 x k (by omega) hc h0 hx ws w1 w2 (sortV (fp m c (I m.ay))) outs (by omega) (by rw[←hnx];exact ih (k+1) _ (by omega) (by omega) rfl) _ 0 outs rfl (by simp)
  clear houts hnx
  generalize sortV (fp m c (I m.ay))=l at l2⊢
  cases outs with
  |nil=>
   rw[show og ([]:List b9)=bt bv from rfl,show pa []=bd from rfl] at l2⊢
   exact zo [2,3] (.t<|.c (cw (AY x))<|.c (dl (ws.map cy))<|.l [ke 2,ke 3,ke 7,ke 8,ke 20,ke 21,ke 28,ch 29 (di (I ws)),ch 30 (di (0:Nat))]) (ye k (I m.ay)/\_/\_/\di (I (U cy ws):Int)=di (I ws:Int)/\Q (di 0)/\_) ⟨yr,hct,w3,by rw[HJ],rfl,iK l2⟩
  |cons o outs=>
   rw[WW (by simp),Qb (by simp)] at l2⊢
   generalize o::outs=ol at*
   exact zo [2,3] (.t<|.c (cw (AY x))<|.c (dl (ws.map cy))<|.l [ke 2,ke 3,ke 7,ke 8,ke 20,ke 21,ke 28,ch 29 (di (I ws)),ch 30 (di (0:Nat))]) (ye k (I m.ay)/\_/\_/\di (I (U cy ws):Int)=di (I ws:Int)/\Q (di 0)/\_) ⟨yr,hct,w3,by rw[HJ],rfl,iK l2⟩
theorem Ah0(m:cx)(t:cr)(hm:oa m t)(hr:I m.au<=1000)(c:b9)(hv:Al t c=J):F0 149 [Af m,dV c] (dm (sortV (fp m c (I m.ay)),0)):=by
 have hsh:=hm.shape c hv
 have hsz:=hsh.size
 have hck:=AjZ m t hm c (by omega)
 rw[pr,I4 hv] at hck
 obtain⟨s0,h0⟩:∃x,c.az[0]?=G x:=⟨_,HK (by rw[hsh.len];omega)⟩
 have l2:=Alx m c s0 hsz hr hm.few.2 h0 hsh.len hsh.word _ 0 [] rfl (by omega) rfl
 generalize sortV (fp m c (I m.ay))=l at l2⊢
 exact sv ZQ 51 [2,3] (.c (di 0)<|.k<|.l [ke 2,ke 3,ke 7,ch 20 (di (I m.ay)),ch 21 (di (0:Nat))]) (_/\di (I (df m.ay):Int)=di (I m.ay:Int)/\Q (di 0)/\_) ⟨hck,by rw[HJ],rfl,iK l2⟩
end Go.Proofs.YtgigepkgakpjbaaGreat
