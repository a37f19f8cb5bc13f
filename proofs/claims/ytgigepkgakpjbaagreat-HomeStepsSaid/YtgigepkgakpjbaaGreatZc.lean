/-
  A part of the proof.
-/
import Derived.Test.YtgigepkgakpjbaaGreatZb
import Derived.Shelf.SlSortCmp.WholeK
import Derived.Shelf.SlGeneric
import Derived.Ground.SlsfProg
import Derived.Test.YtgigepkgakpjbaaGreatZa
import Derived.Laws.StructEq
import Derived.ChangeKeysEq
open Go.Proofs.Tryz renaming f42->Ad4,f50->Ad9,f72->Aia,f75->AjJ,f104->AlD,f60->AlG,f71->AlJ,f146->AoL,f39->AoQ,f151->Ap1,f248->Apc,f203->Api,f49->Apl,f24->Apm,f65->Apn,f18->Apo,f20->App,f57->Apq,f154->Ar3,f53->Ar9,f44->ArA,f91->ArB,f59->ArC,f64->ArD,f63->ArE,f54->ArF,f52->ArG,f94->ArH,f56->ArI,f45->ArJ,f107->Arp,f201->As1,f207->As6,f130->AsZ,f93->Asf,f192->Atb,f143->Ati,f204->Atj,f202->Atk,f131->B5,f27->Cr,f38->GP,f148->Ha,f15->Ml,f58->NT,f61->NU,f55->O3,f62->O4,f102->S8,f95->S9,f14->SD,f108->T4,f25->Vd,f26->Vg,f22->Vh,f51->YH,f29->YI,f33->ml,f69->ni,f32->pp,f73->ql,f37->sb,f68->tw,f92->uf,f88->ug,f152->ul,f106->vz
open Go.Dv Go.Nv
set_option maxRecDepth 20000
open Go.IntKind (u64)
open Go.IntKind renaming wrap->yu,i64->yt
open List renaming length->I,map->U,drop->W
open Option renaming some->G
open Bool renaming true->J,false->O
open Decidable renaming decide->Y
open Int renaming toNat->Z
open Go.Dv.V renaming list->ae,str->ab,agg->aa,int->a8,ref->bz,fn->bw,nils->bv,bool->bu
open Go.Dv.D renaming v->bt,acc->br,ptr->bq,arr->bo,gro->bm,tup->bl,undef->bk,dagg->bj
open Go.Dv.St renaming mk->bi
open Go.Dv.KI renaming blk->bh
open _root_.ByteArray renaming mk->bf
open Go renaming Operand->x8,Program->x7,TypeId->x6,World->x5,Value->yz,Oper->yy,FuncId->yx,Func->yw,IntKind->yv
open Go.Dv
namespace Go.Proofs.YtgigepkgakpjbaaGreat
open List (zipWith)
def gr(c:b9):Int:=(c.az.headD (.mk 0 [])).n
def fg(c:b9):List Int:=c.az.tail.map b9.n
theorem AcH(ys:List Int):(ys.map lf).map b9.n=ys:=by
 induction ys<;>grind[b9.n]
theorem AaT(s:Int)(ys:List Int):gr (DQ s ys)=s:=rfl
theorem UJ(s:Int)(ys:List Int):fg (DQ s ys)=ys:=by
 show(U lf ys).map b9.n=ys
 exact AcH ys
structure BO(m:cx)(c:b9):Prop where
 eq:c=DQ (gr c) (fg c)
 st:0<=gr c/\gr c<I m.aw
 len:I (fg c)=I m.ay
 nm:∀y∈fg c,0<=y/\y<=1048576
theorem vd(m:cx)(s:Int)(hs:0<=s/\s<I m.aw)(ys:List Int)(hy:I ys=I m.ay)(h:∀y∈ys,0<=y/\y<=1048576):BO m (DQ s ys):=
 ⟨by rw[AaT,UJ],by grind[AaT],by grind[UJ],by grind[UJ]⟩
structure i9(m:cx):Prop where
 ok:m.ok
 kind:m.kind=1
 move:∀r∈m.av,r.move=[]
 start:BO m m.start
 few:I m.aw<=2/\m.ay.length<=2
structure Am1(m:cx)(r:cm):Prop where
 ai:0<=r.ai/\r.ai<I m.aw
 to:0<=r.to/\r.to<I m.aw
 needL:I r.ak=I m.ay
 giveL:I r.aj=I m.ay
 ak:∀x∈r.ak,0<=x/\x<=16
 aj:∀x∈r.aj,0<=x/\x<=16
 move:r.move=[]
theorem i9.rule{m:cx}(h:i9 m){r:cm}(hr:r∈m.av):Am1 m r:=by
 have h1:=h.ok.right r hr
 rw[FB,I4 h.kind] at h1
 simp only[EO,Cf,HL,IU,IJ] at h1
 obtain⟨h2,h3,⟨h4,h5,h6,h7⟩,_⟩:=h1
 have h2:=C6 h2
 have h3:=C6 h3
 exact⟨⟨h3.1,by omega⟩,⟨h2.1,by omega⟩,by omega,by omega,fun x hx=>C6 (h6 x hx),fun x hx=>C6 (h7 x hx),h.move r hr⟩
theorem i9.ay{m:cx}(h:i9 m):1<=I m.ay/\m.ay.length<=6/\1<=I m.aw/\m.aw.length<=8/\m.av.length<=12:=by
 obtain⟨h1,h2,h3,h4,h5,_⟩:=h.ok.sz
 omega
theorem BO.isC{m:cx}{c:b9}(h:BO m c):mz c (gr c) (fg c):=by
 have:=_root_.Go.Proofs.YtgigepkgakpjbaaGreat.isC (gr c) (fg c)
 rwa[←h.eq] at this
theorem BO.size{m:cx}(hm:i9 m){c:b9}(h:BO m c):c.size<=8:=by
 rw[h.eq,H7,h.len]
 have:=hm.ay;omega
theorem BO.valid{m:cx}(hm:i9 m){c:b9}(h:BO m c):Al (AM m) c=J:=by
 rw[h.eq]
 exact Lu m hm.kind (by have:=hm.ay;omega) _ h.st _ h.len h.nm
def l0(m:cx)(c:b9)(i:Int):List b9×Int:=if i<0 then([],0) else match m.av[i.toNat]? with
 |some r=>C7 (kv r (gr c) (fg c))
 |none=>([],0)
def Gr(m:cx)(c:b9):List er×Int:=DD (l0 m c) (I m.av+1) (-1) []
def CJ(r:cm)(ys:List Int):List Int:=zipWith (fun w g=>w+g) (ou r ys) r.aj
theorem UB:∀(ws gs:List Int) (xs:List b9),((UC xs ws gs).2=0/\(UC xs ws gs).1=.mk 0 (xs++(zipWith (fun w g=>w+g) ws gs).map lf)/\∀y∈zipWith (fun w g=>w+g) ws gs,y<=1048576)∨UC xs ws gs=(.mk 0 [],1)
 |[],gs,xs=>.inl ⟨by rfl,by simp[UC],by simp⟩
 |w::ws,[],xs=>.inl ⟨by rfl,by simp[UC],by simp⟩
 |w::ws,g::gs,xs=>by
  by_cases h:w+g>1048576
  ·grind[UC]
  ·rw[UC,Iz (by grind)]
   rcases UB ws gs (xs++[lf (w+g)]) with⟨h1,h2,h3⟩|h1
   all_goals simp_all
theorem W8:∀{ns ys:List Int},Ei ns ys=J->∀(i:Nat) (n y:Int),ns[i]?=G n->ys[i]?=G y->n<=y
 |[],ys,_,i,n,y,h,_=>by grind
 |n::ns,[],_,i,n',y,_,h=>by grind
 |n::ns,y::ys,h,i,n',y',h1,h2=>by
  simp only[Ei,HL,IZ,J8] at h
  cases i with
  |zero=>grind
  |succ i=>exact W8 h.2 i n' y' (by grind) (by grind)
theorem ZF{m:cx}{r:cm}(hr:Am1 m r){ys:List Int}(hy:I ys=I m.ay):I (CJ r ys)=I m.ay:=by
 have h1:=hr.needL;have h2:=hr.giveL
 grind[CJ,ou]
theorem AeN{r:cm}{ys:List Int}{i:Nat}{z:Int}(h:(CJ r ys)[i]?=G z):∃y n g,ys[i]?=G y/\r.ak[i]?=G n/\r.aj[i]?=G g/\z=y-n+g:=by
 grind[CJ,ou]
theorem ApZ{m:cx}{r:cm}(hr:Am1 m r){c:b9}(hc:BO m c):
  ((kv r (gr c) (fg c)).2=0/\gr c=r.ai/\(kv r (gr c) (fg c)).1=DQ r.to (CJ r (fg c))/\BO m (DQ r.to (CJ r (fg c))))∨(kv r (gr c) (fg c)).2=1∨(kv r (gr c) (fg c)).2=18:=by
 unfold kv
 split
 ·rename_i he
  simp only[io,HL,IJ] at he
  rcases UB (ou r (fg c)) r.aj [lf r.to] with⟨h1,h2,h3⟩|h1
  ·refine .inl ⟨h1,he.1,by rw[h2];rfl,vd m _ hr.to _ (ZF hr hc.len) fun z hz=>⟨?_,h3 z hz⟩⟩
   obtain⟨i,hi⟩:=List.getElem?_of_mem hz
   obtain⟨y,n,g,a1,a2,a3,rfl⟩:=AeN hi
   have b1:=W8 he.2 i n y a2 a1
   have b2:=(hr.aj g (HQ a3)).1
   omega
  grind
 omega
structure AeS(m:cx)(c:b9)(s:er):Prop where
 rule:∃(i:Nat) (r:cm),s.1=i/\m.av[i]?=G r/\gr c=r.ai/\s.2=DQ r.to (CJ r (fg c))/\kv r (gr c) (fg c)=(s.2,0)
 ok:BO m s.2
theorem Xw{m:cx}(hm:i9 m){c:b9}(hc:BO m c)(i:Int):((l0 m c i).2=0∨(l0 m c i).2=1)/\(l0 m c i).1.length<=1/\∀v∈ (l0 m c i).1,AeS m c (i,v):=by
 unfold l0
 split
 ·grind
 ·split
  ·rename_i r hi
   have hr:=hm.rule (HQ hi)
   rcases ApZ hr hc with⟨h1,h2,h3,h4⟩|h1|h1
   ·have:C7 (kv r (gr c) (fg c))=([DQ r.to (CJ r (fg c))],0):=by
     grind[C7]
    rw[this]
    refine⟨.inl rfl,by simp,fun v hv=>?_⟩
    rw[Ia.1 hv]
    exact⟨⟨i.toNat,r,by omega,hi,h2,rfl,by grind⟩,h4⟩
   all_goals grind[C7]
  grind
theorem V2{ap:Int->List b9×Int}(he:∀i,(ap i).2=0∨(ap i).2=1)(hl:∀i,(ap i).1.length<=1){Q:er->Prop}(hq:∀i,∀v∈ (ap i).1,Q (i,v)):∀(n:Nat) (i:Int) (acc:List er),(∀s∈acc,Q s)->
  ((DD ap n i acc).2=0∨(DD ap n i acc).2=1)/\(DD ap n i acc).1.length<=I acc+n/\∀s∈ (DD ap n i acc).1,Q s
 |0,i,acc,ha=>by
  grind[DD]
 |n+1,i,acc,ha=>by
  rw[DD]
  split
  ·grind
  ·obtain⟨h1,h2,h3⟩:=V2 he hl hq n (i+1) (acc++(ap i).1.map fun v=>(i,v)) (fun s hs=>by
    grind)
   grind
theorem MO{m:cx}(hm:i9 m){c:b9}(hc:BO m c):((Gr m c).2=0∨(Gr m c).2=1)/\(Gr m c).1.length<=13/\∀s∈ (Gr m c).1,AeS m c s:=by
 have:=hm.ay
 obtain⟨h1,h2,h3⟩:=V2 (ap:=l0 m c) (fun i=>(Xw hm hc i).1) (fun i=>(Xw hm hc i).2.1) (Q:=AeS m c) (fun i=>(Xw hm hc i).2.2) (I m.av+1) (-1) [] (by simp)
 grind[Gr]
inductive uo (m:cx) (c:b9):List er->b9->Prop where
 |nil:uo m c [] c
 |snoc {l:List er} {d:b9} {s:er}:uo m c l d->(Gr m d).2=0->s∈ (Gr m d).1->uo m c (l++[s]) s.2
theorem uo.ok{m:cx}(hm:i9 m){c d:b9}{l:List er}(hc:BO m c)(h:uo m c l d):BO m d:=by
 induction h with
 |nil=>exact hc
 |snoc _ _ hs ih=>exact((MO hm ih).2.2 _ hs).ok
structure jr{α:Type}(c:α->α->Int)(S:α->Prop):Prop where
 refl:∀x,S x->c x x=0
 eq:∀x y,S x->S y->c x y=0->x=y
 swap:∀x y,S x->S y->(c x y<0↔0<c y x)
 trans:∀x y z,S x->S y->S z->c x y<0->c y z<0->c x z<0
theorem QT:jr AP fun _=>True:=by
 constructor<;>simp only[AP]<;>intros<;>(repeat' split at*)<;>(repeat' split)<;>omega
theorem Ai4{α:Type}{c:α->α->Int}{S:α->Prop}(h:jr c S):jr (B4 c) fun l=>∀x∈l,S x:=by
 have rfl':∀l:List α,(∀x∈l,S x)->B4 c l l=0:=by
  intro l
  induction l with
  |nil=>intro _;rfl
  |cons x l ih=>intro hs;rw[B4,I4 (h.refl x (hs x (by simp)))];grind
 have eq':∀a b:List α,(∀x∈a,S x)->(∀x∈b,S x)->B4 c a b=0->a=b:=by
  intro a
  induction a with
  |nil=>intro b _ _ e;cases b<;>grind[B4]
  |cons x a ih=>intro b ha hb e;cases b with
   |nil=>grind[B4]
   |cons y b=>
    simp only[B4] at e
    split at e
    ·rename_i h0
     rw[h.eq x y (ha x (by simp)) (hb y (by simp)) h0,ih b (fun z hz=>ha z (by grind)) (fun z hz=>hb z (by grind)) e]
    omega
 have c0:∀x y,S x->S y->(c x y=0↔c y x=0):=fun x y hx hy=>by
  have h1:=h.swap x y hx hy
  have h2:=h.swap y x hy hx
  omega
 have sw:∀a b:List α,(∀x∈a,S x)->(∀x∈b,S x)->(B4 c a b<0↔0<B4 c b a):=by
  intro a
  induction a with
  |nil=>intro b _ _;cases b<;>simp[B4]
  |cons x a ih=>intro b ha hb;cases b with
   |nil=>rfl
   |cons y b=>
    have hx:=ha x (by simp);have hy:=hb y (by simp)
    simp only[B4]
    by_cases h0:c x y=0
    ·grind
    ·rw[Iz h0,Iz (fun e=>h0 ((c0 x y hx hy).2 e))];exact h.swap x y hx hy
 have tr:∀a b d:List α,(∀x∈a,S x)->(∀x∈b,S x)->(∀x∈d,S x)->B4 c a b<0->B4 c b d<0->B4 c a d<0:=by
  intro a
  induction a with
  |nil=>intro b d _ _ _ h1 h2;cases b with
   |nil=>omega
   |cons y b=>cases d<;>grind[B4]
  |cons x a ih=>intro b d ha hb hd h1 h2;cases b with
   |nil=>grind[B4]
   |cons y b=>cases d with
    |nil=>grind[B4]
    |cons z d=>
     have hx:=ha x (by simp);have hy:=hb y (by simp);have hz:=hd z (by simp)
     have ha':∀w∈a,S w:=fun w hw=>ha w (by grind)
     have hb':∀w∈b,S w:=fun w hw=>hb w (by grind)
     have hd':∀w∈d,S w:=fun w hw=>hd w (by grind)
     simp only[B4] at*
     by_cases e1:c x y=0
     ·have:=h.eq x y hx hy e1;subst this
      rw[I4 e1] at h1
      by_cases e2:c x z=0
      ·rw[I4 e2] at h2⊢
       exact ih b d ha' hb' hd' h1 h2
      omega
     ·rw[Iz e1] at h1
      by_cases e2:c y z=0
      ·have:=h.eq y z hy hz e2;grind
      ·rw[Iz e2] at h2
       have:=h.trans x y z hx hy hz h1 h2
       omega
 exact⟨rfl',eq',sw,tr⟩
theorem H6(a b:b9):Ay a b=if AP a.n b.n=0 then(if AP (I a.az) (I b.az)=0 then B4 Ay a.az b.az else AP (I a.az) (I b.az)) else AP a.n b.n:=by
 rw[QS, ←or3]
theorem b9.ext:∀{a b:b9},a.n=b.n->a.az=b.az->a=b
 |.mk _ _,.mk _ _,rfl,rfl=>rfl
theorem Aer(N:Nat):jr Ay fun v=>v.size<=N:=by
 induction N with
 |zero=>exact⟨fun x h=>absurd x.size_pos (by omega),fun x _ h=>absurd x.size_pos (by omega),fun x _ h=>absurd x.size_pos (by omega),fun x _ _ h=>absurd x.size_pos (by omega)⟩
 |succ N ih=>
  have hL:=Ai4 ih
  have hk:∀v:b9,v.size<=N+1->∀x∈v.az,x.size<=N:=fun v hv x hx=>by
   have:=v.size_eq;have:=b9.size_mem hx;omega
  have h1:=QT
  have i0:∀x y:Int,AP x y=0↔AP y x=0:=fun x y=>by
   grind[AP]
  refine⟨fun x hx=>?_,fun x y hx hy e=>?_,fun x y hx hy=>?_,fun x y z hx hy hz e1 e2=>?_⟩
  ·rw[H6,I4 (h1.refl _ trivial),I4 (h1.refl _ trivial)];exact hL.refl _ (hk x hx)
  ·rw[H6] at e
   split at e
   ·rename_i a1
    split at e
    ·exact b9.ext (h1.eq _ _ trivial trivial a1) (hL.eq _ _ (hk x hx) (hk y hy) e)
    omega
   omega
  ·rw[H6,H6 y x]
   by_cases a1:AP x.n y.n=0
   ·rw[I4 a1,I4 ((i0 _ _).1 a1)]
    by_cases a2:AP (I x.az) (I y.az)=0
    ·rw[I4 a2,I4 ((i0 _ _).1 a2)];exact hL.swap _ _ (hk x hx) (hk y hy)
    grind[AP]
   grind[AP]
  ·rw[H6] at e1 e2⊢
   by_cases a1:AP x.n y.n=0
   ·rw[I4 a1] at e1
    have b1:=h1.eq _ _ trivial trivial a1
    rw[b1]
    by_cases c1:AP y.n z.n=0
    ·rw[I4 c1] at e2⊢
     by_cases a2:AP (I x.az) (I y.az)=0
     ·rw[I4 a2] at e1
      have b2:=h1.eq _ _ trivial trivial a2
      rw[b2]
      by_cases c2:AP (I y.az) (I z.az)=0
      ·rw[I4 c2] at e2⊢;exact hL.trans _ _ _ (hk x hx) (hk y hy) (hk z hz) e1 e2
      omega
     grind[AP]
    omega
   grind[AP]
theorem BF:jr Ay fun _=>True:=by
 have h:∀x y z:b9,jr Ay fun v=>v.size<=x.size+y.size+z.size:=fun x y z=>Aer _
 exact⟨fun x _=>(h x x x).refl x (by omega),fun x y _ _ e=>(h x y y).eq x y (by omega) (by omega) e,fun x y _ _=>(h x y y).swap x y (by omega) (by omega),fun x y z _ _ _ e1 e2=>(h x y z).trans x y z (by omega) (by omega) (by omega) e1 e2⟩
theorem EB{a b:b9}:Ay a b=0↔a=b:=⟨fun h=>BF.eq a b trivial trivial h,fun h=>by rw[h];exact BF.refl b trivial⟩
end Go.Proofs.YtgigepkgakpjbaaGreat

namespace Go.Nv
section
variable {C : c9 -> c9 -> Prop} {P : x7} {R : List D -> St -> Prop} {k : List KI} {env : List D} {σ : St} {ops : Array yy} {L : List yy} {o : yy}
end
section
variable {P : x7} {R : List D -> St -> Prop} {k : List KI} {nt : Nat} {E : List (Nat × D)} {σ : St} {ops : Array yy} {L0 : List yy} {C : c9 -> c9 -> Prop}
end
section
variable {P : x7} {fn : yw} {d : D} {σ' : St} {m : Nat} {k : List KI} {E : List (Nat × D)} {σ : St}
theorem OH(hm:P.follows .mixedOrders=J)(nt:Nat)(im:List Nat)(rg i:Nat){ops:Array yy}{L:List yy}(s:Sc)
  (h:B3 (cz nt E) fun env=>ZK P im rg ops (fun L sl σ=>It (BS (CN m) P (fun env σ1=>A7 P fn env σ1 d σ') (k++[]) ops L (cz nt sl) σ)) L i s env σ fun s env σ=>vc (CN m) m P (fun env σ1=>A7 P fn env σ1 d σ') (li P fn.results.toList d σ') nt im [] 10000 s k env σ):
  BS (CN m) P (fun env σ1=>A7 P fn env σ1 d σ') k ops L (cz nt E) σ:=by
 have:=Qj hm (NA m) m (fun _ _ h=>h.2) nt im rg i s h
 grind
end
theorem F4{σ:St}{q:Nat}{cs cs':List D}(hq:σ.H[q]?=G (G cs))(h:∀(g:Gh) (us:List yz),Ag g cs us->Ag g cs' us)(h1:(∀c∈cs,c.one=J)->∀c∈cs',c.one=J)(e:List D):Cv e σ e ⟨σ.H.set q (G cs'),σ.own⟩:=fun E g a w hf=>by
 refine⟨g,?_,hf.env,hf.defers⟩
 have hw:=hf.wi
 obtain⟨us,rest,et,hb,hr,h2,hM,hκ⟩:=hw.rep.obj q cs hq
 exact hw.setObj hq hb hκ (h g us hr) (h1 h2) (fun _ _=>rfl) rfl rfl rfl rfl
theorem AdV{env:List D}{σ:St}{q t sz n:Nat}{xs:List V}(hsz:0<sz)(hs:∀x∈xs,x.size=sz)(hn:n=I xs)(hq:σ.H[q]?=G (G (Ab xs)))(ht:env[t]?=G (.arr q 0 n)):Cv env σ (env.set t (.v (.list xs))) ⟨σ.H.set q none,σ.own⟩:=fun E g a w hf=>by
 subst hn
 have hone:∀y∈xs.flatMap V.cellsV,y.isAgg=O:=fun y hy=>by
  obtain⟨_,_,_,_,_,h1,_⟩:=hf.wi.rep.obj q _ hq
  have:=h1 (.v y) (IQ.2 ⟨y,hy,rfl⟩)
  grind[D.one]
 have hz:Fz (EV [q] σ.H) env (env.set t (.v (.list xs))):=by
  refine OY (n:=1) (Fz.refl env) ht (.inr (.inr ⟨q,0,sz,Ab xs,xs,.inl rfl,rfl,hsz,hs,by grind[EV],fun j y hy=>?_⟩))
  exact⟨hone y (HQ hy),.v y,by grind[Ab],.v y,.same,rfl⟩
 obtain⟨g',hf'⟩:=SQ [q] hz E g a w hf
 grind[NC]
theorem Zb{σ:St}{p q i:Nat}{cs:List D}{xs:List V}(hp:σ.H[p]?=G (G cs))(hq:σ.H[q]?=G (G (xs.map .v)))(hpq:p≠q)(hi:cs[i]?=G (.arr q 0 (I xs)))(hx:∀x∈xs,x.isAgg=O)(e:List D):
  Cv e σ e ⟨(σ.H.set q none).set p (G (cs.set i (.v (.list xs)))),σ.own⟩:=fun E g a w hf=>by
 obtain⟨us,rest,et,hb,hr,h1,hM,_⟩:=hf.wi.rep.obj q _ hq
 have hus:I us=I xs:=by have:=A3 hr;grind
 have hA:repA g.M xs us:=Gp (Gq xs) hr h1
 let M':c6:=fun b o=>if b=g.β q then us[o]? else g.M b o
 have hle:g.M.le M':=fun b o v hm=>by
  grind
 have hlg:g.le { g with M:=M' }:=⟨hle,HR _,fun _ _=>rfl,fun _ _ _ h=>h,fun _ _=>rfl⟩
 have hin:f9 M' (g.β q) 0 us:=fun j v hj=>by grind
 have hE:∀{ys:List V} {vs:List yz},(∀y∈ys,y.isAgg=O)->repA M' ys vs->repE M' 1 ys vs:=by
  intro ys
  induction ys<;>grind[repA,repE]
 have hw':WI E { g with M:=M' } ⟨σ.H.set q none,σ.own⟩ w:=hf.wi.setObjG hle hq (fun c hc=>by grind) (fun b _ hne=>⟨rfl,fun o=>by grind⟩) (fun b o v hm=>by
   simp only[M'] at hm
   split at hm
   ·grind[World.cell?]
   ·exact hf.wi.rep.mem b o v hm) (HR _) rfl rfl rfl
 have hp':(σ.H.set q none)[p]?=G (G cs):=by grind
 obtain⟨us2,rest2,et2,hb2,hr2,h12,_,hκ2⟩:=hw'.rep.obj p cs hp'
 obtain⟨u,hu,hru⟩:=B7 hr2 hi
 simp only[Ah] at hru
 obtain⟨_,cap,hcap,rfl⟩:=hru
 have hlist:repV M' (.list xs) (.slice (G ⟨g.β q,0,none⟩) (I xs) cap):=CH (by omega) hin (hE hx (repA.mono hle _ _ hA)) hcap
 have hset:=CB hr2 i (d:=.v (.list xs)) (u:=.slice (G ⟨g.β q,0,none⟩) (I xs) cap) (by grind[Ah])
 rw[D4 hu] at hset
 have h3:=hw'.setObj hp' hb2 hκ2 hset (fun c hc=>by
  rcases Jv hc with h|h
  ·grind
  ·rw[h];rfl) (fun _ _=>rfl) rfl rfl rfl rfl
 exact⟨_,h3,Ag.mono hlg _ _ hf.env,hf.defers⟩
end Go.Nv

namespace Go.Proofs.YtgigepkgakpjbaaGreat
open List (take)
theorem Ae4(m:cx)(hm:i9 m)(i:Nat)(hi:i<I m.av)(c:b9)(hc:BO m c):F0 151 [Af m,di i,dV c] (di 0):=by
 have hsz:=hc.size hm
 have h1:=Hr m hm.ok c (by omega)
 rw[hc.valid hm] at h1
 exact sv Ap1 32 [3,5] (.c (di 0)<|.k<|.f<|.f<|.f<|.c (db J) .r) (_/\(m.kind !=1)=O/\yd i 0/\y7 i (I (U Aj m.av))/\_/\Q (di 0)) ⟨G3 m hm.ok,by rw[hm.kind];rfl,yq,by grind,h1,rfl⟩
noncomputable def r6:=yl ul
theorem AhM{c:b9}{s:Int}{ys:List Int}(hc:mz c s ys):c.az=lf s::ys.map lf:=by rw[hc.eq];rfl
theorem ND{c:b9}{s:Int}{ys:List Int}(hc:mz c s ys):W 1 (take (I (c.az.map eV)) (c.az.map eV))=(ys.map lf).map eV:=by
 rw[List.take_length,AhM hc];rfl
theorem AiE(r:cm)(_:b9)(_:Int)(ys:List Int)(hl:I r.ak=I ys)(hl2:I ys<=1000)(n:Nat):∀k:Nat,I ys-k=n->
  Rn PP ul 0 (db (Ei (r.ak.drop k) (ys.drop k))) bd ([kl r6 [1,1,0,1,0,0],.blk 0,kc r6 [1,1,1]]++[]) (cz 33 [(2,.v (.ref (Aj r))),(17,co (ys.map lf)),(18,di (I ys)),(19,di k)]) bd:=by
 induction n with
 |zero=>
  intro k hn
  refine lv 33 [2,3] (.f .r) (Y ((k:Int)<(I ys:Int))=O/\db J=db (Ei (W k r.ak) (W k ys))) ?_
  grind[List.drop_of_length_le,Ei]
 |succ n ih=>
  intro k hn
  obtain⟨x,hx⟩:∃x,r.ak[k]?=G x:=⟨_,HK (show k<I r.ak by omega)⟩
  obtain⟨y,hy⟩:=yk (show k<I ys by omega)
  refine lv 33 [2,3] (.t<|.h (.xs (Ad (lf y)))<|.x (vi x)<|.b .r (.ls [ke 2,ke 17,ke 18,ch 19 (di (k+1:Nat))] bd)) (Y ((k:Int)<(I ys:Int))=J/\Q 2/\0<=(k:Int)/\(U eV (U lf ys))[Z (k:Int)]?=G (Ad (lf y))/\0<=(k:Int)/\(dt r.ak)[Z (k:Int)]?=G (vi x)/\yp/\(Y (b9.n (lf y)<x)=J->db O=db (Ei (W k r.ak) (W k ys)))/\(Y (b9.n (lf y)<x)=O->di (yu yt ((k:Int)+1))=di (↑(k+1):Int)/\I0 ul 0 (db (Ei (W k r.ak) (W k ys))) bd [kl r6 e9,bh 0,kc r6 [1,1,1]] (cz 33 [(2,bt (bz (Aj r))),(17,bt (dq (U lf ys))),(18,di (I ys:Int)),(19,di (↑(k+1):Int))]) bd)) ?_
  have e3:r.ak.drop k=x::r.ak.drop (k+1):=by grind[List.drop_eq_getElem_cons]
  have e4:ys.drop k=y::ys.drop (k+1):=by grind[List.drop_eq_getElem_cons]
  rw[e3,e4]
  refine⟨yr,rfl,by omega,Ap (by grind),by omega,Ae hx,yn,fun h1=>?_,fun h1=>⟨Ac,⟨?_⟩⟩⟩
  ·have h1:Y (y<x)=J:=h1
   grind[Ei]
  ·have h1:Y (y<x)=O:=h1
   simp only[Ei,h1,Bool.not_false,IG]
   grind
theorem Xm(r:cm)(c:b9)(s:Int)(ys:List Int)(hc:mz c s ys)(hl:I r.ak=I ys)(hl2:I ys<=1000):F0 152 [BK r,dV c] (db (io r s ys)):=by
 have hd:=ND hc
 have hlen:I c.az=I ys+1:=hc.len
 refine sv ul 33 [2,3] (.h (.xs (Ad (lf s)))<|.b .r (.l [ke 2,ch 17 (co (ys.map lf)),ch 18 (di (I ys)),ch 19 (di (0:Nat))])) (Q 2/\iz 0<=0/\zy (c7 c.az) 0 (Ad (lf s))/\((b9.n (lf s) !=r.ai)=J->db O=db (io r s ys))/\((b9.n (lf s) !=r.ai)=O->(∀(x:V),x∈U eV c.az->V.size x=2)/\y6 1/\(1:Int)<=(I (c7 c.az):Int)/\bt (ae (W (Z ((1:Int))) (take (I (c7 c.az)) (c7 c.az))))=co (U lf ys)/\di (I (W (Z ((1:Int))) (take (I (c7 c.az)) (c7 c.az))):Int)=di (I ys:Int)/\di 0=di (↑0:Int)/\I0 ul (I bd.H) (db (io r s ys)) bd [kl r6 e9,bh 0,zt ul 15] (cz 33 [(2,bt (bz (Aj r))),(17,co (U lf ys)),(18,di (I ys:Int)),(19,di (↑0:Int))]) d7)) ⟨rfl,by decide,Ap (i:=0) hc.head,fun h=>?_,fun h=>⟨?_,by omega,?_,?_,?_,rfl,⟨?_⟩⟩⟩
 ·have h:(s !=r.ai)=J:=h
  have h:(s==r.ai)=O:=by simpa using h
  simp only[io,h,IE]
 ·intro x hx;obtain⟨v,_,rfl⟩:=IQ.1 hx;rw[AE];rfl
 ·rw[HJ];omega
 ·exact I6 (fun l=>bt (.list l)) hd
 ·have:=I6 (fun l:List V=>di (I l:Int)) hd
  simpa using this
 ·have h:(s !=r.ai)=O:=h
  have h:(s==r.ai)=J:=by simpa using h
  simp only[io,h,IG]
  exact AiE r c s ys hl hl2 _ 0 rfl
theorem Ahp(r:cm)(hr:r.move=[])(i:Nat):F0 154 [BK r,di i] (di i):=by
 refine sv Ar3 15 [2] (.t .r) (((I (dt r.move):Int)==0)=J/\Q (di (i:Int))) ?_
 grind
noncomputable def GD:=yl T4
def Ty:List b9->List Int->b9×Int
 |xs,v::vs=>if Y (v>1048576)=J then(.mk 0 [],1) else Ty (xs++[lf v]) vs
 |xs,[]=>(.mk 0 xs,0)
theorem UA:∀(ws gs:List Int) (xs:List b9),I ws=I gs->Ty xs (List.zipWith (fun w g=>w+g) ws gs)=UC xs ws gs
 |[],[],xs,_=>rfl
 |w::ws,g::gs,xs,h=>by
  simp only[List.zipWith_cons_cons,Ty,UC]
  rw[UA ws gs _ (by grind)]
noncomputable abbrev Aw0:=[zu T4 4084,bh 2,zt T4 511]
theorem Aka(r:cm)(ws:List Int)(hw:I ws<=1000)(n:Nat):∀(k:Nat) (xs:List b9),I ws-k=n->I xs<=k+1->
  Rn PP T4 0 (dP (Ty xs (ws.drop k))) bd ([zu T4 4084,.blk 2,zt T4 511]++[]) (cz 90 [(6,.ptr 0 0),(14,.ptr 3 0),(72,.arr 2 0 (I ws)),(73,di (I ws)),(74,di k)]) (ki r ws xs):=by
 induction n with
 |zero=>
  intro k xs hn hx
  refine zo [3,5] (.f .r) (yd k (I ws)/\bl [bt (Awm xs),di 0]=dP (Ty xs (W k ws))) ⟨yq,?_⟩
  rw[I3 (show I ws<=k by omega)];rfl
 |succ n ih=>
  intro k xs hn hx
  obtain⟨w,hw1⟩:=yk (show k<I ws by omega)
  refine zo [3,5] (.t<|.m (di w)<|.b .r (.lo [ke 6,ke 14,ke 72,ke 73,ch 74 (zw k)] (ki r ws (xs++[lf w])))) (ye k (I ws)/\y6 k/\y5 k (I ws)/\(cb ws)[0+Z (k:Int)*1]?=G (di w)/\(yc w 1048576->bl [bt nv,di 1]=dP (Ty xs (W k ws)))/\(yb w 1048576->Q (U eV xs)/\Ao (I (U eV xs)+I (aa (a8 yt w::ae nV::nV)::nV)) 32/\zx k/\cp 4 [1] [G [di 0,dn],G (cR r),G (cb ws),G [di 0,br 1 (U eV xs++[aa [vi w,ae []]])]]=J/\[G [di 0,dn],G (cR r),G (cb ws),G [di 0,br 1 (U eV xs++aa (jp w)::nV)]]=[G [di 0,dn],G (cR r),G (cb ws),G [di 0,br 1 (U eV (xs++[lf w]))]]/\[(1,2,U eV xs++aa (jp w)::nV)]=[(1,2,U eV (xs++[lf w]))]/\I0 T4 0 (dP (Ty xs (W k ws))) bd Aw0 (cz 90 [kf,(14,bq 3 0),(72,bo 2 0 (I ws)),(73,di (I ws:Int)),(74,zw k)]) (ki r ws (xs++[lf w])))) ?_
  have e3:ws.drop k=w::ws.drop (k+1):=by grind[List.drop_eq_getElem_cons]
  rw[e3]
  refine⟨yr,by omega,by omega,by grind,fun h=>?_,fun h=>⟨rfl,⟨?_,?_⟩,Ac,?_,?_,?_,⟨?_⟩⟩⟩
  ·simp only[Ty,h,Jz];rfl
  ·grind
  ·grind
  ·simp[cp,D.okNs,D.okN,Ce]
  ·rw[←C4];rfl
  ·rw[←C4];rfl
  ·have:=ih (k+1) (xs++[lf w]) (by omega) (by grind)
   grind[Ty]
noncomputable abbrev Ayb:=fun a₀=>[ke 6,ke 9,ke 10,ke 40,ke 41,ch 42 (zw a₀)]
theorem ApO(r:cm)(hr:r.move=[])(ys:List Int)(hl:I r.ak=I ys)(hg:I r.aj=I ys)(hy:I ys<=1000)(by1:∀y∈ys,0<=y/\y<=1048576)(bn:∀y∈r.ak,0<=y/\y<=16)(bg:∀y∈r.aj,0<=y/\y<=16)(N:Nat)(hN:N=I ys)(n:Nat):∀(k:Nat) (ws:List Int),N-k=n->ws=(CJ r ys).take k++r.aj.drop k->
  Rn PP T4 0 (dP (Ty [lf r.to] (CJ r ys))) bd ([zu T4 1012,.blk 0,zt T4 127]++[]) (cz 90 [(6,.ptr 0 0),(9,.ptr 1 0),(10,.arr 2 0 N),(40,co (ys.map lf)),(41,di (I ys)),(42,di k)]) (gn r ws):=by
 induction n with
 |zero=>
  intro k ws hn hx
  have hsl:I (CJ r ys)=N:=by simp only[CJ,ou,List.length_zipWith];omega
  rw[IB (by omega),I3 (by omega),IX] at hx
  refine zo [3,5] (.f<|.a 1<|.h .g<|.lo [ke 6,ke 14,ch 72 (.arr 2 0 N),ch 73 (di N),ch 74 (di (0:Nat))] (ki r ws [lf r.to])) (yd k (I ys)/\Q (bo 2 0 N)/\Q (di (N:Int))/\Q (di 0)/\cp 4 [1] [G [di 0,dn],G (cR r),G (cb ws),G [di 0,br 1 [aa [vi r.to,ae []]]]]=J/\Q [G [di 0,dn],G (cR r),G (cb ws),G [di 0,br 1 (eV (lf r.to)::nV)]]/\Q [(1,2,eV (lf r.to)::nV)]/\I0 T4 0 (dP (Ty [lf r.to] (CJ r ys))) bd Aw0 (cz 90 [kf,(14,bq 3 0),(72,bo 2 0 N),(73,di (N:Int)),(74,di (↑0:Int))]) (ki r ws [lf r.to])) ⟨yq,rfl,rfl,rfl,by simp[cp,D.okNs,D.okN,Ce],rfl,rfl,⟨?_⟩⟩
  have:=Aka r (CJ r ys) (by omega) _ 0 [lf r.to] rfl (by simp)
  grind
 |succ n ih=>
  intro k ws hn hx
  obtain⟨ws',hws⟩:∃ws',ws'=(CJ r ys).take (k+1)++r.aj.drop (k+1):=⟨_,rfl⟩
  obtain⟨x,hx1⟩:∃x,r.ak[k]?=G x:=⟨_,HK (show k<I r.ak by omega)⟩
  obtain⟨y,hy1⟩:=yk (show k<I ys by omega)
  obtain⟨z,hz1⟩:∃z,r.aj[k]?=G z:=⟨_,HK (show k<I r.aj by omega)⟩
  have hsl:I (CJ r ys)=N:=by simp only[CJ,ou,List.length_zipWith];omega
  have hs1:(CJ r ys)[k]?=G (y-x+z):=by simp only[CJ,ou,List.getElem?_zipWith,hy1,hx1,hz1]
  have b1:=by1 _ (HQ hy1)
  have b2:=bn _ (HQ hx1)
  have b3:=bg _ (HQ hz1)
  have htl:I ((CJ r ys).take k)=k:=by rw[ID];omega
  have hdz:r.aj.drop k=z::r.aj.drop (k+1):=by grind[List.drop_eq_getElem_cons]
  have hw0:ws[k]?=G z:=by
   simp_all
  have hset:ws.set k (y-x+z)=ws':=by
   rw[hx,hws,List.set_append_right _ _ (by omega),htl,Nat.sub_self,hdz,List.set_cons_zero]
   obtain⟨hlt,he⟩:=HN.1 hs1
   rw[List.take_succ_eq_append_getElem hlt,he,Jx];rfl
  have hwl:I ws=N:=by grind[List.length_drop]
  have e2:yt.wrap (z+yt.wrap (b9.n (lf y)-x))=y-x+z:=by
   rw[show b9.n (lf y)=y from rfl,An (n:=y-x),An];omega
  have e3:List.set (cb ws) (0+Z (k:Int)*1) (di (y-x+z))=cb ws':=by
   grind[Int.toNat,List.map_set]
  refine zo [3,5] (.t<|.h (.xs (Ad (lf y)))<|.c (di k)<|.t<|.m (di z)<|.x (vi x)<|.w<|.lo (Ayb k) (gn r ws')) (ye k (I ys)/\Q 2/\y6 k/\zy (U eV (U lf ys)) k (Ad (lf y))/\_/\y8 k 0/\y6 k/\y5 k N/\(cb ws)[0+Z (k:Int)*1]?=G (di z)/\y6 k/\zy (dt r.ak) k (vi x)/\y6 k/\y5 k N/\0+Z (k:Int)*1<I (cb ws)/\(yj (True))/\zx k/\cp 3 [] [G [di 0,dn],G (cR r),G (List.set (cb ws) (0+Z (k:Int)*1) (di (yu yt (z+yu yt (b9.n (lf y)-x)))))]=J/\[G [di 0,dn],G (cR r),G (List.set (cb ws) (0+Z (k:Int)*1) (di (yu yt (z+yu yt (b9.n (lf y)-x)))))]=[G [di 0,dn],G (cR r),G (cb ws')]/\_) ⟨yr,rfl,by omega,Ap (by simp_all),Ahp r hr k,yr,by omega,by omega,by simp[cb,hw0],by omega,Ae hx1,by omega,by omega,by simp[cb];omega,⟨trivial,trivial,trivial,trivial⟩,Ac,?_,?_,iK (ih (k+1) ws' (by omega) hws)⟩
  ·rw[e2,e3];simp[cp,D.okNs,D.okN,Ce]
  grind
theorem AbZ(l:List Int):D.pls (cb l)=J:=by
 have:cb l=(l.map vi).map .v:=by simp[cb]
 grind[BJ]
theorem AiI(m:cx)(hm:i9 m)(i:Nat)(r:cm)(hi:m.av[i]?=G r)(c:b9)(hc:BO m c):F0 108 [Af m,di i,dV c] (dP (kv r (gr c) (fg c))):=by
 have hr:=hm.rule (HQ hi)
 have hp:=hm.ay
 have hil:=(HN.1 hi).1
 have hck:=Ae4 m hm i hil c hc
 have hcc:=hc.isC
 have hyl:=hc.len
 have hnm:=hc.nm
 have he:=Xm r c _ _ hcc (by rw[hr.needL,hc.len]) (by omega)
 generalize gr c=s at*
 generalize fg c=ys at*
 cases hb:io r s ys with
 |false=>
  rw[hb] at he
  exact sv T4 90 [3,5] (.c (di 0)<|.x (Aj r)<|.c (db O) .r) (_/\y6 i/\zy (U Aj m.av) i (Aj r)/\_/\bl [bt nv,di 18]=dP (kv r s ys)) ⟨hck,by omega,Ae hi,he,by rw[kv,hb];rfl⟩
 |true=>
  rw[hb] at he
  obtain⟨N,hN⟩:∃N,N=I ys:=⟨_,rfl⟩
  have hN0:r.aj≠ []:=by intro h;have:=hr.giveL;grind
  have hgl:I r.aj=N:=by rw[hr.giveL];omega
  have hd:=ND hcc
  have hlen:I c.az=I ys+1:=hcc.len
  refine sv T4 90 [3,5] (.c (di 0)<|.x (Aj r)<|.c (db J)<|.h (.q 7 2)<|.h (.oc (.arr 2 0 N) (gn r r.aj))<|.lo [ke 6,ke 9,ke 10,ch 40 (co (ys.map lf)),ch 41 (di (I ys)),ch 42 (di (0:Nat))] (gn r r.aj)) (_/\y6 i/\zy (U Aj m.av) i (Aj r)/\_/\(N0 [bt (bw 153 [] []),cw r.aj] (bi [G [di 0,dn],G [bt (ab r.name),di r.ai,di r.to,cw r.ak,cw r.aj,cw r.move,di r.chan,di r.act,di r.letter,cw r.path,cw r.next,bt (AH r.aq),cw r.ao,di r.second]] []) (bo 2 0 N) (gn r r.aj))/\(∀(x:V),x∈U eV c.az->V.size x=2)/\y6 1/\(1:Int)<=(I (c7 c.az):Int)/\bt (ae (W (Z ((1:Int))) (take (I (c7 c.az)) (c7 c.az))))=co (U lf ys)/\di (I (W (Z ((1:Int))) (take (I (c7 c.az)) (c7 c.az))):Int)=di (I ys:Int)/\Q (di 0)/\cp 3 [] [G [di 0,dn],G (cR r),G (cb r.aj)]=J/\Q (gn r r.aj).H/\I0 T4 (I bd.H) (dP (kv r s ys)) bd [kl GD mr,bh 0,kc GD mu] (cz 90 [kf,(9,bq 1 0),(10,bo 2 0 N),(40,co (U lf ys)),(41,di (I ys:Int)),(42,di (↑0:Int))]) (gn r r.aj)) ⟨hck,by omega,Ae hi,he,fun o c' fo ho hc'=>?_,?_,by omega,?_,?_,?_,rfl,by simp[cp,D.okNs,D.okN,Ce],rfl,⟨?_⟩⟩
  ·exact Fm (σ:=⟨[G [di 0,.v .nils],G (cR r)],[]⟩) (fs:=[]) (cs:=[]) (ds:=[cw r.aj]) ho hc' rfl (Hc:=[none,G (cb r.aj)]) (j:=1) rfl (AbZ _) (by grind[Pu])
  ·grind[AE,V.size]
  ·grind
  ·grind
  ·grind
  ·have h1:=ApO r hr.move ys (by rw[hr.needL];omega) (by omega) (by omega) hnm hr.ak hr.aj N hN _ 0 r.aj rfl (by simp)
   rw[kv,I4 hb, ←UA _ _ _ (by rw[ou,List.length_zipWith,hr.needL,hr.giveL];omega)]
   exact h1
theorem AaR(m:cx)(hm:i9 m):F0 104 [Af m] (di 0):=by
 exact sv AlD 12 [1] (.c (di 0)<|.k<|.f .r) (_/\(m.kind==6)=O/\Q (di 0)) ⟨G3 m hm.ok,by rw[hm.kind];rfl,rfl⟩
noncomputable abbrev xt:=fun a₀=>F0 104 [Af a₀] (di 0)
theorem Abd(m:cx)(hm:i9 m)(c:b9)(hc:BO m c):F0 72 [Af m,dV c] (di 0):=by
 refine sv Aia 15 [2,3] (.c (di 0)<|.c (db J) .r) (xt m/\F0 105 [Af m,dV c] (db J)/\Q (di 0)) ?_
 have hsz:=hc.size hm
 have h1:=Hr m hm.ok c (by omega)
 rw[hc.valid hm] at h1
 grind[AaR]
theorem Agk(m:cx)(hm:i9 m)(c:b9):F0 106 [Af m,dV c] (co []):=by
 exact sv vz 31 [2,3] (.f<|.f<|.f .r) ((m.kind==2)=O/\(m.kind==3)=O/\(m.kind==5)=O/\Q (co [])) ⟨by rw[hm.kind];rfl,by rw[hm.kind];rfl,by rw[hm.kind];rfl,rfl⟩
theorem MP(p:b9×Int):F0 107 [dV p.1,di p.2] (dm (C7 p)):=by
 refine sv Arp 14 [2] (.b .r (.b .r .r)) (((p.snd==0)=J->bl [bt (ae [Ad p.fst]),di 0]=dm (C7 p))/\((p.snd==0)=O->((p.snd==18)=J->bl qv=dm (C7 p))/\((p.snd==18)=O->bl [bt (ae []),di p.snd]=dm (C7 p)))) ?_
 grind[C7,AE]
theorem Asj(m:cx)(hm:i9 m)(c:b9):F0 73 [Af m,di (-1),dV c] (dm ([],0)):=by
 refine sv ql 56 [3,5] (.c (co []) .r) (F0 106 [Af m,dV c] (co [])/\Q (dm ([],0))) ?_
 grind[Agk]
theorem Asi(m:cx)(hm:i9 m)(i:Nat)(c:b9)(p:b9×Int)(hp:F0 108 [Af m,di i,dV c] (dP p)):F0 73 [Af m,di i,dV c] (dm (C7 p)):=by
 exact sv ql 56 [3,5] (.f<|.t<|.c (dP p)<|.c (dm (C7 p)) .r) (((i:Int)== -1)=O/\(m.kind==1)=J/\_/\_/\Q (dm (C7 p))) ⟨IM.2 (by omega),by rw[hm.kind];rfl,hp,MP p,rfl⟩
theorem AiO(m:cx)(hm:i9 m)(c:b9)(hc:BO m c)(i:Int)(h1: -1<=i)(h2:i<I m.av):F0 73 [Af m,di i,dV c] (dm (l0 m c i)):=by
 grind[Asj,l0,Asi,AiI]
noncomputable def Dt:=yl GP
theorem AkK(m:cx)(c:b9)(rl:Int)(hr1: -1<=rl)(hr2:rl<=1000)(l:List b9)(hl0:I l<=1000)(p:List er×Int)(fin:List er)(hf:I fin<=100000)
  (hout:Rn PP GP 0 (fv p) bd ([zu GP 244,.blk 0,zt GP 31]++[]) (cz 53 [(2,.v (.ref (Aq m))),(3,.v (.ref (Ad c))),(7,ZZ fin),(8,di (rl+1))]) (FO fin)) (n:Nat):∀(k:Nat) (xs:List er),I l-k=n->xs++(l.drop k).map (fun v=>(rl,v))=fin->
  Rn PP GP 0 (fv p) bd ([zu GP 62620,.blk 2,.blk 1,zt GP 979,zu GP 244,.blk 0,zt GP 31]++[]) (cz 53 [(2,.v (.ref (Aq m))),(3,.v (.ref (Ad c))),(7,ZZ xs),(8,di rl),(36,co l),(37,di (I l)),(38,di k)]) (FO xs):=by
 induction n with
 |zero=>
  intro k xs hn hx
  rw[I3 (by omega),Jo,IX] at hx
  subst hx
  exact zo [2,3] (.f<|.l [ke 2,ke 3,ke 7,ch 8 (di (rl+1))]) (yd k (I l)/\di (yu yt (rl+1))=di (rl+1)/\_) ⟨yq,by grind[An],iK hout⟩
 |succ n ih=>
  intro k xs hn hx
  have hk:k<I l:=by omega
  have hv:l[k]?=G l[k]:=HK hk
  rw[HZ hk] at hx
  generalize l[k]=v at hv hx
  refine zo [2,3] (.t<|.h (.xs (Ad v))<|.ls [ke 2,ke 3,ch 7 (ZZ (xs++[(rl,v)])),ke 8,ke 36,ke 37,ch 38 (zw k)] (FO (xs++[(rl,v)]))) (ye k (I l)/\Q 2/\y6 k/\zy (U eV l) k (Ad v)/\Q (U eb xs)/\Ao (I (U eb xs)+I (aa (a8 yt rl::vi v.n::dq v.az::nV)::nV)) 40/\br 1 (U eb xs++[aa [vi rl,vi v.n,dq v.az]])=ZZ (xs++[(rl,v)])/\zx k/\[(1,3,U eb xs++aa (vi rl::vi v.n::dq v.az::nV)::nV)]=[(1,3,U eb (xs++[(rl,v)]))]/\_) ⟨yr,rfl,by omega,Ap hv,rfl,⟨?_,?_⟩,?_,Ac,?_,iK (ih (k+1) (xs++[(rl,v)]) (by omega) (by rw[←hx];simp))⟩
  all_goals grind
theorem MV(m:cx)(hm:I m.av<=12)(c:b9)(ap:Int->List b9×Int)(hl:∀i,(ap i).1.length<=1000)(hap:∀i:Int, -1<=i->i<I m.av->F0 73 [Af m,di i,dV c] (dm (ap i)))(n:Nat):∀(rl:Int) (xs:List er), -1<=rl->rl<=I m.av->(I m.av-rl).toNat=n->I xs<=(rl+1).toNat*1000->
  Rn PP GP 0 (fv (DD ap n rl xs)) bd ([zu GP 244,.blk 0,zt GP 31]++[]) (cz 53 [(2,.v (.ref (Aq m))),(3,.v (.ref (Ad c))),(7,ZZ xs),(8,di rl)]) (FO xs):=by
 induction n with
 |zero=>
  intro rl xs h1 h2 hn hx
  refine zo [2,3] (.f<|.b .r .r) (yd rl (I (U Aj m.av))/\(yc (I (U eb xs)) 256->bl [bt (ae []),di 1]=fv (DD ap 0 rl xs))/\(yb (I (U eb xs)) 256->bl [bt (ae (U eb xs)),di 0]=fv (DD ap 0 rl xs))) ?_
  grind[DD]
 |succ n ih=>
  intro rl xs h1 h2 hn hx
  have hp:=hap rl h1 (by omega)
  have hi:=ih (rl+1) (xs++(ap rl).1.map fun v=>(rl,v)) (by omega) (by omega) (by omega) (by have:=hl rl;simp only[HY,HJ];omega)
  have hll:=hl rl
  generalize ap rl=q at*
  refine zo [2,3] (.t<|.c (dm q)<|.b .r (.l [ke 2,ke 3,ke 7,ke 8,ke 36,ch 37 (di (I q.1)),ch 38 (di (0:Nat))])) (ye rl (I (U Aj m.av))/\_/\((q.snd !=0)=J->bl [bt (ae []),di q.snd]=fv (if (q.snd !=0)=J then([],q.snd) else DD ap n (rl+1) (xs++U (fun v=>(rl,v)) q.fst)))/\((q.snd !=0)=O->di (I (c7 q.fst):Int)=di (I q.fst:Int)/\di 0=di (↑0:Int)/\I0 GP 0 (fv (if (q.snd !=0)=J then([],q.snd) else DD ap n (rl+1) (xs++U (fun v=>(rl,v)) q.fst))) bd [zu GP 62620,bh 2,bh 1,zt GP 979,kl Dt fd,bh 0,zt GP 31] (cz 53 [(2,bt (g7 m)),(jq c),(7,br 1 (U eb xs)),(8,di rl),(36,co q.fst),(37,di (I q.fst:Int)),(38,di (↑0:Int))]) (FO xs))) ⟨by rw[HJ];exact yr,hp,fun h=>?_,fun h=>⟨by rw[HJ],rfl,⟨?_⟩⟩⟩
  ·rw[I4 h];rfl
  ·rw[Iz (by rw[h];decide)]
   exact AkK m c rl h1 (by omega) q.1 hll _ _ (by simp only[HY,HJ];omega) hi _ 0 xs rfl (by simp)
theorem Abf(m:cx)(hm:i9 m)(c:b9)(hc:BO m c):F0 38 [Af m,dV c] (fv (Gr m c)):=by
 have hp:=hm.ay
 refine sv GP 53 [2,3] (.c (di 0)<|.h (.q 5 0)<|.h (.nw 7 1 3)<|.ls uy (FO [])) (_/\Q (di (-1))/\Q [(1,3,nV)]/\I0 GP (I bd.H) (fv (Gr m c)) bd [kl Dt fd,bh 0,zt GP 31] (cz 53 (uu m c)) (FO [])) ⟨Abd m hm c hc,rfl,rfl,⟨?_⟩⟩
 exact MV m (by omega) c (l0 m c) (fun i=>by grind[Xw]) (fun i h1 h2=>AiO m hm c hc i h1 h2) (I m.av+1) (-1) [] (by omega) (by omega) (by omega) (by simp)
theorem NB(a b:b9):Ay a b<=0↔¬Ay b a<0:=by
 have:=BF.swap b a trivial trivial
 omega
theorem EW{a b c:b9}(h1:Ay a b<=0)(h2:Ay b c<=0):Ay a c<=0:=by
 by_cases e1:Ay a b=0
 ·grind[EB]
 ·by_cases e2:Ay b c=0
  ·grind[EB]
  ·have:=BF.trans a b c trivial trivial trivial (by omega) (by omega)
   omega
theorem KZ(a b:b9):Ay a b<=0∨Ay b a<=0:=by
 have:=BF.swap b a trivial trivial
 omega
theorem VQ(l:List b9):∀k:Nat,k<I l->(ZO l k=J↔∀i,i<k->Ay (l.getD i default) (l.getD (i+1) default)<=0)
 |0,_=>⟨fun _ i h=>absurd h (Nat.not_lt_zero i),fun _=>rfl⟩
 |k+1,hk=>by
  have ih:=VQ l k (by omega)
  grind[ZO,NB]
theorem Nn:∀(l:List b9),(∀i,i+1<I l->Ay (l.getD i default) (l.getD (i+1) default)<=0)->l.Pairwise fun a b=>Ay a b<=0
 |[],_=>.nil
 |[_],_=>List.pairwise_singleton _ _
 |x::y::l,h=>by
  have ih:=Nn (y::l) fun i hi=>h (i+1) (by grind)
  have h0:Ay x y<=0:=h 0 (by simp)
  grind[List.pairwise_cons,EW]
theorem Qc(l:List b9):XV l=J↔l.Pairwise fun a b=>Ay a b<=0:=by
 unfold XV
 cases l<;>grind[VQ,Nn,List.pairwise_iff_getElem,ZO]
end Go.Proofs.YtgigepkgakpjbaaGreat

namespace Go.Proofs
open Go.Shelf
def Tryz.sortV_ren:Go.Shelf.Ren:=⟨fun|6=>160|15=>226|14=>225|28=>271|29=>272|20=>263|21=>264|22=>265|23=>266|24=>267|25=>268|26=>269|27=>270|46=>290|47=>291|48=>292|49=>293|50=>294|57=>304|n=>n,fun|22=>23|24=>34|25=>124|3=>3|39=>134|0=>0|53=>184|55=>187|4=>4|46=>236|45=>235|50=>240|5=>5|9=>9|66=>254|70=>258|76=>262|77=>263|n=>n,fun|n=>n⟩
theorem Tryz.sortV:Go.Proofs.SlLaysF0.n6 Tryz.prog Tryz.sortV_ren:={
 mixed:=by kernel_rfl
 f6:=⟨Tryz.f160.name,by decide,Tryz.func160.trans (I6 G (by kernel_rfl))⟩
 f14:=⟨Tryz.f225.name,by decide,Tryz.func225.trans (I6 G (by kernel_rfl))⟩
 f15:=Tryz.func226.trans (I6 G (by kernel_rfl))
 f20:=⟨Tryz.f263.name,by decide,Tryz.func263.trans (I6 G (by kernel_rfl))⟩
 f21:=⟨Tryz.f264.name,by decide,Tryz.func264.trans (I6 G (by kernel_rfl))⟩
 f22:=⟨Tryz.f265.name,by decide,Tryz.func265.trans (I6 G (by kernel_rfl))⟩
 f23:=⟨Tryz.f266.name,by decide,Tryz.func266.trans (I6 G (by kernel_rfl))⟩
 f24:=⟨Tryz.f267.name,by decide,Tryz.func267.trans (I6 G (by kernel_rfl))⟩
 f25:=⟨Tryz.f268.name,by decide,Tryz.func268.trans (I6 G (by kernel_rfl))⟩
 f26:=⟨Tryz.f269.name,by decide,Tryz.func269.trans (I6 G (by kernel_rfl))⟩
 f27:=⟨Tryz.f270.name,by decide,Tryz.func270.trans (I6 G (by kernel_rfl))⟩
 f28:=Tryz.func271.trans (I6 G (by kernel_rfl))
 f29:=Tryz.func272.trans (I6 G (by kernel_rfl))
 f46:=⟨Tryz.f290.name,by decide,Tryz.func290.trans (I6 G (by kernel_rfl))⟩
 f47:=Tryz.func291.trans (I6 G (by kernel_rfl))
 f48:=Tryz.func292.trans (I6 G (by kernel_rfl))
 f49:=⟨Tryz.f293.name,by decide,Tryz.func293.trans (I6 G (by kernel_rfl))⟩
 f50:=⟨Tryz.f294.name,by decide,Tryz.func294.trans (I6 G (by kernel_rfl))⟩
 f57:=⟨Tryz.f304.name,by decide,Tryz.func304.trans (I6 G (by kernel_rfl))⟩
 t0:=Tryz.underlying0
 a0:=Tryz.isAgg0
 z0:=Tryz.sizeOf0
 v0:=Tryz.zeroValue0
 t3:=Tryz.underlying3
 a3:=Tryz.isAgg3
 z3:=Tryz.sizeOf3
 v3:=Tryz.zeroValue3
 t4:=Tryz.underlying4
 a4:=Tryz.isAgg4
 z4:=Tryz.sizeOf4
 v4:=Tryz.zeroValue4
 t5:=Tryz.underlying5
 a5:=Tryz.isAgg5
 z5:=Tryz.sizeOf5
 v5:=Tryz.zeroValue5
 t9:=Tryz.underlying9
 a9:=Tryz.isAgg9
 z9:=Tryz.sizeOf9
 v9:=Tryz.zeroValue9
 t22:=Tryz.underlying23
 a22:=Tryz.isAgg23
 z22:=Tryz.sizeOf23
 v22:=Tryz.zeroValue23
 t25:=Tryz.underlying124
 a25:=Tryz.isAgg124
 z25:=Tryz.sizeOf124
 v25:=Tryz.zeroValue124
 t39:=Tryz.underlying134
 a39:=Tryz.isAgg134
 z39:=Tryz.sizeOf134
 v39:=Tryz.zeroValue134
 t45:=Tryz.underlying235
 a45:=Tryz.isAgg235
 z45:=Tryz.sizeOf235
 v45:=Tryz.zeroValue235
 t46:=Tryz.underlying236
 a46:=Tryz.isAgg236
 z46:=Tryz.sizeOf236
 v46:=Tryz.zeroValue236
 t50:=Tryz.underlying240
 a50:=Tryz.isAgg240
 z50:=Tryz.sizeOf240
 v50:=Tryz.zeroValue240
 t53:=Tryz.underlying184
 a53:=Tryz.isAgg184
 z53:=Tryz.sizeOf184
 v53:=Tryz.zeroValue184
 t55:=Tryz.underlying187
 a55:=Tryz.isAgg187
 z55:=Tryz.sizeOf187
 v55:=Tryz.zeroValue187
 t66:=Tryz.underlying254
 a66:=Tryz.isAgg254
 z66:=Tryz.sizeOf254
 v66:=Tryz.zeroValue254
 t70:=Tryz.underlying258
 a70:=Tryz.isAgg258
 z70:=Tryz.sizeOf258
 v70:=Tryz.zeroValue258
 t76:=Tryz.underlying262
 a76:=Tryz.isAgg262
 z76:=Tryz.sizeOf262
 v76:=Tryz.zeroValue262
 t77:=Tryz.underlying263
 a77:=Tryz.isAgg263
 z77:=Tryz.sizeOf263
 v77:=Tryz.zeroValue263 }
end Go.Proofs
namespace Go.Proofs.YtgigepkgakpjbaaGreat
open Go.Dv Go.Nv Go.Shelf Go.RowKit Go.Lib Go.Sort
theorem Adc{g g':Gh}{w w':x5}{σ':St}(h:WI ⟨g,w,⟨[],[]⟩⟩ g' σ' w'):∃q os,w'=grow (w.drewN q) os:=by
 refine⟨w'.drawn-w.drawn,w'.heap.extract w.heap.size w'.heap.size,?_⟩
 have h1:=h.drawn trivial;have h2:=h.os;have h3:=h.tape;have h4:=h.output;have h5:=h.size
 have h6:∀b,b<w.heap.size->w'.heap[b]?=w.heap[b]?:=fun b hb=>(h.keep b hb F1).1
 have e:w'.heap=w.heap++w'.heap.extract w.heap.size w'.heap.size:=by
  apply Array.ext_getElem?
  intro i
  by_cases hi:i<w.heap.size
  ·rw[h6 i hi,Array.getElem?_append_left hi]
  ·rw[Array.getElem?_append_right (by omega),Array.getElem?_extract]
   have h5:w.heap.size<=w'.heap.size:=h5
   by_cases hj:i<w'.heap.size
   ·rw[I4 (by omega)];congr 1;omega
   ·rw[Iz (by omega),Array.getElem?_eq_none (by omega)]
 cases w'
 simp only[grow,World.drewN] at*
 congr 1
 omega
abbrev mx(M:c6):={p:b9×List yz//p.1.size<=1000000/\repC M (eV p.1) p.2}
instance (M:c6):Inhabited (mx M):=⟨⟨(.mk 0 [],[.int .i64 0,.slice none 0 0]),by decide,by grind[b9.enc,b9.encs,repC,repA,V.isAgg]⟩⟩
def DL{M:c6}(x:mx M):List yz:=x.1.2
def q6{M:c6}(x y:mx M):Int:=Ay x.1.1 y.1.1
theorem NY(v:b9):(eV v).size=2:=by rw[AE];rfl
theorem M4{M:c6}(x:mx M):I (DL x)=2:=by
 grind[GH,NY,DL]
theorem AsH{M:c6}:SWO (ltOf (q6 (M:=M))) where
 irrefl x:=by simp only[ltOf,q6,BF.refl _ trivial];decide
 trans x y z h1 h2:=by
  exact HM (BF.trans _ _ _ trivial trivial trivial (HV h1) (HV h2))
 ntrans x y z h1 h2:=by
  have h1:¬Ay x.1.1 y.1.1<0:=IR h1
  have h2:¬Ay y.1.1 z.1.1<0:=IR h2
  refine HO fun h3=>?_
  have h3:Ay x.1.1 z.1.1<0:=h3
  by_cases e:Ay x.1.1 y.1.1=0
  ·grind[EB]
  ·have h4:Ay y.1.1 x.1.1<0:=(BF.swap _ _ trivial trivial).2 (by omega)
   exact h2 (BF.trans _ _ _ trivial trivial trivial h4 h3)
theorem AiF{g:Gh}{l:List b9}(hl:∀v∈l,v.size<=1000000){us:List yz}(h:Ag g (Ab (l.map eV)) us)(h1:∀c∈Ab (l.map eV),c.one=J):∃ps:List (mx g.M),ps.map (fun p=>p.1.1)=l/\ps.flatMap DL=us:=by
 have hA:repA g.M ((l.map eV).flatMap V.cellsV) us:=by
  have hlen:=A3 h
  refine U6 (by grind[Ab]) fun j y hj=>?_
  obtain⟨v,h2,h3⟩:=B7 h (i:=j) (d:=.v y) (by grind[Ab])
  refine⟨?_,v,h2,by grind[Ah]⟩
  have:=h1 (.v y) (IQ.2 ⟨y,HQ hj,rfl⟩)
  grind[D.one]
 have hE:=E3 (sz:=2) (xs:=l.map eV) (fun y hy=>by grind[NY]) hA
 clear h h1 hA
 induction l generalizing us with
 |nil=>
  simp only[Jo,repE] at hE
  simp_all
 |cons v l ih=>
  obtain⟨u1,u2,rfl,_,h3,h4⟩:=hE
  obtain⟨ps,h5,h6⟩:=ih (fun v hv=>hl v (by simp[hv])) h4
  exact⟨⟨(v,u1),hl v (by simp),h3⟩::ps,by simp[h5],by simp[h6,DL]⟩
theorem cells_rep{g:Gh}(ps:List (mx g.M)):Ag g (Ab ((ps.map fun p=>p.1.1).map eV)) (ps.flatMap DL)/\∀c∈Ab ((ps.map fun p=>p.1.1).map eV),c.one=J:=by
 refine EQ (sz:=2) ?_
 induction ps with
 |nil=>rfl
 |cons p ps ih=>
  exact⟨_,_,rfl,M4 p,p.2.2,ih⟩
theorem WR{M:c6}:∀(ps:List (mx M)) (t:Nat),t<I ps*2->(ps.flatMap DL)[t]?=G ((DL (ps.getD (t/2) default))[t%2]!)
 |[],t,h=>by grind
 |p::ps,t,h=>by
  have h2:=M4 p
  rw[List.flatMap_cons]
  by_cases ht:t<2
  ·grind
  ·rw[I2 (by omega),h2,WR ps (t-2) (by grind)]
   grind
theorem LK{M:c6}(d:Array (mx M)):(flatK DL 2 d).toList=d.toList.flatMap DL:=by
 apply List.ext_getElem?
 intro t
 have hlen:∀l:List (mx M),I (l.flatMap DL)=I l*2:=by
  intro l
  induction l<;>grind[M4]
 grind[WR,flatK]
def sortV(l:List b9):List b9:=l.mergeSort fun a b=>Y (Ay a b<=0)
theorem BL(l:List b9):(sortV l).Perm l:=List.mergeSort_perm l _
theorem LV(l:List b9):(sortV l).Pairwise fun a b=>Y (Ay a b<=0)=J:=
 by grind[List.pairwise_mergeSort,EW,KZ,sortV]
theorem Qf{l k:List b9}(hp:k.Perm l)(hs:k.Pairwise fun a b=>Y (Ay a b<=0)=J):k=sortV l:=by
 refine List.Perm.eq_of_pairwise (fun a b _ _ h1 h2=>?_) hs (LV l) (hp.trans (BL l).symm)
 have:=BF.swap b a trivial trivial
 grind[EB]
theorem Ai1{g:Gh}{w:x5}{σ:St}(hw:dh g σ w){blk:Nat}(hM:∀o,g.M blk o=none)(n:Nat):CmpLays PP 112 #[] (DL (M:=g.M)) 2 q6 blk 0 n w:=by
 intro m os dk _ x y
 obtain⟨W,hW⟩:∃W,W=sortWorldK DL 2 w blk 0 m dk os:=⟨_,rfl⟩
 have hmem:∀b o v,g.M b o=G v->W.cell? ⟨b,o,none⟩=G v:=by
  intro b o v h
  have hne:b≠blk:=fun e=>by rw[e,hM] at h;simp at h
  have hc:=hw.mem b o v h
  have hlt:b<w.heap.size:=hw.mem_lt h
  rw[hW,sortWorldK,cell?_grow _ _ _ (by rw[size_putRowK];exact hlt),cell?_putRowK_other _ _ _ _ _ _ _ hne]
  exact hc
 have hrep:dh { M:=g.M,β:=g.β,n:=0,ι:=fun _ _=>none,κ:=g.κ } ⟨[],[]⟩ W:=
  { n:=rfl,mem:=hmem,obj:=fun i cs hi=>by simp at hi,inj:=fun i j cs ds hi=>by simp at hi,own:=fun k sz xs hx=>by simp at hx,tags:=by simp,sep:=fun x hx=>by simp at hx,ownObj:=fun x hx=>by simp at hx,fresh:=fun _ _ _=>rfl,gl:=hw.gl,gw:=fun p hp=>by simp[GA] at hp }
 have arg:∀z:mx g.M,Ah { M:=g.M,β:=g.β,n:=0,ι:=fun _ _=>none,κ:=g.κ } (dV z.1.1) (.agg (DL z).toArray):=by
  intro z
  simp only[Ah]
  exact⟨DL z,by rw[←AE];exact z.2.2,rfl⟩
 have hs:=(Og _ x.1.1 y.1.1 (HR _) x.2.1).2 _ W [.agg (DL x).toArray,.agg (DL y).toArray] hrep (Ax.2 ⟨_,_,rfl,arg x,arg y⟩)
 grind[Calls.mono,Ah,AC,Adc,q6]
theorem L1(l:List b9)(hl:I l<=100000)(hs:∀v∈l,v.size<=1000000):
  Aa PP 160 [.arr 0 0 (I l),dfn 112] ⟨[G (Ab (l.map eV))],[]⟩ (.tup []) ⟨[G (Ab ((sortV l).map eV))],[]⟩:=by
 refine⟨⟨_, Tryz.func160,by kernel_rfl,by kernel_rfl⟩,fun g w args hw hargs=>?_⟩
 obtain⟨u0,u1,rfl,h0,h1⟩:=Ax.1 hargs
 simp only[Ah] at h0 h1
 obtain⟨hn,cap,hcap,rfl⟩:=h0
 obtain⟨us1,vs1,rfl,hu1,hv1⟩:=Kz.1 h1
 simp only[GZ] at hu1 hv1
 subst hu1;subst hv1
 obtain⟨us,rest,et,hb,hr,hone,hM,hκ⟩:=hw.obj 0 _ rfl
 obtain⟨ps,hp1,hp2⟩:=AiF hs hr hone
 have hpl:I ps=I l:=by rw[←hp1,HJ]
 have hul:I us=I l*2:=by
  have:=I6 Array.size (show flatK DL 2 ps.toArray=us.toArray by rw[←hp2];apply Jt;rw[LK])
  rw[size_flatK] at this;simp at this;omega
 have hF:(flatK DL 2 ps.toArray).toList=us:=by rw[LK, ←hp2]
 have hH:HoldsK DL 2 w (g.β 0) 0 ps.toArray:=by
  intro j hj
  have hj':j<I us:=by rw[size_flatK] at hj;simp at hj;omega
  refine⟨?_,by simp[World.frozen?,hb]⟩
  have hg:(us++rest)[j]?=G us[j]:=by rw[I5 hj',HK hj']
  have hg2:(flatK DL 2 ps.toArray)[j]! =us[j]:=by
   rw[getElem!_pos (flatK DL 2 ps.toArray) j hj]
   have:(flatK DL 2 ps.toArray).toList[j]?=G us[j]:=by rw[hF,HK hj']
   rw[JH,Array.getElem?_eq_getElem hj] at this
   exact I8 this
  simp only[World.cell?,hb,IT,hg2,id]
  simpa using hg
 have hblk:g.β 0<w.heap.size:=QE hb
 have eg:∀args w,(callFunc 112 args).run PP w=.ok (.enter 112 args) w:=enters_of Tryz.func112 (by kernel_rfl) rfl
 have hcon:=AnyQ.slices_SortFunc Tryz.sortV 2 Tryz.isAgg34 Tryz.sizeOf34 (DL (M:=g.M)) M4 (fun x v hv=>LY x.2.2 v hv) q6 AsH 112 #[] (g.β 0) 0 cap ps.toArray w eg (Ai1 hw hM _) hH hblk (by simp;omega)
 change Calls PP 160 _ _ _ at hcon
 rw[show ps.toArray.size=I l by simp[hpl]] at hcon
 refine Calls.mono hcon ?_
 rintro e w' ⟨rfl,d',n,os,hperm,hsorted,rfl⟩
 obtain⟨hsz,_,hperm⟩:=hperm
 have hdl:d'.toList.map (fun p=>p.1.1)=sortV l:=by
  refine Qf ?_ ?_
  ·rw[←hp1]
   have h2:d'.toList.Perm ps:=by simpa[Array.extract_eq_self_of_le,hsz,hpl] using hperm
   exact h2.map _
  ·rw[List.pairwise_iff_getElem]
   intro i j hi hj hij
   have hi':i<d'.size:=by simpa using hi
   have hj':j<d'.size:=by simpa using hj
   have h3:=hsorted i j (II _) hij (by simp only[J4] at hsz;omega)
   simp only[ltOf,q6,J8,getElem!_pos d' i hi',getElem!_pos d' j hj'] at h3
   simp only[List.getElem_map,Array.getElem_toList,HU]
   exact(NB _ _).2 h3
 have hd2:d'.size=I l:=by rw[hsz];simp[hpl]
 have hF2:(flatK DL 2 d').toList=d'.toList.flatMap DL:=LK d'
 have hFl:I (d'.toList.flatMap DL)=I us:=by rw[←hF2,IK,size_flatK,hd2];omega
 have hcs:=cells_rep d'.toList
 rw[hdl] at hcs
 have hb2:(putRowK DL 2 (Sort.ahead w n) (g.β 0) 0 d').heap[g.β 0]?=G (.cells ((d'.toList.flatMap DL)++rest).toArray et (0,0)):=by
  simp only[putRowK,putRow,mapBlock,Sort.ahead,Array.getElem?_modify,hb,onCells,Jz,Jr]
  congr 2
  apply Array.ext_getElem?
  intro t
  simp only[putCells,Array.getElem?_mapIdx,Nat.sub_zero,II,true_and,IT,id,List.getElem?_toArray]
  by_cases ht:t<I us
  ·have htF:t<(flatK DL 2 d').size:=by rw[size_flatK,hd2];omega
   rw[I5 ht,I5 (by omega),HK ht,Jr,I4 htF, ←hF2,JH,getElem!_pos (flatK DL 2 d') t htF,Array.getElem?_eq_getElem htF]
  ·have htF:¬t<(flatK DL 2 d').size:=by rw[size_flatK,hd2];omega
   rw[I2 (by omega),I2 (by omega),hFl]
   simp only[Iz htF,Option.map_id']
 have h2:=(WI.start hw).setObj (cs':=Ab ((sortV l).map eV)) (q:=0) (w':=putRowK DL 2 (Sort.ahead w n) (g.β 0) 0 d') rfl hb2 (by rw[←hκ,HY,HY,hFl]) hcs.1 hcs.2 (fun b hb'=>by
  simp only[putRowK,putRow,mapBlock,Sort.ahead,Array.getElem?_modify]
  rw[Iz (fun h=>hb' h.symm)]) (by rw[size_putRowK];rfl) rfl rfl rfl (drawn:=.of (Nat.le_add_right _ _))
 have h3:=h2.grow (w':=sortWorldK DL 2 w (g.β 0) 0 n d' os) (M':=g.M) (c6.le_refl _) (fun b hb'=>⟨heap_grow_old _ _ hb',fun _=>rfl⟩) (fun b o v h=>by
  rw[sortWorldK,cell?_grow _ _ _ (h2.rep.mem_lt h)];exact h2.rep.mem b o v h) (by rw[sortWorldK,size_grow];exact Nat.le_add_right _ _) rfl rfl rfl
 exact⟨_,g,rfl,h3,by simp only[Ah];exact⟨[],rfl,by simp[Ag]⟩⟩
end Go.Proofs.YtgigepkgakpjbaaGreat

namespace Go.Proofs.YtgigepkgakpjbaaGreat
open List (ext_getElem? getElem?_set map_congr_left mem_range replicate take)
theorem D3(l:List b9):∀y∈l.map eV,y.size=2:=by grind[NY]
theorem AK(v:b9)(l:List b9):Ab ((v::l).map eV)=[.v (vi v.n),.v (dq v.az)]++Ab (l.map eV):=by
 simp only[Ab,I9,List.flatMap_cons,J5]
 rw[AE];rfl
theorem B1:∀l:List b9,I (Ab (l.map eV))=I l*2
 |[]=>rfl
 |v::l=>by rw[AK,HY,B1 l,HP];grind
theorem Ll(l k:List b9):Ab ((l++k).map eV)=Ab (l.map eV)++Ab (k.map eV):=by
 grind[Ab]
theorem E8{l:List b9}{i:Nat}{x:b9}(h:l[i]?=G x):((Ab (l.map eV)).drop (i*2)).take 2=[.v (vi x.n),.v (dq x.az)]:=by
 obtain⟨hi,rfl⟩:=HN.1 h
 have e:l=l.take i++l[i]::l.drop (i+1):=by simp_all
 grind[AK,B1,Ab]
theorem NN{l:List b9}{i:Nat}{x:b9}(h:l[i]?=G x):(Ab (l.map eV)).take (i*2)++[.v (vi x.n),.v (dq x.az)]++(Ab (l.map eV)).drop (i*2+2)=Ab (l.map eV):=by
 grind[E8,List.take_append_drop,List.drop_drop]
theorem A9(l:List V):D.pls (Ab l)=J:=BJ _
theorem Am(n:Nat)(ts:List Nat)(l:List V):D.okNs n ts (Ab l)=J:=by
 unfold Ab
 induction l.flatMap V.cellsV<;>grind[D.okNs,D.okN]
theorem Ai7:F0 71 [co []] (co []):=by
 refine VU (ds:=[]) (ds':=[]) fun a cap=>?_
 cases a with
 |none=>
  refine zq AlJ 8 .r (bt (ae [])=co []) ?_
  rfl
 |some a=>
  refine zq AlJ 8 (.a 1<|.h (.q 3 2)<|.h (.un 6)<|.r) (Q nV/\Ao 0 32/\bt (ae [])=co []) ?_
  grind
noncomputable abbrev ec:=fun a₀=>(Ab (U eV a₀))
theorem Zm(l:List b9)(hl:I l<=1000000)(h:l≠ []):Aa PP 71 [co l] bd (.arr 1 0 (I l)) ⟨[none,G (Ab (l.map eV))],[]⟩:=by
 refine zq AlJ 8 (.h .g<|.h (.q 3 3)<|.h (.ga 7) .ro) (U eV l≠ []/\Q 0/\U eV l≠ []/\(∀(y:V),y∈U eV l->V.size y=2)/\Ao (0+I (U eV l)) 32/\cp 2 [] [none,G ([]++Ab (U eV l))]=J/\Q [none,G (ec l)]/\bo 1 0 (0+I (U eV l))=bo 1 0 (I l)) ?_
 grind[D3,cp,Am]
noncomputable def sh:=yl sb
abbrev l7(l:List b9):St:=⟨[G [di 0,.v .nils],G (Ab (l.map eV))],[]⟩
noncomputable abbrev da:=fun a₀ b₀=>[di a₀,co b₀]
theorem AgL(v:b9)(hv:v.size<=1000000)(hk:∀x∈v.az,F0 37 [dV x] (dV x))(n:Nat):∀k:Nat,I v.az-k=n->
  Rn PP sb 0 (dV v) bd ([zu sb 116,.blk 0,zt sb 15]++[]) (cz 26 [(1,.v (.ref (Ad v))),(2,.ptr 0 0),(3,.arr 1 0 (I v.az)),(9,.arr 1 0 (I v.az)),(10,di (I v.az)),(11,di k)]) (l7 v.az):=by
 induction n with
 |zero=>
  intro k hn
  exact zo [1] (.f<|.h (.q 7 0)<|.h (.ct 3 (co v.az) ⟨[G [di 0,.v .nils],none],[]⟩) .r) (yd k (I v.az)/\(∀(e:List D),e[3]?=G (bo 1 0 (I v.az))->∀(E:c9) (g:Gh) (a:Act) (w:x5),FI E g (l7 v.az) e a w->∃g',FI E g' (bi [G [di 0,dn],none] []) (List.set e 3 (co v.az)) a w)/\Q (dV v)) ⟨yq,fun e he=>AdV (σ:=l7 v.az) (q:=1) (sz:=2) (by decide) (D3 _) (by simp) rfl he,rfl⟩
 |succ n ih=>
  intro k hn
  obtain⟨x,hx⟩:∃x,v.az[k]?=G x:=⟨_,HK (show k<I v.az by omega)⟩
  refine zo [1] (.t<|.m (dV x)<|.c (dV x)<|.h .ww<|.lo [ke 1,ke 2,ke 3,ke 9,ke 10,ch 11 (zw k)] (l7 v.az)) (ye k (I v.az)/\y6 k/\y5 k (I v.az)/\0+Z (k:Int)*2+2<=I (ec v.az)/\take 2 (W (0+Z (k:Int)*2) (ec v.az))=(da x.n x.az)/\F0 37 [dV x] (dV x)/\y6 k/\y5 k (I v.az)/\0+Z (k:Int)*2+2<=I (ec v.az)/\zx k/\cp 2 [] [G [di 0,dn],G (take (0+Z (k:Int)*2) (ec v.az)++(da x.n x.az)++W (0+Z (k:Int)*2+2) (ec v.az))]=J/\[G [di 0,dn],G (take (0+Z (k:Int)*2) (ec v.az)++(da x.n x.az)++W (0+Z (k:Int)*2+2) (ec v.az))]=[G [di 0,dn],G (ec v.az)]/\I0 sb 0 (dV v) bd [kl sh e9,bh 0,zt sb 15] (cz 26 [(1,bt (jk v)),o9,(3,bo 1 0 (I v.az)),(9,bo 1 0 (I v.az)),(10,di (I v.az:Int)),(11,zw k)]) (l7 v.az)) ?_
  have e0:0+Z (k:Int)*2=k*2:=by omega
  have hl:k*2+2<=I (Ab (v.az.map eV)):=by rw[B1];omega
  rw[e0]
  refine⟨yr,by omega,by omega,hl,E8 hx,hk x (HQ hx),by omega,by omega,hl,Ac (by have:=b9.length_le v.az;have:=v.size_eq;omega),?_,?_,⟨ih (k+1) (by omega)⟩⟩
  ·rw[NN hx];simp[cp,D.okNs,D.okN,Am]
  grind[NN]
noncomputable abbrev uz:=(bi [G [di 0,dn]] [])
theorem AgK(N:Nat):∀v:b9,v.size<=N->v.size<=1000000->F0 37 [dV v] (dV v):=by
 induction N with
 |zero=>intro v h;have:=v.size_pos;omega
 |succ N ih=>
 intro v hN hv
 have hs:=v.size_eq
 have hl:=b9.length_le v.az
 by_cases h:v.az=[]
 ·refine sv sb 26 [1] (.c (co [])<|.n<|.f .r) (F0 71 [co v.az] (co [])/\yd 0 (I (U eV []))/\bt (aa [vi v.n,ae []])=dV v) ?_
  grind[Ai7]
 ·refine sv sb 26 [1] (.h (.q 1 2)<|.h (.oc (.arr 1 0 (I v.az)) (l7 v.az))<|.lo [ke 1,ke 2,ke 3,ke 9,ke 10,ch 11 (di (0:Nat))] (l7 v.az)) ((N0 [bt (bw 71 [] []),co v.az] uz (bo 1 0 (I v.az)) (l7 v.az))/\Q (di 0)/\cp 2 [] [G [di 0,dn],G (ec v.az)]=J/\Q (l7 v.az).H/\I0 sb (I bd.H) (dV v) bd [kl sh e9,bh 0,zt sb 15] (cz 26 [(1,bt (jk v)),o9,(3,bo 1 0 (I v.az)),(9,bo 1 0 (I v.az)),(10,di (I v.az:Int)),(11,di (↑0:Int))]) (l7 v.az)) ⟨fun o c fo ho hc=>?_,rfl,by simp[cp,D.okNs,D.okN,Am],rfl,⟨AgL v hv (fun x hx=>?_) _ 0 rfl⟩⟩
  ·exact Fm (σ:=⟨[G [di 0,.v .nils]],[]⟩) (fs:=[]) (cs:=[]) (ds:=[co v.az]) ho hc rfl (Hc:=[none,G (Ab (v.az.map eV))]) (j:=1) rfl (A9 _) (Zm v.az (by omega) h)
  grind[b9.size_mem,Aa]
theorem XW(x v:b9)(hx:x.size<=1000000):F0 75 [dV x,.v (.ref (Ad v))] (db (Ay x v==0)):=by
 refine sv AjJ 7 [2] (.c (db (Ay x v==0)) .r) (F0 76 [dV x,dV v] (db (Ay x v==0))/\Q (db (Ay x v==0))) ?_
 grind[XU]
def AZ(l:List b9)(v:b9):Int:=dv (fun x=>Ay x v==0) l 0
theorem Aba(l:List b9)(hl:I l<=1000000)(hs:∀v∈l,v.size<=1000000)(v:b9):F0 39 [co l,dV v] (di (AZ l v)):=by
 exact sv AoQ 8 [3] (.c (di (AZ l v)) .r) (_/\Q (di (AZ l v))) ⟨QC _ [] [_] _ l hl fun x hx=>XW x v (hs x hx),rfl⟩
abbrev Aw:=Int×Int
abbrev As:=List (List Aw)
def Tv(A:As):Prop:=∀l∈A,∀a∈l,0<=a.2/\a.2<I A
def nr(A:As)(i j:Nat):Prop:=∃l,A[i]?=G l/\∃a∈l,a.2=(j:Int)
inductive V4 (A:As):Nat->Nat->Nat->Prop
 |nil (i:Nat):V4 A 0 i i
 |cons {n i j k:Nat}:nr A i j->V4 A n j k->V4 A (n+1) i k
def lw(A:As)(i j:Nat):Prop:=∃n,V4 A n i j
theorem V4.trans{A:As}{n m i j k:Nat}(h:V4 A n i j)(g:V4 A m j k):V4 A (n+m) i k:=by
 induction h with
 |nil=>grind
 |cons a _ ih=>rw[Nat.add_right_comm];exact .cons a (ih g)
theorem lw.snoc{A:As}{i j k:Nat}(h:lw A i j)(g:nr A j k):lw A i k:=by
 obtain⟨n,h⟩:=h
 exact⟨_,h.trans (.cons g (.nil k))⟩
open Classical in
noncomputable def C0(A:As)(i:Nat):List Bool:=(List.range (I A)).map fun j=>Y (lw A i j)
theorem Gu(A:As)(i:Nat):I (C0 A i)=I A:=by simp[C0]
theorem Wp{A:As}{i j:Nat}(h:j<I A):(C0 A i)[j]?=G true↔lw A i j:=by
 simp[C0,h]
theorem nr.lt{A:As}(hA:Tv A){i j:Nat}(h:nr A i j):i<I A/\j<I A:=by
 obtain⟨l,h1,a,h2,h3⟩:=h
 have:=hA l (HQ h1) a h2
 grind
theorem V4.lt{A:As}(hA:Tv A){n i j:Nat}(h:V4 A n i j)(hi:i<I A):j<I A:=by
 induction h with
 |nil=>exact hi
 |cons a _ ih=>exact ih (a.lt hA).2
def FP(o:List Bool)(t:List Int)(a:Aw):List Bool×List Int:=if o.getD a.2.toNat false then(o,t) else(o.set a.2.toNat true,t++[a.2])
def CM(o:List Bool)(t:List Int):List Aw->List Bool×List Int
 |[]=>(o,t)
 |a::l=>CM (FP o t a).1 (FP o t a).2 l
def cf(o:List Bool):Nat:=o.countP (!·)
theorem Ahs(o:List Bool)(t:List Int)(a:Aw):FP o t a=((FP o [] a).1,t++(FP o [] a).2):=by
 grind[FP]
theorem KV:∀(l:List Aw) (o:List Bool) (t:List Int),CM o t l=((CM o [] l).1,t++(CM o [] l).2)
 |[],o,t=>by simp[CM]
 |a::l,o,t=>by
  rw[CM,CM,KV l,KV l (FP o [] a).1 (FP o [] a).2,Ahs o t a]
  simp
theorem AjY{o:List Bool}{i:Nat}(h:o[i]?=G false):cf (o.set i true)+1=cf o:=by
 grind[cf]
structure BI(A:As)(i:Nat)(out:List Bool)(todo:List Int):Prop where
 len:I out=I A
 st:out[i]?=G true
 snd:∀j,out[j]?=G true->lw A i j
 td:∀x∈todo,0<=x/\x<I A/\out[x.toNat]?=G true
 cl:∀j:Nat,out[j]?=G true->(j:Int)∈todo∨∀l,A[j]?=G l->∀a∈l,out[a.2.toNat]?=G true
theorem UQ{A:As}{i k:Nat}(hA:Tv A){L:List Aw}(hk:A[k]?=G L)(hp:lw A i k):∀(l:List Aw) (o:List Bool) (t:List Int),(∀a∈l,a∈L)->I o=I A->o[i]?=G true->(∀j:Nat,o[j]?=G true->lw A i j)->(∀x∈t,0<=x/\x<I A/\o[x.toNat]?=G true)->
  (CM o t l).1.length=I A/\(∀j:Nat,o[j]?=G true->(CM o t l).1[j]?=G true)/\(∀j:Nat,(CM o t l).1[j]?=G true->lw A i j)/\(∀x∈ (CM o t l).2,0<=x/\x<I A/\(CM o t l).1[x.toNat]?=G true)/\(∀x∈t,x∈ (CM o t l).2)/\(∀j:Nat,(CM o t l).1[j]?=G true->o[j]?=G true∨(j:Int)∈ (CM o t l).2)/\(∀a∈l,(CM o t l).1[a.2.toNat]?=G true)/\cf (CM o t l).1+(CM o t l).2.length=cf o+I t
 |[],o,t,_,h1,_,h3,h4=>by grind[CM]
 |a::l,o,t,hl,h1,h2,h3,h4=>by
  have ha:=hA L (HQ hk) a (hl a (by simp))
  have harc:nr A k a.2.toNat:=⟨L,hk,a,hl a (by simp),by omega⟩
  by_cases hb:o[a.2.toNat]?=G true
  ·have e:FP o t a=(o,t):=by grind[FP]
   have ih:=UQ hA hk hp l o t (fun x hx=>hl x (by grind)) h1 h2 h3 h4
   rw[CM,e]
   grind
  ·have hf:o[a.2.toNat]?=G false:=by
    simp_all
   have e:FP o t a=(o.set a.2.toNat true,t++[a.2]):=by grind[FP]
   have hc:=AjY hf
   have hs:∀j:Nat,o[j]?=G true->(o.set a.2.toNat true)[j]?=G true:=fun j hj=>by
    grind
   have ih:=UQ hA hk hp l (o.set a.2.toNat true) (t++[a.2]) (fun x hx=>hl x (by grind)) (by grind) (hs i h2) (fun j hj=>by
     rw[getElem?_set] at hj
     split at hj
     ·rename_i e;subst e;exact hp.snoc harc
     grind) (fun x hx=>by
     grind)
   rw[CM,e]
   obtain⟨i1,i2,i3,i4,i5,i6,i7,i8⟩:=ih
   refine⟨i1,fun j hj=>i2 j (hs j hj),i3,i4,fun x hx=>i5 x (by grind),fun j hj=>?_,fun x hx=>?_,by grind⟩
   ·rcases i6 j hj with h|h
    ·rw[getElem?_set] at h
     split at h
     ·rename_i e;right;apply i5;simp;omega
     grind
    grind
   grind
theorem BI.step{A:As}{i:Nat}(hA:Tv A){out:List Bool}{x:Int}{t:List Int}(h:BI A i out (x::t)):∃l,A[x.toNat]?=G l/\0<=x/\x<I A/\BI A i (CM out t l).1 (CM out t l).2/\2*cf (CM out t l).1+(CM out t l).2.length<2*cf out+(I t+1):=by
 obtain⟨a1,a2,a3⟩:=h.td x (by simp)
 have hx:x.toNat<I A:=by omega
 obtain⟨l,hl⟩:∃l,A[x.toNat]?=G l:=⟨_,HK hx⟩
 obtain⟨i1,i2,i3,i4,i5,i6,i7,i8⟩:=UQ hA hl (h.snd _ a3) l out t (fun _ h=>h) h.len h.st h.snd (fun y hy=>h.td y (by grind))
 refine⟨l,hl,a1,a2,⟨i1,i2 _ h.st,i3,i4,fun j hj=>?_⟩,?_⟩
 ·rcases i6 j hj with g|g
  ·rcases h.cl j g with g2|g2
   ·rcases IN.1 g2 with e|g2
    ·right;rw[←e] at hl
     simp at hl
     grind
    grind
   grind
  grind
 grind[KV]
theorem BI.first{A:As}{i:Nat}(hi:i<I A):BI A i ((replicate (I A) false).set i true) [(i:Int)] where
 len:=by simp
 st:=by grind
 snd:=fun j hj=>by
  rw[getElem?_set] at hj
  split at hj
  ·rename_i e;subst e;exact⟨0,.nil _⟩
  grind
 td:=fun x hx=>by grind
 cl:=fun j hj=>by
  grind
theorem BI.done{A:As}{i:Nat}{out:List Bool}(h:BI A i out []):out=C0 A i:=by
 have key:∀(n k j:Nat),V4 A n k j->out[k]?=G true->out[j]?=G true:=by
  intro n k j hp
  induction hp with
  |nil=>exact id
  |cons a _ ih=>
   intro hk
   obtain⟨l,h1,a,h2,h3⟩:=a
   rcases h.cl _ hk with g|g
   all_goals grind
 apply ext_getElem?
 intro j
 by_cases hj:j<I A
 ·obtain⟨x,e1⟩:∃x,out[j]?=G x:=⟨_,HK (by rw[h.len];exact hj)⟩
  have h1:out[j]?=G true↔lw A i j:=⟨h.snd j,fun⟨n,hp⟩=>key n i j hp h.st⟩
  grind[Option.some.injEq,C0]
 ·rw[List.getElem?_eq_none (by rw[h.len];omega),List.getElem?_eq_none (by grind[Gu])]
def m5(A:As)(t i d:Nat):Prop:=V4 A d i t/\∀m,V4 A m i t->d<=m
open Classical in
noncomputable def dst(A:As)(t i:Nat):Int:=if h:∃d,m5 A t i d then(h.choose:Int) else-1
theorem m5.uniq{A:As}{t i d e:Nat}(h:m5 A t i d)(g:m5 A t i e):d=e:=Nat.le_antisymm (h.2 _ g.1) (g.2 _ h.1)
theorem SM{A:As}{t i d:Nat}(h:m5 A t i d):dst A t i=d:=by
 have hx:∃d,m5 A t i d:=⟨d,h⟩
 rw[dst,dif_pos hx,hx.choose_spec.uniq h]
theorem AjS{A:As}{t i n:Nat}(h:V4 A n i t):∃d,m5 A t i d/\d<=n:=by
 induction n using Nat.strongRecOn with
 |_ n ih=>
  by_cases hx:∃m,m<n/\V4 A m i t
  ·grind
  ·exact⟨n,⟨h,fun m hm=>Nat.le_of_not_lt fun hl=>hx ⟨m,hl,hm⟩⟩,HR _⟩
theorem Vk{A:As}{t i:Nat}(h:0<=dst A t i):m5 A t i (dst A t i).toNat:=by
 grind[SM,m5,dst]
theorem Lp(A:As)(t:Nat):dst A t t=0:=SM ⟨.nil t,fun m _=>II m⟩
theorem AlO{A:As}{t i j:Nat}(h:nr A i j)(hj:0<=dst A t j):0<=dst A t i/\dst A t i<=dst A t j+1:=by
 have h1:=Vk hj
 obtain⟨d,hd,hl⟩:=AjS (.cons h h1.1)
 rw[SM hd]
 omega
theorem QK{A:As}{t i:Nat}(h:0<dst A t i):∃j,nr A i j/\dst A t j=dst A t i-1:=by
 have h1:=Vk (by omega:0<=dst A t i)
 obtain⟨n,hn⟩:∃n,(dst A t i).toNat=n+1:=⟨(dst A t i).toNat-1,by omega⟩
 rw[hn] at h1
 obtain⟨h1,h2⟩:=h1
 cases h1 with
 | @cons _ _ j _ a p=>
  refine⟨j,a,?_⟩
  obtain⟨d,hd,hl⟩:=AjS p
  have:=h2 _ (.cons a hd.1)
  rw[SM hd];omega
theorem QJ{A:As}{t i:Nat}:dst A t i=0↔i=t:=by
 constructor
 ·intro h
  have h1:=Vk (by omega:0<=dst A t i)
  rw[h] at h1
  obtain⟨h1,_⟩:=h1
  cases h1;rfl
 ·rintro rfl;exact Lp _ _
def H4(d x:Int):Int:=if x<=d then x else-1
noncomputable def dp(A:As)(t:Nat)(d:Int)(i:Nat):List Int:=(List.range (I A)).map fun j=>H4 (if j<i then d+1 else d) (dst A t j)
noncomputable def B8(A:As)(t:Nat):List Int:=(List.range (I A)).map fun i=>dst A t i
theorem QO(A:As)(t:Nat)(d:Int)(i:Nat):I (dp A t d i)=I A:=by simp[dp]
theorem QP(A:As)(t:Nat):I (B8 A t)=I A:=by simp[B8]
theorem GQ{A:As}{t:Nat}{d:Int}{i j:Nat}(h:j<I A):(dp A t d i)[j]?=G (H4 (if j<i then d+1 else d) (dst A t j)):=by
 simp[dp,h]
theorem Lq{A:As}{t:Nat}{j:Nat}(h:j<I A):(B8 A t)[j]?=G (dst A t j):=by
 simp[B8,h]
theorem Pm(A:As)(t i:Nat): -1<=dst A t i:=by
 rw[dst];split<;>omega
theorem SP{A:As}{t:Nat}:(replicate (I A) (-1:Int)).set t 0=dp A t 0 0:=by
 apply ext_getElem?
 intro j
 by_cases hj:j<I A
 ·rw[GQ hj,getElem?_set]
  have h0:=Pm A t j
  have h1:=QJ (A:=A) (t:=t) (i:=j)
  split
  ·rename_i e;subst e;simp[hj,Lp,H4]
  ·simp[hj,H4];omega
 ·simp[dp,hj]
theorem AdQ{A:As}{t:Nat}{d:Int}{i:Nat}(h:I A<=i):dp A t d i=dp A t (d+1) 0:=by
 apply map_congr_left
 intro j hj
 have:=mem_range.1 hj
 rw[I4 (by omega),Iz (by omega)]
theorem AjT{A:As}{t:Nat}{d:Int}{i j:Nat}(_:j<I A)(hd:0<=d):H4 (if j<i then d+1 else d) (dst A t j)=d↔dst A t j=d:=by
 have:=Pm A t j
 unfold H4;split<;>split<;>omega
theorem AdP{A:As}{t:Nat}{d:Int}{i:Nat}(hA:Tv A)(hd:0<=d){l:List Aw}(hl:A[i]?=G l)(hn:H4 d (dst A t i)<0){a:Aw}(ha:a∈l)(e:dst A t a.2.toNat=d):dst A t i=d+1/\(dp A t d i).set i (d+1)=dp A t d (i+1):=by
 have h0:=hA l (HQ hl) a ha
 have h1:=AlO (t:=t) (i:=i) (j:=a.2.toNat) ⟨l,hl,a,ha,by omega⟩ (by omega)
 have h2:dst A t i=d+1:=by
  unfold H4 at hn;split at hn<;>omega
 refine⟨h2,?_⟩
 apply ext_getElem?
 intro j
 by_cases hj:j<I A
 ·rw[GQ hj,getElem?_set,GQ hj,QO]
  split
  ·rename_i e;subst e;simp[hj,h2,H4]
  ·congr 2;grind
 ·simp[dp,hj]
theorem M6{A:As}{t:Nat}{d:Int}{i:Nat}(hd:0<=d){l:List Aw}(hl:A[i]?=G l)(hn:0<=H4 d (dst A t i)∨∀a∈l,dst A t a.2.toNat≠d):dst A t i≠d+1/\dp A t d i=dp A t d (i+1):=by
 have hne:dst A t i≠d+1:=by
  intro e
  rcases hn with h|h
  ·unfold H4 at h;split at h<;>omega
  ·obtain⟨j,⟨l',h1,a,h2,h3⟩,h4⟩:=QK (A:=A) (t:=t) (i:=i) (by omega)
   rw[hl] at h1;cases h1
   apply h a h2
   rw[h3,show((j:Int)).toNat=j by omega,h4,e];omega
 refine⟨hne,?_⟩
 apply map_congr_left
 intro j _
 by_cases e:j=i
 ·subst e
  have:=Pm A t j
  unfold H4;grind
 ·congr 1;grind
theorem NZ{A:As}{t i:Nat}:∀{n:Nat},dst A t i=n->i<I A->Tv A->∀k,k<=n->∃j<I A,dst A t j=k
 |0,_,hi,_,k,hk=>⟨i,hi,by omega⟩
 |n+1,h,hi,hA,k,hk=>by
  by_cases e:k=n+1
  ·exact⟨i,hi,by omega⟩
  ·obtain⟨j,h1,h2⟩:=QK (A:=A) (t:=t) (i:=i) (by omega)
   exact NZ (n:=n) (by omega) (h1.lt hA).2 hA k (by omega)
theorem SN{A:As}(hA:Tv A){t i:Nat}(hi:i<I A):dst A t i<I A:=by
 by_cases h0:0<=dst A t i
 ·obtain⟨n,hn⟩:∃n:Nat,dst A t i=n:=⟨(dst A t i).toNat,by omega⟩
  have hx:=NZ hn hi hA
  have hs:I (List.range (n+1))<=I ((List.range (I A)).map fun j=>(dst A t j).toNat):=by
   apply List.nodup_range.length_le_of_subset
   intro k hk
   obtain⟨j,h1,h2⟩:=hx k (by have:=mem_range.1 hk;omega)
   exact IQ.2 ⟨j,mem_range.2 h1,by omega⟩
  simp at hs;omega
 ·omega
theorem AdR{A:As}{t:Nat}{d:Int}(h:∀j<I A,dst A t j<=d):dp A t d 0=B8 A t:=by
 apply map_congr_left
 intro j hj
 have:=h j (mem_range.1 hj)
 unfold H4;simp;omega
theorem Ain{A:As}(hA:Tv A){t:Nat}{d:Int}(hd:0<=d)(h:∀j<I A,dst A t j≠d+1):∀j<I A,dst A t j<=d:=by
 intro j hj
 refine Int.not_lt.1 fun hl=>?_
 obtain⟨k,h1,h2⟩:=NZ (n:=(dst A t j).toNat) (t:=t) (by omega) hj hA (d.toNat+1) (by omega)
 exact h k h1 (by omega)
def E7(p:Aw->Bool):List Aw->Aw->Bool->Aw×Bool
 |[],b,f=>(b,f)
 |a::l,b,f=>if p a&&(!f||Y (a.1<b.1)||a.1==b.1&&Y (a.2<b.2)) then E7 p l a true else E7 p l b f
theorem UR(p:Aw->Bool):∀(l:List Aw) (b:Aw) (f:Bool),(f=J->p b=J)->(f=J∨∃a∈l,p a=J)->p (E7 p l b f).1=J/\(E7 p l b f).2=J/\((E7 p l b f).1∈l∨f=J/\(E7 p l b f).1=b)
 |[],b,f,h,g=>by
  have g:f=J:=by simpa using g
  exact⟨h g,g,.inr ⟨g,rfl⟩⟩
 |a::l,b,f,h,g=>by
  rw[E7]
  split
  ·rename_i hc
   simp only[HL] at hc
   obtain⟨i1,i2,i3⟩:=UR p l a true (fun _=>hc.1) (.inl rfl)
   refine⟨i1,i2,?_⟩
   rcases i3 with h|⟨_,h⟩
   ·exact .inl (by simp[h])
   ·exact .inl (by simp[h])
  ·rename_i hc
   have hg:f=J∨∃a∈l,p a=J:=by
    rcases g with g|⟨x,hx,g⟩
    ·exact .inl g
    ·rcases IN.1 hx with rfl|hx
     ·cases f with
      |true=>exact .inl rfl
      |false=>simp[g] at hc
     ·exact .inr ⟨x,hx,g⟩
   obtain⟨i1,i2,i3⟩:=UR p l b f h hg
   exact⟨i1,i2,i3.imp (by simp+contextual) id⟩
noncomputable def Tz(A:As)(t:Nat)(d:Int)(l:List Aw):Aw:=(E7 (fun a=>dst A t a.2.toNat==d) l (0,0) false).1
noncomputable def Hj(A:As)(t:Nat):Nat->Nat->List Aw
 |0,_=>[]
 |n+1,i=>Tz A t n (A.getD i [])::Hj A t n (Tz A t n (A.getD i [])).2.toNat
theorem AcJ{A:As}{t i n:Nat}(h:dst A t i=(n+1:Nat)):∃l,A[i]?=G l/\Tz A t n l∈l/\dst A t (Tz A t n l).2.toNat=n:=by
 obtain⟨j,⟨l,h1,a,h2,h3⟩,h4⟩:=QK (A:=A) (t:=t) (i:=i) (by omega)
 obtain⟨i1,i2,i3⟩:=UR (fun a=>dst A t a.2.toNat==(n:Int)) l (0,0) false (by simp) (.inr ⟨a,h2,by
  rw[h3,show((j:Int)).toNat=j by omega,h4,h];simp⟩)
 refine⟨l,h1,?_,by rw[Tz];simpa using i1⟩
 rcases i3 with h|⟨h,_⟩
 ·exact h
 ·cases h
theorem VC(A:As)(t:Nat):∀n i:Nat,I (Hj A t n i)=n
 |0,_=>rfl
 |n+1,i=>by rw[Hj,HP,VC A t n]
end Go.Proofs.YtgigepkgakpjbaaGreat

namespace Go.Nv
open List (map_map replicate)
section
variable {C : c9 -> c9 -> Prop} {P : x7} {R : List D -> St -> Prop} {k : List KI} {nt : Nat} {E : List (Nat × D)} {σ : St} {ops : Array yy} {L0 : List yy}
theorem Aaf:∀l:List D,Wk l l
 |[]=>.nil
 |_::l=>.keep (Aaf l)
theorem Ajk(d:D):∀(l:List D) (s:Nat),l[s]?=G .undef->Wk (l.set s d) l
 |[],_,h=>by simp at h
 |x::l,0,h=>by simp at h;subst h;exact .drop (Aaf l)
 |x::l,s+1,h=>.keep (Ajk d l s (by simpa using h))
theorem Abt(t s q l:Nat){sz by':Nat}{ty e:x6}{z:Option yz}{kk:yv}{xs:List V}(E1:List (Nat×D))(h0:L0.isEmpty=O)(hg:Ci (cz nt (E1++[(s,.acc q xs)])) ops (jm L0)=G true)(ht:(jm L0).dst=G t)(hop:(jm L0).op=.slice ty (.tmp s) (G (.const (.int kk (l:Int)))) none none)
  (hs:BW P ty=G (e,sz,by',z)) (hu':(cz nt E1)[s]?=G .undef) (hl:l<=I xs) (hx:(q,sz,xs)∈σ.own) (h1:((cz nt E1).all fun d=>d.noTag q)=J) (hH:∀(i:Nat) (cs:List D),σ.H[i]?=G (G cs)->∀d∈cs,d.noTag q=J)
  (hk:BS C P R k ops L0.tail (cz nt (E1++[(t,.acc q (xs.drop l))])) ⟨σ.H,σ.own.map (FD q sz (xs.drop l))⟩):BS C P R k ops L0 (cz nt (E1++[(s,.acc q xs)])) σ:=by
 have hsv:(cz nt (E1++[(s,.acc q xs)]))[s]?=G (.acc q xs):=by
  rw[KW,List.getElem?_set_self (HN.1 hu').1]
 have hwk:Wk (cz nt (E1++[(s,.acc q xs)])) (cz nt E1):=by
  rw[KW];exact Ajk _ _ _ hu'
 have h1:∀d∈cz nt E1,d.noTag q=J:=IU.1 h1
 rw[WN h0]
 intro E0 En g a w B hC hf hB
 obtain⟨v,hv,hrv⟩:=B7 hf.env hsv
 simp only[Ah] at hrv
 obtain⟨hrep,hι⟩:=hrv
 have hev:a.eval (.tmp s)=v:=by
  have hv':a.tmps[s]?=G v:=by grind
  simp[Act.eval,hv']
 obtain⟨⟨hsz,hsx⟩,u0,hu0,hr0,hp0,hfr⟩:=hf.wi.rep.own q sz xs hx
 obtain rfl:v=u0:=by grind
 obtain⟨inf,hu,hi',rfl,rfl,rfl⟩:=AF hs
 obtain⟨ad,cap,rfl,hc,_⟩:=B6.1 hrep
 obtain⟨_,_,hres⟩:=RE hrep hsx hsz (l:=l) (h:=I xs) hl (HR _)
 rw[List.take_length] at hres
 have hbr:=DX (P:=P) w true (I xs) cap hc (G (kk,(l:Int))) none (l':=l) (h':=I xs) (by grind[C8])
 have CT:∀b,Co (.slice (if cap=l then ad else ad.map (·.add (l*inf.size))) (I xs-l) (cap-l))=G b->Co (.slice ad (I xs) cap)=G b:=by
  intro b hb
  by_cases hcl:cap=l
  ·grind[Co]
  ·rw[Iz hcl] at hb
   cases ad<;>grind[Co,Addr.add]
 have hw':=hf.wi.subOwn hx hι (fun y hy=>hsx y (IY hy)) hres (hp0.drop hl) CT hH
 unfold wpList
 rw[I4 (CP hf.env hg)]
 refine .inl ?_
 simp only[Jr,JJ] at hbr
 have hrun:(execOp a.eval (jm L0)).run P w=.ok (.value (.slice (if cap=l then ad else ad.map (·.add (l*inf.size))) (I xs-l) (cap-l))) w:=by
  simp only[execOp,hop,hev,show a.eval (.const (.int kk (l:Int)))=.int kk l from rfl,Jr,JJ,Instr.sliceAt,Instr.slice,Sem.run_bind,run_underlying hu,Result.andThen_ok,hbr]
  simp[sizeOf,typeInfo,hi']
 unfold Oper.wp
 simp only[hrun,Oper.upon]
 have henv:Ag { g with ι:=fun k' m=>if k'=q then(if m=I (xs.drop l) then G (.slice (if cap=l then ad else ad.map (·.add (l*inf.size))) (I xs-l) (cap-l)) else none) else g.ι k' m } (cz nt E1) a.tmps.toList:=by
  exact Ag.mono (Ao2 g q _ _) _ _ (K1 (k:=q) h1 (FM hf.env hwk.ok.1 hwk.ok.2))
 rw[ht]
 rw[KW] at hk
 refine hk E0 En _ _ _ B hC (FI.put ⟨hw',henv,hf.defers⟩ hw' (Gh.le_refl _) (d:=.acc q (xs.drop l)) ?_ (G t)) hB
 grind[Ah]
end
theorem Nk{g:Gh}:∀{a b:List D} {us:List yz},Ag g (a++b) us->∃u v,us=u++v/\Ag g a u/\Ag g b v
 |[],b,us,h=>⟨[],us,rfl,rfl,h⟩
 |x::a,b,us,h=>by
  simp only[JM,Ag] at h
  obtain⟨u,us',rfl,h1,h2⟩:=h
  obtain⟨v,w,rfl,h3,h4⟩:=Nk h2
  exact⟨u::v,w,rfl,⟨u,v,rfl,h1,h3⟩,h4⟩
theorem VT{P:x7}{f:yx}{ds A B es:List D}{T:List (Option (List D))}{q n sz:Nat}{c1 c2:List D}(hB:D.pls B=J)(he:D.pls es=J)(h1:D.pls c1=J)(h2:D.pls c2=J)(hq:T[q]?=G (G es))
  (h:Aa P f ds ⟨[G A],[]⟩ (.dagg (c1++ .gro (q+1) n sz::c2)) ⟨G B::T,[]⟩):Aa P f ds ⟨[G A],[]⟩ (.dagg (c1++ .arr 1 0 n::c2)) ⟨[G B,G es],[]⟩:=by
 refine⟨h.1,fun g w args hw ha=>Calls.mono (h.2 g w args hw ha) ?_⟩
 rintro e w' ⟨u,g',rfl,hw',hr⟩
 have hgn:g.n=1:=hw.n
 have hne:g'.β 0≠g'.β (q+1):=fun e=>by
  have:=hw'.rep.inj 0 (q+1) B es rfl (by grind) e
  omega
 refine⟨u,{ M:=g'.M,β:=fun i=>if i=0 then g'.β 0 else g'.β (q+1),n:=2,ι:=g'.ι,κ:=fun i=>if i=0 then g'.κ 0 else g'.κ (q+1)},rfl,?_,?_⟩
 ·refine{ rep:=?_,M:=hw'.M,size:=hw'.size,keep:=hw'.keep,os:=hw'.os,tape:=hw'.tape,output:=hw'.output,nE:=?_,βE:=?_,κE:=?_,objs:=?_,owns:=fun x hx=>by grind,drawn:=hw'.drawn }
  ·refine{ n:=rfl,mem:=hw'.rep.mem,obj:=?_,inj:=?_,own:=fun k s xs hx=>by grind,tags:=by simp,sep:=fun x hx=>by grind,ownObj:=fun x hx=>by grind,fresh:=hw'.rep.fresh,gl:=hw'.rep.gl,gw:=hw'.rep.gw }
   ·intro i cs hi
    match i,hi with
    |0,hi=>
     simp at hi;subst hi
     obtain⟨us,rest,et,a1,a2,a3,a4,a5⟩:=hw'.rep.obj 0 B rfl
     grind[BX]
    |1,hi=>
     simp at hi;subst hi
     obtain⟨us,rest,et,a1,a2,a3,a4,a5⟩:=hw'.rep.obj (q+1) es (by grind)
     grind[BX]
    |i+2,hi=>grind
   grind
  ·grind
  ·intro o ho
   have h0:o=0:=by grind
   subst h0;exact hw'.βE 0 ho
  ·intro o ho
   have h0:o=0:=by grind
   subst h0;exact hw'.κE 0 ho
  ·intro i cs hi
   match i,hi with
   |0,hi=>exact hw'.objs 0 B rfl
   |1,hi=>exact hw'.objs (q+1) es (by grind)
   |i+2,hi=>grind
 grind[Ah,Nk,Ag,Au,BX]
theorem BA{σ:St}{p q i sz:Nat}{cs:List D}{xs:List V}(hsz:0<sz)(hp:σ.H[p]?=G (G cs))(hq:σ.H[q]?=G (G (Ab xs)))(hpq:p≠q)(hi:cs[i]?=G (.arr q 0 (I xs)))(hx:∀x∈xs,x.size=sz)(e:List D):
  Cv e σ e ⟨(σ.H.set q none).set p (G (cs.set i (.v (.list xs)))),σ.own⟩:=fun E g a w hf=>by
 obtain⟨us,rest,et,hb,hr,h1,hM,_⟩:=hf.wi.rep.obj q _ hq
 have hA:repA g.M (xs.flatMap V.cellsV) us:=Gp (Gq _) hr h1
 let M':c6:=fun b o=>if b=g.β q then us[o]? else g.M b o
 have hle:g.M.le M':=fun b o v hm=>by
  grind
 have hlg:g.le { g with M:=M' }:=⟨hle,HR _,fun _ _=>rfl,fun _ _ _ h=>h,fun _ _=>rfl⟩
 have hin:f9 M' (g.β q) 0 us:=fun j v hj=>by grind
 have hw':WI E { g with M:=M' } ⟨σ.H.set q none,σ.own⟩ w:=hf.wi.setObjG hle hq (fun c hc=>by grind) (fun b _ hne=>⟨rfl,fun o=>by grind⟩) (fun b o v hm=>by
   simp only[M'] at hm
   split at hm
   ·grind[World.cell?]
   ·exact hf.wi.rep.mem b o v hm) (HR _) rfl rfl rfl
 have hp':(σ.H.set q none)[p]?=G (G cs):=by grind
 obtain⟨us2,rest2,et2,hb2,hr2,h12,_,hκ2⟩:=hw'.rep.obj p cs hp'
 obtain⟨u,hu,hru⟩:=B7 hr2 hi
 simp only[Ah] at hru
 obtain⟨_,cap,hcap,rfl⟩:=hru
 have hlist:repV M' (.list xs) (.slice (G ⟨g.β q,0,none⟩) (I xs) cap):=CH hsz hin (E3 hx (repA.mono hle _ _ hA)) hcap
 have hset:=CB hr2 i (d:=.v (.list xs)) (u:=.slice (G ⟨g.β q,0,none⟩) (I xs) cap) (by grind[Ah])
 rw[D4 hu] at hset
 have h3:=hw'.setObj hp' hb2 hκ2 hset (fun c hc=>by
  rcases Jv hc with h|h
  ·grind
  ·rw[h];rfl) (fun _ _=>rfl) rfl rfl rfl rfl
 exact⟨_,h3,Ag.mono hlg _ _ hf.env,hf.defers⟩
theorem Oz{P:x7}{o:yy}{σ:St}{t:x6}{len:Nat}{parts:Array (Nat×x8)}(ho:o.op=.buildSlice t len parts)(hp:parts.toList=((parts.toList.map (·.2)).zipIdx 0).map fun x=>(x.2,x.1))(hlen:parts.size=len)
  {e:x6} {sz by':Nat} {z:Option yz} (hs:BW P t=G (e,sz,by',z)) (hz:z.isSome=J) {ds:List D} {xs:List V} (hx:Fu ds=G xs) (hsz:∀x∈xs,x.size=sz) (h0:0<len) (h1:0<sz) (h2:len*sz<=1000):
  Ak P o ds σ (.gro (I σ.H) len sz) ⟨σ.H++[G (Ab xs)],σ.own⟩:=by
 intro E g a w K Q hw hds hK
 simp only[ho,Op.operands] at hds
 obtain⟨i,hu,hi,rfl,rfl,rfl⟩:=AF hs
 obtain⟨zz,hzz⟩:=Option.isSome_iff_exists.1 hz
 have hlm:I (parts.toList.map fun p=>a.eval p.2)=len:=by grind
 have hds':Ag g ds (parts.toList.map fun p=>a.eval p.2):=by grind[Function.comp_def]
 obtain⟨hr,hcs⟩:=KC hx hds' hsz
 have hxl:I xs=len:=by rw[GF hx, ←A3 hds',hlm]
 have hpos:0<len*i.size:=Nat.mul_pos h0 h1
 have hf:=Ln i.size (parts.toList.map fun p=>a.eval p.2) 0 [] ((Array.range (len*i.size)).map (zz.cells[· %zz.cells.size]!)).toList (by simp) hcs (by grind)
 have hpp:((parts.toList.map fun p=>a.eval p.2).zipIdx 0).map (fun x=>(x.2,x.1))=parts.toList.map fun p=>(p.1,a.eval p.2):=by
  have e1:(parts.toList.map fun p=>a.eval p.2)=(parts.toList.map (·.2)).map a.eval:=by simp
  rw[e1,List.zipIdx_map,map_map]
  conv=>rhs;rw[hp,map_map]
  rfl
 rw[hpp] at hf
 simp only[List.nil_append,Array.toArray_toList] at hf
 have hrun:=run_buildSlice (P:=P) w t e len (parts.map fun p=>(p.1,a.eval p.2)) _ i zz hu hi hzz (by omega) (by omega) (by simpa using hf)
 generalize hus:(parts.toList.map fun p=>a.eval p.2).flatMap (·.cells.toList)=us at hr hrun
 have hul:I us=len*i.size:=by grind[Cd]
 obtain⟨h5,h6⟩:=EQ hr
 obtain⟨g',h3,h4,h5',h6',h7⟩:=hw.newObjR (us:=us) (rest:=[]) (cs:=Ab xs) e h5 h6
 rw[IX] at h3 h6'
 have:=hK g' _ (.slice (G ⟨w.heap.size,0,none⟩) len len) h3 h4 (by
  grind[Ah])
 unfold Oper.wp execOp
 simp only[ho]
 simp only[Sem.run_bind]
 rw[show(parts.map fun(x:Nat×x8)=>match x with|(i,x)=>(i,a.eval x))=parts.map fun p=>(p.1,a.eval p.2) from rfl,hrun]
 exact this
theorem Qz{ρ τ:Nat->Nat}:∀{ds:List D},(∀c∈D.rens ρ τ ds,c.one=J)->∀c∈ds,c.one=J
 |[],_,c,hc=>by grind
 |d::ds,h,c,hc=>by
  simp only[D.rens,IN] at h
  rcases IN.1 hc with rfl|hc
  ·grind[AbE]
  ·exact Qz (fun x hx=>h x (.inr hx)) c hc
mutual
theorem AbD{ρ τ:Nat->Nat}:∀(d:D),d.pl=J->d.ren ρ τ=d
 |.v _,_|.raw _,_|.rv ..,_|.err,_|.undef,_=>by simp[D.ren]
 |.tup ds,h=>by rw[D.ren,Qo ds (by simpa[D.pl] using h)]
 |.acc ..,h|.ptr ..,h|.arr ..,h|.gro ..,h|.dagg _,h|.dfn ..,h=>by simp[D.pl] at h
theorem Qo{ρ τ:Nat->Nat}:∀(ds:List D),D.pls ds=J->D.rens ρ τ ds=ds
 |[],_=>by simp[D.rens]
 |d::ds,h=>by
  simp only[D.pls,HL] at h
  rw[D.rens,AbD d h.1,Qo ds h.2]
end
mutual
theorem Acw{n:Nat}{ts:List Nat}:∀(d:D),d.pl=J->d.okN n ts=J
 |.v _,_|.raw _,_|.rv ..,_|.err,_|.undef,_=>by simp[D.okN]
 |.tup ds,h=>by rw[D.okN,Q3 ds (by simpa[D.pl] using h)]
 |.acc ..,h|.ptr ..,h|.arr ..,h|.gro ..,h|.dagg _,h|.dfn ..,h=>by simp[D.pl] at h
theorem Q3{n:Nat}{ts:List Nat}:∀(ds:List D),D.pls ds=J->D.okNs n ts ds=J
 |[],_=>by simp[D.okNs]
 |d::ds,h=>by
  simp only[D.pls,HL] at h
  rw[D.okNs,Acw d h.1,Q3 ds h.2];rfl
end
theorem AA{ρ τ:Nat->Nat}{ds:List D}(h:D.pls ds=J):D.rens ρ τ ds=ds:=Qo ds h
theorem AO{n:Nat}{ts:List Nat}{ds:List D}(h:D.pls ds=J):D.okNs n ts ds=J:=Q3 ds h
theorem EL{P:x7}{f:yx}{ds:List D}{σ:St}{d:D}{T H':List (Option (List D))}(sel:Nat->Nat)(hk:I σ.H<=I H')(hfix:∀i,i<I σ.H->sel i=i)
  (hinj:∀i j,i<I H'->j<I H'->sel i=sel j->i=j) (_:∀i,i<I H'->sel i<I T)
  (hsel:∀i cs,H'[i]?=G (G cs)->T[sel i]?=G (G (D.rens sel id cs))/\D.okNs (I H') [] cs=J) (hd:d.okN (I H') []=J)
  (h:Aa P f ds σ (d.ren sel id) ⟨T,[]⟩):Aa P f ds σ d ⟨H',[]⟩:=by
 refine⟨h.1,fun g w args hw ha=>Calls.mono (h.2 g w args hw ha) ?_⟩
 rintro e w' ⟨u,g',rfl,hw',hr⟩
 have hgn:g.n=I σ.H:=hw.n
 have hn':g'.n=I T:=hw'.rep.n
 let g2:Gh:={ M:=g'.M,β:=fun i=>g'.β (sel i),n:=I H',ι:=g'.ι,κ:=fun i=>g'.κ (sel i)}
 have ho:∀o,o<I H'->sel o<g'.n->id o<g2.n/\g2.β (id o)=g'.β (sel o)/\g2.κ (id o)=g'.κ (sel o):=fun o h _=>⟨h,rfl,rfl⟩
 have hι:∀t,([]:List Nat).contains t=J->∀m u,g'.ι (id t) m=G u->g2.ι (id t) m=G u:=fun t ht=>by grind
 have hdd:=fun(d:D) (u:yz) (hk:d.okN (I H') []=J) (h:Ah g' (d.ren sel id) u)=>by
  have:=Mv (g:=g') (g':=g2) (ρ:=sel) (τ:=id) (ρ':=id) (τ':=id) (fun _ _ h=>h) ho hι d u hk h
  rwa[OK] at this
 have hds:=fun(ds:List D) (us:List yz) (hk:D.okNs (I H') [] ds=J) (h:Ag g' (D.rens sel id ds) us)=>by
  have:=Ee (g:=g') (g':=g2) (ρ:=sel) (τ:=id) (ρ':=id) (τ':=id) (fun _ _ h=>h) ho hι ds us hk h
  rwa[E4] at this
 refine⟨u,g2,rfl,?_,hdd d u hd hr⟩
 refine{ rep:=?_,M:=hw'.M,size:=hw'.size,keep:=hw'.keep,os:=hw'.os,tape:=hw'.tape,output:=hw'.output,nE:=?_,βE:=?_,κE:=?_,objs:=?_,owns:=fun x hx=>by grind,drawn:=hw'.drawn }
 ·refine{ n:=rfl,mem:=hw'.rep.mem,obj:=?_,inj:=?_,own:=fun k s xs hx=>by grind,tags:=by simp,sep:=fun x hx=>by grind,ownObj:=fun x hx=>by grind,fresh:=hw'.rep.fresh,gl:=hw'.rep.gl,gw:=hw'.rep.gw }
  ·intro i cs hi
   obtain⟨h1,h2⟩:=hsel i cs hi
   obtain⟨us,rest,et,a1,a2,a3,a4,a5⟩:=hw'.rep.obj (sel i) _ h1
   exact⟨us,rest,et,a1,hds cs us h2 a2,Qz a3,a4,a5⟩
  ·intro i j cs ds hi hj hij
   have hil:=(HN.1 hi).1
   have hjl:=(HN.1 hj).1
   exact hinj i j hil hjl (hw'.rep.inj _ _ _ _ (hsel i cs hi).1 (hsel j ds hj).1 hij)
 ·grind
 ·intro o ho2
  have h2:o<I σ.H:=by grind
  show g'.β (sel o)=g.β o
  rw[hfix o h2];exact hw'.βE o ho2
 ·intro o ho2
  have h2:o<I σ.H:=by grind
  show g'.κ (sel o)=g.κ o
  rw[hfix o h2];exact hw'.κE o ho2
 ·intro i cs hi
  exact hw'.objs _ _ (hsel i cs hi).1
theorem AlA{E:c9}{g:Gh}{σ:St}{e e':List D}{a:Act}{w:x5}{H':List (Option (List D))}(sel:Nat->Nat){m:Nat}(hEm:E.g.n<=m)(hm:m<=I H')(hfix:∀i,i<m->sel i=i)
  (hinj:∀i j,i<I H'->j<I H'->sel i=sel j->i=j)
  (hsel:∀i cs,H'[i]?=G (G cs)->σ.H[sel i]?=G (G (D.rens sel id cs))/\D.okNs (I H') (σ.own.map (·.1)) cs=J)
  (he:D.okNs (I H') (σ.own.map (·.1)) e'=J) (hee:e=D.rens sel id e') (hf:FI E g σ e a w):∃g',FI E g' ⟨H',σ.own⟩ e' a w:=by
 have hw:=hf.wi
 let g2:Gh:={ M:=g.M,β:=fun i=>g.β (sel i),n:=I H',ι:=g.ι,κ:=fun i=>g.κ (sel i)}
 have ho:∀o,o<I H'->sel o<g.n->id o<g2.n/\g2.β (id o)=g.β (sel o)/\g2.κ (id o)=g.κ (sel o):=fun o h _=>⟨h,rfl,rfl⟩
 have hι:∀t,(σ.own.map (·.1)).contains t=J->∀m u,g.ι (id t) m=G u->g2.ι (id t) m=G u:=fun t _ m u h=>h
 have hds:=fun(ds:List D) (us:List yz) (hk:D.okNs (I H') (σ.own.map (·.1)) ds=J) (h:Ag g (D.rens sel id ds) us)=>by
  have:=Ee (g:=g) (g':=g2) (ρ:=sel) (τ:=id) (ρ':=id) (τ':=id) (fun _ _ h=>h) ho hι ds us hk h
  rwa[E4] at this
 refine⟨g2,?_,hds e' _ he (hee▸hf.env),hf.defers⟩
 refine{ rep:=?_,M:=hw.M,size:=hw.size,keep:=hw.keep,os:=hw.os,tape:=hw.tape,output:=hw.output,nE:=Jn hEm hm,βE:=?_,κE:=?_,objs:=?_,owns:=hw.owns,drawn:=hw.drawn }
 ·refine{ n:=rfl,mem:=hw.rep.mem,obj:=?_,inj:=?_,own:=hw.rep.own,tags:=hw.rep.tags,sep:=hw.rep.sep,ownObj:=?_,fresh:=hw.rep.fresh,gl:=hw.rep.gl,gw:=hw.rep.gw }
  ·intro i cs hi
   obtain⟨h1,h2⟩:=hsel i cs hi
   obtain⟨us,rest,et,a1,a2,a3,a4,a5⟩:=hw.rep.obj (sel i) _ h1
   exact⟨us,rest,et,a1,hds cs us h2 a2,Qz a3,a4,a5⟩
  ·intro i j cs ds hi hj hij
   have hil:=(HN.1 hi).1
   have hjl:=(HN.1 hj).1
   exact hinj i j hil hjl (hw.rep.inj _ _ _ _ (hsel i cs hi).1 (hsel j ds hj).1 hij)
  ·intro x hx u hu b hb i cs hi
   exact hw.rep.ownObj x hx u hu b hb _ _ (hsel i cs hi).1
 ·intro o ho2
  show g.β (sel o)=E.g.β o
  rw[hfix o (by omega)];exact hw.βE o ho2
 ·intro o ho2
  show g.κ (sel o)=E.g.κ o
  rw[hfix o (by omega)];exact hw.κE o ho2
 ·intro i cs hi
  exact hw.objs _ _ (hsel i cs hi).1
theorem Cq{C:c9->c9->Prop}{P:x7}{R:List D->St->Prop}{k:List KI}{σ:St}{e e':List D}{H':List (Option (List D))}{m:Nat}(hCm:∀E0 E,C E0 E->E.g.n<=m)(sel:Nat->Nat)(hm:m<=I H')(hfix:∀i,i<m->sel i=i)
  (hinj:∀i j,i<I H'->j<I H'->sel i=sel j->i=j)
  (hsel:∀i cs,H'[i]?=G (G cs)->σ.H[sel i]?=G (G (D.rens sel id cs))/\D.okNs (I H') (σ.own.map (·.1)) cs=J)
  (he:D.okNs (I H') (σ.own.map (·.1)) e'=J) (hee:e=D.rens sel id e') (h:A5 C P R k e' ⟨H',σ.own⟩):A5 C P R k e σ:=by grind[AlA,A5]
theorem EN{C:c9->c9->Prop}{P:x7}{R:List D->St->Prop}{k:List KI}{H0 H':List (Option (List D))}{e e':List D}(hCm:∀E0 E,C E0 E->E.g.n<=0)(j:Nat)(hj:I H0=j)(hp:∀cs,G cs∈H'->D.pls cs=J)
  (he:D.okNs (I H') [] e'=J) (hee:e=D.rens (fun i=>i+j) id e') (h:A5 C P R k e' ⟨H',[]⟩):A5 C P R k e ⟨H0++H',[]⟩:=by
 refine Cq (σ:=⟨H0++H',[]⟩) (e':=e') (H':=H') (m:=0) hCm (fun i=>i+j) (II _) (fun i hi=>by omega) (fun i k _ _ h=>by omega) (fun i cs hi=>?_) he hee h
 grind[AO,AA]
theorem HI{P:x7}{f:yx}{ds:List D}{k:Nat}{xs:List V}{own:List (Nat×Nat×List V)}(h:Aa P f ds ⟨[],[]⟩ (.acc k xs) ⟨[],own⟩):Aa P f ds ⟨[],[]⟩ (.v (.list xs)) ⟨[],[]⟩:=by
 refine⟨h.1,fun g w args hw ha=>Calls.mono (h.2 g w args hw ha) ?_⟩
 rintro e w' ⟨u,g',rfl,hw',hr⟩
 have hw2:=XE (σ':=⟨[],[]⟩) hw' (m:=0) rfl (II _) (by rw[hw.n];grind) rfl (by simp)
 grind[Ah]
def k9:St:=⟨[],[(1,1,[]),(1,1,[])]⟩
theorem W1{P:x7}{o:yy}{ds:List D}{d:D}{s':St}:Ak P o ds k9 d s':=fun E g a w K Q hw=>by
 have:=hw.rep.tags
 grind[k9]
theorem AgZ{P:x7}{o:yy}{ds:List D}{q off:Nat}{s:St}{d:D}{s':St}(h:I s.H<=q):Ak P o (.ptr q off::ds) s d s':=fun E g a w K Q hw hds=>by
 simp only[Ag,Ah] at hds
 obtain⟨u,us,_,h1,_⟩:=hds
 have:=h1.1
 have:=hw.rep.n
 omega
theorem RG:∀(L:List (Nat×D)) (e0 e:List D),I e0=I e->(∀(i:Nat) (d':D),e0[i]?=G d'->d'=.undef∨e[i]?=G d')->(∀p∈L,e0[p.1]?=G .undef)->
  (I e0)=I (L.foldl (fun e p=>e.set p.1 p.2) e)/\∀(i:Nat) (d':D),e0[i]?=G d'->d'=.undef∨(L.foldl (fun e p=>e.set p.1 p.2) e)[i]?=G d'
 |[],e0,e,hl,h,_=>⟨hl,h⟩
 |p::L,e0,e,hl,h,hp=>by
  refine RG L e0 (e.set p.1 p.2) (by simpa using hl) (fun i d' hd=>?_) (fun q hq=>hp q (by simp[hq]))
  by_cases hi:i=p.1
  ·subst hi
   rw[hp p (by simp)] at hd
   simp at hd;exact .inl hd.symm
  ·rw[List.getElem?_set_ne (fun e=>hi e.symm)];exact h i d' hd
theorem U0{C:c9->c9->Prop}{P:x7}{R:List D->St->Prop}{k:List KI}{n:Nat}{L L2:List (Nat×D)}{σ:St}(hp:∀p∈L2,(cz n L)[p.1]?=G .undef)(h:A5 C P R k (cz n L) σ):A5 C P R k (cz n (L++L2)) σ:=by
 obtain⟨h1,h2⟩:=RG L2 (cz n L) (cz n L) rfl (fun i d' hd=>.inr hd) hp
 grind[cz,JS]
theorem Aiw{P:x7}(hm:P.follows .mixedOrders=J){C:Nat}{fn:yw}{d:D}{σ':St}(nt:Nat)(im:List Nat){ks T:List KI}{L:List (Nat×D)}{σ:St}(s:Sc)
  (h:B3 (cz nt L) fun env=>vc (CN C) C P (fun env σ1=>A7 P fn env σ1 d σ') (li P fn.results.toList d σ') nt im T 10000 s ks env σ):Rn P fn C d σ' (ks++T) (cz nt L) σ:=Ajv hm (NA _) _ (fun _ _ h=>h.2) nt im s h
noncomputable def Af1(P:x7)(rs:List ResultVar)(d:D)(σ':St)(env:List D)(σ:St)(kn0:Bool:=false):Prop:=
 mh P env σ true rs fun ds=>B3 (ds.map (ir (σ'.own.map (·.1)) kn0)) fun ds=>wy ds fun d'=>
  cond (D.okN (I σ'.H) (σ'.own.map (·.1)) d&&Nat.ble (I σ'.H) (I σ.H)) (xc true (cp (I σ'.H) (σ'.own.map (·.1)) (σ.H.take (I σ'.H)))
   (Vj σ'.H (σ.H.take (I σ'.H)) (Vj σ'.own (n9 (σ'.own.map (·.1)) σ.own) (d'=d)))) False
theorem PU{P:x7}{fn:yw}{d:D}{σ':St}{env:List D}{σ:St}(h:Af1 P fn.results.toList d σ' env σ):A7 P fn env σ d σ':=by
 obtain⟨ds,h1,hr⟩:=HE h
 rw[AX,Qs] at h1
 obtain⟨h2,h3⟩:=Av h1
 obtain⟨h8,h3⟩:=UI h3
 simp only[HL] at h2
 generalize false=kn at h3
 have h4:U8 (ds.map (ir (σ'.own.map (·.1)) kn))=d/\σ.H.take (I σ'.H)=σ'.H/\n9 (σ'.own.map (·.1)) σ.own=σ'.own:=by
  obtain⟨e1,h3⟩:=Hz h3 (fun e=>by grind)
  grind[Hz,n9,List.filter_eq_nil_iff]
 obtain⟨rfl,hH,CT⟩:=h4
 intro E g a w hf hE
 obtain⟨us,h5,h6⟩:=hr.run hf
 have hrun:(results fn a.tmps).run P w=.ok (if h:I us=1 then us[0] else .tuple us.toArray) w:=by
  rw[JU,Array.mapM_eq_mapM_toList]
  simp_all
 have hsub:σ'.own.Sublist σ.own:=by rw[←CT];exact List.filter_sublist
 refine⟨_,_,hrun,XE hf.wi hH.symm (IC h2.2) hE (by grind) hsub,?_⟩
 refine Qm _ _ h2.1 ?_
 have h7:=Dz (ts:=σ'.own.map (·.1)) (kn:=kn) h6
 generalize ds.map (ir (σ'.own.map (·.1)) kn)=ds' at h7
 have hl:=A3 h7
 unfold U8
 split
 ·grind[AG]
 ·rename_i hne
  have:I us≠1:=by
   rw[hl]
   intro h
   match ds',h with
   |[d0],_=>grind
  grind[Ah]
theorem Qe{P:x7}(hm:P.follows .mixedOrders=J){f:yx}{ds:List D}{σ σ':St}{d:D}(fn:yw)(c:Code)(hf:P.funcs[f]?=G fn)(hb:fn.body=G c)(hn:(fn.name=="runtime.NumGoroutine")=O)(hH:Nat.ble (I σ.H) (I σ'.H)=J)(nt:Nat)(hnt:I (ds++replicate (fn.ntmps-I ds) bk)=nt)
  (im:List Nat) (s:Sc)
  (h:B3 (ds++replicate (fn.ntmps-I ds) bk) fun env=>vc (CN (I σ.H)) (I σ.H) P (fun env σ1=>A7 P fn env σ1 d σ') (fun _ env σ=>Af1 P fn.results.toList d σ' env σ) nt im [] 10000 s [.code c] env σ):Aa P f ds σ d σ':=by
 rw[AX] at h
 refine LU hf hb hn (IC hH) ?_
 exact PR (ks:=[.code c]) (T:=[]) (NA _) (fun _ _ h=>h.2) hm (fun b env σ _ h=>PU h) hnt h
section
variable {P : x7} {o : yy} {σ : St} {d : D}
theorem Nx{x:x8}{t:x6}(ho:o.op=.call { callee:=.builtin .clear,args:= #[x],argTypes:= #[t]}){e:x6}{sz by':Nat}{z:yz}(hs:BW P t=G (e,sz,by',G z)){zs:List V}(hz:FS z.cells.toList=G zs)(hzc:z.cells.size=sz)
  {q off len:Nat} {cs:List D} (hq:σ.H[q]?=G (G cs)) (hn:0<len) (hfit:off+len*sz<=I cs):
  Ak P o [.arr q off len] σ (.tup []) ⟨σ.H.set q (G (cs.take off++(replicate len zs).flatten.map .v++cs.drop (off+len*sz))),σ.own⟩:=by
 intro E g a w K Q hw hds hK
 simp only[ho,Op.operands,Call.operands] at hds
 obtain⟨u,eq,h1⟩:=AG.1 (by simpa using hds)
 simp only[HX,IL] at eq
 simp only[Ah] at h1
 obtain⟨_,cap,_,rfl⟩:=h1
 obtain⟨i,hu,hi,hsz,hby,hzz⟩:=AF hs
 obtain⟨us,rest,et,hb,hr,hone,hM,hκ⟩:=hw.rep.obj q cs hq
 have hul:=A3 hr
 have hcells:(Builtin.zeroCells z.cells len).toList=(replicate len z.cells.toList).flatten:=by
  have h:=Mb z.cells len
  grind[Builtin.zeroCells,madeCells]
 obtain⟨hr1,ho1⟩:=D7 (g:=g) (Eo (M:=g.M) hz)
 have hrz:∀m,Ag g ((replicate m zs).flatten.map .v) (replicate m z.cells.toList).flatten/\∀c∈ (replicate m zs).flatten.map bt,c.one=J:=by
  intro m
  induction m<;>grind[Ag,Au]
 have hvl:(replicate len z.cells.toList).flatten.length=len*sz:=by simp_all
 have hst:=run_storeCells_at P (g.β q) off et (replicate len z.cells.toList).flatten 0 (us++rest).toArray w hb (by grind) (fun v hv=>Cy (hrz len).2 (hrz len).1 v hv)
 simp only[Jp,hvl] at hst
 rw[show(us++rest).take off++(replicate len z.cells.toList).flatten++(us++rest).drop (off+len*sz)=(us.take off++(replicate len z.cells.toList).flatten++us.drop (off+len*sz))++rest from by
  grind] at hst
 have hw':=hw.setObj (cs':=cs.take off++(replicate len zs).flatten.map .v++cs.drop (off+len*sz)) hq (us:=us.take off++(replicate len z.cells.toList).flatten++us.drop (off+len*sz)) (rest:=rest) (e:=et)
  (w':=w.setRow (g.β q) ((us.take off++(replicate len z.cells.toList).flatten++us.drop (off+len*sz))++rest).toArray) (setRow_heap w _ _ _ et _ hb) (by grind)
  (Au (Au (Cn hr off) (hrz len).1) (Cz hr (off+len*sz)))
  (fun c hc=>by
   grind)
  (fun b hb=>setRow_other w _ _ _ hb) (by simp) rfl rfl rfl
 have:=hK g _ (.tuple #[]) hw' g.le_refl (by grind[Ah,Ag])
 obtain⟨m,hm⟩:∃m,len=m+1:=⟨len-1,by omega⟩
 have hrun:(Builtin.clear_ #[t] o.type #[.slice (G ⟨g.β q,off,none⟩) len cap]).run P w=.ok (.tuple #[]) (w.setRow (g.β q) ((us.take off++(replicate len z.cells.toList).flatten++us.drop (off+len*sz))++rest).toArray):=by
  subst hm
  simp[Builtin.clear_,run_underlying hu,zeroValue,typeInfo,hi,hzz,hcells,hst]
 unfold Oper.wp execOp
 simp only[ho,resolve,invoke,builtin,Sem.run_bind,Sem.run_pure,Result.andThen_ok]
 grind[Oper.upon,Result.andThen]
end
theorem Vm{env:List D}{σ:St}{q t sz n:Nat}{xs:List V}{rest:List D}(hsz:0<sz)(hs:∀x∈xs,x.size=sz)(hn:n=I xs)(hq:σ.H[q]?=G (G (Ab xs++rest)))(ht:env[t]?=G (.arr q 0 n)):Cv env σ (env.set t (.v (.list xs))) ⟨σ.H.set q none,σ.own⟩:=fun E g a w hf=>by
 subst hn
 have hone:∀y∈xs.flatMap V.cellsV,y.isAgg=O:=fun y hy=>by
  obtain⟨_,_,_,_,_,h1,_⟩:=hf.wi.rep.obj q _ hq
  have:=h1 (.v y) (IV.2 (.inl (IQ.2 ⟨y,hy,rfl⟩)))
  grind[D.one]
 have hz:Fz (EV [q] σ.H) env (env.set t (.v (.list xs))):=by
  refine OY (n:=1) (Fz.refl env) ht (.inr (.inr ⟨q,0,sz,Ab xs++rest,xs,.inl rfl,rfl,hsz,hs,by grind[EV],fun j y hy=>?_⟩))
  have hj:j<I (Ab xs):=by grind[Ab]
  exact⟨hone y (HQ hy),.v y,by grind[Ab],.v y,.same,rfl⟩
 obtain⟨g',hf'⟩:=SQ [q] hz E g a w hf
 grind[NC]
theorem Ab4(n:Nat):d6 n (List.range n)=id:=by
 grind[d6]
theorem Om:∀(H2 H1 os:List (Option (List D))),I H2<=I os->CG (H1++H2) (List.range' (I H1) (I H2)) os=H1++os
 |[],H1,os,_=>by simp[CG]
 |x::H2,H1,[],h=>by simp at h
 |x::H2,H1,o::os,h=>by
  rw[HP,List.range'_succ,CG]
  have h2:=Om H2 (H1++[o]) os (by simpa using h)
  rw[HY,HP,HT] at h2
  rw[show(H1++x::H2).set (I H1) o=(H1++[o])++H2 by rw[List.set_append_right _ _ (HR _)];simp]
  rw[show I H1+1=I H1+(0+1) by omega,h2]
  simp
theorem Ag9(H:List (Option (List D))):Dn id id H=H:=by
 unfold Dn
 conv=>rhs;rw[←List.map_id H]
 refine List.map_congr_left fun x _=>?_
 cases x<;>grind[E4]
theorem Oq{n:Nat}{qs:List Nat}(hq:I qs=n)(hr:d6 n qs=id):∀{ds:List D},D.okNs n [] ds=J->Mo n qs ds ds
 |[],_=>.nil
 |d::ds,h=>by
  simp only[D.okNs,HL] at h
  refine .cons ?_ (Oq hq hr h.2)
  have:=qn.ren (n:=n) (qs:=qs) (dc:=d) (by rw[hq];exact h.1)
  rwa[hr,OK] at this
theorem Sj{H:List (List D)}{qs:List Nat}(hq:I qs=I H)(hr:d6 (I H) qs=id)(hH:∀cs∈H,D.okNs (I H) [] cs=J/\cs.all D.one=J):∀(k:Nat),k<=I H->Rh (H.map some) qs (List.range' (I H-k) k) ((H.drop (I H-k)).map some)
 |0,_=>by simp;exact .nil
 |k+1,hk=>by
  have hlt:I H- (k+1)<I H:=by omega
  rw[List.range'_succ,HZ hlt,I9,show I H- (k+1)+1=I H-k by omega]
  have hm:=hH _ (List.getElem_mem hlt)
  refine .cons (cs:=H[I H- (k+1)]) (by rw[IP,HK hlt];rfl) ?_ hm.2 (Sj hq hr hH k (by omega))
  rw[HJ]
  exact Oq hq hr hm.1
theorem D9{P:x7}{o:yy}{c:Call}{fo:x8}(ho:o.op=.call c)(hc:c.callee=.value fo){fD:D}{f:yx}{fs cs:List D}(hf:QG fD=G (f,fs,cs)){H:List (List D)}{H':List (Option (List D))}{ds:List D}{d:D}
  (hspec:Aa P f (fs++ds++cs) ⟨H.map some,[]⟩ d ⟨H',[]⟩) (hds:D.okNs (I H) [] (fs++ds++cs)=J) (hH:∀cs∈H,D.okNs (I H) [] cs=J/\cs.all D.one=J) (hd:d.okN (I H') []=J) (hH':cp (I H') [] H'=J) (hle:I H<=I H'):
  Ak P o (fD::ds) ⟨H.map some,[]⟩ d ⟨H',[]⟩:=by
 have hq:I (List.range (I H))=I H:=List.length_range
 have hr:=Ab4 (I H)
 have hl:I (H.map some)=I H:=HJ ..
 have hob:=Sj hq hr hH (I H) (HR _)
 rw[Nat.sub_self,JG, ←List.range_eq_range'] at hob
 have h:=BE (σ:=⟨H.map some,[]⟩) ho hc hf (List.range (I H)) id hspec (by
  show Mo (I (H.map some)) _ _ _
  rw[hl];exact Oq hq hr hds) hob List.nodup_range rfl (by simp) (by simp) hd hH'
 have hb:CG (H.map some) (List.range (I H)) H'=H':=by
  have:=Om (H.map some) [] H' (by omega)
  grind[List.range_eq_range']
 grind[OK,Ag9,E5]
end Go.Nv

namespace Go.Proofs.YtgigepkgakpjbaaGreat
open List (all_cons any_cons map_set replicate take)
abbrev cg(a:Aw):V:=.agg [vi a.1,vi a.2]
abbrev Ai(l:List Aw):V:=.list (l.map cg)
abbrev gg(A:As):V:=.list (A.map Ai)
structure Gph where
 cs:List b9
 ar:As
abbrev vG(G:Gph):V:=.agg [dq G.cs,gg G.ar]
abbrev dG(G:Gph):D:=.v (vG G)
structure BT(G:Gph):Prop where
 cs:I G.cs<=1000
 ar:I G.ar<=1000
 row:∀l∈G.ar,I l<=9223372036854775807
 fit:∀v∈G.cs,v.fit
theorem AhK(F:yx)(fs cs:List V)(p:Aw->Bool)(l:List (Aw))(hl:I l<=9223372036854775807)(hp:∀x∈l,F0 F ((fs++[cg x]++cs).map .v) (db (p x)))(n:Nat):∀k:Nat,I l-k=n->
  Rn PP ug 0 (di (dv p (l.drop k) k)) bd ([zu ug 52,.blk 0,zt ug 7]++[]) (cz 19 [(0,dl (l.map cg)),(1,.v (.fn F fs cs)),(7,di (I l)),(8,di k)]) bd:=by
 induction n using Nat.strongRecOn with
 |_ n ih=>
 intro k hn
 refine zp (.b (.e fun x:Aw=>.x (cg x)<|.c (db (p x))<|.b .r (.l (qr k))) .r) ((ye k (I l)->∃a,y6 k/\(U cg l)[Z (k:Int)]?=some (cg a)/\Aa PP F (U bt (fs++[cg a]++cs)) d7 (db (p a)) d7/\(p a=J->di (k:Int)=di (dv p (W k l) k))/\(p a=O->zx k/\Nv.It (A5 (CN 0) PP (fun env σ1=>A7 PP ug env σ1 (di (dv p (W k l) k)) bd) [zu ug 52,bh 0,zt ug 7] (cz 19 [(0,bt (ae (U cg l))),(kr F fs cs),(7,di (I l:Int)),(8,zw k)]) bd)))/\(yd k (I l)->di (-1)=di (dv p (W k l) k))) ⟨fun h=>?_,fun h=>?_⟩
 ·have hk:k<I l:=by grind
  have hx:l[k]?=some l[k]:=HK hk
  rw[HZ hk]
  generalize l[k]=x at hx⊢
  refine⟨x,by omega,Ae hx,hp x (HQ hx),fun hf=>by simp[dv,hf],fun hf=>⟨Ac,⟨?_⟩⟩⟩
  simp only[dv,hf]
  exact ih (I l- (k+1)) (by omega) (k+1) rfl
 grind[List.drop_of_length_le,dv]
theorem AhJ(F:yx)(fs cs:List V)(p:Aw->Bool)(l:List (Aw))(hl:I l<=9223372036854775807)(hp:∀x∈l,F0 F ((fs++[cg x]++cs).map .v) (db (p x))):
  F0 88 [dl (l.map cg),.v (.fn F fs cs)] (di (dv p l 0)):=by
 refine zq ug 19 (.l [ke 0,ke 1,ch 7 (di (I l)),ch 8 (di (0:Nat))]) (di (I (U cg l):Int)=di (I l:Int)/\Q (di 0)/\I0 ug (I bd.H) (di (dv p l 0)) bd [zu ug 52,bh 0,zt ug 7] (cz 19 [(0,dl (U cg l)),(kr F fs cs),(7,di (I l:Int)),(8,di (↑0:Int))]) bd) ⟨by simp,rfl,⟨?_⟩⟩
 exact AhK F fs cs p l hl hp _ 0 rfl
theorem NG(F:yx)(fs cs:List V)(p:Aw->Bool)(l:List (Aw))(hl:I l<=9223372036854775807)(hp:∀x∈l,F0 F ((fs++[cg x]++cs).map .v) (db (p x))):
  F0 44 [dl (l.map cg),.v (.fn F fs cs)] (db (l.any p)):=by
 refine zq ArA 9 (.c (di (dv p l 0)) .r) (F0 88 [bt (ae (U cg l)),bt (bw F fs cs)] (di (dv p l 0))/\db (Y (dv p l 0>=0))=db (List.any l p)) ?_
 grind[AhJ,Fp]
def Tn(n:Int)(a:Aw):Bool:=Y (a.2<0)||Y (a.2>=n)
theorem Adx(n:Int)(a:Aw):F0 45 [.v (cg a),.v (.ref (vi n))] (db (Tn n a)):=by
 refine sv ArJ 13 [2] (.b .r .r) ((ye a.snd 0->db J=db (Tn n a))/\(yd a.snd 0->db (Y (a.snd>=n))=db (Tn n a))) ?_
 grind[Tn]
theorem Abb(x v:b9)(hx:x.fit):F0 75 [dV x,.v (.ref (Ad v))] (db (Ay x v==0)):=by
 refine sv AjJ 7 [2] (.c (db (Ay x v==0)) .r) (F0 76 [dV x,dV v] (db (Ay x v==0))/\Q (db (Ay x v==0))) ?_
 grind[MQ]
theorem Ags(l:List b9)(hl:I l<=1000000)(hs:∀v∈l,v.fit)(v:b9):F0 39 [co l,dV v] (di (AZ l v)):=by
 exact sv AoQ 8 [3] (.c (di (AZ l v)) .r) (_/\Q (di (AZ l v))) ⟨QC _ [] [_] _ l hl fun x hx=>Abb x v (hs x hx),rfl⟩
def ja(n:Int):List b9->List b9->As->Bool
 |de,c::cs,l::A=>Y (AZ de c<0)&& !(l.any (Tn n))&&ja n (de++[c]) cs A
 |_,[],_=>true
 |_,_::_,[]=>true
def fz(G:Gph):Bool:=Y (1<=I G.cs)&&Y (I G.cs<=128)&&Y (I G.ar=I G.cs)&&ja (I G.cs) [] G.cs G.ar
noncomputable def Z3:=yl SD
theorem Ady(G:Gph)(h:BT G)(hl:I G.ar=I G.cs)(n:Nat):∀k:Nat,I G.cs-k=n->
  Rn PP SD 0 (di (if ja (I G.cs) (G.cs.take k) (G.cs.drop k) (G.ar.drop k)=J then 0 else 45)) bd ([kl Z3 [1,1,1,0,1,0,0],.blk 0,kc Z3 [1,1,1,1]]++[]) (cz 45 [(1,.v (.ref (vG G))),(3,.v (.ref (vi (I G.cs)))),(23,co G.cs),(24,di (I G.cs)),(25,di k)]) bd:=by
 have h1:=h.cs
 induction n with
 |zero=>
  intro k hn
  rw[I3 (by omega),show ∀p A,ja (I G.cs) p [] A=J from fun p A=>by cases A<;>rfl,I4 rfl]
  exact lv 45 [1] (.f .r) (Y ((k:Int)<(I G.cs:Int))=O/\Q (di 0)) ⟨yq,rfl⟩
 |succ n ih=>
  intro k hn
  obtain⟨x,hx⟩:∃x,G.cs[k]?=some x:=⟨_,HK (by omega)⟩
  obtain⟨r,hr⟩:∃r,G.ar[k]?=some r:=⟨_,HK (by omega)⟩
  have e1:G.cs.drop k=x::G.cs.drop (k+1):=by rw[HZ (by omega)];congr 1;rw[HK (by omega)] at hx;simpa using hx
  have e2:G.ar.drop k=r::G.ar.drop (k+1):=by rw[HZ (by omega)];congr 1;rw[HK (by omega)] at hr;simpa using hr
  have e3:G.cs.take k++[x]=G.cs.take (k+1):=by rw[J2,hx];rfl
  have hi:F0 39 [.v (.list ((G.cs.map eV).take k)),dV x] (di (AZ (G.cs.take k) x)):=by
   rw[←List.map_take]
   exact Ags (G.cs.take k) (by rw[ID];omega) (fun v hv=>h.fit v (J6 hv)) x
  have h2:∀y∈G.cs.map eV,V.size y=2:=D3 _
  have hki:(k:Int)<=(I (G.cs.map eV):Int):=by rw[HJ];omega
  have hh:=NG 45 [] [.ref (vi (I G.cs))] (Tn (I G.cs)) r (h.row r (HQ hr)) (fun a _=>Adx _ a)
  have hih:=ih (k+1) (by omega)
  rw[e1,e2,ja,e3]
  generalize AZ (G.cs.take k) x=i at*
  by_cases hi0:i<0
  ·rw[HM hi0,IG]
   cases hb:r.any (Tn (I G.cs)) with
   |true=>
    rw[hb] at hh
    exact lv 45 [1] (.t<|.x (Ad x)<|.c (di i)<|.f<|.x (Ai r)<|.c (db J)<|.k<|.r) (Y ((k:Int)<(I G.cs:Int))=J/\0<=(k:Int)/\(U eV G.cs)[Z (k:Int)]?=some (Ad x)/\_/\0<=(fun x=>x.snd) (yt,(k:Int))/\_/\_/\yp/\Y (i>=0)=O/\0<=(k:Int)/\(U Ai G.ar)[Z (k:Int)]?=some (Ai r)/\_/\Q (di 45)) ⟨yr,by omega,Ap hx,h2,Int.natCast_nonneg _,hki,hi,yn,yq,by omega,Ae hr,hh,rfl⟩
   |false=>
    rw[hb] at hh
    rw[show(!false&&ja (I G.cs) (G.cs.take (k+1)) (G.cs.drop (k+1)) (G.ar.drop (k+1)))=ja (I G.cs) (G.cs.take (k+1)) (G.cs.drop (k+1)) (G.ar.drop (k+1)) from rfl]
    exact lv 45 [1] (.t<|.x (Ad x)<|.c (di i)<|.f<|.x (Ai r)<|.c (db O)<|.k<|.ls [ke 1,ke 3,ke 23,ke 24,ch 25 (di (k+1:Nat))] bd) (Y ((k:Int)<(I G.cs:Int))=J/\0<=(k:Int)/\(U eV G.cs)[Z (k:Int)]?=some (Ad x)/\_/\0<=(fun x=>x.snd) (yt,(k:Int))/\_/\_/\yp/\Y (i>=0)=O/\0<=(k:Int)/\(U Ai G.ar)[Z (k:Int)]?=some (Ai r)/\_/\di (yu yt ((k:Int)+1))=di (↑(k+1):Int)/\_) ⟨yr,by omega,Ap hx,h2,Int.natCast_nonneg _,hki,hi,yn,yq,by omega,Ae hr,hh,by rw[Ac],iK hih⟩
  ·rw[HO hi0,IE,Iz (by simp)]
   exact lv 45 [1] (.t<|.x (Ad x)<|.c (di i)<|.t<|.r) (Y ((k:Int)<(I G.cs:Int))=J/\0<=(k:Int)/\(U eV G.cs)[Z (k:Int)]?=some (Ad x)/\_/\0<=(fun x=>x.snd) (yt,(k:Int))/\_/\_/\yp/\Y (i>=0)=J/\Q (di 45)) ⟨yr,by omega,Ap hx,h2,Int.natCast_nonneg _,hki,hi,yn,yr,rfl⟩
theorem Sy(G:Gph)(h:BT G):F0 14 [dG G] (di (if fz G=J then 0 else 45)):=by
 by_cases c1:1<=I G.cs
 ·by_cases c2:I G.cs<=128
  ·by_cases c3:I G.ar=I G.cs
   ·have hl:=Ady G h c3 _ 0 rfl
    rw[show ja (I G.cs) (G.cs.take 0) (G.cs.drop 0) (G.ar.drop 0)=fz G by simp[fz,c1,c2,c3]] at hl
    generalize (if fz G=J then(0:Int) else 45)=e at*
    refine sv SD 45 [1] (.f<|.f<|.f<|.h (.q 4 0)<|.h (.f1 0 [3])<|.ls [ke 1,ch 3 (.v (.ref (vi (I G.cs)))),ch 23 (co G.cs),ch 24 (di (I G.cs)),ch 25 (di (0:Nat))] bd) (yd (I (U eV G.cs)) 1/\yb (I (U eV G.cs)) 128/\((I (U Ai G.ar):Int) !=(I (U eV G.cs):Int))=O/\bt (bz (vi (I (U eV G.cs):Int)))=bt (bz (vi (I G.cs:Int)))/\co G.cs=co G.cs/\di (I (U eV G.cs):Int)=di (I G.cs:Int)/\di 0=di (↑0:Int)/\It (type_of% hl)) ?_
    rw[HJ]
    exact⟨yq,yq,by rw[HJ,c3];exact bne_self_eq_false _,rfl,rfl,rfl,rfl,⟨hl⟩⟩
   ·rw[show fz G=O by simp[fz,c3],Iz (by simp)]
    refine sv SD 45 [1] (.f<|.f<|.t .r) (yd (I (U eV G.cs)) 1/\yb (I (U eV G.cs)) 128/\((I (U Ai G.ar):Int) !=(I (U eV G.cs):Int))=J/\Q (di 45)) ?_
    rw[HJ,HJ]
    exact⟨yq,yq,bne_iff_ne.2 (by omega),rfl⟩
  ·rw[show fz G=O by simp[fz,c2],Iz (by simp)]
   refine sv SD 45 [1] (.f<|.t<|.k .r) (yd (I (U eV G.cs)) 1/\yc (I (U eV G.cs)) 128/\Q (di 45)) ?_
   rw[HJ]
   exact⟨yq,yr,rfl⟩
 ·rw[show fz G=O by simp[fz,c1],Iz (by simp)]
  refine sv SD 45 [1] (.t<|.k<|.k .r) (ye (I (U eV G.cs)) 1/\Q (di 45)) ?_
  rw[HJ]
  exact⟨yr,rfl⟩
abbrev d5(b:Bool):V:=.bool b
abbrev Ar(l:List Bool):V:=.list (l.map d5)
abbrev fj(l:List Bool):List D:=l.map db
abbrev fw(o:List Bool)(t:List Int):St:=⟨[some (fj o)],[(1,1,t.map vi)]⟩
theorem W4(n:Nat)(ts:List Nat):∀l:List Bool,D.okNs n ts (fj l)=J
 |[]=>rfl
 |_::l=>W4 n ts l
theorem k7(o:List Bool)(ts:List Nat)(n:Nat):cp n ts [some (fj o)]=J:=by simp[cp,W4]
theorem UP{n:Nat}(o:List Bool)(t:List Int)(a:Aw)(h:0<=a.2/\a.2<n)(ho:I o=n):cf (FP o t a).1+(FP o t a).2.length=cf o+I t/\(FP o t a).1.length=n:=by
 grind[FP,cf]
theorem Gk{α:Type}{f:α->V}{a:List α}{x:Int}{v:α}(h:a[x.toNat]?=some v)(_:0<=x):(a.map f)[x.toNat]?=some (f v):=by simp[h]
noncomputable def Dj:=yl NT
noncomputable abbrev Ax8:=[kl Dj [1,1,1,0,1,0,0,1,0,1,1,1,0,0],bh 2,bh 1,kl Dj fd,bh 0,kc Dj [1,1,1,1]]
theorem Al6(G:Gph)(hA:Tv G.ar)(h128:I G.ar<=128)(res:D)(row:List Aw)(hr:row∈G.ar)(hrl:I row<=9223372036854775807)(_:Int)(o1:List Bool)(t1:List Int)
  (next:Rn PP NT 0 res bd ([kl Dj [1,1,1,0,1,0,0],.blk 0,kc Dj [1,1,1,1]]++[]) (cz 54 [(2,.v (.ref (vG G))),(5,.arr 0 0 (I G.ar)),(6,.acc 1 (t1.map vi))]) (fw o1 t1)) (N:Nat):∀(j:Nat) (o:List Bool) (t:List Int),I row-j=N->I o=I G.ar->cf o+I t<=1000->CM o t (row.drop j)=(o1,t1)->
  Rn PP NT 0 res bd ([kl Dj [1,1,1,0,1,0,0,1,0,1,1,1,0,0],.blk 2,.blk 1,kl Dj [1,1,1,0,1,0,0],.blk 0,kc Dj [1,1,1,1]]++[]) (cz 54 [(2,.v (.ref (vG G))),(5,.arr 0 0 (I G.ar)),(6,.acc 1 (t.map vi)),(31,.v (Ai row)),(32,di (I row)),(33,di j)]) (fw o t):=by
 induction N with
 |zero=>
  intro j o t hn ho hc he
  rw[I3 (by omega),CM,Prod.mk.injEq] at he
  obtain⟨rfl,rfl⟩:=he
  exact lv 54 [2] (.f<|.lo [ke 2,ke 5,ke 6] (fw o t)) (Y ((j:Int)<(I row:Int))=O/\cp 1 [1] [some (fj o)]=J/\Q (fw o t).H/\Q (fw o t).own/\_) ⟨yq,k7 _ _ _,rfl,rfl,iK next⟩
 |succ N ih=>
  intro j o t hn ho hc he
  obtain⟨a,ha⟩:=@yk _ row j (by omega)
  have e1:row.drop j=a::row.drop (j+1):=by rw[HZ (by omega)];congr 1;rw[HK (by omega)] at ha;simpa using ha
  have hai:=hA row hr a (HQ ha)
  obtain⟨c1,c2⟩:=UP o t a hai ho
  rw[e1,CM] at he
  have hih:=ih (j+1) _ _ (by omega) c2 (by omega) he
  obtain⟨b,hb⟩:∃b,o[a.2.toNat]?=some b:=⟨_,HK (by omega)⟩
  have hbs:(fj o)[0+Z a.2*1]?=some (db b):=by simp[fj,hb]
  cases b with
  |true=>
   rw[show FP o t a=(o,t) by simp[FP,hb]] at hih
   exact lv 54 [2] (.t<|.x (cg a)<|.h (.q 10 4)<|.m (db J)<|.k<|.lo [ke 2,ke 5,ke 6,ke 31,ke 32,ch 33 (di (j+1:Nat))] (fw o t)) (Y ((j:Int)<(I row:Int))=J/\0<=(j:Int)/\(U cg row)[Z (j:Int)]?=some (cg a)/\_/\_/\_/\di (yu yt ((j:Int)+1))=di (↑(j+1):Int)/\cp 1 [1] [some (fj o)]=J/\Q (fw o t).H/\Q (fw o t).own/\_) ⟨yr,by omega,Ae ha,hai.1,hai.2,hbs,Ac,k7 _ _ _,rfl,rfl,iK hih⟩
  |false=>
   rw[show FP o t a=(o.set a.2.toNat true,t++[a.2]) by simp[FP,hb]] at hih
   refine lv 54 [2] (.t<|.x (cg a)<|.h (.q 10 4)<|.m (db O)<|.k<|.h (.q 11 4)<|.w<|.lo [ke 2,ke 5,ke 6,ke 31,ke 32,ch 33 (di (j+1:Nat))] (fw (o.set a.2.toNat true) (t++[a.2]))) (Y ((j:Int)<(I row:Int))=J/\0<=(j:Int)/\(U cg row)[Z (j:Int)]?=some (cg a)/\0<=a.snd/\a.snd<(I G.ar:Int)/\type_of% hbs/\0<=a.snd/\a.snd<(I G.ar:Int)/\0+Z a.snd*1<I (fj o)/\Q (U vi t)/\Ao (I (U vi t)+I (vi a.snd::nV)) 8/\di (yu yt ((j:Int)+1))=di (↑(j+1):Int)/\cp 1 [1] [some (List.set (fj o) (0+Z a.snd*1) (db J))]=J/\[some (List.set (fj o) (0+Z a.snd*1) (db J))]=[some (fj (List.set o (Z a.snd) true))]/\[(1,1,U vi t++vi a.snd::nV)]=[(1,1,U vi (t++[a.snd]))]/\I0 NT 0 res bd Ax8 (cz 54 [(2,bt (bz (vG G))),(5,bo 0 0 (I G.ar)),(6,br 1 (U vi t++[vi a.snd])),(31,bt (Ai row)),(32,di (I row:Int)),(33,di (↑(j+1):Int))]) (fw (List.set o (Z a.snd) true) (t++[a.snd]))) ?_
   have es:List.set (fj o) (0+Z a.2*1) (db J)=fj (o.set a.2.toNat true):=by simp[fj,map_set]
   rw[es]
   refine⟨yr,by omega,Ae ha,hai.1,hai.2,hbs,hai.1,hai.2,by simp[fj];omega,rfl,⟨?_,?_⟩,Ac,k7 _ _ _,rfl,by simp,⟨by simpa using hih⟩⟩
   all_goals simp;omega
theorem Adg(G:Gph)(hA:Tv G.ar)(h128:I G.ar<=128)(hrow:∀l∈G.ar,I l<=9223372036854775807)(i:Nat)(n:Nat):∀(o:List Bool) (t:List Int),BI G.ar i o t->2*cf o+I t=n->n<=300->
  Rn PP NT 0 (.v (Ar (C0 G.ar i))) bd ([kl Dj [1,1,1,0,1,0,0],.blk 0,kc Dj [1,1,1,1]]++[]) (cz 54 [(2,.v (.ref (vG G))),(5,.arr 0 0 (I G.ar)),(6,.acc 1 (t.map vi))]) (fw o t):=by
 induction n using Nat.strongRecOn with
 |_ n ih=>
 intro o t h hn hb
 cases t with
 |nil=>
  have e:=h.done
  have hol:=h.len
  exact lv 54 [2] (.f<|.h (.q 14 0)<|.h (.ct 5 (.v (Ar o)) ⟨[none],[(1,1,[])]⟩) .r) (Q O/\(∀(e:List D),e[5]?=some (bo 0 0 (I G.ar))->∀(E:c9) (g:Gh) (a:Act) (w:x5),FI E g (fw o []) e a w->∃g',FI E g' (bi [none] [(1,1,[])]) (List.set e 5 (bt (Ar o))) a w)/\bt (Ar o)=bt (Ar (C0 G.ar i))) ⟨rfl,fun e' he=>Ait (σ:=fw o []) (q:=0) (xs:=o.map d5) (by simp[fj,Function.comp_def]) (by rw[he,HJ,hol]),by rw[e]⟩
 |cons x t=>
  obtain⟨row,h1,h2,h3,h4,h5⟩:=h.step hA
  have hcf:cf o<=300:=by simp at hn;omega
  have hin:=Al6 G hA h128 (.v (Ar (C0 G.ar i))) row (HQ h1) (hrow row (HQ h1)) x _ _ (ih _ (by simp at hn;omega) _ _ h4 rfl (by simp at hn;omega)) _ 0 o t rfl h.len (by simp at hn;omega) rfl
  obtain⟨td,htd⟩:∃td,td=x::t:=⟨_,rfl⟩
  rw[←htd]
  refine lv 54 [2] (.t<|.x (vi x)<|.h (.q 6 1)<|.h (.s [ke 2,ke 5,ke 7,ke 25]) .z) (Y ((I (U vi td):Int)>0)=J/\iz 0<=0/\(U vi td)[Z 0]?=some (vi x)/\Nv.It (BS (CN 0) PP (fun env σ1=>A7 PP NT env σ1 (bt (Ar (C0 G.ar i))) bd) [kc Dj [1,1,1,0,1,0,0,1,0,1,1],bh 1,kl Dj fd,bh 0,kc Dj [1,1,1,1]] (AR (sub Dj [1,1,1,0,1,0,0,1,0,1,0])) (W 1 (AR (sub Dj [1,1,1,0,1,0,0,1,0,1,0])).toList) (cz 54 [(2,bt (bz (vG G))),(5,bo 0 0 (I G.ar)),(7,di x),(25,br 1 (U vi td))]) (fw o td))) ⟨HM (by rw[htd];simp),by decide,by rw[htd];rfl,⟨?_⟩⟩
  refine Abt 26 25 1 1 (kk:=.i64) (xs:=td.map vi) [(2,.v (.ref (vG G))),(5,.arr 0 0 (I G.ar)),(7,di x)] rfl rfl rfl rfl (e:=3) (sz:=1) (by':=8) (z:=some (.int .i64 0)) (by kernel_rfl) (by kernel_rfl) (by rw[htd];simp) (by simp) (by kernel_rfl) (fun i cs hi d hd=>?_) ?_
  ·cases i with
   |zero=>
    simp only[List.getElem?_cons_zero,IF] at hi
    subst hi
    obtain⟨b,_,rfl⟩:=IQ.1 hd
    rfl
   |succ i=>simp[] at hi
  rw[show(td.map vi).drop 1=t.map vi by rw[htd];rfl]
  refine OH mixed 54 [2] 6 2 (.x (Ai row)<|.lo [ke 2,ke 5,ke 6,ch 31 (.v (Ai row)),ch 32 (di (I row)),ch 33 (di (0:Nat))] (fw o t)) ?_
  refine fu (by kernel_rfl:(0<=x/\(U Ai G.ar)[Z x]?=some (Ai row)/\Q (bt (Ai row))/\di (I (U cg row):Int)=di (I row:Int)/\di 0=di (↑0:Int)/\cp 1 [1] [some (fj o)]=J/\Q [some (fj o)]/\Q [(1,1,U vi t)]/\I0 NT 0 (bt (Ar (C0 G.ar i))) bd Ax8 (cz 54 [(2,bt (bz (vG G))),(5,bo 0 0 (I G.ar)),(6,br 1 (U vi t)),(31,bt (Ai row)),(32,di (I row:Int)),(33,di (↑0:Int))]) (fw o t))=_) ?_
  exact⟨h2,Gk h1 h2,rfl,by rw[HJ],rfl,k7 _ _ _,rfl,rfl,⟨hin⟩⟩
theorem Su(G:Gph)(h:BT G)(hA:Tv G.ar)(h128:I G.ar<=128)(hl:I G.cs=I G.ar)(i:Nat)(hi:i<I G.ar):F0 58 [dG G,di i] (.v (Ar (C0 G.ar i))):=by
 have hlp:=Adg G hA h128 h.row i _ _ _ (BI.first hi) rfl (by grind[cf])
 refine sv NT 54 [2] (.h (.q 2 3)<|.w<|.a 1<|.lo [ke 2,ch 5 (.arr 0 0 (I G.ar)),ke 6] (fw ((replicate (I G.ar) false).set i true) [(i:Int)])) (Q (I (U eV G.cs):Int)/\0<=(I (U eV G.cs):Int)/\(1:Int)*(I (U eV G.cs):Int)<=281474976710656/\(I (U eV G.cs):Int)<=9223372036854775807/\0<=(i:Int)/\(i:Int)<(↑(Z (I (U eV G.cs):Int)):Int)/\0+Z (i:Int)*1<I (replicate (Z (I (U eV G.cs):Int)) (bt (bu false)))/\bo 0 0 (Z (I (U eV G.cs):Int))=bo 0 0 (I G.ar)/\cp 1 [1] [some (List.set (replicate (Z (I (U eV G.cs):Int)) (db O)) (0+Z (i:Int)*1) (db J))]=J/\[some (List.set (replicate (Z (I (U eV G.cs):Int)) (db O)) (0+Z (i:Int)*1) (db J))]=[some (fj (List.set (replicate (I G.ar) false) i true))]/\Q [(1,1,vi (i:Int)::nV)]/\It (type_of% hlp)) ?_
 rw[show(G.cs.map eV).length=I G.ar by grind,Jy,show List.set (replicate (I G.ar) (db O)) (0+Z (i:Int)*1) (db J)=fj ((replicate (I G.ar) false).set i true) by simp_all]
 exact⟨rfl,by omega,by omega,by omega,by omega,by omega,by grind,rfl,k7 _ _ _,rfl,rfl,⟨hlp⟩⟩
def AJ(n:Nat)(p:Nat->Bool):List Int:=((List.range n).filter p).map fun(i:Nat)=>(i:Int)
theorem Hp(n:Nat)(p:Nat->Bool):AJ (n+1) p=if p n=J then AJ n p++[(n:Int)] else AJ n p:=by
 grind[AJ,List.range_succ]
theorem Hq(n:Nat)(p:Nat->Bool):I (AJ n p)<=n:=by
 grind[AJ]
theorem Yy{n:Nat}{p q:Nat->Bool}(h:∀i<n,p i=q i):AJ n p=AJ n q:=by
 grind[AJ,List.filter_congr]
noncomputable def Th:=yl YH
theorem Adi(F:yx)(fs cs:List V)(n:Nat)(hn:n<=1000)(p:Nat->Bool)(hp:∀i<n,F0 F ((fs++[vi i]++cs).map .v) (db (p i)))(N:Nat):∀k:Nat,n-k=N->k<=n->
  Rn PP YH 0 (cw (AJ n p)) bd ([zu YH 116,.blk 0,zt YH 15]++[]) (cz 20 [(1,.v (.fn F fs cs)),(5,.acc 1 ((AJ k p).map vi)),(7,di n),(8,di k)]) ⟨[],[(1,1,(AJ k p).map vi)]⟩:=by
 induction N with
 |zero=>
  intro k hN hk
  refine zp (.f .r) (yd k n/\bt (ae (U vi (AJ k p)))=cw (AJ n p)) ?_
  grind
 |succ N ih=>
  intro k hN hk
  have hpk:=hp k (by omega)
  have hih:=ih (k+1) (by omega) (by omega)
  have hln:=Hq k p
  rw[Hp] at hih
  cases hb:p k with
  |true=>
   rw[hb] at hpk
   rw[I4 hb] at hih
   refine zp (.t<|.c (db J)<|.k<|.lo [ke 1,ke 5,ke 7,ch 8 (zw k)] ⟨[],[(1,1,(AJ k p++[(k:Int)]).map vi)]⟩) (ye k n/\type_of% hpk/\Q (U vi (AJ k p))/\Ao (I (U vi (AJ k p))+I (a8 yt (k:Int)::nV)) 8/\zx k/\cp 0 [1] []=J/\[(1,1,U vi (AJ k p)++vi (k:Int)::nV)]=[(1,1,U vi (AJ k p++[(k:Int)]))]/\I0 YH 0 (cw (AJ n p)) bd [kl Th e9,bh 0,zt YH 15] (cz 20 [(kr F fs cs),(5,br 1 (U vi (AJ k p)++[vi (k:Int)])),(7,di (n:Int)),(8,zw k)]) (bi [] [(1,1,U vi (AJ k p++[(k:Int)]))])) ?_
   have e:(AJ k p++[(k:Int)]).map vi=(AJ k p).map vi++[vi k]:=by simp
   rw[e] at hih⊢
   refine⟨yr,hpk,rfl,⟨?_,?_⟩,Ac,rfl,rfl,⟨hih⟩⟩
   all_goals grind
  |false=>
   rw[hb] at hpk
   rw[Iz (by grind)] at hih
   exact zp (.t<|.c (db O)<|.k<|.lo [ke 1,ke 5,ke 7,ch 8 (zw k)] ⟨[],[(1,1,(AJ k p).map vi)]⟩) (ye k n/\_/\zx k/\cp 0 [1] []=J/\Q [(1,1,U vi (AJ k p))]/\_) ⟨yr,hpk,Ac,rfl,rfl,iK hih⟩
theorem Hw(F:yx)(fs cs:List V)(n:Nat)(hn:n<=1000)(p:Nat->Bool)(hp:∀i<n,F0 F ((fs++[vi i]++cs).map .v) (db (p i))):F0 51 [di n,.v (.fn F fs cs)] (cw (AJ n p)):=by
 exact zq YH 20 (.h (.q 2 0)<|.h (.nw 5 1 1)<|.lo [ke 1,ke 5,ch 7 (di n),ch 8 (di (0:Nat))] ⟨[],[(1,1,[])]⟩) (Q (di (n:Int))/\Q (di 0)/\cp 0 [1] []=J/\Q [(1,1,nV)]/\_) ⟨rfl,rfl,rfl,rfl,iK (Adi F fs cs n hn p hp _ 0 rfl (II _))⟩
theorem WQ(n:Int):∀(cs de:List b9) (A:As),I cs=I A->ja n de cs A=J->∀l∈A,∀a∈l,0<=a.2/\a.2<n
 |[],_,[],_,_,l,hl=>by grind
 |c::cs,de,r::A,hn,h,l,hl=>by
  simp only[ja,HL,IZ,List.any_eq_false] at h
  rcases IN.1 hl with rfl|hl
  ·grind[Tn]
  ·exact WQ n cs _ A (by grind) h.2 l hl
structure GR(G:Gph):Prop where
 pos:1<=I G.cs
 le:I G.cs<=128
 len:I G.ar=I G.cs
 ok:Tv G.ar
theorem GM{G:Gph}(h:fz G=J):GR G:=by
 simp only[fz,HL,HU] at h
 obtain⟨⟨⟨h1,h2⟩,h3⟩,h4⟩:=h
 exact⟨h1,h2,h3,fun l hl a ha=>by rw[h3];exact WQ _ _ _ _ h3.symm h4 l hl a ha⟩
def GV(n:Nat)(x:Int):Bool:=Y (x<0)||Y (x>=n)
theorem YD(G:Gph)(x:Int):F0 91 [di x,.v (.ref (vG G))] (db (GV (I G.cs) x)):=by
 refine zq ArB 13 (.b .r .r) ((ye x 0->db J=db (GV (I G.cs) x))/\(yd x 0->db (Y (x>=(I (U eV G.cs):Int)))=db (GV (I G.cs) x))) ?_
 grind[GV]
def okNs(G:Gph)(xs:List Int):Bool:=fz G&& !(xs.any (GV (I G.cs)))
theorem NH(G:Gph)(h:BT G)(xs:List Int)(hx:I xs<=1000):F0 49 [dG G,cw xs] (db (okNs G xs)):=by
 have hc:=Sy G h
 have hh:=Ej 91 [] [.ref (vG G)] (GV (I G.cs)) xs (by omega) (fun x _=>YD G x)
 rw[okNs]
 cases hb:fz G with
 |true=>
  rw[hb,I4 rfl] at hc
  exact sv Apl 14 [2] (.c (di 0)<|.c (db (xs.any (GV (I G.cs)))) .r) (_/\_/\Q ((db !List.any xs (GV (I G.cs))))) ⟨hc,hh,rfl⟩
 |false=>
  rw[hb,Iz (by simp)] at hc
  exact sv Apl 14 [2] (.c (di 45) .r) (_/\Q (db O)) ⟨hc,rfl⟩
theorem Adf(r:List Bool)(i:Nat)(hi:i<I r):F0 59 [di i,.v (.ref (Ar r))] (db (r.getD i false)):=by
 obtain⟨b,hb⟩:∃b,r[i]?=some b:=⟨_,HK hi⟩
 refine zq ArC 8 (.x (d5 b) .r) (y6 i/\(U d5 r)[Z (i:Int)]?=some (d5 b)/\bt (d5 b)=db (List.getD r i false)) ?_
 grind
noncomputable def pv(G:Gph)(x:Int):List Int:=if okNs G [x]=J then AJ (I G.cs) (fun j=>(C0 G.ar x.toNat).getD j false) else[]
theorem Ade(G:Gph)(h:BT G)(x:Int):F0 24 [dG G,di x] (cw (pv G x)):=by
 have hv:=NH G h [x] (by simp)
 rw[pv]
 cases hb:okNs G [x] with
 |false=>
  rw[hb] at hv
  exact sv Apm 18 [2] (.c (db O)<|.k<|.r) (_/\Q (bt (ae []))) ⟨hv,rfl⟩
 |true=>
  rw[hb] at hv
  have hb2:=hb
  simp only[okNs,GV,HL,IZ,any_cons,List.any_nil,Bool.or_false,Bool.or_eq_false_iff,J8] at hb2
  have hg:=GM hb2.1
  have hle:=hg.le
  have hln:=hg.len
  obtain⟨i,rfl⟩:∃i:Nat,x=i:=⟨x.toNat,by omega⟩
  have hr:=Su G h hg.ok (by omega) hln.symm i (by omega)
  have hn:=Hw 59 [] [.ref (Ar (C0 G.ar i))] (I G.cs) (by omega) (fun j=>(C0 G.ar i).getD j false) (fun j hj=>Adf _ j (by rw[Gu];omega))
  have hrl:I (C0 G.ar i)=I G.cs:=by rw[Gu,hln]
  rw[I4 rfl,Jy]
  generalize C0 G.ar i=r at*
  exact sv Apm 18 [2] (.c (db J)<|.k<|.c (.v (Ar r))<|.h (.q 4 0)<|.h (.f1 0 [5])<|.c (cw (AJ (I G.cs) (fun j=>r.getD j false))) .r) (_/\_/\F0 51 [di (I (U d5 r):Int),bt (bw 59 [] [bz (Ar r)])] (cw (AJ (I G.cs) fun j=>List.getD r j false))/\Q (cw (AJ (I G.cs) fun j=>List.getD r j false))) ⟨hv,hr,by rw[HJ,hrl];exact hn,rfl⟩
theorem AhI(F:yx)(fs cs:List V)(p:List Bool->Bool)(l:List (List Bool))(hl:I l<=1000000)(hp:∀x∈l,F0 F ((fs++[Ar x]++cs).map .v) (db (p x)))(n:Nat):∀k:Nat,I l-k=n->
  Rn PP uf 0 (di (dv p (l.drop k) k)) bd ([zu uf 52,.blk 0,zt uf 7]++[]) (cz 19 [(0,dl (l.map Ar)),(1,.v (.fn F fs cs)),(7,di (I l)),(8,di k)]) bd:=by
 induction n using Nat.strongRecOn with
 |_ n ih=>
 intro k hn
 refine zp (.b (.e fun x:List Bool=>.x (Ar x)<|.c (db (p x))<|.b .r (.l (qr k))) .r) ((ye k (I l)->∃a,y6 k/\(U Ar l)[Z (k:Int)]?=some (Ar a)/\Aa PP F (U bt (fs++[Ar a]++cs)) d7 (db (p a)) d7/\(p a=J->di (k:Int)=di (dv p (W k l) k))/\(p a=O->zx k/\Nv.It (A5 (CN 0) PP (fun env σ1=>A7 PP uf env σ1 (di (dv p (W k l) k)) bd) [zu uf 52,bh 0,zt uf 7] (cz 19 [(0,bt (ae (U Ar l))),(kr F fs cs),(7,di (I l:Int)),(8,zw k)]) bd)))/\(yd k (I l)->di (-1)=di (dv p (W k l) k))) ⟨fun h=>?_,fun h=>?_⟩
 ·have hk:k<I l:=by grind
  have hx:l[k]?=some l[k]:=HK hk
  rw[HZ hk]
  generalize l[k]=x at hx⊢
  refine⟨x,by omega,Ae hx,hp x (HQ hx),fun hf=>by simp[dv,hf],fun hf=>⟨Ac,⟨?_⟩⟩⟩
  simp only[dv,hf]
  exact ih (I l- (k+1)) (by omega) (k+1) rfl
 grind[List.drop_of_length_le,dv]
theorem AhH(F:yx)(fs cs:List V)(p:List Bool->Bool)(l:List (List Bool))(hl:I l<=1000000)(hp:∀x∈l,F0 F ((fs++[Ar x]++cs).map .v) (db (p x))):
  F0 92 [dl (l.map Ar),.v (.fn F fs cs)] (di (dv p l 0)):=by
 refine zq uf 19 (.l [ke 0,ke 1,ch 7 (di (I l)),ch 8 (di (0:Nat))]) (di (I (U Ar l):Int)=di (I l:Int)/\Q (di 0)/\I0 uf (I bd.H) (di (dv p l 0)) bd [zu uf 52,bh 0,zt uf 7] (cz 19 [(0,dl (U Ar l)),(kr F fs cs),(7,di (I l:Int)),(8,di (↑0:Int))]) bd) ⟨by simp,rfl,⟨?_⟩⟩
 exact AhI F fs cs p l hl hp _ 0 rfl
theorem Ada(F:yx)(fs cs:List V)(p:List Bool->Bool)(l:List (List Bool))(hl:I l<=1000000)(hp:∀x∈l,F0 F ((fs++[Ar x]++cs).map .v) (db (p x))):
  F0 53 [dl (l.map Ar),.v (.fn F fs cs)] (db (l.any p)):=by
 refine zq Ar9 9 (.c (di (dv p l 0)) .r) (F0 92 [bt (ae (U Ar l)),bt (bw F fs cs)] (di (dv p l 0))/\db (Y (dv p l 0>=0))=db (List.any l p)) ?_
 grind[AhH,Fp]
noncomputable def BR(G:Gph)(k:Nat):List (List Bool):=(List.range k).map (C0 G.ar)
abbrev Ft(l:List (List Bool)):V:=.list (l.map Ar)
theorem Adz(G:Gph)(h:BT G)(hg:GR G)(N:Nat):∀k:Nat,I G.cs-k=N->k<=I G.cs->
  Rn PP Ad9 0 (.v (Ft (BR G (I G.cs)))) bd ([zu Ad9 116,.blk 0,zt Ad9 15]++[]) (cz 19 [(1,.v (.ref (vG G))),(3,.acc 1 ((BR G k).map Ar)),(7,di (I G.cs)),(8,di k)]) ⟨[],[(1,1,(BR G k).map Ar)]⟩:=by
 have hle:=hg.le
 have hln:=hg.len
 induction N with
 |zero=>
  intro k hN hk
  obtain rfl:k=I G.cs:=by omega
  exact zo [1] (.f .r) (yd (I G.cs) (I G.cs)/\Q (bt (Ft (BR G (I G.cs))))) ⟨yq,rfl⟩
 |succ N ih=>
  intro k hN hk
  have hr:=Su G h hg.ok (by omega) hln.symm k (by omega)
  have hih:=ih (k+1) (by omega) (by omega)
  have e:(BR G (k+1)).map Ar=(BR G k).map Ar++[Ar (C0 G.ar k)]:=by simp[BR,List.range_succ]
  have hl:I ((BR G k).map Ar)=k:=by simp[BR]
  rw[e] at hih
  generalize (BR G k).map Ar=L at*
  generalize C0 G.ar k=r at*
  refine zo [1] (.t<|.c (.v (Ar r))<|.lo [ke 1,ke 3,ke 7,ch 8 (zw k)] ⟨[],[(1,1,L++[Ar r])]⟩) (ye k (I G.cs)/\_/\Q L/\Ao (I L+I (Ar r::nV)) 24/\zx k/\cp 0 [1] []=J/\Q [(1,1,L++Ar r::nV)]/\_) ⟨yr,hr,rfl,⟨?_,?_⟩,Ac,rfl,rfl,iK hih⟩
  all_goals simp;omega
theorem NI(G:Gph)(h:BT G)(hg:GR G):F0 50 [dG G] (.v (Ft (BR G (I G.cs)))):=by
 have hlp:=Adz G h hg _ 0 rfl (II _)
 exact sv Ad9 19 [1] (.h (.q 2 0)<|.h (.nw 3 1 1)<|.lo [ke 1,ke 3,ch 7 (di (I G.cs)),ch 8 (di (0:Nat))] ⟨[],[(1,1,[])]⟩) (di (I (U eV G.cs):Int)=di (I G.cs:Int)/\Q (di 0)/\cp 0 [1] []=J/\Q [(1,1,nV)]/\_) ⟨by grind,rfl,rfl,rfl,iK hlp⟩
theorem Xz(G:Gph)(n:Nat):I (BR G n)=n:=by simp[BR]
theorem Rd{G:Gph}{n i:Nat}(h:i<n):(BR G n)[i]?=some (C0 G.ar i):=by simp[BR,h]
def qw(n:Nat)(R:List (List Bool)):Prop:=I R=n/\∀r∈R,I r=n
theorem Re{G:Gph}(h:GR G):qw (I G.cs) (BR G (I G.cs)):=by
 refine⟨Xz _ _,fun r hr=>?_⟩
 obtain⟨i,_,rfl⟩:=IQ.1 hr
 rw[Gu,h.len]
theorem pt(G:Gph):gj [vG G,.nils] [vG G,cy []]:=.cons (.refl _) (.cons .nils .nil)
theorem Adp(r:List Bool)(i:Nat)(hi:i<I r):F0 54 [.v (Ar r),.v (.ref (vi i))] (db (!(r.getD i false))):=by
 obtain⟨b,hb⟩:∃b,r[i]?=some b:=⟨_,HK hi⟩
 refine zq ArF 9 (.x (d5 b) .r) (y6 i/\(U d5 r)[Z (i:Int)]?=some (d5 b)/\(db !b)=db !List.getD r i false) ?_
 grind
def YB(R:List (List Bool))(i:Nat):Bool:= !(R.any fun r=> !(r.getD i false))
theorem Adq{n:Nat}{R:List (List Bool)}(hR:qw n R)(hn:n<=1000)(i:Nat)(hi:i<n):F0 52 [di i,.v (.ref (Ft R))] (db (YB R i)):=by
 have hh:=Ada 54 [] [.ref (vi i)] (fun r=> !(r.getD i false)) R (by have:=hR.1;omega) (fun r hr=>Adp r i (by rw[hR.2 r hr];exact hi))
 rw[YB]
 generalize (R.any fun r=> !(r.getD i false))=b at*
 exact sv ArG 8 [2] (.c (db b) .r) (_/\Q (db !b)) ⟨hh,rfl⟩
noncomputable def mj(G:Gph):List Int:=if fz G=J then AJ (I G.cs) (YB (BR G (I G.cs))) else[]
theorem JY(G:Gph)(h:BT G):F0 49 [dG G,cw []] (db (fz G)):=by
 grind[NH,okNs]
theorem Sw(G:Gph)(h:BT G):F0 18 [dG G] (cw (mj G)):=by
 have hv:=JY G h
 rw[mj]
 cases hb:fz G with
 |false=>
  refine sv Apo 13 [1] (.ca [vG G,cy []] (db O)<|.k<|.r) (gj [vG G,bv] [vG G,cy []]/\F0 49 [bt (vG G),bt (cy [])] (db O)/\Q (bt (ae []))) ?_
  grind[pt]
 |true=>
  have hg:=GM hb
  have hle:=hg.le
  have ha:=NI G h hg
  have hbx:=Re hg
  have hn:=Hw 52 [] [.ref (Ft (BR G (I G.cs)))] (I G.cs) (by omega) (YB (BR G (I G.cs))) (fun j hj=>Adq hbx (by omega) j hj)
  have hrl:=hbx.1
  generalize BR G (I G.cs)=R at*
  refine sv Apo 13 [1] (.ca [vG G,cy []] (db J)<|.k<|.c (.v (Ft R))<|.h (.q 4 0)<|.h (.f1 0 [3])<|.c (cw (AJ (I G.cs) (YB R))) .r) (gj [vG G,bv] [vG G,cy []]/\F0 49 [bt (vG G),bt (cy [])] (db J)/\type_of% ha/\F0 51 [di (I (U Ar R):Int),bt (bw 52 [] [bz (Ft R)])] (cw (AJ (I G.cs) (YB R)))/\Q (bt (cy (AJ (I G.cs) (YB R))))) ?_
  grind[pt]
def GC(A:As)(i:Nat):Bool:=(I (A.getD i []):Int)==0
theorem Adt(G:Gph)(i:Nat)(hi:i<I G.ar):F0 56 [di i,.v (.ref (vG G))] (db (GC G.ar i)):=by
 obtain⟨r,hr⟩:∃b,G.ar[i]?=some b:=⟨_,HK hi⟩
 rw[GC,HS,hr]
 exact zq ArI 11 (.x (Ai r) .r) (y6 i/\(U Ai G.ar)[Z (i:Int)]?=some (Ai r)/\db ((I (U cg r):Int)==0)=db ((I (Option.getD (some r) []):Int)==0)) ⟨by omega,Ae hr,by rw[HJ];rfl⟩
def nj(G:Gph):List Int:=if fz G=J then AJ (I G.cs) (GC G.ar) else[]
theorem Sx(G:Gph)(h:BT G):F0 20 [dG G] (cw (nj G)):=by
 have hv:=JY G h
 rw[nj]
 cases hb:fz G with
 |false=>
  refine sv App 11 [1] (.ca [vG G,cy []] (db O)<|.k<|.r) (gj [vG G,bv] [vG G,cy []]/\F0 49 [bt (vG G),bt (cy [])] (db O)/\Q (bt (ae []))) ?_
  grind[pt]
 |true=>
  have hg:=GM hb
  have hle:=hg.le
  have hln:=hg.len
  have hn:=Hw 56 [] [.ref (vG G)] (I G.cs) (by omega) (GC G.ar) (fun j hj=>Adt G j (by omega))
  refine sv App 11 [1] (.ca [vG G,cy []] (db J)<|.k<|.c (cw (AJ (I G.cs) (GC G.ar))) .r) (gj [vG G,bv] [vG G,cy []]/\F0 49 [bt (vG G),bt (cy [])] (db J)/\F0 51 [di (I (U Ai G.ar):Int),bt (bw 56 [] [bz (vG G)])] (cw (AJ (I G.cs) (GC G.ar)))/\Q (bt (cy (AJ (I G.cs) (GC G.ar))))) ?_
  grind[pt]
theorem Adj(lb:Int)(a:Aw):F0 64 [.v (cg a),.v (.ref (vi lb))] (db (a.1==lb)):=by
 refine sv ArD 8 [2] (.r) (Q (db (a.fst==lb))) ?_
 rfl
def vy(A:As)(lb:Int)(i:Nat):Bool:=(A.getD i []).any fun a=>a.1==lb
theorem Adl(G:Gph)(h:BT G)(lb:Int)(i:Nat)(hi:i<I G.ar):F0 63 [di i,.v (.ref (vG G)),.v (.ref (vi lb))] (db (vy G.ar lb i)):=by
 obtain⟨r,hr⟩:∃b,G.ar[i]?=some b:=⟨_,HK hi⟩
 have hh:=NG 64 [] [.ref (vi lb)] (fun a=>a.1==lb) r (h.row r (HQ hr)) (fun a _=>Adj lb a)
 rw[vy,HS,hr,JD]
 generalize (r.any fun a=>a.1==lb)=b at*
 exact zq ArE 12 (.x (Ai r)<|.c (db b) .r) (y6 i/\(U Ai G.ar)[Z (i:Int)]?=some (Ai r)/\_/\Q (db b)) ⟨by omega,Ae hr,hh,rfl⟩
def l4(A:As)(lb:Int)(r:List Bool)(i:Nat):Bool:=r.getD i false&&vy A lb i
abbrev tg(G:Gph)(lb:Int):V:=.fn 63 [] [.ref (vG G),.ref (vi lb)]
theorem Adk(G:Gph)(h:BT G)(lb:Int)(r:List Bool)(i:Nat)(hi:i<I G.ar)(hr:i<I r):F0 65 [di i,.v (.ref (Ar r)),.v (.ref (tg G lb))] (db (l4 G.ar lb r i)):=by
 obtain⟨b,hb⟩:∃b,r[i]?=some b:=⟨_,HK hr⟩
 have h1:=Adl G h lb i hi
 rw[l4,HS,hb,JD]
 generalize vy G.ar lb i=c at*
 cases b with
 |false=>
  exact zq Apn 14 (.x (d5 false) .r) (y6 i/\(U d5 r)[Z (i:Int)]?=some (d5 false)/\Q (db O)) ⟨by omega,Ae hb,rfl⟩
 |true=>
  exact zq Apn 14 (.x (d5 true)<|.c (db c) .r) (y6 i/\(U d5 r)[Z (i:Int)]?=some (d5 true)/\_/\Q (db c)) ⟨by omega,Ae hb,h1,rfl⟩
def Sl(G:Gph)(lb:Int)(n:Nat)(R:List (List Bool)):Bool:=R.all fun r=> !((I (AJ n (l4 G.ar lb r)):Int)==0)
noncomputable def lk(G:Gph)(lb:Int):Bool:=fz G&&Sl G lb (I G.cs) (BR G (I G.cs))
theorem Ado(G:Gph)(h:BT G)(hg:GR G)(lb:Int)(R:List (List Bool))(hR:qw (I G.cs) R)(N:Nat):∀k:Nat,I R-k=N->
  Rn PP YI 0 (db (Sl G lb (I G.cs) (R.drop k))) bd ([zu YI 244,.blk 0,zt YI 31]++[]) (cz 26 [(5,.v (.ref (tg G lb))),(13,.v (Ft R)),(14,di (I R)),(15,di k)]) bd:=by
 have hle:=hg.le
 have hln:=hg.len
 have hRl:=hR.1
 induction N with
 |zero=>
  intro k hN
  rw[I3 (by omega)]
  exact zo [2,3] (.f .r) (yd k (I R)/\Q (db J)) ⟨yq,rfl⟩
 |succ N ih=>
  intro k hN
  obtain⟨r,hr⟩:=@yk _ R k (by omega)
  have hrl:=hR.2 r (HQ hr)
  have e1:R.drop k=r::R.drop (k+1):=by rw[HZ (by omega)];congr 1;rw[HK (by omega)] at hr;simpa using hr
  have hn:=Hw 65 [] [.ref (Ar r),.ref (tg G lb)] (I G.cs) (by omega) (l4 G.ar lb r) (fun j hj=>Adk G h lb r j (by omega) (by omega))
  have hih:=ih (k+1) (by omega)
  rw[e1,Sl,all_cons, ←Sl]
  generalize AJ (I G.cs) (l4 G.ar lb r)=L at*
  cases hb:((I L:Int)==0) with
  |true=>
   exact zo [2,3] (.t<|.x (Ar r)<|.h (.q 7 0)<|.h (.f1 0 [7])<|.c (cw L)<|.t .r) (ye k (I R)/\y6 k/\(U Ar R)[Z (k:Int)]?=some (Ar r)/\F0 51 [di (I (U d5 r):Int),bt (bw 65 [] [bz (Ar r),bz (tg G lb)])] (cw L)/\((I (U vi L):Int)==0)=J/\Q (db O)) ⟨yr,by omega,Ae hr,by rw[HJ,hrl];exact hn,by rw[HJ];exact hb,rfl⟩
  |false=>
   exact zo [2,3] (.t<|.x (Ar r)<|.h (.q 7 0)<|.h (.f1 0 [7])<|.c (cw L)<|.f<|.ls [ke 5,ke 13,ke 14,ch 15 (zw k)] bd) (ye k (I R)/\y6 k/\(U Ar R)[Z (k:Int)]?=some (Ar r)/\F0 51 [di (I (U d5 r):Int),bt (bw 65 [] [bz (Ar r),bz (tg G lb)])] (cw L)/\((I (U vi L):Int)==0)=O/\zx k/\_) ⟨yr,by omega,Ae hr,by rw[HJ,hrl];exact hn,by rw[HJ];exact hb,Ac,iK hih⟩
theorem Lh(G:Gph)(h:BT G)(lb:Int):F0 29 [dG G,di lb] (db (lk G lb)):=by
 have hv:=JY G h
 rw[lk]
 cases hb:fz G with
 |false=>
  refine sv YI 26 [2,3] (.ca [vG G,cy []] (db O)<|.k<|.r) (gj [vG G,bv] [vG G,cy []]/\F0 49 [bt (vG G),bt (cy [])] (db O)/\Q (db O)) ?_
  grind[pt]
 |true=>
  rw[hb] at hv
  have hg:=GM hb
  have ha:=NI G h hg
  have hlp:=Ado G h hg lb _ (Re hg) _ 0 rfl
  generalize BR G (I G.cs)=R at*
  exact sv YI 26 [2,3] (.ca [vG G,cy []] (db J)<|.k<|.h (.q 4 0)<|.h (.f1 0 [5])<|.c (.v (Ft R))<|.ls [ke 5,ke 13,ch 14 (di (I R)),ch 15 (di (0:Nat))] bd) (gj [vG G,bv] [vG G,cy []]/\_/\_/\di (I (U Ar R):Int)=di (I R:Int)/\Q (di 0)/\_) ⟨pt G,hv,ha,by rw[HJ],rfl,iK hlp⟩
def FU(R:List (List Bool))(i k:Nat):Bool:=(R.getD i []).getD k false&&(R.getD k []).getD i false
theorem Adw{n:Nat}{R:List (List Bool)}(hR:qw n R)(i k:Nat)(hi:i<n)(hk:k<n):F0 57 [di k,.v (.ref (Ft R)),.v (.ref (vi i))] (db (FU R i k)):=by
 obtain⟨r,hr⟩:∃b,R[i]?=some b:=⟨_,HK (by rw[hR.1];exact hi)⟩
 obtain⟨q,hq⟩:∃b,R[k]?=some b:=⟨_,HK (by rw[hR.1];exact hk)⟩
 obtain⟨b,hb⟩:∃b,r[k]?=some b:=⟨_,HK (by rw[hR.2 r (HQ hr)];exact hk)⟩
 obtain⟨c,hc⟩:∃b,q[i]?=some b:=⟨_,HK (by rw[hR.2 q (HQ hq)];exact hi)⟩
 have e:FU R i k=(b&&c):=by grind[FU]
 rw[e]
 cases b with
 |false=>
  refine zq Apq 21 (.x (Ar r)<|.x (d5 false) .r) (y6 i/\(U Ar R)[Z (i:Int)]?=some (Ar r)/\y6 k/\(U d5 r)[Z (k:Int)]?=some (d5 false)/\db O=db (false&&c)) ?_
  grind
 |true=>
  refine zq Apq 21 (.x (Ar r)<|.x (d5 true)<|.x (Ar q)<|.x (d5 c) .r) (y6 i/\(U Ar R)[Z (i:Int)]?=some (Ar r)/\y6 k/\(U d5 r)[Z (k:Int)]?=some (d5 true)/\y6 k/\(U Ar R)[Z (k:Int)]?=some (Ar q)/\y6 i/\(U d5 q)[Z (i:Int)]?=some (d5 c)/\Q (bt (d5 c))) ?_
  grind
def C9(n:Nat)(R:List (List Bool)):Nat->List (List Int)
 |0=>[]
 |k+1=>if (AJ n (FU R k)).head?=some (k:Int) then C9 n R k++[AJ n (FU R k)] else C9 n R k
noncomputable def nh(G:Gph):List (List Int):=if fz G=J then C9 (I G.cs) (BR G (I G.cs)) (I G.cs) else[]
abbrev Ey(l:List (List Int)):V:=.list (l.map cy)
theorem MB(n:Nat)(R:List (List Bool)):∀k:Nat,I (C9 n R k)<=k
 |0=>HR _
 |k+1=>by
  have:=MB n R k
  grind[C9]
theorem Adv{n:Nat}(hn:n<=128){R:List (List Bool)}(hR:qw n R)(hs:∀i<n,FU R i i=J)(N:Nat):∀k:Nat,n-k=N->k<=n->
  Rn PP Vh 0 (.v (Ey (C9 n R n))) bd ([zu Vh 500,.blk 0,zt Vh 63]++[]) (cz 32 [(3,.v (.ref (Ft R))),(4,.acc 1 ((C9 n R k).map cy)),(13,di n),(14,di k)]) ⟨[],[(1,1,(C9 n R k).map cy)]⟩:=by
 have hRl:=hR.1
 induction N with
 |zero=>
  intro k hN hk
  refine zo [1] (.f .r) (yd k n/\bt (ae (U cy (C9 n R k)))=bt (Ey (C9 n R n))) ?_
  grind
 |succ N ih=>
  intro k hN hk
  have hnm:=Hw 57 [] [.ref (Ft R),.ref (vi k)] n (by omega) (FU R k) (fun j hj=>Adw hR k j (by omega) hj)
  have hih:=ih (k+1) (by omega) (by omega)
  have hln:=MB n R k
  have hmem:(k:Int)∈AJ n (FU R k):=IQ.2 ⟨k,List.mem_filter.2 ⟨List.mem_range.2 (by omega),hs k (by omega)⟩,rfl⟩
  rw[C9] at hih
  generalize AJ n (FU R k)=L at*
  obtain⟨h,hh⟩:∃h,L[0]?=some h:=⟨_,HK (List.length_pos_of_mem hmem)⟩
  by_cases hb:h=(k:Int)
  ·rw[I4 (by rw[List.head?_eq_getElem?,hh,hb])] at hih
   refine zo [1] (.t<|.h (.q 8 0)<|.h (.f1 0 [5])<|.c (cw L)<|.x (vi h)<|.t<|.lo [ke 3,ke 4,ke 13,ch 14 (zw k)] ⟨[],[(1,1,(C9 n R k++[L]).map cy)]⟩) (ye k n/\F0 51 [di (I (U Ar R):Int),bt (bw 57 [] [bz (Ft R),bz (vi (k:Int))])] (cw L)/\iz 0<=0/\(U vi L)[Z 0]?=some (vi h)/\(h==(k:Int))=J/\Q (U cy (C9 n R k))/\Ao (I (U cy (C9 n R k))+I (cy L::nV)) 24/\zx k/\cp 0 [1] []=J/\[(1,1,U cy (C9 n R k)++cy L::nV)]=[(1,1,U cy (C9 n R k++[L]))]/\I0 Vh 0 (bt (Ey (C9 n R n))) bd [zu Vh 500,bh 0,zt Vh 63] (cz 32 [(3,bt (bz (Ft R))),(4,br 1 (U cy (C9 n R k)++[cy L])),(13,di (n:Int)),(14,zw k)]) (bi [] [(1,1,U cy (C9 n R k++[L]))])) ?_
   have e:(C9 n R k++[L]).map cy=(C9 n R k).map cy++[cy L]:=by simp
   rw[e] at hih⊢
   refine⟨yr,by rw[HJ,hRl];exact hnm,by decide,Ae (i:=0) hh,IJ.2 hb,rfl,⟨?_,?_⟩,Ac,rfl,rfl,⟨hih⟩⟩
   all_goals grind
  ·rw[Iz (by grind[List.head?_eq_getElem?])] at hih
   exact zo [1] (.t<|.h (.q 8 0)<|.h (.f1 0 [5])<|.c (cw L)<|.x (vi h)<|.f<|.lo [ke 3,ke 4,ke 13,ch 14 (zw k)] ⟨[],[(1,1,(C9 n R k).map cy)]⟩) (ye k n/\F0 51 [di (I (U Ar R):Int),bt (bw 57 [] [bz (Ft R),bz (vi (k:Int))])] (cw L)/\iz 0<=0/\(U vi L)[Z 0]?=some (vi h)/\(h==(k:Int))=O/\zx k/\cp 0 [1] []=J/\Q [(1,1,U cy (C9 n R k))]/\_) ⟨yr,by grind,by decide,Ae (i:=0) hh,IM.2 hb,Ac,rfl,rfl,iK hih⟩
theorem Adu(G:Gph)(h:BT G):F0 22 [dG G] (.v (Ey (nh G))):=by
 have hv:=JY G h
 rw[nh]
 cases hb:fz G with
 |false=>
  refine sv Vh 32 [1] (.ca [vG G,cy []] (db O)<|.k<|.r) (gj [vG G,bv] [vG G,cy []]/\F0 49 [bt (vG G),bt (cy [])] (db O)/\Q (bt (ae []))) ?_
  grind[pt]
 |true=>
  rw[hb] at hv
  have hg:=GM hb
  have ha:=NI G h hg
  have hbx:=Re hg
  have hRl:=hbx.1
  have hlp:=Adv hg.le hbx (fun i hi=>by
   have:=(Wp (A:=G.ar) (i:=i) (j:=i) (by rw[hg.len];exact hi)).2 ⟨0,.nil i⟩
   simp[FU,Rd hi,this]) _ 0 rfl (II _)
  generalize BR G (I G.cs)=R at*
  exact sv Vh 32 [1] (.ca [vG G,cy []] (db J)<|.k<|.c (.v (Ft R))<|.h (.q 4 0)<|.h (.f1 0 [3])<|.h (.q 5 0)<|.h (.nw 4 1 1)<|.lo [ke 3,ke 4,ch 13 (di (I G.cs)),ch 14 (di (0:Nat))] ⟨[],[(1,1,[])]⟩) (gj [vG G,bv] [vG G,cy []]/\_/\_/\di (I (U Ar R):Int)=di (I G.cs:Int)/\Q (di 0)/\cp 0 [1] []=J/\Q [(1,1,nV)]/\_) ⟨pt G,hv,ha,by rw[HJ,hRl],rfl,rfl,rfl,iK hlp⟩
theorem Li:BW PP 31=G (3,1,8,G (.int .i64 0)):=by rfl
theorem AsF{k:yv}{a b a' b':Int}(h:a=a')(h':b=b'):bl [.v (.int k a),.v (.int k b)]=bl [.v (.int k a'),.v (.int k b')]:=by rw[h,h']
noncomputable abbrev j5:=(IntKind.bits u64)
noncomputable abbrev xw:=fun (a₀:Nat)=>(BitVec.ofInt j5 (a₀:Int)&&&BitVec.ofInt j5 4294967295)
noncomputable abbrev Axx:=(BitVec.ofInt j5 1&&&BitVec.ofInt j5 4294967295)
theorem Are(n:Nat)(h:n<=128):F0 192 [.v (.int .u64 1),.v (.int .u64 (n:Int))] (.tup [.v (.int .u64 0),.v (.int .u64 (n:Int))]):=by
 refine zq Atb 51 .r (iz 0<=32/\iz 0<=32/\iz 0<=32/\iz 0<=32/\iz 0<=32/\bl [bt (a8 u64 (yu u64 (yu u64 (yu u64 (Int.fdiv 1 (2^min (Z 32) j5)*Int.fdiv (n:Int) (2^min (Z 32) j5))+Int.fdiv (yu u64 (yu u64 (Int.fdiv 1 (2^min (Z 32) j5)*yu u64 (↑(BitVec.toNat (xw n)):Int))+Int.fdiv (yu u64 (yu u64 (↑(BitVec.toNat Axx):Int)*yu u64 (↑(BitVec.toNat (xw n)):Int))) (2^min (Z 32) j5))) (2^min (Z 32) j5))+Int.fdiv (yu u64 (yu u64 (↑(BitVec.toNat (BitVec.ofInt j5 (yu u64 (yu u64 (Int.fdiv 1 (2^min (Z 32) j5)*yu u64 (↑(BitVec.toNat (xw n)):Int))+Int.fdiv (yu u64 (yu u64 (↑(BitVec.toNat Axx):Int)*yu u64 (↑(BitVec.toNat (xw n)):Int))) (2^min (Z 32) j5)))&&&BitVec.ofInt j5 4294967295)):Int)+yu u64 (yu u64 (↑(BitVec.toNat Axx):Int)*Int.fdiv (n:Int) (2^min (Z 32) j5)))) (2^min (Z 32) j5)))),bt (a8 u64 (yu u64 (1*(n:Int))))]=bl [bt (a8 u64 0),bt (a8 u64 (n:Int))]) ?_
 refine⟨by decide,by decide,by decide,by decide,by decide,AsF ?_ ?_⟩<;>(revert n;decide+kernel)
theorem Ahr(n:Nat)(h:n<=128):F0 130 [.v (.int .u64 1),.v (.int .u64 (n:Int))] (.tup [.v (.int .u64 0),.v (.int .u64 (n:Int))]):=by
 refine zq AsZ 30 (.c (.tup [.v (.int .u64 0),.v (.int .u64 (n:Int))]) .r) (F0 192 [bt (a8 u64 1),bt (a8 u64 (n:Int))] (bl [bt (a8 u64 0),bt (a8 u64 (n:Int))])/\Q (bl [bt (a8 u64 0),bt (a8 u64 (n:Int))])) ?_
 grind[Are]
def GG(x:Int)(n k:Nat):List D:=replicate k (di x)++replicate (n-k) (di 0)
theorem AbY(x:Int)(n:Nat):D.pls (replicate n (di x))=J:=by
 induction n with
 |zero=>rfl
 |succ n ih=>rw[Jk];simp only[D.pls,ih,Bool.and_true];rfl
theorem Ajj{n:Nat}(h:n<=1000):u64.wrap (n:Int)=n:=by
 have:∀m:Nat,m<=1000->u64.wrap (m:Int)=m:=by decide+kernel
 grind
variable {P : x7} {o : yy} {σ : St}
theorem Se{t:x6}{x lo:x8}(ho:o.op=.slice t x (G lo) none none){e:x6}{by':Nat}{z:Option yz}(hs:BW P t=G (e,1,by',z)){q len k:Nat}(hk:k<len):Ak P o [.arr q 0 len,di k] σ (.arr q k (len-k)) σ:=by
 have:=Nt (P:=P) (o:=o) (σ:=σ) ho hs (q:=q) (off:=0) (len:=len) (G (.i64,(k:Int))) none rfl rfl (l':=k) (h':=len) (by grind[C8]) hk
 rwa[IT] at this
theorem Yr{x y:x8}{t:x6}(ho:o.op=.call { callee:=.builtin .copy,args:= #[x,y],argTypes:= #[t,t]}){e:x6}{by':Nat}{z:Option yz}(hs:BW P t=G (e,1,by',z)){v:Int}{n k:Nat}(hk:k<n):Ak P o [.arr 0 k (n-k),.arr 0 0 k] ⟨[G (GG v n k)],[]⟩ (di ↑(min k (n-k))) ⟨[G (GG v n (k+min k (n-k)))],[]⟩:=by
 have hl:I (GG v n k)=n:=by simp[GG];omega
 have:=AgW (P:=P) (o:=o) (σ:=⟨[G (GG v n k)],[]⟩) ho hs (q:=0) (off:=k) (len:=n-k) (off2:=0) (len2:=k) (k:=min k (n-k)) (cs:=GG v n k) rfl rfl (by omega) (by omega)
 grind[GG,List.drop_append,List.replicate_append_replicate]
theorem Ab7(x:Int)(b:List D)(h:D.okNs 1 [] b=J)(k:Nat):D.okNs 1 [] (replicate k (di x)++b)=J:=by
 induction k with
 |zero=>exact h
 |succ k ih=>rw[Jk];exact ih
theorem LI(x:Int)(n k:Nat):cp 1 [] [G (GG x n k)]=J:=by
 have:=Ab7 0 [] rfl (n-k)
 rw[List.append_nil] at this
 simp[cp,GG,Ab7 x _ this]
noncomputable abbrev UY(i:Nat):yy:=(AR (sub (yl Asf) [1,1,1,1,1,1,0,0,0,1,0])).toList.getD i default
abbrev MVv(i:Nat)(d:D):Prop:=∀τ,Ak PP (UY i) [d] τ d τ
theorem mVv(i s:Nat)(d:D)(h:(UY i).op=.move (.tmp s):=by kernel_rfl):MVv i d:=fun _=>Qw h
abbrev GSv(x:Int)(n k:Nat):St:=⟨[G (GG x n k)],[]⟩
theorem Ag7(x:Int)(n:Nat)(hn:n<=1000)(m:Nat):∀(k:Nat),n-k<=m->1<=k->k<=n->Rn PP Asf 0 (.arr 0 0 n) ⟨[G (replicate n (di x))],[]⟩ ([zu Asf 1016,bh 0,zt Asf 255]++[]) (cz 48 [(7,.arr 0 0 n),(8,di k)]) (GSv x n k):=by
 induction m with
 |zero=>
  intro k hm hk1 hkn
  obtain rfl:k=n:=by omega
  have h:=LI x k k
  rw[GSv,show GG x k k=replicate k (di x) by simp[GG]] at *
  exact zp (.f .ro) (Y ((k:Int)<(k:Int))=O/\type_of% h/\Q [G (replicate k (di x))]/\Q (bo 0 0 k)) ⟨decide_eq_false (by omega),h,rfl,rfl⟩
 |succ m ih=>
  intro k hm hk1 hkn
  by_cases hlt:k<n
  ·have hc:=fun o ho=>Yr (o:=o) (x:=.tmp 41) (y:=.tmp 44) ho Li (v:=x) hlt
   have hih:=ih (k+min k (n-k)) (by omega) (by omega) (by omega)
   generalize hj:min k (n-k)=j at hc hih
   exact zp (.t<|.h (.p (di k))<|.h (.p (.arr 0 0 n))<|.h (.p (di k))<|.h (.p (.arr 0 k (n-k)))<|.h (.p (.arr 0 0 n))<|.h (.p (di k))<|.h (.p (.arr 0 0 k))<|.h (.o (di (j:Nat)) (GSv x n (k+j)))<|.lo [ke 7,ch 8 (di (k+j:Nat))] (GSv x n (k+j))) (Y ((k:Int)<(n:Int))=J/\MVv 0 (di k)/\MVv 1 (bo 0 0 n)/\MVv 2 (di k)/\(∀τ,Ak PP (UY 3) [bo 0 0 n,di k] τ (bo 0 k (n-k)) τ)/\MVv 4 (bo 0 0 n)/\MVv 5 (di k)/\(∀τ,Ak PP (UY 6) [bo 0 0 n,di k] τ (bo 0 0 k) τ)/\Ak PP (UY 7) [bo 0 k (n-k),bo 0 0 k] (GSv x n k) (di j) (GSv x n (k+j))/\di (yu yt ((k:Int)+(j:Int)))=di ((k+j:Nat):Int)/\cp 1 [] [G (GG x n (k+j))]=J/\Q [G (GG x n (k+j))]/\It (type_of% hih)) ⟨decide_eq_true (by omega),mVv 0 8 _,mVv 1 7 _,mVv 2 8 _,fun _=>Se (x:=.tmp 39) (lo:=.tmp 40) (by kernel_rfl) Li hlt,mVv 4 7 _,mVv 5 8 _,fun _=>Nt (x:=.tmp 42) (lo:=none) (hi:=G (.tmp 43)) (by kernel_rfl) Li (off:=0) (len:=n) none (G (.i64,(k:Int))) rfl rfl (l':=0) (h':=k) (by simp[C8];omega) (by omega),hc _ (by kernel_rfl),by rw[An];rfl,LI ..,rfl,⟨hih⟩⟩
  ·exact ih k (by omega) hk1 hkn
theorem Ag6(x:Int)(n:Nat)(h0:1<=n)(h6:n<=128):Aa PP 93 [dl [vi x],di ↑n] bd (.arr 0 0 n) ⟨[G (replicate n (di x))],[]⟩:=by
 have hc:=fun o ho=>AgV (P:=PP) (o:=o) (σ:=⟨[G (replicate n (di 0))],[]⟩) (x:=.tmp 31) (y:=.tmp 32) ho Li (q:=0) (off:=0) (len:=n) (k:=1) (cs:=replicate n (di 0)) rfl (xs:=[vi x]) (fun _ h=>by simp at h;subst h;exact⟨rfl,rfl⟩) (by simp[Nat.min_def];omega) (by omega) (by simp;omega)
 rw[show(replicate n (di 0)).take 0++U bt ([vi x].take 1)++W (0+1) (replicate n (di 0))=GG x n 1 by simp[GG]] at hc
 refine zq Asf 48 (.f<|.c (.tup [.v (.int .u64 0),.v (.int .u64 (n:Int))])<|.f<|.f<|.h (.q 7 2)<|.h (.o (di (1:Nat)) (GSv x n 1))<|.lo [ch 7 (.arr 0 0 n),ch 8 (di (1:Nat))] (GSv x n 1)) (Y ((n:Int)<0)=O/\F0 130 [bt (a8 u64 (yu u64 (I (vi x::nV):Int))),bt (a8 u64 (yu u64 (n:Int)))] (bl [bt (a8 u64 0),bt (a8 u64 (n:Int))])/\Y ((0:Int)>0)=O/\Y ((n:Int)>9223372036854775807)=O/\Q (yu yt (n:Int))/\0<=yu yt (n:Int)/\8*yu yt (n:Int)<=281474976710656/\yu yt (n:Int)<=9223372036854775807/\Ak PP ⟨G 33,.call ⟨.builtin .copy,#[.tmp 31,.tmp 32],#[31,31]⟩,3,"slices.go:526",#[⟨0,.data⟩,⟨1,.data⟩],none⟩ [bo 0 0 (Z (yu yt (n:Int))),dl [vi x]] ⟨[G (replicate (Z (yu yt (n:Int))) (di 0))],[]⟩ (di (1:Nat)) (GSv x n 1)/\bo 0 0 (Z (yu yt (n:Int)))=bo 0 0 n/\Q (di (1:Nat))/\cp 1 [] [G (GG x n 1)]=J/\Q [G (GG x n 1)]/\I0 Asf (I bd.H) (bo 0 0 n) ⟨[G (replicate n (di x))],[]⟩ [zu Asf 1016,bh 0,zt Asf 255] (cz 48 [(7,bo 0 0 n),(8,di (1:Nat))]) (GSv x n 1)) ?_
 rw[An,Ajj (n:=n) (by omega)]
 exact⟨decide_eq_false (by omega),Ahr n h6,rfl,decide_eq_false (by omega),rfl,by omega,by omega,by omega,hc _ rfl,rfl,rfl,LI ..,rfl,⟨Ag7 x n (by omega) _ 1 (Nat.le_refl _) (by omega) h0⟩⟩
def ky(L:List Int)(d:Int)(a:Aw):Bool:=L.getD a.2.toNat 0==d
theorem Ads(L:List Int)(d:Int)(a:Aw)(ha:0<=a.2/\a.2<I L):F0 94 [.v (cg a),.v (.ref (cy L)),.v (.ref (vi d))] (db (ky L d a)):=by
 obtain⟨y,hy⟩:∃b,L[a.2.toNat]?=some b:=⟨_,HK (by omega)⟩
 rw[ky,HS,hy]
 exact sv ArH 12 [3] (.x (vi y) .r) (_/\(U vi L)[Z a.snd]?=some (vi y)/\Q (db (y==d))) ⟨ha.1,by simp[hy],rfl⟩
theorem Ah5{H:List (Option (List D))}{L:List Int}{n:Nat}(hn:n=I L)(h0:H[0]?=some (some (cb L)))(h1:H[1]?=some (some [.arr 0 0 n])):GJ (fun o=>(H[o]?).join) 2 (.ptr 1 0) (.ref (cy L)):=by
 refine .inr (.inl ⟨1,0,_,cy L,rfl,rfl,by show Option.join H[1]?=_;rw[h1];rfl,fun j y hj=>?_⟩)
 cases j with
 |succ j=>grind[V.cellsV]
 |zero=>
  simp only[V.cellsV,List.getElem?_cons_zero,IF] at hj
  subst hj
  refine⟨rfl,_,rfl,.inr (.inr ⟨0,0,1,cb L,L.map vi,.inl (by grind),rfl,by decide,Qg L,by grind,fun j y hj=>?_⟩)⟩
  have e:(L.map vi).flatMap V.cellsV=L.map vi:=by
   clear hj h0 hn
   induction L<;>grind[V.cellsV]
  rw[e] at hj
  obtain⟨z,hz,rfl⟩:=IQ.1 (HQ hj)
  refine⟨rfl,di z,?_,.v (vi z),.same,rfl⟩
  grind
theorem Ah7{H:List (Option (List D))}{d:Int}{q:Nat}(h:H[q]?=some (some [di d])):GJ (fun o=>(H[o]?).join) 1 (.ptr q 0) (.ref (vi d)):=by
 refine .inr (.inl ⟨q,0,_,vi d,rfl,rfl,by show Option.join H[q]?=_;rw[h];rfl,fun j y hj=>?_⟩)
 cases j with
 |succ j=>grind[V.cellsV]
 |zero=>
  simp only[V.cellsV,List.getElem?_cons_zero,IF] at hj
  subst hj
  exact⟨rfl,_,rfl,.v (vi d),.same,rfl⟩
theorem Acn{L:List Int}{n:Nat}{d:Int}{row:List Aw}{b:Bool}(hn:n=I L)(h:F0 44 [.v (Ai row),.v (.fn 94 [] [.ref (cy L),.ref (vi d)])] (db b)){o:yy}{c:Call}{fo:x8}(ho:o.op=.call c)(hc:c.callee=.value fo):
  Ak PP o [.v (.fn 44 [] []),.v (Ai row),.dfn 94 [] [.ptr 1 0,.ptr 2 0]] ⟨[some (cb L),some [.arr 0 0 n],some [di d]],[]⟩ (db b) ⟨[some (cb L),some [.arr 0 0 n],some [di d]],[]⟩:=
 AgX (σ:=⟨[some (cb L),some [.arr 0 0 n],some [di d]],[]⟩) ho hc (fs:=[]) (cs:=[]) (xs:=[Ai row,.fn 94 [] [.ref (cy L),.ref (vi d)]]) (d0:=db b) (.cons (n:=0) ⟨_,.same,rfl⟩ (.fn (.cons (Ah5 hn rfl rfl) (.cons (Ah7 rfl) .nil)) .nil)) rfl h
theorem ApP(l:List Int):cb l=(l.map vi).map .v:=by simp[cb]
noncomputable def CL:=yl NU
abbrev ge(L:List Int)(n:Nat)(d:Int):St:=⟨[some (cb L),some [.arr 0 0 n],some [di d]],[]⟩
theorem tp(L:List Int)(n m:Nat)(d:Int)(ts:List Nat)(h:3<=m):cp m ts [some (cb L),some [.arr 0 0 n],some [di d]]=J:=by
 grind[cp,D.okNs,D.okN,Ce]
theorem AsM(L:List Int)(n m:Nat)(d e:Int)(ts:List Nat)(h:3<=m):cp m ts [some (cb L),some [.arr 0 0 n],some [di d],some [di e]]=J:=by
 simp[cp,D.okNs,D.okN,Ce];omega
theorem AdG{p:Nat->Prop}{j:Nat}(h:¬p j):(∃i<j,p i)↔∃i<j+1,p i:=by
 grind
noncomputable abbrev Av6:=fun a₀=>[bt (bw 44 [] []),bt (Ai a₀),D.dfn 94 [] [bq 1 0,bq 2 0]]
noncomputable abbrev Awl:=(Oper.mk (some 36) (Op.makeFunc (Fn.func 94) #[] #[Operand.tmp 5,Operand.tmp 6]) 78 "home.go:166" #[Edge.mk 5 Ground.guard] (some (5,true)))
noncomputable abbrev Ax4:=fun a₀=>[ke 2,ke 5,ke 6,ke 7,ke 22,ke 23,ch 24 (zw a₀)]
theorem Al7(G:Gph)(hg:GR G)(hrow:∀l∈G.ar,I l<=9223372036854775807)(t:Nat)(d:Nat)(hd:d<I G.cs)(res:D)
  (next:∀c:Bool,(c=J↔∃i<I G.cs,dst G.ar t i=(d:Int)+1)->Rn PP NU 0 res bd ([zu NU 244,.blk 0,zt NU 31]++[]) (cz 47 [(2,.v (.ref (vG G))),(5,.ptr 1 0),(6,.ptr 2 0),(7,db c)]) (ge (dp G.ar t (d+1:Nat) 0) (I G.cs) (d+1:Nat))) (N:Nat):∀(j:Nat) (c:Bool),I G.cs-j=N->j<=I G.cs->(c=J↔∃i<j,dst G.ar t i=(d:Int)+1)->
  Rn PP NU 0 res bd ([zu NU 31308,.blk 2,.blk 1,zt NU 979,zu NU 244,.blk 0,zt NU 31]++[]) (cz 47 [(2,.v (.ref (vG G))),(5,.ptr 1 0),(6,.ptr 2 0),(7,db c),(22,.v (gg G.ar)),(23,di (I G.cs)),(24,di j)]) (ge (dp G.ar t d j) (I G.cs) d):=by
 have hle:=hg.le
 have hln:=hg.len
 induction N with
 |zero=>
  intro j c hN hj hc
  obtain rfl:j=I G.cs:=by omega
  have hx:=next c hc
  refine zo [2] (.f<|.lo [ke 2,ke 5,ch 6 (.ptr 3 0),ke 7] ⟨[some (cb (dp G.ar t d (I G.cs))),some [.arr 0 0 (I G.cs)],some [di d],some [zw d]],[]⟩) (yd (I G.cs) (I G.cs)/\Q (bq 3 0)/\cp 4 [] [some (cb (dp G.ar t (d:Int) (I G.cs))),some [bo 0 0 (I G.cs)],some [di (d:Int)],some [di (yu yt ((d:Int)+1))]]=J/\[some (cb (dp G.ar t (d:Int) (I G.cs))),some [bo 0 0 (I G.cs)],some [di (d:Int)],some [di (yu yt ((d:Int)+1))]]=[some (cb (dp G.ar t (d:Int) (I G.cs))),some [bo 0 0 (I G.cs)],some [di (d:Int)],some [zw d]]/\I0 NU 0 res bd [kl CL fd,bh 0,zt NU 31] (cz 47 [(2,bt (bz (vG G))),(5,bq 1 0),(6,bq 3 0),(7,db c)]) (bi [some (cb (dp G.ar t (d:Int) (I G.cs))),some [bo 0 0 (I G.cs)],some [di (d:Int)],some [zw d]] [])) ⟨yq,rfl,?_,by grind[Ac],⟨?_⟩⟩
  ·grind[AsM]
  ·rw[AdQ (by omega)]
   refine Cq (e':=cz 47 [(2,.v (.ref (vG G))),(5,.ptr 1 0),(6,.ptr 2 0),(7,db c)]) (H':=(ge (dp G.ar t (d+1:Nat) 0) (I G.cs) (d+1:Nat)).H) (m:=0) (fun _ _ h=>h.2) (fun i=>if i=2 then 3 else i) (II _) (fun i hi=>by omega) (fun i j hi hj h=>by grind) (fun i cs hi=>?_) (by kernel_rfl) (by kernel_rfl) hx
   match i,hi with
   |0,hi=>
    grind[ApP,BJ,AA,AO]
   |1,hi=>simp only[JN,List.getElem?_cons_zero,IF] at hi;subst hi;exact⟨rfl,rfl⟩
   |2,hi=>simp only[JN,List.getElem?_cons_zero,IF] at hi;subst hi;exact⟨rfl,rfl⟩
   |i+3,hi=>grind
 |succ N ih=>
  intro j c hN hj hc
  have n1:I G.cs- (j+1)=N:=by clear hc;omega
  have n2:j+1<=I G.cs:=by clear hc;omega
  have n3:(j:Int)<I G.cs:=by clear hc;omega
  have n4:di (yt.wrap ((j:Int)+1))=di ((j+1:Nat):Int):=Ac (by clear hc;omega)
  have n5:(0:Int)<=j:=Int.natCast_nonneg j
  have n6:yt.wrap ((d:Int)+1)=(d:Int)+1:=An (by clear hc;omega) (by clear hc;omega)
  obtain⟨row,hr⟩:∃b,G.ar[j]?=some b:=⟨_,HK (by clear hc;omega)⟩
  have hlen:I (dp G.ar t d j)=I G.cs:=by rw[QO,hln]
  have hx:=GQ (A:=G.ar) (t:=t) (d:=d) (i:=j) (j:=j) (by clear hc;omega)
  have hin:∀a∈row,0<=a.2/\a.2<I G.cs:=fun a ha=>by rw[←hln];exact hg.ok row (HQ hr) a ha
  have hh:=NG 94 [] [.ref (cy (dp G.ar t d j)),.ref (vi d)] (ky (dp G.ar t d j) d) row (hrow row (HQ hr)) (fun a ha=>Ads _ _ a (by rw[hlen];exact hin a ha))
  have hany:row.any (ky (dp G.ar t d j) d)=J↔∃a∈row,dst G.ar t a.2.toNat=d:=by
   rw[List.any_eq_true]
   refine exists_congr fun a=>and_congr_right fun ha=>?_
   have h1:=hin a ha
   rw[ky,HS,GQ (by clear hc;omega),JD,IJ,AjT (by clear hc;omega) (by clear hc;omega)]
  have hxs:(cb (dp G.ar t d j))[0+Z (j:Int)*1]?=some (di (H4 d (dst G.ar t j))):=by simp[cb,hx]
  have hls:0+Z (j:Int)*1<I (cb (dp G.ar t d j)):=by simp only[cb,HJ,hlen];clear hc;omega
  have n8:(0:Int)<=d:=Int.natCast_nonneg d
  generalize hcut:H4 d (dst G.ar t j)=x at hxs
  by_cases hx0:x<0
  ·cases hb:row.any (ky (dp G.ar t d j) d) with
   |true=>
    rw[hb] at hh
    obtain⟨a,ha,he⟩:=hany.1 hb
    obtain⟨e1,e2⟩:=AdP hg.ok (t:=t) (d:=d) n8 hr (by rw[hcut];exact hx0) ha he
    have hih:=ih (j+1) true n1 n2 ⟨fun _=>⟨j,Nat.lt_succ_self j,e1⟩,fun _=>rfl⟩
    rw[←e2] at hih
    have es:List.set (cb (dp G.ar t d j)) (0+Z (j:Int)*1) (di ((d:Int)+1))=cb ((dp G.ar t d j).set j (d+1)):=by simp[cb,map_set]
    refine zo [2] (.t<|.x (Ai row)<|.h (.q 10 3)<|.m (di x)<|.t<|.h (.q 10 7)<|.h (.p (.dfn 94 [] [.ptr 1 0,.ptr 2 0]))<|.h (.oc (db J) (ge (dp G.ar t d j) (I G.cs) d))<|.k<|.h (.q 11 5)<|.w<|.lo (Ax4 j) (ge ((dp G.ar t d j).set j (d+1)) (I G.cs) d)) (ye j (I G.cs)/\y6 j/\(U Ai G.ar)[Z (j:Int)]?=some (Ai row)/\y6 j/\y5 j (I G.cs)/\type_of% hxs/\ye x 0/\(∀(τ:St),Ak PP Awl [bq 1 0,bq 2 0] τ (D.dfn 94 [] [bq 1 0,bq 2 0]) τ)/\(N0 (Av6 row) (ge (dp G.ar t (d:Int) j) (I G.cs) (d:Int)) (db J) (ge (dp G.ar t (d:Int) j) (I G.cs) (d:Int)))/\y6 j/\y5 j (I G.cs)/\type_of% hls/\zx j/\cp 3 [] [some (List.set (cb (dp G.ar t (d:Int) j)) (0+Z (j:Int)*1) (di (yu yt ((d:Int)+1)))),some [bo 0 0 (I G.cs)],some [di (d:Int)]]=J/\[some (List.set (cb (dp G.ar t (d:Int) j)) (0+Z (j:Int)*1) (di (yu yt ((d:Int)+1)))),some [bo 0 0 (I G.cs)],some [di (d:Int)]]=[some (cb (List.set (dp G.ar t (d:Int) j) j ((d:Int)+1))),some [bo 0 0 (I G.cs)],some [di (d:Int)]]/\It (type_of% hih)) ?_
    rw[n6,es]
    exact⟨HM n3,n5,Ae hr,n5,n3,hxs,HM hx0,fun τ=>DH rfl rfl,fun o c fo ho hc2=>Acn hlen.symm hh ho hc2,n5,n3,hls,n4,tp _ _ _ _ _ (HR 3),rfl,⟨hih⟩⟩
   |false=>
    rw[hb] at hh
    obtain⟨e1,e2⟩:=M6 (A:=G.ar) (t:=t) (d:=d) n8 hr (.inr fun a ha he=>by rw[hany.2 ⟨a,ha,he⟩] at hb;cases hb)
    have hih:=ih (j+1) c n1 n2 (hc.trans (AdG e1))
    rw[←e2] at hih
    exact zo [2] (.t<|.x (Ai row)<|.h (.q 10 3)<|.m (di x)<|.t<|.h (.q 10 7)<|.h (.p (.dfn 94 [] [.ptr 1 0,.ptr 2 0]))<|.h (.oc (db O) (ge (dp G.ar t d j) (I G.cs) d))<|.k<|.lo (Ax4 j) (ge (dp G.ar t d j) (I G.cs) d)) (ye j (I G.cs)/\_/\(U Ai G.ar)[Z (j:Int)]?=some (Ai row)/\_/\_/\_/\ye x 0/\(∀(τ:St),Ak PP Awl [bq 1 0,bq 2 0] τ (D.dfn 94 [] [bq 1 0,bq 2 0]) τ)/\(N0 (Av6 row) (ge (dp G.ar t (d:Int) j) (I G.cs) (d:Int)) (db O) (ge (dp G.ar t (d:Int) j) (I G.cs) (d:Int)))/\_/\cp 3 [] [some (cb (dp G.ar t (d:Int) j)),some [bo 0 0 (I G.cs)],some [di (d:Int)]]=J/\Q (ge (dp G.ar t d j) (I G.cs) d).H/\_) ⟨HM n3,n5,Ae hr,n5,n3,hxs,HM hx0,fun τ=>DH rfl rfl,fun o c fo ho hc2=>Acn hlen.symm hh ho hc2,n4,tp _ _ _ _ _ (HR 3),rfl,iK hih⟩
  ·obtain⟨e1,e2⟩:=M6 (A:=G.ar) (t:=t) (d:=d) n8 hr (.inl (by rw[hcut];exact Int.not_lt.1 hx0))
   have hih:=ih (j+1) c n1 n2 (hc.trans (AdG e1))
   rw[←e2] at hih
   exact zo [2] (.t<|.x (Ai row)<|.h (.q 10 3)<|.m (di x)<|.f<|.k<|.lo (Ax4 j) (ge (dp G.ar t d j) (I G.cs) d)) (ye j (I G.cs)/\_/\(U Ai G.ar)[Z (j:Int)]?=some (Ai row)/\_/\_/\_/\yd x 0/\_/\cp 3 [] [some (cb (dp G.ar t (d:Int) j)),some [bo 0 0 (I G.cs)],some [di (d:Int)]]=J/\Q (ge (dp G.ar t d j) (I G.cs) d).H/\_) ⟨HM n3,n5,Ae hr,n5,n3,hxs,HO hx0,n4,tp _ _ _ _ _ (HR 3),rfl,iK hih⟩
theorem AhV(G:Gph)(hg:GR G)(hrow:∀l∈G.ar,I l<=9223372036854775807)(t:Nat)(N:Nat):∀(d:Nat) (c:Bool),I G.cs+1-d=N->d<=I G.cs->(c=J->d<I G.cs)->(c=O->∀j<I G.ar,dst G.ar t j<=d)->
  Rn PP NU 0 (cw (B8 G.ar t)) bd ([zu NU 244,.blk 0,zt NU 31]++[]) (cz 47 [(2,.v (.ref (vG G))),(5,.ptr 1 0),(6,.ptr 2 0),(7,db c)]) (ge (dp G.ar t d 0) (I G.cs) d):=by
 have hln:=hg.len
 induction N with
 |zero=>omega
 |succ N ih=>
  intro d c hN hd hc1 hc2
  cases c with
  |false=>
   have e:=AdR (hc2 rfl)
   have hl:I (B8 G.ar t)=I G.cs:=by rw[QP,hln]
   rw[e]
   exact zo [2] (.f<|.h (.q 16 0)<|.h (.cs ⟨[none,some [.v (cy (B8 G.ar t))],some [di d]],[]⟩) .r) (Q false/\(∀(e:List D) (E:c9) (g:Gh) (a:Act) (w:x5),FI E g (bi [some (cb (B8 G.ar t)),some [bo 0 0 (I G.cs)],some [di (d:Int)]] []) e a w->∃g',FI E g' (bi [none,some [bt (cy (B8 G.ar t))],some [di (d:Int)]] []) e a w)/\Q (cw (B8 G.ar t))) ⟨rfl,fun e=>Zb (σ:=ge (B8 G.ar t) (I G.cs) d) (p:=1) (q:=0) (i:=0) (cs:=[.arr 0 0 (I G.cs)]) (xs:=(B8 G.ar t).map vi) rfl (by simp_all) (by decide) (by grind) (fun x hx=>by obtain⟨z,_,rfl⟩:=IQ.1 hx;rfl) e,rfl⟩
  |true=>
   have hlp:=Al7 G hg hrow t d (hc1 rfl) (cw (B8 G.ar t)) (fun c hc=>ih (d+1) c (by grind) (by grind) (fun h=>by
    obtain⟨i,h1,h2⟩:=hc.1 h
    have:=SN hg.ok (t:=t) (i:=i) (by omega)
    omega) (fun h=>by
    have:=Ain hg.ok (t:=t) (d:=d) (Int.natCast_nonneg d) (fun j hj he=>by grind)
    grind)) _ 0 false rfl (II _) (by simp)
   exact zo [2] (.t<|.lo [ke 2,ke 5,ke 6,ch 7 (db O),ch 22 (.v (gg G.ar)),ch 23 (di (I G.cs)),ch 24 (di (0:Nat))] (ge (dp G.ar t d 0) (I G.cs) d)) (Q true/\Q (db O)/\Q (bt (gg G.ar))/\di (I (U Ai G.ar):Int)=di (I G.cs:Int)/\Q (di 0)/\cp 3 [] [some (cb (dp G.ar t (d:Int) 0)),some [bo 0 0 (I G.cs)],some [di (d:Int)]]=J/\Q (ge (dp G.ar t d 0) (I G.cs) d).H/\_) ⟨rfl,rfl,rfl,by grind,rfl,tp _ _ _ _ _ (HR 3),rfl,iK hlp⟩
theorem Adr(G:Gph)(h:BT G)(hg:GR G)(t:Nat)(ht:t<I G.cs):F0 61 [dG G,di t] (cw (B8 G.ar t)):=by
 have hle:=hg.le
 have hln:=hg.len
 have hps:=hg.pos
 have hlp:=AhV G hg h.row t _ 0 true rfl (II _) (fun _=>by omega) (fun h=>by cases h)
 have hrp:=Ag6 (-1) (I G.cs) hps hle
 have e0:List.set (replicate (I G.cs) (di (-1))) (0+Z (t:Int)*1) (di 0)=cb (dp G.ar t (0:Nat) 0):=by
  rw[show((0:Nat):Int)=0 from rfl, ←SP,cb,map_set,List.map_replicate,hln];simp
 refine sv NU 47 [2] (.h (.q 1 4)<|.h (.oc (.arr 0 0 (I G.cs)) ⟨[some (replicate (I G.cs) (di (-1)))],[]⟩)<|.h (.q 2 3)<|.w<|.lo [ke 2,ch 5 (.ptr 1 0),ch 6 (.ptr 2 0),ch 7 (db J)] (ge (dp G.ar t (0:Nat) 0) (I G.cs) (0:Nat))) ((N0 [bt (bw 93 [] []),bt (ae [vi (-1)]),di (I (U eV G.cs):Int)] bd (bo 0 0 (I G.cs)) (bi [some (replicate (I G.cs) (di (-1)))] []))/\y6 t/\y5 t (I G.cs)/\0+Z (t:Int)*1<I (replicate (I G.cs) (di (-1)))/\Q (bq 1 0)/\Q (bq 2 0)/\Q (db J)/\cp 3 [] [some (List.set (replicate (I G.cs) (di (-1))) (0+Z (t:Int)*1) (di 0)),some [bo 0 0 (I G.cs)],some [di 0]]=J/\[some (List.set (replicate (I G.cs) (di (-1))) (0+Z (t:Int)*1) (di 0)),some [bo 0 0 (I G.cs)],some [di 0]]=[some (cb (dp G.ar t (↑0:Int) 0)),some [bo 0 0 (I G.cs)],some [di (↑0:Int)]]/\It (type_of% hlp)) ?_
 rw[show(G.cs.map eV).length=I G.cs from HJ ..,e0]
 exact⟨fun o c fo ho hc=>JQ (f:=93) (fs:=[]) (cs:=[]) (ds:=[dl [vi (-1)],di (I G.cs)]) ho hc rfl (AbY _ _) hrp,by omega,by omega,by grind,rfl,rfl,rfl,tp _ _ _ _ _ (HR 3),rfl,⟨hlp⟩⟩
noncomputable def FK:=yl O4
abbrev TU(b:Aw):St:=⟨[some [di 0,di 0],some [di b.1,di b.2]],[]⟩
noncomputable abbrev ru:=fun a₀ b₀=>[some [di 0,di 0],some [di a₀,di b₀]]
noncomputable abbrev Axd:=fun a₀=>[ke 1,ke 2,ke 6,ke 7,ch 8 (db J),ke 12,ke 13,ch 14 (zw a₀)]
noncomputable abbrev Axq:=fun a₀=>[ke 1,ke 2,ke 6,ke 7,ke 8,ke 12,ke 13,ch 14 (zw a₀)]
theorem Adn(L:List Int)(d:Int)(row:List Aw)(hrl:I row<=9223372036854775807)(hin:∀a∈row,0<=a.2/\a.2<I L)(N:Nat):∀(k:Nat) (b:Aw) (f:Bool),I row-k=N->
  Rn PP O4 0 (.v (cg (E7 (ky L d) (row.drop k) b f).1)) bd ([kl FK [1,1,0,1,0,0],.blk 0,kc FK [1,1,1]]++[]) (cz 53 [(1,cw L),(2,di d),(6,.ptr 0 0),(7,.ptr 1 0),(8,db f),(12,.v (Ai row)),(13,di (I row)),(14,di k)]) (TU b):=by
 induction N with
 |zero=>
  intro k b f hN
  rw[I3 (by omega),E7]
  exact lv 53 [] (.f .r) (Y ((k:Int)<(I row:Int))=O/\Q (bt (cg (b,f).fst))) ⟨yq,rfl⟩
 |succ N ih=>
  intro k b f hN
  obtain⟨a,ha⟩:=@yk _ row k (by omega)
  have e1:row.drop k=a::row.drop (k+1):=by rw[HZ (by omega)];congr 1;rw[HK (by omega)] at ha;simpa using ha
  obtain⟨i1,i2⟩:=hin a (HQ ha)
  obtain⟨y,hy⟩:∃b,L[a.2.toNat]?=some b:=⟨_,HK (by omega)⟩
  have hyi:(L.map vi)[a.2.toNat]?=some (vi y):=by simp[hy]
  have hp:ky L d a=(y==d):=by simp[ky,hy]
  rw[e1,E7,hp]
  have h0:=ih (k+1) b f (by omega)
  have h1:=ih (k+1) a true (by omega)
  by_cases c1:(y==d)=J
  ·rw[c1,IG]
   cases f with
   |false=>
    rw[I4 (by simp)]
    exact lv 53 [] (.t<|.x (cg a)<|.x (vi y)<|.t<|.k<|.k<|.k<|.lo (Axd k) (TU a)) (Y ((k:Int)<(I row:Int))=J/\0<=(k:Int)/\(U cg row)[Z (k:Int)]?=some (cg a)/\_/\_/\_/\Q (db J)/\di (yu yt ((k:Int)+1))=di (↑(k+1):Int)/\Q J/\Q (TU a).H/\_) ⟨yr,by omega,Ae ha,i1,hyi,c1,rfl,by rw[Ac],rfl,rfl,iK h1⟩
   |true=>
    by_cases c2:a.1<b.1
    ·rw[I4 (by simp[c2])]
     exact lv 53 [] (.t<|.x (cg a)<|.x (vi y)<|.t<|.k<|.t<|.k<|.lo (Axd k) (TU a)) (Y ((k:Int)<(I row:Int))=J/\0<=(k:Int)/\(U cg row)[Z (k:Int)]?=some (cg a)/\_/\_/\_/\Y (a.fst<b.fst)=J/\Q (db J)/\di (yu yt ((k:Int)+1))=di (↑(k+1):Int)/\Q J/\Q (TU a).H/\_) ⟨yr,by omega,Ae ha,i1,hyi,c1,HM c2,rfl,by rw[Ac],rfl,rfl,iK h1⟩
    ·by_cases c3:(a.1==b.1)=J
     ·by_cases c4:a.2<b.2
      ·rw[I4 (by simp[c3,c4])]
       exact lv 53 [] (.t<|.x (cg a)<|.x (vi y)<|.t<|.k<|.f<|.t<|.t<|.lo (Axd k) (TU a)) (Y ((k:Int)<(I row:Int))=J/\0<=(k:Int)/\(U cg row)[Z (k:Int)]?=some (cg a)/\_/\_/\_/\Y (a.fst<b.fst)=O/\_/\Y (a.snd<b.snd)=J/\Q (db J)/\di (yu yt ((k:Int)+1))=di (↑(k+1):Int)/\Q J/\Q (TU a).H/\_) ⟨yr,by omega,Ae ha,i1,hyi,c1,HO c2,c3,HM c4,rfl,by rw[Ac],rfl,rfl,iK h1⟩
      ·rw[Iz (by simp[c2,c4])]
       exact lv 53 [] (.t<|.x (cg a)<|.x (vi y)<|.t<|.k<|.f<|.t<|.f<|.lo (Axq k) (TU b)) (Y ((k:Int)<(I row:Int))=J/\0<=(k:Int)/\(U cg row)[Z (k:Int)]?=some (cg a)/\_/\_/\_/\Y (a.fst<b.fst)=O/\_/\Y (a.snd<b.snd)=O/\di (yu yt ((k:Int)+1))=di (↑(k+1):Int)/\Q J/\Q (TU b).H/\_) ⟨yr,by omega,Ae ha,i1,hyi,c1,HO c2,c3,HO c4,by rw[Ac],rfl,rfl,iK h0⟩
     ·rw[Iz (by simp only[Bool.not_eq_true] at c3;simp[c2,c3])]
      exact lv 53 [] (.t<|.x (cg a)<|.x (vi y)<|.t<|.k<|.f<|.f<|.k<|.lo (Axq k) (TU b)) (Y ((k:Int)<(I row:Int))=J/\0<=(k:Int)/\(U cg row)[Z (k:Int)]?=some (cg a)/\_/\_/\_/\Y (a.fst<b.fst)=O/\(a.fst==b.fst)=O/\di (yu yt ((k:Int)+1))=di (↑(k+1):Int)/\Q J/\Q (TU b).H/\_) ⟨yr,by omega,Ae ha,i1,hyi,c1,HO c2,HW c3,by rw[Ac],rfl,rfl,iK h0⟩
  ·have c1:=HW c1
   rw[c1,IE,Iz (by simp)]
   exact lv 53 [] (.t<|.x (cg a)<|.x (vi y)<|.f<|.k<|.lo (Axq k) (TU b)) (Y ((k:Int)<(I row:Int))=J/\0<=(k:Int)/\(U cg row)[Z (k:Int)]?=some (cg a)/\_/\_/\_/\di (yu yt ((k:Int)+1))=di (↑(k+1):Int)/\Q J/\Q (TU b).H/\_) ⟨yr,by omega,Ae ha,i1,hyi,c1,by rw[Ac],rfl,rfl,iK h0⟩
theorem Adm(L:List Int)(d:Int)(row:List Aw)(hrl:I row<=9223372036854775807)(hin:∀a∈row,0<=a.2/\a.2<I L):F0 62 [.v (Ai row),cw L,di d] (.v (cg (E7 (ky L d) row (0,0) false).1)):=by
 have hlp:=Adn L d row hrl hin _ 0 (0,0) false rfl
 generalize (E7 (ky L d) row (0,0) false).1=r at*
 exact zq O4 53 (.lo [ke 1,ke 2,ke 6,ke 7,ke 8,ke 12,ch 13 (di (I row)),ch 14 (di (0:Nat))] (TU (0,0))) (di (I (U cg row):Int)=di (I row:Int)/\Q (di 0)/\Q J/\Q [some [di 0,di 0],some [di 0,di 0]]/\_) ⟨by grind,rfl,rfl,rfl,iK hlp⟩
theorem OU{p q:Aw->Bool}:∀(l:List Aw) (b:Aw) (f:Bool),(∀a∈l,p a=q a)->E7 p l b f=E7 q l b f
 |[],_,_,_=>rfl
 |a::l,b,f,h=>by
  rw[E7,E7,h a (by simp)]
  split<;>exact OU l _ _ fun x hx=>h x (by simp[hx])
theorem Ahz{A:As}(hA:Tv A){t:Nat}{d:Int}{row:List Aw}(hr:row∈A):(E7 (ky (B8 A t) d) row (0,0) false).1=Tz A t d row:=by
 rw[Tz,OU row (0,0) false fun a ha=>?_]
 have:=hA row hr a ha
 grind[ky,B8]
noncomputable def Z1:=yl Vg
noncomputable def Hi(G:Gph)(x y:Int):List Aw×Bool:=if (okNs G [x,y]&&Y (0<=dst G.ar y.toNat x.toNat))=J then(Hj G.ar y.toNat (dst G.ar y.toNat x.toNat).toNat x.toNat,true) else([],false)
theorem Adb(G:Gph)(h:BT G)(hg:GR G)(t:Nat)(ht:t<I G.cs)(n:Nat):∀(i:Nat) (out:List Aw),i<I G.cs->dst G.ar t i=n->I out+n<=1000->
  Rn PP Vg 0 (.tup [.v (Ai (out++Hj G.ar t n i)),db J]) bd ([zu Vg 1012,.blk 0,zt Vg 127]++[]) (cz 49 [(2,di t),(3,.v (.ref (vG G))),(8,cw (B8 G.ar t)),(9,.acc 1 (out.map cg)),(10,di i)]) ⟨[],[(1,2,out.map cg)]⟩:=by
 have hln:=hg.len
 induction n with
 |zero=>
  intro i out hi hd ho
  have e:=QJ.1 hd
  subst e
  rw[Hj,IX]
  exact zo [3] (.f .r) (((i:Int) !=(i:Int))=O/\Q (bl [bt (Ai out),db J])) ⟨by simp,rfl⟩
 |succ n ih=>
  intro i out hi hd ho
  obtain⟨row,hr,h1,h2⟩:=AcJ hd
  have hin:=hg.ok row (HQ hr) _ h1
  have hls:=Adm (B8 G.ar t) n row (h.row row (HQ hr)) (fun a ha=>by rw[QP];exact hg.ok row (HQ hr) a ha)
  rw[Ahz hg.ok (HQ hr)] at hls
  have hih:=ih (Tz G.ar t n row).2.toNat (out++[Tz G.ar t n row]) (by omega) h2 (by simp;omega)
  rw[Hj,show G.ar.getD i []=row by simp[hr]]
  have hat:=Lq (A:=G.ar) (t:=t) (j:=i) (by omega)
  rw[hd] at hat
  have hne:i≠t:=fun e=>by rw[e,Lp] at hd;omega
  generalize Tz G.ar t n row=a at*
  refine zo [3] (.t<|.h (.dr 12)<|.x (Ai row)<|.x (vi (n+1:Nat))<|.c (.v (cg a))<|.lo [ke 2,ke 3,ke 8,ke 9,ch 10 (di a.2)] ⟨[],[(1,2,(out++[a]).map cg)]⟩) (((i:Int) !=(t:Int))=J/\y6 i/\(U Ai G.ar)[Z (i:Int)]?=some (Ai row)/\y6 i/\(U vi (B8 G.ar t))[Z (i:Int)]?=some (vi (↑(n+1):Int))/\F0 62 [bt (Ai row),bt (cy (B8 G.ar t)),di (yu yt ((↑(n+1):Int)-1))] (bt (cg a))/\Q [bi [some [di 0,di 0]] [(1,2,U cg out)]]/\True/\Q (U cg out)/\Ao (I (U cg out)+I (aa (vi a.fst::vi a.snd::nV)::nV)) 16/\Q (di a.snd)/\cp 0 [1] []=J/\[(1,2,U cg out++aa (vi a.fst::vi a.snd::nV)::nV)]=[(1,2,U cg (out++[a]))]/\I0 Vg 0 (bl [bt (Ai (out++a::Hj G.ar t n (Z a.snd))),db J]) bd [kl Z1 mr,bh 0,kc Z1 mu] (cz 49 [(2,di (t:Int)),(3,bt (bz (vG G))),(8,bt (cy (B8 G.ar t))),(9,br 1 (U cg out++[aa [vi a.fst,vi a.snd]])),(10,di a.snd)]) (bi [] [(1,2,U cg (out++[a]))])) ?_
  have e:(out++[a]).map cg=out.map cg++[cg a]:=by simp
  rw[Jx,List.singleton_append,Int.toNat_of_nonneg hin.1,e] at hih
  rw[e]
  refine⟨bne_iff_ne.2 (by omega),by omega,Ae hr,by omega,Ae hat,by rw[An,show((n+1:Nat):Int)-1=n by omega];exact hls,rfl,trivial,rfl,⟨?_,?_⟩,rfl,rfl,rfl,⟨hih⟩⟩
  all_goals simp;omega
theorem Als{G:Gph}{x y:Int}(h:okNs G [x,y]=J):fz G=J/\(0<=x/\x<I G.cs)/\0<=y/\y<I G.cs:=by
 grind[okNs,GV]
noncomputable abbrev t6:=[bt (ae []),db O]
theorem Ss(G:Gph)(h:BT G)(x y:Int):F0 26 [dG G,di x,di y] (.tup [.v (Ai (Hi G x y).1),db (Hi G x y).2]):=by
 have hv:=NH G h [x,y] (by simp)
 rw[Hi]
 cases hb:okNs G [x,y] with
 |false=>
  refine sv Vg 49 [3] (.c (db O)<|.k<|.r) (F0 49 [bt (vG G),bt (ae [vi x,vi y])] (db O)/\Q (bl t6)) ?_
  grind
 |true=>
  rw[hb] at hv
  obtain⟨hg,hx,hy⟩:=Als hb
  have hg:=GM hg
  have hln:=hg.len
  obtain⟨i,rfl⟩:∃i:Nat,x=i:=⟨x.toNat,by omega⟩
  obtain⟨t,rfl⟩:∃i:Nat,y=i:=⟨y.toNat,by omega⟩
  have hd:=Adr G h hg t (by omega)
  have hat:=Lq (A:=G.ar) (t:=t) (j:=i) (by omega)
  have hlt:=SN hg.ok (t:=t) (i:=i) (by omega)
  have hle:=hg.le
  rw[Jy,Jy,IG]
  by_cases h0:0<=dst G.ar t i
  ·rw[HM h0,I4 rfl]
   have hlp:=Adb G h hg t (by omega) (dst G.ar t i).toNat i [] (by omega) (by omega) (by simp;omega)
   rw[List.nil_append] at hlp
   generalize Hj G.ar t (dst G.ar t i).toNat i=w at*
   generalize dst G.ar t i=z at*
   exact sv Vg 49 [3] (.c (db J)<|.k<|.c (cw (B8 G.ar t))<|.x (vi z)<|.f<|.h (.q 7 0)<|.h (.nw 9 1 2)<|.lo [ke 2,ke 3,ke 8,ke 9,ke 10] ⟨[],[(1,2,[])]⟩) (_/\_/\y6 i/\(U vi (B8 G.ar t))[Z (i:Int)]?=some (vi z)/\yd z 0/\cp 0 [1] []=J/\Q [(1,2,nV)]/\_) ⟨hv,hd,by omega,Ae hat,yq,rfl,rfl,iK hlp⟩
  ·rw[HO h0,Iz (by simp)]
   generalize dst G.ar t i=z at*
   obtain⟨q,hq⟩:∃q:List Aw×Bool,q=([],false):=⟨_,rfl⟩
   rw[←hq]
   exact sv Vg 49 [3] (.c (db J)<|.k<|.c (cw (B8 G.ar t))<|.x (vi z)<|.t<|.r) (_/\_/\y6 i/\(U vi (B8 G.ar t))[Z (i:Int)]?=some (vi z)/\ye z 0/\bl t6=bl [bt (Ai q.fst),db q.snd]) ⟨hv,hd,by omega,Ae hat,yr,by rw[hq];rfl⟩
theorem Abw(l:List b9)(hl:I l<=1000000)(hs:∀x∈l,x.fit)(v:b9)(n:Nat):∀k:Nat,I l-k=n->
  Rn PP Ad4 0 (di (dv (fun x=>Ay x v==0) (l.drop k) k)) bd ([zu Ad4 52,.blk 0,zt Ad4 7]++[]) (cz 19 [(0,co l),(3,.v (.ref (Ad v))),(5,di k)]) bd:=by
 induction n with
 |zero=>
  intro k hn
  rw[I3 (by omega)]
  exact zo [3] (.f .r) (yd k (I (U eV l))/\Q (di (-1))) ⟨HO (by rw[HJ];omega),rfl⟩
 |succ n ih=>
  intro k hn
  obtain⟨x,hx⟩:=yk (show k<I l by omega)
  have e3:l.drop k=x::l.drop (k+1):=by rw[HZ (by omega)];congr 1;rw[HK (by omega)] at hx;simpa using hx
  have hi:=ih (k+1) (by omega)
  have hsm:=MU x v (hs x (HQ hx))
  rw[e3,dv]
  cases hc:(Ay x v==0) with
  |true=>
   rw[hc] at hsm
   rw[I4 rfl]
   exact zo [3] (.t<|.h (.xs (Ad x))<|.c (db J)<|.k .r) (ye k (I (U eV l))/\Q 2/\y6 k/\(U eV l)[Z (k:Int)]?=some (Ad x)/\_/\Q (di (k:Int))) ⟨HM (by rw[HJ];omega),rfl,by omega,Ap hx,hsm,rfl⟩
  |false=>
   rw[hc] at hsm
   rw[Iz (by simp)]
   exact zo [3] (.t<|.h (.xs (Ad x))<|.c (db O)<|.k<|.l [ke 0,ke 3,ch 5 (zw k)]) (ye k (I (U eV l))/\Q 2/\y6 k/\(U eV l)[Z (k:Int)]?=some (Ad x)/\_/\zx k/\_) ⟨HM (by rw[HJ];omega),rfl,by omega,Ap hx,hsm,Ac,iK hi⟩
theorem RN(l:List b9)(hl:I l<=1000000)(hs:∀x∈l,x.fit)(v:b9):F0 42 [co l,dV v] (di (AZ l v)):=by
 exact sv Ad4 19 [3] (.l [ke 0,ke 3,ch 5 (di (0:Nat))]) (Q (di 0)/\_) ⟨rfl,iK (Abw l hl hs v _ 0 rfl)⟩
theorem AcT{α:Type}(p:α->Bool)(b:List α):∀(a:List α) (k:Nat),(a.any p=J->dv p (a++b) k<k+I a)/\(a.any p=O->dv p (a++b) k=dv p b (k+I a))
 |[],k=>⟨fun h=>by grind,fun _=>by simp⟩
 |x::a,k=>by
  obtain⟨h1,h2⟩:=AcT p b a (k+1)
  grind[dv]
theorem Ao4{l:List b9}{k:Nat}{x:b9}(h:l[k]?=some x):(AZ l x !=(k:Int))= !decide (AZ (l.take k) x<0):=by
 obtain⟨hk,e⟩:=HN.1 h
 have hl:l=l.take k++x::l.drop (k+1):=by
  conv=>lhs;rw[←List.take_append_drop k l,HZ hk,e]
 obtain⟨h1,h2⟩:=AcT (fun y=>Ay y x==0) (x::l.drop (k+1)) (l.take k) 0
 have ha:=Fp (fun y=>Ay y x==0) (l.take k) 0
 grind[AZ,dv,EB]
noncomputable def Ep:=yl Ml
noncomputable abbrev ux:=fun a₀=>[ke 1,ke 3,ch 4 (zw a₀)]
theorem AkW(G:Gph)(h:BT G)(hl:I G.ar=I G.cs)(i:Nat)(hi:i<I G.cs)(row:List Aw)(hr:G.ar[i]?=some row)(res:Bool)
  (next:Rn PP Ml 0 (di (if res=J then 0 else 45)) bd ([kl Ep [1,1,1,0,1,0,0],.blk 0,kc Ep [1,1,1,1]]++[]) (cz 70 [(1,.v (.ref (vG G))),(3,di (I G.cs)),(4,di (i+1:Nat))]) bd) (N:Nat):∀j:Nat,I row-j=N->
  Rn PP Ml 0 (di (if (!((row.drop j).any (Tn (I G.cs)))&&res)=J then 0 else 45)) bd ([kl Ep [1,1,1,0,1,0,0,1,0,0,1,1,0,0],.blk 2,.blk 1,kc Ep [1,1,1,0,1,0,0,1,1],kl Ep [1,1,1,0,1,0,0],.blk 0,kc Ep [1,1,1,1]]++[]) (cz 70 [(1,.v (.ref (vG G))),(3,di (I G.cs)),(4,di i),(5,di j)]) bd:=by
 have h1:=h.cs
 have hrl:=h.row row (HQ hr)
 induction N with
 |zero=>
  intro j hN
  rw[I3 (by omega),List.any_nil,Bool.not_false,IG]
  generalize (if res=J then(0:Int) else 45)=e at*
  exact lv 70 [1] (.x (Ai row)<|.f<|.l (ux i)) (0<=(i:Int)/\(U Ai G.ar)[Z (i:Int)]?=some (Ai row)/\Y ((j:Int)<(I (U cg row):Int))=O/\di (yu yt ((i:Int)+1))=di (↑(i+1):Int)/\_) ⟨by omega,Ae hr,HO (by rw[HJ];omega),by rw[Ac],iK next⟩
 |succ N ih=>
  intro j hN
  obtain⟨a,ha⟩:=@yk _ row j (by omega)
  have e1:row.drop j=a::row.drop (j+1):=by rw[HZ (by omega)];congr 1;rw[HK (by omega)] at ha;simpa using ha
  have hih:=ih (j+1) (by omega)
  rw[e1,any_cons]
  by_cases c1:a.2<0
  ·rw[show Tn (I G.cs) a=J by simp[Tn,c1],Bool.true_or,Bool.not_true,IE,Iz (by simp)]
   exact lv 70 [1] (.x (Ai row)<|.t<|.x (Ai row)<|.x (cg a)<|.t<|.k .r) (0<=(i:Int)/\(U Ai G.ar)[Z (i:Int)]?=some (Ai row)/\Y ((j:Int)<(I (U cg row):Int))=J/\0<=(i:Int)/\(U Ai G.ar)[Z (i:Int)]?=some (Ai row)/\0<=(j:Int)/\(U cg row)[Z (j:Int)]?=some (cg a)/\Y (a.snd<0)=J/\Q (di 45)) ⟨by omega,Ae hr,HM (by rw[HJ];omega),by omega,Ae hr,by omega,Ae ha,HM c1,rfl⟩
  ·by_cases c2:a.2>=I G.cs
   ·rw[show Tn (I G.cs) a=J by simp[Tn,c2],Bool.true_or,Bool.not_true,IE,Iz (by simp)]
    exact lv 70 [1] (.x (Ai row)<|.t<|.x (Ai row)<|.x (cg a)<|.f<|.x (Ai row)<|.x (cg a)<|.t .r) (0<=(i:Int)/\(U Ai G.ar)[Z (i:Int)]?=some (Ai row)/\Y ((j:Int)<(I (U cg row):Int))=J/\0<=(i:Int)/\(U Ai G.ar)[Z (i:Int)]?=some (Ai row)/\0<=(j:Int)/\(U cg row)[Z (j:Int)]?=some (cg a)/\Y (a.snd<0)=O/\0<=(i:Int)/\(U Ai G.ar)[Z (i:Int)]?=some (Ai row)/\0<=(j:Int)/\(U cg row)[Z (j:Int)]?=some (cg a)/\Y (a.snd>=(I G.cs:Int))=J/\Q (di 45)) ⟨by omega,Ae hr,HM (by rw[HJ];omega),by omega,Ae hr,by omega,Ae ha,HO c1,by omega,Ae hr,by omega,Ae ha,HM c2,rfl⟩
   ·rw[show Tn (I G.cs) a=O by simp[Tn];omega,Bool.false_or]
    generalize (if (!((row.drop (j+1)).any (Tn (I G.cs)))&&res)=J then(0:Int) else 45)=e at*
    exact lv 70 [1] (.x (Ai row)<|.t<|.x (Ai row)<|.x (cg a)<|.f<|.x (Ai row)<|.x (cg a)<|.f<|.l [ke 1,ke 3,ke 4,ch 5 (di (j+1:Nat))]) (0<=(i:Int)/\(U Ai G.ar)[Z (i:Int)]?=some (Ai row)/\Y ((j:Int)<(I (U cg row):Int))=J/\0<=(i:Int)/\(U Ai G.ar)[Z (i:Int)]?=some (Ai row)/\0<=(j:Int)/\(U cg row)[Z (j:Int)]?=some (cg a)/\Y (a.snd<0)=O/\0<=(i:Int)/\(U Ai G.ar)[Z (i:Int)]?=some (Ai row)/\0<=(j:Int)/\(U cg row)[Z (j:Int)]?=some (cg a)/\Y (a.snd>=(I G.cs:Int))=O/\di (yu yt ((j:Int)+1))=di (↑(j+1):Int)/\_) ⟨by omega,Ae hr,HM (by rw[HJ];omega),by omega,Ae hr,by omega,Ae ha,HO c1,by omega,Ae hr,by omega,Ae ha,HO c2,by rw[Ac],iK hih⟩
theorem AbJ(G:Gph)(h:BT G)(hl:I G.ar=I G.cs)(n:Nat):∀k:Nat,I G.cs-k=n->
  Rn PP Ml 0 (di (if ja (I G.cs) (G.cs.take k) (G.cs.drop k) (G.ar.drop k)=J then 0 else 45)) bd ([zu Ml 244,.blk 0,zt Ml 31]++[]) (cz 70 [(1,.v (.ref (vG G))),(3,di (I G.cs)),(4,di k)]) bd:=by
 have h1:=h.cs
 induction n with
 |zero=>
  intro k hn
  rw[I3 (by omega),show ∀p A,ja (I G.cs) p [] A=J from fun p A=>by cases A<;>rfl,I4 rfl]
  exact zo [1] (.f .r) (yd k (I G.cs)/\Q (di 0)) ⟨yq,rfl⟩
 |succ n ih=>
  intro k hn
  obtain⟨x,hx⟩:∃x,G.cs[k]?=some x:=⟨_,HK (by omega)⟩
  obtain⟨r,hr⟩:∃r,G.ar[k]?=some r:=⟨_,HK (by omega)⟩
  have e1:G.cs.drop k=x::G.cs.drop (k+1):=by rw[HZ (by omega)];congr 1;rw[HK (by omega)] at hx;simpa using hx
  have e2:G.ar.drop k=r::G.ar.drop (k+1):=by rw[HZ (by omega)];congr 1;rw[HK (by omega)] at hr;simpa using hr
  have e3:G.cs.take k++[x]=G.cs.take (k+1):=by rw[J2,hx];rfl
  have hi:=RN G.cs (by omega) h.fit x
  have hin:=AkW G h hl k (by omega) r hr _ (ih (k+1) (by omega)) _ 0 rfl
  have hat:=Ao4 hx
  rw[e1,e2,ja,e3,Bool.and_assoc]
  rw[JG] at hin
  generalize AZ (G.cs.take k) x=i at*
  by_cases hi0:i<0
  ·rw[HM hi0,Bool.not_true] at hat
   rw[HM hi0,IG]
   generalize (if (!(r.any (Tn (I G.cs)))&&ja (I G.cs) (G.cs.take (k+1)) (G.cs.drop (k+1)) (G.ar.drop (k+1)))=J then(0:Int) else 45)=e at*
   exact zo [1] (.t<|.h (.xs (Ad x))<|.c (di (AZ G.cs x))<|.f<|.l [ke 1,ke 3,ke 4,ch 5 (di (0:Nat))]) (ye k (I G.cs)/\Q 2/\y6 k/\(U eV G.cs)[Z (k:Int)]?=some (Ad x)/\_/\_/\Q (di 0)/\_) ⟨yr,rfl,by omega,Ap hx,hi,hat,rfl,iK hin⟩
  ·rw[HO hi0,Bool.not_false] at hat
   rw[HO hi0,IE,Iz (by simp)]
   exact zo [1] (.t<|.h (.xs (Ad x))<|.c (di (AZ G.cs x))<|.t .r) (ye k (I G.cs)/\Q 2/\y6 k/\(U eV G.cs)[Z (k:Int)]?=some (Ad x)/\_/\_/\Q (di 45)) ⟨yr,rfl,by omega,Ap hx,hi,hat,rfl⟩
theorem Ge(G:Gph)(h:BT G):F0 15 [dG G] (di (if fz G=J then 0 else 45)):=by
 by_cases c1:1<=I G.cs
 ·by_cases c2:I G.cs<=128
  ·by_cases c3:I G.ar=I G.cs
   ·have hl:=AbJ G h c3 _ 0 rfl
    rw[show ja (I G.cs) (G.cs.take 0) (G.cs.drop 0) (G.ar.drop 0)=fz G by simp[fz,c1,c2,c3]] at hl
    generalize (if fz G=J then(0:Int) else 45)=e at*
    refine sv Ml 70 [1] (.f<|.f<|.f<|.l [ke 1,ch 3 (di (I G.cs)),ch 4 (di (0:Nat))]) (yd (I (U eV G.cs)) 1/\yb (I (U eV G.cs)) 128/\((I (U Ai G.ar):Int) !=(I (U eV G.cs):Int))=O/\di (I (U eV G.cs):Int)=di (I G.cs:Int)/\di 0=di (↑0:Int)/\It (type_of% hl)) ?_
    rw[HJ]
    exact⟨yq,yq,by rw[HJ,c3];exact bne_self_eq_false _,rfl,rfl,⟨hl⟩⟩
   ·rw[show fz G=O by simp[fz,c3],Iz (by simp)]
    refine sv Ml 70 [1] (.f<|.f<|.t .r) (yd (I (U eV G.cs)) 1/\yb (I (U eV G.cs)) 128/\((I (U Ai G.ar):Int) !=(I (U eV G.cs):Int))=J/\Q (di 45)) ?_
    rw[HJ,HJ]
    exact⟨yq,yq,bne_iff_ne.2 (by omega),rfl⟩
  ·rw[show fz G=O by simp[fz,c2],Iz (by simp)]
   refine sv Ml 70 [1] (.f<|.t<|.k .r) (yd (I (U eV G.cs)) 1/\yc (I (U eV G.cs)) 128/\Q (di 45)) ?_
   rw[HJ]
   exact⟨yq,yr,rfl⟩
 ·rw[show fz G=O by simp[fz,c1],Iz (by simp)]
  refine sv Ml 70 [1] (.t<|.k<|.k .r) (ye (I (U eV G.cs)) 1/\Q (di 45)) ?_
  rw[HJ]
  exact⟨yr,rfl⟩
noncomputable def Du:=yl O3
theorem AkN(G:Gph)(hA:Tv G.ar)(res:D)(i:Nat)(x:Int)(row:List Aw)(hr:G.ar[x.toNat]?=some row)(hx0:0<=x)(hrl:I row<=9223372036854775807)(o1:List Bool)(t1:List Int)
  (next:Rn PP O3 0 res bd ([kl Du [1,1,1,1,0,1,0,0],.blk 0,kc Du [1,1,1,1,1]]++[]) (cz 63 [(2,.v (.ref (vG G))),(5,.arr 0 0 (I G.ar)),(6,.acc 1 (t1.map vi)),(7,di (i+1:Nat))]) (fw o1 t1)) (N:Nat):∀(j:Nat) (o:List Bool) (t:List Int),I row-j=N->I o=I G.ar->t[i]?=some x->cf o+I t<=1000->CM o t (row.drop j)=(o1,t1)->
  Rn PP O3 0 res bd ([kl Du [1,1,1,1,0,1,0,0,1,0,0,1,0,0],.blk 2,.blk 1,kc Du [1,1,1,1,0,1,0,0,1,1],kl Du [1,1,1,1,0,1,0,0],.blk 0,kc Du [1,1,1,1,1]]++[]) (cz 63 [(2,.v (.ref (vG G))),(5,.arr 0 0 (I G.ar)),(6,.acc 1 (t.map vi)),(7,di i),(8,di j)]) (fw o t):=by
 induction N with
 |zero=>
  intro j o t hn ho ht hc he
  have hti:(t.map vi)[Z (i:Int)]?=some (vi x):=by grind
  have hil:i<I t:=(HN.1 ht).1
  rw[I3 (by omega),CM,Prod.mk.injEq] at he
  obtain⟨rfl,rfl⟩:=he
  exact lv 63 [2] (.x (vi x)<|.x (Ai row)<|.f<|.lo [ke 2,ke 5,ke 6,ch 7 (di (i+1:Nat))] (fw o t)) (0<=(i:Int)/\_/\0<=x/\(U Ai G.ar)[Z x]?=some (Ai row)/\Y ((j:Int)<(I (U cg row):Int))=O/\di (yu yt ((i:Int)+1))=di (↑(i+1):Int)/\cp 1 [1] [some (fj o)]=J/\Q (fw o t).H/\Q (fw o t).own/\_) ⟨by omega,hti,hx0,Gk hr hx0,HO (by grind),by grind[Ac],k7 _ _ _,rfl,rfl,iK next⟩
 |succ N ih=>
  intro j o t hn ho ht hc he
  have hti:(t.map vi)[Z (i:Int)]?=some (vi x):=by grind
  have hil:i<I t:=(HN.1 ht).1
  obtain⟨a,ha⟩:=@yk _ row j (by omega)
  have e1:row.drop j=a::row.drop (j+1):=by grind[List.drop_eq_getElem_cons]
  have hai:=hA row (HQ hr) a (HQ ha)
  obtain⟨c1,c2⟩:=UP o t a hai ho
  rw[e1,CM] at he
  obtain⟨b,hb⟩:∃b,o[a.2.toNat]?=some b:=⟨_,HK (by omega)⟩
  have hbs:(fj o)[0+Z a.2*1]?=some (db b):=by grind
  cases b with
  |true=>
   have hm:FP o t a=(o,t):=by grind[FP]
   rw[hm] at he
   have hih:=ih (j+1) o t (by omega) ho ht hc he
   exact lv 63 [2] (.x (vi x)<|.x (Ai row)<|.t<|.x (vi x)<|.x (Ai row)<|.x (cg a)<|.h (.q 11 3)<|.m (db J)<|.k<|.lo [ke 2,ke 5,ke 6,ke 7,ch 8 (di (j+1:Nat))] (fw o t)) (0<=(i:Int)/\_/\0<=x/\(U Ai G.ar)[Z x]?=some (Ai row)/\Y ((j:Int)<(I (U cg row):Int))=J/\0<=(i:Int)/\_/\0<=x/\(U Ai G.ar)[Z x]?=some (Ai row)/\0<=(j:Int)/\(U cg row)[Z (j:Int)]?=some (cg a)/\_/\_/\_/\di (yu yt ((j:Int)+1))=di (↑(j+1):Int)/\cp 1 [1] [some (fj o)]=J/\Q (fw o t).H/\Q (fw o t).own/\_) ⟨by omega,hti,hx0,Gk hr hx0,HM (by grind),by omega,hti,hx0,Gk hr hx0,by omega,Ae ha,hai.1,hai.2,hbs,by grind[Ac],k7 _ _ _,rfl,rfl,iK hih⟩
  |false=>
   have hm:FP o t a=(o.set a.2.toNat true,t++[a.2]):=by simp[FP,hb]
   rw[hm] at he c1 c2
   have hih:=ih (j+1) _ _ (by omega) c2 (by rw[I5 hil];exact ht) (by omega) he
   refine lv 63 [2] (.x (vi x)<|.x (Ai row)<|.t<|.x (vi x)<|.x (Ai row)<|.x (cg a)<|.h (.q 11 3)<|.m (db O)<|.k<|.h (.q 12 3)<|.w<|.lo [ke 2,ke 5,ke 6,ke 7,ch 8 (di (j+1:Nat))] (fw (o.set a.2.toNat true) (t++[a.2]))) (0<=(i:Int)/\type_of% hti/\0<=x/\(U Ai G.ar)[Z x]?=some (Ai row)/\Y ((j:Int)<(I (U cg row):Int))=J/\0<=(i:Int)/\type_of% hti/\0<=x/\(U Ai G.ar)[Z x]?=some (Ai row)/\0<=(j:Int)/\(U cg row)[Z (j:Int)]?=some (cg a)/\0<=a.snd/\a.snd<(I G.ar:Int)/\type_of% hbs/\0<=a.snd/\a.snd<(I G.ar:Int)/\0+Z a.snd*1<I (fj o)/\Q (U vi t)/\Ao (I (U vi t)+I (vi a.snd::nV)) 8/\di (yu yt ((j:Int)+1))=di (↑(j+1):Int)/\cp 1 [1] [some (List.set (fj o) (0+Z a.snd*1) (db J))]=J/\[some (List.set (fj o) (0+Z a.snd*1) (db J))]=[some (fj (List.set o (Z a.snd) true))]/\[(1,1,U vi t++vi a.snd::nV)]=[(1,1,U vi (t++[a.snd]))]/\I0 O3 0 res bd [kl Du [1,1,1,1,0,1,0,0,1,0,0,1,0,0],bh 2,bh 1,kc Du t7,kl Du iy,bh 0,kc Du [1,1,1,1,1]] (cz 63 [(2,bt (bz (vG G))),(5,bo 0 0 (I G.ar)),(6,br 1 (U vi t++[vi a.snd])),(7,di (i:Int)),(8,di (↑(j+1):Int))]) (fw (List.set o (Z a.snd) true) (t++[a.snd]))) ?_
   have es:List.set (fj o) (0+Z a.2*1) (db J)=fj (o.set a.2.toNat true):=by simp[fj,map_set]
   rw[es]
   refine⟨by omega,hti,hx0,Gk hr hx0,HM (by rw[HJ];omega),by omega,hti,hx0,Gk hr hx0,by omega,Ae ha,hai.1,hai.2,hbs,hai.1,hai.2,by simp[fj];omega,rfl,⟨?_,?_⟩,by rw[Ac],k7 _ _ _,rfl,by simp,⟨by simpa using hih⟩⟩
   all_goals grind
theorem AcE(A:As)(hA:Tv A){L:List Aw}(hL:L∈A):∀(l:List Aw) (o:List Bool) (t:List Int),(∀a∈l,a∈L)->I o=I A->cf (CM o t l).1+(CM o t l).2.length=cf o+I t
 |[],_,_,_,_=>rfl
 |a::l,o,t,hl,ho=>by
  obtain⟨c1,c2⟩:=UP o t a (hA L hL a (hl a (by simp))) ho
  rw[CM,AcE A hA hL l _ _ (fun x hx=>hl x (by grind)) c2,c1]
theorem Abq(G:Gph)(hA:Tv G.ar)(hrow:∀l∈G.ar,I l<=9223372036854775807)(s:Nat)(n:Nat):∀(i:Nat) (o:List Bool) (t:List Int),BI G.ar s o (t.drop i)->2*cf o+I (t.drop i)=n->i<=I t->cf o+I t<=1000->
  Rn PP O3 0 (.v (Ar (C0 G.ar s))) bd ([zu O3 500,.blk 0,zt O3 63]++[]) (cz 63 [(2,.v (.ref (vG G))),(5,.arr 0 0 (I G.ar)),(6,.acc 1 (t.map vi)),(7,di i)]) (fw o t):=by
 induction n using Nat.strongRecOn with
 |_ n ih=>
 intro i o t h hn hi hb
 have hol:=h.len
 by_cases hit:i=I t
 ·rw[I3 (by omega)] at h
  have e:=h.done
  exact zo [2] (.f<|.h (.q 14 0)<|.h (.ct 5 (.v (Ar o)) ⟨[none],[(1,1,t.map vi)]⟩) .r) (yd i (I (U vi t))/\(∀(e:List D),e[5]?=some (bo 0 0 (I G.ar))->∀(E:c9) (g:Gh) (a:Act) (w:x5),FI E g (fw o t) e a w->∃g',FI E g' (bi [none] [(1,1,U vi t)]) (List.set e 5 (bt (Ar o))) a w)/\bt (Ar o)=bt (Ar (C0 G.ar s))) ⟨HO (by grind),fun e' he=>Ait (σ:=fw o t) (q:=0) (xs:=o.map d5) (by simp_all) (by grind),by rw[e]⟩
 ·obtain⟨x,hx⟩:=@yk _ t i (by omega)
  have e1:t.drop i=x::t.drop (i+1):=by grind[List.drop_eq_getElem_cons]
  rw[e1] at h hn
  obtain⟨row,h1,h2,h3,h4,h5⟩:=h.step hA
  have hap:=KV row o t
  have hap2:=KV row o (t.drop (i+1))
  have hsum:=(AcE G.ar hA (HQ h1) row o t (fun _ h=>h) hol)
  have hin:=AkN G hA (.v (Ar (C0 G.ar s))) i x row h1 h2 (hrow row (HQ h1)) _ _ (ih (2*cf (CM o t row).1+I ((CM o t row).2.drop (i+1))) (by grind) (i+1) (CM o t row).1 (CM o t row).2 (by grind) rfl (by grind) (by omega)) _ 0 o t rfl hol hx hb rfl
  exact zo [2] (.t<|.lo [ke 2,ke 5,ke 6,ke 7,ch 8 (di (0:Nat))] (fw o t)) (ye i (I (U vi t))/\Q (di 0)/\cp 1 [1] [some (fj o)]=J/\Q (fw o t).H/\Q (fw o t).own/\_) ⟨HM (by grind),rfl,k7 _ _ _,rfl,rfl,iK hin⟩
theorem KJ(G:Gph)(h:BT G)(hA:Tv G.ar)(h128:I G.ar<=128)(hl:I G.cs=I G.ar)(i:Nat)(hi:i<I G.ar):F0 55 [dG G,di i] (.v (Ar (C0 G.ar i))):=by
 have hcf:cf ((replicate (I G.ar) false).set i true)<=128:=by
  grind[cf]
 have hlp:=Abq G hA h.row i _ 0 _ [(i:Int)] (BI.first hi) rfl (by simp) (by grind)
 refine sv O3 63 [2] (.h (.q 2 3)<|.w<|.a 1<|.lo [ke 2,ch 5 (.arr 0 0 (I G.ar)),ke 6,ke 7] (fw ((replicate (I G.ar) false).set i true) [(i:Int)])) (Q (I (U eV G.cs):Int)/\y6 (I (U eV G.cs))/\(1:Int)*(I (U eV G.cs):Int)<=281474976710656/\(I (U eV G.cs):Int)<=9223372036854775807/\y6 i/\y5 i ↑(Z (I (U eV G.cs):Int))/\0+Z (i:Int)*1<I (replicate (Z (I (U eV G.cs):Int)) (bt (bu false)))/\bo 0 0 (Z (I (U eV G.cs):Int))=bo 0 0 (I G.ar)/\cp 1 [1] [some (List.set (replicate (Z (I (U eV G.cs):Int)) (db O)) (0+Z (i:Int)*1) (db J))]=J/\[some (List.set (replicate (Z (I (U eV G.cs):Int)) (db O)) (0+Z (i:Int)*1) (db J))]=[some (fj (List.set (replicate (I G.ar) false) i true))]/\Q [(1,1,vi (i:Int)::nV)]/\It (type_of% hlp)) ?_
 rw[show(G.cs.map eV).length=I G.ar by grind,Jy,show List.set (replicate (I G.ar) (db O)) (0+Z (i:Int)*1) (db J)=fj ((replicate (I G.ar) false).set i true) by simp_all]
 exact⟨rfl,by omega,by omega,by omega,by omega,by omega,by grind,rfl,k7 _ _ _,rfl,rfl,⟨hlp⟩⟩
theorem MY(G:Gph)(h:BT G)(x:Int):F0 60 [dG G,di x] (db (okNs G [x])):=by
 have hc:=Ge G h
 have e:okNs G [x]=(fz G&& !(GV (I G.cs) x)):=by simp[okNs]
 rw[e]
 cases hb:fz G with
 |false=>
  rw[hb,Iz (by simp)] at hc
  exact sv AlG 19 [2] (.c (di 45) .r) (_/\Q (db O)) ⟨hc,rfl⟩
 |true=>
  rw[hb,I4 rfl] at hc
  by_cases c:x>=0
  ·rw[show(true&& !(GV (I G.cs) x))=Y (x<I G.cs) by simp only[GV];grind]
   exact sv AlG 19 [2] (.c (di 0)<|.k<|.t .r) (_/\y8 x 0/\db (Y (x<(I (U eV G.cs):Int)))=db (Y (x<(I G.cs:Int)))) ⟨hc,HM c,by rw[HJ]⟩
  ·rw[show(true&& !(GV (I G.cs) x))=O by simp only[GV];grind]
   exact sv AlG 19 [2] (.c (di 0)<|.k<|.f .r) (_/\y7 x 0/\Q (db O)) ⟨hc,HO c,rfl⟩
noncomputable def Tf:=yl Vd
theorem Abs(n:Nat)(hn:n<=1000)(r:List Bool)(hr:I r=n)(N:Nat):∀k:Nat,n-k=N->k<=n->
  Rn PP Vd 0 (cw (AJ n (fun j=>r.getD j false))) bd ([zu Vd 500,.blk 0,zt Vd 63]++[]) (cz 30 [(5,.acc 1 ((AJ k (fun j=>r.getD j false)).map vi)),(6,.v (Ar r)),(7,di k)]) ⟨[],[(1,1,(AJ k (fun j=>r.getD j false)).map vi)]⟩:=by
 induction N with
 |zero=>
  intro k hN hk
  refine zo [2] (.f .r) (yd k (I (U d5 r))/\bt (ae (U vi (AJ k fun j=>List.getD r j false)))=cw (AJ n fun j=>List.getD r j false)) ?_
  grind
 |succ N ih=>
  intro k hN hk
  obtain⟨b,hb⟩:=@yk _ r k (by omega)
  have hih:=ih (k+1) (by omega) (by omega)
  have hln:=Hq k (fun j=>r.getD j false)
  rw[Hp,HS,hb,JD] at hih
  generalize AJ k (fun j=>r.getD j false)=L at*
  cases b with
  |true=>
   rw[I4 rfl] at hih
   refine zo [2] (.t<|.x (d5 true)<|.k<|.lo [ke 5,ke 6,ch 7 (zw k)] ⟨[],[(1,1,(L++[(k:Int)]).map vi)]⟩) (ye k (I (U d5 r))/\y6 k/\(U d5 r)[Z (k:Int)]?=some (d5 true)/\Q (U vi L)/\Ao (I (U vi L)+I (a8 yt (k:Int)::nV)) 8/\zx k/\cp 0 [1] []=J/\[(1,1,U vi L++vi (k:Int)::nV)]=[(1,1,U vi (L++[(k:Int)]))]/\I0 Vd 0 (cw (AJ n fun j=>List.getD r j false)) bd [kl Tf iy,bh 0,zt Vd 63] (cz 30 [(5,br 1 (U vi L++[vi (k:Int)])),(6,bt (Ar r)),(7,zw k)]) (bi [] [(1,1,U vi (L++[(k:Int)]))])) ?_
   have e:(L++[(k:Int)]).map vi=L.map vi++[vi k]:=by simp
   rw[e] at hih⊢
   refine⟨HM (by grind),by omega,Ae hb,rfl,⟨?_,?_⟩,Ac,rfl,rfl,⟨hih⟩⟩
   all_goals grind
  |false=>
   exact zo [2] (.t<|.x (d5 false)<|.k<|.lo [ke 5,ke 6,ch 7 (zw k)] ⟨[],[(1,1,L.map vi)]⟩) (ye k (I (U d5 r))/\y6 k/\(U d5 r)[Z (k:Int)]?=some (d5 false)/\zx k/\cp 0 [1] []=J/\Q [(1,1,U vi L)]/\_) ⟨HM (by grind),by omega,Ae hb,Ac,rfl,rfl,iK hih⟩
theorem Abr(G:Gph)(h:BT G)(x:Int):F0 25 [dG G,di x] (cw (pv G x)):=by
 have hv:=MY G h x
 rw[pv]
 cases hb:okNs G [x] with
 |false=>
  rw[hb] at hv
  exact sv Vd 30 [2] (.c (db O)<|.k<|.r) (_/\Q (bt (ae []))) ⟨hv,rfl⟩
 |true=>
  rw[hb] at hv
  have hb2:=hb
  simp only[okNs,GV,HL,IZ,any_cons,List.any_nil,Bool.or_false,Bool.or_eq_false_iff,J8] at hb2
  have hg:=GM hb2.1
  have hle:=hg.le
  have hln:=hg.len
  obtain⟨i,rfl⟩:∃i:Nat,x=i:=⟨x.toNat,by omega⟩
  have hr:=KJ G h hg.ok (by omega) hln.symm i (by omega)
  have hlp:=Abs (I G.cs) (by omega) (C0 G.ar i) (by rw[Gu,hln]) _ 0 rfl (II _)
  rw[I4 rfl,Jy]
  generalize C0 G.ar i=r at*
  exact sv Vd 30 [2] (.c (db J)<|.k<|.h (.q 4 0)<|.h (.nw 5 1 1)<|.c (.v (Ar r))<|.lo [ke 5,ke 6,ke 7] ⟨[],[(1,1,[])]⟩) (_/\_/\cp 0 [1] []=J/\Q [(1,1,nV)]/\_) ⟨hv,hr,rfl,rfl,iK hlp⟩
noncomputable def A0:=yl Cr
abbrev BC(L:List Int):List Int:=L.map (· +1)
abbrev Ez(L:List Int):St:=⟨[some (cb (BC L))],[]⟩
theorem ma(L:List Int)(m:Nat)(ts:List Nat):cp m ts [some (cb (BC L))]=J:=by grind[Ce,cp]
theorem Sq{L:List Int}{i:Nat}{x:Int}(h:L[i]?=some x):(cb (BC L))[0+Z (i:Int)*1]?=some (di (x+1)):=by grind
theorem AcW{L:List Int}{j x:Int}(h:L[j.toNat]?=some x):(cb (BC L))[0+Z j*1]?=some (di (x+1)):=by grind
theorem RJ(G:Gph)(x y:Int)(n:Nat)(nn:Int)(i:Nat)(hi:i<n)(hn:n<=1000)(row:List Aw)(hr:G.ar[i]?=some row)(res:D)(L:List Int)(hL:I L=n)(z:Int)(hz:L[i]?=some z)(h0:0<=z)(k:Nat)
  (next:Rn PP Cr 0 res bd ([zu Cr 32036,.blk 2,.blk 1,zt Cr 2003,zu Cr 500,.blk 0,zt Cr 63]++[]) (cz 160 [(1,di x),(2,di y),(3,.v (.ref (vG G))),(8,.arr 0 0 n),(9,di nn),(10,zw i)]) (Ez L)):
  Rn PP Cr 0 res bd ([zu Cr 2050340,.blk 4,.blk 3,zt Cr 128147,zu Cr 32036,.blk 2,.blk 1,zt Cr 2003,zu Cr 500,.blk 0,zt Cr 63]++[]) (cz 160 [(1,di x),(2,di y),(3,.v (.ref (vG G))),(8,.arr 0 0 n),(9,di nn),(10,di i),(11,di k)]) (Ez L):=by
 by_cases hk:(k:Int)<(I (row.map cg):Int)
 ·exact zo [3] (.x (Ai row)<|.t<|.m (di (z+1))<|.f<|.lo [ke 1,ke 2,ke 3,ke 8,ke 9,ch 10 (zw i)] (Ez L)) (y6 i/\(U Ai G.ar)[Z (i:Int)]?=some (Ai row)/\ye k (I (U cg row))/\y6 i/\y5 i n/\(cb (BC L))[0+Z (i:Int)*1]?=some (di (z+1))/\(z+1==0)=O/\zx i/\cp 1 [] [some (cb (BC L))]=J/\Q (Ez L).H/\_) ⟨by omega,Ae hr,HM hk,by omega,by omega,Sq hz,IM.2 (by omega),by grind[Ac],ma _ _ _,rfl,iK next⟩
 ·exact zo [3] (.x (Ai row)<|.f<|.k<|.lo [ke 1,ke 2,ke 3,ke 8,ke 9,ch 10 (zw i)] (Ez L)) (y6 i/\(U Ai G.ar)[Z (i:Int)]?=some (Ai row)/\yd k (I (U cg row))/\zx i/\cp 1 [] [some (cb (BC L))]=J/\Q (Ez L).H/\_) ⟨by omega,Ae hr,HO hk,by grind[Ac],ma _ _ _,rfl,iK next⟩
noncomputable abbrev mt:=fun a₀ b₀ (c₀:Nat) d₀=>(cb (BC (dp a₀ b₀ (c₀:Int) d₀)))
theorem Abh(G:Gph)(hg:GR G)(hrow:∀l∈G.ar,I l<=9223372036854775807)(x y:Int)(t d i:Nat)(hi:i<I G.cs)(hd:d<=I G.cs)(row:List Aw)(hr:G.ar[i]?=some row)(hneg:H4 d (dst G.ar t i)<0)(res:D)
  (next:Rn PP Cr 0 res bd ([zu Cr 32036,.blk 2,.blk 1,zt Cr 2003,zu Cr 500,.blk 0,zt Cr 63]++[]) (cz 160 [(1,di x),(2,di y),(3,.v (.ref (vG G))),(8,.arr 0 0 (I G.cs)),(9,zw d),(10,zw i)]) (Ez (dp G.ar t d (i+1)))) (N:Nat):∀k:Nat,I row-k=N->(∀a∈row.take k,dst G.ar t a.2.toNat≠d)->
  Rn PP Cr 0 res bd ([zu Cr 2050340,.blk 4,.blk 3,zt Cr 128147,zu Cr 32036,.blk 2,.blk 1,zt Cr 2003,zu Cr 500,.blk 0,zt Cr 63]++[]) (cz 160 [(1,di x),(2,di y),(3,.v (.ref (vG G))),(8,.arr 0 0 (I G.cs)),(9,zw d),(10,di i),(11,di k)]) (Ez (dp G.ar t d i)):=by
 have hle:=hg.le
 have hln:=hg.len
 have hlen:I (dp G.ar t d i)=I G.cs:=by rw[QO,hln]
 have n8:(0:Int)<=d:=Int.natCast_nonneg d
 have hx:=GQ (A:=G.ar) (t:=t) (d:=d) (i:=i) (j:=i) (by omega)
 rw[Iz (Nat.lt_irrefl i)] at hx
 have hm1:H4 d (dst G.ar t i)= -1:=by
  have:=Pm G.ar t i
  grind[H4]
 rw[hm1] at hx
 have hrm:=HQ hr
 have hrl:=hrow row hrm
 induction N with
 |zero=>
  intro k hN hk
  have e:=(M6 (A:=G.ar) (t:=t) (d:=d) n8 hr (.inr fun a ha=>hk a (by grind[List.take_of_length_le]))).2
  rw[←e] at next
  exact zo [3] (.x (Ai row)<|.f<|.k<|.lo [ke 1,ke 2,ke 3,ke 8,ke 9,ch 10 (zw i)] (Ez (dp G.ar t d i))) (y6 i/\(U Ai G.ar)[Z (i:Int)]?=some (Ai row)/\yd k (I (U cg row))/\zx i/\cp 1 [] [some (mt G.ar t d i)]=J/\Q (Ez (dp G.ar t d i)).H/\_) ⟨by omega,Ae hr,HO (by grind),by grind[Ac],ma _ _ _,rfl,iK next⟩
 |succ N ih=>
  intro k hN hk
  obtain⟨a,ha⟩:=@yk _ row k (by omega)
  have hai:=hg.ok row hrm a (HQ ha)
  have hlt:Y ((k:Int)<(I (row.map cg):Int))=J:=HM (by grind)
  have hy:=GQ (A:=G.ar) (t:=t) (d:=d) (i:=i) (j:=a.2.toNat) (by omega)
  have his:=AjT (A:=G.ar) (t:=t) (d:=d) (i:=i) (j:=a.2.toNat) (by omega) n8
  generalize H4 (if a.2.toNat<i then(d:Int)+1 else d) (dst G.ar t a.2.toNat)=v at*
  by_cases hv:v=d
  ·obtain⟨e1,e2⟩:=AdP hg.ok (t:=t) (d:=d) n8 hr hneg (HQ ha) (his.1 hv)
   have hz:(dp G.ar t d (i+1))[i]?=some ((d:Int)+1):=by grind
   have hdn:=RJ G x y (I G.cs) (d+1:Nat) i hi (by omega) row hr res (dp G.ar t d (i+1)) (by grind) _ hz (by omega) (k+1) next
   have es:List.set (cb (BC (dp G.ar t d i))) (0+Z (i:Int)*1) (di ((d:Int)+1+1))=cb (BC (dp G.ar t d (i+1))):=by
    rw[←e2];simp[cb,map_set]
   refine zo [3] (.x (Ai row)<|.t<|.m (di (-1+1))<|.t<|.x (Ai row)<|.x (cg a)<|.m (di (v+1))<|.t<|.h (.q 15 5)<|.w<|.lo [ke 1,ke 2,ke 3,ke 8,ke 9,ke 10,ch 11 (zw k)] (Ez (dp G.ar t d (i+1)))) (y6 i/\(U Ai G.ar)[Z (i:Int)]?=some (Ai row)/\ye k (I (U cg row))/\y6 i/\y5 i (I G.cs)/\(mt G.ar t d i)[0+Z (i:Int)*1]?=some (di (-1+1))/\(-1+1==0)=J/\y6 i/\(U Ai G.ar)[Z (i:Int)]?=some (Ai row)/\y6 k/\(U cg row)[Z (k:Int)]?=some (cg a)/\0<=a.snd/\y5 a.snd (I G.cs)/\(mt G.ar t d i)[0+Z a.snd*1]?=some (di (v+1))/\(v+1==(↑(d+1):Int))=J/\y6 i/\y5 i (I G.cs)/\0+Z (i:Int)*1<I (mt G.ar t d i)/\zx k/\cp 1 [] [some (List.set (mt G.ar t d i) (0+Z (i:Int)*1) (di (yu yt ((↑(d+1):Int)+1))))]=J/\[some (List.set (mt G.ar t d i) (0+Z (i:Int)*1) (di (yu yt ((↑(d+1):Int)+1))))]=[some (cb (BC (dp G.ar t (d:Int) (i+1))))]/\It (type_of% hdn)) ?_
   rw[show yt.wrap (((d+1:Nat):Int)+1)=(d:Int)+1+1 by grind[An],es]
   exact⟨by omega,Ae hr,hlt,by omega,by omega,Sq hx,rfl,by omega,Ae hr,by omega,Ae ha,hai.1,by omega,AcW hy,IJ.2 (by omega),by omega,by omega,by simp_all,by grind[Ac],ma _ _ _,rfl,⟨hdn⟩⟩
  ·have hih:=ih (k+1) (by omega) (fun b hb=>by
    rw[J2,ha,Option.toList_some,IV,Ia] at hb
    grind)
   exact zo [3] (.x (Ai row)<|.t<|.m (di (-1+1))<|.t<|.x (Ai row)<|.x (cg a)<|.m (di (v+1))<|.f<|.lo [ke 1,ke 2,ke 3,ke 8,ke 9,ke 10,ch 11 (zw k)] (Ez (dp G.ar t d i))) (y6 i/\(U Ai G.ar)[Z (i:Int)]?=some (Ai row)/\_/\y6 i/\y5 i (I G.cs)/\(mt G.ar t d i)[0+Z (i:Int)*1]?=some (di (-1+1))/\(-1+1==0)=J/\y6 i/\(U Ai G.ar)[Z (i:Int)]?=some (Ai row)/\y6 k/\(U cg row)[Z (k:Int)]?=some (cg a)/\_/\y5 a.snd (I G.cs)/\(mt G.ar t d i)[0+Z a.snd*1]?=some (di (v+1))/\(v+1==(↑(d+1):Int))=O/\zx k/\cp 1 [] [some (mt G.ar t d i)]=J/\Q (Ez (dp G.ar t d i)).H/\_) ⟨by omega,Ae hr,hlt,by omega,by omega,Sq hx,rfl,by omega,Ae hr,by omega,Ae ha,hai.1,by omega,AcW hy,IM.2 (by omega),by grind[Ac],ma _ _ _,rfl,iK hih⟩
theorem AnD(G:Gph)(h:BT G)(hg:GR G)(x y:Int)(t d:Nat)(hd:d<=I G.cs)(res:D)
  (next:Rn PP Cr 0 res bd ([zu Cr 500,.blk 0,zt Cr 63]++[]) (cz 160 [(1,di x),(2,di y),(3,.v (.ref (vG G))),(8,.arr 0 0 (I G.cs)),(9,di (d+1+1:Nat))]) (Ez (dp G.ar t (d+1:Nat) 0))) (N:Nat):∀i:Nat,I G.cs-i=N->i<=I G.cs->
  Rn PP Cr 0 res bd ([zu Cr 32036,.blk 2,.blk 1,zt Cr 2003,zu Cr 500,.blk 0,zt Cr 63]++[]) (cz 160 [(1,di x),(2,di y),(3,.v (.ref (vG G))),(8,.arr 0 0 (I G.cs)),(9,zw d),(10,di i)]) (Ez (dp G.ar t d i)):=by
 have hle:=hg.le
 have hln:=hg.len
 induction N with
 |zero=>
  intro i hN hi
  obtain rfl:i=I G.cs:=by omega
  have e:=AdQ (A:=G.ar) (t:=t) (d:=d) (i:=I G.cs) (by omega)
  rw[Ez,show((d+1:Nat):Int)=(d:Int)+1 by omega, ←e] at next
  exact zo [3] (.f<|.lo [ke 1,ke 2,ke 3,ke 8,ch 9 (di (d+1+1:Nat))] (Ez (dp G.ar t d (I G.cs)))) (yd (I G.cs) (I G.cs)/\di (yu yt ((↑(d+1):Int)+1))=di (↑(d+1+1):Int)/\cp 1 [] [some (cb (BC (dp G.ar t (d:Int) (I G.cs))))]=J/\Q (Ez (dp G.ar t d (I G.cs))).H/\_) ⟨yq,by rw[Ac],ma _ _ _,rfl,iK next⟩
 |succ N ih=>
  intro i hN hi
  obtain⟨row,hr⟩:∃b,G.ar[i]?=some b:=⟨_,HK (by omega)⟩
  have hih:=ih (i+1) (by omega) (by omega)
  have hk:Rn PP Cr 0 res bd ([zu Cr 2050340,.blk 4,.blk 3,zt Cr 128147,zu Cr 32036,.blk 2,.blk 1,zt Cr 2003,zu Cr 500,.blk 0,zt Cr 63]++[]) (cz 160 [(1,di x),(2,di y),(3,.v (.ref (vG G))),(8,.arr 0 0 (I G.cs)),(9,zw d),(10,di i),(11,di (0:Nat))]) (Ez (dp G.ar t d i)):=by
   by_cases hneg:H4 d (dst G.ar t i)<0
   ·exact Abh G hg h.row x y t d i (by omega) hd row hr hneg res hih _ 0 rfl (by simp)
   ·have hx:=GQ (A:=G.ar) (t:=t) (d:=d) (i:=i) (j:=i) (by omega)
    rw[Iz (Nat.lt_irrefl i)] at hx
    have e:=(M6 (A:=G.ar) (t:=t) (d:=d) (Int.natCast_nonneg d) hr (.inl (Int.not_lt.1 hneg))).2
    rw[Ez, ←e] at hih
    exact RJ G x y (I G.cs) _ i (by omega) (by omega) row hr res _ (by rw[QO,hln]) _ hx (Int.not_lt.1 hneg) 0 hih
  exact zo [3] (.t<|.lo [ke 1,ke 2,ke 3,ke 8,ke 9,ke 10,ch 11 (di (0:Nat))] (Ez (dp G.ar t d i))) (ye i (I G.cs)/\Q (di 0)/\cp 1 [] [some (mt G.ar t d i)]=J/\Q (Ez (dp G.ar t d i)).H/\_) ⟨yr,rfl,ma _ _ _,rfl,iK hk⟩
abbrev TS(b:Aw)(out:List Aw):St:=⟨[some [di b.1,di b.2]],[(1,2,out.map cg)]⟩
noncomputable abbrev Aw6:=fun a₀=>[ke 1,ke 2,ke 3,ke 8,ke 12,ke 13,ch 14 (db J),ch 15 (zw a₀)]
noncomputable abbrev Axn:=fun a₀=>[ke 1,ke 2,ke 3,ke 8,ke 12,ke 13,ke 14,ch 15 (zw a₀)]
theorem Abj(G:Gph)(hg:GR G)(hrow:∀l∈G.ar,I l<=9223372036854775807)(t i n:Nat)(hn:n<=1000)(hi:i<I G.cs)(hdi:dst G.ar t i=(n+1:Nat))(row:List Aw)(hr:G.ar[i]?=some row)(out:List Aw)(ho:I out<=1000)(res:D)(a1:Aw)
  (next:Rn PP Cr 0 res bd ([kl A0 [1,1,1,1,1,1,1,0,0,0],.blk 6,kc A0 [1,1,1,1,1,1,1,1]]++[]) (cz 160 [(1,di a1.2),(2,di t),(3,.v (.ref (vG G))),(8,cw (BC (B8 G.ar t))),(12,.acc 1 ((out++[a1]).map cg))]) ⟨[],[(1,2,(out++[a1]).map cg)]⟩) (N:Nat):∀(k:Nat) (b:Aw) (f:Bool),I row-k=N->(E7 (fun a=>dst G.ar t a.2.toNat==(n:Int)) (row.drop k) b f).1=a1->
  Rn PP Cr 0 res bd ([kl A0 [1,1,1,1,1,1,1,0,0,0,1,0,1,1,0,1,0,0],.blk 8,kc A0 [1,1,1,1,1,1,1,0,0,0,1,0,1,1,1],.blk 7,kl A0 [1,1,1,1,1,1,1,0,0,0],.blk 6,kc A0 [1,1,1,1,1,1,1,1]]++[]) (cz 160 [(1,di i),(2,di t),(3,.v (.ref (vG G))),(8,cw (BC (B8 G.ar t))),(12,.acc 1 (out.map cg)),(13,.ptr 0 0),(14,db f),(15,di k)]) (TS b out):=by
 have hln:=hg.len
 have hrm:=HQ hr
 have hrl:=hrow row hrm
 have hat:=Lq (A:=G.ar) (t:=t) (j:=i) (by omega)
 rw[hdi] at hat
 have hfi:((BC (B8 G.ar t)).map vi)[Z (i:Int)]?=some (vi (((n+1:Nat):Int)+1)):=by simp[hat]
 have hri:=Ae (f:=Ai) hr
 induction N with
 |zero=>
  intro k b f hN he
  rw[I3 (by omega),E7] at he
  subst he
  have e:(out++[b]).map cg=out.map cg++[cg b]:=by simp
  rw[e] at next
  exact lv 160 [3] (.x (Ai row)<|.f<|.lo [ch 1 (di b.2),ke 2,ke 3,ke 8,ke 12] ⟨[],[(1,2,out.map cg++[cg b])]⟩) (0<=(i:Int)/\_/\Y ((k:Int)<(I (U cg row):Int))=O/\Q (U cg out)/\Ao (I (U cg out)+I (aa (a8 yt b.fst::a8 yt b.snd::nV)::nV)) 16/\Q (di b.snd)/\cp 0 [1] []=J/\Q [(1,2,U cg out++cg b::nV)]/\_) ⟨by omega,hri,HO (by rw[HJ];omega),rfl,⟨by simp;omega,by simp;omega⟩,rfl,rfl,rfl,iK next⟩
 |succ N ih=>
  intro k b f hN he
  obtain⟨a,ha⟩:=@yk _ row k (by omega)
  have e1:row.drop k=a::row.drop (k+1):=by rw[HZ (by omega)];congr 1;rw[HK (by omega)] at ha;simpa using ha
  have hai:=hg.ok row hrm a (HQ ha)
  have hya:=Lq (A:=G.ar) (t:=t) (j:=a.2.toNat) (by omega)
  have hge:=Pm G.ar t a.2.toNat
  rw[e1,E7] at he
  generalize dst G.ar t a.2.toNat=y at*
  have hyi:((BC (B8 G.ar t)).map vi)[Z a.2]?=some (vi (y+1)):=by simp[hya]
  have h0:=ih (k+1) b f (by omega)
  have h1:=ih (k+1) a true (by omega)
  have hkr:=Ae (f:=cg) ha
  have hlt:Y ((k:Int)<(I (row.map cg):Int))=J:=HM (by rw[HJ];omega)
  have heq:y=n->(y+1==yt.wrap (((n+1:Nat):Int)+1-1))=J:=fun e=>by rw[An];exact IJ.2 (by omega)
  have hne:y≠n->(y+1==yt.wrap (((n+1:Nat):Int)+1-1))=O:=fun e=>by rw[An];exact IM.2 (by omega)
  by_cases c1:y=n
  ·rw[show(y==(n:Int))=J from IJ.2 c1,IG] at he
   cases f with
   |false=>
    rw[I4 (by simp)] at he
    exact lv 160 [3] (.x (Ai row)<|.t<|.x (Ai row)<|.x (cg a)<|.x (vi (y+1))<|.x (vi (((n+1:Nat):Int)+1))<|.t<|.x (vi (y+1))<|.t<|.k<|.k<|.k<|.lo (Aw6 k) (TS a out)) (0<=(i:Int)/\_/\_/\0<=(i:Int)/\_/\0<=(k:Int)/\_/\_/\_/\0<=(i:Int)/\_/\(y+1==yu yt ((↑(n+1):Int)+1-1))=J/\_/\_/\Y (y+1>0)=J/\yo/\Q (db J)/\di (yu yt ((k:Int)+1))=di (↑(k+1):Int)/\Q J/\Q (TS a out).H/\Q (TS a out).own/\_) ⟨by omega,hri,hlt,by omega,hri,by omega,hkr,hai.1,hyi,by omega,hfi,heq c1,hai.1,hyi,yr,by trivial,rfl,by rw[Ac],rfl,rfl,rfl,iK (h1 he)⟩
   |true=>
    by_cases c2:a.1<b.1
    ·rw[I4 (by simp[c2])] at he
     exact lv 160 [3] (.x (Ai row)<|.t<|.x (Ai row)<|.x (cg a)<|.x (vi (y+1))<|.x (vi (((n+1:Nat):Int)+1))<|.t<|.x (vi (y+1))<|.t<|.k<|.t<|.k<|.lo (Aw6 k) (TS a out)) (0<=(i:Int)/\_/\_/\0<=(i:Int)/\_/\0<=(k:Int)/\_/\_/\_/\0<=(i:Int)/\_/\(y+1==yu yt ((↑(n+1):Int)+1-1))=J/\_/\_/\Y (y+1>0)=J/\Y (a.fst<b.fst)=J/\(yi (True))/\Q (db J)/\di (yu yt ((k:Int)+1))=di (↑(k+1):Int)/\Q J/\Q (TS a out).H/\Q (TS a out).own/\_) ⟨by omega,hri,hlt,by omega,hri,by omega,hkr,hai.1,hyi,by omega,hfi,heq c1,hai.1,hyi,yr,HM c2,by trivial,rfl,by rw[Ac],rfl,rfl,rfl,iK (h1 he)⟩
    ·by_cases c3:(a.1==b.1)=J
     ·by_cases c4:a.2<b.2
      ·rw[I4 (by simp[c3,c4])] at he
       exact lv 160 [3] (.x (Ai row)<|.t<|.x (Ai row)<|.x (cg a)<|.x (vi (y+1))<|.x (vi (((n+1:Nat):Int)+1))<|.t<|.x (vi (y+1))<|.t<|.k<|.f<|.t<|.t<|.lo (Aw6 k) (TS a out)) (0<=(i:Int)/\_/\_/\0<=(i:Int)/\_/\0<=(k:Int)/\_/\_/\_/\0<=(i:Int)/\_/\(y+1==yu yt ((↑(n+1):Int)+1-1))=J/\_/\_/\Y (y+1>0)=J/\Y (a.fst<b.fst)=O/\_/\(True/\True/\True/\True/\True/\True/\True/\True/\True)/\Y (a.snd<b.snd)=J/\Q (db J)/\di (yu yt ((k:Int)+1))=di (↑(k+1):Int)/\Q J/\Q (TS a out).H/\Q (TS a out).own/\_) ⟨by omega,hri,hlt,by omega,hri,by omega,hkr,hai.1,hyi,by omega,hfi,heq c1,hai.1,hyi,yr,HO c2,c3,by trivial,HM c4,rfl,by rw[Ac],rfl,rfl,rfl,iK (h1 he)⟩
      ·rw[Iz (by simp[c2,c4])] at he
       exact lv 160 [3] (.x (Ai row)<|.t<|.x (Ai row)<|.x (cg a)<|.x (vi (y+1))<|.x (vi (((n+1:Nat):Int)+1))<|.t<|.x (vi (y+1))<|.t<|.k<|.f<|.t<|.f<|.lo (Axn k) (TS b out)) (0<=(i:Int)/\_/\_/\0<=(i:Int)/\_/\0<=(k:Int)/\_/\_/\_/\0<=(i:Int)/\_/\(y+1==yu yt ((↑(n+1):Int)+1-1))=J/\_/\_/\Y (y+1>0)=J/\Y (a.fst<b.fst)=O/\_/\(True/\True/\True/\True/\True/\True/\True/\True/\True)/\Y (a.snd<b.snd)=O/\di (yu yt ((k:Int)+1))=di (↑(k+1):Int)/\Q J/\Q (TS b out).H/\Q (TS b out).own/\_) ⟨by omega,hri,hlt,by omega,hri,by omega,hkr,hai.1,hyi,by omega,hfi,heq c1,hai.1,hyi,yr,HO c2,c3,by trivial,HO c4,by rw[Ac],rfl,rfl,rfl,iK (h0 he)⟩
     ·rw[Iz (by simp only[Bool.not_eq_true] at c3;simp[c2,c3])] at he
      exact lv 160 [3] (.x (Ai row)<|.t<|.x (Ai row)<|.x (cg a)<|.x (vi (y+1))<|.x (vi (((n+1:Nat):Int)+1))<|.t<|.x (vi (y+1))<|.t<|.k<|.f<|.f<|.k<|.lo (Axn k) (TS b out)) (0<=(i:Int)/\_/\_/\0<=(i:Int)/\_/\0<=(k:Int)/\_/\_/\_/\0<=(i:Int)/\_/\(y+1==yu yt ((↑(n+1):Int)+1-1))=J/\_/\_/\Y (y+1>0)=J/\Y (a.fst<b.fst)=O/\(a.fst==b.fst)=O/\(True/\True/\True/\True/\True/\True/\True)/\di (yu yt ((k:Int)+1))=di (↑(k+1):Int)/\Q J/\Q (TS b out).H/\Q (TS b out).own/\_) ⟨by omega,hri,hlt,by omega,hri,by omega,hkr,hai.1,hyi,by omega,hfi,heq c1,hai.1,hyi,yr,HO c2,HW c3,by trivial,by rw[Ac],rfl,rfl,rfl,iK (h0 he)⟩
  ·rw[show(y==(n:Int))=O from IM.2 c1,IE,Iz (by simp)] at he
   exact lv 160 [3] (.x (Ai row)<|.t<|.x (Ai row)<|.x (cg a)<|.x (vi (y+1))<|.x (vi (((n+1:Nat):Int)+1))<|.f<|.k<|.k<|.lo (Axn k) (TS b out)) (0<=(i:Int)/\_/\_/\0<=(i:Int)/\_/\0<=(k:Int)/\_/\_/\_/\0<=(i:Int)/\_/\(y+1==yu yt ((↑(n+1):Int)+1-1))=O/\yp/\di (yu yt ((k:Int)+1))=di (↑(k+1):Int)/\Q J/\Q (TS b out).H/\Q (TS b out).own/\_) ⟨by omega,hri,hlt,by omega,hri,by omega,hkr,hai.1,hyi,by omega,hfi,hne c1,by trivial,by rw[Ac],rfl,rfl,rfl,iK (h0 he)⟩
theorem ApE{e:List D}{L:List Int}{q t n:Nat}{σ:St}(hq:σ.H[q]?=some (some (cb L)))(hn:I L=n)(he:e[t]?=some (.arr q 0 n)):Cv e σ (e.set t (cw L)) ⟨σ.H.set q none,σ.own⟩:=by
 have hx:cb L=(L.map vi).map bt:=by simp[cb]
 grind[Ait]
theorem Q2(G:Gph)(x y:Int):okNs G [x,y]=(okNs G [x]&&okNs G [y]):=by
 grind[okNs]
theorem Abi(G:Gph)(h:BT G)(hg:GR G)(t:Nat)(ht:t<I G.cs)(n:Nat):∀(i:Nat) (out:List Aw),i<I G.cs->dst G.ar t i=n->I out+n<=1000->
  Rn PP Cr 0 (.tup [.v (Ai (out++Hj G.ar t n i)),db J]) bd ([zu Cr 2040,.blk 6,zt Cr 511]++[]) (cz 160 [(1,di i),(2,di t),(3,.v (.ref (vG G))),(8,cw (BC (B8 G.ar t))),(12,.acc 1 (out.map cg))]) ⟨[],[(1,2,out.map cg)]⟩:=by
 have hln:=hg.len
 induction n with
 |zero=>
  intro i out hi hd ho
  have e:=QJ.1 hd
  subst e
  rw[Hj,IX]
  exact zo [3] (.f .r) (((i:Int) !=(i:Int))=O/\Q (bl [bt (Ai out),db J])) ⟨by simp,rfl⟩
 |succ n ih=>
  intro i out hi hd ho
  obtain⟨row,hr,h1,h2⟩:=AcJ hd
  have hin:=hg.ok row (HQ hr) _ h1
  have hih:=ih (Tz G.ar t n row).2.toNat (out++[Tz G.ar t n row]) (by omega) h2 (by simp;omega)
  rw[Hj,show G.ar.getD i []=row by simp[hr]]
  have hne:i≠t:=fun e=>by rw[e,Lp] at hd;omega
  rw[Jx,List.singleton_append,Int.toNat_of_nonneg hin.1] at hih
  have hb:=Abj G hg h.row t i n (by omega) hi hd row hr out (by omega) _ (Tz G.ar t n row) hih _ 0 (0,0) false rfl (by rw[JG,Tz])
  generalize Tz G.ar t n row=a at*
  exact zo [3] (.t<|.lo [ke 1,ke 2,ke 3,ke 8,ke 12,ke 13,ch 14 (db O),ch 15 (di (0:Nat))] (TS (0,0) out)) (((i:Int) !=(t:Int))=J/\Q (db O)/\Q (di 0)/\Q J/\Q [some [di 0,di 0]]/\Q [(1,2,U cg out)]/\_) ⟨bne_iff_ne.2 (by omega),rfl,rfl,rfl,rfl,rfl,iK hb⟩
theorem AnC(G:Gph)(h:BT G)(hg:GR G)(i t:Nat)(hi:i<I G.cs)(ht:t<I G.cs)(hok:okNs G [(i:Int),(t:Int)]=J)(N:Nat):∀d:Nat,I G.cs-d=N->d<=I G.cs->
  Rn PP Cr 0 (.tup [.v (Ai (Hi G i t).1),db (Hi G i t).2]) bd ([zu Cr 500,.blk 0,zt Cr 63]++[]) (cz 160 [(1,di i),(2,di t),(3,.v (.ref (vG G))),(8,.arr 0 0 (I G.cs)),(9,zw d)]) (Ez (dp G.ar t d 0)):=by
 have hle:=hg.le
 have hln:=hg.len
 induction N with
 |zero=>
  intro d hN hd
  obtain rfl:d=I G.cs:=by omega
  have e:dp G.ar t (I G.cs) 0=B8 G.ar t:=AdR fun j hj=>by have:=SN hg.ok (t:=t) hj;omega
  rw[e]
  have hat:=Lq (A:=G.ar) (t:=t) (j:=i) (by omega)
  have hge:=Pm G.ar t i
  rw[Hi,hok,IG,Jy,Jy]
  by_cases h0:0<=dst G.ar t i
  ·rw[HM h0,I4 rfl]
   have hlp:=Abi G h hg t ht (dst G.ar t i).toNat i [] (by omega) (by omega) (by have:=SN hg.ok (t:=t) (i:=i) (by omega);simp;omega)
   rw[List.nil_append] at hlp
   generalize Hj G.ar t (dst G.ar t i).toNat i=w at*
   generalize dst G.ar t i=z at*
   refine zo [3] (.f<|.m (di (z+1))<|.f<|.h (.ct 8 (cw (BC (B8 G.ar t))) ⟨[none],[]⟩)<|.lo [ke 1,ke 2,ke 3,ke 8,ch 12 (.v .nils)] ⟨[],[]⟩) (y9 ↑(I G.cs+1) (I G.cs)/\y6 i/\y5 i (I G.cs)/\(cb (BC (B8 G.ar t)))[0+Z (i:Int)*1]?=some (di (z+1))/\(z+1==0)=O/\(∀(e:List D),e[8]?=some (bo 0 0 (I G.cs))->∀(E:c9) (g:Gh) (a:Act) (w:x5),FI E g (Ez (B8 G.ar t)) e a w->∃g',FI E g' (bi [none] []) (List.set e 8 (cw (BC (B8 G.ar t)))) a w)/\Q (dn)/\cp 0 [] []=J/\I0 Cr 0 (bl [bt (Ai (w,true).fst),db (w,true).snd]) bd [zu Cr 2040,bh 6,zt Cr 511] (cz 160 [(1,di (i:Int)),(2,di (t:Int)),(3,bt (bz (vG G))),(8,cw (BC (B8 G.ar t))),(12,dn)]) d7) ?_
   exact⟨yq,by omega,by omega,Sq hat,IM.2 (by omega),fun e he=>ApE rfl (by rw[HJ,QP,hln]) he,rfl,rfl,⟨LW (ApC (t:=12) (k:=1) (sz:=2) rfl (by simp) (by omega)) hlp⟩⟩
  ·rw[HO h0,Iz (by simp)]
   generalize dst G.ar t i=z at*
   obtain⟨q,hq⟩:∃q:List Aw×Bool,q=([],false):=⟨_,rfl⟩
   rw[←hq]
   exact zo [3] (.f<|.m (di (z+1))<|.t<|.r) (y9 ↑(I G.cs+1) (I G.cs)/\y6 i/\y5 i (I G.cs)/\(cb (BC (B8 G.ar t)))[0+Z (i:Int)*1]?=some (di (z+1))/\(z+1==0)=J/\bl t6=bl [bt (Ai q.fst),db q.snd]) ⟨yq,by omega,by omega,Sq hat,IJ.2 (by omega),by rw[hq];rfl⟩
 |succ N ih=>
  intro d hN hd
  have hih:=ih (d+1) (by omega) (by omega)
  have hr:=AnD G h hg i t t d hd _ hih _ 0 rfl (by omega)
  exact zo [3] (.t<|.lo [ke 1,ke 2,ke 3,ke 8,ke 9,ch 10 (di (0:Nat))] (Ez (dp G.ar t d 0))) (ya ↑(d+1) (I G.cs)/\Q (di 0)/\cp 1 [] [some (cb (BC (dp G.ar t (d:Int) 0)))]=J/\Q (Ez (dp G.ar t d 0)).H/\_) ⟨yr,rfl,ma _ _ _,rfl,iK hr⟩
theorem Abg(G:Gph)(h:BT G)(x y:Int):F0 27 [dG G,di x,di y] (.tup [.v (Ai (Hi G x y).1),db (Hi G x y).2]):=by
 have h1:=MY G h x
 have h2:=MY G h y
 cases b1:okNs G [x] with
 |false=>
  rw[Hi,Q2,b1,IE,IE,Iz (by simp)]
  rw[b1] at h1
  obtain⟨q,hq⟩:∃q:List Aw×Bool,q=([],false):=⟨_,rfl⟩
  rw[←hq]
  exact sv Cr 160 [3] (.c (db O)<|.k<|.r) (_/\bl t6=bl [bt (Ai q.fst),db q.snd]) ⟨h1,by rw[hq];rfl⟩
 |true=>
  rw[b1] at h1
  cases b2:okNs G [y] with
  |false=>
   rw[Hi,Q2,b1,b2,IG,IE,Iz (by simp)]
   rw[b2] at h2
   obtain⟨q,hq⟩:∃q:List Aw×Bool,q=([],false):=⟨_,rfl⟩
   rw[←hq]
   exact sv Cr 160 [3] (.c (db J)<|.k<|.c (db O)<|.k<|.r) (_/\_/\bl t6=bl [bt (Ai q.fst),db q.snd]) ⟨h1,h2,by rw[hq];rfl⟩
  |true=>
   rw[b2] at h2
   have hb:okNs G [x,y]=J:=by rw[Q2,b1,b2];rfl
   obtain⟨hg,hx,hy⟩:=Als hb
   have hg:=GM hg
   have hln:=hg.len
   have hle:=hg.le
   obtain⟨i,rfl⟩:∃i:Nat,x=i:=⟨x.toNat,by omega⟩
   obtain⟨t,rfl⟩:∃i:Nat,y=i:=⟨y.toNat,by omega⟩
   have hlp:=AnC G h hg i t (by omega) (by omega) hb _ 0 rfl (by omega)
   rw[show((0:Nat):Int)=0 from rfl, ←SP] at hlp
   generalize Hi G i t=w at*
   refine sv Cr 160 [3] (.c (db J)<|.k<|.c (db J)<|.k<|.h (.q 4 0)<|.w<|.lo [ke 1,ke 2,ke 3,ch 8 (.arr 0 0 (I G.cs)),ch 9 (zw 0)] (Ez ((replicate (I G.ar) (-1)).set t 0))) (type_of% h1/\type_of% h2/\Q (I (U eV G.cs):Int)/\y6 (I (U eV G.cs))/\(8:Int)*(I (U eV G.cs):Int)<=281474976710656/\(I (U eV G.cs):Int)<=9223372036854775807/\y6 t/\y5 t ↑(Z (I (U eV G.cs):Int))/\0+Z (t:Int)*1<I (replicate (Z (I (U eV G.cs):Int)) (bt (a8 yt 0)))/\bo 0 0 (Z (I (U eV G.cs):Int))=bo 0 0 (I G.cs)/\di 1=zw 0/\cp 1 [] [some (List.set (replicate (Z (I (U eV G.cs):Int)) (di 0)) (0+Z (t:Int)*1) (di 1))]=J/\[some (List.set (replicate (Z (I (U eV G.cs):Int)) (di 0)) (0+Z (t:Int)*1) (di 1))]=[some (cb (BC (List.set (replicate (I G.ar) (-1)) t 0)))]/\It (type_of% hlp)) ?_
   rw[show(G.cs.map eV).length=I G.ar by rw[HJ,hln],Jy,Jy,show List.set (replicate (I G.ar) (di 0)) (0+t*1) (di 1)=cb (BC ((replicate (I G.ar) (-1)).set t 0)) by simp[cb,map_set]]
   exact⟨h1,h2,rfl,by omega,by omega,by omega,by omega,by omega,by rw[List.length_replicate];omega,by rw[hln],rfl,ma _ _ _,rfl,⟨hlp⟩⟩
def GT(L:Int)(v:b9):Prop:=∃ks:List Int,I ks<=2/\(∀x∈ks,0<=x/\x<L)/\v=.mk 0 (ks.map fun x=>.mk x [])
theorem GT.size{L:Int}{v:b9}(h:GT L v):v.size<=3:=by
 obtain⟨ks,h1,_,rfl⟩:=h
 grind[b9.size,KG]
theorem AdS{H:List (Option (List D))}{own:List (Nat×Nat×List V)}{q tag:Nat}{xs:List V}(hq:H[q]?=G (G [di 0,.acc tag xs]))(e:List D):Cv e ⟨H,own⟩ e ⟨H.set q (G [di 0,dl xs]),own⟩:=
 F4 (σ:=⟨H,own⟩) (q:=q) hq (fun g us hr=>by
  have:=Dz (ts:=[]) (kn:=false) hr
  exact this) (fun _ x hx=>by
  simp only[IN,JE,or_false] at hx
  rcases hx with rfl|rfl<;>rfl) e
theorem Air{H:List (Option (List D))}{own:List (Nat×Nat×List V)}{q:Nat}(hq:H[q]?=G (G [di 0,.v .nils]))(e:List D):Cv e ⟨H,own⟩ e ⟨H.set q (G [di 0,dl []]),own⟩:=
 F4 (σ:=⟨H,own⟩) (q:=q) hq (fun g us hr=>by
  have:=Dz (ts:=[]) (kn:=false) hr
  exact this) (fun _ x hx=>by
  simp only[IN,JE,or_false] at hx
  rcases hx with rfl|rfl<;>rfl) e
theorem LL(os:List b9)(v:b9):os.map eV++[Ad v]=(os++[v]).map eV:=by grind[AE]
noncomputable def pf:=yl tw
abbrev mb(l:List UInt8)(a:Nat)(os:List b9):St:=⟨[G (cn l a)],[(1,2,os.map eV)]⟩
noncomputable abbrev jx:=(a8 yt 0)
noncomputable abbrev rm:=(0,bq 0 0)
noncomputable abbrev xr:=fun a₀=>[aa [a8 yt a₀,ae []]]
noncomputable abbrev Awa:=fun (a₀:Nat) b₀ c₀ d₀ (e₀:Nat)=>(cz 40 [rm,(1,di (a₀:Int)),(2,di b₀),(3,di 2),(9,br 1 (U eV (c₀++[d₀]))),(10,zw e₀)])
noncomputable abbrev Awe:=fun a₀ b₀ c₀ d₀ e₀=>Aa PP 7 [bq 0 0,di a₀] (dz b₀ c₀) (di d₀) (dz b₀ e₀)
theorem Afs(l:List UInt8)(hl:I l<=200)(n:Nat)(hn:n<=100)(L:Int)(hL:1<=L)(hL2:L<=100)(N:Nat):∀(k a:Nat) (os:List b9),n-k=N->k<=n->a<=I l->I os=k->(∀y∈os,GT L y)->
  ∃(ys:List b9) (a':Nat),a'<=I l/\ys.length=n/\(∀y∈ys,GT L y)/\
  Rn PP tw 1 (co ys) (dz l a') ([zu tw 116,.blk 0,zt tw 15]++[]) (cz 40 [(0,.ptr 0 0),(1,di n),(2,di L),(3,di 2),(9,.acc 1 (os.map eV)),(10,di k)]) (mb l a os):=by
 induction N with
 |zero=>
  intro k a os hk hk0 ha hx hos
  refine⟨os,a,ha,by omega,hos,?_⟩
  exact zp (.f .r) (yd k n/\Q (gp l a)/\Q (co os)) ⟨yq,rfl,rfl⟩
 |succ N ih=>
  intro k a os hk hk0 ha hx hos
  obtain⟨r,a1,h1,h2,h3,h4⟩:=A6 l hl a ha 3 (by decide) (by decide)
  have hmem:∀(w:b9),GT L w->∀y∈os++[w],GT L y:=fun w hw y hy=>by
   rcases IV.1 hy with hy|hy
   ·exact hos y hy
   ·rw[Ia.1 hy];exact hw
  have hkn:Y ((k:Int)<n)=J:=yr
  rcases(show r=0∨r=1∨r=2 by omega) with rfl|rfl|rfl
  ·obtain⟨w,hw⟩:∃w:b9,w=.mk 0 []:=⟨_,rfl⟩
   obtain⟨ys,a',y1,y2,y3,y4⟩:=ih (k+1) a1 (os++[w]) (by omega) (by omega) h3 (by simp[hx]) (hmem _ ⟨[],by simp,by simp,hw⟩)
   refine⟨ys,a',y1,y2,y3,?_⟩
   refine zp (.t<|.c1 (cn l a1) (di 0)<|.n<|.h (.q 10 1)<|.h (.cs ⟨[G (cn l a1),G [di 0,dl []]],[(1,2,os.map eV)]⟩)<|.ls [ke 0,ke 1,ke 2,ke 3,ch 9 (.acc 1 ((os++[w]).map eV)),ch 10 (zw k)] (mb l a1 (os++[w]))) (ye k n/\Aa PP 7 [bq 0 0,di (yu yt (2+1))] (dz l a) (di 0) (dz l a1)/\(∀(e:List D) (E:c9) (g:Gh) (a:Act) (w:x5),FI E g (bi [G (cn l a1),G [bt jx,dn]] [(1,2,U eV os)]) e a w->∃g',FI E g' (bi [G (cn l a1),G [di 0,dl []]] [(1,2,U eV os)]) e a w)/\Q (U eV os)/\Ao (I (U eV os)+I (aa (a8 yt 0::ae nV::nV)::nV)) 32/\br 1 (U eV os++[aa [vi 0,ae []]])=br 1 (U eV (os++[w]))/\zx k/\Q (gp l a1)/\[(1,2,U eV os++aa (vi 0::ae nV::nV)::nV)]=[(1,2,U eV (os++[w]))]/\It (type_of% y4)) ?_
   have hv:aa [vi 0,.list []]=Ad w:=by rw[hw];rfl
   rw[show yt.wrap (2+1)=3 from by decide]
   repeat' first|with_reducible refine And.intro ?_ ?_
   all_goals first|exact hkn|exact h4|exact Ac|exact⟨y4⟩|(simp only[HJ,HP,HT];omega)|rfl|trivial|skip
   ·exact fun e=>Air (H:=[G (cn l a1),G [di 0,.v .nils]]) (own:=[(1,2,os.map eV)]) (q:=1) rfl e
   ·exact I6 (br 1) ((I6 (fun z=>os.map eV++[z]) hv).trans (LL os w))
   ·exact I6 (fun z=>[(1,2,z)]) ((I6 (fun z=>os.map eV++[z]) hv).trans (LL os w))
  ·obtain⟨x1,a2,x11,x12,x13,x14⟩:=A6 l hl a1 h3 L hL (by omega)
   obtain⟨w,hw⟩:∃w:b9,w=.mk 0 [.mk x1 []]:=⟨_,rfl⟩
   obtain⟨ys,a',y1,y2,y3,y4⟩:=ih (k+1) a2 (os++[w]) (by omega) (by omega) x13 (by simp[hx]) (hmem _ ⟨[x1],by simp,by simp[x11,x12],hw⟩)
   refine⟨ys,a',y1,y2,y3,?_⟩
   refine zp (.t<|.c1 (cn l a1) (di 1)<|.h (.q 6 4)<|.h (.cl 1 1 2 2)<|.n<|.m (.acc 2 [])<|.c1 (cn l a2) (di x1)<|.n<|.h (.q 10 1)<|.h (.cs ⟨[G (cn l a2),G [di 0,dl [eV (.mk x1 [])]]],[(2,2,[eV (.mk x1 [])]),(1,2,os.map eV)]⟩)<|.ls [ke 0,ke 1,ke 2,ke 3,ch 9 (.acc 1 ((os++[w]).map eV)),ch 10 (zw k)] (mb l a2 (os++[w]))) (ye k n/\Aa PP 7 [bq 0 0,di (yu yt (2+1))] (dz l a) (di 1) (dz l a1)/\Q (G (br 2 []))/\Awe L l a1 x1 a2/\Q nV/\Ao 1 32/\((Q (G [br 2 []])/\True)/\True)/\(∀(e:List D) (E:c9) (g:Gh) (a:Act) (w:x5),FI E g (bi [G (cn l a2),G [bt jx,br 2 ([]++(xr x1))]] [(2,2,[]++(xr x1)),(1,2,U eV os)]) e a w->∃g',FI E g' (bi [G (cn l a2),G [di 0,dl [eV (fh x1)]]] [(2,2,[eV (fh x1)]),(1,2,U eV os)]) e a w)/\Q (U eV os)/\Ao (I (U eV os)+I (aa (a8 yt 0::ae (eV (fh x1)::nV)::nV)::nV)) 32/\br 1 (U eV os++[aa [vi 0,ae [eV (fh x1)]]])=br 1 (U eV (os++[w]))/\zx k/\Q (gp l a2)/\[(1,2,U eV os++aa (vi 0::ae (eV (fh x1)::nV)::nV)::nV)]=[(1,2,U eV (os++[w]))]/\It (type_of% y4)) ?_
   have hv:aa [vi 0,.list [eV (.mk x1 [])]]=Ad w:=by rw[hw];rfl
   rw[show yt.wrap (2+1)=3 from by decide]
   repeat' first|with_reducible refine And.intro ?_ ?_
   all_goals first|exact hkn|exact h4|exact x14|exact OW (by decide) (by decide)|exact⟨by decide,by decide⟩|exact Ac|exact⟨y4⟩|(simp only[HJ,HP,HT];omega)|rfl|trivial|skip
   ·exact fun e=>AdS (H:=[G (cn l a2),G [di 0,.acc 2 [eV (.mk x1 [])]]]) (own:=[(2,2,[eV (.mk x1 [])]),(1,2,os.map eV)]) (q:=1) rfl e
   ·exact I6 (br 1) ((I6 (fun z=>os.map eV++[z]) hv).trans (LL os w))
   ·exact I6 (fun z=>[(1,2,z)]) ((I6 (fun z=>os.map eV++[z]) hv).trans (LL os w))
  ·obtain⟨x1,a2,x11,x12,x13,x14⟩:=A6 l hl a1 h3 L hL (by omega)
   obtain⟨x2,a3,x21,x22,x23,x24⟩:=A6 l hl a2 x13 L hL (by omega)
   obtain⟨w,hw⟩:∃w:b9,w=.mk 0 [.mk x1 [],.mk x2 []]:=⟨_,rfl⟩
   obtain⟨ys,a',y1,y2,y3,y4⟩:=ih (k+1) a3 (os++[w]) (by omega) (by omega) x23 (by simp[hx]) (hmem _ ⟨[x1,x2],by simp,by simp[x11,x12,x21,x22],hw⟩)
   refine⟨ys,a',y1,y2,y3,?_⟩
   refine zp (.t<|.c1 (cn l a1) (di 2)<|.h (.q 6 4)<|.h (.cl 1 1 2 2)<|.n<|.m (.acc 2 [])<|.c1 (cn l a2) (di x1)<|.n<|.m (.acc 2 [eV (.mk x1 [])])<|.c1 (cn l a3) (di x2)<|.n<|.h (.q 10 1)<|.h (.cs ⟨[G (cn l a3),G [di 0,dl [eV (.mk x1 []),eV (.mk x2 [])]]],[(2,2,[eV (.mk x1 []),eV (.mk x2 [])]),(1,2,os.map eV)]⟩)<|.ls [ke 0,ke 1,ke 2,ke 3,ch 9 (.acc 1 ((os++[w]).map eV)),ch 10 (zw k)] (mb l a3 (os++[w]))) (ye k n/\Aa PP 7 [bq 0 0,di (yu yt (2+1))] (dz l a) (di 2) (dz l a1)/\Q (G (br 2 []))/\Awe L l a1 x1 a2/\Q nV/\Ao 1 32/\((Q (G [br 2 []])/\True)/\True)/\Q (G (br 2 [eV (fh x1)]))/\Awe L l a2 x2 a3/\Q (eV (fh x1)::nV)/\Ao 2 32/\((Q (G [br 2 [aa [vi x1,ae []]]])/\True)/\True)/\(∀(e:List D) (E:c9) (g:Gh) (a:Act) (w:x5),FI E g (bi [G (cn l a3),G [bt jx,br 2 ([eV (fh x1)]++(xr x2))]] [(2,2,[eV (fh x1)]++(xr x2)),(1,2,U eV os)]) e a w->∃g',FI E g' (bi [G (cn l a3),G [di 0,dl [eV (fh x1),eV (fh x2)]]] [(2,2,[eV (fh x1),eV (fh x2)]),(1,2,U eV os)]) e a w)/\Q (U eV os)/\Ao (I (U eV os)+I (aa (a8 yt 0::ae (eV (fh x1)::eV (fh x2)::nV)::nV)::nV)) 32/\br 1 (U eV os++[aa [vi 0,ae [eV (fh x1),eV (fh x2)]]])=br 1 (U eV (os++[w]))/\zx k/\Q (gp l a3)/\[(1,2,U eV os++aa (vi 0::ae (eV (fh x1)::eV (fh x2)::nV)::nV)::nV)]=[(1,2,U eV (os++[w]))]/\It (type_of% y4)) ?_
   have hv:aa [vi 0,.list [eV (.mk x1 []),eV (.mk x2 [])]]=Ad w:=by rw[hw];rfl
   rw[show yt.wrap (2+1)=3 from by decide]
   repeat' first|with_reducible refine And.intro ?_ ?_
   all_goals first|exact hkn|exact h4|exact x14|exact x24|exact OW (by decide) (by decide)|exact⟨by decide,by decide⟩|exact Ac|exact⟨y4⟩|(simp only[HJ,HP,HT];omega)|rfl|trivial|skip
   ·exact fun e=>AdS (H:=[G (cn l a3),G [di 0,.acc 2 [eV (.mk x1 []),eV (.mk x2 [])]]]) (own:=[(2,2,[eV (.mk x1 []),eV (.mk x2 [])]),(1,2,os.map eV)]) (q:=1) rfl e
   ·exact I6 (br 1) ((I6 (fun z=>os.map eV++[z]) hv).trans (LL os w))
   ·exact I6 (fun z=>[(1,2,z)]) ((I6 (fun z=>os.map eV++[z]) hv).trans (LL os w))
theorem Anf(l:List UInt8)(hl:I l<=200)(a:Nat)(ha:a<=I l)(n:Nat)(hn:n<=100)(L:Int)(hL:1<=L)(hL2:L<=100):
  ∃(ys:List b9) (a':Nat),a'<=I l/\ys.length=n/\(∀y∈ys,GT L y)/\Aa PP 68 [.ptr 0 0,di n,di L,di 2] (dz l a) (co ys) (dz l a'):=by
 obtain⟨ys,a',h1,h2,h3,h4⟩:=Afs l hl n hn L hL hL2 _ 0 a [] rfl (by omega) ha rfl (by simp)
 refine⟨ys,a',h1,h2,h3,?_⟩
 exact zq tw 40 (.h (.q 2 0)<|.h (.nw 9 1 2)<|.ls [ke 0,ke 1,ke 2,ke 3,ke 9,ch 10 (di (0:Nat))] (mb l a [])) (Q (di 0)/\Q (mb l a []).H/\Q [(1,2,nV)]/\_) ⟨rfl,rfl,rfl,iK h4⟩
abbrev tf:List (List UInt8):=[[114],[115],[116],[117]]
def jw(nm:List UInt8)(f t ch ac le:Int):cm:=⟨nm,f,t,[],[],[],ch,ac,le,[],[],[],[],0⟩
abbrev lM(K:Int)(S Pl Le:List (List UInt8))(rk:List Int)(rs:List cm):List D:=[di K,.v (cc S),.v (cc Pl),.v (cc Le),.v (cy rk),di 0,di 0,.acc 2 (rs.map Aj),di 0,dl []]
abbrev jc(l:List UInt8)(a:Nat)(K:Int)(S Pl Le:List (List UInt8))(rk:List Int)(rs:List cm):St:=⟨[G (cn l a),G zM,G (lM K S Pl Le rk rs)],[(2,14,rs.map Aj)]⟩
structure PL(ns np nl:Nat)(k:Nat)(r:cm):Prop where
 name:tf[k]?=G r.name
 ai:0<=r.ai/\r.ai<ns
 to:0<=r.to/\r.to<ns
 act:r.act=0/\r.chan=0/\r.letter=0∨(1<=r.act/\r.act<=2)/\(0<=r.chan/\r.chan<np)/\(0<=r.letter/\r.letter<nl)
 rest:r=jw r.name r.ai r.to r.chan r.act r.letter
structure G8(K:Int)(m:cx):Prop where
 kind:m.kind=K
 aw:∃n:Nat,1<=n/\n<=3/\m.aw=([[97],[98],[99]]:List (List UInt8)).take n
 ay:m.ay=[[120]]∨m.ay=[[120],[121]]
 ax:m.ax=[[112]]∨m.ax=[[112],[113]]
 au:if K=3 then I m.au=I m.ax/\∀x∈m.au,0<=x/\x<=1 else m.au=[]
 am:m.am=0
 age:m.age=0
 count:I m.av<=4
 pos:1<=I m.av
 av:∀k r,m.av[k]?=G r->PL (I m.aw) (I m.ay) (I m.ax) k r
 start:∃ys:List b9,I ys=I m.ay/\(∀y∈ys,GT (I m.ax) y)/\m.start=.mk 0 (.mk 0 []::ys)
theorem AjA{ns np nl:Nat}{rs:List cm}{k:Nat}{nm:List UInt8}{f t chn ac le:Int}(hnm:tf[k]?=G nm)(hf:0<=f/\f<ns)(ht:0<=t/\t<ns)(ha:ac=0/\chn=0/\le=0∨(1<=ac/\ac<=2)/\(0<=chn/\chn<np)/\(0<=le/\le<nl))(hrs:I rs=k)(hR:∀i r,rs[i]?=G r->PL ns np nl i r):∀i r,(rs++[jw nm f t chn ac le])[i]?=G r->PL ns np nl i r:=fun i r hi=>by
 by_cases hik:i<I rs
 ·grind
 ·rw[I2 (by omega)] at hi
  have h1:i-I rs=0:=by
   grind
  rw[h1] at hi
  simp at hi;subst hi
  have hik2:i=k:=by omega
  subst hik2
  exact⟨hnm,hf,ht,ha,rfl⟩
noncomputable def pg:=yl pp
noncomputable abbrev Au2:=fun a₀ b₀ c₀ d₀ e₀=>Aa PP 7 [bq 0 0,di (I (df a₀):Int)] (dz b₀ c₀) (di d₀) (dz b₀ e₀)
noncomputable abbrev rr:=(5,bq 2 0)
noncomputable abbrev Aws:=(bf #[114])
noncomputable abbrev Axi:=[kl pg fd,bh 0,zt pp 31]
theorem Xj(l:List UInt8)(hl:I l<=200)(K:Int)(S Pl Le:List (List UInt8))(rk:List Int)(hS:∃n:Nat,1<=n/\n<=3/\S=([[97],[98],[99]]:List (List UInt8)).take n)(hP:Pl=[[120]]∨Pl=[[120],[121]])(hLe:Le=[[112]]∨Le=[[112],[113]])(hrk:if K=3 then I rk=I Le/\∀x∈rk,0<=x/\x<=1 else rk=[])(n:Nat):∀(k a:Nat) (rs:List cm),4-k=n->a<=I l->k<=4->I rs=k->(∀i r,rs[i]?=G r->PL (I S) (I Pl) (I Le) i r)->
  ∃(m:cx) (a':Nat),G8 K m/\a'<=I l/\Rn PP pp 1 (Af m) (dz l a') ([zu pp 244,.blk 0,zt pp 31]++[]) (cz 92 [(0,.ptr 0 0),(4,.ptr 1 0),(5,.ptr 2 0),(6,di k)]) (jc l a K S Pl Le rk rs):=by
 induction n using Nat.strongRecOn with
 |_ n ih=>
 intro k a rs hn ha hk4 hrs hR
 have hSl:1<=I S/\S.length<=3:=by grind
 have hPl:1<=I Pl/\Pl.length<=2:=by grind
 have hLl:1<=I Le/\Le.length<=2:=by grind
 have hSm:(I (S.map ab):Int)=(I S:Int):=by grind
 have hPm:(I (Pl.map ab):Int)=(I Pl:Int):=by grind
 have hLm:(I (Le.map ab):Int)=(I Le:Int):=by grind
 obtain⟨r,a1,h1,h2,h3,h4⟩:=A6 l hl a ha 4 (by decide) (by decide)
 by_cases hk:(k:Int)<1+r
 ·obtain⟨f,a2,f1,f2,f3,f4⟩:=A6 l hl a1 h3 (I S) (by omega) (by omega)
  obtain⟨t,a3,t1,t2,t3,t4⟩:=A6 l hl a2 f3 (I S) (by omega) (by omega)
  obtain⟨ac,a4,c1,c2,c3,c4⟩:=A6 l hl a3 t3 3 (by decide) (by decide)
  obtain⟨nm,hnm⟩:∃nm,tf[k]?=G nm:=⟨_,HK (show k<I tf by grind)⟩
  have hkr:Y ((k:Int)<yu yt (1+r))=J:=by grind[An]
  by_cases hw:(ac !=0)=J
  ·obtain⟨chn,a5,d1,d2,d3,d4⟩:=A6 l hl a4 c3 (I Pl) (by omega) (by omega)
   obtain⟨le,a6,e1,e2,e3,e4⟩:=A6 l hl a5 d3 (I Le) (by omega) (by omega)
   have hac:ac≠0:=by grind
   obtain⟨m,a',m1,m2,m3⟩:=ih (4- (k+1)) (by omega) (k+1) a6 (rs++[jw nm f t chn ac le]) rfl e3 (by omega) (by simp[hrs]) (AjA hnm ⟨f1,f2⟩ ⟨t1,t2⟩ (.inr ⟨by omega,⟨d1,d2⟩,⟨e1,e2⟩⟩) hrs hR)
   refine⟨m,a',m1,m2,?_⟩
   refine zp (.c1 (cn l a1) (di r)<|.t<|.h (.dr 17)<|.x (.str nm)<|.c1 (cn l a2) (di f)<|.c1 (cn l a3) (di t)<|.c1 (cn l a4) (di ac)<|.t<|.c1 (cn l a5) (di chn)<|.c1 (cn l a6) (di le)<|.ls [ke 0,ke 4,ke 5,ch 6 (zw k)] (jc l a6 K S Pl Le rk (rs++[jw nm f t chn ac le]))) (type_of% h4/\ye k (yu yt (1+r))/\y6 k/\zy [ab (bf #[114]).data.toList,ab (bf #[115]).data.toList,ab (bf #[116]).data.toList,ab (bf #[117]).data.toList] k (ab nm)/\Aa PP 7 [bq 0 0,di (I (U ab S):Int)] (dz l a1) (di f) (dz l a2)/\Aa PP 7 [bq 0 0,di (I (U ab S):Int)] (dz l a1) (di f) (dz l a2)/\Q (di f)/\Aa PP 7 [bq 0 0,di (I (U ab S):Int)] (dz l a2) (di t) (dz l a3)/\Aa PP 7 [bq 0 0,di (I (U ab S):Int)] (dz l a2) (di t) (dz l a3)/\Q (di t)/\type_of% c4/\type_of% c4/\Q (di ac)/\Q (U (fun st=>bi [G (cn l st),G zM,G (lM K S Pl Le rk rs),G p8] [(2,14,U Aj rs)]) [a1,a2,a3,a4])/\((yg (Q (G [bt (cc S)])))/\(yg (Q (G [bt (cc S)])))/\True)/\(ac !=0)=J/\Aa PP 7 [bq 0 0,di (I (U ab Pl):Int)] (dz l a4) (di chn) (dz l a5)/\Aa PP 7 [bq 0 0,di (I (U ab Le):Int)] (dz l a5) (di le) (dz l a6)/\(True/\(Q (G [bt (cc Le)])/\True)/\True)/\Q (U Aj rs)/\Ao (I (U Aj rs)+I (aa (ab nm::a8 yt f::a8 yt t::ae nV::ae nV::ae nV::a8 yt chn::a8 yt ac::a8 yt le::ae nV::ae nV::ae nV::ae nV::a8 yt 0::nV)::nV)) 232/\zx k/\[G (cn l a6),G zM,G [di K,bt (cc S),bt (cc Pl),bt (cc Le),cw rk,di 0,di 0,br 2 (U Aj rs++aa (ab nm::vi f::vi t::ae nV::ae nV::ae nV::vi chn::vi ac::vi le::ae nV::ae nV::ae nV::ae nV::vi 0::nV)::nV),di 0,dl nV]]=[G (cn l a6),G zM,G (lM K S Pl Le rk (rs++[jw nm f t chn ac le]))]/\[(2,14,U Aj rs++aa (ab nm::vi f::vi t::ae nV::ae nV::ae nV::vi chn::vi ac::vi le::ae nV::ae nV::ae nV::ae nV::vi 0::nV)::nV)]=[(2,14,U Aj (rs++[jw nm f t chn ac le]))]/\It (type_of% m3)) ?_
   rw[hSm,hPm,hLm]
   repeat' first|with_reducible refine And.intro ?_ ?_
   all_goals first|exact h4|exact hkr|exact f4|exact t4|exact c4|exact d4|exact e4|exact hw|exact DT hnm|exact⟨m3⟩|exact Ac|omega|rfl|trivial|skip
   all_goals first|exact I6 (fun z=>[G (cn l a6),G zM,G [di K,.v (cc S),.v (cc Pl),.v (cc Le),.v (cy rk),di 0,di 0,.acc 2 z,di 0,dl []]]) (Dk rs (jw nm f t chn ac le))|exact I6 (fun z=>[(2,14,z)]) (Dk rs (jw nm f t chn ac le))|(simp only[HJ,HP,HT];omega)
  ·have hac:ac=0:=by simpa using hw
   subst hac
   obtain⟨m,a',m1,m2,m3⟩:=ih (4- (k+1)) (by omega) (k+1) a4 (rs++[jw nm f t 0 0 0]) rfl c3 (by omega) (by simp[hrs]) (AjA hnm ⟨f1,f2⟩ ⟨t1,t2⟩ (.inl ⟨rfl,rfl,rfl⟩) hrs hR)
   refine⟨m,a',m1,m2,?_⟩
   refine zp (.c1 (cn l a1) (di r)<|.t<|.h (.dr 17)<|.x (.str nm)<|.c1 (cn l a2) (di f)<|.c1 (cn l a3) (di t)<|.c1 (cn l a4) (di 0)<|.k<|.ls [ke 0,ke 4,ke 5,ch 6 (zw k)] (jc l a4 K S Pl Le rk (rs++[jw nm f t 0 0 0]))) (type_of% h4/\ye k (yu yt (1+r))/\y6 k/\zy [ab (bf #[114]).data.toList,ab (bf #[115]).data.toList,ab (bf #[116]).data.toList,ab (bf #[117]).data.toList] k (ab nm)/\Aa PP 7 [bq 0 0,di (I (U ab S):Int)] (dz l a1) (di f) (dz l a2)/\Aa PP 7 [bq 0 0,di (I (U ab S):Int)] (dz l a1) (di f) (dz l a2)/\Q (di f)/\Aa PP 7 [bq 0 0,di (I (U ab S):Int)] (dz l a2) (di t) (dz l a3)/\Aa PP 7 [bq 0 0,di (I (U ab S):Int)] (dz l a2) (di t) (dz l a3)/\Q (di t)/\type_of% c4/\type_of% c4/\Q (di 0)/\Q (U (fun st=>bi [G (cn l st),G zM,G (lM K S Pl Le rk rs),G p8] [(2,14,U Aj rs)]) [a1,a2,a3,a4])/\((yg (Q (G [bt (cc S)])))/\(yg (Q (G [bt (cc S)])))/\True)/\Q (U Aj rs)/\Ao (I (U Aj rs)+I (aa (ab nm::a8 yt f::a8 yt t::ae nV::ae nV::ae nV::a8 yt 0::a8 yt 0::a8 yt 0::ae nV::ae nV::ae nV::ae nV::a8 yt 0::nV)::nV)) 232/\zx k/\[G (cn l a4),G zM,G [di K,bt (cc S),bt (cc Pl),bt (cc Le),cw rk,di 0,di 0,br 2 (U Aj rs++aa (ab nm::vi f::vi t::ae nV::ae nV::ae nV::vi 0::vi 0::vi 0::ae nV::ae nV::ae nV::ae nV::vi 0::nV)::nV),di 0,dl nV]]=[G (cn l a4),G zM,G (lM K S Pl Le rk (rs++[jw nm f t 0 0 0]))]/\[(2,14,U Aj rs++aa (ab nm::vi f::vi t::ae nV::ae nV::ae nV::vi 0::vi 0::vi 0::ae nV::ae nV::ae nV::ae nV::vi 0::nV)::nV)]=[(2,14,U Aj (rs++[jw nm f t 0 0 0]))]/\It (type_of% m3)) ?_
   repeat' first|with_reducible refine And.intro ?_ ?_
   all_goals first|exact h4|exact hkr|exact f4|exact t4|exact c4|exact DT hnm|exact⟨m3⟩|exact Ac|omega|rfl|trivial|skip
   all_goals first|exact I6 (fun z=>[G (cn l a4),G zM,G [di K,.v (cc S),.v (cc Pl),.v (cc Le),.v (cy rk),di 0,di 0,.acc 2 z,di 0,dl []]]) (Dk rs (jw nm f t 0 0 0))|exact I6 (fun z=>[(2,14,z)]) (Dk rs (jw nm f t 0 0 0))|(simp only[HJ,HP,HT];omega)
 ·obtain⟨ys,a2,y1,y2,y3,y4⟩:=Anf l hl a1 h3 (I Pl) (by omega) (I Le) (by omega) (by omega)
  obtain⟨c,hc⟩:∃c:b9,c=.mk 0 (.mk 0 []::ys):=⟨_,rfl⟩
  refine⟨⟨K,S,Pl,Le,rk,0,0,rs,c⟩,a2,⟨rfl,hS,hP,hLe,hrk,rfl,rfl,by grind,by grind,hR,ys,y2,y3,hc⟩,y1,?_⟩
  refine zp (.c1 (cn l a1) (di r)<|.f<|.a 3<|.c1 (cn l a2) (co ys)<|.w .r) (type_of% h4/\yd k (yu yt (1+r))/\Aa PP 68 [bq 0 0,di (I (U ab Pl):Int),di (I (U ab Le):Int),di 2] (dz l a1) (co ys) (dz l a2)/\Q (aa (vi 0::ae nV::nV)::nV)/\Ao (I (aa (a8 yt 0::ae nV::nV)::nV)+I (U eV ys)) 32/\(∀(y:V),y∈U eV ys->V.size y=2)/\Q [G (cn l a2)]/\bt (aa [vi K,ae (U ab S),ae (U ab Pl),ae (U ab Le),ae (U vi rk),vi 0,vi 0,ae (U Aj rs),vi 0,ae (aa [vi 0,ae []]::[]++(U eV ys))])=Af (cx.mk K S Pl Le rk 0 0 rs c)) ?_
  rw[hPm,hLm]
  refine⟨h4,HO (by grind[An]),y4,rfl,⟨?_,?_⟩,fun y hy=>?_,rfl,?_⟩
  ·grind
  ·grind
  ·grind[AE,V.size]
  ·rw[hc];rfl
theorem Ako{ts:List Nat}{kn:Bool}{d:D}(h:d.one=J):(ir ts kn d).one=J:=by
 unfold ir
 split
 ·cases ts.any _<;>rfl
 ·cases kn<;>rfl
 all_goals grind[D.one,V.isAgg]
theorem ApD{H:List (Option (List D))}{own:List (Nat×Nat×List V)}{q:Nat}{d0:Int}{S Pl Le:V}{rk:V}(hq:H[q]?=G (G [di d0,.v S,.v Pl,.v Le,.v rk,di 0,di 0,.acc 2 [],di 0,.v .nils]))(e:List D):Cv e ⟨H,own⟩ e ⟨H.set q (G ([di d0,.v S,.v Pl,.v Le,.v rk,di 0,di 0,.acc 2 [],di 0,.v .nils].map (ir [2] false))),own⟩:=
 F4 (σ:=⟨H,own⟩) (q:=q) hq (fun g us hr=>Dz hr) (fun h c hc=>by
  grind[Ako]) e
noncomputable abbrev ka:=fun a₀ b₀ (c₀:Nat) d₀=>Aa PP 7 [bq 0 0,di 2] (dz a₀ b₀) (di (c₀:Int)) (dz a₀ d₀)
noncomputable abbrev ra:=[ab (bf #[97]).data.toList,ab (bf #[98]).data.toList,ab (bf #[99]).data.toList]
noncomputable abbrev o4:=[ab (bf #[120]).data.toList,ab (bf #[121]).data.toList]
noncomputable abbrev re:=[ab (bf #[112]).data.toList,ab (bf #[113]).data.toList]
noncomputable abbrev xf:=fun a₀ b₀ (c₀:Nat) d₀=>Aa PP 7 [bq 0 0,di 3] (dz a₀ b₀) (di (c₀:Int)) (dz a₀ d₀)
noncomputable abbrev gi:=fun (a₀:Nat)=>(1+(a₀:Int))
theorem AjV(l:List UInt8)(hl:I l<=200)(a:Nat)(ha:a<=I l)(K:Int)(hK:K=2∨K=3):
  ∃(m:cx) (a':Nat),G8 K m/\a'<=I l/\Aa PP 32 [.ptr 0 0,di K] (dz l a) (Af m) (dz l a'):=by
 obtain⟨r1,a1,p1,p2,p3,p4⟩:=A6 l hl a ha 3 (by decide) (by decide)
 obtain⟨r2,a2,q1,q2,q3,q4⟩:=A6 l hl a1 p3 2 (by decide) (by decide)
 obtain⟨r3,a3,u1,u2,u3,u4⟩:=A6 l hl a2 q3 2 (by decide) (by decide)
 obtain⟨n1,rfl⟩:∃n:Nat,r1=n:=⟨r1.toNat,by omega⟩
 obtain⟨n2,rfl⟩:∃n:Nat,r2=n:=⟨r2.toNat,by omega⟩
 obtain⟨n3,rfl⟩:∃n:Nat,r3=n:=⟨r3.toNat,by omega⟩
 obtain⟨S,hS⟩:∃S,S=([[97],[98],[99]]:List (List UInt8)).take (1+n1):=⟨_,rfl⟩
 obtain⟨Pl,hPl⟩:∃S,S=([[120],[121]]:List (List UInt8)).take (1+n2):=⟨_,rfl⟩
 obtain⟨Le,hLe⟩:∃S,S=([[112],[113]]:List (List UInt8)).take (1+n3):=⟨_,rfl⟩
 have hSx:∃n:Nat,1<=n/\n<=3/\S=([[97],[98],[99]]:List (List UInt8)).take n:=⟨1+n1,by omega,by omega,hS⟩
 have hPx:Pl=[[120]]∨Pl=[[120],[121]]:=by
  rcases(show n2=0∨n2=1 by omega) with rfl|rfl
  all_goals grind
 have hLx:Le=[[112]]∨Le=[[112],[113]]:=by
  rcases(show n3=0∨n3=1 by omega) with rfl|rfl
  all_goals grind
 rcases hK with rfl|rfl
 ·obtain⟨m,a',m1,m2,m3⟩:=Xj l hl 2 S Pl Le [] hSx hPx hLx (by simp) _ 0 a3 [] rfl u3 (by omega) rfl (by simp)
  refine⟨m,a',m1,m2,?_⟩
  refine zq pp 92 (.h (.dr 17)<|.c1 (cn l a1) (di n1)<|.c1 (cn l a2) (di n2)<|.c1 (cn l a3) (di n3)<|.h .rn<|.k<|.h (.q 4 0)<|.h (.cl 2 7 2 14)<|.h (.cs (jc l a3 2 S Pl Le [] []))<|.ls [ke 0,ke 4,ke 5,ch 6 (di (0:Nat))] (jc l a3 2 S Pl Le [] [])) (xf l a n1 a1/\xf l a n1 a1/\Q (di (n1:Int))/\(∀(x:V),x∈ ra->V.size x=1)/\0<=(yu yt (gi n1))/\(yu yt (gi n1))<=(↑(I ra):Int)/\ka l a1 n2 a2/\ka l a1 n2 a2/\Q (di (n2:Int))/\(∀(x:V),x∈ o4->V.size x=1)/\0<=(yu yt (gi n2))/\(yu yt (gi n2))<=(↑(I o4):Int)/\ka l a2 n3 a3/\ka l a2 n3 a3/\Q (di (n3:Int))/\(∀(x:V),x∈ re->V.size x=1)/\0<=(yu yt (gi n3))/\(yu yt (gi n3))<=(↑(I re):Int)/\Q (U (fun st=>bi [G (cn l st),G jo,G jo] []) [a,a1,a2,a3])/\True/\(∀(e:List D) (E:c9) (g:Gh) (a:Act) (w:x5),FI E g (bi [G (cn l a3),G [bt jx,dn,dn,dn,dn,bt jx,bt jx,dn,bt jx,dn],G [bt (a8 yt 2),bt (ae (W 0 (take (Z ((yu yt (gi n1)))) ra))),bt (ae (W 0 (take (Z ((yu yt (gi n2)))) o4))),bt (ae (W 0 (take (Z ((yu yt (gi n3)))) re))),dn,bt jx,bt jx,br 2 [],bt jx,dn]] [(2,14,[])]) e a w->∃g',FI E g' (jc l a3 2 S Pl Le [] []) e a w)/\di 0=di (↑0:Int)/\Q (jc l a3 2 S Pl Le [] []).H/\Q [(2,14,nV)]/\It (type_of% m3)) ?_
  have w1:yu yt (1+(n1:Int))=1+n1:=An
  have w2:yu yt (1+(n2:Int))=1+n2:=An
  have w3:yu yt (1+(n3:Int))=1+n3:=An
  have z1:∀x∈ [ab [97],ab [98],ab [99]],x.size=1:=by simp[V.size]
  have z2:∀x∈ [ab [120],ab [121]],x.size=1:=by simp[V.size]
  have z3:∀x∈ [ab [112],ab [113]],x.size=1:=by simp[V.size]
  have k1:ae (W 0 (take (1+(n1:Int)).toNat [ab [97],ab [98],ab [99]]))=cc S:=by
   rw[hS,JG,show(1+(n1:Int)).toNat=1+n1 by omega]
   simp_all
  have k2:ae (W 0 (take (1+(n2:Int)).toNat [ab [120],ab [121]]))=cc Pl:=by
   rw[hPl,JG,show(1+(n2:Int)).toNat=1+n2 by omega]
   simp_all
  have k3:W 0 (take (1+(n3:Int)).toNat [ab [112],ab [113]])=Le.map ab:=by
   rw[hLe,JG,show(1+(n3:Int)).toNat=1+n3 by omega]
   simp_all
  rw[w1,w2,w3]
  refine⟨p4,p4,rfl,z1,by grind,by grind,q4,q4,rfl,z2,by grind,by grind,u4,u4,rfl,z3,by grind,by grind,rfl,trivial,fun e=>?_,rfl,rfl,rfl,⟨m3⟩⟩
  show Cv e ⟨[G (cn l a3),G zM,G [di 2,.v (ae (W 0 (take (1+(n1:Int)).toNat [ab [97],ab [98],ab [99]]))),.v (ae (W 0 (take (1+(n2:Int)).toNat [ab [120],ab [121]]))),.v (ae (W 0 (take (1+(n3:Int)).toNat [ab [112],ab [113]]))),.v .nils,di 0,di 0,.acc 2 [],di 0,.v .nils]],[(2,14,[])]⟩ e _
  rw[k1,k2,k3]
  exact ApD (H:=[G (cn l a3),G zM,G [di 2,.v (cc S),.v (cc Pl),.v (cc Le),.v .nils,di 0,di 0,.acc 2 [],di 0,.v .nils]]) (q:=2) rfl e
 ·obtain⟨rk,a4,v1,v2,v3,v4⟩:=FQ l hl a3 u3 (I Le) (by grind) 1 (by decide) (by decide)
  obtain⟨m,a',m1,m2,m3⟩:=Xj l hl 3 S Pl Le rk hSx hPx hLx (by grind) _ 0 a4 [] rfl (by omega) (by omega) rfl (by simp)
  refine⟨m,a',m1,m2,?_⟩
  refine zq pp 92 (.h (.dr 17)<|.c1 (cn l a1) (di n1)<|.c1 (cn l a2) (di n2)<|.c1 (cn l a3) (di n3)<|.h .rn<|.k<|.c1 (cn l a4) (cw rk)<|.h (.q 4 0)<|.h (.cl 2 7 2 14)<|.h (.cs (jc l a4 3 S Pl Le rk []))<|.ls [ke 0,ke 4,ke 5,ch 6 (di (0:Nat))] (jc l a4 3 S Pl Le rk [])) (xf l a n1 a1/\xf l a n1 a1/\Q (di (n1:Int))/\(∀(x:V),x∈ ra->V.size x=1)/\0<=(yu yt (gi n1))/\(yu yt (gi n1))<=(↑(I ra):Int)/\ka l a1 n2 a2/\ka l a1 n2 a2/\Q (di (n2:Int))/\(∀(x:V),x∈ o4->V.size x=1)/\0<=(yu yt (gi n2))/\(yu yt (gi n2))<=(↑(I o4):Int)/\ka l a2 n3 a3/\ka l a2 n3 a3/\Q (di (n3:Int))/\(∀(x:V),x∈ re->V.size x=1)/\0<=(yu yt (gi n3))/\(yu yt (gi n3))<=(↑(I re):Int)/\Q (U (fun st=>bi [G (cn l st),G jo,G jo] []) [a,a1,a2,a3])/\True/\Aa PP 66 [bq 0 0,di (I (W 0 (take (Z ((yu yt (gi n3)))) (ab (bf #[112]).data.toList::ab (bf #[113]).data.toList::nV))):Int),di 1] (dz l a3) (cw rk) (dz l a4)/\(∀(e:List D) (E:c9) (g:Gh) (a:Act) (w:x5),FI E g (bi [G (cn l a4),G [bt jx,dn,dn,dn,dn,bt jx,bt jx,dn,bt jx,dn],G [bt (a8 yt 3),bt (ae (W 0 (take (Z ((yu yt (gi n1)))) ra))),bt (ae (W 0 (take (Z ((yu yt (gi n2)))) o4))),bt (ae (W 0 (take (Z ((yu yt (gi n3)))) re))),cw rk,bt jx,bt jx,br 2 [],bt jx,dn]] [(2,14,[])]) e a w->∃g',FI E g' (jc l a4 3 S Pl Le rk []) e a w)/\di 0=di (↑0:Int)/\Q (jc l a4 3 S Pl Le rk []).H/\Q [(2,14,nV)]/\It (type_of% m3)) ?_
  have w1:yu yt (1+(n1:Int))=1+n1:=An
  have w2:yu yt (1+(n2:Int))=1+n2:=An
  have w3:yu yt (1+(n3:Int))=1+n3:=An
  have z1:∀x∈ [ab [97],ab [98],ab [99]],x.size=1:=by simp[V.size]
  have z2:∀x∈ [ab [120],ab [121]],x.size=1:=by simp[V.size]
  have z3:∀x∈ [ab [112],ab [113]],x.size=1:=by simp[V.size]
  have k1:ae (W 0 (take (1+(n1:Int)).toNat [ab [97],ab [98],ab [99]]))=cc S:=by
   rw[hS,JG,show(1+(n1:Int)).toNat=1+n1 by omega]
   simp_all
  have k2:ae (W 0 (take (1+(n2:Int)).toNat [ab [120],ab [121]]))=cc Pl:=by
   rw[hPl,JG,show(1+(n2:Int)).toNat=1+n2 by omega]
   simp_all
  have k3:W 0 (take (1+(n3:Int)).toNat [ab [112],ab [113]])=Le.map ab:=by
   rw[hLe,JG,show(1+(n3:Int)).toNat=1+n3 by omega]
   simp_all
  rw[w1,w2,w3]
  refine⟨p4,p4,rfl,z1,by grind,by grind,q4,q4,rfl,z2,by grind,by grind,u4,u4,rfl,z3,by grind,by grind,rfl,trivial,?_,fun e=>?_,rfl,rfl,rfl,⟨m3⟩⟩
  ·grind
  show Cv e ⟨[G (cn l a4),G zM,G [di 3,.v (ae (W 0 (take (1+(n1:Int)).toNat [ab [97],ab [98],ab [99]]))),.v (ae (W 0 (take (1+(n2:Int)).toNat [ab [120],ab [121]]))),.v (ae (W 0 (take (1+(n3:Int)).toNat [ab [112],ab [113]]))),cw rk,di 0,di 0,.acc 2 [],di 0,.v .nils]],[(2,14,[])]⟩ e _
  rw[k1,k2,k3]
  exact ApD (H:=[G (cn l a4),G zM,G [di 3,.v (cc S),.v (cc Pl),.v (cc Le),cw rk,di 0,di 0,.acc 2 [],di 0,.v .nils]]) (q:=2) rfl e
theorem Ahx{rs:List cm}(_:I rs<=4){ns np nl:Nat}(h:∀k r,rs[k]?=G r->PL ns np nl k r):rs.map cm.name=tf.take (I rs):=by
 apply List.ext_getElem?
 intro i
 by_cases hi:i<I rs
 ·have hx:rs[i]?=G rs[i]:=HK hi
  rw[IP,hx,List.getElem?_take_of_lt hi,(h i _ hx).name];rfl
 grind
theorem Afq{L:Int}{v:b9}(h:GT L v):(v.n==0)=J/\Y ((I v.az:Int)<=12)=J/\(v.az.all fun k=>CI L k)=J:=by
 obtain⟨ks,h1,h2,rfl⟩:=h
 grind[b9.az,CI,b9.n]
theorem Rv(t:cr)(L:Int)(ht:∀v,GT L v->A1 t v=J):∀(n:Nat) (ys:List b9),I ys=n->(∀y∈ys,GT L y)->BU (replicate n t) ys=J
 |0,ys,h,_=>by
  rfl
 |n+1,ys,h,hy=>by
  cases ys with
  |nil=>rfl
  |cons y ys=>
   simp only[Jk,BU,HL]
   exact⟨ht y (hy y (by simp)),Rv t L ht n ys (by grind) fun z hz=>hy z (by grind)⟩
theorem PN(L:Int):∀(ys:List b9),(∀y∈ys,GT L y)->b9.sizes ys<=3*I ys
 |[],_=>HR _
 |y::ys,h=>by
  have h1:=(h y (by simp)).size
  have h2:=PN L ys fun z hz=>h z (by grind)
  grind[b9.sizes]
theorem Zp(m:cx)(hk:m.kind=2∨m.kind=3)(hpl:I m.ay<=2)(s:Int)(hs:0<=s/\s<I m.aw)(ys:List b9)(hy:I ys=I m.ay)(h:∀y∈ys,GT (I m.ax) y):Al (AM m) (.mk 0 (.mk s []::ys))=J:=by
 have hsz:=PN _ ys h
 rw[Al,HM (by grind[b9.size,b9.sizes]),IG,AM]
 have he:∀v,GT (I m.ax) v->A1 (Fg m) v=J:=fun v hv=>by
  obtain⟨h1,h2,h3⟩:=Afq hv
  grind[Fg,A1]
 simp only[A1,b9.n,b9.az,BU,CI,HL,IJ]
 refine⟨?_,by grind,⟨HM hs.1,HM hs.2,by rfl⟩,Rv _ _ he _ ys hy h⟩
 grind
theorem G8.ok{K:Int}{m:cx}(hK:K=2∨K=3)(h:G8 K m):m.ok:=by
 have hk:=h.kind
 have hk1:¬m.kind=1:=by omega
 have hst:1<=I m.aw/\m.aw.length<=3:=by obtain⟨n,h1,h2,e⟩:=h.aw;grind
 have hpl:1<=I m.ay/\m.ay.length<=2:=by rcases h.ay with e|e<;>rw[e]<;>decide
 have hll:1<=I m.ax/\m.ax.length<=2:=by rcases h.ax with e|e<;>rw[e]<;>decide
 have hb:∀{x a b:Int},a<=x->x<=b->A4 x a b=J:=fun h1 h2=>by grind[A4]
 have hget:∀r∈m.av,PL (I m.aw) (I m.ay) (I m.ax) (m.av.idxOf r) r:=fun r hr=>by
  exact h.av _ r (by grind)
 have hc:=h.count
 refine⟨.inr (by omega),?_,?_,?_,?_,?_,?_,?_⟩
 ·simp only[Cw,Sn,Iz hk1,HL,HU,h.am,h.age]
  grind
 ·have hr:=h.au
  grind[Ck]
 ·have hn:=Ahx h.count h.av
  obtain⟨n,n1,n2,e⟩:=h.aw
  rw[DJ,FE,hn,Ch]
  have:I m.av=0∨m.av.length=1∨m.av.length=2∨m.av.length=3∨m.av.length=4:=by omega
  rcases(show n=1∨n=2∨n=3 by omega) with rfl|rfl|rfl<;>rcases h.ay with e'|e'<;>rcases h.ax with e3|e3<;>rcases this with e2|e2|e2|e2|e2<;>rw[e,e',e2,e3]<;>decide+kernel
 ·intro r hr
  rw[(hget r hr).rest]
  exact⟨II _,II _,II _,II _,II _,II _,II _⟩
 ·intro r hr
  have hm:=hget r hr
  obtain⟨f1,f2⟩:=hm.ai
  obtain⟨t1,t2⟩:=hm.to
  have ha:=hm.act
  have hr:=hm.rest
  grind[FB,FC,Cj,N5,jw,ED]
 ·obtain⟨ys,y1,y2,y3⟩:=h.start
  grind[Zp]
 ·obtain⟨ys,y1,y2,y3⟩:=h.start
  have:=PN _ ys y2
  grind[b9.size,b9.sizes]
noncomputable def AD:=yl B5
abbrev jd(n:Int)(l:List b9):St:=⟨[G [di 0,.v .nils],G [di n,.acc 1 (l.map eV)]],[(1,2,l.map eV)]⟩
theorem Zd(v:b9)(hv:v.size<=1000000)(hk:∀x∈v.az,F0 131 [dV x] (dV x))(n:Nat):∀k:Nat,I v.az-k=n->
  Rn PP B5 0 (dV v) bd ([kl AD [1,1,0,1,0,0],.blk 0,kc AD [1,1,1]]++[]) (cz 27 [(1,.v (.ref (Ad v))),(2,.ptr 0 0),(3,.ptr 1 0),(4,di k)]) (jd v.n (v.az.take k)):=by
 have hs:=v.size_eq
 have hl:=b9.length_le v.az
 induction n with
 |zero=>
  intro k hn
  refine lv 27 [1] (.f .r) (Y ((k:Int)<(I (c7 v.az):Int))=O/\bt (aa [vi v.n,ae (U eV (take k v.az))])=dV v) ?_
  grind[List.take_of_length_le]
 |succ n ih=>
  intro k hn
  obtain⟨x,hx⟩:∃x,v.az[k]?=G x:=⟨_,HK (show k<I v.az by omega)⟩
  have ht:v.az.take (k+1)=v.az.take k++[x]:=by grind[List.take_add_one]
  refine lv 27 [1] (.t<|.h (.xs (Ad x))<|.c (dV x)<|.ls [ke 1,ke 2,ke 3,ch 4 (di (k+1:Nat))] (jd v.n (v.az.take (k+1)))) (Y ((k:Int)<(I (c7 v.az):Int))=J/\Q 2/\0<=(k:Int)/\(c7 v.az)[Z (k:Int)]?=G (Ad x)/\_/\Q (U eV (take k v.az))/\Ao (I (U eV (take k v.az))+I (Ad x::nV)) 32/\yp/\di (yu yt ((k:Int)+1))=di (↑(k+1):Int)/\[G [di 0,dn],G [di v.n,br 1 (U eV (take k v.az)++Ad x::nV)]]=[G [di 0,dn],G [di v.n,br 1 (U eV (take (k+1) v.az))]]/\[(1,2,U eV (take k v.az)++Ad x::nV)]=[(1,2,U eV (take (k+1) v.az))]/\_) ⟨HM (by grind),rfl,by omega,Ap hx,hk x (HQ hx),rfl,⟨?_,?_⟩,yn,Ac,?_,?_,iK (ih (k+1) (by omega))⟩
  all_goals grind[C4]
noncomputable abbrev uw:=[kl AD e9,bh 0,kc AD [1,1,1]]
theorem DY(N:Nat):∀v:b9,v.size<=N->v.size<=1000000->F0 131 [dV v] (dV v):=by
 induction N with
 |zero=>intro v h;have:=v.size_pos;omega
 |succ N ih=>
  intro v hN hv
  have hs:=v.size_eq
  have:=Zd v hv (fun x hx=>by have:=b9.size_mem hx;grind) _ 0 rfl
  exact sv B5 27 [1] (.h .rn<|.h (.q 2 0)<|.h (.cl 1 1 1 2)<|.ls [ke 1,ke 2,ke 3,ch 4 (di (0:Nat))] (jd v.n [])) (Q (di 0)/\Q (jd v.n []).H/\Q [(1,2,nV)]/\It (type_of% this)) ⟨rfl,rfl,rfl,⟨by grind⟩⟩
noncomputable def P7:=yl S9
def Bz(v:b9):List b9->Nat
 |[]=>0
 |x::l=>if Ay x v<0 then Bz v l+1 else 0
def BZ(l:List b9)(v:b9):List b9:=match l[Bz v l]? with
 |some x=>if (Ay x v==0)=J then l else l.take (Bz v l)++v::l.drop (Bz v l)
 |none=>l.take (Bz v l)++v::l.drop (Bz v l)
theorem AbP(v:b9):∀l:List b9,Bz v l<=I l
 |[]=>HR _
 |x::l=>by
  have:=AbP v l
  grind[Bz]
theorem AbO(v:b9):∀(l:List b9) (k:Nat),k<Bz v l->∃x,l[k]?=G x/\Ay x v<0
 |[],k,h=>by grind[Bz]
 |x::l,k,h=>by
  unfold Bz at h
  split at h
  ·rename_i hx
   cases k with
   |zero=>grind
   |succ k=>exact AbO v l k (by omega)
  ·omega
theorem AbQ(v:b9):∀(l:List b9) (x:b9),l[Bz v l]?=G x->¬Ay x v<0
 |[],x,h=>by grind
 |y::l,x,h=>by
  unfold Bz at h
  split at h
  ·exact AbQ v l x (by grind)
  grind
theorem AlN(l:List b9):∀x∈l.map eV,x.size=2:=by grind[AE,V.size]
theorem Ap7(l:List b9)(i j:Nat):∀x∈ ((l.map eV).take j).drop i,x.size=2:=by grind[AlN]
theorem Alb(l:List b9)(v:b9)(k:Nat):take k (l.map eV)++[Ad v]++W k (l.map eV)=(l.take k++v::l.drop k).map eV:=by
 rw[←AE];simp_all
theorem AbN(l:List b9)(v:b9)(k:Nat):bt (ae (W 0 (take ((k:Nat):Int).toNat (l.map eV))++[Ad v]++W ((k:Nat):Int).toNat (take (I (l.map eV)) (l.map eV))))=co (l.take k++v::l.drop k):=by
 grind[Alb]
noncomputable abbrev uq:=fun a₀ b₀=>F0 128 [dV a₀,dV b₀] (di (Ay a₀ b₀))
noncomputable abbrev Axv:=fun a₀=>F0 131 [dV a₀] (dV a₀)
theorem AgE(l:List b9)(v:b9)(hl:b9.sizes l<=1000000)(hv:v.size<=1000000)(n:Nat):∀k:Nat,Bz v l-k=n->k<=Bz v l->
  Rn PP S9 0 (co (BZ l v)) bd ([kl P7 [1,1,0,0,0],.blk 0,kc P7 [1,1,1]]++[]) (cz 46 [(0,co l),(3,.v (.ref (Ad v))),(5,di k)]) bd:=by
 have hil:=AbP v l
 have hll:=b9.length_le l
 induction n with
 |zero=>
  intro k hn hk0
  have hk:k=Bz v l:=by omega
  subst hk
  cases hx:l[Bz v l]? with
  |none=>
   have e1:BZ l v=l.take (Bz v l)++v::l.drop (Bz v l):=by rw[BZ,hx]
   have hlt:I l<=Bz v l:=List.getElem?_eq_none_iff.1 hx
   rw[e1]
   refine lv 46 [3] (.f<|.k<|.f<|.k<|.a 1<|.w<|.c (dV v)<|.w<|.w<|.r) (Y ((↑(Bz v l):Int)<(I (U eV l):Int))=O/\Y ((↑(Bz v l):Int)<(I (U eV l):Int))=O/\(∀(x:V),x∈U eV l->V.size x=2)/\0<=(↑(Bz v l):Int)/\(↑(Bz v l):Int)<=(I (U eV l):Int)/\Ao (I (W 0 (take (Z ((↑(Bz v l):Int))) (U eV l)))) 32/\(∀(y:V),y∈W 0 (take (Z ((↑(Bz v l):Int))) (U eV l))->V.size y=2)/\Axv v/\Q (W 0 (take (Z ((↑(Bz v l):Int))) (U eV l)))/\Ao (I (W 0 (take (Z ((↑(Bz v l):Int))) (U eV l)))+I (Ad v::nV)) 32/\(∀(y:V),y∈ [Ad v]->V.size y=2)/\(∀(x:V),x∈U eV l->V.size x=2)/\0<=(↑(Bz v l):Int)/\(↑(Bz v l):Int)<=(I (U eV l):Int)/\Q (W 0 (take (Z ((↑(Bz v l):Int))) (U eV l))++Ad v::nV)/\Ao (I (W 0 (take (Z ((↑(Bz v l):Int))) (U eV l))++Ad v::nV)+I (W (Z ((↑(Bz v l):Int))) (take (I (U eV l)) (U eV l)))) 32/\(∀(y:V),y∈W (Z ((↑(Bz v l):Int))) (take (I (U eV l)) (U eV l))->V.size y=2)/\bt (ae (W 0 (take (Z ((↑(Bz v l):Int))) (U eV l))++[Ad v]++W (Z ((↑(Bz v l):Int))) (take (I (U eV l)) (U eV l))))=co (take (Bz v l) l++v::W (Bz v l) l)) ?_
   have z0:(0:Int)<=(Bz v l:Int):=by omega
   have z1:(Bz v l:Int)<=(I (l.map eV):Int):=by rw[HJ];omega
   have z2:∀y∈ [Ad v],y.size=2:=fun y hy=>by rw[Ia.1 hy];rfl
   repeat' first|with_reducible refine And.intro ?_ ?_
   all_goals first|exact HO (by rw[HJ];omega)|exact AlN l|exact Ap7 l _ _|exact z2|exact DY _ v (HR _) hv|exact z0|exact z1|exact II _|rfl|(simp only[HY,Jw,ID,HJ,HP,HT];omega)|exact AbN l v _
  |some x=>
   have hlt:=(HN.1 hx).1
   have hc:=AbQ v l x hx
   have hsz:=b9.size_mem (HQ hx)
   have z0':(0:Int)<=(Bz v l:Int):=by omega
   by_cases he:(Ay x v==0)=J
   ·have e1:BZ l v=l:=by rw[BZ,hx];simp only[he,Jz]
    rw[e1]
    exact lv 46 [3] (.t<|.h (.xs (Ad x))<|.c (di (Ay x v))<|.f<|.t<|.h (.xs (Ad x))<|.c (db (Ay x v==0))<|.t<|.r) (Y ((↑(Bz v l):Int)<(I (U eV l):Int))=J/\Q 2/\_/\(U eV l)[Z (↑(Bz v l):Int)]?=G (Ad x)/\_/\Y (Ay x v<0)=O/\Y ((↑(Bz v l):Int)<(I (U eV l):Int))=J/\Q 2/\_/\(U eV l)[Z (↑(Bz v l):Int)]?=G (Ad x)/\_/\_/\Q (co l)) ⟨HM (by rw[HJ];omega),rfl,z0',Ap hx,Fh _ x v (HR _) (by omega),HO hc,HM (by rw[HJ];omega),rfl,z0',Ap hx,OD x v (by omega),he,rfl⟩
   ·have e1:BZ l v=l.take (Bz v l)++v::l.drop (Bz v l):=by rw[BZ,hx];simp only[he];rfl
    have he2:(Ay x v==0)=O:=by simpa using he
    rw[e1]
    refine lv 46 [3] (.t<|.h (.xs (Ad x))<|.c (di (Ay x v))<|.f<|.t<|.h (.xs (Ad x))<|.c (db (Ay x v==0))<|.f<|.a 1<|.w<|.c (dV v)<|.w<|.w<|.r) (Y ((↑(Bz v l):Int)<(I (U eV l):Int))=J/\Q 2/\0<=(↑(Bz v l):Int)/\(U eV l)[Z (↑(Bz v l):Int)]?=G (Ad x)/\uq x v/\Y (Ay x v<0)=O/\Y ((↑(Bz v l):Int)<(I (U eV l):Int))=J/\Q 2/\0<=(↑(Bz v l):Int)/\(U eV l)[Z (↑(Bz v l):Int)]?=G (Ad x)/\F0 87 [dV x,dV v] (db (Ay x v==0))/\(Ay x v==0)=O/\(∀(x:V),x∈U eV l->V.size x=2)/\0<=(↑(Bz v l):Int)/\(↑(Bz v l):Int)<=(I (U eV l):Int)/\Ao (I (W 0 (take (Z ((↑(Bz v l):Int))) (U eV l)))) 32/\(∀(y:V),y∈W 0 (take (Z ((↑(Bz v l):Int))) (U eV l))->V.size y=2)/\Axv v/\Q (W 0 (take (Z ((↑(Bz v l):Int))) (U eV l)))/\Ao (I (W 0 (take (Z ((↑(Bz v l):Int))) (U eV l)))+I (Ad v::nV)) 32/\(∀(y:V),y∈ [Ad v]->V.size y=2)/\(∀(x:V),x∈U eV l->V.size x=2)/\0<=(↑(Bz v l):Int)/\(↑(Bz v l):Int)<=(I (U eV l):Int)/\Q (W 0 (take (Z ((↑(Bz v l):Int))) (U eV l))++Ad v::nV)/\Ao (I (W 0 (take (Z ((↑(Bz v l):Int))) (U eV l))++Ad v::nV)+I (W (Z ((↑(Bz v l):Int))) (take (I (U eV l)) (U eV l)))) 32/\(∀(y:V),y∈W (Z ((↑(Bz v l):Int))) (take (I (U eV l)) (U eV l))->V.size y=2)/\bt (ae (W 0 (take (Z ((↑(Bz v l):Int))) (U eV l))++[Ad v]++W (Z ((↑(Bz v l):Int))) (take (I (U eV l)) (U eV l))))=co (take (Bz v l) l++v::W (Bz v l) l)) ?_
    have z0:(0:Int)<=(Bz v l:Int):=by omega
    have z1:(Bz v l:Int)<=(I (l.map eV):Int):=by rw[HJ];omega
    have z2:∀y∈ [Ad v],y.size=2:=fun y hy=>by rw[Ia.1 hy];rfl
    repeat' first|with_reducible refine And.intro ?_ ?_
    all_goals first|exact HM (by rw[HJ];omega)|exact Ap hx|exact Fh _ x v (HR _) (by omega)|exact HO hc|exact OD x v (by omega)|exact he2|exact AlN l|exact Ap7 l _ _|exact z2|exact DY _ v (HR _) hv|exact z0|exact z1|exact II _|rfl|(simp only[HY,Jw,ID,HJ,HP,HT];omega)|exact AbN l v _
 |succ n ih=>
  intro k hn hk0
  obtain⟨x,hx,hc⟩:=AbO v l k (by omega)
  have hlt:=(HN.1 hx).1
  have hsz:=b9.size_mem (HQ hx)
  exact lv 46 [3] (.t<|.h (.xs (Ad x))<|.c (di (Ay x v))<|.t<|.l [ke 0,ke 3,ch 5 (di (k+1:Nat))]) (Y ((k:Int)<(I (U eV l):Int))=J/\Q 2/\0<=(k:Int)/\(U eV l)[Z (k:Int)]?=G (Ad x)/\_/\Y (Ay x v<0)=J/\di (yu yt ((k:Int)+1))=di (↑(k+1):Int)/\_) ⟨HM (by rw[HJ];omega),rfl,by omega,Ap hx,Fh _ x v (HR _) (by omega),HM hc,Ac,iK (ih (k+1) (by omega) (by omega))⟩
theorem Qp(l:List b9)(v:b9)(hl:b9.sizes l<=1000000)(hv:v.size<=1000000):F0 95 [co l,dV v] (co (BZ l v)):=by
 exact sv S9 46 [3] (.l [ke 0,ke 3,ch 5 (di (0:Nat))]) (Q (di 0)/\_) ⟨rfl,iK (AgE l v hl hv _ 0 rfl (II _))⟩
def px(np age:Int)(v:b9):Prop:=∃p g:Int,(0<=p/\p<np)/\(0<=g/\g<age+2)/\v=.mk 0 [.mk p [],.mk g []]
structure qp(np age:Int)(n:Nat)(ts:List b9):Prop where
 tok:∀t∈ts,px np age t
 len:I ts<=n
 asc:∀i x y,ts[i]?=G x->ts[i+1]?=G y->Ay x y<0
theorem px.sz{np age:Int}{v:b9}(h:px np age v):v.size=3:=by
 obtain⟨p,g,_,_,rfl⟩:=h;rfl
theorem Aa6{np age:Int}:∀(ts:List b9),(∀t∈ts,px np age t)->b9.sizes ts=3*I ts
 |[],_=>rfl
 |t::ts,h=>by
  have h1:=(h t (by simp)).sz
  have h2:=Aa6 ts fun z hz=>h z (by grind)
  grind[b9.sizes]
theorem ub{np age:Int}{v:b9}(h:px np age v):qp np age 1 [v]:=⟨fun t ht=>by grind,by simp,fun i x y _ hy=>by grind⟩
theorem Ala{np age:Int}{ts:List b9}{v:b9}(h:qp np age 1 ts)(hv:px np age v):qp np age 2 (BZ ts v):=by
 match ts,h with
 |[],_=>exact⟨(ub hv).tok,by grind[BZ],(ub hv).asc⟩
 |[x],h=>
  have hx:=h.tok x (by simp)
  by_cases hc:Ay x v<0
  ·have e:BZ [x] v=[x,v]:=by grind[BZ,Bz]
   rw[e]
   refine⟨fun t ht=>?_,by simp,fun i a b ha hb=>?_⟩
   all_goals grind
  ·by_cases he:(Ay x v==0)=J
   ·have e:BZ [x] v=[x]:=by grind[BZ,Bz]
    rw[e]
    exact⟨h.tok,by simp,fun i a b ha hb=>by grind⟩
   ·have e:BZ [x] v=[v,x]:=by grind[BZ,Bz]
    rw[e]
    refine⟨fun t ht=>?_,by simp,fun i a b ha hb=>?_⟩
    ·grind
    ·match i,ha,hb with
     |0,ha,hb=>
      have:=(BF.swap v x trivial trivial).2
      grind
     |i+1,_,hb=>grind
 |_::_::_,h=>exact absurd h.len (by simp)
noncomputable def Xq:=yl ni
abbrev km(l:List UInt8)(a:Nat):St:=⟨[G (cn l a),G [di 0,.v .nils]],[]⟩
noncomputable abbrev rh:=fun a₀ b₀=>[aa [vi a₀,ae []],aa [vi b₀,ae []]]
theorem QZ(l:List UInt8)(hl:I l<=200)(m:cx)(hpl:1<=I m.ay/\m.ay.length<=2)(hag:0<=m.age/\m.age<=3)(k:Nat)(hk:k<=2)(a:Nat)(ha:a<=I l)(ts:List b9)(hts:b9.sizes ts<=1000):
  ∃(t:b9) (a':Nat),px (I m.ay) m.age t/\a'<=I l/\∀(d:D) (σ':St),Rn PP ni 1 d σ' ([zu ni 116,.blk 0,zt ni 15]++[]) (cz 43 [(0,.ptr 0 0),(4,.v (.ref (Aq m))),(6,.ptr 1 0),(7,co (BZ ts t)),(8,di k)]) (km l a')->
   Rn PP ni 1 d σ' ([zu ni 116,.blk 0,zt ni 15]++[]) (cz 43 [(0,.ptr 0 0),(4,.v (.ref (Aq m))),(6,.ptr 1 0),(7,co ts),(8,zw k)]) (km l a):=by
 obtain⟨p,a1,p1,p2,p3,p4⟩:=A6 l hl a ha (I m.ay) (by omega) (by omega)
 obtain⟨g,a2,q1,q2,q3,q4⟩:=A6 l hl a1 p3 (m.age+2) (by omega) (by omega)
 obtain⟨t,ht⟩:∃t:b9,t=.mk 0 [.mk p [],.mk g []]:=⟨_,rfl⟩
 refine⟨t,a2,⟨p,g,⟨p1,p2⟩,⟨q1,q2⟩,ht⟩,q3,fun d σ' hrn=>?_⟩
 refine zo [4] (.t<|.c1 (cn l a1) (di p)<|.c1 (cn l a2) (di g)<|.c (co (BZ ts t))<|.ls [ke 0,ke 4,ke 6,ch 7 (co (BZ ts t)),ch 8 (di k)] (km l a2)) (yc ↑(k+1) 0/\Au2 m.ay l a p a1/\Aa PP 7 [bq 0 0,di (yu yt (m.age+2))] (dz l a1) (di g) (dz l a2)/\F0 95 [co ts,bt (aa [vi 0,ae (rh p g)])] (co (BZ ts t))/\Q (co (BZ ts t))/\di (yu yt ((↑(k+1):Int)-1))=di (k:Int)/\Q (km l a2).H/\It (type_of% hrn)) ?_
 rw[show yu yt (m.age+2)=m.age+2 from An,show yu yt ((k+1:Nat)-1:Int)=(k:Int) from by grind[An]]
 refine⟨yr,by grind,q4,?_,rfl,rfl,rfl,⟨hrn⟩⟩
 subst ht
 exact Qp ts (.mk 0 [.mk p [],.mk g []]) (by omega) (by show 3<=1000000;decide)
theorem l6:BW PP 23=G (34,2,32,G (.agg #[.int .i64 0,.slice none 0 0])):=by rfl
theorem Aml{o:yy}{σ:St}(ho:o.op=.buildSlice 23 2 #[(0,.tmp 38),(1,.tmp 40)])(x y:b9):Ak PP o [.v (Ad x),.v (Ad y)] σ (.gro (I σ.H) 2 2) ⟨σ.H++[G (Ab [Ad x,Ad y])],σ.own⟩:=
 Oz ho (by rfl) rfl l6 rfl (ds:=[.v (Ad x),.v (Ad y)]) (xs:=[Ad x,Ad y]) rfl (fun z hz=>by simp at hz;rcases hz with rfl|rfl<;>rfl) (by decide) (by decide) (by decide)
theorem AiQ(l:List UInt8)(hl:I l<=200)(m:cx)(hst:1<=I m.aw/\m.aw.length<=3)(a:Nat)(ha:a<=I l)(ts:List b9):
  ∃(s:Int) (a':Nat),(0<=s/\s<I m.aw)/\a'<=I l/\Rn PP ni 1 (.dagg [di 0,.gro 2 2 2]) ⟨[G (cn l a'),G [di 0,.gro 2 2 2],G (Ab [Ad (.mk s []),Ad (.mk 0 ts)])],[]⟩ ([zu ni 116,.blk 0,zt ni 15]++[]) (cz 43 [(0,.ptr 0 0),(4,.v (.ref (Aq m))),(6,.ptr 1 0),(7,co ts),(8,di (0:Nat))]) (km l a):=by
 obtain⟨s,a1,p1,p2,p3,p4⟩:=A6 l hl a ha (I m.aw) (by omega) (by omega)
 refine⟨s,a1,⟨p1,p2⟩,p3,?_⟩
 exact zo [4] (.f<|.c1 (cn l a1) (di s)<|.h (.q 6 8)<|.h (.o (.gro 2 2 2) ⟨[G (cn l a1),G [di 0,.v .nils],G (Ab [Ad (.mk s []),Ad (.mk 0 ts)])],[]⟩)<|.h .g<|.h .ww<|.rd) (yb (↑0:Int) 0/\Au2 m.aw l a s a1/\Ak PP (Oper.mk (G 41) (Op.buildSlice 23 2 #[(0,Operand.tmp 38),(1,Operand.tmp 40)]) 23 "play.go:141" #[Edge.mk 5 Ground.data,Edge.mk 7 Ground.data] none) [bt (aa [vi s,ae []]),bt (aa [vi 0,dq ts])] (bi [G (cn l a1),G [di 0,dn]] []) (bm 2 2 2) (bi [G (cn l a1),G [di 0,dn],G [di (b9.n (fh s)),bt (dq (b9.az (fh s))),di (b9.n (b9.mk 0 ts)),bt (dq (b9.az (b9.mk 0 ts)))]] [])/\2<=2/\Q [G (cn l a1),G [di 0,bm 2 2 2],G [di (b9.n (fh s)),bt (dq (b9.az (fh s))),di (b9.n (b9.mk 0 ts)),bt (dq (b9.az (b9.mk 0 ts)))]]/\Q (bj [di 0,bm 2 2 2])) ⟨by decide,by grind,Aml (σ:=⟨[G (cn l a1),G [di 0,.v .nils]],[]⟩) rfl (.mk s []) (.mk 0 ts),by decide,rfl,rfl⟩
theorem va{σ:St}{t:Nat}(e:List D)(he:e[t]?=G (.v .nils)):Cv e σ (e.set t (.v (.list []))) σ:=fun E g a w hf=>by
 obtain⟨u,hu,hr⟩:=B7 hf.env he
 refine⟨g,hf.wi,?_,hf.defers⟩
 have:=CB hf.env t (d:=.v (.list [])) (u:=u) (FZ hr)
 grind[D4]
theorem AiP(l:List UInt8)(hl:I l<=200)(m:cx)(hpl:1<=I m.ay/\m.ay.length<=2)(hag:0<=m.age/\m.age<=3)(a:Nat)(ha:a<=I l)(r:Nat)(hr:r<=2):
  ∃(ts:List b9) (a':Nat),qp (I m.ay) m.age 2 ts/\a'<=I l/\∀(d:D) (σ':St),Rn PP ni 1 d σ' ([zu ni 116,.blk 0,zt ni 15]++[]) (cz 43 [(0,.ptr 0 0),(4,.v (.ref (Aq m))),(6,.ptr 1 0),(7,co ts),(8,di (0:Nat))]) (km l a')->
   Rn PP ni 1 d σ' ([zu ni 116,.blk 0,zt ni 15]++[]) (cz 43 [(0,.ptr 0 0),(4,.v (.ref (Aq m))),(6,.ptr 1 0),(7,co []),(8,di (r:Nat))]) (km l a):=by
 rcases(show r=0∨r=1∨r=2 by omega) with rfl|rfl|rfl
 ·exact⟨[],a,⟨fun t ht=>by grind,by simp,fun i x y hx=>by grind⟩,ha,fun d σ' h=>h⟩
 ·obtain⟨t,a1,h1,h2,h3⟩:=QZ l hl m hpl hag 0 (by omega) a ha [] (by decide)
  exact⟨BZ [] t,a1,⟨(ub h1).tok,by grind[BZ],(ub h1).asc⟩,h2,h3⟩
 ·obtain⟨t,a1,h1,h2,h3⟩:=QZ l hl m hpl hag 1 (by omega) a ha [] (by decide)
  obtain⟨t2,a2,h4,h5,h6⟩:=QZ l hl m hpl hag 0 (by omega) a1 h2 [t] (by simp only[b9.sizes,h1.sz];decide)
  exact⟨BZ [t] t2,a2,Ala (ub h1) h4,h5,fun d σ' h=>h3 d σ' (h6 d σ' h)⟩
theorem Amm(l:List UInt8)(hl:I l<=200)(m:cx)(hst:1<=I m.aw/\m.aw.length<=3)(hpl:1<=I m.ay/\m.ay.length<=2)(hag:0<=m.age/\m.age<=3)(a:Nat)(ha:a<=I l):
  ∃(s:Int) (ts:List b9) (a':Nat),(0<=s/\s<I m.aw)/\qp (I m.ay) m.age 2 ts/\a'<=I l/\Aa PP 69 [.ptr 0 0,Af m,di 2] (dz l a) (.dagg [di 0,.arr 1 0 2]) ⟨[G (cn l a'),G [di s,co [],di 0,co ts]],[]⟩:=by
 obtain⟨r,a1,p1,p2,p3,p4⟩:=A6 l hl a ha 3 (by decide) (by decide)
 obtain⟨r,rfl⟩:∃n:Nat,r=n:=⟨r.toNat,by omega⟩
 obtain⟨ts,a2,h1,h2,h3⟩:=AiP l hl m hpl hag a1 p3 r (by omega)
 obtain⟨s,a3,h4,h5,h6⟩:=AiQ l hl m hst a2 h2 ts
 refine⟨s,ts,a3,h4,h1,h5,?_⟩
 have hrn:=h3 _ _ h6
 refine VT (c1:=[di 0]) (c2:=[]) (T:=[G [di 0,.gro 2 2 2],G (Ab [Ad (.mk s []),Ad (.mk 0 ts)])]) (q:=1) (sz:=2) rfl rfl rfl rfl rfl ?_
 refine sv ni 43 [4] (.h (.q 2 0)<|.h (.ct 7 (co []) (km l a))<|.c1 (cn l a1) (di r)<|.ls [ke 0,ke 4,ke 6,ch 7 (co []),ch 8 (di r)] (km l a1)) ((∀(e:List D),e[7]?=G (dn)->∀(E:c9) (g:Gh) (a_2:Act) (w:x5),FI E g (bi [G (cn l a),G [bt jx,dn]] (dz l a).own) e a_2 w->∃g',FI E g' (km l a) (List.set e 7 (co [])) a_2 w)/\Aa PP 7 [bq 0 0,di (yu yt (2+1))] (dz l a) (di (r:Int)) (dz l a1)/\Q (co [])/\Q (di (r:Int))/\Q (km l a1).H/\It (type_of% hrn)) ?_
 have w3:yu yt (2+1)=3:=by decide
 rw[w3]
 exact⟨fun e he=>va e he,p4,rfl,rfl,rfl,⟨hrn⟩⟩
abbrev te:List (List UInt8):=[[114],[115]]
def du(nm:List UInt8)(f t:Int)(tk:List Tk)(mk:List Int):cm:=⟨nm,f,t,[],[],[],0,0,0,[],[],tk,mk,0⟩
abbrev j8(S Pl:List (List UInt8))(ag:Int)(rs:List cm):List D:=[di 5,.v (cc S),.v (cc Pl),.v .nils,.v .nils,di 0,di ag,.acc 2 (rs.map Aj),di 0,.v .nils]
abbrev pu(l:List UInt8)(a:Nat)(S Pl:List (List UInt8))(ag:Int)(rs:List cm):St:=⟨[G (cn l a),G zM,G (j8 S Pl ag rs)],[(2,14,rs.map Aj)]⟩
structure PK(ns np:Nat)(ag:Int)(k:Nat)(r:cm):Prop where
 name:te[k]?=G r.name
 ai:0<=r.ai/\r.ai<ns
 to:0<=r.to/\r.to<ns
 aq:r.aq=[]∨∃p lo hi:Int,(0<=p/\p<np)/\(0<=lo/\lo<=hi/\hi<=ag+1)/\r.aq=[⟨p,lo,hi⟩]
 ao:r.ao=[]∨∃p:Int,(0<=p/\p<np)/\r.ao=[p]
 rest:r=du r.name r.ai r.to r.aq r.ao
structure BB(m:cx):Prop where
 kind:m.kind=5
 aw:m.aw=[[97]]∨m.aw=[[97],[98]]
 ay:m.ay=[[120]]∨m.ay=[[120],[121]]
 ax:m.ax=[]
 au:m.au=[]
 am:m.am=0
 age:0<=m.age/\m.age<=1
 count:I m.av<=2
 pos:1<=I m.av
 av:∀k r,m.av[k]?=G r->PK (I m.aw) (I m.ay) m.age k r
 start:∃ts:List b9,qp (I m.ay) m.age 2 ts/\m.start=.mk 0 [.mk 0 [],.mk 0 ts]
theorem Aow{ns np:Nat}{ag:Int}{rs:List cm}{k:Nat}{nm:List UInt8}{f t:Int}{tk:List Tk}{mk:List Int}(hnm:te[k]?=G nm)(hf:0<=f/\f<ns)(ht:0<=t/\t<ns)(h1:tk=[]∨∃p lo hi:Int,(0<=p/\p<np)/\(0<=lo/\lo<=hi/\hi<=ag+1)/\tk=[⟨p,lo,hi⟩])(h2:mk=[]∨∃p:Int,(0<=p/\p<np)/\mk=[p])(hrs:I rs=k)(hR:∀i r,rs[i]?=G r->PK ns np ag i r):∀i r,(rs++[du nm f t tk mk])[i]?=G r->PK ns np ag i r:=fun i r hi=>by
 by_cases hik:i<I rs
 ·grind
 ·rw[I2 (by omega)] at hi
  have h0:i-I rs=0:=by
   grind
  rw[h0] at hi
  simp at hi;subst hi
  have hik2:i=k:=by omega
  subst hik2
  exact⟨hnm,hf,ht,h1,h2,rfl⟩
noncomputable def Ea:=yl ml
abbrev qg(l:List UInt8)(a:Nat)(S Pl:List (List UInt8))(ag:Int)(rs:List cm)(r:cm):St:=⟨[G (cn l a),G zM,G (j8 S Pl ag rs),G (cR r)],[(2,14,rs.map Aj)]⟩
noncomputable abbrev At2:=fun a₀ b₀ c₀ d₀=>Aa PP 7 [bq 0 0,di 2] (dz a₀ b₀) (di c₀) (dz a₀ d₀)
theorem VO(l:List UInt8)(hl:I l<=200)(S Pl:List (List UInt8))(hPl:1<=I Pl/\Pl.length<=2)(ag:Int)(k:Nat)(hk:k<=2)(rs:List cm)(hrs:I rs=k)(nm:List UInt8)(f t:Int)(tk:List Tk)(a:Nat)(ha:a<=I l)
  (next:∀(mk:List Int) (b:Nat),b<=I l->(mk=[]∨∃q:Int,(0<=q/\q<I Pl)/\mk=[q])->∃(m:cx) (a':Nat),BB m/\a'<=I l/\Rn PP ml 1 (Af m) (dz l a') ([zu ml 116,.blk 0,zt ml 15]++[]) (cz 94 [(0,.ptr 0 0),(2,.ptr 1 0),(3,.ptr 2 0),(4,zw k)]) (pu l b S Pl ag (rs++[du nm f t tk mk]))):
  ∃(m:cx) (a':Nat),BB m/\a'<=I l/\BS (CN 1) PP (fun env σ1=>A7 PP ml env σ1 (Af m) (dz l a')) [KI.code (sub Ea [1,1,0,1,0,0,1,0,0,1,1,0,1]),KI.code (sub Ea [1,1,0,1,0,0,1,0,0,1,1,1]),bh 1,KI.code (sub Ea [1,1,0,1,0,0,1,1]),KI.lp (sub Ea [1,1,0,1,0,0]),bh 0,KI.code (sub Ea [1,1,1])] (AR (sub Ea [1,1,0,1,0,0,1,0,0,1,1,0,0])) (W 0 (AR (sub Ea [1,1,0,1,0,0,1,0,0,1,1,0,0])).toList) (cz 94 [(0,.ptr 0 0),(2,.ptr 1 0),(3,.ptr 2 0),(4,di k),(5,.ptr 3 0)]) (qg l a S Pl ag rs (du nm f t tk [])):=by
 obtain⟨x,b,x1,x2,x3,x4⟩:=A6 l hl a ha 2 (by decide) (by decide)
 have hPm:(I (Pl.map ab):Int)=(I Pl:Int):=by grind
 by_cases hx:(x==0)=J
 ·obtain⟨q,c,q1,q2,q3,q4⟩:=A6 l hl b x3 (I Pl) (by omega) (by omega)
  obtain⟨m,a',m1,m2,m3⟩:=next [q] c q3 (.inr ⟨q,⟨q1,q2⟩,rfl⟩)
  refine⟨m,a',m1,m2,?_⟩
  refine OH mixed 94 [] 9 0 (.c1 (cn l b) (di x)<|.t<|.c1 (cn l c) (di q)<|.ls [ke 0,ke 2,ke 3,ch 4 (zw k)] (pu l c S Pl ag (rs++[du nm f t tk [q]]))) ?_
  refine fu (by kernel_rfl:(Aa PP 7 [bq 0 0,di 2] (dz l a) (di x) (dz l b)/\(x==0)=J/\Aa PP 7 [bq 0 0,di (I (U ab Pl):Int)] (dz l b) (di q) (dz l c)/\Q (U Aj rs)/\Ao (I (U Aj rs)+I (aa (ab (du nm f t tk []).name::a8 yt (du nm f t tk []).ai::a8 yt (du nm f t tk []).to::cy (du nm f t tk []).ak::cy (du nm f t tk []).aj::cy (du nm f t tk []).move::a8 yt (du nm f t tk []).chan::a8 yt (du nm f t tk []).act::a8 yt (du nm f t tk []).letter::cy (du nm f t tk []).path::cy (du nm f t tk []).next::AH (du nm f t tk []).aq::ae (a8 yt q::nV)::a8 yt (du nm f t tk []).second::nV)::nV)) 232/\di (yu yt ((k:Int)+1))=zw k/\[G (cn l c),G zM,G [di 5,bt (cc S),bt (cc Pl),dn,dn,di 0,di ag,br 2 (U Aj rs++aa (ab (du nm f t tk []).name::vi (du nm f t tk []).ai::vi (du nm f t tk []).to::cy (du nm f t tk []).ak::cy (du nm f t tk []).aj::cy (du nm f t tk []).move::vi (du nm f t tk []).chan::vi (du nm f t tk []).act::vi (du nm f t tk []).letter::cy (du nm f t tk []).path::cy (du nm f t tk []).next::AH (du nm f t tk []).aq::ae (vi q::nV)::vi (du nm f t tk []).second::nV)::nV),di 0,dn]]=[G (cn l c),G zM,G (j8 S Pl ag (rs++[du nm f t tk [q]]))]/\[(2,14,U Aj rs++aa (ab (du nm f t tk []).name::vi (du nm f t tk []).ai::vi (du nm f t tk []).to::cy (du nm f t tk []).ak::cy (du nm f t tk []).aj::cy (du nm f t tk []).move::vi (du nm f t tk []).chan::vi (du nm f t tk []).act::vi (du nm f t tk []).letter::cy (du nm f t tk []).path::cy (du nm f t tk []).next::AH (du nm f t tk []).aq::ae (vi q::nV)::vi (du nm f t tk []).second::nV)::nV)]=[(2,14,U Aj (rs++[du nm f t tk [q]]))]/\I0 ml 1 (Af m) (dz l a') [zu ml 116,bh 0,zt ml 15] (cz 94 [(0,bq 0 0),(2,bq 1 0),(3,bq 2 0),(4,zw k)]) (pu l c S Pl ag (rs++[du nm f t tk [q]])))=_) ?_
  rw[hPm]
  repeat' first|with_reducible refine And.intro ?_ ?_
  all_goals first|exact x4|exact hx|exact q4|exact⟨m3⟩|exact Ac|rfl|skip
  all_goals first|exact I6 (fun z=>[G (cn l c),G zM,G [di 5,.v (cc S),.v (cc Pl),.v .nils,.v .nils,di 0,di ag,.acc 2 z,di 0,.v .nils]]) (Dk rs (du nm f t tk [q]))|exact I6 (fun z=>[(2,14,z)]) (Dk rs (du nm f t tk [q]))|(simp only[HJ,HP,HT];omega)
 ·have hx:(x==0)=O:=by grind
  obtain⟨m,a',m1,m2,m3⟩:=next [] b x3 (.inl rfl)
  refine⟨m,a',m1,m2,?_⟩
  refine OH mixed 94 [] 9 0 (.c1 (cn l b) (di x)<|.f<|.ls [ke 0,ke 2,ke 3,ch 4 (zw k)] (pu l b S Pl ag (rs++[du nm f t tk []]))) ?_
  refine fu (by kernel_rfl:(Aa PP 7 [bq 0 0,di 2] (dz l a) (di x) (dz l b)/\(x==0)=O/\Q (U Aj rs)/\Ao (I (U Aj rs)+I (Aj (du nm f t tk [])::nV)) 232/\di (yu yt ((k:Int)+1))=zw k/\[G (cn l b),G zM,G [di 5,bt (cc S),bt (cc Pl),dn,dn,di 0,di ag,br 2 (U Aj rs++Aj (du nm f t tk [])::nV),di 0,dn]]=[G (cn l b),G zM,G (j8 S Pl ag (rs++[du nm f t tk []]))]/\[(2,14,U Aj rs++Aj (du nm f t tk [])::nV)]=[(2,14,U Aj (rs++[du nm f t tk []]))]/\I0 ml 1 (Af m) (dz l a') [zu ml 116,bh 0,zt ml 15] (cz 94 [(0,bq 0 0),(2,bq 1 0),(3,bq 2 0),(4,zw k)]) (pu l b S Pl ag (rs++[du nm f t tk []])))=_) ?_
  repeat' first|with_reducible refine And.intro ?_ ?_
  all_goals first|exact x4|exact hx|exact⟨m3⟩|exact Ac|rfl|skip
  all_goals first|exact I6 (fun z=>[G (cn l b),G zM,G [di 5,.v (cc S),.v (cc Pl),.v .nils,.v .nils,di 0,di ag,.acc 2 z,di 0,.v .nils]]) (Dk rs (du nm f t tk []))|exact I6 (fun z=>[(2,14,z)]) (Dk rs (du nm f t tk []))|(simp only[HJ,HP,HT];omega)
theorem AfO(l:List UInt8)(hl:I l<=200)(S Pl:List (List UInt8))(ag:Int)(hS:S=[[97]]∨S=[[97],[98]])(hP:Pl=[[120]]∨Pl=[[120],[121]])(hag:0<=ag/\ag<=1)(n:Nat):∀(k a:Nat) (rs:List cm),2-k=n->a<=I l->k<=2->I rs=k->(∀i r,rs[i]?=G r->PK (I S) (I Pl) ag i r)->
  ∃(m:cx) (a':Nat),BB m/\a'<=I l/\Rn PP ml 1 (Af m) (dz l a') ([zu ml 116,.blk 0,zt ml 15]++[]) (cz 94 [(0,.ptr 0 0),(2,.ptr 1 0),(3,.ptr 2 0),(4,di k)]) (pu l a S Pl ag rs):=by
 induction n using Nat.strongRecOn with
 |_ n ih=>
 intro k a rs hn ha hk2 hrs hR
 have hSl:1<=I S/\S.length<=2:=by grind
 have hPl:1<=I Pl/\Pl.length<=2:=by grind
 have hSm:(I (S.map ab):Int)=(I S:Int):=by grind
 have hPm:(I (Pl.map ab):Int)=(I Pl:Int):=by grind
 have wag:yu yt (ag+2)=ag+2:=An
 obtain⟨r,a1,h1,h2,h3,h4⟩:=A6 l hl a ha 2 (by decide) (by decide)
 by_cases hk:(k:Int)<1+r
 ·obtain⟨f,a2,f1,f2,f3,f4⟩:=A6 l hl a1 h3 (I S) (by omega) (by omega)
  obtain⟨t,a3,t1,t2,t3,t4⟩:=A6 l hl a2 f3 (I S) (by omega) (by omega)
  obtain⟨nm,hnm⟩:∃nm,te[k]?=G nm:=⟨_,HK (show k<I te by grind)⟩
  have hkr:Y ((k:Int)<yu yt (1+r))=J:=by grind[An]
  obtain⟨u,a4,u1,u2,u3,u4⟩:=A6 l hl a3 t3 2 (by decide) (by decide)
  have nx:∀(tk:List Tk),(tk=[]∨∃p' lo' hi':Int,(0<=p'/\p'<I Pl)/\(0<=lo'/\lo'<=hi'/\hi'<=ag+1)/\tk=[⟨p',lo',hi'⟩])->∀(mk:List Int) (b:Nat),b<=I l->(mk=[]∨∃q:Int,(0<=q/\q<I Pl)/\mk=[q])->_:=fun tk htk mk b hb hmk=>ih (2- (k+1)) (by omega) (k+1) b (rs++[du nm f t tk mk]) rfl hb (by omega) (by simp[hrs]) (Aow hnm ⟨f1,f2⟩ ⟨t1,t2⟩ htk hmk hrs hR)
  clear ih
  by_cases hu:(u==0)=J
  ·obtain⟨lo,a5,lo1,lo2,lo3,lo4⟩:=A6 l hl a4 u3 (ag+2) (by omega) (by omega)
   obtain⟨p,a6,p1,p2,p3,p4⟩:=A6 l hl a5 lo3 (I Pl) (by omega) (by omega)
   obtain⟨hi,a7,hi1,hi2,hi3,hi4⟩:=A6 l hl a6 p3 (ag+2-lo) (by omega) (by omega)
   have wlo:yu yt (ag+2-lo)=ag+2-lo:=An
   have whi:yu yt (lo+hi)=lo+hi:=An
   obtain⟨m,a',m1,m2,m3⟩:=VO l hl S Pl hPl ag k hk2 rs hrs nm f t [⟨p,lo,lo+hi⟩] a7 hi3 (nx _ (.inr ⟨p,lo,lo+hi,⟨p1,p2⟩,⟨lo1,by omega,by omega⟩,rfl⟩))
   refine⟨m,a',m1,m2,?_⟩
   refine zp (.c1 (cn l a1) (di r)<|.t<|.h (.dr 15)<|.x (.str nm)<|.c1 (cn l a2) (di f)<|.c1 (cn l a3) (di t)<|.c1 (cn l a4) (di u)<|.t<|.c1 (cn l a5) (di lo)<|.c1 (cn l a6) (di p)<|.c1 (cn l a7) (di hi)<|.h (.q 9 0)<|.h (.cs (qg l a7 S Pl ag rs (du nm f t [⟨p,lo,lo+hi⟩] [])))<|.h (.s [ke 0,ke 2,ke 3,ke 4,ke 5]) .z) (type_of% h4/\ye k (yu yt (1+r))/\y6 k/\zy [ab (bf #[114]).data.toList,ab (bf #[115]).data.toList] k (ab nm)/\Aa PP 7 [bq 0 0,di (I (U ab S):Int)] (dz l a1) (di f) (dz l a2)/\Aa PP 7 [bq 0 0,di (I (U ab S):Int)] (dz l a1) (di f) (dz l a2)/\Q (di f)/\Aa PP 7 [bq 0 0,di (I (U ab S):Int)] (dz l a2) (di t) (dz l a3)/\Aa PP 7 [bq 0 0,di (I (U ab S):Int)] (dz l a2) (di t) (dz l a3)/\Q (di t)/\Q (U (fun st=>bi [G (cn l st),G zM,G (j8 S Pl ag rs),G p8] [(2,14,U Aj rs)]) [a1,a2,a3])/\((yh (Q (G [bt (cc S)])))/\(yh (Q (G [bt (cc S)])))/\True)/\type_of% u4/\(u==0)=J/\Aa PP 7 [bq 0 0,di (yu yt (ag+2))] (dz l a4) (di lo) (dz l a5)/\Aa PP 7 [bq 0 0,di (I (U ab Pl):Int)] (dz l a5) (di p) (dz l a6)/\Aa PP 7 [bq 0 0,di (yu yt (yu yt (ag+2)-lo))] (dz l a6) (di hi) (dz l a7)/\(True/\(Q (G [di ag])/\True)/\True)/\(∀(e:List D) (E:c9) (g:Gh) (a:Act) (w:x5),FI E g (bi [G (cn l a7),G zM,G (j8 S Pl ag rs),G [bt (ab nm),bt (a8 yt f),bt (a8 yt t),bt (ae []),bt (ae []),bt (ae []),bt (a8 yt 0),bt (a8 yt 0),bt (a8 yt 0),bt (ae []),bt (ae []),bt (ae [aa [a8 yt p,a8 yt lo,a8 yt (yu yt (lo+hi))]]),bt (ae []),bt (a8 yt 0)]] [(2,14,U Aj rs)]) e a w->∃g',FI E g' (qg l a7 S Pl ag rs (du nm f t [Tk.mk p lo (lo+hi)] [])) e a w)/\It (type_of% m3)) ?_
   rw[hSm,hPm,wag,wlo,whi]
   repeat' first|with_reducible refine And.intro ?_ ?_
   all_goals first|exact h4|exact hkr|exact f4|exact t4|exact u4|exact hu|exact lo4|exact p4|exact hi4|exact DT hnm|exact⟨m3⟩|exact fun e E g a w h=>⟨g,h⟩|omega|rfl|trivial
  ·have hu:(u==0)=O:=by grind
   obtain⟨m,a',m1,m2,m3⟩:=VO l hl S Pl hPl ag k hk2 rs hrs nm f t [] a4 u3 (nx _ (.inl rfl))
   refine⟨m,a',m1,m2,?_⟩
   refine zp (.c1 (cn l a1) (di r)<|.t<|.h (.dr 15)<|.x (.str nm)<|.c1 (cn l a2) (di f)<|.c1 (cn l a3) (di t)<|.c1 (cn l a4) (di u)<|.f<|.h (.q 9 0)<|.h (.cs (qg l a4 S Pl ag rs (du nm f t [] [])))<|.h (.s [ke 0,ke 2,ke 3,ke 4,ke 5]) .z) (type_of% h4/\ye k (yu yt (1+r))/\y6 k/\zy [ab (bf #[114]).data.toList,ab (bf #[115]).data.toList] k (ab nm)/\Aa PP 7 [bq 0 0,di (I (U ab S):Int)] (dz l a1) (di f) (dz l a2)/\Aa PP 7 [bq 0 0,di (I (U ab S):Int)] (dz l a1) (di f) (dz l a2)/\Q (di f)/\Aa PP 7 [bq 0 0,di (I (U ab S):Int)] (dz l a2) (di t) (dz l a3)/\Aa PP 7 [bq 0 0,di (I (U ab S):Int)] (dz l a2) (di t) (dz l a3)/\Q (di t)/\Q (U (fun st=>bi [G (cn l st),G zM,G (j8 S Pl ag rs),G p8] [(2,14,U Aj rs)]) [a1,a2,a3])/\((yh (Q (G [bt (cc S)])))/\(yh (Q (G [bt (cc S)])))/\True)/\type_of% u4/\(u==0)=O/\(∀(e:List D) (E:c9) (g:Gh) (a:Act) (w:x5),FI E g (bi [G (cn l a4),G zM,G (j8 S Pl ag rs),G [bt (ab nm),bt (a8 yt f),bt (a8 yt t),bt (ae []),bt (ae []),bt (ae []),bt (a8 yt 0),bt (a8 yt 0),bt (a8 yt 0),bt (ae []),bt (ae []),bt (ae []),bt (ae []),bt (a8 yt 0)]] [(2,14,U Aj rs)]) e a w->∃g',FI E g' (qg l a4 S Pl ag rs (du nm f t [] [])) e a w)/\It (type_of% m3)) ?_
   rw[hSm]
   repeat' first|with_reducible refine And.intro ?_ ?_
   all_goals first|exact h4|exact hkr|exact f4|exact t4|exact u4|exact hu|exact DT hnm|exact⟨m3⟩|exact fun e E g a w h=>⟨g,h⟩|omega|rfl|trivial
 ·obtain⟨m0',hm0⟩:∃m0':cx,m0'=⟨5,S,Pl,[],[],0,ag,rs,.mk 0 []⟩:=⟨_,rfl⟩
  obtain⟨s,ts,a2,s1,s2,s3,s4⟩:=Amm l hl m0' (by grind) (by grind) (by grind) a1 h3
  refine⟨⟨5,S,Pl,[],[],0,ag,rs,.mk 0 [.mk 0 [],.mk 0 ts]⟩,a2,⟨rfl,hS,hP,rfl,rfl,rfl,hag,by grind,by grind,hR,ts,by grind,rfl⟩,s3,?_⟩
  refine zp (.c1 (cn l a1) (di r)<|.f<|.h (.oc (.dagg [di 0,.arr 3 0 2]) ⟨[G (cn l a2),G zM,G (j8 S Pl ag rs),G [di s,co [],di 0,co ts]],[(2,14,rs.map Aj)]⟩)<|.h .ww<|.m (.arr 3 0 2)<|.h (.q 14 0)<|.h (.cs ⟨[G (cn l a2),G zM,G [di 5,.v (cc S),.v (cc Pl),.v .nils,.v .nils,di 0,di ag,.acc 2 (rs.map Aj),di 0,.v (.list [Ad (.mk 0 []),Ad (.mk 0 ts)])],none],[(2,14,rs.map Aj)]⟩) .r) (_/\yd k (yu yt (1+r))/\(∀(o:yy) (c:Call) (fo:x8),o.op=Op.call c->c.callee=Callee.value fo->Ak PP o [bt (bw 69 [] []),bq 0 0,bt (aa [vi 5,cc S,cc Pl,bv,bv,vi 0,vi ag,ae (U Aj rs),vi 0,bv]),di 2] (bi [G (cn l a1),G zM,G (j8 S Pl ag rs)] [(2,14,U Aj rs)]) (bj [di 0,bo 3 0 2]) (bi [G (cn l a2),G zM,G (j8 S Pl ag rs),G [di s,co [],di 0,co ts]] [(2,14,U Aj rs)]))/\10<=10/\Q (G (bo 3 0 2))/\iz 0<=0/\0<(↑2:Int)/\(∀(e:List D) (E:c9) (g:Gh) (a:Act) (w:x5),FI E g (bi [G (cn l a2),G zM,G (take (Nat.add 0 8) (j8 S Pl ag rs)++A2 (bj [di 0,bo 3 0 2])++W (Nat.add 0 8+2) (j8 S Pl ag rs)),G [di 0,co [],di 0,co ts]] [(2,14,U Aj rs)]) e a w->∃g',FI E g' (bi [G (cn l a2),G zM,G [di 5,bt (cc S),bt (cc Pl),dn,dn,di 0,di ag,br 2 (U Aj rs),di 0,bt (ae [Ad (b9.mk 0 []),Ad (b9.mk 0 ts)])],none] [(2,14,U Aj rs)]) e a w)/\Q [G (cn l a2)]/\bt (aa [vi 5,ae (U ab S),ae (U ab Pl),ae [],ae [],vi 0,vi ag,ae (U Aj rs),vi 0,ae [Ad (b9.mk 0 []),Ad (b9.mk 0 ts)]])=Af (cx.mk 5 S Pl [] [] 0 ag rs (b9.mk 0 [b9.mk 0 [],b9.mk 0 ts]))) ⟨h4,HO (by grind[An]),fun o c fo ho hc=>?_,by decide,rfl,by decide,by decide,?_,rfl,?_⟩
  ·refine BY (ds':=[.v (.fn 69 [] []),.ptr 0 0,Af m0',di 2]) (fun g us h=>by rw[hm0];exact Dz (ts:=[]) (kn:=false) h) ?_
   have h:=BE (σ:=⟨[G (cn l a1),G zM,G (j8 S Pl ag rs)],[(2,14,rs.map Aj)]⟩) ho hc (fD:=.v (.fn 69 [] [])) rfl (ds:=[.ptr 0 0,Af m0',di 2]) [0] id s4 (.cons (.ren (dc:=.ptr 0 0) rfl) (.cons (.ren (dc:=Af m0') rfl) (.cons (.ren (dc:=di 2) rfl) .nil)))
    (.cons rfl (.cons (.ren (dc:=.v (j1 l)) rfl) (.cons (.ren (dc:=di a1) rfl) .nil)) (by rfl) .nil) (by simp) rfl (by simp) (by simp) (by simp[D.okN,D.okNs]) (by simp[cp,D.okNs,D.okN])
   exact h
  ·intro e
   exact BA (σ:=⟨[G (cn l a2),G zM,G [di 5,.v (cc S),.v (cc Pl),.v .nils,.v .nils,di 0,di ag,.acc 2 (rs.map Aj),di 0,.arr 3 0 2],G (Ab [Ad (.mk 0 []),Ad (.mk 0 ts)])],[(2,14,rs.map Aj)]⟩) (p:=2) (q:=3) (i:=9) (sz:=2) (cs:=[di 5,.v (cc S),.v (cc Pl),.v .nils,.v .nils,di 0,di ag,.acc 2 (rs.map Aj),di 0,.arr 3 0 2]) (xs:=[Ad (.mk 0 []),Ad (.mk 0 ts)]) (by decide) rfl rfl (by decide) rfl (fun x hx=>by simp at hx;rcases hx with rfl|rfl<;>rfl) e
  ·show bt (aa [vi 5,cc S,cc Pl,cc [],cy [],vi 0,vi ag,Hk rs,vi 0,ae [Ad (.mk 0 []),Ad (.mk 0 ts)]])=_
   rw[←AE, ←AE];rfl
noncomputable abbrev Aua:=[ab (bf #[97]).data.toList,ab (bf #[98]).data.toList]
theorem Anz(l:List UInt8)(hl:I l<=200)(a:Nat)(ha:a<=I l):
  ∃(m:cx) (a':Nat),BB m/\a'<=I l/\Aa PP 33 [.ptr 0 0] (dz l a) (Af m) (dz l a'):=by
 obtain⟨r1,a1,p1,p2,p3,p4⟩:=A6 l hl a ha 2 (by decide) (by decide)
 obtain⟨r2,a2,q1,q2,q3,q4⟩:=A6 l hl a1 p3 2 (by decide) (by decide)
 obtain⟨ag,a3,u1,u2,u3,u4⟩:=A6 l hl a2 q3 2 (by decide) (by decide)
 obtain⟨n1,rfl⟩:∃n:Nat,r1=n:=⟨r1.toNat,by omega⟩
 obtain⟨n2,rfl⟩:∃n:Nat,r2=n:=⟨r2.toNat,by omega⟩
 obtain⟨S,hS⟩:∃S,S=([[97],[98]]:List (List UInt8)).take (1+n1):=⟨_,rfl⟩
 obtain⟨Pl,hPl⟩:∃S,S=([[120],[121]]:List (List UInt8)).take (1+n2):=⟨_,rfl⟩
 have hSx:S=[[97]]∨S=[[97],[98]]:=by
  rcases(show n1=0∨n1=1 by omega) with rfl|rfl
  ·exact .inl hS
  ·exact .inr hS
 have hPx:Pl=[[120]]∨Pl=[[120],[121]]:=by
  rcases(show n2=0∨n2=1 by omega) with rfl|rfl
  ·exact .inl hPl
  ·exact .inr hPl
 obtain⟨m,a',m1,m2,m3⟩:=AfO l hl S Pl ag hSx hPx ⟨u1,by omega⟩ _ 0 a3 [] rfl u3 (by omega) rfl (by simp)
 refine⟨m,a',m1,m2,?_⟩
 refine zq ml 94 (.h (.dr 13)<|.c1 (cn l a1) (di n1)<|.c1 (cn l a2) (di n2)<|.c1 (cn l a3) (di ag)<|.h .rn<|.h (.q 2 0)<|.h (.cl 2 7 2 14)<|.ls [ke 0,ke 2,ke 3,ch 4 (di (0:Nat))] (pu l a3 S Pl ag [])) (ka l a n1 a1/\ka l a n1 a1/\Q (di (n1:Int))/\(∀(x:V),x∈ Aua->V.size x=1)/\0<=(yu yt (gi n1))/\(yu yt (gi n1))<=(↑(I Aua):Int)/\ka l a1 n2 a2/\ka l a1 n2 a2/\Q (di (n2:Int))/\(∀(x:V),x∈ o4->V.size x=1)/\0<=(yu yt (gi n2))/\(yu yt (gi n2))<=(↑(I o4):Int)/\At2 l a2 ag a3/\At2 l a2 ag a3/\Q (di ag)/\Q (U (fun st=>bi [G (cn l st),G jo,G jo] []) [a,a1,a2,a3])/\True/\di 0=di (↑0:Int)/\[G (cn l a3),G jo,G [di 5,bt (ae (W 0 (take (Z ((yu yt (gi n1)))) (ab (bf #[97]).data.toList::ab (bf #[98]).data.toList::nV)))),bt (ae (W 0 (take (Z ((yu yt (gi n2)))) (ab (bf #[120]).data.toList::ab (bf #[121]).data.toList::nV)))),dn,dn,di 0,di ag,br 2 nV,di 0,dn]]=[G (cn l a3),G zM,G (j8 S Pl ag [])]/\Q [(2,14,nV)]/\It (type_of% m3)) ?_
 have w1:yu yt (1+(n1:Int))=1+n1:=An
 have w2:yu yt (1+(n2:Int))=1+n2:=An
 have z1:∀x∈ [ab [97],ab [98]],x.size=1:=by simp[V.size]
 have z2:∀x∈ [ab [120],ab [121]],x.size=1:=by simp[V.size]
 have k1:ae (W 0 (take (1+(n1:Int)).toNat [ab [97],ab [98]]))=cc S:=by
  rw[hS,JG,show(1+(n1:Int)).toNat=1+n1 by omega]
  rcases(show n1=0∨n1=1 by omega) with rfl|rfl<;>rfl
 have k2:ae (W 0 (take (1+(n2:Int)).toNat [ab [120],ab [121]]))=cc Pl:=by
  rw[hPl,JG,show(1+(n2:Int)).toNat=1+n2 by omega]
  rcases(show n2=0∨n2=1 by omega) with rfl|rfl<;>rfl
 rw[w1,w2]
 refine⟨p4,p4,rfl,z1,by show 0<=1+(n1:Int);omega,by show 1+(n1:Int)<=2;omega,q4,q4,rfl,z2,by show 0<=1+(n2:Int);omega,by show 1+(n2:Int)<=2;omega,u4,u4,rfl,rfl,trivial,rfl,?_,rfl,⟨m3⟩⟩
 grind
def UV(P:x7)(t:x6):Bool:=match P.underlying t with
 |some (.int .i64)=>true
 |_=>false
theorem Lc{P:x7}{t:x6}(h:UV P t=J):P.underlying t=G (.int .i64):=by
 unfold UV at h
 split at h
 ·assumption
 ·simp at h
def MM(P:x7)(t:x6):Bool:=match (P.fieldsOf t).toList with
 |[f,g,h]=>f.name !="_"&&g.name !="_"&&h.name !="_"&&f.offset==0&&g.offset==1&&h.offset==2&&P.plainKey f.type&&P.plainKey g.type&&P.plainKey h.type&&UV P f.type&&UV P g.type&&UV P h.type
 |_=>false
theorem AkL{P:x7}{t:x6}(h2:MM P t=J)(ht:P.underlying t=G (.struct (P.fieldsOf t)))(hp:P.stoodInHeld t=O)(d:Nat)(a b c:Int)(w:x5):
  (Op.equalIn (d+2) t (.agg #[.int .i64 a,.int .i64 b,.int .i64 c]) (.agg #[.int .i64 a,.int .i64 b,.int .i64 c])).run P w=.ok true w:=by
 rw[run_equalIn_struct w (d+1) t _ _ ht hp]
 unfold MM at h2
 split at h2
 ·rename_i f g h hfs
  rw[hfs]
  simp only[HL,bne_iff_ne,IJ] at h2
  obtain⟨⟨⟨⟨⟨⟨⟨⟨⟨⟨⟨n1,n2⟩,n3⟩,o1⟩,o2⟩,o3⟩,p1⟩,p2⟩,p3⟩,u1⟩,u2⟩,u3⟩:=h2
  have e1:∀w,(part f.type #[.int .i64 a,.int .i64 b,.int .i64 c] f.offset).run P w=.ok (.int .i64 a) w:=fun w=>run_part_plain w p1 (by rw[o1];rfl)
  have e3:∀w,(part g.type #[.int .i64 a,.int .i64 b,.int .i64 c] g.offset).run P w=.ok (.int .i64 b) w:=fun w=>run_part_plain w p2 (by rw[o2];rfl)
  have e5:∀w,(part h.type #[.int .i64 a,.int .i64 b,.int .i64 c] h.offset).run P w=.ok (.int .i64 c) w:=fun w=>run_part_plain w p3 (by rw[o3];rfl)
  simp only[Op.eqFields,ne_eq,n1,n2,n3,not_false_eq_true,Jz,Sem.run_bind,e1,Result.andThen_ok,run_equalIn_int _ d _ .i64 .i64 _ _ (Lc u1)]
  have u2':=fun w=>run_equalIn_int (P:=P) w d g.type .i64 .i64 b b (Lc u2)
  have u3':=fun w=>run_equalIn_int (P:=P) w d h.type .i64 .i64 c c (Lc u3)
  simp[Sem.run_ite,e3,u2',e5,u3']
 ·simp at h2
abbrev oo:x6:=94
theorem AfK:MM PP oo=J:=by kernel_rfl
theorem AqL:PP.underlying oo=G (.struct (PP.fieldsOf oo)):=by kernel_rfl
theorem Ak9:PP.stoodInHeld oo=O:=by kernel_rfl
theorem AfL:PP.eqGuardType PP.depth oo=O:=by kernel_rfl
theorem Anw:Tw PP oo 3:=by unfold Tw;kernel_rfl
theorem AgO{o:yy}{σ:St}{ty:x6}{x y:x8}(ho:o.op=.binOp .neq oo x y ty)(a:Tk):Ak PP o [.v (d9 a),.v (d9 a)] σ (db O) σ:=by
 refine A8 fun E g ρ w hw hds=>?_
 simp only[ho,Op.operands,Ax] at hds
 obtain⟨u,v,e,h1,h2'⟩:=hds
 simp only[I9,Jo,HX,IL] at e
 obtain⟨e1,e2⟩:=e
 simp only[Ah,Cx] at h1 h2'
 obtain⟨ws,h1,rfl⟩:=h1
 obtain⟨vs,h3,rfl⟩:=h2'
 have hw1:ws=[.int .i64 a.1,.int .i64 a.2,.int .i64 a.3]:=by
  simp only[repA,repC,HX,IL] at h1
  obtain⟨u,us,rfl,_,rfl,u2,us2,rfl,_,rfl,u3,us3,rfl,_,rfl,rfl⟩:=h1;rfl
 have hw2:vs=[.int .i64 a.1,.int .i64 a.2,.int .i64 a.3]:=by
  simp only[repA,repC,HX,IL] at h3
  obtain⟨u,us,rfl,_,rfl,u2,us2,rfl,_,rfl,u3,us3,rfl,_,rfl,rfl⟩:=h3;rfl
 subst hw1 hw2
 refine⟨.bool false,?_,by simp[Ah]⟩
 have hr:=AkL AfK AqL Ak9 9998 a.1 a.2 a.3 w
 simp[execOp,ho,e1,e2,run_eqGuard_agg w .neq oo x y _ _ AfL,run_neq_struct,hr]
theorem AlM(a:Tk):F0 207 [.v (AH [a]),.v (AH [a])] (db J):=by
 exact zq As6 26 (.n<|.x (d9 a)<|.x (d9 a)<|.h (.p (.v (d9 a)))<|.h (.p (db O))<|.n<|.r) (iz 0<=0/\Q (G (d9 a))/\iz 0<=0/\Q (G (d9 a))/\(∀(τ:St),Ak PP (Oper.mk (G 23) (Op.load 94 (Operand.tmp 22)) 94 "slices.go:25" #[Edge.mk 6 Ground.data] none) [bt (bz (d9 a))] τ (bt (d9 a)) τ)/\(∀(τ:St),Ak PP (Oper.mk (G 24) (Op.binOp BinOp.neq 94 (Operand.tmp 19) (Operand.tmp 23) 94) 4 "slices.go:25" #[Edge.mk 3 Ground.data,Edge.mk 7 Ground.data] none) [bt (d9 a),bt (d9 a)] τ (db O) τ)/\Q (db J)) ⟨by decide,rfl,by decide,rfl,fun τ=>Gf rfl Anw,fun τ=>AgO rfl a,rfl⟩
theorem Aij(l:List Tk)(h:I l<=1):F0 207 [.v (AH l),.v (AH l)] (db J):=by
 match l,h with
 |[],_=>exact AdH []
 |[a],_=>exact AlM a
theorem Agi(l:List Int)(h:I l<=1):F0 201 [cw l] (db J):=by
 match l,h with
 |[],_=>
  refine zq As1 21 (.n<|.r) (Q (db J)) ?_
  rfl
 |[a],_=>
  refine zq As1 21 (.n<|.r) (Q (db J)) ?_
  rfl
theorem Aja(n:Nat)(hn:n<=1000000)(x:Int):F0 202 [di x,.v (.ref (vi n))] (db (A4 x 0 (n-1))):=by
 exact zq Atk 7 (.c (db (A4 x 0 (n-1))) .r) (_/\Q (db (A4 x 0 ((n:Int)-1)))) ⟨CD x n hn,rfl⟩
theorem Aqi(m:cx)(hm:I m.ay<=1000000)(hag:0<=m.age/\m.age<=1000)(t:Tk)(h1:0<=t.place/\t.place<I m.ay)(h2:0<=t.low/\t.low<=t.high/\t.high<=m.age+1):F0 204 [.v (d9 t),.v (.ref (vi (I m.ay))),.v (.ref (Aq m))] (db O):=by
 refine sv Atj 30 [3] (.c (db J)<|.k<|.f<|.f<|.r) (F0 138 [di t.place,di (I m.ay:Int)] (db J)/\yd t.low 0/\yb t.low t.high/\db (Y (t.high>yu yt (m.age+1)))=db O) ?_
 have h:=CD t.place (I m.ay) hm
 rw[show A4 t.place 0 ((I m.ay:Int)-1)=J by simp[A4];omega] at h
 refine⟨h,yq,yq,?_⟩
 rw[An,yq]
theorem YC(F:yx)(cs:List V)(l:List Tk)(h:I l<=1)(hp:∀x∈l,F0 F ((([]:List V)++[d9 x]++cs).map .v) (db O)):F0 203 [.v (AH l),.v (.fn F [] cs)] (db O):=by
 have hi:F0 248 [.v (AH l),.v (.fn F [] cs)] (di (-1)):=by
  match l,h with
  |[],_=>
   refine zq Apc 19 (.n<|.r) (Q (di (-1))) ?_
   rfl
  |[a],_=>
   exact zq Apc 19 (.n<|.x (d9 a)<|.c (db O)<|.n<|.r) (iz 0<=0/\Q (G (d9 a))/\F0 F (bt (d9 a)::U bt ([]++cs)) (db O)/\Q (di (-1))) ⟨by decide,rfl,by simpa using hp a (by simp),rfl⟩
 exact zq Api 9 (.c (di (-1)) .r) (_/\db (Y (-1>=0))=db O) ⟨hi,rfl⟩
theorem Aqh(m:cx)(hm:I m.ay<=1000000)(hag:0<=m.age/\m.age<=1000)(r:cm)(h1:I r.aq<=1)(h2:I r.ao<=1)(h3:∀t∈r.aq,(0<=t.place/\t.place<I m.ay)/\(0<=t.low/\t.low<=t.high/\t.high<=m.age+1))(h4:∀x∈r.ao,0<=x/\x<I m.ay):F0 143 [Af m,BK r] (db J):=by
 refine sv Ati 37 [2,3] (.h (.q 2 0)<|.h (.f1 0 [5])<|.t<|.t<|.c (db J)<|.k<|.c (db J)<|.k<|.c (db O)<|.r) (ya (I (U d9 r.aq)) 3/\ya (I (dt r.ao)) 3/\_/\F0 144 [cw r.ao,bt (bw 202 [] [bz (vi (I (df m.ay):Int))])] (db J)/\F0 203 [bt (AH r.aq),bt (bw 204 [] [bz (vi (I (df m.ay):Int)),bz (Aq m)])] (db O)/\Q (db J)) ⟨HM (by rw[HJ];omega),HM (by rw[HJ];omega),Agi _ h2,?_,?_,rfl⟩
 ·rw[HJ]
  have h:=Ht 202 [] [.ref (vi (I m.ay))] (fun x=>A4 x 0 ((I m.ay:Int)-1)) r.ao (by omega) (fun x _=>Aja (I m.ay) hm x)
  rwa[show(r.ao.all fun x=>A4 x 0 ((I m.ay:Int)-1))=J from by
   rw[IU];intro x hx;have:=h4 x hx;simp[A4];omega] at h
 ·rw[HJ]
  exact YC _ _ r.aq h1 fun x hx=>Aqi m hm hag x (h3 x hx).1 (h3 x hx).2
theorem Agu(nm:List UInt8)(f t:Int)(tk:List Tk)(mk:List Int)(h1:I tk<=1)(h2:I mk<=1):F0 146 [BK (du nm f t tk mk),BK (du nm f t tk mk)] (db J):=by
 have e:∀l:List Int,I l<=1000000->F0 206 [.v (cy l),.v (cy l)] (db J):=fun l hl=>by simpa using EA l l hl
 have n0:=e [] (by decide)
 exact sv AoL 101 [2,3] (.t<|.t<|.t<|.c (db J)<|.k<|.c (db J)<|.k<|.c (db J)<|.k<|.k<|.k<|.k<|.c (db J)<|.k<|.c (db J)<|.k<|.c (db J)<|.k<|.c (db J)<|.k<|.r) (((du nm f t tk mk).name==(du nm f t tk mk).name)=J/\((du nm f t tk mk).ai==(du nm f t tk mk).ai)=J/\((du nm f t tk mk).to==(du nm f t tk mk).to)=J/\_/\_/\_/\_/\_/\_/\_/\Q (db J)) ⟨by simp,by simp,by simp,n0,n0,n0,n0,n0,Aij tk h1,e mk (by omega),by simp⟩
theorem Ab2(m:cx)(hm:I m.ay<=1000000)(hst:I m.aw<=1000000)(hk:m.kind=5)(hag:0<=m.age/\m.age<=1000)(nm:List UInt8)(f t:Int)(tk:List Tk)(mk:List Int)(hf:0<=f/\f<I m.aw)(ht:0<=t/\t<I m.aw)(h1:I tk<=1)(h2:I mk<=1)(h3:∀t∈tk,(0<=t.place/\t.place<I m.ay)/\(0<=t.low/\t.low<=t.high/\t.high<=m.age+1))(h4:∀x∈mk,0<=x/\x<I m.ay):F0 102 [Af m,BK (du nm f t tk mk)] (db J):=by
 have hx:∀x:Int,0<=x->x<I m.aw->F0 138 [di x,di (I (m.aw.map ab):Int)] (db J):=fun x h0 h1=>by
  rw[HJ]
  have h:=CD x (I m.aw) hst
  rwa[show A4 x 0 ((I m.aw:Int)-1)=J by simp[A4];omega] at h
 exact sv S8 142 [2,3] (.c (db J)<|.k<|.c (db J)<|.k<|.k<|.f<|.f<|.f<|.f<|.t<|.c (db J)<|.k<|.c (db J) .r) (_/\_/\(m.kind==1)=O/\(m.kind==2)=O/\(m.kind==3)=O/\(m.kind==4)=O/\(m.kind==5)=J/\_/\_/\Q (db J)) ⟨hx t ht.1 ht.2,hx f hf.1 hf.2,by rw[hk];rfl,by rw[hk];rfl,by rw[hk];rfl,by rw[hk];rfl,by rw[hk];rfl,Aqh m hm hag (du nm f t tk mk) h1 h2 h3 h4,Agu nm f t tk mk h1 h2,rfl⟩
def Az(m:cx):cr:=.prod [.lab (I m.aw),.bag (.prod [.lab (I m.ay),.lab (m.age+2)])]
theorem MI(m:cx)(hk:m.kind=5)(hag:0<=m.age/\m.age<=1000):F0 148 [Af m] (dT (Az m)):=by
 exact sv Ha 70 [1] (.c (dT (.lab (I m.aw)))<|.a 1<|.f<|.t<|.c (dT (.lab (I m.ay)))<|.c (dT (.lab (m.age+2)))<|.c (dT (.bag (.prod [.lab (I m.ay),.lab (m.age+2)])))<|.r) (F0 211 [di (I (U ab m.aw):Int)] (dT (cr.lab (I m.aw:Int)))/\(m.kind==4)=O/\(m.kind==5)=J/\F0 211 [di (I (U ab m.ay):Int)] (dT (cr.lab (I m.ay:Int)))/\F0 211 [di (yu yt (m.age+2))] (dT (cr.lab (m.age+2)))/\_/\Q (vT (cr.lab (I m.aw:Int))::nV)/\Ao 2 64/\Q (dT (Az m))) ⟨by rw[HJ];exact F2 _,by rw[hk];rfl,by rw[hk];rfl,by rw[HJ];exact F2 _,by rw[An];exact F2 _,AcD (.prod [.lab (I m.ay),.lab (m.age+2)]),rfl,⟨by decide,by decide⟩,rfl⟩
theorem Arj(m:cx)(hst:1<=I m.aw/\m.aw.length<=16)(hpl:1<=I m.ay/\m.ay.length<=16)(hag:0<=m.age/\m.age<=3):CW 8 (Az m)=J:=by
 simp only[Az,CW,HP,HT,all_cons,List.all_nil,Bool.and_true,HL,IZ,IM,J8,HU]
 omega
theorem Ant(np age:Int)(t:b9)(h:px np age t):A1 (.prod [.lab np,.lab (age+2)]) t=J:=by
 obtain⟨p,g,h1,h2,rfl⟩:=h
 simp only[A1,b9.n,b9.az,BU,CI,HL,IJ]
 refine⟨?_,?_,⟨?_,?_,?_⟩,⟨?_,?_,?_⟩,?_⟩
 all_goals first|exact HM h1.1|exact HM h1.2|exact HM h2.1|exact HM h2.2|rfl|trivial
theorem VR(l:List b9)(h:∀i x y,l[i]?=G x->l[i+1]?=G y->Ay x y<0):∀k,k<I l->ZO l k=J
 |0,_=>rfl
 |k+1,hk=>by
  have h1:l[k]?=G l[k]:=HK (by omega)
  have h2:l[k+1]?=G l[k+1]:=HK hk
  have h3:=h k _ _ h1 h2
  have h4:=(BF.swap _ _ trivial trivial).1 h3
  rw[ZO,HS,HS,h1,h2,Iz (by show ¬Ay l[k+1] l[k]<0;omega)]
  exact VR l h k (by omega)
theorem AeA(m:cx)(s:Int)(hs:0<=s/\s<I m.aw)(ts:List b9)(h:qp (I m.ay) m.age 2 ts):Al (Az m) (.mk 0 [.mk s [],.mk 0 ts])=J:=by
 have hsz:=Aa6 ts h.tok
 have hl:=h.len
 have hsr:XV ts=J:=by
  unfold XV
  cases ts with
  |nil=>rfl
  |cons t ts=>exact VR _ h.asc _ (by simp)
 rw[Al,HM (by simp only[b9.size,b9.sizes];omega),IG,Az]
 simp only[A1,b9.n,b9.az,BU,CI,HL,IJ,IU]
 refine⟨?_,?_,⟨?_,?_,?_⟩,⟨⟨?_,?_,?_⟩,?_⟩,?_⟩
 all_goals first|exact HM hs.1|exact HM hs.2|exact hsr|(intro t ht;obtain⟨p,g,h1,h2,rfl⟩:=h.tok t ht;have:=Ant _ _ _ ⟨p,g,h1,h2,rfl⟩;simp only[A1,HL] at this;exact⟨rfl,rfl,this.2.2⟩)|rfl|trivial|exact yr
end Go.Proofs.YtgigepkgakpjbaaGreat
