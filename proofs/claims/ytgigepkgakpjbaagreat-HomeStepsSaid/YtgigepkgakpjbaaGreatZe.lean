/-
  A part of the proof.
-/
import Derived.Test.YtgigepkgakpjbaaGreatZd
import Derived.Test.YtgigepkgakpjbaaGreatZc
open Go.Proofs.Tryz renaming f72->Aia,f123->Aic,f231->AjL,f104->AlD,f150->AmE,f275->AoC,f235->AoD,f182->AoH,f187->AoI,f184->AoJ,f296->AoN,f185->AoZ,f84->Apa,f216->Arn,f168->Aro,f220->AsT,f131->B5,f242->BN,f163->EF,f186->EZ,f180->FJ,f41->G0,f38->GP,f179->Hd,f125->Mm,f110->NR,f234->Pg,f295->Ph,f277->S3,f276->S4,f273->S5,f274->SA,f232->SC,f233->SE,f127->SJ,f165->WS,f189->WT,f161->mg,f164->pi,f73->ql,f166->sd,f86->v8,f106->vz
open Go.Dv Go.Nv
set_option maxRecDepth 20000
open Go.IntKind (u64)
open Go.IntKind renaming wrap->yu,i64->yt
open List renaming length->I,map->U,drop->W
open Option renaming some->G
open Bool renaming true->J,false->O
open Decidable renaming decide->Y
open Int renaming toNat->Z
open Go.Dv.V renaming list->ae,str->ab,agg->aa,int->a8,ref->bz,fn->bw,nils->bv,bool->bu
open Go.Dv.D renaming v->bt,acc->br,ptr->bq,arr->bo,gro->bm,tup->bl,undef->bk,dagg->bj
open Go.Dv.St renaming mk->bi
open Go.Dv.KI renaming blk->bh
open _root_.ByteArray renaming mk->bf
open Go renaming Operand->x8,Program->x7,TypeId->x6,World->x5,Value->yz,Oper->yy,FuncId->yx,Func->yw,IntKind->yv
namespace Go.Proofs.YtgigepkgakpjbaaGreat
open List (all_cons flatten length_pos_iff length_set map map_drop map_set map_take nil_append range_succ replicate take take_add_one take_length)
structure wd(c:b9):Prop where
 size:c.size<=128
 len:I c.az=2
 few:∀b,c.az[1]?=G b->I b.az<=12
 toks:∀b v,c.az[1]?=G b->v∈b.az->I v.az=2
structure m6(m:cx)(t:cr):Prop where
 int:X3 m t
 chk:F0 70 [Af m] (di 0)
 kind:m.kind=5
 few:I m.av<=12
 rule:∀r∈m.av,I r.aq<=2/\r.ao.length<=1
 shape:∀c,Al t c=J->wd c
noncomputable def ZT:=yl pi
theorem AfF(l:List b9)(hl:I l<=1000)(ps:List (Int×Int))(hp:I ps=I l)(hv:∀(k:Nat) (v:b9),l[k]?=G v->∃a b,v.az[0]?=G a/\v.az[1]?=G b/\ps[k]?=G (a.n,b.n))(n:Nat):∀k:Nat,I l-k=n->
  Rn PP pi 0 (.acc 1 (ps.map cd)) ⟨[],[(1,2,ps.map cd)]⟩ ([zu pi 116,.blk 0,zt pi 15]++[]) (cz 32 [(3,.acc 1 ((ps.take k).map cd)),(10,co l),(11,di (I l)),(12,di k)]) ⟨[],[(1,2,(ps.take k).map cd)]⟩:=by
 induction n with
 |zero=>
  intro k hn
  refine zo [1] (.f .r) (yd k (I l)/\[(1,2,U cd (take k ps))]=[(1,2,U cd ps)]/\br 1 (U cd (take k ps))=br 1 (U cd ps)) ?_
  rw[IB (by omega)]
  exact⟨yq,rfl,rfl⟩
 |succ n ih=>
  intro k hn
  obtain⟨x,hx⟩:=yk (show k<I l by omega)
  obtain⟨a,b,ha,hb,hpk⟩:=hv k x hx
  refine zo [1] (.t<|.h (.xs (Ad x))<|.h (.xs (Ad a))<|.h (.xs (Ad b))<|.ls [ch 3 (.acc 1 ((ps.take (k+1)).map cd)),ke 10,ke 11,ch 12 (zw k)] ⟨[],[(1,2,(ps.take (k+1)).map cd)]⟩) (ye k (I l)/\Q 2/\y6 k/\zy (U eV l) k (Ad x)/\Q 2/\iz 0<=0/\zy (c7 x.az) 0 (Ad a)/\Q 2/\iz 0<=1/\zy (c7 x.az) 1 (Ad b)/\Q (U cd (take k ps))/\Ao (I (U cd (take k ps))+I (aa (vi a.n::vi b.n::nV)::nV)) 16/\yo/\br 1 (U cd (take k ps)++[aa [vi a.n,vi b.n]])=br 1 (U cd (take (k+1) ps))/\zx k/\[(1,2,U cd (take k ps)++aa (vi a.n::vi b.n::nV)::nV)]=[(1,2,U cd (take (k+1) ps))]/\I0 pi 0 (br 1 (U cd ps)) (bi [] [(1,2,U cd ps)]) [kl ZT e9,bh 0,zt pi 15] (cz 32 [(3,br 1 (U cd (take (k+1) ps))),(10,co l),(11,di (I l:Int)),(12,zw k)]) (bi [] [(1,2,U cd (take (k+1) ps))])) ?_
  have hk:=(HN.1 hx).1
  have ht:(ps.take (k+1)).map cd=(ps.take k).map cd++[aa [vi a.n,vi b.n]]:=by rw[J2,hpk];simp
  rw[ht]
  refine⟨yr,rfl,by omega,Ap hx,rfl,IA _,Ap (i:=0) ha,rfl,by decide,Ap (i:=1) hb,rfl,⟨?_,?_⟩,ym,rfl,Ac,rfl,⟨?_⟩⟩
  ·simp only[HJ,ID,HP,HT];omega
  ·simp only[HJ,ID,HP,HT];omega
  ·have:=ih (k+1) (by omega)
   rw[ht] at this
   exact this
theorem VM(c b:b9)(hb:c.az[1]?=G b)(hl:I b.az<=1000)(ps:List (Int×Int))(hp:I ps=I b.az)(hv:∀(k:Nat) (v:b9),b.az[k]?=G v->∃a y,v.az[0]?=G a/\v.az[1]?=G y/\ps[k]?=G (a.n,y.n)):
  F0 164 [dV c] (AI ps):=by
 have h:Aa PP 164 [dV c] bd (.acc 1 (ps.map cd)) ⟨[],[(1,2,ps.map cd)]⟩:=by
  exact sv pi 32 [1] (.h (.q 2 0)<|.h (.nw 3 1 2)<|.h (.xs (Ad b))<|.ls [ch 3 (.acc 1 []),ke 10,ch 11 (di (I b.az)),ch 12 (di (0:Nat))] ⟨[],[(1,2,[])]⟩) (Q 2/\iz 0<=1/\zy (c7 c.az) 1 (Ad b)/\Q ig/\di (I (c7 b.az):Int)=di (I b.az:Int)/\Q (di 0)/\Q [(1,2,nV)]/\_) ⟨rfl,by decide,Ap (i:=1) hb,rfl,by rw[HJ],rfl,rfl,iK (AfF b.az hl ps hp hv _ 0 rfl)⟩
 exact HI h
theorem V7(s:Int)(b:b9)(hb:b.size<=10000):F0 220 [di s,dl [Ad b]] (dV (.mk 0 [.mk s [],b])):=by
 refine zq AsT 13 (.c (co [b])<|.c (co [.mk s [],b]) .r) (F0 262 [bt (ae [Ad b])] (co [b])/\F0 261 [bt (ae [ae [aa [vi s,ae []]],dq [b]])] (co [b9.mk s [],b])/\Q (dV (b9.mk 0 [b9.mk s [],b]))) ?_
 have h1:=Xa [b] (by simp) (fun x hx=>by rw[Ia.1 hx];exact WY _ b (HR _) (by omega))
 rw[show co [b]=dl [Ad b] from I6 (fun z=>dl [z]) (AE b)] at h1⊢
 have h2:=Aix [[.mk s []],[b]] (by simp) (by simp)
 have e:[[b9.mk s []],[b]].flatten.map eV=[b9.mk s [],b].map eV:=rfl
 rw[e] at h2
 refine⟨h1,?_,?_⟩
 ·have e2:bt (ae [ae [aa [vi s,ae []]],dq [b]])=dl (Rp [[.mk s []],[b]]):=by
   show _=bt (.list [.list [eV (.mk s [])],.list [eV b]])
   rw[AE];rfl
  rw[e2];exact h2
 ·rfl
abbrev vm(ps:List (Int×Int)):St:=⟨[G (Ab (ps.map cd))],[]⟩
theorem LJ(p:Int×Int)(l:List (Int×Int)):Ab ((p::l).map cd)=[di p.1,di p.2]++Ab (l.map cd):=rfl
theorem NO:∀l:List (Int×Int),I (Ab (l.map cd))=I l*2
 |[]=>rfl
 |p::l=>by rw[LJ,HY,NO l,HP];simp;omega
theorem Ad3(l k:List (Int×Int)):Ab ((l++k).map cd)=Ab (l.map cd)++Ab (k.map cd):=by simp only[Ab,J5,List.flatMap_append]
theorem AaE(l:List b9)(hl:I l<=1000)(ps:List (Int×Int))(hp:I ps=I l)(hv:∀(k:Nat) (v:b9),l[k]?=G v->∃a b,v.az[0]?=G a/\v.az[1]?=G b/\ps[k]?=G (a.n,b.n))(n:Nat):∀k:Nat,I l- (k+1)=n->k<I l->
  Rn PP pi 0 (.arr 0 0 (I ps)) (vm ps) ([zu pi 116,.blk 0,zt pi 15]++[]) (cz 32 [(3,.gro 0 (k+1) 2),(10,co l),(11,di (I l)),(12,zw k)]) (vm (ps.take (k+1))):=by
 induction n with
 |zero=>
  intro k hn hk
  refine zo [1] (.f<|.h (.q 7 0)<|.h (.ga 3) .ro) (yd ↑(k+1) (I l)/\cp 1 [] [G (Ab (U cd (take (k+1) ps)))]=J/\[G (Ab (U cd (take (k+1) ps)))]=[G (Ab (U cd ps))]/\bo 0 0 (k+1)=bo 0 0 (I ps)) ?_
  have e:k+1=I ps:=by omega
  rw[e,IB (HR _)]
  exact⟨yq,I1.2 ⟨Am 1 [] _,rfl⟩,rfl,rfl⟩
 |succ n ih=>
  intro k hn hk
  obtain⟨x,hx⟩:=yk (show k+1<I l by omega)
  obtain⟨a,b,ha,hb,hpk⟩:=hv (k+1) x hx
  refine zo [1] (.t<|.h (.xs (Ad x))<|.h (.xs (Ad a))<|.h (.xs (Ad b))<|.lo [ch 3 (.gro 2 (k+1+1) 2),ke 10,ke 11,ch 12 (di (k+1+1:Nat))] ⟨[none,G (da x.n x.az),G (Ab ((ps.take (k+1+1)).map cd))],[]⟩) (ye ↑(k+1) (I l)/\Q 2/\y6 ↑(k+1)/\zy (U eV l) ↑(k+1) (Ad x)/\Q 2/\iz 0<=0/\zy (c7 x.az) 0 (Ad a)/\Q 2/\iz 0<=1/\zy (c7 x.az) 1 (Ad b)/\I (Ab (U cd (take (k+1) ps)))=(k+1)*2/\[aa [vi a.n,vi b.n]]≠ []/\(∀(y:V),y∈ [aa [vi a.n,vi b.n]]->V.size y=2)/\Ao (k+1+I (aa (vi a.n::vi b.n::nV)::nV)) 16/\yo/\Q (bm 2 (k+1+1) 2)/\di (yu yt ((↑(k+1):Int)+1))=di (↑(k+1+1):Int)/\cp 3 [] [none,G (da x.n x.az),G (Ab (U cd (take (k+1) ps))++[di a.n,di b.n])]=J/\[none,G (da x.n x.az),G (Ab (U cd (take (k+1) ps))++[di a.n,di b.n])]=[none,G (da x.n x.az),G (Ab (U cd (take (k+1+1) ps)))]/\I0 pi 0 (bo 0 0 (I ps)) (vm ps) [kl ZT e9,bh 0,zt pi 15] (cz 32 [(3,bm 2 (k+1+1) 2),(10,co l),(11,di (I l:Int)),(12,di (↑(k+1+1):Int))]) (bi [none,G (da x.n x.az),G (Ab (U cd (take (k+1+1) ps)))] [])) ?_
  have hk1:=(HN.1 hx).1
  have ht:(ps.take (k+1+1))=(ps.take (k+1))++[(a.n,b.n)]:=by rw[J2 (i:=k+1),hpk];rfl
  have hf:Ab ((ps.take (k+1)).map cd)++[di a.n,di b.n]=Ab ((ps.take (k+1+1)).map cd):=by rw[ht,Ad3];rfl
  have hih:=ih (k+1) (by omega) hk1
  rw[hf]
  refine⟨yr,rfl,by omega,Ap hx,rfl,IA _,Ap (i:=0) ha,rfl,by decide,Ap (i:=1) hb,by rw[NO,ID];omega,by simp,fun y hy=>by rw[Ia.1 hy];rfl,⟨?_,?_⟩,ym,rfl,Ac,?_,rfl,⟨?_⟩⟩
  ·simp only[HP,HT];omega
  ·simp only[HP,HT];omega
  ·simp[cp,D.okNs,D.okN,Am]
  ·refine EN (H0:=[none,G [di x.n,co x.az]]) (fun E0 E h=>h.2) 2 rfl (fun cs hc=>?_) ?_ ?_ hih
   ·simp at hc;rw[hc];exact A9 _
   ·simp[cz,D.okNs,D.okN]
   ·simp[cz,D.rens,D.ren]
theorem Ark{o:yy}{t:Nat}(x:b9)(τ:St)(ho:o.op=.fieldAddr 34 (.tmp t) 0):Ak PP o [.v (.ref (Ad x))] τ (.v (.ref (vi x.n))) τ:=Gi ho (fo:=0) (n:=1) (b:=false) (by kernel_rfl) (by decide) (fun _=>rfl) rfl
theorem AsP{o:yy}{t:Nat}(x:Int)(τ:St)(ho:o.op=.load 3 (.tmp t)):Ak PP o [.v (.ref (vi x))] τ (di x) τ:=Gg ho (by unfold Rg;kernel_rfl) rfl
theorem Asg{o:yy}{t t':Nat}(x y:Int)(τ:St)(ho:o.op=.build 137 #[(0,.tmp t),(1,.tmp t')]):Ak PP o [di x,di y] τ (.v (cd (x,y))) τ:=W0 ho (z:=[vi 0,vi 0]) (ay:=[(0,1),(1,1)]) (by kernel_rfl) (xs:=[(0,vi x),(1,vi y)]) rfl rfl
theorem slP:BW PP 161=G (137,2,16,G (.agg #[.int .i64 0,.int .i64 0])):=by kernel_rfl
theorem Ato{o:yy}{t:Nat}(p:Int×Int)(τ:St)(ho:o.op=.buildSlice 161 1 #[(0,.tmp t)]):Ak PP o [.v (cd p)] τ (.v (.list [cd p])) τ:=
 Fo ho rfl rfl slP rfl (xs:=[cd p]) rfl (fun y hy=>by rw[Ia.1 hy];rfl) (by decide) (by decide) (by decide)
theorem AaD(c b:b9)(hb:c.az[1]?=G b)(hl:I b.az<=1000)(hn:b.az≠ [])(ps:List (Int×Int))(hp:I ps=I b.az)(hv:∀(k:Nat) (v:b9),b.az[k]?=G v->∃a y,v.az[0]?=G a/\v.az[1]?=G y/\ps[k]?=G (a.n,y.n)):
  Aa PP 164 [dV c] bd (.arr 0 0 (I ps)) (vm ps):=by
 have hpos:=length_pos_iff.2 hn
 obtain⟨x,hx⟩:∃x,b.az[0]?=G x:=⟨_,HK hpos⟩
 obtain⟨a,y,ha,hy,hpk⟩:=hv 0 x hx
 have ht:ps.take 1=[(a.n,y.n)]:=by
  cases ps with
  |nil=>simp at hpk
  |cons p l=>simp at hpk;simp[hpk]
 have hih:=AaE b.az hl ps hp hv _ 0 rfl hpos
 refine sv pi 32 [1] (.h (.xs (Ad b))<|.n<|.t<|.h (.xs (Ad x))<|.h (.xs (Ad a))<|.h (.xs (Ad y))<|.h (.p (.v (.ref (vi y.n))))<|.h (.p (di y.n))<|.h (.p (.v (cd (a.n,y.n))))<|.h (.p (.v (.list [cd (a.n,y.n)])))<|.h .g<|.lo [ch 3 (.gro 1 1 2),ke 10,ch 11 (di (I b.az)),ch 12 (di (1:Nat))] ⟨[G (da x.n x.az),G (Ab ((ps.take 1).map cd))],[]⟩) (Q 2/\iz 0<=1/\zy (c7 c.az) 1 (Ad b)/\ye 0 (I (c7 b.az))/\Q 2/\iz 0<=0/\zy (c7 b.az) 0 (Ad x)/\Q 2/\iz 0<=0/\zy (c7 x.az) 0 (Ad a)/\Q 2/\iz 0<=1/\zy (c7 x.az) 1 (Ad y)/\(∀(τ:St),Ak PP (Oper.mk (G 25) (Op.fieldAddr 34 (Operand.tmp 24) 0) 0 "timed.go:30" #[Edge.mk 8 Ground.data] none) [bt (jk y)] τ (bt (bz (vi y.n))) τ)/\(∀(τ:St),Ak PP (Oper.mk (G 26) (Op.load 3 (Operand.tmp 25)) 3 "timed.go:30" #[Edge.mk 9 Ground.data] none) [bt (bz (vi y.n))] τ (di y.n) τ)/\(∀(τ:St),Ak PP (Oper.mk (G 27) (Op.build 137 #[(0,Operand.tmp 21),(1,Operand.tmp 26)]) 137 "timed.go:30" #[Edge.mk 5 Ground.data,Edge.mk 10 Ground.data] none) [di a.n,di y.n] τ (bt (cd (b9.n a,b9.n y))) τ)/\(∀(τ:St),Ak PP (Oper.mk (G 28) (Op.buildSlice 161 1 #[(0,Operand.tmp 27)]) 161 "timed.go:30" #[Edge.mk 11 Ground.data] none) [bt (cd (b9.n a,b9.n y))] τ (bt (ae [cd (b9.n a,b9.n y)])) τ)/\[cd (b9.n a,b9.n y)]≠ []/\(∀(y_1:V),y_1∈ [cd (b9.n a,b9.n y)]->V.size y_1=2)/\Ao 1 16/\yo/\Q (bm 1 1 2)/\di (I (c7 b.az):Int)=di (I b.az:Int)/\Q (di (↑1:Int))/\Q J/\[G (da x.n x.az),G [di (b9.n a,b9.n y).fst,di (b9.n a,b9.n y).snd]]=[G (da x.n x.az),G (Ab (U cd (take 1 ps)))]/\I0 pi (I bd.H) (bo 0 0 (I ps)) (vm ps) [kl ZT e9,bh 0,zt pi 15] (cz 32 [(3,bm 1 1 2),(10,co b.az),(11,di (I b.az:Int)),(12,di (↑1:Int))]) (bi [G (da x.n x.az),G (Ab (U cd (take 1 ps)))] [])) ⟨rfl,by decide,Ap (i:=1) hb,HM (by rw[HJ];omega),rfl,IA _,Ap (i:=0) hx,rfl,IA _,Ap (i:=0) ha,rfl,by decide,Ap (i:=1) hy,fun τ=>Ark y τ rfl,fun τ=>AsP y.n τ rfl,fun τ=>Asg a.n y.n τ rfl,fun τ=>Ato _ τ rfl,by simp,fun z hz=>by rw[Ia.1 hz];rfl,⟨by decide,by decide⟩,ym,rfl,by rw[HJ],I6 di (by decide),rfl,?_,⟨?_⟩⟩
 ·rw[ht];rfl
 ·refine EN (H0:=[G [di x.n,co x.az]]) (fun E0 E h=>h.2) 1 rfl (fun cs hc=>?_) ?_ ?_ hih
  ·simp at hc;rw[hc];exact A9 _
  ·simp[cz,D.okNs,D.okN]
  ·simp[cz,D.rens,D.ren]
noncomputable def r7:=yl sd
abbrev vp(xs:List b9):St:=⟨[G [di 0,.v .nils],G [di 0,.gro 2 (I xs) 2],G (Ab (xs.map eV))],[]⟩
abbrev pV(p:Int×Int):b9:=.mk 0 [.mk p.1 [],.mk p.2 []]
theorem Acd(p:Int×Int):(pV p).size=3:=rfl
theorem AfS{l k:List b9}(h:l.Perm k):b9.sizes l=b9.sizes k:=by
 induction h with
 |nil=>rfl
 |cons x _ ih=>rw[b9.sizes,b9.sizes,ih]
 |swap x y l=>simp only[b9.sizes];omega
 |trans _ _ ih1 ih2=>rw[ih1,ih2]
theorem AaP:∀l:List (Int×Int),b9.sizes (l.map pV)=3*I l
 |[]=>rfl
 |p::l=>by rw[I9,b9.sizes,AaP l,Acd,HP];omega
theorem Xs(l:List (Int×Int))(hl:I l<=100):(b9.mk 0 (sortV (l.map pV))).size<=301:=by
 rw[b9.size,AfS (BL _),AaP];omega
theorem Ast(s:Int)(l:List (Int×Int))(hl:I l<=100):(b9.mk 0 [.mk s [],.mk 0 (sortV (l.map pV))]).size<=400:=by
 have:=Xs l hl
 simp only[b9.size,b9.sizes] at this⊢;omega
theorem vsz(s:Int)(l:List (Int×Int))(hl:I l<=100):(b9.mk 0 [.mk s [],.mk 0 (sortV (l.map pV))]).size<=1000000:=by
 have:=Ast s l hl;omega
theorem AiM{R:List D->St->Prop}{ks:List KI}{e e':List D}(n:Nat)(x:List D)(F:List V)(_:Nat)(_:(0:Nat)<=0)(_:(0:Nat)=0)(he:D.okNs 3 [] e'=J)(hee:e=D.rens (fun i=>if i<2 then i else i+2) id e')
  (h:A5 (CN 0) PP R ks e' ⟨[G [di 0,.v .nils],G [di 0,.gro 2 n 2],G (Ab F)],[]⟩):A5 (CN 0) PP R ks e ⟨[G [di 0,.v .nils],G [di 0,.gro 4 n 2],none,G x,G (Ab F)],[]⟩:=by
 refine Cq (σ:=⟨[G [di 0,.v .nils],G [di 0,.gro 4 n 2],none,G x,G (Ab F)],[]⟩) (e':=e') (H':=[G [di 0,.v .nils],G [di 0,.gro 2 n 2],G (Ab F)]) (m:=0) (fun _ _ h=>h.2) (fun i=>if i<2 then i else i+2) (II _) (fun i hi=>by omega) (fun i j _ _ h=>?_) (fun i cs hi=>?_) he hee h
 ·have h:(if i<2 then i else i+2)=(if j<2 then j else j+2):=h
  split at h<;>split at h<;>omega
 ·match i,hi with
  |0,hi=>simp at hi;subst hi;exact⟨rfl,rfl⟩
  |1,hi=>simp at hi;subst hi;exact⟨rfl,rfl⟩
  |2,hi=>
   simp at hi;subst hi
   exact⟨by rw[AA (A9 _)];rfl,Am _ _ _⟩
  |i+3,hi=>simp at hi
theorem Ae7{R:List D->St->Prop}{ks:List KI}{e e':List D}(n:Nat)(x:List D)(F:List V)(_:(0:Nat)<=0)(_:(0:Nat)=0)(he:D.okNs 3 [] e'=J)(hee:e=D.rens (fun i=>if i<2 then i else i+1) id e')
  (h:A5 (CN 0) PP R ks e' ⟨[G [di 0,.v .nils],G [di 0,.gro 2 n 2],G (Ab F)],[]⟩):A5 (CN 0) PP R ks e ⟨[G [di 0,.v .nils],G [di 0,.gro 3 n 2],G x,G (Ab F)],[]⟩:=by
 refine Cq (σ:=⟨[G [di 0,.v .nils],G [di 0,.gro 3 n 2],G x,G (Ab F)],[]⟩) (e':=e') (H':=[G [di 0,.v .nils],G [di 0,.gro 2 n 2],G (Ab F)]) (m:=0) (fun _ _ h=>h.2) (fun i=>if i<2 then i else i+1) (II _) (fun i hi=>by omega) (fun i j _ _ h=>?_) (fun i cs hi=>?_) he hee h
 ·have h:(if i<2 then i else i+1)=(if j<2 then j else j+1):=h
  split at h<;>split at h<;>omega
 ·match i,hi with
  |0,hi=>simp at hi;subst hi;exact⟨rfl,rfl⟩
  |1,hi=>simp at hi;subst hi;exact⟨rfl,rfl⟩
  |2,hi=>
   simp at hi;subst hi
   exact⟨by rw[AA (A9 _)];rfl,Am _ _ _⟩
  |i+3,hi=>simp at hi
theorem AiN(m:cx)(t:cr)(hm:X3 m t)(s:Int)(l:List (Int×Int))(hl:I l<=100)(v:b9)(b:Bool)(hv:v=.mk 0 [.mk s [],.mk 0 (sortV (l.map pV))])(hb:b=Al t v)(n:Nat):∀k:Nat,I l- (k+1)=n->k<I l->
  Rn PP sd 0 (.tup [dV v,db b]) bd ([zu sd 116,.blk 0,zt sd 15]++[]) (cz 44 [(1,di s),(3,.v (.ref (Aq m))),(6,.ptr 0 0),(8,.ptr 1 0),(13,AI l),(14,di (I l)),(15,zw k)]) (vp ((l.take (k+1)).map pV)):=by
 induction n with
 |zero=>
  intro k hn hk
  refine zo [3] (.f<|.h (.q 7 2)<|.h (.ga 34)<|.h (.oc (.tup []) ⟨[G [di 0,.v .nils],G [di 0,.gro 2 (I l) 2],G (Ab ((sortV (l.map pV)).map eV))],[]⟩)<|.h (.q 8 0)<|.h (.cs ⟨[G [di 0,.v .nils],G [di 0,co (sortV (l.map pV))],none],[]⟩)<|.c (dV v)<|.c (db b) .r) (yd ↑(k+1) (I l)/\(∀(o:yy) (c:Call) (fo:x8),o.op=Op.call c->c.callee=Callee.value fo->Ak PP o [bt (bw 160 [] []),bo 2 0 (I (U pV (take (k+1) l))),bt (bw 112 [] [])] (vp (U pV (take (k+1) l))) (bl []) (bi [G [di 0,dn],G [di 0,bm 2 (I l) 2],G (Ab (U eV (sortV (U pV l))))] []))/\(∀(e:List D) (E:c9) (g:Gh) (a:Act) (w:x5),FI E g (bi [G [di 0,dn],G [di 0,bm 2 (I l) 2],G (Ab (U eV (sortV (U pV l))))] []) e a w->∃g',FI E g' (bi [G [di 0,dn],G [di 0,co (sortV (U pV l))],none] []) e a w)/\F0 220 [di s,bt (ae [aa [vi 0,dq (sortV (U pV l))]])] (dV v)/\F0 105 [Af m,dV v] (db b)/\yo/\Q (bl [dV v,db b])) ?_
  have e:k+1=I l:=by omega
  rw[e,IB (HR _)]
  have hsz:∀x∈l.map pV,x.size<=1000000:=fun x hx=>by obtain⟨p,_,rfl⟩:=IQ.1 hx;rw[Acd];decide
  have hsl:I (sortV (l.map pV))=I l:=by rw[(BL _).length_eq,HJ]
  have hbs:=Xs l hl
  refine⟨yq,fun o cl fo hop hc=>?_,fun e=>?_,?_,hb▸hm.valid v (by rw[hv];exact vsz s l hl),ym,rfl⟩
  ·have:=Wz (dc:=[.arr 0 0 (I l),dfn 112]) (σ:=vp (l.map pV)) (q:=2) (fs:=[]) (cs:=[]) (ds:=[.arr 2 0 (I (l.map pV)),dfn 112]) hop hc rfl (A9 _) (A9 _) (by rw[HJ];exact .arr (.pl rfl .nil)) rfl (by have:=L1 (l.map pV) (by rw[HJ];omega) hsz;rwa[HJ] at this)
   simpa[vp] using this
  ·exact Po (σ:=⟨[G [di 0,.v .nils],G [di 0,.gro 2 (I l) 2],G (Ab ((sortV (l.map pV)).map eV))],[]⟩) (p:=1) (q:=2) (i:=1) (sz:=2) (cs:=[di 0,.gro 2 (I l) 2]) (xs:=(sortV (l.map pV)).map eV) (by decide) rfl rfl (by decide) (by rw[HJ,hsl];rfl) (D3 _) e
  ·rw[hv];exact V7 s (.mk 0 (sortV (l.map pV))) (by omega)
 |succ n ih=>
  intro k hn hk
  obtain⟨x,hx⟩:=yk (show k+1<I l by omega)
  refine zo [3] (.t<|.x (cd x)<|.lo [ke 1,ke 3,ke 6,ke 8,ke 13,ke 14,ch 15 (di (k+1+1:Nat))] ⟨[G [di 0,.v .nils],G [di 0,.gro 4 (k+1+1) 2],none,G [di x.1,di x.2],G (Ab (((l.take (k+1+1)).map pV).map eV))],[]⟩) (ye ↑(k+1) (I l)/\y6 ↑(k+1)/\zy (U cd l) ↑(k+1) (cd x)/\iz 0<=0/\0<(↑2:Int)/\iz 0<=1/\1<(↑2:Int)/\I (Ab (U eV (U pV (take (k+1) l))))=I (U pV (take (k+1) l))*2/\[aa [vi 0,ae [aa [vi x.fst,ae []],aa [vi x.snd,ae []]]]]≠ []/\(∀(y:V),y∈ [aa [vi 0,ae [aa [vi x.fst,ae []],aa [vi x.snd,ae []]]]]->V.size y=2)/\Ao (I (U pV (take (k+1) l))+I (aa (a8 yt 0::ae (aa (vi x.fst::ae nV::nV)::aa (vi x.snd::ae nV::nV)::nV)::nV)::nV)) 32/\di (yu yt ((↑(k+1):Int)+1))=di (↑(k+1+1):Int)/\cp 5 [] [G [di 0,dn],G [di 0,bm 4 (I (U pV (take (k+1) l))+I (aa (a8 yt 0::ae (aa (vi x.fst::ae nV::nV)::aa (vi x.snd::ae nV::nV)::nV)::nV)::nV)) 2],none,G [di x.fst,di x.snd],G (Ab (U eV (U pV (take (k+1) l)))++[di 0,bt (ae [aa [vi x.fst,ae []],aa [vi x.snd,ae []]])])]=J/\[G [di 0,dn],G [di 0,bm 4 (I (U pV (take (k+1) l))+I (aa (a8 yt 0::ae (aa (vi x.fst::ae nV::nV)::aa (vi x.snd::ae nV::nV)::nV)::nV)::nV)) 2],none,G [di x.fst,di x.snd],G (Ab (U eV (U pV (take (k+1) l)))++[di 0,bt (ae (aa (vi x.fst::ae nV::nV)::aa (vi x.snd::ae nV::nV)::nV))])]=[G [di 0,dn],G [di 0,bm 4 (k+1+1) 2],none,G [di x.fst,di x.snd],G (Ab (U eV (U pV (take (k+1+1) l))))]/\I0 sd 0 (bl [dV v,db b]) bd [zu sd 116,bh 0,zt sd 15] (cz 44 [(1,di s),(3,bt (bz (Aq m))),(6,bq 0 0),(8,bq 1 0),(13,bt (DF l)),(14,di (I l:Int)),(15,di (↑(k+1+1):Int))]) (bi [G [di 0,dn],G [di 0,bm 4 (k+1+1) 2],none,G [di x.fst,di x.snd],G (Ab (U eV (U pV (take (k+1+1) l))))] [])) ?_
  have hk1:=(HN.1 hx).1
  have ht:l.take (k+1+1)=l.take (k+1)++[x]:=by rw[J2 (i:=k+1),hx];rfl
  have hpe:bt (ae [aa [vi x.1,ae []],aa [vi x.2,ae []]])=co (pV x).az:=by
   show _=bt (.list [eV (.mk x.1 []),eV (.mk x.2 [])])
   rw[AE,AE];rfl
  have hf:Ab (((l.take (k+1)).map pV).map eV)++[di 0,bt (ae [aa [vi x.1,ae []],aa [vi x.2,ae []]])]=Ab (((l.take (k+1+1)).map pV).map eV):=by
   rw[hpe,ht,J5,Ll]
   congr 1
  have hih:=ih (k+1) (by omega) hk1
  have hll:I ((l.take (k+1)).map pV)=k+1:=by rw[HJ,ID];omega
  have hll2:I ((l.take (k+1+1)).map pV)=k+1+1:=by rw[HJ,ID];omega
  rw[hll,hf]
  refine⟨yr,by omega,Ae hx,IA _,by decide,by decide,by decide,by rw[B1,hll],by simp,fun y hy=>by rw[Ia.1 hy];rfl,⟨?_,?_⟩,Ac,?_,?_,⟨?_⟩⟩
  ·simp only[HP,HT];omega
  ·simp only[HP,HT];omega
  ·simp[cp,D.okNs,D.okN,Am]
  ·rfl
  ·rw[vp,hll2] at hih
   exact AiM _ _ _ 0 (by decide) rfl (by simp[cz,D.okNs,D.okN]) (by simp[cz,D.rens,D.ren]) hih
def Ew(s:Int)(l:List (Int×Int)):b9:=.mk 0 [.mk s [],.mk 0 (sortV (l.map pV))]
theorem Ok(s:Int)(l:List (Int×Int))(hl:I l<=100):(Ew s l).size<=400:=Ast s l hl
theorem QY(m:cx)(t:cr)(hm:X3 m t)(s:Int)(l:List (Int×Int))(hl:I l<=100):F0 166 [Af m,di s,AI l] (.tup [dV (Ew s l),db (Al t (Ew s l))]):=by
 obtain⟨v,hv⟩:∃v:b9,v=Ew s l:=⟨_,rfl⟩
 rw[←hv]
 unfold Ew at hv
 ·cases l with
  |nil=>
   have hmv:=hm.valid v (by rw[hv];exact vsz s [] hl)
   have hn0:sortV ([].map pV)=[]:=(BL _).eq_nil
   refine sv sd 44 [3] (.n<|.f<|.c (.tup [])<|.c (dV v)<|.c (db (Al t v)) .r) (yd 0 (I (U cd []))/\_/\F0 220 [di s,bt (ae [aa [vi 0,ae []]])] (dV v)/\_/\yo/\Q (bl [dV v,db (Al t v)])) ⟨by decide,MR,?_,hmv,ym,rfl⟩
   rw[hv,hn0]
   exact V7 s (.mk 0 []) (by decide)
  |cons x l=>
   have hpe:bt (ae [aa [vi x.1,ae []],aa [vi x.2,ae []]])=co (pV x).az:=by
    show _=bt (.list [eV (.mk x.1 []),eV (.mk x.2 [])])
    rw[AE,AE];rfl
   have hf:[di 0,bt (ae [aa [vi x.1,ae []],aa [vi x.2,ae []]])]=Ab ([pV x].map eV):=by
    rw[hpe,AK];rfl
   have hlp:=AiN m t hm s (x::l) hl v _ hv rfl _ 0 rfl (by simp)
   refine sv sd 44 [3] (.h (.q 1 0)<|.h .rn<|.n<|.t<|.x (cd x)<|.h (.q 5 11)<|.h .g<|.lo [ke 1,ke 3,ke 6,ke 8,ke 13,ch 14 (di (I (x::l))),ch 15 (di (1:Nat))] ⟨[G [di 0,.v .nils],G [di 0,.gro 3 1 2],G [di x.1,di x.2],G (Ab ([pV x].map eV))],[]⟩) (ye 0 (I (U cd (x::l)))/\iz 0<=0/\Q (G (cd x))/\iz 0<=0/\0<(↑2:Int)/\iz 0<=1/\1<(↑2:Int)/\[aa [vi 0,ae (rh x.fst x.snd)]]≠ []/\(∀(y:V),y∈ [aa [vi 0,ae (rh x.fst x.snd)]]->V.size y=2)/\Ao 1 32/\di (I (U cd (x::l)):Int)=di (I (x::l):Int)/\Q (di (↑1:Int))/\Q J/\Q [G [di 0,dn],G [di 0,bm 3 1 2],G [di x.fst,di x.snd],G [di 0,bt (ae (aa (jp x.fst)::aa (jp x.snd)::nV))]]/\I0 sd (I bd.H) (bl [dV v,db (Al t v)]) bd [kl r7 e9,bh 0,zt sd 15] (cz 44 [(1,di s),(3,bt (g7 m)),kf,(8,bq 1 0),(13,AI (x::l)),(14,di (I (x::l):Int)),(15,di (↑1:Int))]) (bi [G [di 0,dn],G [di 0,bm 3 1 2],G [di x.fst,di x.snd],G [di 0,bt (ae (rh x.fst x.snd))]] [])) ⟨HM (by simp only[HJ,HP];omega),IA _,rfl,IA _,by decide,by decide,by decide,by simp,fun y hy=>by rw[Ia.1 hy];rfl,⟨by decide,by decide⟩,by rw[HJ],I6 di (by decide),rfl,rfl,⟨?_⟩⟩
   rw[hf]
   exact Ae7 _ _ _ (by decide) rfl (by simp[cz,D.okNs,D.okN]) (by simp[cz,D.rens,D.ren]) hlp
theorem AaI(m:cx)(t:cr)(hm:m6 m t)(c:b9)(hv:Al t c=J):F0 216 [Af m,dV c] (di 0):=by
 have h1:=hm.int.valid c (by have:=(hm.shape c hv).size;omega)
 rw[hv] at h1
 exact sv Arn 20 [2,3] (.c (di 0)<|.k<|.f<|.c (db J) .r) (_/\(m.kind !=5)=O/\_/\Q (di 0)) ⟨hm.chk,by rw[hm.kind];rfl,h1,rfl⟩
def Rr(b:b9):List (Int×Int):=b.az.map fun v=>((v.az.getD 0 e8).n,(v.az.getD 1 e8).n)
theorem Qq(b:b9):I (Rr b)=I b.az:=HJ _
theorem AbS(b:b9)(h:∀v∈b.az,I v.az=2)(k:Nat)(v:b9)(hk:b.az[k]?=G v):∃a y,v.az[0]?=G a/\v.az[1]?=G y/\(Rr b)[k]?=G (a.n,y.n):=by
 grind[Rr]
def ES(m:cx)(x:Int):Int:=if yu yt (m.age+1)<yu yt (x+1) then yu yt (m.age+1) else yu yt (x+1)
theorem Ad2{l:List (Int×Int)}{k:Nat}{x:Int×Int}(h:l[k]?=G x):(Ab (l.map cd))[k*2+1]?=G (di x.2):=by
 induction l generalizing k with
 |nil=>grind
 |cons y l ih=>
  cases k<;>grind[LJ]
theorem S2{l:List (Int×Int)}{k:Nat}{x:Int×Int}(h:l[k]?=G x)(y:Int):(Ab (l.map cd)).set (k*2+1) (di y)=Ab ((l.set k (x.1,y)).map cd):=by
 induction l generalizing k with
 |nil=>rfl
 |cons z l ih=>
  cases k<;>grind[LJ]
def fq(m:cx)(ps:List (Int×Int)):List (Int×Int):=ps.map fun p=>(p.1,ES m p.2)
noncomputable abbrev xp:=(TypeInfo.mk (TypeDesc.int yt) "int" 1 8 false 8 8 (G (Value.int yt 0)) true #[])
theorem AfP(m:cx)(c s0:b9)(h0:c.az[0]?=G s0)(ps:List (Int×Int))(N:Nat)(hpN:I ps=N)(hN:N<=100)(v:b9)(b:Bool)(v2:F0 166 [Af m,di s0.n,AI (fq m ps)] (.tup [dV v,db b]))(n:Nat):∀(k:Nat) (l:List (Int×Int)),N-k=n->I l=N->(∀i:Nat,l[i]?=if i<k then(fq m ps)[i]? else ps[i]?)->
  Rn PP AmE 0 (.tup [dV v,di 0]) bd ([zu AmE 244,.blk 0,zt AmE 31]++[]) (cz 52 [(2,.v (.ref (Aq m))),(3,.v (.ref (Ad c))),(4,.ptr 0 0),(7,.arr 1 0 N),(21,di N),(22,di k)]) ⟨[G [di 0,.v .nils],G (Ab (l.map cd))],[]⟩:=by
 induction n with
 |zero=>
  intro k l hn hl hi
  have e:l=fq m ps:=List.ext_getElem? fun i=>by
   grind[fq]
  rw[←e] at v2
  clear hi e
  exact zo [2,3] (.h (.q 6 0)<|.h (.ct 7 (AI l) ⟨[G [di 0,.v .nils],none],[]⟩)<|.f<|.h (.dr 11)<|.h (.xs (Ad s0))<|.c (.tup [dV v,db b]) .r) ((∀(e:List D),e[7]?=G (bo 1 0 N)->∀(E:c9) (g:Gh) (a:Act) (w:x5),FI E g (bi [G [di 0,dn],G (Ab (U cd l))] []) e a w->∃g',FI E g' (bi [G [di 0,dn],none] []) (List.set e 7 (AI l)) a w)/\yd k N/\Q 2/\iz 0<=0/\zy (c7 c.az) 0 (Ad s0)/\_/\Q [bi [G [di 0,dn],none,G [di 0,dn]] []]/\True/\Q (bl [dV v,di 0])) ⟨fun e he=>AdV (σ:=⟨[G [di 0,.v .nils],G (Ab (l.map cd))],[]⟩) (q:=1) (sz:=2) (by decide) (RF _) (by grind) rfl he,yq,rfl,IA _,Ap (i:=0) h0,v2,rfl,trivial,rfl⟩
 |succ n ih=>
  intro k l hn hl hi
  obtain⟨x,hx⟩:=yk (show k<I l by omega)
  have v2:=ih (k+1) (l.set k (x.1,ES m x.2)) (by omega) (by rw[length_set];exact hl) (fun i=>by
   have hx':=hi k
   rw[hx,Iz (Nat.lt_irrefl k)] at hx'
   by_cases hik:i=k
   ·subst hik
    rw[List.getElem?_set_self (by omega),I4 (Nat.lt_succ_self i),fq,IP, ←hx'];rfl
   ·rw[List.getElem?_set_ne (fun h=>hik h.symm),hi i]
    by_cases h1:i<k
    ·rw[I4 h1,I4 (by omega)]
    ·rw[Iz h1,Iz (by omega)])
  have e1:0+Z (k:Int)*2+Z 1*1=k*2+1:=by omega
  refine zo [2,3] (.t<|.m (di x.2)<|.w<|.lo [ke 2,ke 3,ke 4,ke 7,ke 21,ch 22 (zw k)] ⟨[G [di 0,.v .nils],G (Ab ((l.set k (x.1,ES m x.2)).map cd))],[]⟩) (ye k N/\y6 k/\y5 k N/\iz 0<=1/\1<(↑2:Int)/\(Ab (U cd l))[0+Z (k:Int)*2+Z 1*(1,match xp.desc with|TypeDesc.struct fields=>true|TypeDesc.array len elem=>true|x=>false).fst]?=G (di x.snd)/\y6 k/\y5 k N/\iz 0<=1/\1<(↑2:Int)/\0+Z (k:Int)*2+Z 1*(1,match xp.desc with|TypeDesc.struct fields=>true|TypeDesc.array len elem=>true|x=>false).fst<I (Ab (U cd l))/\yp/\zx k/\cp 2 [] [G [di 0,dn],G (List.set (Ab (U cd l)) (0+Z (k:Int)*2+Z 1*(1,match xp.desc with|TypeDesc.struct fields=>true|TypeDesc.array len elem=>true|x=>false).fst) (di (if yu yt (m.age+1)<yu yt (x.snd+1) then yu yt (m.age+1) else yu yt (x.snd+1))))]=J/\[G [di 0,dn],G (List.set (Ab (U cd l)) (0+Z (k:Int)*2+Z 1*(1,match xp.desc with|TypeDesc.struct fields=>true|TypeDesc.array len elem=>true|x=>false).fst) (di (if yu yt (m.age+1)<yu yt (x.snd+1) then yu yt (m.age+1) else yu yt (x.snd+1))))]=[G [di 0,dn],G (Ab (U cd (List.set l k (x.fst,ES m x.snd))))]/\_) ⟨yr,by omega,by omega,by decide,by decide,?_,by omega,by omega,by decide,by decide,?_,yn,Ac,?_,?_,iK v2⟩
  ·show(Ab (l.map cd))[0+Z (k:Int)*2+Z 1*1]?=_
   rw[e1];exact Ad2 hx
  ·show 0+Z (k:Int)*2+Z 1*1<_
   rw[e1,NO];omega
  ·show cp 2 [] [G [di 0,bt bv],G ((Ab (l.map cd)).set (0+Z (k:Int)*2+Z 1*1) (di (ES m x.2)))]=J
   rw[e1,S2 hx];simp[cp,D.okNs,D.okN,Am]
  grind[ES,S2]
def ot(m:cx)(c:b9):b9:=Ew (c.az.getD 0 e8).n (fq m (Rr (c.az.getD 1 e8)))
theorem VP(m:cx)(t:cr)(hm:m6 m t)(c:b9)(hv:Al t c=J):(ot m c).size<=1000/\F0 150 [Af m,dV c] (.tup [dV (ot m c),di 0]):=by
 have hsh:=hm.shape c hv
 have hck:=AaI m t hm c hv
 obtain⟨s0,h0⟩:∃x,c.az[0]?=G x:=⟨_,HK (by rw[hsh.len];omega)⟩
 obtain⟨b,hb⟩:∃x,c.az[1]?=G x:=⟨_,HK (by rw[hsh.len];omega)⟩
 have hb12:=hsh.few b hb
 have hpl:=Qq b
 have hol:I (fq m (Rr b))=I b.az:=by grind[fq]
 have e0:c.az.getD 0 e8=s0:=by grind
 have e1:c.az.getD 1 e8=b:=by grind
 rw[ot,e0,e1]
 have v1:=Ok s0.n (fq m (Rr b)) (by omega)
 have v2:=QY m t hm.int s0.n (fq m (Rr b)) (by omega)
 refine⟨by omega,?_⟩
 generalize Ew s0.n (fq m (Rr b))=v at v1 v2⊢
 generalize Al t v=x at v2
 by_cases hn:b.az=[]
 ·have ht:=VM c b hb (by omega) [] (by grind) (fun k v hk=>by grind)
  rw[show fq m (Rr b)=[] by grind] at v2
  exact sv AmE 52 [2,3] (.c (di 0)<|.k<|.c (AI [])<|.n<|.f<|.h (.dr 11)<|.h (.xs (Ad s0))<|.c (.tup [dV v,db x]) .r) (_/\_/\yd 0 (I (U cd []))/\Q 2/\iz 0<=0/\zy (c7 c.az) 0 (Ad s0)/\_/\Q [bi [G [di 0,dn],G [di 0,dn]] []]/\True/\Q (bl [dV v,di 0])) ⟨hck,ht,rfl,rfl,IA _,Ap (i:=0) h0,v2,rfl,trivial,rfl⟩
 ·have ht:=AaD c b hb (by omega) hn (Rr b) hpl (AbS b fun v hv=>hsh.toks b v hb hv)
  have v3:=AfP m c s0 h0 (Rr b) (I (Rr b)) rfl (by omega) v x v2 _ 0 (Rr b) rfl rfl (fun i=>by rfl)
  clear v2
  generalize Rr b=ps at ht v3
  exact sv AmE 52 [2,3] (.c (di 0)<|.k<|.h (.oc (.arr 1 0 (I ps)) ⟨[G [di 0,.v .nils],G (Ab (ps.map cd))],[]⟩)<|.lo [ke 2,ke 3,ke 4,ke 7,ch 21 (di (I ps)),ch 22 (di (0:Nat))] ⟨[G [di 0,.v .nils],G (Ab (ps.map cd))],[]⟩) (_/\(N0 [bt (bw 164 [] []),dV c] uz (bo 1 0 (I ps)) (bi [G [di 0,dn],G (Ab (U cd ps))] []))/\Q (di (I ps:Int))/\Q (di 0)/\cp 2 [] [G [di 0,dn],G (Ab (U cd ps))]=J/\Q [G [di 0,dn],G (Ab (U cd ps))]/\_) ⟨hck,fun o cl fo ho hc=>JQ (σ:=⟨[G [di 0,.v .nils]],[]⟩) (fs:=[]) (cs:=[]) (ds:=[dV c]) ho hc rfl (A9 _) ht,rfl,rfl,by simp[cp,D.okNs,D.okN,Am],rfl,iK v3⟩
theorem AeX(l:List b9):I (Ab (l.map eV))=I l*2:=B1 l
theorem EE{l:List b9}{i:Nat}{x:b9}(h:l[i]?=G x):i*2+2<=I (Ab (l.map eV)):=by
 grind[B1]
theorem FX{l:List b9}{i:Nat}{x:b9}(h:l[i]?=G x):((Ab (l.map eV)).drop (i*2)).take 2=[.v (vi x.n),.v (dq x.az)]:=E8 h
theorem X5:∀(l:List b9) (k:Nat),(Ab (l.map eV)).take (k*2)=Ab ((l.take k).map eV)
 |[],k=>by simp[Ab]
 |v::l,0=>rfl
 |v::l,k+1=>by
  rw[AK,List.take_succ_cons,AK, ←X5 l k,show(k+1)*2=k*2+1+1 by omega];rfl
theorem Rl:∀(l:List b9) (k:Nat) (x:b9) (_:k<I l),(Ab (l.map eV)).take (k*2)++[bt (vi x.n),bt (dq x.az)]++(Ab (l.map eV)).drop (k*2+2)=Ab ((l.set k x).map eV)
 |v::l,0,x,_=>by grind[AK]
 |v::l,k+1,x,h=>by
  rw[JA,AK,AK, ←Rl l k x (by grind),show(k+1)*2=k*2+1+1 by omega];rfl
theorem Ajh(k:Nat):(((replicate k [vi 0,bv]).flatten.map bt).all D.one)=J:=by
 induction k with
 |zero=>rfl
 |succ k ih=>simp only[Jk,JC,J5,List.all_append,ih];rfl
theorem Agp:BW PP 23=G (34,2,32,G (.agg #[.int .i64 0,.slice none 0 0])):=by rfl
theorem V5(l:List V){R:List D}(h:D.pls R=J):D.pls (Ab l++R)=J:=by grind[D8,A9]
noncomputable def F7:=yl mg
noncomputable abbrev Au3:=[zu mg 119380,bh 2,zt mg 14923,bh 1,zt mg 467,kl F7 e9,bh 0,zt mg 15]
theorem Aqo(F:yx)(l:List b9)(q:b9->b9->Bool)(hl:I l<=1000)(hq:∀x∈l,∀y∈l,F0 F [dV x,dV y] (db (q x y)))(k0:Nat)(h0:1<=k0)(h1:k0<I l)(n:Nat):∀(k j:Nat) (A:List b9),I l-k0-j=n->1<=k->1<=j->k<k0+j->j<=I l-k0->I A=I l->(∀x∈A,x∈l)->(∀i:Nat,k0+j-1<=i->A[i]?=l[i]?)->(∀p,l[k0+j-1]?=G p->A.take k++Cp q p (l.drop (k0+j))=AT q l)->
  ∃(ys:List b9) (R:List D),ys=AT q l/\D.pls R=J/\R.all D.one=J/\Rn PP mg 1 (.arr 0 0 (I ys)) ⟨[G (Ab (ys.map eV)++R)],[]⟩ ([zu mg 119380,.blk 2,zt mg 14923,.blk 1,zt mg 467,zu mg 116,.blk 0,zt mg 15]++[]) (cz 66 [(0,.arr 0 0 (I l)),(1,dfn F),(5,di k),(6,.arr 0 (k0*2) (I l-k0)),(7,di j)]) ⟨[G (Ab (A.map eV))],[]⟩:=by
 induction n with
 |zero=>
  intro k j A hn hk hj hkj hjl hA hAl hAe hT
  refine⟨A.take k,(replicate (I l-k) [vi 0,bv]).flatten.map .v,?_,?_,?_,?_⟩
  ·obtain⟨p,hp⟩:∃p,l[k0+j-1]?=G p:=⟨_,HK (by omega)⟩
   have:=hT p hp
   rw[I3 (by omega),Cp,IX] at this
   exact this
  ·exact BJ _
  ·exact Ajh _
  have hkl:k<I l:=by omega
  have hsl:∀(o:yy) (x:x8) (y:x8) (τ:St),o.op=.slice 23 x (G y) none none->Ak PP o [.arr 0 0 (I l),di k] τ (.arr 0 (k*2) (I l-k)) τ:=fun o x y τ ho=>by
   have:=Da (P:=PP) (o:=o) (σ:=τ) ho Agp (q:=0) (off:=0) (len:=I l) (G (.i64,(k:Int))) none rfl rfl (l':=k) (h':=I l) (by simp[C8];omega) hkl
   rwa[IT] at this
  have hsh:∀(o:yy) (x:x8) (y:x8) (τ:St),o.op=.slice 23 x none (G y) none->Ak PP o [.arr 0 0 (I l),di k] τ (.arr 0 0 k) τ:=fun o x y τ ho=>by
   have:=Da (P:=PP) (o:=o) (σ:=τ) ho Agp (q:=0) (off:=0) (len:=I l) none (G (.i64,(k:Int))) rfl rfl (l':=0) (h':=k) (by simp[C8];omega) (by omega)
   rwa[Nat.zero_mul,Jp,Nat.sub_zero] at this
  have hfl:I (Ab (A.map eV))=I l*2:=by rw[AeX,hA]
  have hcl:=fun(o:yy) (x:x8) (ho:o.op=.call { callee:=.builtin .clear,args:= #[x],argTypes:= #[23]})=>Nx (P:=PP) (o:=o) (σ:=⟨[G (Ab (A.map eV))],[]⟩) ho Agp (zs:=[vi 0,.nils]) rfl rfl (q:=0) (off:=k*2) (len:=I l-k) rfl (by omega) (by rw[hfl];omega)
  have hd:(Ab (A.map eV)).drop (k*2+(I l-k)*2)=[]:=I3 (by rw[hfl];omega)
  have htk:(Ab (A.map eV)).take (k*2)=Ab ((A.take k).map eV):=X5 A k
  rw[hd,htk,IX] at hcl
  refine zp (.f<|.h (.q 14 2)<|.h (.o (.arr 0 (k*2) (I l-k)) ⟨[G (Ab (A.map eV))],[]⟩)<|.h (.o (.tup []) ⟨[G (Ab ((A.take k).map eV)++(replicate (I l-k) [vi 0,bv]).flatten.map .v)],[]⟩)<|.h (.q 15 2)<|.h (.o (.arr 0 0 k) ⟨[G (Ab ((A.take k).map eV)++(replicate (I l-k) [vi 0,bv]).flatten.map .v)],[]⟩) .ro) (yd j ↑(I l-k0)/\Ak PP (Oper.mk (G 61) (Op.slice 23 (Operand.tmp 59) (G (Operand.tmp 60)) none none) 23 "slices.go:410" #[Edge.mk 0 Ground.data,Edge.mk 1 Ground.data] none) [bo 0 0 (I l),di (k:Int)] (uv A) (bo 0 (k*2) (I l-k)) (uv A)/\Ak PP (Oper.mk none (Op.call (Call.mk (Callee.builtin Builtin.clear) #[Operand.tmp 61] #[23])) 0 "slices.go:410" #[Edge.mk 2 Ground.data] none) [bo 0 (k*2) (I l-k)] (uv A) (bl []) (bi [G (Ab (U eV (take k A))++U bt (flatten (replicate (I l-k) [vi 0,bv])))] [])/\Ak PP (Oper.mk (G 64) (Op.slice 23 (Operand.tmp 62) none (G (Operand.tmp 63)) none) 23 "slices.go:411" #[Edge.mk 0 Ground.data,Edge.mk 1 Ground.data] none) [bo 0 0 (I l),di (k:Int)] (bi [G (Ab (U eV (take k A))++U bt (flatten (replicate (I l-k) [vi 0,bv])))] []) (bo 0 0 k) (bi [G (Ab (U eV (take k A))++U bt (flatten (replicate (I l-k) [vi 0,bv])))] [])/\cp 1 [] [G (Ab (U eV (take k A))++U bt (flatten (replicate (I l-k) [vi 0,bv])))]=J/\Q [G (Ab (U eV (take k A))++U bt (flatten (replicate (I l-k) (vi 0::bv::nV))))]/\bo 0 0 k=bo 0 0 (I (take k A))) ⟨yq,hsl _ _ _ _ rfl,hcl _ _ rfl,hsh _ _ _ _ rfl,?_,rfl,by rw[ID,hA,Nat.min_eq_left (by omega)]⟩
  exact I1.2 ⟨AO (V5 _ (BJ _)),rfl⟩
 |succ n ih=>
  intro k j A hn hk hj hkj hjl hA hAl hAe hT
  obtain⟨x,hx⟩:=yk (show k0+j<I A by omega)
  obtain⟨y,hy⟩:=yk (show k0+j-1<I A by omega)
  have hc:=hq x (hAl x (HQ hx)) y (hAl y (HQ hy))
  have hw1:yt.wrap ((j:Int)-1)=((j-1:Nat):Int):=by rw[An];omega
  have hT':=hT y (by rw[←hAe _ (HR _)];exact hy)
  have hx':l[k0+j]?=G x:=by rw[←hAe _ (by omega)];exact hx
  rw[d8 hx',Cp] at hT'
  cases hb:q x y with
  |true=>
   rw[hb] at hc
   obtain⟨ys,R,r1,r3,r5,r4⟩:=ih k (j+1) A (by omega) hk (by omega) (by omega) (by omega) hA hAl (fun i hi=>hAe i (by omega)) (fun p hp=>by
    have e:x=p:=I8 (hx'.symm.trans hp)
    rw[hb,I4 rfl,e] at hT';exact hT')
   refine⟨ys,R,r1,r3,r5,?_⟩
   refine zp (.t<|.m (dV x)<|.m (dV y)<|.c (db J)<|.lo [ke 0,ke 1,ke 5,ke 6,ch 7 (zw j)] ⟨[G (Ab (A.map eV))],[]⟩) (ye j ↑(I l-k0)/\y6 j/\y5 j ↑(I l-k0)/\k0*2+Z (j:Int)*2+2<=I (ec A)/\take 2 (W (k0*2+Z (j:Int)*2) (ec A))=(da x.n x.az)/\0<=yu yt ((j:Int)-1)/\y5 (yu yt ((j:Int)-1)) ↑(I l-k0)/\k0*2+Z (yu yt ((j:Int)-1))*2+2<=I (ec A)/\take 2 (W (k0*2+Z (yu yt ((j:Int)-1))*2) (ec A))=(da y.n y.az)/\type_of% hc/\yo/\zx j/\cp 1 [] [G (ec A)]=J/\Q [G (ec A)]/\It (type_of% r4)) ?_
   rw[hw1]
   refine⟨yr,by omega,by omega,by rw[show k0*2+Z (j:Int)*2=(k0+j)*2 by omega];have:=EE hx;omega,by rw[show k0*2+Z (j:Int)*2=(k0+j)*2 by omega];exact FX hx,by omega,by omega,by rw[show k0*2+Z ((j-1:Nat):Int)*2=(k0+j-1)*2 by omega];have:=EE hy;omega,by rw[show k0*2+Z ((j-1:Nat):Int)*2=(k0+j-1)*2 by omega];exact FX hy,hc,ym,Ac,I1.2 ⟨Am 1 [] _,rfl⟩,rfl,⟨r4⟩⟩
  |false=>
   rw[hb] at hc
   have hA2:∀z∈A.set k x,z∈l:=fun z hz=>by
    rcases Jv hz with h|h
    ·exact hAl z h
    ·rw[h];exact hAl x (HQ hx)
   obtain⟨ys,R,r1,r3,r5,r4⟩:=ih (k+1) (j+1) (A.set k x) (by omega) (by omega) (by omega) (by omega) (by omega) (by rw[length_set];exact hA) hA2 (fun i hi=>by rw[List.getElem?_set_ne (by omega)];exact hAe i (by omega)) (fun p hp=>by
    have e:x=p:=I8 (hx'.symm.trans hp)
    rw[hb,Iz (by decide)] at hT'
    rw[KF (by omega),Jx,List.singleton_append, ←e];exact hT')
   refine⟨ys,R,r1,r3,r5,?_⟩
   refine zp (.t<|.m (dV x)<|.m (dV y)<|.c (db O)<|.m (dV x)<|.h .ww<|.lo [ke 0,ke 1,ch 5 (zw k),ke 6,ch 7 (zw j)] ⟨[G (Ab ((A.set k x).map eV))],[]⟩) (ye j ↑(I l-k0)/\y6 j/\y5 j ↑(I l-k0)/\k0*2+Z (j:Int)*2+2<=I (ec A)/\take 2 (W (k0*2+Z (j:Int)*2) (ec A))=(da x.n x.az)/\0<=yu yt ((j:Int)-1)/\y5 (yu yt ((j:Int)-1)) ↑(I l-k0)/\k0*2+Z (yu yt ((j:Int)-1))*2+2<=I (ec A)/\take 2 (W (k0*2+Z (yu yt ((j:Int)-1))*2) (ec A))=(da y.n y.az)/\type_of% hc/\yo/\y6 j/\y5 j ↑(I l-k0)/\k0*2+Z (j:Int)*2+2<=I (ec A)/\take 2 (W (k0*2+Z (j:Int)*2) (ec A))=(da x.n x.az)/\y6 k/\y5 k (I l)/\0+Z (k:Int)*2+2<=I (ec A)/\zx k/\zx j/\cp 1 [] [G (take (0+Z (k:Int)*2) (ec A)++(da x.n x.az)++W (0+Z (k:Int)*2+2) (ec A))]=J/\[G (take (0+Z (k:Int)*2) (ec A)++(da x.n x.az)++W (0+Z (k:Int)*2+2) (ec A))]=[G (Ab (U eV (List.set A k x)))]/\It (type_of% r4)) ?_
   rw[hw1]
   refine⟨yr,by omega,by omega,by rw[show k0*2+Z (j:Int)*2=(k0+j)*2 by omega];have:=EE hx;omega,by rw[show k0*2+Z (j:Int)*2=(k0+j)*2 by omega];exact FX hx,by omega,by omega,by rw[show k0*2+Z ((j-1:Nat):Int)*2=(k0+j-1)*2 by omega];have:=EE hy;omega,by rw[show k0*2+Z ((j-1:Nat):Int)*2=(k0+j-1)*2 by omega];exact FX hy,hc,ym,by omega,by omega,by rw[show k0*2+Z (j:Int)*2=(k0+j)*2 by omega];have:=EE hx;omega,by rw[show k0*2+Z (j:Int)*2=(k0+j)*2 by omega];exact FX hx,by omega,by omega,by rw[AeX];omega,Ac,Ac,?_,?_,⟨r4⟩⟩
   ·rw[show 0+Z (k:Int)*2=k*2 by omega,Rl A k x (by omega)]
    exact I1.2 ⟨Am 1 [] _,rfl⟩
   ·rw[show 0+Z (k:Int)*2=k*2 by omega,Rl A k x (by omega)]
theorem Am4(F:yx)(l:List b9)(q:b9->b9->Bool)(hl:I l<=1000)(hq:∀x∈l,∀y∈l,F0 F [dV x,dV y] (db (q x y)))(n:Nat):∀(k:Nat),I l-k=n->1<=k->k<=I l->(∀p,l[k-1]?=G p->l.take k++Cp q p (l.drop k)=AT q l)->
  ∃(ys:List b9) (R:List D),ys=AT q l/\D.pls R=J/\R.all D.one=J/\Rn PP mg 1 (.arr 0 0 (I ys)) ⟨[G (Ab (ys.map eV)++R)],[]⟩ ([zu mg 116,.blk 0,zt mg 15]++[]) (cz 66 [(0,.arr 0 0 (I l)),(1,dfn F),(5,di k)]) ⟨[G (Ab (l.map eV))],[]⟩:=by
 induction n with
 |zero=>
  intro k hn hk hkl hT
  refine⟨l,[],?_,rfl,rfl,?_⟩
  ·obtain⟨p,hp⟩:∃p,l[k-1]?=G p:=⟨_,HK (by omega)⟩
   have:=hT p hp
   rw[I3 (by omega),Cp,IX,IB (by omega)] at this
   exact this
  refine zp (.f .ro) (yd k (I l)/\cp 1 [] [G (Ab (U eV l))]=J/\[G (Ab (U eV l))]=[G (Ab (U eV l)++[])]/\Q (bo 0 0 (I l))) ?_
  grind[Am,cp]
 |succ n ih=>
  intro k hn hk hkl' hT
  obtain⟨x,hx⟩:=yk (show k<I l by omega)
  obtain⟨y,hy⟩:=yk (show k-1<I l by omega)
  have hc:=hq x (HQ hx) y (HQ hy)
  have hkl:k<I l:=by omega
  have hw1:yt.wrap ((k:Int)-1)=((k-1:Nat):Int):=by grind[An]
  have hT':=hT y hy
  rw[d8 hx,Cp] at hT'
  cases hb:q x y with
  |true=>
   rw[hb] at hc
   obtain⟨ys,R,r1,r3,r5,r4⟩:=Aqo F l q hl hq k hk (by omega) _ k 1 l rfl hk (by omega) (by omega) (by omega) rfl (fun x h=>h) (fun _ _=>rfl) (fun p hp=>by
    grind)
   refine⟨ys,R,r1,r3,r5,?_⟩
   refine zp (.t<|.m (dV x)<|.m (dV y)<|.c (db J)<|.k<|.h (.q 7 2)<|.h (.o (.arr 0 (k*2) (I l-k)) ⟨[G (Ab (l.map eV))],[]⟩)<|.lo [ke 0,ke 1,ke 5,ke 6,ch 7 (di (1:Nat))] ⟨[G (Ab (l.map eV))],[]⟩) (ye k (I l)/\y6 k/\y5 k (I l)/\0+Z (k:Int)*2+2<=I (Ab (U eV l))/\take 2 (W (0+Z (k:Int)*2) (Ab (U eV l)))=[di x.n,co x.az]/\0<=yu yt ((k:Int)-1)/\yu yt ((k:Int)-1)<(I l:Int)/\0+Z (yu yt ((k:Int)-1))*2+2<=I (Ab (U eV l))/\take 2 (W (0+Z (yu yt ((k:Int)-1))*2) (Ab (U eV l)))=[di y.n,co y.az]/\type_of% hc/\yo/\Ak PP (Oper.mk (G 31) (Op.slice 23 (Operand.tmp 29) (G (Operand.tmp 30)) none none) 23 "slices.go:402" #[Edge.mk 0 Ground.data,Edge.mk 1 Ground.data] none) [bo 0 0 (I l),di (k:Int)] (bi [G (Ab (U eV l))] []) (bo 0 (k*2) (I l-k)) (bi [G (Ab (U eV l))] [])/\di 1=di (↑1:Int)/\cp 1 [] [G (Ab (U eV l))]=J/\Q [G (Ab (U eV l))]/\It (type_of% r4)) ?_
   have hsl:∀(o:yy) (x:x8) (y:x8) (τ:St),o.op=.slice 23 x (G y) none none->Ak PP o [.arr 0 0 (I l),di k] τ (.arr 0 (k*2) (I l-k)) τ:=fun o x y τ ho=>by
    have:=Da (P:=PP) (o:=o) (σ:=τ) ho Agp (q:=0) (off:=0) (len:=I l) (G (.i64,(k:Int))) none rfl rfl (l':=k) (h':=I l) (by simp[C8];omega) hkl
    rwa[IT] at this
   rw[hw1]
   exact⟨yr,by omega,by omega,by have:=EE hx;omega,by grind[Int.toNat,FX],by omega,by omega,by have:=EE hy;omega,by grind[Int.toNat,FX],hc,ym,hsl _ _ _ _ rfl,rfl,I1.2 ⟨Am 1 [] _,rfl⟩,rfl,⟨r4⟩⟩
  |false=>
   rw[hb] at hc
   obtain⟨ys,R,r1,r3,r5,r4⟩:=ih (k+1) (by omega) (by omega) (by omega) (fun p hp=>by
    grind[take_add_one])
   refine⟨ys,R,r1,r3,r5,?_⟩
   refine zp (.t<|.m (dV x)<|.m (dV y)<|.c (db O)<|.lo [ke 0,ke 1,ch 5 (zw k)] ⟨[G (Ab (l.map eV))],[]⟩) (ye k (I l)/\y6 k/\y5 k (I l)/\0+Z (k:Int)*2+2<=I (Ab (U eV l))/\take 2 (W (0+Z (k:Int)*2) (Ab (U eV l)))=[di x.n,co x.az]/\0<=yu yt ((k:Int)-1)/\yu yt ((k:Int)-1)<(I l:Int)/\0+Z (yu yt ((k:Int)-1))*2+2<=I (Ab (U eV l))/\take 2 (W (0+Z (yu yt ((k:Int)-1))*2) (Ab (U eV l)))=[di y.n,co y.az]/\type_of% hc/\yo/\zx k/\cp 1 [] [G (Ab (U eV l))]=J/\Q [G (Ab (U eV l))]/\It (type_of% r4)) ?_
   rw[hw1]
   exact⟨yr,by omega,by omega,by have:=EE hx;omega,by grind[Int.toNat,FX],by omega,by omega,by have:=EE hy;omega,by grind[Int.toNat,FX],hc,ym,Ac,I1.2 ⟨Am 1 [] _,rfl⟩,rfl,⟨r4⟩⟩
theorem Aqp(F:yx)(l:List b9)(q:b9->b9->Bool)(hl:I l<=1000)(hq:∀x∈l,∀y∈l,F0 F [dV x,dV y] (db (q x y))):
  ∃R:List D,D.pls R=J/\R.all D.one=J/\Aa PP 161 [.arr 0 0 (I l),dfn F] ⟨[G (Ab (l.map eV))],[]⟩ (.arr 0 0 (I (AT q l))) ⟨[G (Ab ((AT q l).map eV)++R)],[]⟩:=by
 by_cases h2:I l<2
 ·refine⟨[],rfl,rfl,?_⟩
  rw[Lr q h2]
  exact zq mg 66 (.t .ro) (ye (I l) 2/\cp 1 [] [G (ec l)]=J/\[G (ec l)]=[G (Ab (U eV l)++[])]/\Q (bo 0 0 (I l))) ⟨yr,I1.2 ⟨Am 1 [] _,rfl⟩,by rw[IX],rfl⟩
 ·obtain⟨ys,R,r1,r3,r5,r4⟩:=Am4 F l q hl hq _ 1 rfl (HR _) (by omega) (fun p hp=>Oc hp)
  subst r1
  refine⟨R,r3,r5,?_⟩
  exact zq mg 66 (.f<|.lo [ke 0,ke 1,ch 5 (di (1:Nat))] ⟨[G (Ab (l.map eV))],[]⟩) (yd (I l) 2/\Q (di 1)/\cp 1 [] [G (ec l)]=J/\Q [G (ec l)]/\_) ⟨yq,rfl,I1.2 ⟨Am 1 [] _,rfl⟩,rfl,iK r4⟩
abbrev AqF(x:V):D:=.v (.ref x)
abbrev Vy(m:cx)(r:cm)(ms:List (Int×Int)):List D:=[AqF (Aq m),AqF (Aj r),AqF (DF ms),.ptr 0 0,.ptr 1 0]
abbrev CY(b:Bool)(xs:List b9):St:=⟨[G [.gro 2 (I xs) 2],G [db b],G (Ab (xs.map eV))],[]⟩
abbrev GY(b:Bool)(xs:List b9):St:=⟨[G [.gro 3 (I xs) 2],G [db b],none,G (Ab (xs.map eV))],[]⟩
noncomputable abbrev xl:=(Oper.mk (G 22) (Op.buildSlice 23 1 #[(0,Operand.tmp 21)]) 23 "timed.go:85" #[Edge.mk 1 Ground.data] none)
theorem ArV(m:cx)(t:cr)(hm:X3 m t)(r:cm)(ms l:List (Int×Int))(hl:I l<=50)(hms:I ms<=50)(b:Bool):Aa PP 165 ([AI l]++Vy m r ms) ⟨[G [.v .nils],G [db b]],[]⟩ (.tup []) (CY (b&&Al t (Ew r.to (l++ms))) [Ew r.to (l++ms)]):=by
 have h2:=QY m t hm r.to (l++ms) (by grind)
 generalize Al t (Ew r.to (l++ms))=ok at h2⊢
 generalize Ew r.to (l++ms)=v at h2⊢
 have hco:F0 167 [bt (ae [DF l,DF ms])] (AI (l++ms)):=by
  have:=Of [l,ms] (by simp) (by grind)
  grind
 have hfA:∀z:Bool,[G [bm 3 1 2],G [db z],G [di v.n,bt (dq v.az)],G [di v.n,bt (dq v.az)]]=[G [bm 3 1 2],G [db z],G [di v.n,co v.az],G (Ab ([v].map eV))]:=fun z=>by rw[AK];rfl
 have h:Aa PP 165 ([AI l]++Vy m r ms) ⟨[G [.v .nils],G [db b]],[]⟩ (.tup []) ⟨[G [.gro 3 1 2],G [db (b&&ok)],G [di v.n,co v.az],G (Ab ([v].map eV))],[]⟩:=by
  cases b with
  |true=>
   exact zq WS 28 (.h (.dr 11)<|.c (AI (l++ms))<|.c (.tup [dV v,db ok])<|.m (.v .nils)<|.m (dV v)<|.h (.p (.v (.list [Ad v])))<|.h .g<|.ro) (_/\_/\Q [bi [G [dn],G [db J],G [di 0,dn]] []]/\True/\Q (G (dn))/\2<=2/\Q (da v.n v.az)/\(∀(τ:St),Ak PP xl [dV v] τ (bt (ae [Ad v])) τ)/\[Ad v]≠ []/\(∀(y:V),y∈ [Ad v]->V.size y=2)/\Ao 1 32/\(True/\True/\(Q (G [db J])/\True)/\True)/\([]:List KI)=[]/\Q J/\[G [bm 3 1 2],G [db ok],G (da v.n v.az),G (da v.n v.az)]=[G [bm 3 1 2],G [db (true&&ok)],G (da v.n v.az),G (Ab (eV v::nV))]/\Q (bl [])) ⟨hco,h2,rfl,trivial,rfl,HR _,rfl,fun τ=>qo v τ rfl,by simp,fun y hy=>by rw[Ia.1 hy];rfl,⟨by decide,by decide⟩,⟨trivial,trivial,⟨rfl,trivial⟩,trivial⟩,rfl,rfl,hfA _,rfl⟩
  |false=>
   exact zq WS 28 (.h (.dr 11)<|.c (AI (l++ms))<|.c (.tup [dV v,db ok])<|.m (.v .nils)<|.m (dV v)<|.h (.p (.v (.list [Ad v])))<|.h .g<|.ro) (_/\_/\Q [bi [G [dn],G [db O],G [di 0,dn]] []]/\True/\Q (G (dn))/\2<=2/\Q (da v.n v.az)/\(∀(τ:St),Ak PP xl [dV v] τ (bt (ae [Ad v])) τ)/\[Ad v]≠ []/\(∀(y:V),y∈ [Ad v]->V.size y=2)/\Ao 1 32/\(True/\True/\(Q (G [db O])/\True)/\True)/\([]:List KI)=[]/\Q J/\[G [bm 3 1 2],G [db O],G (da v.n v.az),G (da v.n v.az)]=[G [bm 3 1 2],G [db (false&&ok)],G (da v.n v.az),G (Ab (eV v::nV))]/\Q (bl [])) ⟨hco,h2,rfl,trivial,rfl,HR _,rfl,fun τ=>qo v τ rfl,by simp,fun y hy=>by rw[Ia.1 hy];rfl,⟨by decide,by decide⟩,⟨trivial,trivial,⟨rfl,trivial⟩,trivial⟩,rfl,rfl,hfA _,rfl⟩
 refine EL (σ:=⟨[G [.v .nils],G [db b]],[]⟩) (fun i=>if i<2 then i else i+1) (show 2<=3 by decide) (fun i hi=>I4 hi) (fun i j _ _ h=>?_) (fun i hi=>?_) (fun i cs hi=>?_) rfl h
 ·grind
 ·grind
 ·match i,hi with
  |0,hi=>have hi:=I8 (I8 (hi:G (G _)=G (G cs)));subst hi;exact⟨rfl,rfl⟩
  |1,hi=>have hi:=I8 (I8 (hi:G (G _)=G (G cs)));subst hi;exact⟨rfl,rfl⟩
  |2,hi=>grind[AA,A9,Am]
  |i+3,hi=>grind
theorem ArU(m:cx)(t:cr)(hm:X3 m t)(r:cm)(ms l:List (Int×Int))(hl:I l<=50)(hms:I ms<=50)(xs:List b9)(hx:I xs<=100000)(b:Bool):Aa PP 165 ([AI l]++Vy m r ms) (CY b xs) (.tup []) (GY (b&&Al t (Ew r.to (l++ms))) (xs++[Ew r.to (l++ms)])):=by
 have h2:=QY m t hm r.to (l++ms) (by simp;omega)
 generalize Al t (Ew r.to (l++ms))=ok at h2⊢
 generalize Ew r.to (l++ms)=v at h2⊢
 have hco:F0 167 [bt (ae [DF l,DF ms])] (AI (l++ms)):=by
  have:=Of [l,ms] (by simp) (by simp;omega)
  simp only[JC,List.flatten_nil,IX] at this
  exact this
 have hfB:∀z:Bool,[G [bm 4 (I xs+[Ad v].length) 2],G [db z],none,G [di v.n,bt (dq v.az)],G (Ab (xs.map eV)++[di v.n,bt (dq v.az)])]=[G [bm 4 (I (xs++[v])) 2],G [db z],none,G [di v.n,co v.az],G (Ab ((xs++[v]).map eV))]:=fun z=>by
  rw[EY,HY];rfl
 have hkB:∀z:Bool,cp 5 [] [G [bm 4 (I xs+[Ad v].length) 2],G [db z],none,G [di v.n,bt (dq v.az)],G (Ab (xs.map eV)++[di v.n,bt (dq v.az)])]=J:=fun z=>by
  rw[EY];simp[cp,D.okNs,D.okN,Am]
 have h:Aa PP 165 ([AI l]++Vy m r ms) (CY b xs) (.tup []) ⟨[G [.gro 4 (I (xs++[v])) 2],G [db (b&&ok)],none,G [di v.n,co v.az],G (Ab ((xs++[v]).map eV))],[]⟩:=by
  cases b with
  |true=>
   exact zq WS 28 (.h (.dr 11)<|.c (AI (l++ms))<|.c (.tup [dV v,db ok])<|.m (.gro 2 (I xs) 2)<|.m (dV v)<|.h (.p (.v (.list [Ad v])))<|.ro) (_/\_/\Q [bi [G [bm 2 (I xs) 2],G [db J],G (ec xs),G [di 0,dn]] []]/\True/\Q (G (bm 2 (I xs) 2))/\2<=2/\Q (da v.n v.az)/\(∀(τ:St),Ak PP xl [dV v] τ (bt (ae [Ad v])) τ)/\I (ec xs)=I xs*2/\[Ad v]≠ []/\(∀(y:V),y∈ [Ad v]->V.size y=2)/\Ao (I xs+I (Ad v::nV)) 32/\(True/\True/\(Q (G [db J])/\True)/\True)/\([]:List KI)=[]/\cp 5 [] [G [bm 4 (I xs+I (Ad v::nV)) 2],G [db ok],none,G (da v.n v.az),G (Ab (U eV xs)++(da v.n v.az))]=J/\[G [bm 4 (I xs+I (Ad v::nV)) 2],G [db ok],none,G (da v.n v.az),G (Ab (U eV xs)++(da v.n v.az))]=[G [bm 4 (I (xs++[v])) 2],G [db (true&&ok)],none,G (da v.n v.az),G (Ab (U eV (xs++[v])))]/\Q (bl [])) ⟨hco,h2,rfl,trivial,rfl,HR _,rfl,fun τ=>qo v τ rfl,by rw[B1],by simp,fun y hy=>by rw[Ia.1 hy];rfl,⟨by simp only[HP,HT];omega,by simp only[HP,HT];omega⟩,⟨trivial,trivial,⟨rfl,trivial⟩,trivial⟩,rfl,hkB _,hfB _,rfl⟩
  |false=>
   exact zq WS 28 (.h (.dr 11)<|.c (AI (l++ms))<|.c (.tup [dV v,db ok])<|.m (.gro 2 (I xs) 2)<|.m (dV v)<|.h (.p (.v (.list [Ad v])))<|.ro) (_/\_/\Q [bi [G [bm 2 (I xs) 2],G [db O],G (ec xs),G [di 0,dn]] []]/\True/\Q (G (bm 2 (I xs) 2))/\2<=2/\Q (da v.n v.az)/\(∀(τ:St),Ak PP xl [dV v] τ (bt (ae [Ad v])) τ)/\I (ec xs)=I xs*2/\[Ad v]≠ []/\(∀(y:V),y∈ [Ad v]->V.size y=2)/\Ao (I xs+I (Ad v::nV)) 32/\(True/\True/\(Q (G [db O])/\True)/\True)/\([]:List KI)=[]/\cp 5 [] [G [bm 4 (I xs+I (Ad v::nV)) 2],G [db O],none,G (da v.n v.az),G (Ab (U eV xs)++(da v.n v.az))]=J/\[G [bm 4 (I xs+I (Ad v::nV)) 2],G [db O],none,G (da v.n v.az),G (Ab (U eV xs)++(da v.n v.az))]=[G [bm 4 (I (xs++[v])) 2],G [db (false&&ok)],none,G (da v.n v.az),G (Ab (U eV (xs++[v])))]/\Q (bl [])) ⟨hco,h2,rfl,trivial,rfl,HR _,rfl,fun τ=>qo v τ rfl,by rw[B1],by simp,fun y hy=>by rw[Ia.1 hy];rfl,⟨by simp only[HP,HT];omega,by simp only[HP,HT];omega⟩,⟨trivial,trivial,⟨rfl,trivial⟩,trivial⟩,rfl,hkB _,hfB _,rfl⟩
 refine EL (σ:=CY b xs) (fun i=>if i<3 then i else i+1) (show 3<=4 by decide) (fun i hi=>I4 hi) (fun i j _ _ h=>?_) (fun i hi=>?_) (fun i cs hi=>?_) rfl h
 ·have h:(if i<3 then i else i+1)=(if j<3 then j else j+1):=h
  split at h<;>split at h<;>omega
 ·have hi:i<4:=hi
  show(if i<3 then i else i+1)<5
  split<;>omega
 ·match i,hi with
  |0,hi=>have hi:=I8 (I8 (hi:G (G _)=G (G cs)));subst hi;exact⟨rfl,rfl⟩
  |1,hi=>have hi:=I8 (I8 (hi:G (G _)=G (G cs)));subst hi;exact⟨rfl,rfl⟩
  |2,hi=>simp at hi
  |3,hi=>have hi:=I8 (I8 (hi:G (G _)=G (G cs)));subst hi;exact⟨by rw[AA (A9 _)];rfl,Am _ _ _⟩
  |i+4,hi=>simp at hi
abbrev tq:x6:=137
theorem AnY:PP.underlying tq=G (.array 2 3):=by kernel_rfl
theorem Alc:(PP.info? 3).isSome=J:=by kernel_rfl
theorem AgH:PP.cellsOf 3=1:=by kernel_rfl
theorem Ww:PP.plainKey 3=J:=by kernel_rfl
theorem AnX:PP.underlying 3=G (.int .i64):=by kernel_rfl
theorem AgG:PP.eqGuardType PP.depth tq=O:=by kernel_rfl
theorem Agx(d:Nat)(a b x y:Int)(w:x5):
  (Op.equalIn (d+2) tq (.agg #[.int .i64 a,.int .i64 b]) (.agg #[.int .i64 x,.int .i64 y])).run PP w=.ok (a==x&&b==y) w:=by
 obtain⟨i,hi⟩:=Option.isSome_iff_exists.1 Alc
 rw[run_equalIn_array w (d+1) _ _ AnY hi,AgH,show List.range 2=[0,1] from rfl]
 have e1:∀(x y:Int) w,(part 3 #[.int .i64 x,.int .i64 y] (0*1)).run PP w=.ok (.int .i64 x) w:=fun x y w=>run_part_plain w Ww rfl
 have e2:∀(x y:Int) w,(part 3 #[.int .i64 x,.int .i64 y] (1*1)).run PP w=.ok (.int .i64 y) w:=fun x y w=>run_part_plain w Ww rfl
 have e3:=fun(a x:Int) w=>run_equalIn_int (P:=PP) w d 3 .i64 .i64 a x AnX
 simp only[Op.eqItems,Sem.run_bind,e1,e3,Result.andThen_ok]
 cases h1:(a==x)<;>cases h2:(b==y)<;>simp_all
theorem Wx{o:yy}{σ:St}{ty:x6}{p q:x8}(ho:o.op=.binOp .neq tq p q ty)(a b x y:Int):Ak PP o [.v (cd (a,b)),.v (cd (x,y))] σ (db (!(a==x&&b==y))) σ:=by
 refine A8 fun E g ρ w hw hds=>?_
 simp only[ho,Op.operands,Ax] at hds
 obtain⟨u,v,e,h1,h2'⟩:=hds
 simp only[I9,Jo,HX,IL] at e
 obtain⟨e1,e2⟩:=e
 simp only[Ah,Cx] at h1 h2'
 obtain⟨ws,h1,rfl⟩:=h1
 obtain⟨vs,h3,rfl⟩:=h2'
 have hw1:ws=[.int .i64 a,.int .i64 b]:=by
  simp only[repA,repC,HX,IL] at h1
  obtain⟨u,us,rfl,_,rfl,u2,us2,rfl,_,rfl,rfl⟩:=h1;rfl
 have hw2:vs=[.int .i64 x,.int .i64 y]:=by
  simp only[repA,repC,HX,IL] at h3
  obtain⟨u,us,rfl,_,rfl,u2,us2,rfl,_,rfl,rfl⟩:=h3;rfl
 subst hw1 hw2
 refine⟨.bool (!(a==x&&b==y)),?_,by simp[Ah]⟩
 have hr:=Agx 9998 a b x y w
 simp[execOp,ho,e1,e2,run_eqGuard_agg w .neq tq p q _ _ AgG,run_neq_struct,hr]
abbrev j4(b:Bool):St:=⟨[G [.v .nils],G [db b]],[]⟩
abbrev Di(m:cx)(r:cm)(ms:List (Int×Int)):D:=.dfn 165 [] (Vy m r ms)
noncomputable def T7:=yl EF
theorem Asa(m:cx)(t:cr)(hm:X3 m t)(r:cm)(ms l:List (Int×Int))(hl:I l<=50)(hms:I ms<=50)(b:Bool):Aa PP 163 [AI l,.v (AH []),Di m r ms] (j4 b) (.tup []) (CY (b&&Al t (Ew r.to (l++ms))) [Ew r.to (l++ms)]):=by
 have h2:=ArV m t hm r ms l hl hms b
 generalize Al t (Ew r.to (l++ms))=ok at h2⊢
 generalize Ew r.to (l++ms)=v at h2⊢
 refine zq EF 71 (.t<|.h (.oc (.tup []) (CY (b&&ok) [v])) .ro) (Q J/\(N0 [Di m r ms,AI l] (j4 b) (bl []) (CY (b&&ok) [v]))/\cp 3 [] [G [bm 2 1 2],G [db (b&&ok)],G (Ab [eV v])]=J/\Q [G [bm 2 1 2],G [db (b&&ok)],G (Ab (eV v::nV))]/\Q (bl [])) ⟨rfl,fun o cl fo ho hc=>?_,by rw[←show Ab ([v].map eV)=Ab [eV v] from rfl];simp[cp,D.okNs,D.okN,Am],rfl,rfl⟩
 exact D9 (H:=[[.v .nils],[db b]]) ho hc (fs:=[]) (cs:=Vy m r ms) (ds:=[AI l]) rfl h2 rfl (fun cs hm=>by
  simp at hm;rcases hm with rfl|rfl<;>exact⟨rfl,rfl⟩) rfl (by simp[cp,D.okNs,D.okN,Am]) (by show 2<=3;decide)
theorem ArZ(m:cx)(t:cr)(hm:X3 m t)(r:cm)(ms l:List (Int×Int))(hl:I l<=50)(hms:I ms<=50)(xs:List b9)(hx:I xs<=100000)(b:Bool):Aa PP 163 [AI l,.v (AH []),Di m r ms] (CY b xs) (.tup []) (GY (b&&Al t (Ew r.to (l++ms))) (xs++[Ew r.to (l++ms)])):=by
 have h2:=ArU m t hm r ms l hl hms xs hx b
 generalize Al t (Ew r.to (l++ms))=ok at h2⊢
 generalize Ew r.to (l++ms)=v at h2⊢
 refine zq EF 71 (.t<|.h (.oc (.tup []) (GY (b&&ok) (xs++[v]))) .ro) (Q J/\(N0 [Di m r ms,AI l] (CY b xs) (bl []) (GY (b&&ok) (xs++[v])))/\cp 4 [] [G [bm 3 (I (xs++[v])) 2],G [db (b&&ok)],none,G (Ab (U eV (xs++[v])))]=J/\Q [G [bm 3 (I (xs++[v])) 2],G [db (b&&ok)],none,G (Ab (U eV (xs++[v])))]/\Q (bl [])) ⟨rfl,fun o cl fo ho hc=>?_,by simp[cp,D.okNs,D.okN,Am],rfl,rfl⟩
 exact D9 (H:=[[.gro 2 (I xs) 2],[db b],Ab (xs.map eV)]) ho hc (fs:=[]) (cs:=Vy m r ms) (ds:=[AI l]) rfl h2 rfl (fun cs hm=>by
  simp at hm;rcases hm with rfl|rfl|rfl
  ·exact⟨rfl,rfl⟩
  ·exact⟨rfl,rfl⟩
  ·exact⟨Am _ _ _,Db _⟩) rfl (by simp[cp,D.okNs,D.okN,Am]) (by show 3<=4;decide)
abbrev pb(b:Bool):St:=⟨[G [.v .nils],G [db b],none],[]⟩
def xa(b:Bool):List b9->St
 |[]=>j4 b
 |x::xs=>CY b (x::xs)
def vn(b:Bool):List b9->List b9->St
 |xs,[]=>xa b xs
 |[],y::ys=>CY b (y::ys)
 |x::xs,y::ys=>GY b (x::xs++y::ys)
theorem RA{b:Bool}{xs:List b9}(h:xs≠ []):xa b xs=CY b xs:=by
 cases xs with
 |nil=>exact absurd rfl h
 |cons x xs=>rfl
theorem AaU{b:Bool}{xs:List b9}:vn b xs []=xa b xs:=by cases xs<;>rfl
theorem AfW{b:Bool}{ys:List b9}(h:ys≠ []):vn b [] ys=CY b ys:=by
 cases ys with
 |nil=>exact absurd rfl h
 |cons y ys=>rfl
theorem AkC{b:Bool}{xs ys:List b9}(h:xs≠ [])(h2:ys≠ []):vn b xs ys=GY b (xs++ys):=by
 cases xs with
 |nil=>exact absurd rfl h
 |cons x xs=>cases ys with
  |nil=>exact absurd rfl h2
  |cons y ys=>rfl
theorem GL{l:List (Int×Int)}{k:Nat}{x:Int×Int}(h:l[k]?=G x):(l.map cd)[Z (k:Int)]?=G (cd x):=by rw[Jy,IP,h];rfl
def R7(tk:Tk)(l:List (Int×Int))(k:Nat):Bool:=match l[k]? with
 |some x=>(x.1==tk.place)&&(decide (x.2>=tk.low)&&(decide (x.2<=tk.high)&&(((k:Int)==0)||(match l[k-1]? with
  |some y=> !(y.1==x.1&&y.2==x.2)
  |none=>true))))
 |none=>false
theorem HG(tk:Tk){l:List (Int×Int)}{k:Nat}{x:Int×Int}(h:l[k]?=G x):R7 tk l k=((x.1==tk.place)&&(decide (x.2>=tk.low)&&(decide (x.2<=tk.high)&&(((k:Int)==0)||(match l[k-1]? with
  |some y=> !(y.1==x.1&&y.2==x.2)
  |none=>true))))):=by
 unfold R7;rw[h]
theorem Aeu(l:List (Int×Int))(hl:I l<=50)(k:Nat)(hk:k<I l):F0 167 [bt (ae [ae (W 0 (take (Z (k:Int)) (l.map cd))),ae (W (Z ((k+1:Nat):Int)) (take (I (l.map cd)) (l.map cd)))])] (AI (l.take k++l.drop (k+1))):=by
 have h:=Of [l.take k,l.drop (k+1)] (by simp) (by simp;omega)
 simp only[JC,List.flatten_nil,IX] at h
 have e:bt (ae [ae (W 0 (take (Z (k:Int)) (l.map cd))),ae (W (Z ((k+1:Nat):Int)) (take (I (l.map cd)) (l.map cd)))])=dl (EH [l.take k,l.drop (k+1)]):=by
  rw[IB (HR _),JG,Jy,Jy, ←map_take, ←map_drop];rfl
 rw[e];exact h
theorem AN{n:Nat}{qs:List Nat}:∀{dcs ds:List D},D.okNs (I qs) [] dcs=J->ds=D.rens (d6 n qs) id dcs->Mo n qs ds dcs
 |[],ds,_,e=>by
  have e:ds=[]:=e
  subst e;exact .nil
 |d::dcs,ds,h,e=>by
  have e:ds=d.ren (d6 n qs) id::D.rens (d6 n qs) id dcs:=e
  subst e
  simp only[D.okNs,HL] at h
  exact .cons (.ren h.1) (AN h.2 rfl)
theorem AaN{tk:Tk}{ts:List Tk}{L:List V}(h:L=(tk::ts).map d9):ae (W (Z 1) (take (I L) L))=AH ts:=by
 rw[IB (HR _),h];rfl
theorem AaO{tk:Tk}{ts:List Tk}{L:List V}(h:L=(tk::ts).map d9):∀y∈L,y.size=3:=fun y hy=>by
 rw[h] at hy
 obtain⟨z,_,rfl⟩:=IQ.1 hy;rfl
theorem TR{tk:Tk}{ts:List Tk}{L:List V}(h:L=(tk::ts).map d9):(1:Int)<=((I L:Nat):Int):=by
 rw[h,HJ,HP];omega
theorem U1{C:c9->c9->Prop}{M:Nat}{R:List D->St->Prop}{ks:List KI}{e:List D}{H H':List (Option (List D))}(hCm:∀E0 E,C E0 E->E.g.n<=M)(hM:M<=I H)(hH:∀(i:Nat) (cs:List D),H[i]?=G (G cs)->H'[i]?=G (G cs))(he:D.okNs (I H) [] e=J)(hok:cp (I H) [] H=J)(h:A5 C PP R ks e ⟨H,[]⟩):A5 C PP R ks e ⟨H',[]⟩:=
 Cq (σ:=⟨H',[]⟩) (e':=e) (H':=H) (m:=M) hCm id hM (fun _ _=>rfl) (fun _ _ _ _ h=>h) (fun i cs hi=>⟨by rw[E4];exact hH i cs hi,N7 hok hi⟩) he (E4 e).symm h
theorem Aor{M:Nat}(hM:M<=3){R:List D->St->Prop}{ks:List KI}{e e':List D}(x:Int×Int)(ws:List b9)(b:Bool)(he:D.okNs 4 [] e'=J)(hee:e=D.rens (fun i=>if i<3 then i else i+2) id e')
  (h:A5 (CN M) PP R ks e' (GY b ws)):A5 (CN M) PP R ks e ⟨[G [.gro 5 (I ws) 2],G [db b],none,none,G [di x.1,di x.2],G (Ab (ws.map eV))],[]⟩:=by
 refine Cq (σ:=⟨[G [.gro 5 (I ws) 2],G [db b],none,none,G [di x.1,di x.2],G (Ab (ws.map eV))],[]⟩) (e':=e') (H':=(GY b ws).H) (m:=M) (fun _ _ h=>h.2) (fun i=>if i<3 then i else i+2) (show M<=4 by omega) (fun i hi=>I4 (by omega)) (fun i j _ _ h=>?_) (fun i cs hi=>?_) he hee h
 ·have h:(if i<3 then i else i+2)=(if j<3 then j else j+2):=h
  split at h<;>split at h<;>omega
 ·match i,hi with
  |0,hi=>have hi:=I8 (I8 (hi:G (G _)=G (G cs)));subst hi;exact⟨rfl,rfl⟩
  |1,hi=>have hi:=I8 (I8 (hi:G (G _)=G (G cs)));subst hi;exact⟨rfl,rfl⟩
  |2,hi=>simp at hi
  |3,hi=>have hi:=I8 (I8 (hi:G (G _)=G (G cs)));subst hi;exact⟨by rw[AA (A9 _)];rfl,Am _ _ _⟩
  |i+4,hi=>simp at hi
theorem AqV(m:cx)(r:cm)(ms l:List (Int×Int))(ts:List Tk)(x:Int×Int)(ys:List b9)(b b2:Bool){o:yy}{c:Call}{fo:x8}(ho:o.op=.call c)(hc:c.callee=.value fo)
  (h:Aa PP 163 [AI l,.v (AH ts),Di m r ms] (j4 b) (.tup []) (CY b2 ys)):
  Ak PP o [.v (.fn 163 [] []),AI l,.v (AH ts),Di m r ms] ⟨[G [.v .nils],G [db b],none,none,G [di x.1,di x.2]],[]⟩ (.tup []) ⟨[G [.gro 5 (I ys) 2],G [db b2],none,none,G [di x.1,di x.2],G (Ab ((ys).map eV))],[]⟩:=by
 have h2:=BE (σ:=⟨[G [.v .nils],G [db b],none,none,G [di x.1,di x.2]],[]⟩) ho hc (fD:=.v (.fn 163 [] [])) (fs:=[]) (cs:=[]) (ds:=[AI l,.v (AH ts),Di m r ms]) rfl [0,1] id h
  (AN rfl rfl) (.cons rfl (AN rfl rfl) rfl (.cons rfl (AN rfl rfl) rfl .nil)) (by decide) rfl (by simp) (by simp) rfl (by simp[cp,D.okNs,D.okN,Am])
 have e:Dn (d6 5 [0,1]) id (CY b2 ys).H=[G [.gro 5 (I ys) 2],G [db b2],G (Ab ((ys).map eV))]:=by
  show [G _,G _,G (D.rens _ _ _)]=_
  rw[AA (A9 _)];rfl
 have h2:Ak PP o _ _ _ ⟨CG _ _ (Dn (d6 5 [0,1]) id (CY b2 ys).H),_⟩:=h2
 rw[e] at h2
 exact h2
theorem AqU(m:cx)(r:cm)(ms l:List (Int×Int))(ts:List Tk)(x:Int×Int)(xs:List b9)(ys:List b9)(b b2:Bool){o:yy}{c:Call}{fo:x8}(ho:o.op=.call c)(hc:c.callee=.value fo)
  (h:Aa PP 163 [AI l,.v (AH ts),Di m r ms] (CY b xs) (.tup []) (GY b2 (xs++ys))):
  Ak PP o [.v (.fn 163 [] []),AI l,.v (AH ts),Di m r ms] ⟨[G [.gro 2 (I xs) 2],G [db b],G (Ab (xs.map eV)),none,G [di x.1,di x.2]],[]⟩ (.tup []) ⟨[G [.gro 5 (I (xs++ys)) 2],G [db b2],none,none,G [di x.1,di x.2],G (Ab ((xs++ys).map eV))],[]⟩:=by
 have h2:=BE (σ:=⟨[G [.gro 2 (I xs) 2],G [db b],G (Ab (xs.map eV)),none,G [di x.1,di x.2]],[]⟩) ho hc (fD:=.v (.fn 163 [] [])) (fs:=[]) (cs:=[]) (ds:=[AI l,.v (AH ts),Di m r ms]) rfl [0,1,2] id h
  (AN rfl rfl) (.cons rfl (AN rfl rfl) rfl (.cons rfl (AN rfl rfl) rfl (.cons rfl (AN (Am _ _ _) (AA (A9 _)).symm) (Db _) .nil))) (by decide) rfl (by simp) (by simp) rfl (by simp[cp,D.okNs,D.okN,Am])
 have e:Dn (d6 5 [0,1,2]) id (GY b2 (xs++ys)).H=[G [.gro 5 (I (xs++ys)) 2],G [db b2],none,G (Ab ((xs++ys).map eV))]:=by
  show [G _,G _,none,G (D.rens _ _ _)]=_
  rw[AA (A9 _)];rfl
 have h2:Ak PP o _ _ _ ⟨CG _ _ (Dn (d6 5 [0,1,2]) id (GY b2 (xs++ys)).H),_⟩:=h2
 rw[e] at h2
 exact h2
theorem AqT(m:cx)(r:cm)(ms l:List (Int×Int))(ts:List Tk)(x:Int×Int)(xs:List b9)(ys:List b9)(b b2:Bool){o:yy}{c:Call}{fo:x8}(ho:o.op=.call c)(hc:c.callee=.value fo)
  (h:Aa PP 163 [AI l,.v (AH ts),Di m r ms] (CY b xs) (.tup []) (GY b2 (xs++ys))):
  Ak PP o [.v (.fn 163 [] []),AI l,.v (AH ts),Di m r ms] ⟨[G [.gro 3 (I xs) 2],G [db b],none,G (Ab (xs.map eV)),G [di x.1,di x.2]],[]⟩ (.tup []) ⟨[G [.gro 5 (I (xs++ys)) 2],G [db b2],none,none,G [di x.1,di x.2],G (Ab ((xs++ys).map eV))],[]⟩:=by
 have h2:=BE (σ:=⟨[G [.gro 3 (I xs) 2],G [db b],none,G (Ab (xs.map eV)),G [di x.1,di x.2]],[]⟩) ho hc (fD:=.v (.fn 163 [] [])) (fs:=[]) (cs:=[]) (ds:=[AI l,.v (AH ts),Di m r ms]) rfl [0,1,3] id h
  (AN rfl rfl) (.cons rfl (AN rfl rfl) rfl (.cons rfl (AN rfl rfl) rfl (.cons rfl (AN (Am _ _ _) (AA (A9 _)).symm) (Db _) .nil))) (by decide) rfl (by simp) (by simp) rfl (by simp[cp,D.okNs,D.okN,Am])
 have e:Dn (d6 5 [0,1,3]) id (GY b2 (xs++ys)).H=[G [.gro 5 (I (xs++ys)) 2],G [db b2],none,G (Ab ((xs++ys).map eV))]:=by
  show [G _,G _,none,G (D.rens _ _ _)]=_
  rw[AA (A9 _)];rfl
 have h2:Ak PP o _ _ _ ⟨CG _ _ (Dn (d6 5 [0,1,3]) id (GY b2 (xs++ys)).H),_⟩:=h2
 rw[e] at h2
 exact h2
theorem Aoj(m:cx)(r:cm)(ms l:List (Int×Int))(ts:List Tk)(x:Int×Int)(xs:List b9)(_:List b9)(b b2:Bool){o:yy}{c:Call}{fo:x8}(ho:o.op=.call c)(hc:c.callee=.value fo)
  (h:Aa PP 163 [AI l,.v (AH ts),Di m r ms] (CY b xs) (.tup []) (CY b2 xs)):
  Ak PP o [.v (.fn 163 [] []),AI l,.v (AH ts),Di m r ms] ⟨[G [.gro 2 (I xs) 2],G [db b],G (Ab (xs.map eV)),none,G [di x.1,di x.2]],[]⟩ (.tup []) ⟨[G [.gro 2 (I xs) 2],G [db b2],G (Ab ((xs).map eV)),none,G [di x.1,di x.2]],[]⟩:=by
 have h2:=BE (σ:=⟨[G [.gro 2 (I xs) 2],G [db b],G (Ab (xs.map eV)),none,G [di x.1,di x.2]],[]⟩) ho hc (fD:=.v (.fn 163 [] [])) (fs:=[]) (cs:=[]) (ds:=[AI l,.v (AH ts),Di m r ms]) rfl [0,1,2] id h
  (AN rfl rfl) (.cons rfl (AN rfl rfl) rfl (.cons rfl (AN rfl rfl) rfl (.cons rfl (AN (Am _ _ _) (AA (A9 _)).symm) (Db _) .nil))) (by decide) rfl (by simp) (by simp) rfl (by simp[cp,D.okNs,D.okN,Am])
 have e:Dn (d6 5 [0,1,2]) id (CY b2 xs).H=[G [.gro 2 (I xs) 2],G [db b2],G (Ab ((xs).map eV))]:=by
  show [G _,G _,G (D.rens _ _ _)]=_
  rw[AA (A9 _)];rfl
 have h2:Ak PP o _ _ _ ⟨CG _ _ (Dn (d6 5 [0,1,2]) id (CY b2 xs).H),_⟩:=h2
 rw[e] at h2
 exact h2
theorem Aoi(m:cx)(r:cm)(ms l:List (Int×Int))(ts:List Tk)(x:Int×Int)(xs:List b9)(_:List b9)(b b2:Bool){o:yy}{c:Call}{fo:x8}(ho:o.op=.call c)(hc:c.callee=.value fo)
  (h:Aa PP 163 [AI l,.v (AH ts),Di m r ms] (CY b xs) (.tup []) (CY b2 xs)):
  Ak PP o [.v (.fn 163 [] []),AI l,.v (AH ts),Di m r ms] ⟨[G [.gro 3 (I xs) 2],G [db b],none,G (Ab (xs.map eV)),G [di x.1,di x.2]],[]⟩ (.tup []) ⟨[G [.gro 3 (I xs) 2],G [db b2],none,G (Ab ((xs).map eV)),G [di x.1,di x.2]],[]⟩:=by
 have h2:=BE (σ:=⟨[G [.gro 3 (I xs) 2],G [db b],none,G (Ab (xs.map eV)),G [di x.1,di x.2]],[]⟩) ho hc (fD:=.v (.fn 163 [] [])) (fs:=[]) (cs:=[]) (ds:=[AI l,.v (AH ts),Di m r ms]) rfl [0,1,3] id h
  (AN rfl rfl) (.cons rfl (AN rfl rfl) rfl (.cons rfl (AN rfl rfl) rfl (.cons rfl (AN (Am _ _ _) (AA (A9 _)).symm) (Db _) .nil))) (by decide) rfl (by simp) (by simp) rfl (by simp[cp,D.okNs,D.okN,Am])
 have e:Dn (d6 5 [0,1,3]) id (CY b2 xs).H=[G [.gro 3 (I xs) 2],G [db b2],G (Ab ((xs).map eV))]:=by
  show [G _,G _,G (D.rens _ _ _)]=_
  rw[AA (A9 _)];rfl
 have h2:Ak PP o _ _ _ ⟨CG _ _ (Dn (d6 5 [0,1,3]) id (CY b2 xs).H),_⟩:=h2
 rw[e] at h2
 exact h2
theorem Aok(m:cx)(r:cm)(ms l:List (Int×Int))(ts:List Tk)(x:Int×Int)(b b2:Bool){o:yy}{c:Call}{fo:x8}(ho:o.op=.call c)(hc:c.callee=.value fo)
  (h:Aa PP 163 [AI l,.v (AH ts),Di m r ms] (j4 b) (.tup []) (j4 b2)):
  Ak PP o [.v (.fn 163 [] []),AI l,.v (AH ts),Di m r ms] ⟨[G [.v .nils],G [db b],none,none,G [di x.1,di x.2]],[]⟩ (.tup []) ⟨[G [.v .nils],G [db b2],none,none,G [di x.1,di x.2]],[]⟩:=
 BE (σ:=⟨[G [.v .nils],G [db b],none,none,G [di x.1,di x.2]],[]⟩) ho hc (fD:=.v (.fn 163 [] [])) (fs:=[]) (cs:=[]) (ds:=[AI l,.v (AH ts),Di m r ms]) rfl [0,1] id h
  (AN rfl rfl) (.cons rfl (AN rfl rfl) rfl (.cons rfl (AN rfl rfl) rfl .nil)) (by decide) rfl (by simp) (by simp) rfl (by simp[cp,D.okNs,D.okN])
noncomputable abbrev ri:=fun a₀=>[ke 0,ke 1,ke 2,ke 6,ke 18,ke 19,ch 20 (zw a₀)]
noncomputable abbrev rj:=(bw 163 [] [])
noncomputable abbrev Avr:=(Oper.mk (G 54) (Op.binOp BinOp.neq 137 (Operand.tmp 52) (Operand.tmp 53) 137) 4 "timed.go:54" #[Edge.mk 27 Ground.data,Edge.mk 28 Ground.data,Edge.mk 22 Ground.guard] (G (22,false)))
theorem ApK(m:cx)(r:cm)(ms l:List (Int×Int))(hl:I l<=50)(tk:Tk)(ts:List Tk)(L:List V)(hL:L=(tk::ts).map d9)(g:D)(b:Bool)(d2 d3:Option (List D))(k:Nat)(x:Int×Int)(hx:l[k]?=G x)(S:St)(hok:cp 4 [] [G [g],G [db b],d2,d3]=J)
  (ihy:R7 tk l k=J->∃σ2:St,(∀(o:yy) (c:Call) (fo:x8),o.op=.call c->c.callee=.value fo->Ak PP o [.v (.fn 163 [] []),AI (l.take k++l.drop (k+1)),.v (AH ts),Di m r ms] ⟨[G [g],G [db b],d2,d3,G [di x.1,di x.2]],[]⟩ (.tup []) σ2)/\Rn PP EF 3 (.tup []) S ([kl T7 [1,1,1,0,0],.blk 0]++[]) (cz 71 [(0,AI l),(1,.v (.list L)),(2,Di m r ms),(6,.v (.ref (d9 tk))),(18,AI l),(19,di (I l)),(20,di (k+1:Nat))]) σ2)
  (ihn:R7 tk l k=O->Rn PP EF 3 (.tup []) S ([kl T7 [1,1,1,0,0],.blk 0]++[]) (cz 71 [(0,AI l),(1,.v (.list L)),(2,Di m r ms),(6,.v (.ref (d9 tk))),(18,AI l),(19,di (I l)),(20,di (k+1:Nat))]) ⟨[G [g],G [db b],d2,d3],[]⟩):
  Rn PP EF 3 (.tup []) S ([kl T7 [1,1,1,0,0],.blk 0]++[]) (cz 71 [(0,AI l),(1,.v (.list L)),(2,Di m r ms),(6,.v (.ref (d9 tk))),(18,AI l),(19,di (I l)),(20,di k)]) ⟨[G [g],G [db b],d2,d3],[]⟩:=by
 have hk:k<I l:=(HN.1 hx).1
 have hw2:yt.wrap ((k:Int)+1)=((k+1:Nat):Int):=by rw[An];omega
 have szp:∀y∈l.map cd,y.size=2:=fun y hy=>by obtain⟨z,_,rfl⟩:=IQ.1 hy;rfl
 have z1:(0:Int)<=(k:Int):=by omega
 have z2:(k:Int)<=((I (l.map cd):Nat):Int):=by rw[HJ];omega
 have z3:(0:Int)<=((k+1:Nat):Int):=by omega
 have z4:((k+1:Nat):Int)<=((I (l.map cd):Nat):Int):=by rw[HJ];omega
 by_cases c1:(x.1==tk.place)=J
 ·by_cases c2:decide (x.2>=tk.low)=J
  ·by_cases c3:decide (x.2<=tk.high)=J
   ·by_cases c4:((k:Int)==0)=J
    ·obtain⟨σ2,v2,r3⟩:=ihy (by rw[HG tk hx];simp only[c1,c2,c3,c4];rfl)
     refine lv 71 [] (.t<|.x (cd x)<|.t<|.t<|.t<|.t<|.c (AI (l.take k++l.drop (k+1)))<|.h (.oc (.tup []) σ2)<|.l (ri k)) (decide ((k:Int)<(I l:Int))=J/\0<=(k:Int)/\(U cd l)[Z (k:Int)]?=G (cd x)/\iz 0<=0/\0<(↑2:Int)/\(x.fst==tk.place)=J/\iz 0<=1/\1<(↑2:Int)/\type_of% c2/\iz 0<=1/\1<(↑2:Int)/\type_of% c3/\((k:Int)==0)=J/\(yj (True))/\type_of% szp/\type_of% z1/\type_of% z2/\type_of% szp/\0<=(fun x=>x.snd) (yt,yu yt ((k:Int)+1))/\(fun x=>x.snd) (yt,yu yt ((k:Int)+1))<=(I (U cd l):Int)/\F0 167 [bt (ae [ae (W 0 (take (Z ((fun x=>x.snd) (gm k))) (U cd l))),ae (W (Z ((fun x=>x.snd) (yt,yu yt ((k:Int)+1)))) (take (I (U cd l)) (U cd l)))])] (AI (take k l++W (k+1) l))/\(∀(x:V),x∈L->V.size x=3)/\0<=(1:Int)/\(1:Int)<=(I L:Int)/\(N0 [bt rj,AI (take k l++W (k+1) l),bt (ae (W (Z ((1:Int))) (take (I L) L))),D.dfn 165 [] (Vy m r ms)] (bi [G [g],G [db b],d2,d3,G [di x.fst,di x.snd]] []) (bl []) σ2)/\di (yu yt ((k:Int)+1))=di (↑(k+1):Int)/\It (type_of% r3)) ?_
     rw[hw2]
     exact⟨decide_eq_true (by omega),by omega,GL hx,Int.le_refl _,by decide,c1,by decide,by decide,c2,by decide,by decide,c3,c4,by repeat' first|with_reducible refine And.intro ?_ ?_|rfl|trivial,szp,z1,z2,szp,z3,z4,Aeu l hl k hk,AaO hL,by decide,TR hL,fun o cl fo ho hc=>by rw[AaN hL];exact v2 o cl fo ho hc,rfl,⟨r3⟩⟩
    ·have c4f:=HW c4
     obtain⟨y,hy⟩:=yk (show k-1<I l by omega)
     have hw1:yt.wrap ((k:Int)-1)=((k-1:Nat):Int):=by
      have:k≠0:=fun h=>c4 (by rw[h];rfl)
      rw[An];omega
     by_cases c5:(!(y.1==x.1&&y.2==x.2))=J
     ·obtain⟨σ2,v2,r3⟩:=ihy (by rw[HG tk hx];simp only[c1,c2,c3,c4f,hy,c5];rfl)
      refine lv 71 [] (.t<|.x (cd x)<|.t<|.t<|.t<|.f<|.x (cd y)<|.m (.v (cd x))<|.h (.p (db (!(y.1==x.1&&y.2==x.2))))<|.t<|.c (AI (l.take k++l.drop (k+1)))<|.h (.oc (.tup []) σ2)<|.l (ri k)) (decide ((k:Int)<(I l:Int))=J/\0<=(k:Int)/\(U cd l)[Z (k:Int)]?=G (cd x)/\iz 0<=0/\0<(↑2:Int)/\(x.fst==tk.place)=J/\iz 0<=1/\1<(↑2:Int)/\type_of% c2/\iz 0<=1/\1<(↑2:Int)/\type_of% c3/\((k:Int)==0)=O/\0<=yu yt ((k:Int)-1)/\(U cd l)[Z (yu yt ((k:Int)-1))]?=G (cd y)/\2<=2/\Q [di x.fst,di x.snd]/\(∀(τ:St),Ak PP Avr [bt (cd y),bt (aa [vi x.fst,vi x.snd])] τ (db !(y.fst==x.fst&&y.snd==x.snd)) τ)/\(yi (True))/\type_of% c5/\type_of% szp/\type_of% z1/\type_of% z2/\type_of% szp/\0<=(fun x=>x.snd) (yt,yu yt ((k:Int)+1))/\(fun x=>x.snd) (yt,yu yt ((k:Int)+1))<=(I (U cd l):Int)/\F0 167 [bt (ae [ae (W 0 (take (Z ((fun x=>x.snd) (gm k))) (U cd l))),ae (W (Z ((fun x=>x.snd) (yt,yu yt ((k:Int)+1)))) (take (I (U cd l)) (U cd l)))])] (AI (take k l++W (k+1) l))/\(∀(x:V),x∈L->V.size x=3)/\0<=(1:Int)/\(1:Int)<=(I L:Int)/\(N0 [bt rj,AI (take k l++W (k+1) l),bt (ae (W (Z ((1:Int))) (take (I L) L))),D.dfn 165 [] (Vy m r ms)] (bi [G [g],G [db b],d2,d3,G [di x.fst,di x.snd]] []) (bl []) σ2)/\di (yu yt ((k:Int)+1))=di (↑(k+1):Int)/\It (type_of% r3)) ?_
      rw[hw1,hw2]
      exact⟨decide_eq_true (by omega),by omega,GL hx,Int.le_refl _,by decide,c1,by decide,by decide,c2,by decide,by decide,c3,c4f,by omega,GL hy,Nat.le_refl _,rfl,fun τ=>Wx rfl y.1 y.2 x.1 x.2,by repeat' first|with_reducible refine And.intro ?_ ?_|rfl|trivial,c5,szp,z1,z2,szp,z3,z4,Aeu l hl k hk,AaO hL,by decide,TR hL,fun o cl fo ho hc=>by rw[AaN hL];exact v2 o cl fo ho hc,rfl,⟨r3⟩⟩
     ·have r3:=ihn (by rw[HG tk hx];simp only[c1,c2,c3,c4f,hy,HW c5];rfl)
      refine lv 71 [] (.t<|.x (cd x)<|.t<|.t<|.t<|.f<|.x (cd y)<|.m (.v (cd x))<|.h (.p (db (!(y.1==x.1&&y.2==x.2))))<|.f<|.lo (ri k)  ⟨[G [g],G [db b],d2,d3],[]⟩) (decide ((k:Int)<(I l:Int))=J/\0<=(k:Int)/\(U cd l)[Z (k:Int)]?=G (cd x)/\iz 0<=0/\0<(↑2:Int)/\(x.fst==tk.place)=J/\iz 0<=1/\1<(↑2:Int)/\type_of% c2/\iz 0<=1/\1<(↑2:Int)/\type_of% c3/\((k:Int)==0)=O/\0<=yu yt ((k:Int)-1)/\(U cd l)[Z (yu yt ((k:Int)-1))]?=G (cd y)/\2<=2/\Q [di x.fst,di x.snd]/\(∀(τ:St),Ak PP Avr [bt (cd y),bt (aa [vi x.fst,vi x.snd])] τ (db !(y.fst==x.fst&&y.snd==x.snd)) τ)/\(yi (True))/\(!(y.fst==x.fst&&y.snd==x.snd))=O/\di (yu yt ((k:Int)+1))=di (↑(k+1):Int)/\type_of% hok/\Q [G [g],G [db b],d2,d3]/\It (type_of% r3)) ?_
      rw[hw1]
      exact⟨decide_eq_true (by omega),by omega,GL hx,Int.le_refl _,by decide,c1,by decide,by decide,c2,by decide,by decide,c3,c4f,by omega,GL hy,Nat.le_refl _,rfl,fun τ=>Wx rfl y.1 y.2 x.1 x.2,by repeat' first|with_reducible refine And.intro ?_ ?_|rfl|trivial,eq_false_of_ne_true c5,congrArg di hw2,hok,rfl,⟨r3⟩⟩
   ·have r3:=ihn (by rw[HG tk hx];simp only[c1,c2,HW c3];rfl)
    exact lv 71 [] (.t<|.x (cd x)<|.t<|.t<|.f<|.lo (ri k) ⟨[G [g],G [db b],d2,d3],[]⟩) (decide ((k:Int)<(I l:Int))=J/\0<=(k:Int)/\(U cd l)[Z (k:Int)]?=G (cd x)/\iz 0<=0/\0<(↑2:Int)/\_/\iz 0<=1/\1<(↑2:Int)/\_/\iz 0<=1/\1<(↑2:Int)/\decide (x.snd<=tk.high)=O/\(yj (True))/\di (yu yt ((k:Int)+1))=di (↑(k+1):Int)/\_/\Q [G [g],G [db b],d2,d3]/\_) ⟨decide_eq_true (by omega),by omega,GL hx,Int.le_refl _,by decide,c1,by decide,by decide,c2,by decide,by decide,eq_false_of_ne_true c3,by repeat' first|with_reducible refine And.intro ?_ ?_|rfl|trivial,congrArg di hw2,hok,rfl,iK r3⟩
  ·have r3:=ihn (by rw[HG tk hx];simp only[c1,HW c2];rfl)
   exact lv 71 [] (.t<|.x (cd x)<|.t<|.f<|.lo (ri k) ⟨[G [g],G [db b],d2,d3],[]⟩) (decide ((k:Int)<(I l:Int))=J/\0<=(k:Int)/\(U cd l)[Z (k:Int)]?=G (cd x)/\iz 0<=0/\0<(↑2:Int)/\_/\iz 0<=1/\1<(↑2:Int)/\decide (x.snd>=tk.low)=O/\yo/\di (yu yt ((k:Int)+1))=di (↑(k+1):Int)/\_/\Q [G [g],G [db b],d2,d3]/\_) ⟨decide_eq_true (by omega),by omega,GL hx,Int.le_refl _,by decide,c1,by decide,by decide,eq_false_of_ne_true c2,by repeat' first|with_reducible refine And.intro ?_ ?_|rfl|trivial,congrArg di hw2,hok,rfl,iK r3⟩
 ·have r3:=ihn (by rw[HG tk hx];simp only[HW c1];rfl)
  exact lv 71 [] (.t<|.x (cd x)<|.f<|.lo (ri k) ⟨[G [g],G [db b],d2,d3],[]⟩) (decide ((k:Int)<(I l:Int))=J/\0<=(k:Int)/\(U cd l)[Z (k:Int)]?=G (cd x)/\iz 0<=0/\0<(↑2:Int)/\(x.fst==tk.place)=O/\yp/\di (yu yt ((k:Int)+1))=di (↑(k+1):Int)/\_/\Q [G [g],G [db b],d2,d3]/\_) ⟨decide_eq_true (by omega),by omega,GL hx,Int.le_refl _,by decide,eq_false_of_ne_true c1,by repeat' first|with_reducible refine And.intro ?_ ?_|rfl|trivial,congrArg di hw2,hok,rfl,iK r3⟩
def Xi(tk:Tk)(l:List (Int×Int))(K:Nat):List (List (Int×Int)):=((List.range K).filter (R7 tk l)).map fun k=>l.take k++l.drop (k+1)
theorem AiB{tk:Tk}{l:List (Int×Int)}{k:Nat}(h:R7 tk l k=J):Xi tk l (k+1)=Xi tk l k++[l.take k++l.drop (k+1)]:=by simp[Xi,range_succ,h]
theorem AlZ{tk:Tk}{l:List (Int×Int)}{k:Nat}(h:R7 tk l k=O):Xi tk l (k+1)=Xi tk l k:=by simp[Xi,range_succ,h]
theorem AiC(tk:Tk)(l:List (Int×Int))(k:Nat):I (Xi tk l k)<=k:=by
 have:=List.length_filter_le (R7 tk l) (List.range k)
 rw[List.length_range] at this
 rw[Xi,HJ];exact this
theorem Aex{tk:Tk}{l:List (Int×Int)}{k:Nat}{x:List (Int×Int)}(h:x∈Xi tk l k):I x<=I l:=by
 obtain⟨i,_,rfl⟩:=IQ.1 h
 rw[HY,ID,Jw];omega
def T6:List Tk->List (Int×Int)->List (List (Int×Int))
 |[],l=>[l]
 |tk::ts,l=>(Xi tk l (I l)).flatMap (T6 ts)
def Xh(tk:Tk)(ts:List Tk)(l:List (Int×Int))(k:Nat):List (List (Int×Int)):=(Xi tk l k).flatMap (T6 ts)
theorem QU{tk:Tk}{ts:List Tk}{l:List (Int×Int)}{k:Nat}(h:R7 tk l k=J):Xh tk ts l (k+1)=Xh tk ts l k++T6 ts (l.take k++l.drop (k+1)):=by simp[Xh,AiB h]
theorem Aew{tk:Tk}{ts:List Tk}{l:List (Int×Int)}{k:Nat}(h:R7 tk l k=O):Xh tk ts l (k+1)=Xh tk ts l k:=by rw[Xh,AlZ h];rfl
theorem Xg(tk:Tk)(ts:List Tk)(l:List (Int×Int))(k:Nat):∀n:Nat,I (Xh tk ts l k)<=I (Xh tk ts l (k+n))
 |0=>HR _
 |n+1=>by
  have:=Xg tk ts l k n
  rw[←Nat.add_assoc]
  cases h:R7 tk l (k+n) with
  |true=>rw[QU h,HY];omega
  |false=>rw[Aew h];exact this
theorem AqR{f:yw}{d:D}{σ':St}{k:List KI}{e:List D}{σ:St}(h:Rn PP f 3 d σ' k e σ):Rn PP f 2 d σ' k e σ:=fun E0 E g a w B hC=>h E0 E g a w B ⟨hC.1,by have:=hC.2;omega⟩
abbrev wh(r:cm)(ms:List (Int×Int))(L:List (List (Int×Int))):List b9:=L.map fun x=>Ew r.to (x++ms)
def om(b:Bool)(g:D)(d2:Option (List D))(xs:List b9):List b9->St
 |[]=>⟨[G [g],G [db b],d2],[]⟩
 |z::zs=>GY b (xs++z::zs)
def wk(b:Bool)(g:D)(d2:Option (List D))(xs:List b9):List b9->St
 |[]=>⟨[G [g],G [db b],d2,none],[]⟩
 |z::zs=>GY b (xs++z::zs)
theorem WA{b:Bool}{g:D}{d2:Option (List D)}{xs zs:List b9}(h:zs≠ []):wk b g d2 xs zs=GY b (xs++zs):=by
 cases zs with
 |nil=>exact absurd rfl h
 |cons x xs=>rfl
theorem AcK{b:Bool}{g:D}{d2:Option (List D)}{xs zs:List b9}(h:zs≠ []):om b g d2 xs zs=GY b (xs++zs):=by
 cases zs with
 |nil=>exact absurd rfl h
 |cons x xs=>rfl
inductive oe:List b9->D->Option (List D)->Prop where
 |no:oe [] (.v .nils) none
 |so (x:b9) (xs:List b9):oe (x::xs) (.gro 2 (I (x::xs)) 2) (G (Ab ((x::xs).map eV)))
theorem oe.ok{xs:List b9}{g:D}{d2:Option (List D)}(h:oe xs g d2)(b:Bool):cp 3 [] [G [g],G [db b],d2]=J:=by
 cases h with
 |no=>rfl
 |so x xs=>simp[cp,D.okNs,D.okN,Am]
abbrev AsD(m:cx)(t:cr)(r:cm)(ms:List (Int×Int))(ts:List Tk):Prop:=∀(l:List (Int×Int)),I l<=50->∀(b:Bool) (xs ys:List b9) (b':Bool),ys=wh r ms (T6 ts l)->I xs+I ys<=100000->b'=(b&&ys.all (Al t))->Aa PP 163 [AI l,.v (AH ts),Di m r ms] (xa b xs) (.tup []) (vn b' xs ys)
theorem oe.ok4{xs:List b9}{g:D}{d2:Option (List D)}(h:oe xs g d2)(b:Bool):cp 4 [] [G [g],G [db b],d2,none]=J:=by
 cases h with
 |no=>rfl
 |so x xs=>simp[cp,D.okNs,D.okN,Am]
theorem AsA{a b c d z:Option (List D)}:∀(i:Nat) (cs:List D),[a,b,c,d][i]?=G (G cs)->[a,b,c,d,z][i]?=G (G cs)
 |0,_,h=>h
 |1,_,h=>h
 |2,_,h=>h
 |3,_,h=>h
 |_+4,_,h=>by simp at h
theorem Atl{a b c:Option (List D)}:∀(i:Nat) (cs:List D),[a,b,c,none][i]?=G (G cs)->[a,b,c][i]?=G (G cs)
 |0,_,h=>h
 |1,_,h=>h
 |2,_,h=>h
 |3,_,h=>by simp at h
 |_+4,_,h=>by simp at h
theorem Ai8(m:cx)(t:cr)(r:cm)(ms l:List (Int×Int))(hl:I l<=50)(tk:Tk)(ts:List Tk)(hC:AsD m t r ms ts)(L:List V)(hL:L=(tk::ts).map d9)(xs:List b9)(g:D)(d2:Option (List D))(hG:oe xs g d2)(b0:Bool)(Y:List b9)(B:Bool)(hY:Y=wh r ms (Xh tk ts l (I l)))(hz:I xs+I Y<=100000)(hB:B=(b0&&Y.all (Al t)))(n:Nat):∀(k:Nat) (zs:List b9) (b:Bool),I l-k=n->k<=I l->zs=wh r ms (Xh tk ts l k)->b=(b0&&zs.all (Al t))->
  Rn PP EF 3 (.tup []) (om B g d2 xs Y) ([zu EF 60,.blk 0]++[]) (cz 71 [(0,AI l),(1,.v (.list L)),(2,Di m r ms),(6,.v (.ref (d9 tk))),(18,AI l),(19,di (I l)),(20,di k)]) (wk b g d2 xs zs):=by
 induction n with
 |zero=>
  intro k zs b hn hk hzs hb
  have e:Y=zs:=by rw[hY,hzs,show k=I l by omega]
  rw[hB,e, ←hb]
  have hok:=hG.ok b
  clear hzs hb hY hB hG
  by_cases hx:zs=[]
  ·subst hx
   show Rn PP EF 3 (.tup []) ⟨[G [g],G [db b],d2],[]⟩ _ _ ⟨[G [g],G [db b],d2,none],[]⟩
   exact zp (.f .ro) (decide ((k:Int)<(I l:Int))=O/\([]:List KI)=[]/\_/\Q [G [g],G [db b],d2]/\Q (bl [])) ⟨yq,rfl,hok,rfl,rfl⟩
  ·rw[AcK hx,WA hx]
   generalize xs++zs=ws
   exact zp (.f .ro) (decide ((k:Int)<(I l:Int))=O/\([]:List KI)=[]/\cp 4 [] [G [bm 3 (I ws) 2],G [db b],none,G (ec ws)]=J/\Q [G [bm 3 (I ws) 2],G [db b],none,G (ec ws)]/\Q (bl [])) ⟨yq,rfl,by simp[cp,D.okNs,D.okN,Am],rfl,rfl⟩
 |succ n ih=>
  intro k zs b hn hkl hzs hb
  obtain⟨x,hx⟩:=yk (show k<I l by omega)
  have hzl:I zs=I (Xh tk ts l k):=by rw[hzs,HJ]
  have hYl:I Y=I (Xh tk ts l (I l)):=by rw[hY,HJ]
  have hmon:I (Xh tk ts l (k+1))<=I (Xh tk ts l (I l)):=by
   have:=Xg tk ts l (k+1) (I l- (k+1))
   rwa[show k+1+(I l- (k+1))=I l by omega] at this
  have hn':R7 tk l k=O->Rn PP EF 3 (.tup []) (om B g d2 xs Y) ([zu EF 60,.blk 0]++[]) (cz 71 [(0,AI l),(1,.v (.list L)),(2,Di m r ms),(6,.v (.ref (d9 tk))),(18,AI l),(19,di (I l)),(20,zw k)]) (wk b g d2 xs zs):=fun h=>ih (k+1) zs b (by omega) (by omega) (by rw[Aew h];exact hzs) hb
  have hy':R7 tk l k=J->∃ys:List b9,ys=wh r ms (T6 ts (l.take k++l.drop (k+1)))/\xs.length+(I zs+I ys)<=100000/\Rn PP EF 3 (.tup []) (om B g d2 xs Y) ([zu EF 60,.blk 0]++[]) (cz 71 [(0,AI l),(1,.v (.list L)),(2,Di m r ms),(6,.v (.ref (d9 tk))),(18,AI l),(19,di (I l)),(20,zw k)]) (wk (b&&ys.all (Al t)) g d2 xs (zs++ys)):=fun h=>by
   refine⟨_,rfl,?_,ih (k+1) _ _ (by omega) (by omega) (by rw[QU h,hzs];exact J5.symm) (by rw[hb,List.all_append,Bool.and_assoc])⟩
   rw[QU h,HY] at hmon
   rw[HJ];omega
  clear ih hmon
  have hrl:I (l.take k++l.drop (k+1))<=50:=by simp;omega
  by_cases hzn:zs=[]
  ·subst hzn
   refine ApK m r ms l hl tk ts L hL g b d2 none k x hx (om B g d2 xs Y) (hG.ok4 b) (fun h=>?_) hn'
   obtain⟨ys,h1,h2,h3⟩:=hy' h
   have hc:=hC _ hrl b xs ys _ h1 (by simpa using h2) rfl
   generalize (b&&ys.all (Al t))=b2 at h3 hc
   clear h1 hn' hy' hb hzs
   by_cases hyn:ys=[]
   ·subst hyn
    refine⟨⟨[G [g],G [db b2],d2,none,G [di x.1,di x.2]],[]⟩,fun o c fo ho hc'=>?_,U1 (H:=[_,_,_,_]) (fun _ _ h=>h.2) (Nat.le_succ 3) AsA rfl (hG.ok4 b2) h3⟩
    cases hG with
    |no=>exact Aok m r ms _ ts x b b2 ho hc' hc
    |so v vs=>exact Aoj m r ms _ ts x (v::vs) [] b b2 ho hc' hc
   ·rw[nil_append,WA hyn] at h3
    refine⟨_,fun o c fo ho hc'=>?_,Aor (HR 3) x (xs++ys) b2 rfl rfl h3⟩
    cases hG with
    |no=>
     rw[AfW hyn] at hc
     exact AqV m r ms _ ts x ys b b2 ho hc' hc
    |so v vs=>
     rw[AkC (by simp) hyn] at hc
     exact AqU m r ms _ ts x (v::vs) ys b b2 ho hc' hc
  ·rw[WA hzn] at hn'⊢
   refine ApK m r ms l hl tk ts L hL (.gro 3 (I (xs++zs)) 2) b none (G (Ab ((xs++zs).map eV))) k x hx (om B g d2 xs Y) (by simp[cp,D.okNs,D.okN,Am]) (fun h=>?_) hn'
   obtain⟨ys,h1,h2,h3⟩:=hy' h
   have hc:=hC _ hrl b (xs++zs) ys _ h1 (by rw[HY];omega) rfl
   generalize (b&&ys.all (Al t))=b2 at h3 hc
   have hne:xs++zs≠ []:=by simp[hzn]
   rw[WA (b:=b2) (zs:=zs++ys) (by simp[hzn]), ←Jx] at h3
   clear h1 hn' hy' hb hzs
   by_cases hyn:ys=[]
   ·subst hyn
    rw[AaU,RA hne,RA hne] at hc
    rw[IX (xs++zs)] at h3
    exact⟨_,fun o c fo ho hc'=>Aoi m r ms _ ts x (xs++zs) [] b b2 ho hc' hc,U1 (H:=[_,_,_,_]) (fun _ _ h=>h.2) (Nat.le_succ 3) AsA rfl (by simp[cp,D.okNs,D.okN,Am]) h3⟩
   ·rw[AkC hne hyn,RA hne] at hc
    exact⟨_,fun o c fo ho hc'=>AqT m r ms _ ts x (xs++zs) ys b b2 ho hc' hc,Aor (HR 3) x (xs++zs++ys) b2 rfl rfl h3⟩
theorem Aev(m:cx)(t:cr)(hm:X3 m t)(r:cm)(ms:List (Int×Int))(hms:I ms<=50):∀ts:List Tk,AsD m t r ms ts
 |[]=>fun l hl b xs ys b' hY hz hB=>by
  subst hY hB
  show Aa PP _ _ _ _ (vn (b&&([Ew r.to (l++ms)]).all (Al t)) xs [Ew r.to (l++ms)])
  rw[all_cons,List.all_nil,Bool.and_true]
  cases xs with
  |nil=>exact Asa m t hm r ms l hl hms b
  |cons x xs=>exact ArZ m t hm r ms l hl hms (x::xs) (by omega) b
 |tk::ts=>fun l hl b xs ys b' hY hz hB=>by
  obtain⟨L,hL⟩:∃L,L=(tk::ts).map d9:=⟨_,rfl⟩
  have hL0:L[0]?=G (d9 tk):=by rw[hL];rfl
  have hLl:((I L:Int)==0)=O:=IM.2 (by have:=TR hL;omega)
  rw[show AH (tk::ts)=.list L by rw[hL]]
  have hlp:=fun g d2 hG=>U1 (H:=[_,_,_,_]) (H':=[G [g],G [db b],d2]) (fun _ _ h=>h.2) (Nat.le_succ 3) Atl rfl (oe.ok4 hG b) (Ai8 m t r ms l hl tk ts (Aev m t hm r ms hms ts) L hL xs g d2 hG b ys b' hY hz hB _ 0 [] b rfl (II _) rfl (by simp))
  clear hY hB
  cases xs with
  |nil=>
   have hlp:=AqR (hlp _ _ .no)
   have hlp:Rn PP EF 2 (.tup []) (om b' (.v .nils) none [] ys) _ _ (pb b):=hlp
   show Aa PP _ _ (j4 b) _ _
   by_cases hy:ys=[]
   ·subst hy
    have hlp:Rn PP EF 2 (.tup []) (pb b') _ _ (pb b):=hlp
    have h:Aa PP 163 [AI l,.v (.list L),Di m r ms] (j4 b) (.tup []) (pb b'):=by
     exact zq EF 71 (.f<|.x (d9 tk)<|.h (.q 3 0)<|.h (.fa 2 [6])<|.lo [ke 0,ke 1,ke 2,ke 6,ch 18 (AI l),ch 19 (di (I l)),ch 20 (di (0:Nat))] (pb b)) (_/\iz 0<=0/\_/\Q (AI l)/\di (I (U cd l):Int)=di (I l:Int)/\Q (di 0)/\Q J/\Q (pb b).H/\_) ⟨hLl,IA _,hL0,rfl,by rw[HJ],rfl,rfl,rfl,iK hlp⟩
    refine EL (σ:=j4 b) id (show 2<=2 by decide) (fun i hi=>rfl) (fun i j _ _ h=>h) (fun i hi=>by have hi:i<2:=hi;show i<3;omega) (fun i cs hi=>?_) rfl h
    match i,hi with
    |0,hi=>have hi:=I8 (I8 (hi:G (G _)=G (G cs)));subst hi;exact⟨rfl,rfl⟩
    |1,hi=>have hi:=I8 (I8 (hi:G (G _)=G (G cs)));subst hi;exact⟨rfl,rfl⟩
    |i+2,hi=>simp at hi
   ·rw[AcK hy,nil_append] at hlp
    rw[AfW hy]
    have h:Aa PP 163 [AI l,.v (.list L),Di m r ms] (j4 b) (.tup []) (GY b' ys):=by
     exact zq EF 71 (.f<|.x (d9 tk)<|.h (.q 3 0)<|.h (.fa 2 [6])<|.lo [ke 0,ke 1,ke 2,ke 6,ch 18 (AI l),ch 19 (di (I l)),ch 20 (di (0:Nat))] (pb b)) (_/\iz 0<=0/\_/\Q (AI l)/\di (I (U cd l):Int)=di (I l:Int)/\Q (di 0)/\Q J/\Q (pb b).H/\_) ⟨hLl,IA _,hL0,rfl,by rw[HJ],rfl,rfl,rfl,iK hlp⟩
    refine EL (σ:=j4 b) (fun i=>if i<2 then i else i+1) (show 2<=3 by decide) (fun i hi=>I4 hi) (fun i j _ _ h=>?_) (fun i hi=>?_) (fun i cs hi=>?_) rfl h
    ·have h:(if i<2 then i else i+1)=(if j<2 then j else j+1):=h
     split at h<;>split at h<;>omega
    ·have hi:i<3:=hi
     show(if i<2 then i else i+1)<4
     split<;>omega
    ·match i,hi with
     |0,hi=>have hi:=I8 (I8 (hi:G (G _)=G (G cs)));subst hi;exact⟨rfl,rfl⟩
     |1,hi=>have hi:=I8 (I8 (hi:G (G _)=G (G cs)));subst hi;exact⟨rfl,rfl⟩
     |2,hi=>have hi:=I8 (I8 (hi:G (G _)=G (G cs)));subst hi;exact⟨by rw[AA (A9 _)];rfl,Am _ _ _⟩
     |i+3,hi=>simp at hi
  |cons x xs=>
   have hlp:=hlp _ _ (.so x xs)
   have hlp:Rn PP EF 3 (.tup []) (om b' (.gro 2 (I (x::xs)) 2) (G (Ab ((x::xs).map eV))) (x::xs) ys) _ _ (CY b (x::xs)):=hlp
   have hne:x::xs≠ []:=by simp
   rw[RA hne]
   by_cases hy:ys=[]
   ·subst hy
    rw[AaU,RA hne]
    have hlp:Rn PP EF 3 (.tup []) (CY b' (x::xs)) _ _ (CY b (x::xs)):=hlp
    generalize x::xs=zs at hlp⊢
    exact zq EF 71 (.f<|.x (d9 tk)<|.h (.q 3 0)<|.h (.fa 3 [6])<|.lo [ke 0,ke 1,ke 2,ke 6,ch 18 (AI l),ch 19 (di (I l)),ch 20 (di (0:Nat))] (CY b zs)) (_/\iz 0<=0/\_/\Q (AI l)/\di (I (U cd l):Int)=di (I l:Int)/\Q (di 0)/\cp 3 [] [G [bm 2 (I zs) 2],G [db b],G (ec zs)]=J/\Q (CY b zs).H/\_) ⟨hLl,IA _,hL0,rfl,by rw[HJ],rfl,by simp[cp,D.okNs,D.okN,Am],rfl,iK hlp⟩
   ·rw[AcK hy] at hlp
    rw[AkC hne hy]
    generalize x::xs=zs at hlp⊢
    exact zq EF 71 (.f<|.x (d9 tk)<|.h (.q 3 0)<|.h (.fa 3 [6])<|.lo [ke 0,ke 1,ke 2,ke 6,ch 18 (AI l),ch 19 (di (I l)),ch 20 (di (0:Nat))] (CY b zs)) (_/\iz 0<=0/\_/\Q (AI l)/\di (I (U cd l):Int)=di (I l:Int)/\Q (di 0)/\cp 3 [] [G [bm 2 (I zs) 2],G [db b],G (ec zs)]=J/\Q (CY b zs).H/\_) ⟨hLl,IA _,hL0,rfl,by rw[HJ],rfl,by simp[cp,D.okNs,D.okN,Am],rfl,iK hlp⟩
noncomputable def Te:=yl NR
def u9(a b:b9):Bool:=Ay a b==0
def Ex(l:List b9):List b9:=AT u9 (sortV l)
theorem VD(l:List b9):I (Ex l)<=I l:=by
 have:=Od u9 (sortV l)
 rwa[(BL l).length_eq] at this
theorem PQ{l:List b9}{v:b9}(h:v∈Ex l):v∈l:=(BL l).mem_iff.1 (Vp h)
theorem Vu:∀(ts:List Tk) (l:List (Int×Int)) {x:List (Int×Int)},x∈T6 ts l->I x<=I l
 |[],l,x,h=>by rw[T6,Ia] at h;rw[h];exact HR _
 |tk::ts,l,x,h=>by
  rw[T6] at h
  obtain⟨y,hy,h⟩:=List.mem_flatMap.1 h
  exact Jn (Vu ts y h) (Aex hy)
theorem Xe:∀{ts:List Tk},I ts<=2->∀{l:List (Int×Int)},I l<=20->I (T6 ts l)<=20^I ts
 |[],_,l,hl=>by show 1<=1;decide
 |tk::ts,h,l,hl=>by
  have ih:∀L:List (List (Int×Int)),(∀x∈L,I x<=20)->I (L.flatMap (T6 ts))<=I L*20^I ts:=by
   intro L
   induction L with
   |nil=>intro _;simp
   |cons x L ih=>
    intro hx
    have h1:=Xe (ts:=ts) (by simp at h;omega) (hx x (by simp))
    have h2:=ih fun y hy=>hx y (by simp[hy])
    rw[List.flatMap_cons,HY,HP,Nat.succ_mul];omega
  have h1:=ih (Xi tk l (I l)) fun x hx=>Jn (Aex hx) hl
  have h2:=AiC tk l (I l)
  rw[T6,HP,Nat.pow_succ,Nat.mul_comm]
  exact Jn h1 (Nat.mul_le_mul_right _ (by omega))
theorem Xf{ts:List Tk}(ht:I ts<=2){l:List (Int×Int)}(hl:I l<=20):I (T6 ts l)<=400:=
 Jn (Xe ht hl) (Nat.pow_le_pow_right (by decide) ht)
def la(t:cr)(ys:List b9):List b9×Int:=if ys.all (Al t)=J then(Ex ys,0) else([],1)
theorem AfR(m:cx)(t:cr)(hm:m6 m t)(i:Nat)(r:cm)(hi:m.av[i]?=G r)(c:b9)(hs:c.size<=1000)(hv:Al t c=O):F0 110 [Af m,di i,dV c] (.tup [co [],di 17]):=by
 have hil:=(HN.1 hi).1
 have hval:=hm.int.valid c (by omega)
 rw[hv] at hval
 exact sv NR 77 [3,5] (.c (di 0)<|.k<|.f<|.f<|.f<|.c (db O) .r) (_/\(m.kind !=5)=O/\yd i 0/\y7 i (I (U Aj m.av))/\_/\Q (bl [co [],di 17])) ⟨hm.chk,by rw[hm.kind];rfl,yq,HO (by rw[HJ];omega),hval,rfl⟩
theorem AaL(m:cx)(t:cr)(hm:m6 m t)(i:Nat)(r:cm)(hi:m.av[i]?=G r)(c:b9)(hs:c.size<=1000)(hv:Al t c=J)(s0:b9)(h0:c.az[0]?=G s0)(hf:s0.n≠r.ai):F0 110 [Af m,di i,dV c] (.tup [co [],di 0]):=by
 have hil:=(HN.1 hi).1
 have hval:=hm.int.valid c (by omega)
 rw[hv] at hval
 exact sv NR 77 [3,5] (.c (di 0)<|.k<|.f<|.f<|.f<|.c (db J)<|.x (Aj r)<|.h (.xs (Ad s0))<|.t .r) (_/\(m.kind !=5)=O/\yd i 0/\y7 i (I (U Aj m.av))/\_/\y6 i/\zy (U Aj m.av) i (Aj r)/\Q 2/\iz 0<=0/\zy (c7 c.az) 0 (Ad s0)/\yp/\(s0.n !=r.ai)=J/\Q (bl [co [],di 0])) ⟨hm.chk,by rw[hm.kind];rfl,yq,HO (by rw[HJ];omega),hval,by omega,Ae hi,rfl,IA _,Ap (i:=0) h0,yn,bne_iff_ne.2 hf,rfl⟩
abbrev rC(r:cm):List D:=[.v (.str r.name),di r.ai,di r.to,cw r.ak,cw r.aj,cw r.move,di r.chan,di r.act,di r.letter,cw r.path,cw r.next,.v (AH r.aq),cw r.ao,di r.second]
abbrev fy(l:List Int):List (Int×Int):=l.map fun p=>(p,0)
abbrev qa(ms:List Int):List (Nat×Nat×List V):=[(1,2,(fy ms).map cd)]
abbrev vk(r:cm)(l:List Int):St:=⟨[G (rC r),G [.acc 1 ((fy l).map cd)]],qa l⟩
abbrev XT(b:Bool)(xs:List b9)(n:Nat)(ms:List Int):St:=⟨[none,none,G [.gro 4 n 2],G [db b],G (Ab (xs.map eV))],qa ms⟩
abbrev vq(n:Nat)(zs:List b9)(R:List D)(ms:List Int):St:=⟨[none,none,G [.gro 4 n 2],G [db J],G (Ab (zs.map eV)++R)],qa ms⟩
abbrev Asx(n:Nat)(ms:List Int):St:=⟨[none,none,G [.gro 4 n 2],G [db J],none],qa ms⟩
abbrev na(b:Bool)(ms:List Int):St:=⟨[none,none,G [.v .nils],G [db b]],qa ms⟩
abbrev T5(m:cx)(r:cm):D:=.dfn 165 [] [.v (.ref (Aq m)),.v (.ref (Aj r)),.v (.ref (DF (fy r.ao))),.ptr 2 0,.ptr 3 0]
theorem Am5(F:yx):F0 161 [dl [],dfn F] (dl []):=by
 exact zq mg 66 (.t .r) (ye (I nV) 2/\bt (ae [])=dl []) ⟨by decide,rfl⟩
theorem AaM(x y:b9)(hx:x.size<=1000):F0 168 [dV x,dV y] (db (Ay x y==0)):=by
 exact sv Aro 9 [2,3] (.c (di (Ay x y)) .r) (_/\Q (db (Ay x y==0))) ⟨Og _ x y (HR _) (by omega),rfl⟩
theorem Aj1(m:cx)(r:cm)(ps:List (Int×Int)){b b':Bool}{o:yy}{c:Call}{fo:x8}(ho:o.op=.call c)(hc:c.callee=.value fo)
  (h:Aa PP 163 [AI ps,.v (AH r.aq),Di m r (fy r.ao)] (j4 b) (.tup []) (j4 b')):
  Ak PP o [.v (.fn 163 [] []),AI ps,.v (AH r.aq),T5 m r] (na b r.ao) (.tup []) (na b' r.ao):=
 BE (σ:=na b r.ao) ho hc (fD:=.v (.fn 163 [] [])) (fs:=[]) (cs:=[]) (ds:=[AI ps,.v (AH r.aq),T5 m r]) rfl [2,3] id h
  (AN rfl rfl) (.cons rfl (AN rfl rfl) rfl (.cons rfl (AN rfl rfl) rfl .nil)) (by decide) rfl (by simp) (by simp) rfl rfl
theorem Aj2(m:cx)(r:cm)(ps:List (Int×Int)){b b':Bool}{ys:List b9}{o:yy}{c:Call}{fo:x8}(ho:o.op=.call c)(hc:c.callee=.value fo)
  (h:Aa PP 163 [AI ps,.v (AH r.aq),Di m r (fy r.ao)] (j4 b) (.tup []) (CY b' ys)):
  Ak PP o [.v (.fn 163 [] []),AI ps,.v (AH r.aq),T5 m r] (na b r.ao) (.tup []) (XT b' ys (I ys) r.ao):=by
 have h2:=BE (σ:=na b r.ao) ho hc (fD:=.v (.fn 163 [] [])) (fs:=[]) (cs:=[]) (ds:=[AI ps,.v (AH r.aq),T5 m r]) rfl [2,3] id h
  (AN rfl rfl) (.cons rfl (AN rfl rfl) rfl (.cons rfl (AN rfl rfl) rfl .nil)) (by decide) rfl (by simp) (by simp) rfl (by simp[cp,D.okNs,D.okN,Am])
 have e:Dn (d6 4 [2,3]) id (CY b' ys).H=[G [.gro 4 (I ys) 2],G [db b'],G (Ab (ys.map eV))]:=by
  show [G _,G _,G (D.rens _ _ (Ab (ys.map eV)))]=_
  rw[AA (A9 _)];rfl
 have h2:Ak PP o _ _ _ ⟨CG _ _ (Dn (d6 4 [2,3]) id (CY b' ys).H),_⟩:=h2
 rw[e] at h2
 exact h2
theorem Aod(ys:List b9)(hl:I ys<=1000)(hs:∀v∈ys,v.size<=1000000)(ms:List Int){o:yy}{c:Call}{fo:x8}(ho:o.op=.call c)(hc:c.callee=.value fo):
  Ak PP o [.v (.fn 160 [] []),.arr 4 0 (I ys),dfn 112] (XT true ys (I ys) ms) (.tup []) (XT true (sortV ys) (I ys) ms):=by
 have h2:=BE (σ:=XT true ys (I ys) ms) ho hc (fD:=.v (.fn 160 [] [])) (fs:=[]) (cs:=[]) (ds:=[.arr 4 0 (I ys),dfn 112]) rfl [4] id (L1 ys (by omega) hs)
  (AN rfl rfl) (.cons rfl (AN (Am _ _ _) (AA (A9 _)).symm) (Db _) .nil) (by decide) rfl (by simp) (by simp) rfl (by simp[cp,Am])
 have e:Dn (d6 5 [4]) id [G (Ab ((sortV ys).map eV))]=[G (Ab ((sortV ys).map eV))]:=by
  show [G (D.rens _ _ _)]=_
  rw[AA (A9 _)]
 have h2:Ak PP o _ _ _ ⟨CG _ _ (Dn (d6 5 [4]) id [G (Ab ((sortV ys).map eV))]),_⟩:=h2
 rw[e] at h2
 exact h2
theorem Aoh(xs zs:List b9)(n:Nat)(R:List D)(ms:List Int)(hR:D.pls R=J)(hn:I xs=n){F:yx}{o:yy}{c:Call}{fo:x8}(ho:o.op=.call c)(hc:c.callee=.value fo)
  (h:Aa PP 161 [.arr 0 0 (I xs),dfn F] ⟨[G (Ab (xs.map eV))],[]⟩ (.arr 0 0 (I zs)) ⟨[G (Ab (zs.map eV)++R)],[]⟩):
  Ak PP o [.v (.fn 161 [] []),.arr 4 0 n,dfn F] (XT true xs n ms) (.arr 4 0 (I zs)) (vq n zs R ms):=by
 subst hn
 have h2:=BE (σ:=XT true xs (I xs) ms) ho hc (fD:=.v (.fn 161 [] [])) (fs:=[]) (cs:=[]) (ds:=[.arr 4 0 (I xs),dfn F]) rfl [4] id h
  (AN rfl rfl) (.cons rfl (AN (Am _ _ _) (AA (A9 _)).symm) (Db _) .nil) (by decide) rfl (by simp) (by simp) rfl (I1.2 ⟨AO (V5 _ hR),rfl⟩)
 have e:Dn (d6 5 [4]) id [G (Ab (zs.map eV)++R)]=[G (Ab (zs.map eV)++R)]:=by
  show [G (D.rens _ _ _)]=_
  rw[AA (V5 _ hR)]
 have h2:Ak PP o _ _ _ ⟨CG _ _ (Dn (d6 5 [4]) id [G (Ab (zs.map eV)++R)]),_⟩:=h2
 rw[e] at h2
 exact h2
noncomputable abbrev xh:=(Oper.mk (G 69) (Op.makeFunc (Fn.func 165) #[] #[Operand.tmp 3,Operand.tmp 9,Operand.tmp 10,Operand.tmp 13,Operand.tmp 14]) 166 "timed.go:83" #[] none)
noncomputable abbrev xm:=(Oper.mk (G 68) (Op.load 59 (Operand.tmp 67)) 59 "timed.go:83" #[Edge.mk 2 Ground.data] none)
noncomputable abbrev xg:=fun a₀ b₀ c₀=>[bt (bz (Aq a₀)),bt (bz (Aj b₀)),bt (bz (ae (U cd (fy c₀)))),bq 2 0,bq 3 0]
noncomputable abbrev xq:=(Oper.mk (G 67) (Op.fieldAddr 61 (Operand.tmp 9) 11) 0 "timed.go:83" #[] none)
noncomputable abbrev xv:=fun a₀=>(bi [none,none,G [dn],G [db J]] [(1,2,U cd (fy a₀))])
theorem AaK(m:cx)(t:cr)(hm:m6 m t)(r:cm)(hmk:I r.ao<=50)(htl:I r.aq<=2)(c:b9)(ps:List (Int×Int))(hps:I ps<=20)(htk:F0 164 [dV c] (AI ps))(ys:List b9)(hY:ys=(T6 r.aq ps).map fun x=>Ew r.to (x++fy r.ao))(p:List b9×Int)(hp:p=la t ys):
  ∀(n k:Nat),I r.ao-k=n->Rn PP NR 0 (.tup [co p.1,di p.2]) bd ([kl Te [1,1,1,1,1,1,0,1,0,0],.blk 1,kc Te [1,1,1,1,1,1,1]]++[]) (cz 77 [(3,.v (.ref (Aq m))),(5,.v (.ref (Ad c))),(9,.ptr 0 0),(10,.ptr 1 0),(53,cw r.ao),(54,di (I r.ao)),(55,di k)]) (vk r (r.ao.take k)):=by
 suffices hz:∀(k:Nat),I r.ao-k=0->Rn PP NR 0 (.tup [co p.1,di p.2]) bd ([kl Te [1,1,1,1,1,1,0,1,0,0],.blk 1,kc Te [1,1,1,1,1,1,1]]++[]) (cz 77 [(3,.v (.ref (Aq m))),(5,.v (.ref (Ad c))),(9,.ptr 0 0),(10,.ptr 1 0),(53,cw r.ao),(54,di (I r.ao)),(55,di k)]) (vk r r.ao) by
  intro n
  induction n with
  |zero=>
   intro k hn
   have:=hz k hn
   rw[IB (by omega)];exact this
  |succ n ih=>
   intro k hn
   obtain⟨x,hx⟩:∃x,r.ao[k]?=G x:=⟨_,HK (show k<I r.ao by omega)⟩
   have hr:=ih (k+1) (by omega)
   have e:(fy (r.ao.take k)).map cd++[aa [vi x,vi 0]]=(fy (r.ao.take (k+1))).map cd:=by
    rw[J2,hx];simp
   refine lv 77 [3,5] (.t<|.x (vi x)<|.lo [ke 3,ke 5,ke 9,ke 10,ke 53,ke 54,ch 55 (di (k+1:Nat))] (vk r (r.ao.take (k+1)))) (Y ((k:Int)<(I r.ao:Int))=J/\0<=(k:Int)/\(dt r.ao)[Z (k:Int)]?=G (vi x)/\Q (U cd (fy (take k r.ao)))/\Ao (I (U cd (fy (take k r.ao)))+I (aa (vi x::a8 yt 0::nV)::nV)) 16/\di (yu yt ((k:Int)+1))=di (↑(k+1):Int)/\Q J/\[G (rC r),G [br 1 (U cd (fy (take k r.ao))++aa (vi x::vi 0::nV)::nV)]]=[G (rC r),G [br 1 (U cd (fy (take (k+1) r.ao)))]]/\[(1,2,U cd (fy (take k r.ao))++aa (vi x::vi 0::nV)::nV)]=[(1,2,U cd (fy (take (k+1) r.ao)))]/\It (type_of% hr)) ?_
   rw[e]
   exact⟨yr,by omega,by rw[Jy,IP,hx];rfl,rfl,⟨by simp only[HJ,ID,HP,HT];omega,by simp only[HJ,ID,HP,HT];omega⟩,Ac,rfl,rfl,rfl,⟨hr⟩⟩
 have h1:I ys<=400:=by rw[hY,HJ];exact Xf htl hps
 have h2:∀v∈ys,v.size<=1000:=fun v hv=>by
  rw[hY] at hv
  obtain⟨x,hx,rfl⟩:=IQ.1 hv
  have:=Vu _ _ hx
  have:=Ok r.to (x++fy r.ao) (by rw[HY,HJ];omega)
  omega
 have h3:=Aev m t hm.int r (fy r.ao) (by rw[HJ];exact hmk) r.aq ps (by omega) true [] ys (ys.all (Al t)) hY (by simp;omega) (by simp)
 unfold la at hp
 clear hY
 intro k hn
 cases hb:ys.all (Al t) with
 |false=>
  rw[hb] at h3 hp
  rw[Iz (by decide)] at hp
  subst hp
  clear hb
  show Rn PP NR 0 (.tup [co [],di 1]) bd _ _ _
  by_cases hy:ys=[]
  ·subst hy
   exact lv 77 [3,5] (.f<|.h (.q 20 0)<|.h (.fa 0 [9])<|.h (.f1 1 [10])<|.c (AI ps)<|.h (.p (.v (.ref (AH r.aq))))<|.h (.p (.v (AH r.aq)))<|.h (.p (T5 m r))<|.h (.oc (.tup []) (na false r.ao))<|.k<|.r) (Y ((k:Int)<(I r.ao:Int))=O/\_/\(∀(τ:St),Ak PP xq [bt (bz (Aj r))] τ (bt (bz (AH r.aq))) τ)/\(∀(τ:St),Ak PP xm [bt (bz (AH r.aq))] τ (bt (AH r.aq)) τ)/\(∀(τ:St),Ak PP xh (xg m r r.ao) τ (T5 m r) τ)/\(N0 [bt rj,AI ps,bt (AH r.aq),T5 m r] (xv r.ao) (bl []) (na false r.ao))/\Q (bl [co [],di 1])) ⟨yq,htk,fun τ=>Gi rfl (fo:=11) (n:=1) (b:=false) (by kernel_rfl) (by decide) (fun _=>rfl) rfl,fun τ=>Gg rfl (by unfold Rg;kernel_rfl) rfl,fun τ=>DH rfl rfl,fun o cl fo ho hc=>Aj1 m r ps ho hc h3,rfl⟩
  ·rw[AfW hy] at h3
   exact lv 77 [3,5] (.f<|.h (.q 20 0)<|.h (.fa 0 [9])<|.h (.f1 1 [10])<|.c (AI ps)<|.h (.p (.v (.ref (AH r.aq))))<|.h (.p (.v (AH r.aq)))<|.h (.p (T5 m r))<|.h (.oc (.tup []) (XT false ys (I ys) r.ao))<|.k<|.r) (Y ((k:Int)<(I r.ao:Int))=O/\_/\(∀(τ:St),Ak PP xq [bt (bz (Aj r))] τ (bt (bz (AH r.aq))) τ)/\(∀(τ:St),Ak PP xm [bt (bz (AH r.aq))] τ (bt (AH r.aq)) τ)/\(∀(τ:St),Ak PP xh (xg m r r.ao) τ (T5 m r) τ)/\(N0 [bt rj,AI ps,bt (AH r.aq),T5 m r] (xv r.ao) (bl []) (XT false ys (I ys) r.ao))/\Q (bl [co [],di 1])) ⟨yq,htk,fun τ=>Gi rfl (fo:=11) (n:=1) (b:=false) (by kernel_rfl) (by decide) (fun _=>rfl) rfl,fun τ=>Gg rfl (by unfold Rg;kernel_rfl) rfl,fun τ=>DH rfl rfl,fun o cl fo ho hc=>Aj2 m r ps ho hc h3,rfl⟩
 |true=>
  rw[hb] at h3 hp
  rw[I4 rfl] at hp
  subst hp
  clear hb
  by_cases hy:ys=[]
  ·subst hy
   rw[show Ex []=[] by simp[Ex,sortV,AT]]
   show Rn PP NR 0 (.tup [co [],di 0]) bd _ _ _
   refine lv 77 [3,5] (.f<|.h (.q 20 0)<|.h (.fa 0 [9])<|.h (.f1 1 [10])<|.c (AI ps)<|.h (.p (.v (.ref (AH r.aq))))<|.h (.p (.v (AH r.aq)))<|.h (.p (T5 m r))<|.h (.oc (.tup []) (na true r.ao))<|.k<|.c (.tup [])<|.c (dl []) .r) (Y ((k:Int)<(I r.ao:Int))=O/\F0 164 [dV c] (AI ps)/\(∀(τ:St),Ak PP xq [bt (bz (Aj r))] τ (bt (bz (AH r.aq))) τ)/\(∀(τ:St),Ak PP xm [bt (bz (AH r.aq))] τ (bt (AH r.aq)) τ)/\(∀(τ:St),Ak PP xh (xg m r r.ao) τ (T5 m r) τ)/\(N0 [bt rj,AI ps,bt (AH r.aq),T5 m r] (xv r.ao) (bl []) (na true r.ao))/\F0 160 [bt (ae []),bt rc] (bl [])/\F0 161 [bt (ae []),bt (bw 168 [] [])] (dl [])/\bl qv=bl [co [],di 0]) ?_
   exact⟨yq,htk,fun τ=>Gi rfl (fo:=11) (n:=1) (b:=false) (by kernel_rfl) (by decide) (fun _=>rfl) rfl,fun τ=>Gg rfl (by unfold Rg;kernel_rfl) rfl,fun τ=>DH rfl rfl,fun o cl fo ho hc=>Aj1 m r ps ho hc h3,MR,Am5 _,rfl⟩
  ·rw[AfW hy] at h3
   obtain⟨R,c3,_,c4⟩:=Aqp 168 (sortV ys) u9 (by rw[(BL ys).length_eq];omega) (fun x hx y hy=>AaM x y (h2 x ((BL ys).mem_iff.1 hx)))
   rw[show AT u9 (sortV ys)=Ex ys from rfl] at c4
   generalize Ex ys=zs at c4⊢
   show Rn PP NR 0 (.tup [co zs,di 0]) bd _ _ _
   exact lv 77 [3,5] (.f<|.h (.q 20 0)<|.h (.fa 0 [9])<|.h (.f1 1 [10])<|.c (AI ps)<|.h (.p (.v (.ref (AH r.aq))))<|.h (.p (.v (AH r.aq)))<|.h (.p (T5 m r))<|.h (.oc (.tup []) (XT true ys (I ys) r.ao))<|.k<|.h (.q 24 1)<|.h (.ga 73)<|.h (.oc (.tup []) (XT true (sortV ys) (I ys) r.ao))<|.h (.q 25 1)<|.h (.ga 75)<|.h (.oc (.arr 4 0 (I zs)) (vq (I ys) zs R r.ao))<|.h (.q 25 2)<|.h (.ct 76 (co zs) (Asx (I ys) r.ao)) .r) (Y ((k:Int)<(I r.ao:Int))=O/\_/\(∀(τ:St),Ak PP xq [bt (bz (Aj r))] τ (bt (bz (AH r.aq))) τ)/\(∀(τ:St),Ak PP xm [bt (bz (AH r.aq))] τ (bt (AH r.aq)) τ)/\(∀(τ:St),Ak PP xh (xg m r r.ao) τ (T5 m r) τ)/\(N0 [bt rj,AI ps,bt (AH r.aq),T5 m r] (xv r.ao) (bl []) (XT true ys (I ys) r.ao))/\(N0 [bt Av3,bo 4 0 (I ys),bt rc] (bi [none,none,G [bm 4 (I ys) 2],G [db J],G (ec ys)] (qa r.ao)) (bl []) (XT true (sortV ys) (I ys) r.ao))/\(N0 [bt (bw 161 [] []),bo 4 0 (I ys),bt (bw 168 [] [])] (XT true (sortV ys) (I ys) r.ao) (bo 4 0 (I zs)) (vq (I ys) zs R r.ao))/\(∀(e:List D),e[76]?=G (bo 4 0 (I zs))->∀(E:c9) (g:Gh) (a:Act) (w:x5),FI E g (vq (I ys) zs R r.ao) e a w->∃g',FI E g' (Asx (I ys) r.ao) (List.set e 76 (co zs)) a w)/\Q (bl [co zs,di 0])) ⟨yq,htk,fun τ=>Gi rfl (fo:=11) (n:=1) (b:=false) (by kernel_rfl) (by decide) (fun _=>rfl) rfl,fun τ=>Gg rfl (by unfold Rg;kernel_rfl) rfl,fun τ=>DH rfl rfl,fun o cl fo ho hc=>Aj2 m r ps ho hc h3,fun o cl fo ho hc=>Aod ys (by omega) (fun v hv=>by have:=h2 v hv;omega) r.ao ho hc,fun o cl fo ho hc=>Aoh (sortV ys) zs (I ys) R r.ao c3 (BL ys).length_eq ho hc c4,fun e he=>Vm (σ:=vq (I ys) zs R r.ao) (q:=4) (sz:=2) (by decide) (D3 _) (by rw[HJ]) rfl he,rfl⟩
def lg(r:cm)(c:b9):List b9:=(T6 r.aq (Rr (c.az.getD 1 e8))).map fun x=>Ew r.to (x++fy r.ao)
def R6(t:cr)(r:cm)(c:b9):List b9×Int:=if Al t c=J then(if (c.az.getD 0 e8).n=r.ai then la t (lg r c) else([],0)) else([],17)
theorem AaA{r:cm}{c:b9}(hc:wd c)(hr:I r.aq<=2/\r.ao.length<=1):I (lg r c)<=400/\∀v∈lg r c,v.size<=1000:=by
 obtain⟨b,hb⟩:∃x,c.az[1]?=G x:=⟨_,HK (by rw[hc.len];omega)⟩
 have hb12:=hc.few b hb
 have e1:c.az.getD 1 e8=b:=by rw[HS,hb];rfl
 have hpl:=Qq b
 rw[lg,e1]
 refine⟨by rw[HJ];exact Xf hr.1 (by omega),fun v hv=>?_⟩
 obtain⟨x,hx,rfl⟩:=IQ.1 hv
 have:=Vu _ _ hx
 have:=Ok r.to (x++fy r.ao) (by rw[HY,HJ];omega)
 omega
theorem AaC{t:cr}{r:cm}{c:b9}(hc:Al t c=J->wd c)(hr:I r.aq<=2/\r.ao.length<=1):(R6 t r c).1.length<=400/\∀v∈ (R6 t r c).1,v.size<=1000:=by
 unfold R6 la
 split
 ·rename_i hv
  obtain⟨h1,h2⟩:=AaA (hc hv) hr
  have:=VD (lg r c)
  split
  ·split
   ·exact⟨by show(Ex (lg r c)).length<=400;omega,fun v hv=>h2 v (PQ hv)⟩
   ·exact⟨by simp,by simp⟩
  ·exact⟨by simp,by simp⟩
 ·exact⟨by simp,by simp⟩
theorem AaJ(m:cx)(t:cr)(hm:m6 m t)(i:Nat)(r:cm)(hi:m.av[i]?=G r)(c:b9)(hs:c.size<=1000):F0 110 [Af m,di i,dV c] (.tup [co (R6 t r c).1,di (R6 t r c).2]):=by
 have hir:=(HN.1 hi).1
 have hfew:=hm.few
 unfold R6
 cases hv:Al t c with
 |false=>rw[Iz (by decide)];exact AfR m t hm i r hi c hs hv
 |true=>
  rw[I4 rfl]
  have hsh:=hm.shape c hv
  obtain⟨s0,h0⟩:∃x,c.az[0]?=G x:=⟨_,HK (by rw[hsh.len];omega)⟩
  obtain⟨b,hb⟩:∃x,c.az[1]?=G x:=⟨_,HK (by rw[hsh.len];omega)⟩
  have e0:c.az.getD 0 e8=s0:=by rw[HS,h0];rfl
  have e1:c.az.getD 1 e8=b:=by rw[HS,hb];rfl
  rw[e0]
  by_cases hf:s0.n=r.ai
  ·rw[I4 hf]
   have hb12:=hsh.few b hb
   have hru:=hm.rule r (HQ hi)
   have hpl:=Qq b
   have ht:=VM c b hb (by omega) (Rr b) hpl (AbS b fun v hv=>hsh.toks b v hb hv)
   have p3:=AaK m t hm r (by omega) hru.1 c (Rr b) (by omega) ht (lg r c) (by rw[lg,e1]) _ rfl
   generalize la t (lg r c)=p at p3⊢
   have hil:=hir
   have hval:=hm.int.valid c (by omega)
   rw[hv] at hval
   exact sv NR 77 [3,5] (.c (di 0)<|.k<|.f<|.f<|.f<|.c (db J)<|.x (Aj r)<|.h (.xs (Ad s0))<|.f<|.h (.q 14 0)<|.h (.cl 1 0 1 2)<|.lo [ke 3,ke 5,ke 9,ke 10,ch 53 (cw r.ao),ch 54 (di (I r.ao)),ch 55 (di (0:Nat))] (vk r [])) (_/\(m.kind !=5)=O/\yd i 0/\y7 i (I (U Aj m.av))/\_/\y6 i/\zy (U Aj m.av) i (Aj r)/\Q 2/\iz 0<=0/\zy (c7 c.az) 0 (Ad s0)/\yp/\(s0.n !=r.ai)=O/\Q (cw r.ao)/\di (I (dt r.ao):Int)=di (I r.ao:Int)/\Q (di 0)/\Q J/\Q [G (rC r),G [br 1 nV]]/\Q [(1,2,nV)]/\_) ⟨hm.chk,by rw[hm.kind];rfl,yq,HO (by rw[HJ];omega),hval,by omega,Ae hi,rfl,IA _,Ap (i:=0) h0,yn,by rw[hf];exact bne_self_eq_false _,rfl,by rw[HJ],rfl,rfl,rfl,rfl,iK (p3 _ 0 rfl)⟩
  ·rw[Iz hf]
   exact AaL m t hm i r hi c hs hv s0 h0 hf
theorem AeL{ap:Int->List b9×Int}{Q:er->Prop}(hq:∀i,∀v∈ (ap i).1,Q (i,v)):∀(n:Nat) (i:Int) (acc:List er),(∀s∈acc,Q s)->(DD ap n i acc).1.length<=256/\∀s∈ (DD ap n i acc).1,Q s
 |0,i,acc,ha=>by
  grind[DD]
 |n+1,i,acc,ha=>by
  rw[DD]
  split
  ·grind
  ·exact AeL hq n (i+1) (acc++(ap i).1.map fun v=>(i,v)) (fun s hs=>by
    grind)
def Aq6(p:List b9×Int):Prop:=I p.1<=1000/\∀v∈p.1,v.size<=1000
theorem Ahf{p:b9×Int}(h:p.1.size<=1000):Aq6 (C7 p):=by
 grind[C7,Aq6]
structure tb(m:cx)(t:cr)(ap:b9->Int->List b9×Int):Prop where
 int:X3 m t
 chk:F0 70 [Af m] (di 0)
 kind:m.kind≠6
 few:I m.av<=12
 bp:∀c:b9,Al t c=J->∀i:Int,Aq6 (ap c i)
 beh:∀c:b9,c.size<=1000->Al t c=J->∀i:Int, -1<=i->i<I m.av->F0 73 [Af m,di i,dV c] (dm (ap c i))
theorem Asv{m:cx}{t:cr}{ap:b9->Int->List b9×Int}(hm:tb m t ap):F0 104 [Af m] (di 0):=by
 exact sv AlD 12 [1] (.c (di 0)<|.k<|.f .r) (_/\(m.kind==6)=O/\Q (di 0)) ⟨hm.chk,IM.2 hm.kind,rfl⟩
theorem AqO{m:cx}{t:cr}{ap:b9->Int->List b9×Int}(hm:tb m t ap)(c:b9)(hs:c.size<=1000):F0 72 [Af m,dV c] (di (if Al t c=J then 0 else 17)):=by
 have h1:=hm.int.valid c (by omega)
 cases hv:Al t c with
 |true=>
  refine sv Aia 15 [2,3] (.c (di 0)<|.c (db J) .r) (xt m/\F0 105 [Af m,dV c] (db J)/\Q (di 0)) ?_
  grind[Asv]
 |false=>
  refine sv Aia 15 [2,3] (.c (di 0)<|.c (db O) .r) (xt m/\F0 105 [Af m,dV c] (db O)/\Q (di 17)) ?_
  grind[Asv]
def RI(m:cx)(t:cr)(ap:b9->Int->List b9×Int)(c:b9):List er×Int:=if Al t c=J then DD (ap c) (I m.av+1) (-1) [] else([],17)
theorem AnB{m:cx}{t:cr}{ap:b9->Int->List b9×Int}(hm:tb m t ap)(c:b9)(hs:c.size<=1000):((RI m t ap c).1.length<=256/\∀s∈ (RI m t ap c).1,s.2.size<=1000)/\F0 38 [Af m,dV c] (fv (RI m t ap c)):=by
 have hc:=AqO hm c hs
 unfold RI
 cases hv:Al t c with
 |false=>
  rw[hv] at hc
  have hc:F0 72 [Af m,dV c] (di 17):=hc
  rw[Iz (by decide)]
  refine⟨⟨by simp,by simp⟩,?_⟩
  exact sv GP 53 [2,3] (.c (di 17) .r) (_/\Q (fv ([],17))) ⟨hc,rfl⟩
 |true=>
  rw[hv] at hc
  have hc:F0 72 [Af m,dV c] (di 0):=hc
  rw[I4 rfl]
  have hb:=hm.bp c hv
  have hap:=fun i h1 h2=>hm.beh c hs hv i h1 h2
  generalize ap c=ap at hb hap⊢
  refine⟨AeL (ap:=ap) (Q:=fun s=>s.2.size<=1000) (fun i v hv=>(hb i).2 v hv) (I m.av+1) (-1) [] (by simp),?_⟩
  refine sv GP 53 [2,3] (.c (di 0)<|.h (.q 5 0)<|.h (.nw 7 1 3)<|.ls uy (FO [])) (_/\Q (di (-1))/\Q [(1,3,nV)]/\I0 GP (I bd.H) (fv (DD ap (I m.av+1) (-1) [])) bd [kl Dt fd,bh 0,zt GP 31] (cz 53 (uu m c)) (FO [])) ⟨hc,rfl,rfl,⟨?_⟩⟩
  exact MV m hm.few c ap (fun i=>(hb i).1) (fun i h1 h2=>hap i h1 h2) (I m.av+1) (-1) [] (by omega) (by omega) (by omega) (by simp)
theorem AsJ{m:cx}{c:b9}(hk:m.kind=2∨m.kind=3){l:List b9}(hl:F0 149 [Af m,dV c] (dm (l,0))):F0 106 [Af m,dV c] (co l):=by
 rcases hk with hk|hk
 ·refine sv vz 31 [2,3] (.t<|.c (dm (l,0)) .r) ((m.kind==2)=J/\type_of% hl/\Q (co l)) ?_
  grind
 ·refine sv vz 31 [2,3] (.f<|.t<|.c (dm (l,0)) .r) ((m.kind==2)=O/\(m.kind==3)=J/\type_of% hl/\Q (co l)) ?_
  grind
theorem AsI{m:cx}{c:b9}(hk:m.kind=5){v:b9}(hl:F0 150 [Af m,dV c] (.tup [dV v,di 0])):F0 106 [Af m,dV c] (co [v]):=by
 refine sv vz 31 [2,3] (.f<|.f<|.t<|.c (.tup [dV v,di 0]) .r) ((m.kind==2)=O/\(m.kind==3)=O/\(m.kind==5)=J/\type_of% hl/\bt (ae [aa [vi v.n,dq v.az]])=co [v]) ?_
 grind[AE]
theorem Akc{m:cx}{c:b9}{l:List b9}(h:F0 106 [Af m,dV c] (co l)):F0 73 [Af m,di (-1),dV c] (dm (l,0)):=by
 refine sv ql 56 [3,5] (.c (co l) .r) (type_of% h/\Q (dm (l,0))) ?_
 grind
theorem Atq{m:cx}(hk:m.kind=2∨m.kind=3)(i:Nat)(c:b9)(p:b9×Int)(hp:F0 111 [Af m,di i,dV c] (dP p)):F0 73 [Af m,di i,dV c] (dm (C7 p)):=by
 refine sv ql 56 [3,5] (.f<|.f<|.f<|.f<|.c (dP p)<|.c (dm (C7 p)) .r) (((i:Int)== -1)=O/\(m.kind==1)=O/\(m.kind==4)=O/\(m.kind==5)=O/\type_of% hp/\F0 107 [dV p.fst,di p.snd] (dm (C7 p))/\Q (dm (C7 p))) ?_
 grind[MP]
theorem Atp{m:cx}(hk:m.kind=5)(i:Nat)(c:b9)(p:List b9×Int)(hp:F0 110 [Af m,di i,dV c] (dm p)):F0 73 [Af m,di i,dV c] (dm p):=by
 refine sv ql 56 [3,5] (.f<|.f<|.f<|.t<|.c (dm p) .r) (((i:Int)== -1)=O/\(m.kind==1)=O/\(m.kind==4)=O/\(m.kind==5)=J/\type_of% hp/\Q (dm p)) ?_
 grind
def jl(m:cx)(t:cr)(c:b9)(i:Int):List b9×Int:=if i<0 then(sortV (fp m c (I m.ay)),0) else match m.av[i.toNat]? with
 |some r=>C7 (ZS t r c)
 |none=>([],0)
theorem oa.st{m:cx}{t:cr}(hm:oa m t)(hr:I m.au<=1000):tb m t (jl m t):=by
 refine⟨hm.int,hm.chk,by rcases hm.kind with h|h<;>(rw[h];decide),hm.few.1,fun c hv i=>?_,fun c hs hv i h1 h2=>?_⟩
 ·have hsh:=hm.shape c hv
  have hl:=hsh.len
  have h2:=hm.few.2
  unfold jl
  split
  ·have hlen:=QA m c (I m.ay)
   refine⟨by show(sortV _).length<=1000;rw[(BL _).length_eq];omega,fun v hv=>?_⟩
   have:=Q9 hsh.size (by omega) ((BL _).mem_iff.1 hv)
   omega
  ·split
   ·rename_i r hr
    have:=hsh.size
    exact Ahf (Xn m t hm _ r hr c (by omega)).1
   ·exact⟨by simp,by simp⟩
 ·unfold jl
  by_cases h0:i<0
  ·have:i= -1:=by omega
   subst this
   exact Akc (AsJ hm.kind (Ah0 m t hm hr c hv))
  ·obtain⟨k,rfl⟩:∃k:Nat,i=k:=⟨i.toNat,by omega⟩
   have hk:k<I m.av:=by omega
   have hr:m.av[k]?=G m.av[k]:=HK hk
   rw[Iz h0,show((k:Nat):Int).toNat=k by omega,hr]
   exact Atq hm.kind k c _ (Xn m t hm k _ hr c hs).2
def T8(m:cx)(t:cr)(c:b9)(i:Int):List b9×Int:=if i<0 then([ot m c],0) else match m.av[i.toNat]? with
 |some r=>R6 t r c
 |none=>([],0)
theorem m6.st{m:cx}{t:cr}(hm:m6 m t):tb m t (T8 m t):=by
 refine⟨hm.int,hm.chk,by rw[hm.kind];decide,hm.few,fun c hv i=>?_,fun c hs hv i h1 h2=>?_⟩
 ·unfold T8
  split
  ·grind[VP,Aq6]
  ·split
   ·rename_i r hr
    have:=AaC (t:=t) (r:=r) (fun _=>hm.shape c hv) (hm.rule r (HQ hr))
    exact⟨by omega,this.2⟩
   ·exact⟨by simp,by simp⟩
 ·unfold T8
  by_cases h0:i<0
  ·have:i= -1:=by omega
   subst this
   exact Akc (AsI hm.kind (VP m t hm c hv).2)
  ·obtain⟨k,rfl⟩:∃k:Nat,i=k:=⟨i.toNat,by omega⟩
   have hk:k<I m.av:=by omega
   have hr:m.av[k]?=G m.av[k]:=HK hk
   rw[Iz h0,show((k:Nat):Int).toNat=k by omega,hr]
   exact Atp hm.kind k c _ (AaJ m t hm k _ hr c hs)
def dx(s:Int)(ws:List (List Int)):b9:=.mk 0 (lf s::ws.map dy)
structure ku(m:cx)(s:Int)(ws:List (List Int)):Prop where
 st:0<=s/\s<I m.aw
 len:I ws=I m.ay
 word:∀w∈ws,I w<=12/\∀x∈w,0<=x/\x<I m.ax
theorem Hu{n:Int}{v:b9}(h:CI n v=J):v=lf v.n/\0<=v.n/\v.n<n:=by
 simp only[CI,HL,HU,IJ] at h
 obtain⟨h1,h2,h3⟩:=h
 cases v with
 |mk a ks=>
  have h3:(I ks:Int)=0:=h3
  have:ks=[]:=List.eq_nil_of_length_eq_zero (by omega)
  subst this
  exact⟨rfl,h1,h2⟩
theorem WF{n x:Int}(h:0<=x/\x<n):CI n (lf x)=J:=by
 grind[CI,b9.n,b9.az]
theorem Sp{n:Int}:∀{ks:List b9},(ks.all fun k=>CI n k)=J->∃w:List Int,ks=w.map lf/\∀x∈w,0<=x/\x<n
 |[],_=>⟨[],rfl,by simp⟩
 |k::ks,h=>by
  simp only[all_cons,HL] at h
  obtain⟨h1,h2,h3⟩:=Hu h.1
  obtain⟨w,e,hw⟩:=Sp h.2
  refine⟨k.n::w,?_,fun x hx=>?_⟩
  all_goals grind
theorem Aim{m:cx}(hk:m.kind=2∨m.kind=3){v:b9}(h:A1 (Fg m) v=J):∃w:List Int,v=dy w/\w.length<=12/\∀x∈w,0<=x/\x<I m.ax:=by
 have h2:v.n=0/\(I v.az:Int)<=12/\(v.az.all fun k=>CI (I m.ax) k)=J:=by
  grind[Fg,A1]
 obtain⟨h1,h3,h4⟩:=h2
 obtain⟨w,e,hw⟩:=Sp h4
 cases v<;>grind[b9.n,b9.az]
theorem Ap5{m:cx}(hk:m.kind=2∨m.kind=3){w:List Int}(h1:I w<=12)(h2:∀x∈w,0<=x/\x<I m.ax):A1 (Fg m) (dy w)=J:=by
 have h4:((w.map lf).all fun k=>CI (I m.ax) k)=J:=IU.2 fun k hk=>by
  grind[WF]
 grind[Fg,A1,b9.n,b9.az]
theorem SL{m:cx}(hk:m.kind=2∨m.kind=3):∀(n:Nat) (vs:List b9),I vs=n->BU (replicate n (Fg m)) vs=J->∃ws:List (List Int),vs=ws.map dy/\∀w∈ws,I w<=12/\∀x∈w,0<=x/\x<I m.ax
 |0,vs,hl,_=>⟨[],by grind,by simp⟩
 |n+1,[],hl,_=>by grind
 |n+1,v::vs,hl,h=>by
  simp only[Jk,BU,HL] at h
  obtain⟨w,e,h1,h2⟩:=Aim hk h.1
  obtain⟨ws,e2,h3⟩:=SL hk n vs (by grind) h.2
  refine⟨w::ws,by grind,fun x hx=>?_⟩
  grind
theorem AdN{m:cx}(hk:m.kind=2∨m.kind=3):∀(ws:List (List Int)),(∀w∈ws,I w<=12/\∀x∈w,0<=x/\x<I m.ax)->BU (replicate (I ws) (Fg m)) (ws.map dy)=J
 |[],_=>rfl
 |w::ws,h=>by
  simp only[HP,Jk,I9,BU,HL]
  exact⟨Ap5 hk (h w (by simp)).1 (h w (by simp)).2,AdN hk ws fun x hx=>h x (by grind)⟩
theorem VA(w:List Int):(dy w).size=1+I w:=by rw[b9.size,KG]
theorem V9:∀(ws:List (List Int)),(∀w∈ws,I w<=12)->b9.sizes (ws.map dy)<=13*I ws
 |[],_=>HR _
 |w::ws,h=>by
  have h2:=V9 ws fun z hz=>h z (by simp[hz])
  grind[VA,b9.sizes]
theorem Vv{m:cx}(hk:m.kind=2∨m.kind=3){c:b9}(h:Al (AM m) c=J):∃s ws,c=dx s ws/\ku m s ws:=by
 simp only[Al,AM,A1,HL,HU,IJ] at h
 obtain⟨_,h2,h3,h4⟩:=h
 cases c with
 |mk a ks=>
  simp only[b9.n,b9.az] at h2 h3 h4
  subst h2
  cases ks with
  |nil=>grind
  |cons k ks=>
   simp only[BU,HL] at h4
   simp only[HP,List.length_replicate] at h3
   obtain⟨l1,l2⟩:=Hu (by simpa[A1] using h4.1)
   obtain⟨ws,e,hw⟩:=SL hk (I m.ay) ks (by omega) h4.2
   refine⟨k.n,ws,by grind[dx],l2,?_,hw⟩
   grind
theorem F5{m:cx}(hk:m.kind=2∨m.kind=3)(hp:I m.ay<=2){s:Int}{ws:List (List Int)}(h:ku m s ws):Al (AM m) (dx s ws)=J:=by
 have hz:=V9 ws fun w hw=>(h.word w hw).1
 have hl:=h.len
 have h4:=AdN hk ws h.word
 rw[hl] at h4
 simp only[Al,AM,A1,dx,b9.n,b9.az,HL,IJ,BU]
 refine⟨?_,trivial,?_,WF h.st,h4⟩
 all_goals grind[b9.sizes,b9.size]
theorem L9(w:List Int):AY (dy w)=w:=AcH w
theorem G5(s:Int)(ws:List (List Int)):(dx s ws).az.getD 0 e8=lf s:=rfl
theorem K8{s:Int}{ws:List (List Int)}{k:Nat}{w:List Int}(h:ws[k]?=G w):(dx s ws).az.getD (1+k) e8=dy w:=by
 grind[b9.az,dx]
theorem G4{s:Int}{ws:List (List Int)}{k:Nat}{w:List Int}(h:ws[k]?=G w)(s':Int)(w':List Int):Lt (dx s ws) k s' w'=dx s' (ws.set k w'):=by
 rw[Lt,G5,K8 h,dx,Cb]
 grind[dx,map_set,b9.n,b9.az]
theorem Td{m:cx}(hk:m.kind=2∨m.kind=3)(hp:I m.ay<=2){s:Int}{ws:List (List Int)}(h:ku m s ws){r:cm}{k:Nat}(hrk:r.chan=k){w:List Int}(hw:ws[k]?=G w):
  ZS (AM m) r (dx s ws)=if ((s==r.ai)&&((r.act !=2)||w.head?==G r.letter))=J then
   if (r.act==1)=J then(if ((I w:Int)==12)=J then(e8,1) else(dx r.to (ws.set k (w++[r.letter])),0))
   else if (r.act==2)=J then(dx r.to (ws.set k (w.drop 1)),0) else(dx r.to (ws.set k w),0)
  else(e8,18):=by
 have ek:r.chan.toNat=k:=by omega
 unfold ZS Asd
 rw[I4 (F5 hk hp h),ek,G5,K8 hw,L9]
 simp only[G4 hw]
 rfl
theorem WC{m:cx}{s:Int}{ws:List (List Int)}(hl:I ws=I m.ay):∀K:Nat,K<=I ws->∀v,v∈fp m (dx s ws) K↔∃k w w',k<K/\ws[k]?=G w/\w'∈Fi m w/\v=dx s (ws.set k w'):=by
 intro K hK v
 simp only[fp,List.mem_flatMap,List.mem_range,IQ]
 constructor
 ·rintro ⟨k,hk,w',h1,rfl⟩
  obtain⟨w,hw⟩:=yk (show k<I ws by omega)
  rw[K8 hw,L9] at h1
  exact⟨k,w,w',hk,hw,h1,by rw[iw,G5,G4 hw];rfl⟩
 ·rintro ⟨k,w,w',hk,hw,h1,rfl⟩
  refine⟨k,hk,w',?_,?_⟩
  ·rw[K8 hw,L9];exact h1
  ·rw[iw,G5,G4 hw];rfl
theorem Vw{s s':Int}{ws ws':List (List Int)}(h:dx s ws=dx s' ws'):s=s'/\ws=ws':=by
 grind[dx,List.map_inj_right]
theorem Pn{m:cx}{w w':List Int}(h:w'∈Fi m w):I w'+1=I w/\∀x∈w',x∈w:=by
 have hd:∀i,i<I w->I (gz w i)+1=I w/\∀x∈gz w i,x∈w:=fun i hi=>by
  grind[gz]
 unfold Fi at h
 split at h
 ·unfold Gv at h
  split at h
  ·obtain⟨i,hi,rfl⟩:=IQ.1 (((Fq _).2 w').1 h)
   grind
  grind
 ·unfold Gn at h
  split at h
  ·obtain⟨i,hi,rfl⟩:=IQ.1 (((Fq _).2 w').1 h)
   grind
  grind
theorem Zr(m:cx)(w:List Int):(Fi m w).Nodup:=by
 grind[Fi,Gv,Gn,Oo,M8,Fq]
theorem AcM{m:cx}{s:Int}{ws:List (List Int)}(hl:I ws=I m.ay):∀K:Nat,K<=I ws->(fp m (dx s ws) K).Nodup:=by
 intro K
 induction K with
 |zero=>intro _;exact .nil
 |succ K ih=>
  intro hK
  obtain⟨w,hw⟩:=yk (show K<I ws by omega)
  rw[M1,K8 hw,L9]
  refine List.nodup_append.2 ⟨ih (by omega),?_,fun a ha b hb e=>?_⟩
  ·grind[Zr,iw,G4,Vw,List.getElem?_set_self]
  ·obtain⟨k,u,u',hk,hu,h1,rfl⟩:=(WC hl K (by omega) a).1 ha
   obtain⟨w',h2,rfl⟩:=IQ.1 hb
   rw[iw,G5,G4 hw] at e
   have:=I6 (fun l=>l[k]?) (Vw e).2
   have h3:=(Pn h1).1
   grind
theorem VW(l:List b9):(sortV l).Pairwise fun a b=>Ay a b<=0:=by grind[LV]
theorem AcL{m:cx}{s:Int}{ws:List (List Int)}(hl:I ws=I m.ay):ko Ay (sortV (fp m (dx s ws) (I m.ay)))/\∀v,v∈sortV (fp m (dx s ws) (I m.ay))↔∃k w w',ws[k]?=G w/\w'∈Fi m w/\v=dx s (ws.set k w'):=by
 grind[AcM,AeE,BF,VW,BL,WC]
theorem ku.set{m:cx}{s:Int}{ws:List (List Int)}(h:ku m s ws){s':Int}(hs:0<=s'/\s'<I m.aw)(k:Nat){w:List Int}(h1:I w<=12)(h2:∀x∈w,0<=x/\x<I m.ax):ku m s' (ws.set k w):=
 ⟨hs,by rw[length_set];exact h.len,fun u hu=>by
  rcases Jv hu with hu|rfl
  ·exact h.word u hu
  grind⟩
structure w7(m:cx)(r:cm):Prop where
 to:0<=r.to/\r.to<I m.aw
 chan:0<=r.chan/\r.chan<I m.ay
 letter:r.act=1->0<=r.letter/\r.letter<I m.ax
theorem Amd{m:cx}(hk:m.kind=2∨m.kind=3)(hp:I m.ay<=2){s:Int}{ws:List (List Int)}(h:ku m s ws){r:cm}(hr:w7 m r):
  ((ZS (AM m) r (dx s ws)).2=0/\∃s' ws',(ZS (AM m) r (dx s ws)).1=dx s' ws'/\ku m s' ws')∨(ZS (AM m) r (dx s ws)).2=1∨(ZS (AM m) r (dx s ws)).2=18:=by
 obtain⟨k,hrk⟩:∃k:Nat,r.chan=k:=⟨r.chan.toNat,by have:=hr.chan;omega⟩
 obtain⟨w,hw⟩:∃w,ws[k]?=G w:=⟨_,HK (by have:=hr.chan;rw[h.len];omega)⟩
 have hww:=h.word w (HQ hw)
 rw[Td hk hp h hrk hw]
 split
 ·split
  ·rename_i h1
   split
   ·omega
   ·rename_i h2
    have h2:¬(I w:Int)=12:=by grind
    refine .inl ⟨rfl,_,_,rfl,h.set hr.to k (by grind) fun x hx=>?_⟩
    rcases IV.1 hx with hx|hx
    ·grind
    ·rw[Ia.1 hx];exact hr.letter (by grind)
  ·split
   ·exact .inl ⟨rfl,_,_,rfl,h.set hr.to k (by grind) fun x hx=>hww.2 x (IY hx)⟩
   ·exact .inl ⟨rfl,_,_,rfl,h.set hr.to k hww.1 hww.2⟩
 omega
theorem Aoy{m:cx}{s:Int}{ws:List (List Int)}(h:ku m s ws){v:b9}(hv:v∈sortV (fp m (dx s ws) (I m.ay))):∃ws',v=dx s ws'/\ku m s ws':=by
 obtain⟨k,w,w',hw,h1,rfl⟩:=((AcL h.len).2 v).1 hv
 have hww:=h.word w (HQ hw)
 obtain⟨d1,d2⟩:=Pn h1
 exact⟨_,rfl,h.set h.st k (by omega) fun x hx=>hww.2 x (d2 x hx)⟩
theorem Xy{ap:Int->List b9×Int}{Q:er->Prop}(hq:∀i,∀v∈ (ap i).1,Q (i,v))(n:Nat)(i:Int):∀s∈ (DD ap n i []).1,Q s:=(AeL hq n i [] (by simp)).2
theorem AeG{m:cx}(hk:m.kind=2∨m.kind=3)(hp:I m.ay<=2)(hr:∀r∈m.av,w7 m r){c:b9}(hc:Al (AM m) c=J)(i:Int):((jl m (AM m) c i).2=0∨(jl m (AM m) c i).2=1)/\∀v∈ (jl m (AM m) c i).1,Al (AM m) v=J:=by
 grind[Vv,jl,Aoy,F5,Amd,C7]
def ez(s:Int)(ps:List (Int×Int)):b9:=.mk 0 [lf s,.mk 0 (ps.map pV)]
def BQ(l:List (Int×Int)):List (Int×Int):=l.mergeSort fun a b=>Y (Ay (pV a) (pV b)<=0)
theorem JW(l:List (Int×Int)):(BQ l).Perm l:=List.mergeSort_perm l _
theorem Wu(l:List (Int×Int)):((BQ l).map pV).Pairwise fun a b=>Ay a b<=0:=
 by grind[List.pairwise_mergeSort,EW,KZ,BQ]
theorem VV(l:List (Int×Int)):sortV (l.map pV)=(BQ l).map pV:=
 by grind[Qf,JW,Wu]
theorem Ae8(s:Int)(l:List (Int×Int)):Ew s l=ez s (BQ l):=by rw[Ew,VV];rfl
structure q0(m:cx)(s:Int)(ps:List (Int×Int)):Prop where
 st:0<=s/\s<I m.aw
 len:I ps<=12
 tok:∀p∈ps,(0<=p.1/\p.1<I m.ay)/\0<=p.2/\p.2<m.age+2
 srt:(ps.map pV).Pairwise fun a b=>Ay a b<=0
theorem VK{ks:List b9}(h:(I ks:Int)=2):∃x y,ks=[x,y]:=by
 match ks,h with
 |[x,y],_=>grind
abbrev vw(m:cx):cr:=.prod [.lab (I m.ay),.lab (m.age+2)]
theorem AfC{m:cx}{v:b9}(h:A1 (vw m) v=J):∃p:Int×Int,v=pV p/\(0<=p.1/\p.1<I m.ay)/\0<=p.2/\p.2<m.age+2:=by
 simp only[A1,HL,IJ] at h
 obtain⟨h1,h2,h3⟩:=h
 cases v with
 |mk a ks=>
  subst h1
  obtain⟨x,y,rfl⟩:=VK h2
  ·have h3:=I1.1 h3
   have h4:=I1.1 h3.2
   obtain⟨x1,x2⟩:=Hu (by simpa[A1] using h3.1)
   obtain⟨y1,y2⟩:=Hu (by simpa[A1] using h4.1)
   exact⟨(x.n,y.n),by show _=b9.mk 0 [lf x.n,lf y.n];rw[←x1, ←y1],x2,y2⟩
theorem Anr{m:cx}{p:Int×Int}(h:(0<=p.1/\p.1<I m.ay)/\0<=p.2/\p.2<m.age+2):A1 (vw m) (pV p)=J:=by
 grind[A1,WF,b9.n,b9.az,BU]
theorem R4{m:cx}:∀{ks:List b9},(ks.all fun k=>A1 (vw m) k)=J->∃ps:List (Int×Int),ks=ps.map pV/\∀p∈ps,(0<=p.1/\p.1<I m.ay)/\0<=p.2/\p.2<m.age+2
 |[],_=>⟨[],rfl,by simp⟩
 |k::ks,h=>by
  simp only[all_cons,HL] at h
  obtain⟨p,e,hp⟩:=AfC h.1
  obtain⟨ps,e2,hps⟩:=R4 h.2
  refine⟨p::ps,by grind,fun x hx=>?_⟩
  grind
theorem Qa{m:cx}{c:b9}(h:Al (Az m) c=J):∃s ps,c=ez s ps/\q0 m s ps:=by
 simp only[Al,Az,A1,HL,HU,IJ] at h
 obtain⟨_,h2,h3,h4⟩:=h
 cases c with
 |mk a ks=>
  subst h2
  obtain⟨x,y,rfl⟩:=VK h3
  ·have h4:=I1.1 h4
   obtain⟨x1,x2⟩:=Hu (by simpa[A1] using h4.1)
   have hy:=(I1.1 h4.2).1
   rw[A1] at hy
   simp only[HL,HU,IJ] at hy
   obtain⟨⟨y1,y2,y3⟩,y4⟩:=hy
   obtain⟨ps,e,hps⟩:=R4 y3
   cases y with
   |mk b vs=>
    have y1:b=0:=y1
    have y2:(I vs:Int)<=12:=y2
    have e:vs=ps.map pV:=e
    have y4:XV vs=J:=y4
    subst y1;subst e
    refine⟨x.n,ps,by rw[ez, ←x1],x2,by have hl:I (ps.map pV)=I ps:=HJ _;have y2:(I (ps.map pV):Int)<=12:=y2;omega,hps,(Qc _).1 y4⟩
theorem VL{m:cx}{s:Int}{ps:List (Int×Int)}(h:q0 m s ps):Al (Az m) (ez s ps)=J:=by
 have hz:=AaP ps
 have hl:=h.len
 have ha:((ps.map pV).all fun k=>A1 (vw m) k)=J:=IU.2 fun k hk=>by
  obtain⟨p,hp,rfl⟩:=IQ.1 hk
  exact Anr (h.tok p hp)
 have e:(ez s ps).size=1+(1+(1+b9.sizes (ps.map pV)+0)):=by rfl
 have hb:A1 (.bag (vw m)) (.mk 0 (ps.map pV))=J:=by
  rw[A1]
  simp only[HL]
  have hlm:I (ps.map pV)=I ps:=HJ _
  exact⟨⟨rfl,HM (by show(I (ps.map pV):Int)<=12;omega),ha⟩,(Qc _).2 h.srt⟩
 rw[Al,yr,IG,Az,A1]
 exact I1.2 ⟨rfl,I1.2 ⟨rfl,I1.2 ⟨by exact WF h.st,I1.2 ⟨hb,rfl⟩⟩⟩⟩
theorem AbR(ps:List (Int×Int)):Rr (.mk 0 (ps.map pV))=ps:=by
 show(ps.map pV).map _=ps
 rw[List.map_map]
 exact(List.map_congr_left fun p _=>rfl).trans (List.map_id ps)
theorem Aa9(s:Int)(ps:List (Int×Int)):(ez s ps).az.getD 0 e8=lf s:=rfl
theorem Aa8(s:Int)(ps:List (Int×Int)):(ez s ps).az.getD 1 e8=.mk 0 (ps.map pV):=rfl
theorem AaH{m:cx}(ha:0<=m.age/\m.age<=1000){s:Int}{ps:List (Int×Int)}(h:q0 m s ps):ot m (ez s ps)=ez s (BQ (fq m ps))/\q0 m s (BQ (fq m ps)):=by
 have e:ot m (ez s ps)=ez s (BQ (fq m ps)):=by rw[ot,Aa9,Aa8,AbR,Ae8];rfl
 refine⟨e,h.st,?_,fun p hp=>?_,Wu _⟩
 ·rw[(JW _).length_eq,fq,HJ];exact h.len
 ·have hp:=(JW _).mem_iff.1 hp
  obtain⟨q,hq,rfl⟩:=IQ.1 hp
  have:=h.tok q hq
  grind[ES,An]
theorem Ak5{m:cx}{s:Int}{ps:List (Int×Int)}{r:cm}:((R6 (Az m) r (ez s ps)).2=0∨(R6 (Az m) r (ez s ps)).2=1∨(R6 (Az m) r (ez s ps)).2=17)/\∀v∈ (R6 (Az m) r (ez s ps)).1,Al (Az m) v=J:=by
 grind[R6,la,PQ]
theorem ZC{m:cx}(ha:0<=m.age/\m.age<=1000){c:b9}(hc:Al (Az m) c=J)(i:Int):((T8 m (Az m) c i).2=0∨(T8 m (Az m) c i).2=1)/\∀v∈ (T8 m (Az m) c i).1,Al (Az m) v=J:=by
 grind[Qa,T8,AaH,VL,Ak5,R6,la]
theorem QF{α:Type}{c:α->α->Int}(h:jr c ln):∀(ys acc:List α),ko c acc->ko c (ys.foldl (Dg c) acc)/\∀x,x∈ys.foldl (Dg c) acc↔(x∈acc∨x∈ys)
 |[],acc,ha=>⟨ha,fun x=>by simp⟩
 |y::ys,acc,ha=>by
  obtain⟨a1,a2⟩:=Wt h y acc ha
  obtain⟨b1,b2⟩:=QF h ys (Dg c acc y) a1
  grind
theorem K9(l:List (List Int)):l.foldl (Dg AB) []=CO l:=by
 obtain⟨a1,a2⟩:=QF M8 l [] .nil
 grind[Fq,V1,M8]
theorem M9:jr Ay ln:=BF
theorem VE(l:List b9):ko Ay (Ex l)/\∀x,x∈Ex l↔x∈l:=by
 grind[Oe,M9,u9,EB,VW,BL,Ex]
theorem Ajz:∀(l:List b9) (v:b9),BZ l v=Dg Ay l v
 |[],v=>rfl
 |x::l,v=>by
  have ih:=Ajz l v
  grind[BZ,Dg,Bz]
theorem MF{l k:List b9}(h:∀x,x∈l↔x∈k):l.foldl BZ []=Ex k:=by
 have e:l.foldl BZ []=l.foldl (Dg Ay) []:=by
  congr 1
  grind[Ajz]
 obtain⟨a1,a2⟩:=QF M9 l [] .nil
 grind[VE,V1,M9]
def je(tk:Tk)(l:List (Int×Int))(k:Nat):Bool:=match l[k]? with
 |some x=>(x.1==tk.place)&&(Y (x.2>=tk.low)&&Y (x.2<=tk.high))
 |none=>false
def FT(tk:Tk)(l:List (Int×Int))(K:Nat):List (List (Int×Int)):=((List.range K).filter (je tk l)).map fun k=>l.take k++l.drop (k+1)
def TQ:List Tk->List (Int×Int)->List (List (Int×Int))
 |[],l=>[l]
 |tk::ts,l=>(FT tk l (I l)).flatMap (TQ ts)
theorem Anx{tk:Tk}{l:List (Int×Int)}{k:Nat}(h:R7 tk l k=J):je tk l k=J:=by
 grind[R7,je]
theorem SY{tk:Tk}{l:List (Int×Int)}:∀k:Nat,je tk l k=J->∃j,j<=k/\R7 tk l j=J/\l.take j++l.drop (j+1)=l.take k++l.drop (k+1)
 |k,h=>by
  cases ho:R7 tk l k with
  |true=>grind
  |false=>
   obtain⟨x,hx⟩:∃x,l[k]?=G x:=by
    grind[je]
   have h':=h
   unfold je at h'
   rw[hx] at h'
   simp only[HL] at h'
   rw[HG tk hx,h'.1,h'.2.1,h'.2.2] at ho
   simp only[IG,Bool.or_eq_false_iff] at ho
   obtain⟨h1,h2⟩:=ho
   have hk:k≠0:=fun e=>by grind
   obtain⟨j,rfl⟩:∃j,k=j+1:=⟨k-1,by omega⟩
   rw[show j+1-1=j by omega] at h2
   obtain⟨y,hy⟩:∃y,l[j]?=G y:=⟨_,HK (by grind)⟩
   rw[hy] at h2
   have e:y=x:=by
    grind
   subst e
   have hm:je tk l j=J:=by grind[je]
   obtain⟨i,hi,h3,h4⟩:=SY j hm
   grind[d8,take_add_one]
theorem Aet(tk:Tk)(l x:List (Int×Int)):x∈Xi tk l (I l)↔x∈FT tk l (I l):=by
 grind[Xi,FT,Anx,SY]
theorem TO:∀(ts:List Tk) (l x:List (Int×Int)),x∈T6 ts l↔x∈TQ ts l
 |[],l,x=>Iff.rfl
 |tk::ts,l,x=>by
  simp only[T6,TQ,List.mem_flatMap]
  constructor
  ·rintro ⟨y,h1,h2⟩;exact⟨y,(Aet tk l y).1 h1,(TO ts y x).1 h2⟩
  ·rintro ⟨y,h1,h2⟩;exact⟨y,(Aet tk l y).2 h1,(TO ts y x).2 h2⟩
theorem AlW(a b:List Int):AB a b=if (I a:Int)=I b then B4 AP a b else AP (I a) (I b):=by
 grind[AB,H6,AP,Vr,b9.n,b9.az]
theorem Zl(a b:List Int)(hl:I a=I b)(ha:I a<=1000000)(n:Nat):∀k:Nat,I a-k=n->k<=I a->
  Rn PP Ph 0 (di (B4 AP (a.drop k) (b.drop k))) bd ([zu Ph 116,.blk 0,zt Ph 15]++[]) (cz 40 [(0,cw a),(1,cw b),(5,di k)]) bd:=by
 induction n with
 |zero=>
  intro k hn hk
  rw[I3 (by omega),I3 (by omega)]
  exact zp (.f .r) (yd k (I (U vi a))/\Q (di 0)) ⟨HO (by rw[HJ];omega),rfl⟩
 |succ n ih=>
  intro k hn hk
  obtain⟨x,hx⟩:=yk (show k<I a by omega)
  obtain⟨y,hy⟩:=yk (show k<I b by omega)
  rw[d8 hx,d8 hy,B4]
  by_cases he:(x !=y)=J
  ·have hne:¬AP x y=0:=fun h=>by simp[QT.eq x y trivial trivial h] at he
   rw[Iz hne]
   exact zp (.t<|.x (vi x)<|.x (vi y)<|.t<|.x (vi x)<|.x (vi y)<|.c (di (AP x y)) .r) (ye k (I (U vi a))/\y6 k/\zy (U vi a) k (vi x)/\y6 k/\zy (U vi b) k (vi y)/\_/\y6 k/\zy (U vi a) k (vi x)/\y6 k/\zy (U vi b) k (vi y)/\_/\Q (di (AP x y))) ⟨HM (by rw[HJ];omega),by omega,Ae hx,by omega,Ae hy,he,by omega,Ae hx,by omega,Ae hy,JX x y,rfl⟩
  ·have e:x=y:=by simpa using he
   rw[I4 (by rw[e];exact QT.refl _ trivial)]
   exact zp (.t<|.x (vi x)<|.x (vi y)<|.f<|.l (qu k)) (ye k (I (U vi a))/\y6 k/\zy (U vi a) k (vi x)/\y6 k/\zy (U vi b) k (vi y)/\(x !=y)=O/\zx k/\_) ⟨HM (by rw[HJ];omega),by omega,Ae hx,by omega,Ae hy,HW he,Ac,iK (ih (k+1) (by omega) (by omega))⟩
theorem JZ(a b:List Int)(ha:I a<=1000000):F0 295 [cw a,cw b] (di (AB a b)):=by
 rw[AlW]
 by_cases h:(I a:Int)=I b
 ·rw[I4 h]
  have hlp:=Zl a b (by omega) ha _ 0 rfl (II _)
  exact zq Ph 40 (.f<|.l rq) (((I (U vi a):Int) !=(I (U vi b):Int))=O/\Q (di 0)/\_) ⟨by rw[HJ,HJ,h];exact bne_self_eq_false _,rfl,iK hlp⟩
 ·rw[Iz h]
  exact zq Ph 40 (.t<|.c (di (AP (I a) (I b))) .r) (((I (U vi a):Int) !=(I (U vi b):Int))=J/\F0 190 [di (I (U vi a):Int),di (I (U vi b):Int)] (di (AP (I a:Int) (I b:Int)))/\Q (di (AP (I a:Int) (I b:Int)))) ⟨by rw[HJ,HJ];exact bne_iff_ne.2 h,by rw[HJ,HJ];exact JX _ _,rfl⟩
theorem OE(a b:List Int)(ha:I a<=1000000):F0 296 [cw a,cw b] (db (AB a b==0)):=by
 refine zq AoN 9 (.c (di (AB a b)) .r) (F0 295 [cw a,cw b] (di (AB a b))/\Q (db (AB a b==0))) ?_
 grind[JZ]
section
variable {α : Type} {c : α -> α -> Int}
def B2(c:α->α->Int)(v:α):List α->Nat
 |[]=>0
 |x::l=>if c x v<0 then B2 c v l+1 else 0
theorem AbW(v:α):∀l:List α,B2 c v l<=I l
 |[]=>HR _
 |x::l=>by
  have:=AbW v l
  grind[B2]
theorem AbV(v:α):∀(l:List α) (k:Nat),k<B2 c v l->∃x,l[k]?=G x/\c x v<0
 |[],k,h=>by grind[B2]
 |x::l,k,h=>by
  unfold B2 at h
  split at h
  ·rename_i hx
   cases k with
   |zero=>grind
   |succ k=>exact AbV v l k (by omega)
  ·omega
theorem AbX(v:α):∀(l:List α) (x:α),l[B2 c v l]?=G x->¬c x v<0
 |[],x,h=>by grind
 |y::l,x,h=>by
  unfold B2 at h
  split at h
  ·exact AbX v l x (by grind)
  grind
theorem RX(v:α):∀l:List α,l[B2 c v l]?=none->Dg c l v=l.take (B2 c v l)++v::l.drop (B2 c v l)
 |[],_=>rfl
 |x::l,h=>by
  unfold Dg B2 at*
  by_cases h1:c x v<0
  ·rw[I4 h1] at h⊢
   rw[I4 h1,RX v l (by grind)];rfl
  grind
theorem RW(v x:α):∀l:List α,l[B2 c v l]?=G x->c x v=0->Dg c l v=l
 |[],h,_=>by grind
 |y::l,h,h0=>by
  unfold Dg B2 at*
  by_cases h1:c y v<0
  ·rw[I4 h1] at h⊢
   rw[RW v x l (by grind) h0]
  grind
theorem Ws(v x:α):∀l:List α,l[B2 c v l]?=G x->¬c x v=0->Dg c l v=l.take (B2 c v l)++v::l.drop (B2 c v l)
 |[],h,_=>by rfl
 |y::l,h,h0=>by
  unfold Dg B2 at*
  by_cases h1:c y v<0
  ·rw[I4 h1] at h⊢
   rw[I4 h1,Ws v x l (by grind) h0];rfl
  grind
end
noncomputable def P8:=yl SA
theorem Ajr(l:List (List Int)):∀x∈l.map cy,x.size=1:=by grind[V.size]
theorem AaQ(l:List (List Int))(i j:Nat):∀x∈ ((l.map cy).take j).drop i,x.size=1:=by grind[V.size]
theorem RY(l:List (List Int))(v:List Int)(k:Nat):bt (ae (W 0 (take ((k:Nat):Int).toNat (l.map cy))++[cy v]++W ((k:Nat):Int).toNat (take (I (l.map cy)) (l.map cy))))=dl ((l.take k++v::l.drop k).map cy):=by
 grind[map_take,map_drop]
theorem Ym(l:List (List Int))(v:List Int)(hl:I l<=100000)(hs:∀x∈l,I x<=1000)(hv:I v<=1000)(n:Nat):∀k:Nat,B2 AB v l-k=n->k<=B2 AB v l->
  Rn PP SA 0 (dl ((Dg AB l v).map cy)) bd ([kl P8 [1,1,0,0,0],.blk 0,kc P8 [1,1,1]]++[]) (cz 46 [(0,dl (l.map cy)),(1,cw v),(5,di k)]) bd:=by
 have hil:=AbW (c:=AB) v l
 induction n with
 |zero=>
  intro k hn hk0
  have hk:k=B2 AB v l:=by omega
  subst hk
  cases hx:l[B2 AB v l]? with
  |none=>
   have hlt:I l<=B2 AB v l:=List.getElem?_eq_none_iff.1 hx
   rw[RX v l hx]
   refine lv 46 [] (.f<|.k<|.f<|.k<|.a 1<|.w<|.c (cw v)<|.w<|.w<|.r) (Y ((↑(B2 AB v l):Int)<(I (U cy l):Int))=O/\Y ((↑(B2 AB v l):Int)<(I (U cy l):Int))=O/\(∀(x:V),x∈U cy l->V.size x=1)/\0<=(fun x=>x.snd) (yt,(↑(B2 AB v l):Int))/\(fun x=>x.snd) (yt,(↑(B2 AB v l):Int))<=(I (U cy l):Int)/\Ao (I (W 0 (take (Z ((fun x=>x.snd) (yt,(↑(B2 AB v l):Int)))) (U cy l)))) 24/\(∀(y:V),y∈W 0 (take (Z ((fun x=>x.snd) (yt,(↑(B2 AB v l):Int)))) (U cy l))->V.size y=1)/\F0 122 [cw v] (cw v)/\Q (W 0 (take (Z ((fun x=>x.snd) (yt,(↑(B2 AB v l):Int)))) (U cy l)))/\Ao (I (W 0 (take (Z ((fun x=>x.snd) (yt,(↑(B2 AB v l):Int)))) (U cy l)))+I (cy v::nV)) 24/\(∀(y:V),y∈ [cy v]->V.size y=1)/\(∀(x:V),x∈U cy l->V.size x=1)/\0<=(fun x=>x.snd) (yt,(↑(B2 AB v l):Int))/\(fun x=>x.snd) (yt,(↑(B2 AB v l):Int))<=(I (U cy l):Int)/\Q (W 0 (take (Z ((fun x=>x.snd) (yt,(↑(B2 AB v l):Int)))) (U cy l))++cy v::nV)/\Ao (I (W 0 (take (Z ((fun x=>x.snd) (yt,(↑(B2 AB v l):Int)))) (U cy l))++cy v::nV)+I (W (Z ((fun x=>x.snd) (yt,(↑(B2 AB v l):Int)))) (take (I (U cy l)) (U cy l)))) 24/\(∀(y:V),y∈W (Z ((fun x=>x.snd) (yt,(↑(B2 AB v l):Int)))) (take (I (U cy l)) (U cy l))->V.size y=1)/\bt (ae (W 0 (take (Z ((fun x=>x.snd) (yt,(↑(B2 AB v l):Int)))) (U cy l))++[cy v]++W (Z ((fun x=>x.snd) (yt,(↑(B2 AB v l):Int)))) (take (I (U cy l)) (U cy l))))=dl (U cy (take (B2 AB v l) l++v::W (B2 AB v l) l))) ?_
   have z0:(0:Int)<=(B2 AB v l:Int):=by omega
   have z1:(B2 AB v l:Int)<=(I (l.map cy):Int):=by rw[HJ];omega
   have z2:∀y∈ [cy v],y.size=1:=fun y hy=>by rw[Ia.1 hy];rfl
   repeat' first|with_reducible refine And.intro ?_ ?_
   all_goals first|exact HO (by rw[HJ];omega)|exact Ajr l|exact AaQ l _ _|exact z2|exact LM v (by omega)|exact z0|exact z1|exact II _|rfl|(simp only[HY,Jw,ID,HJ,HP,HT];omega)|exact RY l v _
  |some x=>
   have hlt:=(HN.1 hx).1
   have hc:=AbX v l x hx
   have hsz:=hs x (HQ hx)
   have z0':(0:Int)<=(B2 AB v l:Int):=by omega
   by_cases he:(AB x v==0)=J
   ·rw[RW v x l hx (by simpa using he)]
    exact lv 46 [] (.t<|.x (cy x)<|.c (di (AB x v))<|.f<|.t<|.x (cy x)<|.c (db (AB x v==0))<|.t<|.r) (Y ((↑(B2 AB v l):Int)<(I (U cy l):Int))=J/\_/\(U cy l)[Z (↑(B2 AB v l):Int)]?=G (cy x)/\_/\Y (AB x v<0)=O/\Y ((↑(B2 AB v l):Int)<(I (U cy l):Int))=J/\_/\(U cy l)[Z (↑(B2 AB v l):Int)]?=G (cy x)/\_/\_/\bt (mw l)=dl (U cy l)) ⟨HM (by rw[HJ];omega),z0',by rw[Jy,IP,hx];rfl,JZ x v (by omega),HO hc,HM (by rw[HJ];omega),z0',by rw[Jy,IP,hx];rfl,OE x v (by omega),he,rfl⟩
   ·have he2:(AB x v==0)=O:=by simpa using he
    rw[Ws v x l hx (by simpa using he)]
    refine lv 46 [] (.t<|.x (cy x)<|.c (di (AB x v))<|.f<|.t<|.x (cy x)<|.c (db (AB x v==0))<|.f<|.a 1<|.w<|.c (cw v)<|.w<|.w<|.r) (Y ((↑(B2 AB v l):Int)<(I (U cy l):Int))=J/\type_of% z0'/\(U cy l)[Z (↑(B2 AB v l):Int)]?=G (cy x)/\F0 295 [cw x,cw v] (di (AB x v))/\Y (AB x v<0)=O/\Y ((↑(B2 AB v l):Int)<(I (U cy l):Int))=J/\type_of% z0'/\(U cy l)[Z (↑(B2 AB v l):Int)]?=G (cy x)/\F0 296 [cw x,cw v] (db (AB x v==0))/\(AB x v==0)=O/\(∀(x:V),x∈U cy l->V.size x=1)/\type_of% z0'/\(fun x=>x.snd) (yt,(↑(B2 AB v l):Int))<=(I (U cy l):Int)/\Ao (I (W 0 (take (Z ((fun x=>x.snd) (yt,(↑(B2 AB v l):Int)))) (U cy l)))) 24/\(∀(y:V),y∈W 0 (take (Z ((fun x=>x.snd) (yt,(↑(B2 AB v l):Int)))) (U cy l))->V.size y=1)/\F0 122 [cw v] (cw v)/\Q (W 0 (take (Z ((fun x=>x.snd) (yt,(↑(B2 AB v l):Int)))) (U cy l)))/\Ao (I (W 0 (take (Z ((fun x=>x.snd) (yt,(↑(B2 AB v l):Int)))) (U cy l)))+I (cy v::nV)) 24/\(∀(y:V),y∈ [cy v]->V.size y=1)/\(∀(x:V),x∈U cy l->V.size x=1)/\type_of% z0'/\(fun x=>x.snd) (yt,(↑(B2 AB v l):Int))<=(I (U cy l):Int)/\Q (W 0 (take (Z ((fun x=>x.snd) (yt,(↑(B2 AB v l):Int)))) (U cy l))++cy v::nV)/\Ao (I (W 0 (take (Z ((fun x=>x.snd) (yt,(↑(B2 AB v l):Int)))) (U cy l))++cy v::nV)+I (W (Z ((fun x=>x.snd) (yt,(↑(B2 AB v l):Int)))) (take (I (U cy l)) (U cy l)))) 24/\(∀(y:V),y∈W (Z ((fun x=>x.snd) (yt,(↑(B2 AB v l):Int)))) (take (I (U cy l)) (U cy l))->V.size y=1)/\bt (ae (W 0 (take (Z ((fun x=>x.snd) (yt,(↑(B2 AB v l):Int)))) (U cy l))++[cy v]++W (Z ((fun x=>x.snd) (yt,(↑(B2 AB v l):Int)))) (take (I (U cy l)) (U cy l))))=dl (U cy (take (B2 AB v l) l++v::W (B2 AB v l) l))) ?_
    have z0:(0:Int)<=(B2 AB v l:Int):=by omega
    have z1:(B2 AB v l:Int)<=(I (l.map cy):Int):=by rw[HJ];omega
    have z2:∀y∈ [cy v],y.size=1:=fun y hy=>by rw[Ia.1 hy];rfl
    have z3:(l.map cy)[Z ((B2 AB v l:Nat):Int)]?=G (cy x):=by rw[Jy,IP,hx];rfl
    repeat' first|with_reducible refine And.intro ?_ ?_
    all_goals first|exact HM (by rw[HJ];omega)|exact z3|exact JZ x v (by omega)|exact HO hc|exact OE x v (by omega)|exact he2|exact Ajr l|exact AaQ l _ _|exact z2|exact LM v (by omega)|exact z0|exact z1|exact II _|rfl|(simp only[HY,Jw,ID,HJ,HP,HT];omega)|exact RY l v _
 |succ n ih=>
  intro k hn hk0
  obtain⟨x,hx,hc⟩:=AbV (c:=AB) v l k (by omega)
  have hlt:=(HN.1 hx).1
  have hsz:=hs x (HQ hx)
  exact lv 46 [] (.t<|.x (cy x)<|.c (di (AB x v))<|.t<|.l (qu k)) (Y ((k:Int)<(I (U cy l):Int))=J/\0<=(k:Int)/\(U cy l)[Z (k:Int)]?=G (cy x)/\_/\Y (AB x v<0)=J/\di (yu yt ((k:Int)+1))=di (↑(k+1):Int)/\_) ⟨HM (by rw[HJ];omega),by omega,by rw[Jy,IP,hx];rfl,JZ x v (by omega),HM hc,Ac,iK (ih (k+1) (by omega) (by omega))⟩
theorem OM(l:List (List Int))(v:List Int)(hl:I l<=100000)(hs:∀x∈l,I x<=1000)(hv:I v<=1000):F0 274 [dl (l.map cy),cw v] (dl ((Dg AB l v).map cy)):=by
 exact zq SA 46 (.l rq) (Q (di 0)/\_) ⟨rfl,iK (Ym l v hl hs hv _ 0 rfl (II _))⟩
theorem XI(w:List Int)(hw:I w<=12)(hx:∀x∈w,0<=x/\x<16)(n:Nat):∀k:Nat,I w-k=n->
  Rn PP S5 0 (db J) bd ([zu S5 52,.blk 0,zt S5 7]++[]) (cz 25 [(0,cw w),(3,di k)]) bd:=by
 induction n with
 |zero=>
  intro k hn
  refine zp (.f .r) (yd k (I (U vi w))/\db (Y ((I (U vi w):Int)<=12))=db J) ?_
  grind
 |succ n ih=>
  intro k hn
  obtain⟨x,hxk⟩:=yk (show k<I w by omega)
  have hb:=hx x (HQ hxk)
  exact zp (.t<|.x (vi x)<|.f<|.x (vi x)<|.f<|.l [ke 0,ch 3 (zw k)]) (ye k (I (U vi w))/\y6 k/\zy (U vi w) k (vi x)/\yd x 0/\y6 k/\zy (U vi w) k (vi x)/\y7 x 16/\zx k/\_) ⟨HM (by grind),by omega,Ae hxk,yq,by omega,Ae hxk,yq,Ac,iK (ih (k+1) (by omega))⟩
theorem O7(w:List Int)(hw:I w<=12)(hx:∀x∈w,0<=x/\x<16):F0 273 [cw w] (db J):=by
 exact zq S5 25 (.l [ke 0,ch 3 (di (0:Nat))]) (Q (di 0)/\_) ⟨rfl,iK (XI w hw hx _ 0 rfl)⟩
theorem O5(w:List Int)(hw:I w<=1000)(i:Nat)(hi:i<I w):F0 275 [cw w,di i] (cw (gz w i)):=by
 refine zq AoC 14 (.a 1<|.w<|.w .r) ((∀(x:V),x∈U vi w->V.size x=1)/\0<=(fun x=>x.snd) (gm i)/\(fun x=>x.snd) (gm i)<=(I (U vi w):Int)/\Ao (I (W 0 (take (Z ((fun x=>x.snd) (gm i))) (U vi w)))) 8/\(∀(y:V),y∈W 0 (take (Z ((fun x=>x.snd) (gm i))) (U vi w))->V.size y=1)/\(∀(x:V),x∈U vi w->V.size x=1)/\0<=(yu yt ((i:Int)+1))/\(yu yt ((i:Int)+1))<=(I (U vi w):Int)/\Q (W 0 (take (Z ((fun x=>x.snd) (gm i))) (U vi w)))/\Ao (I (W 0 (take (Z ((fun x=>x.snd) (gm i))) (U vi w)))+I (W (Z ((yu yt ((i:Int)+1)))) (take (I (U vi w)) (U vi w)))) 8/\(∀(y:V),y∈W (Z ((yu yt ((i:Int)+1)))) (take (I (U vi w)) (U vi w))->V.size y=1)/\bt (ae (W 0 (take (Z ((fun x=>x.snd) (gm i))) (U vi w))++W (Z ((yu yt ((i:Int)+1)))) (take (I (U vi w)) (U vi w))))=cw (gz w i)) ?_
 have hw1:yt.wrap ((i:Int)+1)=((i+1:Nat):Int):=by rw[An];omega
 have hv:=Qg w
 have e:bt (ae (W 0 (take (Z ((i:Nat):Int)) (w.map vi))++W (Z ((i+1:Nat):Int)) (take (I (w.map vi)) (w.map vi))))=cw (gz w i):=by
  rw[JG,take_length,Jy,Jy, ←map_take, ←map_drop, ←J5];rfl
 grind
abbrev nq(w:List Int)(k:Nat):List (List Int):=(CK w k).foldl (Dg AB) []
theorem AeQ(w:List Int)(k:Nat):nq w (k+1)=Dg AB (nq w k) (gz w k):=by grind[O6]
theorem ZG{w:List Int}(hw:I w<=12)(k:Nat):I (nq w k)<=k/\∀v∈nq w k,I v<=12:=by
 grind[K9,Mp,KA,PO,Fq]
theorem YY(w:List Int)(hw:I w<=12)(hx:∀x∈w,0<=x/\x<16)(n:Nat):∀k:Nat,I w-k=n->k<=I w->
  Rn PP SE 0 (dl ((CO (CK w (I w))).map cy)) bd ([zu SE 116,.blk 0,zt SE 15]++[]) (cz 21 [(0,cw w),(3,dl ((nq w k).map cy)),(4,di k)]) bd:=by
 induction n with
 |zero=>
  intro k hn hk
  rw[←K9,show I w=k by omega,show(CK w k).foldl (Dg AB) []=nq w k from rfl]
  have hv:=O7 w hw hx
  generalize nq w k=ws
  exact zp (.c (db J)<|.k<|.f .r) (_/\yd k (I (U vi w))/\Q (bt (mw ws))) ⟨hv,HO (by rw[HJ];omega),rfl⟩
 |succ n ih=>
  intro k hn hk
  have ih':=ih (k+1) (by omega) (by omega)
  rw[AeQ] at ih'
  obtain⟨t1,t2⟩:=ZG hw k
  have hp:=OM (nq w k) (gz w k) (by omega) (fun x hx=>by have:=t2 x hx;omega) (by have:=QM w k;omega)
  generalize nq w k=ws at ih' hp⊢
  generalize CO (CK w (I w))=out at ih'⊢
  exact zp (.c (db J)<|.k<|.t<|.c (cw (gz w k))<|.c (dl ((Dg AB ws (gz w k)).map cy))<|.l [ke 0,ch 3 (dl ((Dg AB ws (gz w k)).map cy)),ch 4 (zw k)]) (_/\ye k (I (U vi w))/\_/\_/\Q (dl (U cy (Dg AB ws (gz w k))))/\zx k/\_) ⟨O7 w hw hx,HM (by rw[HJ];omega),O5 w (by omega) k (by omega),hp,rfl,Ac,iK ih'⟩
theorem YX(w:List Int)(hw:I w<=12)(hx:∀x∈w,0<=x/\x<16):F0 233 [cw w] (dl ((CO (CK w (I w))).map cy)):=by
 have h:=YY w hw hx _ 0 rfl (II _)
 generalize CO (CK w (I w))=out at h⊢
 exact zq SE 21 (.h (.q 2 0)<|.h (.ct 3 (dl []) bd)<|.l [ke 0,ke 3,ch 4 (di (0:Nat))]) ((∀(e:List D),e[3]?=G (dn)->∀(E:c9) (g:Gh) (a:Act) (w:x5),FI E g bd e a w->∃g',FI E g' bd (List.set e 3 (dl [])) a w)/\Q (di 0)/\_) ⟨fun e he=>va e he,rfl,iK h⟩
theorem XH(rk w:List Int)(hr:Df rk=J)(hw:I w<=12)(_:I rk<=1000)(hx:∀x∈w,0<=x/\x<I rk)(n:Nat):∀k:Nat,I w-k=n->
  Rn PP S4 0 (db J) bd ([zu S4 52,.blk 0,zt S4 7]++[]) (cz 33 [(0,cw rk),(1,cw w),(5,di k)]) bd:=by
 induction n with
 |zero=>
  intro k hn
  refine zp (.f<|.c (db J) .r) (yd k (I (U vi w))/\F0 230 [cw rk] (db J)/\db (Y ((I (U vi w):Int)<=12))=db J) ?_
  grind[OG]
 |succ n ih=>
  intro k hn
  obtain⟨x,hxk⟩:=yk (show k<I w by omega)
  have hb:=hx x (HQ hxk)
  exact zp (.t<|.x (vi x)<|.f<|.x (vi x)<|.f<|.l (qu k)) (ye k (I (U vi w))/\y6 k/\zy (U vi w) k (vi x)/\yd x 0/\y6 k/\zy (U vi w) k (vi x)/\y7 x (I (U vi rk))/\zx k/\_) ⟨HM (by grind),by omega,Ae hxk,yq,by omega,Ae hxk,HO (by grind),Ac,iK (ih (k+1) (by omega))⟩
theorem XG(rk w:List Int)(hr:Df rk=J)(hw:I w<=12)(hrl:I rk<=1000)(hx:∀x∈w,0<=x/\x<I rk):F0 276 [cw rk,cw w] (db J):=by
 exact zq S4 33 (.l rq) (Q (di 0)/\_) ⟨rfl,iK (XH rk w hr hw hrl hx _ 0 rfl)⟩
noncomputable def Mg:=yl Pg
abbrev H9(rk w:List Int)(k:Nat):List (List Int):=(C3 rk w k).foldl (Dg AB) []
theorem AeR{rk w:List Int}{k:Nat}(h:pc rk w k=J):H9 rk w (k+1)=Dg AB (H9 rk w k) (gz w k):=by rw[H9,Nr h,List.foldl_append];rfl
theorem Aje{rk w:List Int}{k:Nat}(h:pc rk w k=O):H9 rk w (k+1)=H9 rk w k:=by grind[Qt]
theorem V3{rk w:List Int}(hw:I w<=12)(k:Nat):I (H9 rk w k)<=k/\∀v∈H9 rk w k,I v<=12:=by
 grind[K9,Mp,Ns,Qu,Fq]
theorem YW(rk w:List Int)(hr:Df rk=J)(hw:I w<=12)(hrl:I rk<=1000)(hx:∀x∈w,0<=x/\x<I rk)(n:Nat):∀k:Nat,I w-1-k=n->k<=I w-1->
  Rn PP Pg 0 (dl ((CO (C3 rk w (I w-1))).map cy)) bd ([kl Mg [1,1,0,1,0,0],.blk 0,kc Mg [1,1,1]]++[]) (cz 41 [(0,cw rk),(1,cw w),(5,dl ((H9 rk w k).map cy)),(6,di k)]) bd:=by
 have hv:=XG rk w hr hw hrl hx
 induction n with
 |zero=>
  intro k hn hk
  rw[←K9,show I w-1=k by omega,show(C3 rk w k).foldl (Dg AB) []=H9 rk w k from rfl]
  generalize H9 rk w k=ws
  exact lv 41 [] (.c (db J)<|.k<|.f .r) (_/\Y (yu yt ((k:Int)+1)<(I (U vi w):Int))=O/\Q (bt (mw ws))) ⟨hv,HO (by rw[HJ,PM k (by omega)];omega),rfl⟩
 |succ n ih=>
  intro k hn hk
  have ih':=ih (k+1) (by omega) (by omega)
  obtain⟨x,hx1⟩:=yk (show k<I w by omega)
  obtain⟨y,hy1⟩:=yk (show k+1<I w by omega)
  have bx:=hx x (HQ hx1)
  have bY:=hx y (HQ hy1)
  obtain⟨rx,hrx⟩:=yk (show x.toNat<I rk by omega)
  obtain⟨ry,hry⟩:=yk (show y.toNat<I rk by omega)
  have hpc:=Ald hx1 hy1 hrx hry
  obtain⟨t1,t2⟩:=V3 (rk:=rk) hw k
  by_cases hc:Y (rx<=ry)=J
  ·rw[AeR (hpc.trans hc)] at ih'
   have hp:=OM (H9 rk w k) (gz w k) (by omega) (fun x hx=>by have:=t2 x hx;omega) (by have:=QM w k;omega)
   generalize H9 rk w k=ws at ih' hp⊢
   generalize CO (C3 rk w (I w-1))=out at ih'⊢
   refine lv 41 [] (.c (db J)<|.k<|.t<|.x (vi x)<|.x (vi rx)<|.x (vi y)<|.x (vi ry)<|.t<|.c (cw (gz w k))<|.c (dl ((Dg AB ws (gz w k)).map cy))<|.l [ke 0,ke 1,ch 5 (dl ((Dg AB ws (gz w k)).map cy)),ch 6 (di (k+1:Nat))]) (type_of% hv/\Y (yu yt ((k:Int)+1)<(I (U vi w):Int))=J/\0<=(k:Int)/\(U vi w)[Z (k:Int)]?=G (vi x)/\0<=x/\(U vi rk)[Z x]?=G (vi rx)/\0<=yu yt ((k:Int)+1)/\(U vi w)[Z (yu yt ((k:Int)+1))]?=G (vi y)/\0<=y/\(U vi rk)[Z y]?=G (vi ry)/\Y (rx<=ry)=J/\F0 275 [cw w,di (k:Int)] (cw (gz w k))/\type_of% hp/\Q (dl (U cy (Dg AB ws (gz w k))))/\di (yu yt ((k:Int)+1))=di (↑(k+1):Int)/\It (type_of% ih')) ?_
   rw[PM k (by omega)]
   exact⟨hv,HM (by rw[HJ];omega),by omega,Ae hx1,bx.1,DU bx.1 hrx,by omega,Ae hy1,bY.1,DU bY.1 hry,hc,O5 w (by omega) k (by omega),hp,rfl,rfl,⟨ih'⟩⟩
  ·rw[Aje (hpc.trans (HW hc))] at ih'
   generalize H9 rk w k=ws at ih'⊢
   generalize CO (C3 rk w (I w-1))=out at ih'⊢
   refine lv 41 [] (.c (db J)<|.k<|.t<|.x (vi x)<|.x (vi rx)<|.x (vi y)<|.x (vi ry)<|.f<|.l (qt k)) (type_of% hv/\Y (yu yt ((k:Int)+1)<(I (U vi w):Int))=J/\0<=(k:Int)/\(U vi w)[Z (k:Int)]?=G (vi x)/\0<=x/\(U vi rk)[Z x]?=G (vi rx)/\0<=yu yt ((k:Int)+1)/\(U vi w)[Z (yu yt ((k:Int)+1))]?=G (vi y)/\0<=y/\(U vi rk)[Z y]?=G (vi ry)/\Y (rx<=ry)=O/\di (yu yt ((k:Int)+1))=di (↑(k+1):Int)/\It (type_of% ih')) ?_
   rw[PM k (by omega)]
   exact⟨hv,HM (by rw[HJ];omega),by omega,Ae hx1,bx.1,DU bx.1 hrx,by omega,Ae hy1,bY.1,DU bY.1 hry,HW hc,rfl,⟨ih'⟩⟩
theorem YV(rk w:List Int)(hr:Df rk=J)(hw:I w<=12)(hrl:I rk<=1000)(hx:∀x∈w,0<=x/\x<I rk):F0 234 [cw rk,cw w] (dl ((CO (C3 rk w (I w-1))).map cy)):=by
 have h:=YW rk w hr hw hrl hx _ 0 rfl (II _)
 generalize CO (C3 rk w (I w-1))=out at h⊢
 exact zq Pg 41 (.h (.q 2 0)<|.h (.ct 5 (dl []) bd)<|.l [ke 0,ke 1,ke 5,ch 6 (di (0:Nat))]) ((∀(e:List D),e[5]?=G (dn)->∀(E:c9) (g:Gh) (a:Act) (w:x5),FI E g bd e a w->∃g',FI E g' bd (List.set e 5 (dl [])) a w)/\Q (di 0)/\_) ⟨fun e he=>va e he,rfl,iK h⟩
theorem Y9(v:b9)(hl:I v.az<=1000)(n:Nat):∀k:Nat,I v.az-k=n->
  Rn PP SC 0 (.acc 1 ((AY v).map vi)) ⟨[],[(1,1,(AY v).map vi)]⟩ ([zu SC 116,.blk 0,zt SC 15]++[]) (cz 22 [(1,.v (.ref (Ad v))),(3,.acc 1 (((AY v).take k).map vi)),(4,di k)]) ⟨[],[(1,1,((AY v).take k).map vi)]⟩:=by
 have hnl:I (AY v)=I v.az:=HJ _
 induction n with
 |zero=>
  intro k hn
  refine zo [1] (.f .r) (yd k (I (map eV v.az))/\[(1,1,map vi (take k (AY v)))]=[(1,1,map vi (AY v))]/\br 1 (map vi (take k (AY v)))=br 1 (map vi (AY v))) ?_
  grind[List.take_of_length_le]
 |succ n ih=>
  intro k hn
  obtain⟨x,hx⟩:∃x,v.az[k]?=G x:=⟨_,HK (show k<I v.az by omega)⟩
  have ht:((AY v).take (k+1)).map vi=((AY v).take k).map vi++[vi x.n]:=by grind[take_add_one]
  have ih':=ih (k+1) (by omega)
  rw[ht] at ih'
  have hz:I ((AY v).take k)<=1000:=by grind
  generalize AY v=N at ih' hz⊢
  exact zo [1] (.t<|.h (.xs (Ad x))<|.ls [ke 1,ch 3 (.acc 1 ((N.take k).map vi++[vi x.n])),ch 4 (zw k)] ⟨[],[(1,1,(N.take k).map vi++[vi x.n])]⟩) (ye k (I (map eV v.az))/\Q 2/\y6 k/\zy (map eV v.az) k (Ad x)/\Q (map vi (take k N))/\Ao (I (map vi (take k N))+I (vi x.n::nV)) 8/\Q (br 1 (map vi (take k N)++[vi x.n]))/\zx k/\Q [(1,1,map vi (take k N)++vi x.n::nV)]/\_) ⟨HM (by grind),rfl,by omega,Ap hx,rfl,⟨by grind,by grind⟩,rfl,Ac,rfl,iK ih'⟩
theorem Y8(v:b9)(hl:I v.az<=1000):F0 232 [dV v] (cw (AY v)):=by
 have h:Aa PP 232 [dV v] bd (.acc 1 ((AY v).map vi)) ⟨[],[(1,1,(AY v).map vi)]⟩:=by
  exact sv SC 22 [1] (.h (.q 2 0)<|.h (.nw 3 1 1)<|.ls [ke 1,ch 3 (.acc 1 []),ch 4 (di (0:Nat))] ⟨[],[(1,1,[])]⟩) (Q ig/\Q (di 0)/\Q [(1,1,nV)]/\_) ⟨rfl,rfl,rfl,iK (Y9 v hl _ 0 rfl)⟩
 exact HI h
noncomputable def Pz:=yl S3
theorem XA(w:List Int)(hw:I w<=1000)(n:Nat):∀k:Nat,I w-k=n->
  Rn PP S3 0 (dV (dy w)) bd ([zu S3 116,.blk 0,zt S3 15]++[]) (cz 22 [(0,cw w),(2,.ptr 0 0),(3,.ptr 1 0),(4,di k)]) (jd 0 ((w.take k).map lf)):=by
 induction n with
 |zero=>
  intro k hn
  refine zp (.f .r) (yd k (I (map vi w))/\bt (aa [vi 0,ae (map eV (map lf (take k w)))])=dV (dy w)) ?_
  rw[IB (by omega)]
  exact⟨HO (by grind),rfl⟩
 |succ n ih=>
  intro k hn
  obtain⟨x,hx⟩:=yk (show k<I w by omega)
  have ht:(w.take (k+1)).map lf=(w.take k).map lf++[lf x]:=by grind[take_add_one]
  have he:eV (lf x)=aa [vi x,ae []]:=by rfl
  refine zp (.t<|.x (vi x)<|.ls [ke 0,ke 2,ke 3,ch 4 (zw k)] (jd 0 ((w.take (k+1)).map lf))) (ye k (I (map vi w))/\y6 k/\zy (map vi w) k (vi x)/\Q (map eV (map lf (take k w)))/\Ao (I (map eV (map lf (take k w)))+I (aa (jp x)::nV)) 32/\yp/\zx k/\[G [di 0,dn],G [di 0,br 1 (map eV (map lf (take k w))++aa (jp x)::nV)]]=[G [di 0,dn],G [di 0,br 1 (map eV (map lf (take (k+1) w)))]]/\[(1,2,map eV (map lf (take k w))++aa (jp x)::nV)]=[(1,2,map eV (map lf (take (k+1) w)))]/\_) ⟨HM (by grind),by omega,Ae hx,rfl,⟨?_,?_⟩,yn,Ac,?_,?_,iK (ih (k+1) (by omega))⟩
  ·simp only[HJ,ID,HP,HT];omega
  all_goals grind
theorem X9(w:List Int)(hw:I w<=1000):F0 277 [cw w] (dV (dy w)):=by
 have:=XA w hw _ 0 rfl
 exact zq S3 22 (.h (.q 2 0)<|.h (.cl 1 1 1 2)<|.ls [ke 0,ke 2,ke 3,ch 4 (di (0:Nat))] (jd 0 [])) (Q (di 0)/\Q (jd 0 []).H/\Q [(1,2,nV)]/\It (type_of% this)) ⟨rfl,rfl,rfl,⟨this⟩⟩
section
open Nv
theorem WB{P:x7}(hm:P.follows .mixedOrders=J){C:Nat}{fn:yw}{d:D}{σ':St}(nt:Nat)(im:List Nat){ks T:List KI}{L:List (Nat×D)}{σ:St}(s:Sc)
  (h:B3 (cz nt L) fun env=>vc (CN C) C P (fun env σ1=>A7 P fn env σ1 d σ') (fun _ env σ=>Af1 P fn.results.toList d σ' env σ) nt im T 10000 (.h .n s) ks env σ):Rn P fn C d σ' (ks++T) (cz nt L) σ:=by
 rw[AX] at h
 exact PR (NA _) (fun _ _ h=>h.2) hm (fun b env σ _ h=>PU h) (by simp[cz,DA]) h
end
theorem Gw{P:x7}{o:yy}{σ:St}{t:x6}{x:x8}(ho:o.op=.buildSlice t 1 #[(0,x)])
  {e:x6} {sz by':Nat} {z:Option yz} (hs:BW P t=G (e,sz,by',z)) (hz:z.isSome=J) {d:D} (hd:d.sto=J) (hc:I (A2 d)=sz) (h1:0<sz) (h2:sz<=1000):
  Ak P o [d] σ (.gro (I σ.H) 1 sz) ⟨σ.H++[G (A2 d)],σ.own⟩:=by
 intro E g a w K Q hw hds hK
 simp only[ho,Op.operands] at hds
 obtain⟨i,hu,hi,rfl,rfl,rfl⟩:=AF hs
 obtain⟨zz,hzz⟩:=Option.isSome_iff_exists.1 hz
 obtain⟨u,eu,hr⟩:=AG.1 (by simpa using hds)
 simp only[HX,IL] at eu
 obtain⟨h5,h6,_⟩:=Go.Dv.cells_rep hd hr
 have hul:I u.cells.toList=i.size:=by grind[A3]
 have hf:=Ln i.size [u] 0 [] ((Array.range (1*i.size)).map (zz.cells[· %zz.cells.size]!)).toList (by simp) (fun v hv=>by grind) (by simp)
 simp only[nil_append,Array.toArray_toList] at hf
 have hrun:=run_buildSlice (P:=P) w t e 1 #[(0,u)] _ i zz hu hi hzz (by omega) (by omega) (by simpa using hf)
 obtain⟨g',h3,h4,h5',h6',h7⟩:=hw.newObjR (us:=u.cells.toList) (rest:=[]) (cs:=A2 d) e h5 h6
 rw[IX] at h3 h6'
 have:=hK g' _ (.slice (G ⟨w.heap.size,0,none⟩) 1 1) h3 h4 (by
  grind[Ah])
 unfold Oper.wp execOp
 simp only[ho]
 simp only[Sem.run_bind]
 have e2:(#[(0,x)].map fun(x:Nat×x8)=>match x with|(i,x)=>(i,a.eval x))= #[(0,u)]:=by grind
 rw[e2,hrun]
 exact this
abbrev gf(n:Int)(k:Nat)(L:List D)(own:List (Nat×Nat×List V)):St:=⟨[G [di 0,.v .nils],G [di n,.gro 2 k 2],G L],own⟩
abbrev xb(n:Int)(k:Nat)(L:List D)(own:List (Nat×Nat×List V)):St:=⟨[G [di n,.arr 2 0 k],G [di n,.arr 2 0 k],G L],own⟩
theorem AdU{σ:St}{p q i n sz:Nat}{cs:List D}(hp:σ.H[p]?=G (G cs))(hi:cs[i]?=G (.gro q n sz))(e:List D):Cv e σ e ⟨σ.H.set p (G (cs.set i (.arr q 0 n))),σ.own⟩:=
 F4 (σ:=σ) (q:=p) (cs:=cs) (cs':=cs.set i (.arr q 0 n)) hp (fun g us hr=>by
  obtain⟨u,hu,hru⟩:=B7 hr hi
  have:=CB hr i (d:=.arr q 0 n) (u:=u) (DS.rep .gro hru)
  grind[D4]) (fun h c hc=>by
  grind[D.one]) e
abbrev f0(x:b9):List D:=[di x.n,co x.az]
abbrev kcO(x:b9):List D:=[di x.n,.acc 1 (x.az.map eV)]
abbrev ft(x:b9):List (Nat×Nat×List V):=[(1,2,x.az.map eV)]
def gq(ts:List Nat)(L:List D):Prop:=(∀n,D.okNs n ts L=J)/\∀sel,D.rens sel id L=L
theorem gq.of{ts:List Nat}{L:List D}(h:D.pls L=J):gq ts L:=by grind[AO,AA,gq]
theorem KP{ρ τ:Nat->Nat}:∀(a b:List D),D.rens ρ τ (a++b)=D.rens ρ τ a++D.rens ρ τ b
 |[],_=>rfl
 |x::a,b=>by simp only[JM,D.rens,KP a b]
theorem KT{n:Nat}{ts:List Nat}:∀(a b:List D),D.okNs n ts (a++b)=(D.okNs n ts a&&D.okNs n ts b)
 |[],_=>by rfl
 |x::a,b=>by simp only[JM,D.okNs,KT a b,Bool.and_assoc]
theorem gq.app{ts:List Nat}{a b:List D}(h1:gq ts a)(h2:gq ts b):gq ts (a++b):=by grind[KT,KP,gq]
theorem gq.kcO(x:b9):gq [1] (kcO x):=by grind[D.okNs,D.okN,D.rens,D.ren,gq]
theorem Aoq{R:List D->St->Prop}{ks:List KI}{e e':List D}(n:Int)(m:Nat)(F:List D)(own:List (Nat×Nat×List V))(hF:gq (own.map (·.1)) F)(he:D.okNs 3 (own.map (·.1)) e'=J)(hee:e=D.rens (fun i=>if i<2 then i else i+1) id e')
  (h:A5 (CN 0) PP R ks e' (gf n m F own)) (T:Option (List D)):A5 (CN 0) PP R ks e ⟨[G [di 0,.v .nils],G [di n,.gro 3 m 2],T,G F],own⟩:=by
 refine Cq (σ:=⟨[G [di 0,.v .nils],G [di n,.gro 3 m 2],T,G F],own⟩) (e':=e') (H':=(gf n m F own).H) (m:=0) (fun _ _ h=>h.2) (fun i=>if i<2 then i else i+1) (II _) (fun i hi=>by omega) (fun i j _ _ h=>?_) (fun i cs hi=>?_) he hee h
 ·grind
 ·match i,hi with
  |0,hi=>simp at hi;subst hi;exact⟨rfl,by rfl⟩
  |1,hi=>simp at hi;subst hi;exact⟨rfl,by rfl⟩
  |2,hi=>
   simp at hi;subst hi
   exact⟨by rw[hF.2];rfl,hF.1 _⟩
  |i+3,hi=>grind
theorem Arb{R:List D->St->Prop}{ks:List KI}{e e':List D}(n:Int)(m:Nat)(F:List D)(own:List (Nat×Nat×List V))(hF:gq (own.map (·.1)) F)(he:D.okNs 3 (own.map (·.1)) e'=J)(hee:e=D.rens (fun i=>if i<2 then i else i+2) id e')
  (h:A5 (CN 0) PP R ks e' (gf n m F own)) (T U:Option (List D)):A5 (CN 0) PP R ks e ⟨[G [di 0,.v .nils],G [di n,.gro 4 m 2],T,U,G F],own⟩:=by
 refine Cq (σ:=⟨[G [di 0,.v .nils],G [di n,.gro 4 m 2],T,U,G F],own⟩) (e':=e') (H':=(gf n m F own).H) (m:=0) (fun _ _ h=>h.2) (fun i=>if i<2 then i else i+2) (II _) (fun i hi=>by omega) (fun i j _ _ h=>?_) (fun i cs hi=>?_) he hee h
 ·grind
 ·match i,hi with
  |0,hi=>simp at hi;subst hi;exact⟨rfl,by rfl⟩
  |1,hi=>simp at hi;subst hi;exact⟨rfl,by rfl⟩
  |2,hi=>
   simp at hi;subst hi
   exact⟨by rw[hF.2];rfl,hF.1 _⟩
  |i+3,hi=>grind
theorem Zc(x:b9)(hx:x.size<=1000000):Aa PP 131 [dV x] bd (.dagg (kcO x)) ⟨[],ft x⟩:=by
 have hk:∀y∈x.az,F0 131 [dV y] (dV y):=fun y hy=>DY _ y (HR _) (by have:=b9.size_mem hy;have:=x.size_eq;omega)
 have hs:=x.size_eq
 have hl:=b9.length_le x.az
 have loop (n:Nat):∀k:Nat,I x.az-k=n->Rn PP B5 0 (.dagg (kcO x)) ⟨[],ft x⟩ ([kl AD [1,1,0,1,0,0],.blk 0,kc AD [1,1,1]]++[]) (cz 27 [(1,.v (.ref (Ad x))),(2,.ptr 0 0),(3,.ptr 1 0),(4,di k)]) (jd x.n (x.az.take k)):=by
  induction n with
  |zero=>
   intro k hn
   rw[IB (by omega)]
   exact lv 27 [1] (.f<|.h (.m (.dagg (kcO x)))<|.h .ww<|.rd) (Y ((k:Int)<(I (map eV x.az):Int))=O/\2<=2/\Q (kcO x)/\2<=2/\Q [(1,2,map eV x.az)]/\Q (bj (kcO x))) ⟨HO (by rw[HJ];omega),HR _,rfl,HR _,rfl,rfl⟩
  |succ n ih=>
   intro k hn
   obtain⟨y,hy⟩:∃x',x.az[k]?=G x':=⟨_,HK (show k<I x.az by omega)⟩
   have ht:x.az.take (k+1)=x.az.take k++[y]:=by rw[J2,hy];rfl
   refine lv 27 [1] (.t<|.h (.xs (Ad y))<|.c (dV y)<|.ls [ke 1,ke 2,ke 3,ch 4 (di (k+1:Nat))] (jd x.n (x.az.take (k+1)))) (Y ((k:Int)<(I (map eV x.az):Int))=J/\Q 2/\0<=(k:Int)/\(map eV x.az)[Z (k:Int)]?=G (Ad y)/\_/\Q (map eV (take k x.az))/\Ao (I (map eV (take k x.az))+I (Ad y::nV)) 32/\yp/\di (yu yt ((k:Int)+1))=di (↑(k+1):Int)/\[G [di 0,dn],G [di x.n,br 1 (map eV (take k x.az)++Ad y::nV)]]=[G [di 0,dn],G [di x.n,br 1 (map eV (take (k+1) x.az))]]/\[(1,2,map eV (take k x.az)++Ad y::nV)]=[(1,2,map eV (take (k+1) x.az))]/\_) ⟨HM (by rw[HJ];omega),rfl,by omega,Ap hy,hk y (HQ hy),rfl,⟨?_,?_⟩,yn,Ac,?_,?_,iK (ih (k+1) (by omega))⟩
   ·simp only[HJ,ID,HP,HT];omega
   ·simp only[HJ,ID,HP,HT];omega
   ·rw[ht,C4]
   ·rw[ht,C4]
 have:=loop _ 0 rfl
 exact sv B5 27 [1] (.h .rn<|.h (.q 2 0)<|.h (.cl 1 1 1 2)<|.ls [ke 1,ke 2,ke 3,ch 4 (di (0:Nat))] (jd x.n [])) (Q (di 0)/\Q (jd x.n []).H/\Q [(1,2,nV)]/\It (type_of% this)) ⟨rfl,rfl,rfl,⟨by simpa using this⟩⟩
theorem As0{k:Nat}(hk:k<=1000)(x:V):Ao (k+1+I (x::nV)) 32:=by grind
section
variable {n : Int} {k : Nat} (hk : k <= 900) {L : List D} (hL : (I L) = (k + 1) * 2) {v : b9} {x : b9} (hx : v.az[k + 1]? = G x) {d : D} {σ' : St}
include hk hL hx
theorem ApI(hn:F0 131 [dV x] (dV x))(hl:D.pls L=J)
  (next:Rn PP B5 0 d σ' ([zu B5 116,.blk 0,zt B5 15]++[]) (cz 27 [(1,.v (.ref (Ad v))),(2,.ptr 0 0),(3,.ptr 1 0),(4,di (k+1+1:Nat))]) (gf n (k+1+1) (L++f0 x) [])):
  Rn PP B5 0 d σ' ([zu B5 116,.blk 0,zt B5 15]++[]) (cz 27 [(1,.v (.ref (Ad v))),(2,.ptr 0 0),(3,.ptr 1 0),(4,zw k)]) (gf n (k+1) L []):=by
 exact zo [1] (.t<|.h (.xs (Ad x))<|.c (dV x)<|.lo [ke 1,ke 2,ke 3,ch 4 (di (k+1+1:Nat))] ⟨[G [di 0,.v .nils],G [di n,.gro 3 (k+1+1) 2],none,G (L++f0 x)],[]⟩) (ye ↑(k+1) (I (map eV v.az))/\Q 2/\y6 ↑(k+1)/\zy (map eV v.az) ↑(k+1) (Ad x)/\_/\_/\[Ad x]≠ []/\(∀(y:V),y∈ [Ad x]->V.size y=2)/\Ao (k+1+I (Ad x::nV)) 32/\yp/\di (yu yt ((↑(k+1):Int)+1))=di (↑(k+1+1):Int)/\cp 4 [] [G [di 0,dn],G [di n,bm 3 (k+1+I (Ad x::nV)) 2],none,G (L++(da x.n x.az))]=J/\Q [G [di 0,dn],G [di n,bm 3 (k+1+1) 2],none,G (L++f0 x)]/\_) ⟨HM (by grind),rfl,by omega,Ap hx,hn,hL,by simp,fun y hy=>by rw[Ia.1 hy];rfl,As0 (by omega) _,yn,Ac,by simp[cp,D.okNs,D.okN,(gq.of hl).app (gq.of (rfl:D.pls (f0 x)=J))|>.1],rfl,iK (Aoq n (k+1+1) _ [] ((gq.of hl).app (gq.of rfl)) (by rfl) (by rfl) next none)⟩
noncomputable abbrev xe:=(Oper.mk (G 24) (Op.call (Call.mk (Callee.builtin Builtin.append) #[Operand.tmp 16,Operand.tmp 23] #[23,23])) 23 "ref.go:96" #[Edge.mk 1 Ground.data,Edge.mk 8 Ground.data,Edge.mk 7 Ground.chain] none)
noncomputable abbrev rb:=(Oper.mk (G 23) (Op.buildSlice 23 1 #[(0,Operand.tmp 22)]) 23 "ref.go:96" #[Edge.mk 7 Ground.data] none)
noncomputable abbrev Auh:=fun a₀=>[bt (bw 131 [] []),dV a₀]
theorem ApH(hn:Aa PP 131 [dV x] bd (.dagg (kcO x)) ⟨[],ft x⟩)(hl:D.pls L=J)
  (next:Rn PP B5 0 d σ' ([zu B5 116,.blk 0,zt B5 15]++[]) (cz 27 [(1,.v (.ref (Ad v))),(2,.ptr 0 0),(3,.ptr 1 0),(4,di (k+1+1:Nat))]) (gf n (k+1+1) (L++kcO x) (ft x))):
  Rn PP B5 0 d σ' ([zu B5 116,.blk 0,zt B5 15]++[]) (cz 27 [(1,.v (.ref (Ad v))),(2,.ptr 0 0),(3,.ptr 1 0),(4,zw k)]) (gf n (k+1) L []):=by
 refine zo [1] (.t<|.h (.xs (Ad x))<|.h (.oc (.dagg (kcO x)) ⟨[G [di 0,.v .nils],G [di n,.gro 2 (k+1) 2],G L],ft x⟩)<|.h (.o (.gro 3 1 2) ⟨[G [di 0,.v .nils],G [di n,.gro 2 (k+1) 2],G L,G (kcO x)],ft x⟩)<|.h (.o (.gro 4 (k+1+1) 2) ⟨[G [di 0,.v .nils],G [di n,.gro 2 (k+1) 2],none,G (kcO x),G (L++kcO x)],ft x⟩)<|.lo [ke 1,ke 2,ke 3,ch 4 (di (k+1+1:Nat))] ⟨[G [di 0,.v .nils],G [di n,.gro 4 (k+1+1) 2],none,G (kcO x),G (L++kcO x)],ft x⟩) (ye ↑(k+1) (I (map eV v.az))/\Q 2/\y6 ↑(k+1)/\zy (map eV v.az) ↑(k+1) (Ad x)/\(N0 (Auh x) (gf n (k+1) L []) (bj (kcO x)) (bi [G [di 0,dn],G [di n,bm 2 (k+1) 2],G L] (ft x)))/\Ak PP rb [bj (kcO x)] (bi [G [di 0,dn],G [di n,bm 2 (k+1) 2],G L] (ft x)) (bm 3 1 2) (bi [G [di 0,dn],G [di n,bm 2 (k+1) 2],G L,G (kcO x)] (ft x))/\Ak PP xe [bm 2 (k+1) 2,bm 3 1 2] (bi [G [di 0,dn],G [di n,bm 2 (k+1) 2],G L,G (kcO x)] (ft x)) (bm 4 (k+1+1) 2) (bi [G [di 0,dn],G [di n,bm 2 (k+1) 2],none,G (kcO x),G (L++kcO x)] (ft x))/\((Q (G [bm 2 (k+1) 2])/\Q (G [bm 2 (k+1) 2])/\True)/\True)/\di (yu yt ((↑(k+1):Int)+1))=di (↑(k+1+1):Int)/\cp 5 [1] [G [di 0,dn],G [di n,bm 4 (k+1+1) 2],none,G (kcO x),G (L++kcO x)]=J/\Q [G [di 0,dn],G [di n,bm 4 (k+1+1) 2],none,G (kcO x),G (L++kcO x)]/\Q [(1,2,map eV x.az)]/\_) ⟨HM (by grind),rfl,by omega,Ap hx,fun o c fo ho hc=>?_,?_,?_,⟨⟨rfl,rfl,trivial⟩,trivial⟩,Ac,?_,rfl,rfl,iK (Arb n (k+1+1) _ (ft x) ((gq.of hl).app (gq.kcO x)) (by rfl) (by rfl) next none (G (kcO x)))⟩
 ·have h2:=BE (σ:=gf n (k+1) L []) ho hc (fD:=.v (.fn 131 [] [])) rfl (ds:=[dV x]) [] id hn (.cons (.ren (dc:=dV x) rfl) .nil) .nil (by simp) rfl (by simp) (by simp) (by rfl) (by rfl)
  grind[Dn,CG,E5,D.ren,D.rens]
 ·exact Gw rfl l6 rfl rfl rfl (by decide) (by decide)
 ·exact L8 rfl l6 rfl (by decide) (q:=2) (q2:=3) (cs:=L) (cs2:=kcO x) rfl hL rfl rfl (by decide) (by omega) (by omega)
 ·have:=((gq.of hl).app (gq.kcO x)).1 5
  grind[cp,D.okNs,D.okN]
theorem ApG(X:List V)(hn:F0 131 [dV x] (dV x))(hl:gq [1] L)
  (next:Rn PP B5 0 d σ' ([zu B5 116,.blk 0,zt B5 15]++[]) (cz 27 [(1,.v (.ref (Ad v))),(2,.ptr 0 0),(3,.ptr 1 0),(4,di (k+1+1:Nat))]) (gf n (k+1+1) (L++f0 x) [(1,2,X)])):
  Rn PP B5 0 d σ' ([zu B5 116,.blk 0,zt B5 15]++[]) (cz 27 [(1,.v (.ref (Ad v))),(2,.ptr 0 0),(3,.ptr 1 0),(4,zw k)]) (gf n (k+1) L [(1,2,X)]):=by
 exact zo [1] (.t<|.h (.xs (Ad x))<|.c (dV x)<|.lo [ke 1,ke 2,ke 3,ch 4 (di (k+1+1:Nat))] ⟨[G [di 0,.v .nils],G [di n,.gro 3 (k+1+1) 2],none,G (L++f0 x)],[(1,2,X)]⟩) (ye ↑(k+1) (I (map eV v.az))/\Q 2/\y6 ↑(k+1)/\zy (map eV v.az) ↑(k+1) (Ad x)/\_/\_/\[Ad x]≠ []/\(∀(y:V),y∈ [Ad x]->V.size y=2)/\Ao (k+1+I (Ad x::nV)) 32/\yp/\di (yu yt ((↑(k+1):Int)+1))=di (↑(k+1+1):Int)/\cp 4 [1] [G [di 0,dn],G [di n,bm 3 (k+1+I (Ad x::nV)) 2],none,G (L++(da x.n x.az))]=J/\Q [G [di 0,dn],G [di n,bm 3 (k+1+1) 2],none,G (L++f0 x)]/\Q [(1,2,X)]/\_) ⟨HM (by grind),rfl,by omega,Ap hx,hn,hL,by simp,fun y hy=>by rw[Ia.1 hy];rfl,As0 (by omega) _,yn,Ac,by simp[cp,D.okNs,D.okN,hl.app (gq.of (rfl:D.pls (f0 x)=J))|>.1],rfl,rfl,iK (Aoq n (k+1+1) _ [(1,2,X)] (hl.app (gq.of rfl)) (by rfl) (by rfl) next none)⟩
end
def kh(j i:Nat)(x:b9):List D:=if i=j then kcO x else f0 x
def kL(j:Nat)(l:List b9)(k:Nat):List D:=(List.range k).flatMap fun i=>kh j i (l.getD i e8)
def ER(j:Nat)(l:List b9)(k:Nat):List (Nat×Nat×List V):=if j<k then ft (l.getD j e8) else[]
theorem GK(j:Nat)(l:List b9)(k:Nat):kL j l (k+1)=kL j l k++kh j k (l.getD k e8):=by simp[kL,range_succ]
theorem WG(j:Nat)(l:List b9)(k:Nat):I (kL j l k)=k*2:=by
 induction k with
 |zero=>rfl
 |succ k ih=>
  grind[GK,kh]
theorem AcR(j:Nat)(l:List b9)(k:Nat)(h:k<=j):D.pls (kL j l k)=J:=by
 induction k with
 |zero=>rfl
 |succ k ih=>
  rw[GK,D8,ih (by omega),kh,Iz (by omega)];rfl
theorem AcS(j:Nat)(l:List b9)(k:Nat):gq [1] (kL j l k):=by
 induction k with
 |zero=>exact⟨fun _=>rfl,fun _=>rfl⟩
 |succ k ih=>
  rw[GK]
  refine ih.app ?_
  unfold kh
  split
  ·exact gq.kcO _
  ·exact gq.of rfl
theorem em{l:List b9}{k:Nat}{x:b9}(h:l[k]?=G x):l.getD k e8=x:=by grind
theorem Aee(j:Nat)(v:b9)(hv:v.size<=900)(n:Nat):∀k:Nat,I v.az- (k+1)=n->k<I v.az->
  Rn PP B5 0 (.dagg [di v.n,.arr 2 0 (I v.az)]) (xb v.n (I v.az) (kL j v.az (I v.az)) (ER j v.az (I v.az))) ([kl AD [1,1,0,1,0,0],.blk 0,kc AD [1,1,1]]++[]) (cz 27 [(1,.v (.ref (Ad v))),(2,.ptr 0 0),(3,.ptr 1 0),(4,di (k+1:Nat))]) (gf v.n (k+1) (kL j v.az (k+1)) (ER j v.az (k+1))):=by
 have hs:=v.size_eq
 have hl:=b9.length_le v.az
 have hcp:∀x∈v.az,F0 131 [dV x] (dV x):=fun x hx=>DY _ x (HR _) (by have:=b9.size_mem hx;omega)
 induction n with
 |zero=>
  intro k hn hk0
  have e:k+1=I v.az:=by omega
  rw[e]
  have hlt:¬((I v.az:Nat):Int)<(I (v.az.map eV):Int):=by grind
  have hp1:=AcS j v.az (I v.az)
  have hp2:=AcR j v.az (I v.az)
  have e1:∀(τ:List (Nat×Nat×List V)) (e:List D),Cv e (gf v.n (I v.az) (kL j v.az (I v.az)) τ) e ⟨[G [di 0,.v .nils],G [di v.n,.arr 2 0 (I v.az)],G (kL j v.az (I v.az))],τ⟩:=fun τ e=>AdU (σ:=gf v.n (I v.az) (kL j v.az (I v.az)) τ) (p:=1) (q:=2) (i:=1) (n:=I v.az) (sz:=2) (cs:=[di v.n,.gro 2 (I v.az) 2]) rfl rfl e
  by_cases hj:j<I v.az
  ·have eo:ER j v.az (I v.az)=ft (v.az.getD j e8):=by grind[ER]
   rw[eo]
   generalize kL j v.az (I v.az)=L at hp1 e1⊢
   generalize v.az.getD j e8=y at e1⊢
   refine WB mixed 27 [1] (.f<|.h (.q 6 0)<|.h (.cs ⟨[G [di 0,.v .nils],G [di v.n,.arr 2 0 (I v.az)],G L],ft y⟩)<|.h (.m (.dagg [di v.n,.arr 2 0 (I v.az)]))<|.h .ww<|.r) ?_
   refine fu (by kernel_rfl:(Y ((I v.az:Int)<(I (map eV v.az):Int))=O/\(∀(e:List D) (E:c9) (g:Gh) (a:Act) (w:x5),FI E g (bi [G [di 0,dn],G [di v.n,bm 2 (I v.az) 2],G L] [(1,2,map eV y.az)]) e a w->∃g',FI E g' (bi [G [di 0,dn],G [di v.n,bo 2 0 (I v.az)],G L] (ft y)) e a w)/\2<=2/\Q [di v.n,bo 2 0 (I v.az)]/\2<=2/\cp 3 [1] [G [di v.n,bo 2 0 (I v.az)],G [di v.n,bo 2 0 (I v.az)],G L]=J/\Q [G [di v.n,bo 2 0 (I v.az)],G [di v.n,bo 2 0 (I v.az)],G L]/\Q [(1,2,map eV y.az)]/\Q (bj [di v.n,bo 2 0 (I v.az)]))=_) ?_
   exact⟨HO hlt,e1 (ft y),HR _,rfl,HR _,by simp[cp,D.okNs,D.okN,hp1.1],rfl,rfl,rfl⟩
  ·have eo:ER j v.az (I v.az)=[]:=by grind[ER]
   have hp:=AO (n:=3) (ts:=[]) (hp2 (by omega))
   rw[eo]
   generalize kL j v.az (I v.az)=L at hp e1⊢
   refine WB mixed 27 [1] (.f<|.h (.q 6 0)<|.h (.cs ⟨[G [di 0,.v .nils],G [di v.n,.arr 2 0 (I v.az)],G L],[]⟩)<|.h (.m (.dagg [di v.n,.arr 2 0 (I v.az)]))<|.h .ww<|.r) ?_
   refine fu (by kernel_rfl:(Y ((I v.az:Int)<(I (map eV v.az):Int))=O/\(∀(e:List D) (E:c9) (g:Gh) (a:Act) (w:x5),FI E g (bi [G [di 0,dn],G [di v.n,bm 2 (I v.az) 2],G L] []) e a w->∃g',FI E g' (bi [G [di 0,dn],G [di v.n,bo 2 0 (I v.az)],G L] []) e a w)/\2<=2/\Q [di v.n,bo 2 0 (I v.az)]/\2<=2/\cp 3 [] [G [di v.n,bo 2 0 (I v.az)],G [di v.n,bo 2 0 (I v.az)],G L]=J/\Q [G [di v.n,bo 2 0 (I v.az)],G [di v.n,bo 2 0 (I v.az)],G L]/\Q (bj [di v.n,bo 2 0 (I v.az)]))=_) ?_
   exact⟨HO hlt,e1 [],HR _,rfl,HR _,by grind[cp,D.okNs,D.okN],rfl,rfl⟩
 |succ n ih=>
  intro k hn hk0
  obtain⟨x,hx⟩:∃x,v.az[k+1]?=G x:=⟨_,HK (show k+1<I v.az by omega)⟩
  have hc:=hcp x (HQ hx)
  have hih:=ih (k+1) (by omega) (by omega)
  have hlen:=WG j v.az (k+1)
  have hxs:=b9.size_mem (HQ hx)
  rw[GK j v.az (k+1),em hx] at hih
  by_cases h1:j<k+1
  ·have e1:∀m,k+1<=m->ER j v.az m=ft (v.az.getD j e8):=fun m hm=>by grind[ER]
   rw[e1 _ (HR _)]
   rw[e1 _ (by omega:k+1<=k+1+1),kh,Iz (by omega)] at hih
   exact ApG (by omega) hlen hx _ hc (AcS j v.az (k+1)) hih
  ·have e1:ER j v.az (k+1)=[]:=by grind[ER]
   have hp:=AcR j v.az (k+1) (by omega)
   rw[e1]
   by_cases h2:k+1=j
   ·rw[kh,I4 h2,show ER j v.az (k+1+1)=ft x by grind[ER,em]] at hih
    exact ApH (by omega) hlen hx (Zc x (by omega)) hp hih
   ·rw[kh,Iz h2,show ER j v.az (k+1+1)=[] by rw[ER,Iz (by omega)]] at hih
    exact ApI (by omega) hlen hx hc hp hih
noncomputable abbrev Awj:=fun a₀=>(cz 27 [(1,bt (bz (Ad a₀))),(2,bq 0 0),(3,bq 1 0),(4,di (↑1:Int))])
theorem SR(j:Nat)(hj:1<=j)(v:b9)(hn:v.az≠ [])(hv:v.size<=900):Aa PP 131 [dV v] bd (.dagg [di v.n,.arr 2 0 (I v.az)]) (xb v.n (I v.az) (kL j v.az (I v.az)) (ER j v.az (I v.az))):=by
 have hs:=v.size_eq
 have hpos:=length_pos_iff.2 hn
 obtain⟨x,hx⟩:∃x,v.az[0]?=G x:=⟨_,HK hpos⟩
 have hc:=DY _ x (HR _) (by have:=b9.size_mem (HQ hx);omega)
 have hlp:=Aee j v hv _ 0 rfl hpos
 rw[GK j v.az 0,em hx,show kL j v.az 0=[] from rfl,nil_append,kh,Iz (by omega),show ER j v.az (0+1)=[] by grind[ER]] at hlp
 have h0:(v.az.map eV)[Z 0]?=G (Ad x):=Ap (i:=0) hx
 have hlt:(0:Int)<(I (v.az.map eV):Int):=by grind
 generalize xb v.n (I v.az) (kL j v.az (I v.az)) (ER j v.az (I v.az))=out at hlp⊢
 generalize bj [di v.n,.arr 2 0 (I v.az)]=od at hlp⊢
 refine Qe mixed B5 AD (by rfl) (by rfl) (by rfl) (by rfl) 27 (by rfl) [1] (.h .rn<|.n<|.t<|.h (.xs (Ad x))<|.c (dV x)<|.h (.p (.v (.list [Ad x])))<|.h .g<|.lo [ke 1,ke 2,ke 3,ch 4 (di (1:Nat))] (gf v.n 1 (f0 x) [])) ?_
 refine fu (by kernel_rfl:(Y (0<(I (map eV v.az):Int))=J/\Q 2/\iz 0<=0/\(map eV v.az)[Z 0]?=G (Ad x)/\Axv x/\(∀(τ:St),Ak PP rb [dV x] τ (bt (ae [Ad x])) τ)/\[Ad x]≠ []/\(∀(y:V),y∈ [Ad x]->V.size y=2)/\Ao 1 32/\yp/\di (yu yt (0+1))=di (↑1:Int)/\cp 3 [] [G [di 0,dn],G [di v.n,bm 2 1 2],G (da x.n x.az)]=J/\[G [di 0,dn],G [di v.n,bm 2 1 2],G (da x.n x.az)]=[G [di 0,dn],G [di v.n,bm 2 1 2],G (f0 x)]/\I0 B5 (I bd.H) od out uw (Awj v) (gf v.n 1 (f0 x) []))=_) ?_
 exact⟨HM hlt,rfl,IA _,h0,hc,fun τ=>qo x τ rfl,by simp,fun y hy=>by rw[Ia.1 hy];rfl,⟨by decide,by decide⟩,yn,I6 di (by decide),rfl,rfl,⟨hlp⟩⟩
structure m4(m:cx):Prop where
 ok:m.ok
 kind:m.kind=2∨m.kind=3
 few:I m.av<=12/\1<=I m.ay/\m.ay.length<=2
 ax:I m.ax<=16
 au:m.kind=3->Df m.au=J/\m.au.length=I m.ax
 rule:∀r∈m.av,w7 m r
theorem OX{m:cx}(hm:m4 m):F0 231 [Af m] (di 0):=by
 have hc:=Dc m hm.ok
 rcases hm.kind with hk|hk
 ·refine sv AjL 17 [1] (.c (di 0)<|.k<|.f .r) (ut m/\(m.kind !=2)=O/\Q (di 0)) ?_
  grind
 ·refine sv AjL 17 [1] (.c (di 0)<|.k<|.t<|.f .r) (ut m/\(m.kind !=2)=J/\(m.kind !=3)=O/\Q (di 0)) ?_
  grind
theorem Acp(H:List (Option (List D)))(j:Nat)(hj:1<=j)(v:b9)(hn:v.az≠ [])(hv:v.size<=900){o:yy}{cl:Call}{fo:x8}(ho:o.op=.call cl)(hc2:cl.callee=.value fo):Ak PP o [.v (.fn 131 [] []),dV v] ⟨H,[]⟩ (.dagg [di v.n,.arr (I H+2) 0 (I v.az)]) ⟨H++[G [di v.n,.arr (I H+2) 0 (I v.az)],G [di v.n,.arr (I H+2) 0 (I v.az)],G (kL j v.az (I v.az))],ER j v.az (I v.az)⟩:=by
 have hp:=AcS j v.az (I v.az)
 have hp0:=AcR j v.az (I v.az)
 have hsp:=SR j hj v hn hv
 by_cases h1:j<I v.az
 ·have eo:ER j v.az (I v.az)=ft (v.az.getD j e8):=by grind[ER]
  rw[eo] at hsp⊢
  generalize kL j v.az (I v.az)=L at hp hsp⊢
  have h:=BE (σ:=⟨H,[]⟩) ho hc2 (fD:=.v (.fn 131 [] [])) rfl (ds:=[dV v]) [] id hsp (.cons (.ren (dc:=dV v) rfl) .nil) .nil (by simp) rfl (by simp) (by simp) (by rfl) (by simp[cp,D.okN,D.okNs,hp.1])
  simpa[Dn,CG,E5,D.ren,D.rens,d6,hp.2] using h
 ·have hp:=hp0 (by omega)
  generalize kL j v.az (I v.az)=L at hp hsp⊢
  have h:=BE (σ:=⟨H,[]⟩) ho hc2 (fD:=.v (.fn 131 [] [])) rfl (ds:=[dV v]) [] id hsp (.cons (.ren (dc:=dV v) rfl) .nil) .nil (by simp) rfl (by simp) (by simp) (by rfl) (by grind[cp,D.okN,D.okNs,AO])
  simpa[Dn,CG,E5,D.ren,D.rens,d6,AA hp] using h
theorem UU(l:List b9)(j:Nat):∀k:Nat,k<=j->k<=I l->kL j l k=Ab ((l.take k).map eV)
 |0,_,_=>rfl
 |k+1,h,hl=>by
  obtain⟨x,hx⟩:=@yk _ l k (by omega)
  rw[GK,UU l j k (by omega) (by omega),em hx,kh,Iz (by omega),J2,hx,Option.toList_some, ←EY]
theorem XD(s:Int)(ws:List (List Int))(hz:(dx s ws).size<=128)(k:Nat)(w w':List Int)(hk:ws[k]?=G w)(hw:I w'<=100):F0 235 [dV (dx s ws),di k,cw w'] (dV (dx s (ws.set k w'))):=by
 obtain⟨l,hl⟩:∃l,l=(dx s ws).az:=⟨_,rfl⟩
 have hkl:=(HN.1 hk).1
 have hll:I l=1+I ws:=by rw[hl];show(lf s::ws.map dy).length=_;grind
 have hne:(dx s ws).az≠ []:=by grind
 have hcp:∀(o:yy) (cl:Call) (fo:x8),o.op=.call cl->cl.callee=.value fo->Ak PP o [.v (.fn 131 [] []),dV (dx s ws)] ⟨[G [di 0,.v .nils]],[]⟩ (.dagg [di 0,.arr 3 0 (I l)]) ⟨[G [di 0,.v .nils],G [di 0,.arr 3 0 (I l)],G [di 0,.arr 3 0 (I l)],G (Ab (l.map eV))],[]⟩:=fun o cl fo ho hc=>by
  have h:=Acp [G [di 0,.v .nils]] (I l) (by omega) (dx s ws) hne (by omega) ho hc
  rw[←hl] at h
  rw[UU l (I l) (I l) (HR _) (HR _),take_length,show ER (I l) l (I l)=[] by grind[ER]] at h
  exact h
 obtain⟨X,hX⟩:∃X,X=l.set (1+k) (dy w'):=⟨_,rfl⟩
 have hR:dx s (ws.set k w')=.mk 0 X:=by
  grind[map_set,b9.az,dx]
 rw[hR]
 have hs0:=Rl l (1+k) (dy w') (by omega)
 rw[←hX] at hs0
 have hfl:=B1 l
 have hlb:I l<=128:=by have h1:=(dx s ws).size_eq;grind[b9.length_le]
 generalize dx s ws=c at hcp⊢
 refine sv AoD 18 [3] (.h (.oc (.dagg [di 0,.arr 3 0 (I l)]) ⟨[G [di 0,.v .nils],G [di 0,.arr 3 0 (I l)],G [di 0,.arr 3 0 (I l)],G (Ab (l.map eV))],[]⟩)<|.c (dV (dy w'))<|.h .ww<|.h (.q 3 0)<|.h (.cs ⟨[G [di 0,.v .nils],G [di 0,.arr 3 0 (I l)],G [di 0,.arr 3 0 (I l)],none,G [di 0,co X]],[]⟩) .r) (type_of% hcp/\F0 277 [cw w'] (dV (dy w'))/\0<=yu yt (1+(k:Int))/\yu yt (1+(k:Int))<(I l:Int)/\0+Z (yu yt (1+(k:Int)))*2+2<=I (Ab (U eV l))/\yp/\(∀(e:List D) (E:c9) (g:Gh) (a:Act) (w:x5),FI E g (bi [G [di 0,dn],G [di 0,bo 3 0 (I l)],G [di 0,bo 3 0 (I l)],G (take (0+Z (yu yt (1+(k:Int)))*2) (Ab (U eV l))++A2 (dV (dy w'))++W (0+Z (yu yt (1+(k:Int)))*2+2) (Ab (U eV l))),G [di 0,bo 3 0 (I l)]] []) e a w->∃g',FI E g' (bi [G [di 0,dn],G [di 0,bo 3 0 (I l)],G [di 0,bo 3 0 (I l)],none,G [di 0,co X]] []) e a w)/\Q (dV (b9.mk 0 X))) ?_
 have hw1:yt.wrap (1+(k:Int))=((1+k:Nat):Int):=by grind[An]
 rw[hw1]
 have e1:0+Z ((1+k:Nat):Int)*2=(1+k)*2:=by omega
 rw[e1]
 refine⟨hcp,X9 w' (by omega),by omega,by omega,by omega,yn,fun e=>?_,rfl⟩
 rw[show(Ab (l.map eV)).take ((1+k)*2)++A2 (dV (dy w'))++(Ab (l.map eV)).drop ((1+k)*2+2)=Ab (X.map eV) from hs0]
 exact BA (σ:=⟨[G [di 0,.v .nils],G [di 0,.arr 3 0 (I l)],G [di 0,.arr 3 0 (I l)],G (Ab (X.map eV)),G [di 0,.arr 3 0 (I l)]],[]⟩) (p:=4) (q:=3) (i:=1) (sz:=2) (cs:=[di 0,.arr 3 0 (I l)]) (xs:=X.map eV) (by decide) rfl rfl (by decide) (by grind) (D3 _) e
noncomputable def Cs:=yl Hd
def Amc(m:cx)(w:List Int):List (List Int):=if (m.kind==3)=J then CO (C3 m.au w (I w-1)) else CO (CK w (I w))
theorem Akl{w:List Int}(h1:I w<=12)(h2:∀x∈w,0<=x/\x<16):T9 w=J:=by
 grind[T9]
theorem U7{rk:List Int}(h:Df rk=J):vu rk=J:=h
theorem ApM{m:cx}(hm:m4 m){w:List Int}(h1:I w<=12)(h2:∀x∈w,0<=x/\x<I m.ax):Fi m w=Amc m w:=by
 unfold Fi Amc
 split
 ·rename_i hk
  obtain⟨r1,r2⟩:=hm.au (by grind)
  grind[Gv,qi,U7]
 ·have:=hm.ax
  grind[Gn,Akl]
theorem VY{B:Nat}:∀{l:List b9},(∀v∈l,v.size<=B)->b9.sizes l<=B*I l
 |[],_=>HR _
 |v::l,h=>by
  have h2:=VY (l:=l) fun z hz=>h z (by grind)
  grind[b9.sizes,Nat.mul_succ]
theorem Afv(l:List b9)(v:b9):Ex (l++[v])=BZ (Ex l) v:=by
 rw[←MF (l:=l++[v]) (k:=l++[v]) (fun _=>Iff.rfl), ←MF (l:=l) (k:=l) (fun _=>Iff.rfl),List.foldl_append];rfl
theorem TD{l:List b9}(h1:I l<=100)(h2:∀v∈l,v.size<=200):b9.sizes (Ex l)<=1000000:=by
 have:=VY (l:=Ex l) fun v hv=>h2 v (PQ hv)
 grind[VD]
section
variable {m : cx} (hm : m4 m) {s : Int} {ws : List (List Int)} (h : ku m s ws) (out : List b9)
include hm h
theorem tc:(dx s ws).size<=128:=by
 have:=F5 hm.kind hm.few.2.2 h
 grind[Al]
theorem Ah1(k:Nat)(w:List Int)(hw:ws[k]?=G w)(l2:Rn PP Hd 0 (dm (out,0)) bd ([kl Cs [1,1,1,1,0,1,0,0],.blk 0,kc Cs [1,1,1,1,1]]++[]) (cz 60 [(2,.v (.ref (Aq m))),(3,.v (.ref (Ad (dx s ws)))),(7,co (Ex (fp m (dx s ws) k++(Fi m w).map (iw (dx s ws) k)))),(8,di (k+1:Nat))]) bd)(n:Nat):
  ∀j:Nat,I (Fi m w)-j=n->Rn PP Hd 0 (dm (out,0)) bd ([kl Cs [1,1,1,1,0,1,0,0,1,0,0,1,1,1,1,0,0],.blk 2,.blk 1,kc Cs [1,1,1,1,0,1,0,0,1,1],kl Cs [1,1,1,1,0,1,0,0],.blk 0,kc Cs [1,1,1,1,1]]++[]) (cz 60 [(2,.v (.ref (Aq m))),(3,.v (.ref (Ad (dx s ws)))),(7,co (Ex (fp m (dx s ws) k++((Fi m w).take j).map (iw (dx s ws) k)))),(8,di k),(10,dl ((Fi m w).map cy)),(11,di j)]) bd:=by
 have hkl:=(HN.1 hw).1
 have hpl:=h.len
 have hp2:=hm.few.2.2
 have hcz:=tc hm h
 have hdl:=MA m w
 have hlf:=QA m (dx s ws) k
 have hkk:(dx s ws).az.length=1+I ws:=by show(lf s::ws.map dy).length=_;simp;omega
 induction n with
 |zero=>
  intro j hn
  rw[IB (by omega)]
  generalize Ex (fp m (dx s ws) k++(Fi m w).map (iw (dx s ws) k))=acc at l2⊢
  generalize Fi m w=D at hn⊢
  generalize dx s ws=c at l2⊢
  exact lv 60 [2,3] (.f<|.l [ke 2,ke 3,ke 7,ch 8 (di (k+1:Nat))]) (Y ((j:Int)<(I (U cy D):Int))=O/\di (yu yt ((k:Int)+1))=di (↑(k+1):Int)/\_) ⟨HO (by rw[HJ];omega),Ac,iK l2⟩
 |succ n ih=>
  intro j hn
  obtain⟨w',hw'⟩:∃w',(Fi m w)[j]?=G w':=⟨_,HK (show j<I (Fi m w) by omega)⟩
  have hmem:=HQ hw'
  have hw12:=hdl.2 w' hmem
  have ih':=ih (j+1) (by omega)
  rw[J2,hw',Option.toList_some,J5, ←Jx] at ih'
  rw[I9,Jo,Afv] at ih'
  have hs18:=XD s ws hcz k w w' hw (by omega)
  have ev:iw (dx s ws) k w'=dx s (ws.set k w'):=by rw[iw,G5,G4 hw];rfl
  have hvz:(iw (dx s ws) k w').size<=200:=Q8 hcz (by omega) hw12
  have hbd:b9.sizes (Ex (fp m (dx s ws) k++((Fi m w).take j).map (iw (dx s ws) k)))<=1000000:=TD (by rw[HY,HJ,ID];omega) fun v hv=>by
   rcases IV.1 hv with hv|hv
   ·exact Q9 hcz (by omega) hv
   ·obtain⟨u,hu,rfl⟩:=IQ.1 hv
    exact Q8 hcz (by omega) (hdl.2 u (J6 hu))
  have hpt:=Qp _ _ hbd (by omega:(iw (dx s ws) k w').size<=1000000)
  rw[←ev] at hs18
  generalize Ex (fp m (dx s ws) k++((Fi m w).take j).map (iw (dx s ws) k))=acc at ih' hpt⊢
  generalize iw (dx s ws) k w'=v at ih' hpt hs18
  generalize Fi m w=D at hn hw' ih' hdl⊢
  generalize dx s ws=c at ih' hs18⊢
  exact lv 60 [2,3] (.t<|.x (cy w')<|.c (dV v)<|.c (co (BZ acc v))<|.l [ke 2,ke 3,ch 7 (co (BZ acc v)),ke 8,ke 10,ch 11 (di (j+1:Nat))]) (Y ((j:Int)<(I (U cy D):Int))=J/\0<=(j:Int)/\(U cy D)[Z (j:Int)]?=G (cy w')/\_/\_/\Q (co (BZ acc v))/\di (yu yt ((j:Int)+1))=di (↑(j+1):Int)/\_) ⟨HM (by rw[HJ];omega),by omega,by rw[Jy,IP,hw'];rfl,hs18,hpt,rfl,Ac,iK ih'⟩
noncomputable abbrev Awy:=[zu Hd 256316,bh 2,bh 1,zt Hd 2003,kl Cs iy,bh 0,zt Hd 63]
theorem Y5(hout:out=Ex (fp m (dx s ws) (I m.ay)))(n:Nat):∀k:Nat,I m.ay-k=n->k<=I m.ay->
  Rn PP Hd 0 (dm (out,0)) bd ([zu Hd 500,.blk 0,zt Hd 63]++[]) (cz 60 [(2,.v (.ref (Aq m))),(3,.v (.ref (Ad (dx s ws)))),(7,co (Ex (fp m (dx s ws) k))),(8,di k)]) bd:=by
 have hpl:=h.len
 have hp2:=hm.few.2.2
 induction n with
 |zero=>
  intro k hn hk
  rw[hout,show I m.ay=k by omega]
  generalize Ex (fp m (dx s ws) k)=acc
  generalize dx s ws=c
  exact zo [2,3] (.f .r) (yd k (I (df m.ay))/\Q (dm (acc,0))) ⟨HO (by rw[HJ];omega),rfl⟩
 |succ n ih=>
  intro k hn hk
  obtain⟨w,hw⟩:=yk (show k<I ws by omega)
  have hww:=h.word w (HQ hw)
  have hlt:=hm.ax
  have hl2:=ih (k+1) (by omega) (by omega)
  rw[M1,K8 hw,L9] at hl2
  have hin:=Ah1 hm h out k w hw hl2 _ 0 rfl
  rw[List.take_zero,Jo,IX (fp m (dx s ws) k),ApM hm hww.1 hww.2] at hin
  have hle:=Y8 (dy w) (by show(w.map lf).length<=1000;rw[HJ];omega)
  rw[L9] at hle
  have hkid:((dx s ws).az.map eV)[Z ((1+k:Nat):Int)]?=G (Ad (dy w)):=by
   refine Ap (i:=1+k) ?_
   show(lf s::ws.map dy)[1+k]?=_
   rw[show 1+k=k+1 by omega,JN,IP,hw];rfl
  have hd2:=YX w hww.1 fun x hx=>by have:=hww.2 x hx;omega
  have hw1:yt.wrap (1+(k:Int))=((1+k:Nat):Int):=by rw[An];omega
  generalize Ex (fp m (dx s ws) k)=acc at hin⊢
  generalize dx s ws=c at hin hkid⊢
  unfold Amc at hin
  by_cases hk3:(m.kind==3)=J
  ·rw[I4 hk3] at hin
   obtain⟨r1,r2⟩:=hm.au (by simpa using hk3)
   have hd5:=YV m.au w r1 hww.1 (by omega) fun x hx=>by have:=hww.2 x hx;omega
   generalize CO (C3 m.au w (I w-1))=D at hin hd5
   generalize CO (CK w (I w))=D2 at hd2
   refine zo [2,3] (.t<|.h (.xs (Ad (dy w)))<|.c (cw w)<|.c (dl (D2.map cy))<|.t<|.c (dl (D.map cy))<|.l [ke 2,ke 3,ke 7,ke 8,ch 10 (dl (D.map cy)),ch 11 (di (0:Nat))]) (ye k (I (df m.ay))/\Q 2/\0<=yu yt (1+(k:Int))/\zy (c7 c.az) (yu yt (1+(k:Int))) (Ad (dy w))/\type_of% hle/\type_of% hd2/\(m.kind==3)=J/\type_of% hd5/\Q (dl (U cy D))/\di 0=di (↑0:Int)/\It (type_of% hin)) ?_
   rw[hw1]
   exact⟨HM (by rw[HJ];omega),rfl,by omega,hkid,hle,hd2,hk3,hd5,rfl,rfl,⟨hin⟩⟩
  ·rw[Iz hk3] at hin
   generalize CO (CK w (I w))=D at hin hd2
   refine zo [2,3] (.t<|.h (.xs (Ad (dy w)))<|.c (cw w)<|.c (dl (D.map cy))<|.f<|.l [ke 2,ke 3,ke 7,ke 8,ch 10 (dl (D.map cy)),ch 11 (di (0:Nat))]) (ye k (I (df m.ay))/\Q 2/\0<=yu yt (1+(k:Int))/\zy (c7 c.az) (yu yt (1+(k:Int))) (Ad (dy w))/\type_of% hle/\type_of% hd2/\(m.kind==3)=O/\Q (dl (U cy D))/\di 0=di (↑0:Int)/\It (type_of% hin)) ?_
   rw[hw1]
   exact⟨HM (by rw[HJ];omega),rfl,by omega,hkid,hle,hd2,HW hk3,rfl,rfl,⟨hin⟩⟩
theorem OV:F0 179 [Af m,dV (dx s ws)] (dm (sortV (fp m (dx s ws) (I m.ay)),0)):=by
 obtain⟨a1,a2⟩:=AcL h.len
 obtain⟨b1,b2⟩:=VE (fp m (dx s ws) (I m.ay))
 have e:sortV (fp m (dx s ws) (I m.ay))=Ex (fp m (dx s ws) (I m.ay)):=V1 M9 a1 b1 fun x=>by grind[BL]
 rw[e]
 have hlp:=Y5 hm h _ rfl _ 0 rfl (II _)
 rw[show Ex (fp m (dx s ws) 0)=[] by simp[fp,Ex,sortV,AT]] at hlp
 have hv:=D0 m hm.ok (dx s ws) (by grind[tc])
 rw[F5 hm.kind hm.few.2.2 h] at hv
 generalize Ex (fp m (dx s ws) (I m.ay))=out at hlp⊢
 generalize dx s ws=c at hlp hv⊢
 exact sv Hd 60 [2,3] (.c (di 0)<|.k<|.c (db J)<|.k<|.h (.q 7 0)<|.h (.ct 7 (co []) bd)<|.l [ke 2,ke 3,ke 7,ch 8 (di (0:Nat))]) (_/\_/\(∀(e:List D),e[7]?=G (dn)->∀(E:c9) (g:Gh) (a:Act) (w:x5),FI E g bd e a w->∃g',FI E g' bd (List.set e 7 (co [])) a w)/\Q (di 0)/\_) ⟨OX hm,hv,fun e he=>va e he,rfl,iK hlp⟩
end
section
variable {m : cx} (hm : m4 m) {s : Int} {ws : List (List Int)} (h : ku m s ws) {i : Nat} {r : cm} (hi : m.av[i]? = G r) {k : Nat} (hk : r.chan = k) {w : List Int} (hw : ws[k]? = G w)
include hm h hi hk hw
noncomputable abbrev Axs:=fun a₀=>F0 231 [Af a₀] (di 0)
theorem YT:F0 189 [Af m,di i,dV (dx s ws)] (.tup [db ((s==r.ai)&&((r.act !=2)||w.head?==G r.letter)),di 0]):=by
 have hir:=(HN.1 hi).1
 have hfew:=hm.few.1
 have hkd:=OX hm
 have hv:=D0 m hm.ok (dx s ws) (by have:=tc hm h;omega)
 rw[F5 hm.kind hm.few.2.2 h] at hv
 have hlen:(I (m.av.map Aj):Int)=I m.av:=by rw[HJ]
 have hkl:=(HN.1 hw).1
 have hpl:=h.len
 have hp2:=hm.few.2.2
 have h0:((dx s ws).az.map eV)[Z 0]?=G (Ad (lf s)):=Ap (i:=0) (by rfl)
 have hkid:((dx s ws).az.map eV)[Z ((1+k:Nat):Int)]?=G (Ad (dy w)):=by
  refine Ap (i:=1+k) ?_
  show(lf s::ws.map dy)[1+k]?=_
  rw[show 1+k=k+1 by omega,JN,IP,hw];rfl
 have hw1:yt.wrap (1+r.chan)=((1+k:Nat):Int):=by rw[hk,An];omega
 generalize dx s ws=c at hv h0 hkid⊢
 by_cases c1:(s==r.ai)=J
 ·have n1:(s !=r.ai)=O:=by rw[bne,c1];rfl
  rw[c1,IG]
  by_cases c2:(r.act !=2)=J
  ·rw[c2,Bool.true_or]
   refine sv WT 67 [3,5] (.c (di 0)<|.k<|.f<|.f<|.c (db J)<|.k<|.x (Aj r)<|.h (.xs (Ad (lf s)))<|.f<|.h (.xs (Ad (dy w)))<|.t .r) (Axs m/\yd i 0/\y7 i (I (U Aj m.av))/\kp m c/\y6 i/\zy (U Aj m.av) i (Aj r)/\Q 2/\iz 0<=0/\type_of% h0/\yp/\(b9.n (lf s) !=r.ai)=O/\Q 2/\0<=yu yt (1+r.chan)/\zy (c7 c.az) (yu yt (1+r.chan)) (Ad (dy w))/\(r.act !=2)=J/\yp/\Q (bl [db J,di 0])) ?_
   rw[hw1]
   exact⟨hkd,yq,HO (by rw[hlen];omega),hv,by omega,Ae hi,rfl,IA _,h0,yn,n1,rfl,by omega,hkid,c2,yn,rfl⟩
  ·rw[HW c2,Bool.false_or]
   cases w with
   |nil=>
    refine sv WT 67 [3,5] (.c (di 0)<|.k<|.f<|.f<|.c (db J)<|.k<|.x (Aj r)<|.h (.xs (Ad (lf s)))<|.f<|.h (.xs (Ad (dy [])))<|.f<|.k .r) (Axs m/\yd i 0/\y7 i (I (U Aj m.av))/\kp m c/\y6 i/\zy (U Aj m.av) i (Aj r)/\Q 2/\iz 0<=0/\type_of% h0/\yp/\(b9.n (lf s) !=r.ai)=O/\Q 2/\0<=yu yt (1+r.chan)/\zy (c7 c.az) (yu yt (1+r.chan)) (Ad (dy []))/\(r.act !=2)=O/\yp/\Q (bl [db O,di 0])) ?_
    rw[hw1]
    exact⟨hkd,yq,HO (by rw[hlen];omega),hv,by omega,Ae hi,rfl,IA _,h0,yn,n1,rfl,by omega,hkid,HW c2,yn,rfl⟩
   |cons y w=>
    refine sv WT 67 [3,5] (.c (di 0)<|.k<|.f<|.f<|.c (db J)<|.k<|.x (Aj r)<|.h (.xs (Ad (lf s)))<|.f<|.h (.xs (Ad (dy (y::w))))<|.f<|.t<|.h (.xs (Ad (lf y))) .r) (Axs m/\yd i 0/\y7 i (I (U Aj m.av))/\kp m c/\y6 i/\zy (U Aj m.av) i (Aj r)/\Q 2/\iz 0<=0/\type_of% h0/\yp/\(b9.n (lf s) !=r.ai)=O/\Q 2/\0<=yu yt (1+r.chan)/\zy (c7 c.az) (yu yt (1+r.chan)) (Ad (dy (y::w)))/\(r.act !=2)=O/\yc (I (U eV (b9.az (dy (y::w))))) 0/\Q 2/\iz 0<=0/\Q (G (Ad (lf y)))/\yo/\bl [db (b9.n (lf y)==r.letter),di 0]=bl [db (List.head? (y::w)==G r.letter),di 0]) ?_
    rw[hw1]
    exact⟨hkd,yq,HO (by rw[hlen];omega),hv,by omega,Ae hi,rfl,IA _,h0,yn,n1,rfl,by omega,hkid,HW c2,HM (by show(0:Int)<(I ((dy (y::w)).az.map eV):Int);rw[HJ];show(0:Int)<(I ((y::w).map lf):Int);rw[HJ,HP];omega),rfl,IA _,I6 G (AE (lf y)),ym,by simp only[List.head?_cons,Option.some_beq_some];rfl⟩
 ·rw[HW c1,IE]
  have n1:(s !=r.ai)=J:=by rw[bne,HW c1];rfl
  exact sv WT 67 [3,5] (.c (di 0)<|.k<|.f<|.f<|.c (db J)<|.k<|.x (Aj r)<|.h (.xs (Ad (lf s)))<|.t .r) (_/\yd i 0/\y7 i (I (U Aj m.av))/\_/\y6 i/\zy (U Aj m.av) i (Aj r)/\Q 2/\iz 0<=0/\_/\yp/\_/\Q (bl [db O,di 0])) ⟨hkd,yq,HO (by rw[hlen];omega),hv,by omega,Ae hi,rfl,IA _,h0,yn,n1,rfl⟩
end
theorem Anc(j:Nat)(l:List b9):∀k:Nat,k<=I l->(kL j l k).map (ir [] false)=Ab ((l.take k).map eV)
 |0,_=>rfl
 |k+1,h=>by
  obtain⟨x,hx⟩:=@yk _ l k (by omega)
  rw[GK,J5,Anc j l k (by omega),em hx,J2,hx,Option.toList_some, ←EY]
  congr 1
  unfold kh
  split<;>rfl
theorem Ao3{j:Nat}{l:List b9}{x:b9}(hx:l[j]?=G x):∀n:Nat,j<n->(kL j l n)[j*2+1]?=G (.acc 1 (x.az.map eV))
 |0,h=>by omega
 |n+1,h=>by
  rw[GK]
  by_cases e:j=n
  ·grind[WG,kh]
  ·rw[I5 (by grind[WG])]
   exact Ao3 hx n (by omega)
abbrev ow(r:cm)(n:Nat)(own:List (Nat×Nat×List V))(X:List b9):St:=⟨[G [di 0,.v .nils],G (rC r),G [di 0,.arr 4 0 n],G [di 0,.arr 4 0 n],none,G [di 0,co X]],own⟩
theorem M7{r:cm}{n:Nat}{own:List (Nat×Nat×List V)}{L:List D}{X:List b9}(hL:L.map (ir [] false)=Ab (X.map eV))(hX:I X=n)(e:List D):Cv e ⟨[G [di 0,.v .nils],G (rC r),G [di 0,.arr 4 0 n],G [di 0,.arr 4 0 n],G L,G [di 0,.arr 4 0 n]],own⟩ e (ow r n own X):=by
 have h1:=F4 (σ:=⟨[G [di 0,.v .nils],G (rC r),G [di 0,.arr 4 0 n],G [di 0,.arr 4 0 n],G L,G [di 0,.arr 4 0 n]],own⟩) (q:=4) (cs:=L) (cs':=Ab (X.map eV)) rfl (fun g us hr=>by
  have:=Dz (ts:=[]) (kn:=false) hr
  rwa[hL] at this) (fun _ c hc=>IU.1 (Db X) c hc) e
 refine QQ h1 ?_
 exact BA (σ:=⟨[G [di 0,.v .nils],G (rC r),G [di 0,.arr 4 0 n],G [di 0,.arr 4 0 n],G (Ab (X.map eV)),G [di 0,.arr 4 0 n]],own⟩) (p:=5) (q:=4) (i:=1) (sz:=2) (cs:=[di 0,.arr 4 0 n]) (xs:=X.map eV) (by decide) rfl rfl (by decide) (by rw[HJ,hX];rfl) (D3 _) e
theorem VX:∀(ws:List (List Int)),(∀w∈ws,I w<=13)->b9.sizes (ws.map dy)<=14*I ws
 |[],_=>HR _
 |w::ws,h=>by
  have h2:=VX ws fun z hz=>h z (by simp[hz])
  grind[VA,b9.sizes]
theorem Amb{m:cx}(hk:m.kind=2∨m.kind=3){s:Int}{ws:List (List Int)}{w:List Int}(hw:w∈ws)(hl:12<I w):Al (AM m) (dx s ws)=O:=by
 cases hv:Al (AM m) (dx s ws) with
 |false=>rfl
 |true=>
  obtain⟨s',ws',e,h⟩:=Vv hk hv
  obtain⟨_,e2⟩:=Vw e
  rw[e2] at hw
  have:=(h.word w hw).1
  omega
section
variable {m : cx} (hm : m4 m) {s : Int} {ws : List (List Int)} (h : ku m s ws) {i : Nat} {r : cm} (hi : m.av[i]? = G r) {k : Nat} (hk : r.chan = k) {w : List Int} (hw : ws[k]? = G w)
include hm h hi hk hw
theorem ZB:F0 127 [Af m,di i,dV (dx s ws)] (dP (ZS (AM m) r (dx s ws))):=by
 have hen:=YT hm h hi hk hw
 have hir:=(HN.1 hi).1
 have hfew:=hm.few.1
 have hcz:=tc hm h
 have hkl:=(HN.1 hw).1
 have hpl:=h.len
 have hp2:=hm.few.2.2
 have hw12:=(h.word w (HQ hw)).1
 rw[Td hm.kind hp2 h hk hw]
 obtain⟨l,hl⟩:∃l,l=(dx s ws).az:=⟨_,rfl⟩
 have hll:I l=1+I ws:=by rw[hl];show(lf s::ws.map dy).length=_;simp;omega
 have hne:(dx s ws).az≠ []:=by rw[←hl];intro e;rw[e] at hll;simp at hll;omega
 have hlx:l[1+k]?=G (dy w):=by
  rw[hl];show(lf s::ws.map dy)[1+k]?=_
  rw[show 1+k=k+1 by omega,JN,IP,hw];rfl
 obtain⟨L,hL⟩:∃L,L=kL (1+k) l (I l):=⟨_,rfl⟩
 have hLl:=WG (1+k) l (I l)
 have hLx:=Ao3 hlx (I l) (by omega)
 have hLw:=Anc (1+k) l (I l) (HR _)
 rw[take_length] at hLw
 rw[←hL] at hLl hLx hLw
 have hcp:∀(o:yy) (cl:Call) (fo:x8),o.op=.call cl->cl.callee=.value fo->Ak PP o [.v (.fn 131 [] []),dV (dx s ws)] ⟨[G [di 0,.v .nils],G (rC r)],[]⟩ (.dagg [di 0,.arr 4 0 (I l)]) ⟨[G [di 0,.v .nils],G (rC r),G [di 0,.arr 4 0 (I l)],G [di 0,.arr 4 0 (I l)],G L],ft (dy w)⟩:=fun o cl fo ho hc=>by
  have h:=Acp [G [di 0,.v .nils],G (rC r)] (1+k) (by omega) (dx s ws) hne (by omega) ho hc
  rw[←hl] at h
  rw[show ER (1+k) l (I l)=ft (dy w) by rw[ER,I4 (by omega),em hlx], ←hL] at h
  exact h

 have hwk:∀(D':D) (w':List Int),ir [] false D'=.v (.list ((w'.map lf).map eV))->((L.set 0 (di r.to)).set ((1+k)*2+1) D').map (ir [] false)=Ab ((dx r.to (ws.set k w')).az.map eV):=fun D' w' hD=>by
  have hcl:=ME (l:=l) (s0:=lf s) (x:=dy w) (k:=k) (by rw[hl];rfl) hlx r.to w'
  have e1:Cb l (lf s) (dy w) r.to (1+k) w'=(dx r.to (ws.set k w')).az:=by
   have:=G4 hw (s:=s) r.to w'
   rw[Lt,G5,K8 hw, ←hl] at this
   exact I6 b9.az this
  rw[map_set,map_set,hLw,hD, ←e1, ←hcl,AcO];rfl
 have hXl:∀w':List Int,(dx r.to (ws.set k w')).az.length=I l:=fun w'=>by show(lf r.to::(ws.set k w').map dy).length=_;simp;omega
 have hww:yt.wrap (1+r.chan)=((1+k:Nat):Int):=by rw[hk,An];omega
 have hr:=hm.rule r (HQ hi)
 have hval:∀w':List Int,I w'<=13->F0 85 [Af m,dV (dx r.to (ws.set k w'))] (db (Al (AM m) (dx r.to (ws.set k w')))):=fun w' hw'=>D0 m hm.ok _ (by
  have h1:=VX (ws.set k w') fun u hu=>by
   rcases Jv hu with hu|rfl
   ·have:=(h.word u hu).1;omega
   ·exact hw'
  have h2:(dx r.to (ws.set k w')).size=1+(1+b9.sizes ((ws.set k w').map dy)):=by simp only[dx,b9.size,b9.sizes]
  rw[length_set] at h1
  omega)
 have hLs:(L.set 0 (di r.to))[(1+k)*2+1]?=G (.acc 1 ((dy w).az.map eV)):=by rw[List.getElem?_set_ne (by omega)];exact hLx
 have ep:Nat.add (0+Z ((1+k:Nat):Int)*2) 1=(1+k)*2+1:=by show 0+Z ((1+k:Nat):Int)*2+1=_;omega
 have hwd:=(h.word w (HQ hw)).2
 have hlk:I ((dy w).az.map eV)=I w:=by rw[HJ];exact HJ _
 have k32:∀n:Nat,n<=2000->Ao n 32:=fun n hn=>⟨by omega,by omega⟩
 by_cases hb:((s==r.ai)&&((r.act !=2)||w.head?==G r.letter))=J
 ·rw[I4 hb]
  rw[hb] at hen
  by_cases a1:(r.act==1)=J
  ·rw[I4 a1]
   have a2:(r.act==2)=O:=by rw[show r.act=1 by simpa using a1];rfl
   obtain⟨X,hX⟩:∃X,X=(dx r.to (ws.set k (w++[r.letter]))).az:=⟨_,rfl⟩
   have hR:dx r.to (ws.set k (w++[r.letter]))=.mk 0 X:=by rw[hX];rfl
   have hv:=hval (w++[r.letter]) (by rw[HY];simp only[HP,HT];omega)
   have hk2:=hwk (.acc 1 ((dy w).az.map eV++[.agg [vi r.letter,.list []]])) (w++[r.letter]) (by
    have e:aa [vi r.letter,ae []]=eV (lf r.letter):=by rw[AE];rfl
    show bt (.list ((w.map lf).map eV++[aa [vi r.letter,ae []]]))=_
    rw[e,J5,J5];rfl)
   have hXl2:=hXl (w++[r.letter])
   rw[←hX] at hk2 hXl2
   by_cases h12:((I w:Int)==12)=J
   ·have h12':(I w:Int)=12:=by simpa using h12
    rw[I4 h12]
    rw[Amb hm.kind (w:=w++[r.letter]) (HQ (by rw[List.getElem?_set_self hkl])) (by rw[HY];simp only[HP,HT];omega),hR] at hv
    generalize dx s ws=c at hen hcp⊢
    refine sv SJ 76 [3,5] (.c (.tup [db J,di 0])<|.k<|.k<|.x (Aj r)<|.h (.oc (.dagg [di 0,.arr 4 0 (I l)]) ⟨[G [di 0,.v .nils],G (rC r),G [di 0,.arr 4 0 (I l)],G [di 0,.arr 4 0 (I l)],G L],ft (dy w)⟩)<|.h (.q 8 5)<|.w<|.h (.q 9 6)<|.m (.acc 1 ((dy w).az.map eV))<|.f<|.t<|.h (.q 14 8)<|.w<|.h (.q 15 0)<|.h (.cs (ow r (I l) [(1,2,(dy w).az.map eV++[.agg [vi r.letter,.list []]])] X))<|.c (db O)<|.k .r) (type_of% hen/\y6 i/\zy (U Aj m.av) i (Aj r)/\type_of% hcp/\iz 0<=0/\y5 0 (I l)/\0<I L/\0<=yu yt (1+r.chan)/\yu yt (1+r.chan)<(I l:Int)/\(List.set L (Nat.add (0+Z 0*2) 0) (di r.to))[Nat.add (0+Z (yu yt (1+r.chan))*2) 1]?=G (br 1 (U eV (b9.az (dy w))))/\(r.act==2)=O/\(r.act==1)=J/\Q (U eV (b9.az (dy w)))/\Ao (I (U eV (b9.az (dy w)))+I (aa (a8 yt r.letter::ae nV::nV)::nV)) 32/\0<=yu yt (1+r.chan)/\yu yt (1+r.chan)<(I l:Int)/\Nat.add (0+Z (yu yt (1+r.chan))*2) 1<I (List.set L (Nat.add (0+Z 0*2) 0) (di r.to))/\(∀(e:List D) (E:c9) (g:Gh) (a:Act) (w_1:x5),FI E g (bi [G [di 0,dn],G (rC r),G [di 0,bo 4 0 (I l)],G [di 0,bo 4 0 (I l)],G (List.set (List.set L (Nat.add (0+Z 0*2) 0) (di r.to)) (Nat.add (0+Z (yu yt (1+r.chan))*2) 1) (br 1 (U eV (b9.az (dy w))++[aa [a8 yt r.letter,ae []]]))),G [di 0,bo 4 0 (I l)]] [(1,2,U eV (b9.az (dy w))++[aa [a8 yt r.letter,ae []]])]) e a w_1->∃g',FI E g' (ow r (I l) [(1,2,U eV (b9.az (dy w))++[aa [vi r.letter,ae []]])] X) e a w_1)/\F0 85 [Af m,bt (aa [vi 0,dq X])] (db O)/\Q (dP (e8,1))) ?_
    rw[hww,ep]
    exact⟨hen,by omega,Ae hi,hcp,IA _,by omega,by omega,by omega,by omega,hLs,a2,a1,rfl,k32 _ (by simp only[HP,HT];omega),by omega,by omega,by rw[length_set];omega,fun e=>M7 hk2 hXl2 e,hv,rfl⟩
   ·rw[Iz h12]
    have h12':¬(I w:Int)=12:=by simpa using h12
    rw[F5 hm.kind hp2 (h.set hr.to k (by rw[HY];simp only[HP,HT];omega) fun x hx=>by
     rcases IV.1 hx with hx|hx
     ·exact hwd x hx
     ·rw[Ia.1 hx];exact hr.letter (by simpa using a1)),hR] at hv
    rw[hR]
    generalize dx s ws=c at hen hcp⊢
    refine sv SJ 76 [3,5] (.c (.tup [db J,di 0])<|.k<|.k<|.x (Aj r)<|.h (.oc (.dagg [di 0,.arr 4 0 (I l)]) ⟨[G [di 0,.v .nils],G (rC r),G [di 0,.arr 4 0 (I l)],G [di 0,.arr 4 0 (I l)],G L],ft (dy w)⟩)<|.h (.q 8 5)<|.w<|.h (.q 9 6)<|.m (.acc 1 ((dy w).az.map eV))<|.f<|.t<|.h (.q 14 8)<|.w<|.h (.q 15 0)<|.h (.cs (ow r (I l) [(1,2,(dy w).az.map eV++[.agg [vi r.letter,.list []]])] X))<|.c (db J)<|.k .r) (type_of% hen/\y6 i/\zy (U Aj m.av) i (Aj r)/\type_of% hcp/\iz 0<=0/\y5 0 (I l)/\0<I L/\0<=yu yt (1+r.chan)/\yu yt (1+r.chan)<(I l:Int)/\(List.set L (Nat.add (0+Z 0*2) 0) (di r.to))[Nat.add (0+Z (yu yt (1+r.chan))*2) 1]?=G (br 1 (U eV (b9.az (dy w))))/\(r.act==2)=O/\(r.act==1)=J/\Q (U eV (b9.az (dy w)))/\Ao (I (U eV (b9.az (dy w)))+I (aa (a8 yt r.letter::ae nV::nV)::nV)) 32/\0<=yu yt (1+r.chan)/\yu yt (1+r.chan)<(I l:Int)/\Nat.add (0+Z (yu yt (1+r.chan))*2) 1<I (List.set L (Nat.add (0+Z 0*2) 0) (di r.to))/\(∀(e:List D) (E:c9) (g:Gh) (a:Act) (w_1:x5),FI E g (bi [G [di 0,dn],G (rC r),G [di 0,bo 4 0 (I l)],G [di 0,bo 4 0 (I l)],G (List.set (List.set L (Nat.add (0+Z 0*2) 0) (di r.to)) (Nat.add (0+Z (yu yt (1+r.chan))*2) 1) (br 1 (U eV (b9.az (dy w))++[aa [a8 yt r.letter,ae []]]))),G [di 0,bo 4 0 (I l)]] [(1,2,U eV (b9.az (dy w))++[aa [a8 yt r.letter,ae []]])]) e a w_1->∃g',FI E g' (ow r (I l) [(1,2,U eV (b9.az (dy w))++[aa [vi r.letter,ae []]])] X) e a w_1)/\F0 85 [Af m,bt (aa [vi 0,dq X])] (db J)/\Q (dP (b9.mk 0 X,0))) ?_
    rw[hww,ep]
    exact⟨hen,by omega,Ae hi,hcp,IA _,by omega,by omega,by omega,by omega,hLs,a2,a1,rfl,k32 _ (by simp only[HP,HT];omega),by omega,by omega,by rw[length_set];omega,fun e=>M7 hk2 hXl2 e,hv,rfl⟩
  ·rw[Iz a1]
   by_cases a2:(r.act==2)=J
   ·rw[I4 a2]
    obtain⟨X,hX⟩:∃X,X=(dx r.to (ws.set k (w.drop 1))).az:=⟨_,rfl⟩
    have hR:dx r.to (ws.set k (w.drop 1))=.mk 0 X:=by rw[hX];rfl
    have hv:=hval (w.drop 1) (by rw[Jw];omega)
    rw[F5 hm.kind hp2 (h.set hr.to k (by rw[Jw];omega) fun x hx=>hwd x (IY hx)),hR] at hv
    have hk2:=hwk (.v (.list (((dy w).az.map eV).drop 1))) (w.drop 1) (by
     show bt (.list (((w.map lf).map eV).drop 1))=_
     rw[←map_drop, ←map_drop])
    have hXl2:=hXl (w.drop 1)
    rw[←hX] at hk2 hXl2
    rw[hR]
    generalize dx s ws=c at hen hcp⊢
    refine sv SJ 76 [3,5] (.c (.tup [db J,di 0])<|.k<|.k<|.x (Aj r)<|.h (.oc (.dagg [di 0,.arr 4 0 (I l)]) ⟨[G [di 0,.v .nils],G (rC r),G [di 0,.arr 4 0 (I l)],G [di 0,.arr 4 0 (I l)],G L],ft (dy w)⟩)<|.h (.q 8 5)<|.w<|.h (.q 9 6)<|.m (.acc 1 ((dy w).az.map eV))<|.t<|.f<|.h (.q 14 8)<|.w<|.h (.q 15 0)<|.h (.cs (ow r (I l) (ft (dy w)) X))<|.c (db J)<|.k .r) (type_of% hen/\y6 i/\zy (U Aj m.av) i (Aj r)/\type_of% hcp/\iz 0<=0/\y5 0 (I l)/\0<I L/\0<=yu yt (1+r.chan)/\yu yt (1+r.chan)<(I l:Int)/\(List.set L (Nat.add (0+Z 0*2) 0) (di r.to))[Nat.add (0+Z (yu yt (1+r.chan))*2) 1]?=G (br 1 (U eV (b9.az (dy w))))/\(r.act==2)=J/\(∀(x:V),x∈U eV (b9.az (dy w))->V.size x=2)/\y6 1/\(1:Int)<=(I (U eV (b9.az (dy w))):Int)/\(r.act==1)=O/\0<=yu yt (1+r.chan)/\yu yt (1+r.chan)<(I l:Int)/\Nat.add (0+Z (yu yt (1+r.chan))*2) 1<I (List.set L (Nat.add (0+Z 0*2) 0) (di r.to))/\(∀(e:List D) (E:c9) (g:Gh) (a:Act) (w_1:x5),FI E g (bi [G [di 0,dn],G (rC r),G [di 0,bo 4 0 (I l)],G [di 0,bo 4 0 (I l)],G (List.set (List.set L (Nat.add (0+Z 0*2) 0) (di r.to)) (Nat.add (0+Z (yu yt (1+r.chan))*2) 1) (bt (ae (W (Z ((1:Int))) (take (I (U eV (b9.az (dy w)))) (U eV (b9.az (dy w)))))))),G [di 0,bo 4 0 (I l)]] [(1,2,U eV (b9.az (dy w)))]) e a w_1->∃g',FI E g' (ow r (I l) (ft (dy w)) X) e a w_1)/\F0 85 [Af m,bt (aa [vi 0,dq X])] (db J)/\Q (dP (b9.mk 0 X,0))) ?_
    rw[hww,ep]
    have h1w:1<=I w:=by
     rw[show(r.act !=2)=O by rw[bne,a2];rfl,Bool.false_or] at hb
     cases w with
     |nil=>simp at hb
     |cons y w=>simp
    have ed:W (Z (1:Int)) (take (I ((dy w).az.map eV)) ((dy w).az.map eV))=((dy w).az.map eV).drop 1:=by rw[take_length];rfl
    rw[ed]
    exact⟨hen,by omega,Ae hi,hcp,IA _,by omega,by omega,by omega,by omega,hLs,a2,D3 _,by decide,by rw[hlk];omega,HW a1,by omega,by omega,by rw[length_set];omega,fun e=>M7 hk2 hXl2 e,hv,rfl⟩
   ·rw[Iz a2]
    obtain⟨X,hX⟩:∃X,X=(dx r.to (ws.set k w)).az:=⟨_,rfl⟩
    have hR:dx r.to (ws.set k w)=.mk 0 X:=by rw[hX];rfl
    have hv:=hval w (by omega)
    rw[F5 hm.kind hp2 (h.set hr.to k hw12 hwd),hR] at hv
    have hk2:=hwk (.acc 1 ((dy w).az.map eV)) w rfl
    have hXl2:=hXl w
    rw[←hX] at hk2 hXl2
    rw[hR]
    generalize dx s ws=c at hen hcp⊢
    refine sv SJ 76 [3,5] (.c (.tup [db J,di 0])<|.k<|.k<|.x (Aj r)<|.h (.oc (.dagg [di 0,.arr 4 0 (I l)]) ⟨[G [di 0,.v .nils],G (rC r),G [di 0,.arr 4 0 (I l)],G [di 0,.arr 4 0 (I l)],G L],ft (dy w)⟩)<|.h (.q 8 5)<|.w<|.h (.q 9 6)<|.m (.acc 1 ((dy w).az.map eV))<|.f<|.f<|.h (.q 14 8)<|.w<|.h (.q 15 0)<|.h (.cs (ow r (I l) (ft (dy w)) X))<|.c (db J)<|.k .r) (type_of% hen/\y6 i/\zy (U Aj m.av) i (Aj r)/\type_of% hcp/\iz 0<=0/\y5 0 (I l)/\0<I L/\0<=yu yt (1+r.chan)/\yu yt (1+r.chan)<(I l:Int)/\(List.set L (Nat.add (0+Z 0*2) 0) (di r.to))[Nat.add (0+Z (yu yt (1+r.chan))*2) 1]?=G (br 1 (U eV (b9.az (dy w))))/\(r.act==2)=O/\(r.act==1)=O/\0<=yu yt (1+r.chan)/\yu yt (1+r.chan)<(I l:Int)/\Nat.add (0+Z (yu yt (1+r.chan))*2) 1<I (List.set L (Nat.add (0+Z 0*2) 0) (di r.to))/\(∀(e:List D) (E:c9) (g:Gh) (a:Act) (w_1:x5),FI E g (bi [G [di 0,dn],G (rC r),G [di 0,bo 4 0 (I l)],G [di 0,bo 4 0 (I l)],G (List.set (List.set L (Nat.add (0+Z 0*2) 0) (di r.to)) (Nat.add (0+Z (yu yt (1+r.chan))*2) 1) (br 1 (U eV (b9.az (dy w))))),G [di 0,bo 4 0 (I l)]] [(1,2,U eV (b9.az (dy w)))]) e a w_1->∃g',FI E g' (ow r (I l) (ft (dy w)) X) e a w_1)/\F0 85 [Af m,bt (aa [vi 0,dq X])] (db J)/\Q (dP (b9.mk 0 X,0))) ?_
    rw[hww,ep]
    exact⟨hen,by omega,Ae hi,hcp,IA _,by omega,by omega,by omega,by omega,hLs,HW a2,HW a1,by omega,by omega,by rw[length_set];omega,fun e=>M7 hk2 hXl2 e,hv,rfl⟩
 ·rw[Iz hb]
  rw[HW hb] at hen
  generalize dx s ws=c at hen⊢
  exact sv SJ 76 [3,5] (.c (.tup [db O,di 0])<|.k<|.k .r) (_/\Q (dP (e8,18))) ⟨hen,rfl⟩
end
def ei(b k:Nat):List D:=(List.range k).flatMap fun i=>[di 0,.arr (b+i) 0 2]
theorem Mu(b k:Nat):ei b (k+1)=ei b k++[di 0,.arr (b+k) 0 2]:=by simp[ei,range_succ]
theorem AkA(b k:Nat):I (ei b k)=k*2:=by
 induction k<;>grind[Mu,ei]
theorem LS{n:Nat}{ts:List Nat}(b k:Nat)(h:b+k<=n):D.okNs n ts (ei b k)=J:=by
 induction k<;>grind[Mu,KT,D.okNs,D.okN,ei]
theorem Hn{ρ:Nat->Nat}(b b' k:Nat)(h:∀i,i<k->ρ (b+i)=b'+i):D.rens ρ id (ei b k)=ei b' k:=by
 induction k<;>grind[Mu,KP,D.rens,D.ren,ei]
abbrev gk(x:b9):List D:=Ab (x.az.map eV)
def dj(l:List b9):List (Option (List D)):=l.map fun x=>G (gk x)
theorem Dq(x:b9):D.pls (gk x)=J:=A9 _
theorem ML{l:List b9}{j:Nat}{cs:List D}(h:(dj l)[j]?=G (G cs)):∃x,l[j]?=G x/\cs=gk x:=by
 grind[dj]
theorem vg(x:b9)(hn:x.az≠ [])(hv:x.size<=900):Aa PP 131 [dV x] bd (.dagg [di x.n,.arr 0 0 (I x.az)]) ⟨[G (gk x)],[]⟩:=by
 have h:=SR (I x.az) (length_pos_iff.2 hn) x hn hv
 rw[UU x.az (I x.az) (I x.az) (HR _) (HR _),take_length,show ER (I x.az) x.az (I x.az)=[] by grind[ER]] at h
 refine EL (σ:=bd) (T:=(xb x.n (I x.az) (gk x) []).H) (fun i=>i+2) (II _) (fun i hi=>by grind) (fun i j _ _ h=>by omega) (fun i hi=>by grind) (fun i cs hi=>?_) (by rfl) (by grind[D.ren,D.rens])
 grind[AA,Dq,AO]
abbrev j3(n:Int)(k:Nat)(L:List D)(Hs:List (Option (List D))):St:=⟨G [di 0,.v .nils]::G [di n,.gro 2 k 2]::G L::Hs,[]⟩
theorem Akb{P:x7}{o:yy}{σ:St}{t:x6}{x:x8}{N:Nat}(hN:I σ.H=N)(ho:o.op=.buildSlice t 1 #[(0,x)])
  {e:x6} {sz by':Nat} {z:Option yz} (hs:BW P t=G (e,sz,by',z)) (hz:z.isSome=J) {d:D} (hd:d.sto=J) (hc:I (A2 d)=sz) (h1:0<sz) (h2:sz<=1000):
  Ak P o [d] σ (.gro N 1 sz) ⟨σ.H++[G (A2 d)],σ.own⟩:=by
 grind[Gw]
theorem SS{H:List (Option (List D))}{N:Nat}(hN:I H=N){x:b9}{F:List D}(hF:D.pls F=J)(hsp:Aa PP 131 [dV x] bd (.dagg [di x.n,.arr 0 0 (I x.az)]) ⟨[G F],[]⟩){o:yy}{cl:Call}{fo:x8}(ho:o.op=.call cl)(hc2:cl.callee=.value fo):
  Ak PP o [.v (.fn 131 [] []),dV x] ⟨H,[]⟩ (.dagg [di x.n,.arr N 0 (I x.az)]) ⟨H++[G F],[]⟩:=by
 subst hN
 have h:=BE (σ:=⟨H,[]⟩) ho hc2 (fD:=.v (.fn 131 [] [])) rfl (ds:=[dV x]) [] id hsp (.cons (.ren (dc:=dV x) rfl) .nil) .nil (by simp) rfl (by simp) (by simp) (by rfl) (by grind[cp,AO])
 simpa[Dn,CG,E5,D.ren,D.rens,d6,AA hF] using h
theorem Ara{R:List D->St->Prop}{ks:List KI}{e e':List D}(n:Int)(l:List b9)(x:b9)(S:Option (List D))(he:D.okNs (I l+4) [] e'=J)(hee:e=D.rens (fun i=>if i=2 then I l+5 else i) id e')
  (h:A5 (CN 0) PP R ks e' (j3 n (I l+1) (ei 3 (I l+1)) (dj (l++[x])))):
  A5 (CN 0) PP R ks e ⟨G [di 0,.v .nils]::G [di n,.gro (I l+5) (I l+1) 2]::none::(((dj l++[G (gk x)])++[S])++[G (ei 3 (I l+1))]),[]⟩:=by
 have hl:I (dj l)=I l:=by simp[dj]
 have hl2:I (dj (l++[x]))=I l+1:=by simp[dj]
 have hH:(j3 n (I l+1) (ei 3 (I l+1)) (dj (l++[x]))).H.length=I l+4:=by grind
 refine Cq (e':=e') (H':=(j3 n (I l+1) (ei 3 (I l+1)) (dj (l++[x]))).H) (m:=0) (fun _ _ h=>h.2) (fun i=>if i=2 then I l+5 else i) (II _) (fun i hi=>by omega) (fun i j hi hj h=>?_) (fun i cs hi=>?_) (by grind) hee h
 ·grind
 ·rw[hH]
  match i,hi with
  |0,hi=>simp at hi;subst hi;exact⟨rfl,by rfl⟩
  |1,hi=>grind[D.rens,D.ren,D.okNs,D.okN]
  |2,hi=>
   simp at hi;subst hi
   refine⟨?_,LS _ _ (by omega)⟩
   rw[Hn 3 3 _ (fun i hi=>by grind)]
   simp_all
  |i+3,hi=>
   grind[AO,Dq,AA,dj]
theorem Aec{n:Int}{l:List b9}(hk:I l<=900)(hk1:1<=I l){v:b9}{x:b9}(hx:v.az[I l]?=G x)(h0:x.n=0)(h2:I x.az=2)(hsz:x.size<=900){d:D}{σ':St}
  (next:Rn PP B5 0 d σ' ([zu B5 116,.blk 0,zt B5 15]++[]) (cz 27 [(1,.v (.ref (Ad v))),(2,.ptr 0 0),(3,.ptr 1 0),(4,di (I l+1:Nat))]) (j3 n (I l+1) (ei 3 (I l+1)) (dj (l++[x])))):
  Rn PP B5 0 d σ' ([zu B5 116,.blk 0,zt B5 15]++[]) (cz 27 [(1,.v (.ref (Ad v))),(2,.ptr 0 0),(3,.ptr 1 0),(4,di (I l:Nat))]) (j3 n (I l) (ei 3 (I l)) (dj l)):=by
 have hsp:=vg x (by grind) hsz
 have hlt:=(HN.1 hx).1
 have hOl:I (dj l)=I l:=by simp[dj]
 have hLl:=AkA 3 (I l)
 have hnm:=fun(e e':List D) he hee=>Ara (R:=fun env σ1=>A7 PP B5 env σ1 d σ') (ks:=[zu B5 116,.blk 0,zt B5 15]) (e:=e) (e':=e') n l x (G [di 0,.arr (I l+3) 0 2]) he hee
 have hLs:=Mu 3 (I l)
 generalize dj (l++[x])=Hs' at next hnm
 generalize ei 3 (I l+1)=L' at next hnm hLs
 generalize dj l=Hs at hOl hnm⊢
 generalize ei 3 (I l)=L at hLl hLs⊢
 refine zo [1] (.t<|.h (.xs (Ad x))<|.h (.oc (.dagg [di x.n,.arr (I l+3) 0 (I x.az)]) ⟨G [di 0,.v .nils]::G [di n,.gro 2 (I l) 2]::G L::(Hs++[G (gk x)]),[]⟩)<|.h (.o (.gro (I l+4) 1 2) ⟨G [di 0,.v .nils]::G [di n,.gro 2 (I l) 2]::G L::((Hs++[G (gk x)])++[G [di 0,.arr (I l+3) 0 2]]),[]⟩)<|.h (.o (.gro (I l+5) (I l+1) 2) ⟨G [di 0,.v .nils]::G [di n,.gro 2 (I l) 2]::none::(((Hs++[G (gk x)])++[G [di 0,.arr (I l+3) 0 2]])++[G L']),[]⟩)<|.l [ke 1,ke 2,ke 3,ch 4 (di (I l+1:Nat))]) (ye (I l) (I (c7 v.az))/\Q 2/\y6 (I l)/\zy (c7 v.az) (I l) (Ad x)/\(N0 (Auh x) (j3 n (I l) L Hs) (bj [di x.n,bo (I l+3) 0 (I x.az)]) (bi (G [di 0,dn]::G [di n,bm 2 (I l) 2]::G L::(Hs++[G (gk x)])) []))/\Ak PP rb [bj [di x.n,bo (I l+3) 0 (I x.az)]] (bi (G [di 0,dn]::G [di n,bm 2 (I l) 2]::G L::(Hs++[G (gk x)])) []) (bm (I l+4) 1 2) (bi (G [di 0,dn]::G [di n,bm 2 (I l) 2]::G L::(Hs++[G (gk x)]++[G [di 0,bo (I l+3) 0 2]])) [])/\Ak PP xe [bm 2 (I l) 2,bm (I l+4) 1 2] (bi (G [di 0,dn]::G [di n,bm 2 (I l) 2]::G L::(Hs++[G (gk x)]++[G [di 0,bo (I l+3) 0 2]])) []) (bm (I l+5) (I l+1) 2) (bi (G [di 0,dn]::G [di n,bm 2 (I l) 2]::none::(Hs++[G (gk x)]++[G [di 0,bo (I l+3) 0 2]]++[G L'])) [])/\((Q (G [bm 2 (I l) 2])/\Q (G [bm 2 (I l) 2])/\True)/\True)/\di (yu yt ((I l:Int)+1))=di (↑(I l+1):Int)/\_) ⟨HM (by grind),rfl,by omega,Ap hx,fun o c fo ho hc=>SS (by grind) (Dq x) hsp ho hc,?_,?_,⟨⟨rfl,rfl,trivial⟩,trivial⟩,Ac,iK (hnm _ _ (by rfl) (by rfl) next)⟩
 ·rw[h0,h2]
  refine Akb ?_ rfl l6 rfl rfl rfl (by decide) (by decide)
  grind
 ·rw[hLs,Nat.add_comm 3 (I l)]
  have hN:I l+5=I (G [di 0,.v .nils]::G [di n,.gro 2 (I l) 2]::G L::((Hs++[G (gk x)])++[G [di 0,.arr (I l+3) 0 2]])):=by simp[hOl]
  rw[hN]
  refine L8 rfl l6 rfl (by decide) (q:=2) (q2:=I l+4) (cs:=L) (cs2:=[di 0,.arr (I l+3) 0 2]) rfl hLl ?_ rfl (by decide) (by omega) (by omega)
  grind
noncomputable def Ano(P:x7)(rs:List ResultVar)(d:D)(σ':St)(env:List D)(σ:St):Prop:=
 mh P env σ true rs fun ds=>B3 (ds.map (ir [] false)) fun ds=>wy ds fun d'=>cond (σ'.own.isEmpty&&σ.own.isEmpty) ((D.okN (I σ'.H) [] d=J/\cp (I σ'.H) [] σ'.H=J)/\σ.H=σ'.H/\d'=d) False
theorem Af2{P:x7}{fn:yw}{d:D}{σ':St}{env:List D}{σ:St}(h:Ano P fn.results.toList d σ' env σ):A7 P fn env σ d σ':=by
 obtain⟨ds,h1,hr⟩:=HE h
 rw[AX,Qs] at h1
 obtain⟨h2,⟨hokd,h8⟩,hH,h4⟩:=Av h1
 simp only[HL,List.isEmpty_iff] at h2
 obtain⟨ho',ho⟩:=h2
 intro E g a w hf hE
 obtain⟨us,h5,h6⟩:=hr.run hf
 have hrun:(results fn a.tmps).run P w=.ok (if h:I us=1 then us[0] else .tuple us.toArray) w:=by
  rw[JU,Array.mapM_eq_mapM_toList]
  simp_all
 refine⟨_,_,hrun,XE (m:=I σ'.H) hf.wi (by grind) (by grind) hE (by grind) (by grind),?_⟩
 refine Qm _ _ (by grind) ?_
 have h7:=Dz (ts:=[]) (kn:=false) h6
 subst h4
 generalize ds.map (ir [] false)=ds' at h7
 have hl:=A3 h7
 unfold U8
 split
 ·grind[AG]
 ·rename_i hne
  have:I us≠1:=by
   rw[hl]
   intro h
   match ds',h with
   |[d0],_=>grind
  grind[Ah]
theorem Ah2{P:x7}(hm:P.follows .mixedOrders=J){C:Nat}{fn:yw}{d:D}{σ':St}(nt:Nat)(im:List Nat){ks T:List KI}{L:List (Nat×D)}{σ:St}(s:Sc)
  (h:B3 (cz nt L) fun env=>vc (CN C) C P (fun env σ1=>A7 P fn env σ1 d σ') (fun _ env σ=>Ano P fn.results.toList d σ' env σ) nt im T 10000 (.h .n s) ks env σ):Rn P fn C d σ' (ks++T) (cz nt L) σ:=by
 rw[AX] at h
 exact PR (NA _) (fun _ _ h=>h.2) hm (fun b env σ _ h=>Af2 h) (by simp[cz,DA]) h
theorem WZ{n:Int}{m:Nat}{L:List D}{Hs:List (Option (List D))}{v:b9}(hm:I v.az=m)(hL:D.okNs (I Hs+3) [] L=J)(hH:cp (I Hs+3) [] Hs=J):
  Rn PP B5 0 (.dagg [di n,.arr 2 0 m]) ⟨G [di n,.arr 2 0 m]::G [di n,.arr 2 0 m]::G L::Hs,[]⟩ ([zu B5 116,.blk 0,zt B5 15]++[]) (cz 27 [(1,.v (.ref (Ad v))),(2,.ptr 0 0),(3,.ptr 1 0),(4,di (m:Nat))]) (j3 n m L Hs):=by
 have e1:∀e:List D,Cv e (j3 n m L Hs) e ⟨G [di 0,.v .nils]::G [di n,.arr 2 0 m]::G L::Hs,[]⟩:=fun e=>AdU (σ:=j3 n m L Hs) (p:=1) (q:=2) (i:=1) (n:=m) (sz:=2) (cs:=[di n,.gro 2 m 2]) rfl rfl e
 refine LW (e1 _) ?_
 clear e1
 refine Ah2 mixed 27 [1] (.f<|.h (.m (.dagg [di n,.arr 2 0 m]))<|.h .ww<|.r) ?_
 refine fu (by kernel_rfl:(Y ((m:Int)<(I (c7 v.az):Int))=O/\2<=2/\Q [di n,bo 2 0 m]/\2<=2/\(D.okN (I (bi (G [di n,bo 2 0 m]::G [di n,bo 2 0 m]::G L::Hs) []).H) [] (bj [di n,bo 2 0 m])=J/\cp (I (bi (G [di n,bo 2 0 m]::G [di n,bo 2 0 m]::G L::Hs) []).H) [] (G [di n,bo 2 0 m]::G [di n,bo 2 0 m]::G L::Hs)=J)/\Q (G [di n,bo 2 0 m]::G [di n,bo 2 0 m]::G L::Hs)/\Q (bj [di n,bo 2 0 m]))=_) ?_
 have hle:(bi (G [di n,.arr 2 0 m]::G [di n,.arr 2 0 m]::G L::Hs) []).H.length=I Hs+3:=by simp
 rw[hle]
 exact⟨HO (by rw[HJ];omega),HR _,rfl,HR _,⟨by simp[D.okN,D.okNs],by simp[cp,D.okN,D.okNs,hL,hH]⟩,rfl,rfl⟩
def wb(x:b9):Prop:=x.n=0/\x.az.length=2
theorem Q5{n:Nat}(l:List b9):cp n [] (dj l)=J:=by
 induction l<;>grind[cp,dj,AO,Dq]
theorem Wo(ρ τ:Nat->Nat)(l:List b9):Dn ρ τ (dj l)=dj l:=by
 induction l<;>grind[Dn,dj,AA,Dq]
theorem MK(l:List b9):I (dj l)=I l:=by simp[dj]
theorem Aed(v:b9)(hv:v.size<=900)(hk:∀x∈v.az,wb x)(n:Nat):∀k:Nat,I v.az-k=n->1<=k->k<=I v.az->
  Rn PP B5 0 (.dagg [di v.n,.arr 2 0 (I v.az)]) ⟨G [di v.n,.arr 2 0 (I v.az)]::G [di v.n,.arr 2 0 (I v.az)]::G (ei 3 (I v.az))::dj v.az,[]⟩ ([zu B5 116,.blk 0,zt B5 15]++[]) (cz 27 [(1,.v (.ref (Ad v))),(2,.ptr 0 0),(3,.ptr 1 0),(4,di (k:Nat))]) (j3 v.n k (ei 3 k) (dj (v.az.take k))):=by
 have hs:=v.size_eq
 have hl:=b9.length_le v.az
 induction n with
 |zero=>
  grind[WZ,LS,MK,Q5]
 |succ n ih=>
  intro k hn hk1 hk2
  obtain⟨x,hx⟩:∃x,v.az[k]?=G x:=⟨_,HK (show k<I v.az by omega)⟩
  have ht:v.az.take (k+1)=v.az.take k++[x]:=by rw[J2,hx];rfl
  have hlen:I (v.az.take k)=k:=by rw[ID];omega
  obtain⟨h0,h2⟩:=hk x (HQ hx)
  have hst:= @Aec v.n (v.az.take k) (by omega) (by omega) v x (by rw[hlen];exact hx) h0 h2 (by have:=b9.size_mem (HQ hx);omega) (.dagg [di v.n,.arr 2 0 (I v.az)]) ⟨G [di v.n,.arr 2 0 (I v.az)]::G [di v.n,.arr 2 0 (I v.az)]::G (ei 3 (I v.az))::dj v.az,[]⟩
  grind
theorem AgY{P:x7}{o:yy}{σ:St}{x y:x8}{t:x6}(ho:o.op=.call { callee:=.builtin .append,args:= #[x,y],argTypes:= #[t,t]}){e:x6}{sz by':Nat}{z:yz}(hs:BW P t=G (e,sz,by',G z))(hzc:z.cells.size=sz)
  {q2 n:Nat} {cs2:List D} (hq2:σ.H[q2]?=G (G cs2)) (hl2:I cs2=n*sz) (hpos:0<n) (hlen:n*by'<=140737488355328) (hlen2:n<=140737488355328):
  Ak P o [.v .nils,.gro q2 n sz] σ (.gro (I σ.H) n sz) ⟨σ.H++[G cs2],σ.own⟩:=by
 intro E g a w K Q hw hds hK
 refine UG ho hs hzc hq2 hl2 hpos hlen hlen2 E g a w K Q hw ?_ hK
 grind[Ag,Ah,Dm]
noncomputable abbrev o7:=[di 0,bo 2 0 2]
theorem ArX(v:b9)(hv:v.size<=900)(hk:∀x∈v.az,wb x)(hn:v.az≠ []):Aa PP 131 [dV v] bd (.dagg [di v.n,.arr 0 0 (I v.az)]) ⟨G (ei 1 (I v.az))::dj v.az,[]⟩:=by
 have hs:=v.size_eq
 have hpos:=length_pos_iff.2 hn
 obtain⟨x,hx⟩:∃x,v.az[0]?=G x:=⟨_,HK hpos⟩
 obtain⟨x0,x2⟩:=hk x (HQ hx)
 have hxs:=b9.size_mem (HQ hx)
 have hsp:=vg x (by grind) (by omega)
 have hlp:=Aed v hv hk _ 1 rfl (HR _) hpos
 have ht:v.az.take 1=[x]:=by grind[take_add_one]
 rw[ht] at hlp
 have h0:(v.az.map eV)[Z 0]?=G (Ad x):=Ap (i:=0) hx
 have hlt:(0:Int)<(I (v.az.map eV):Int):=by grind
 have hle:I (G [di v.n,.arr 2 0 (I v.az)]::G [di v.n,.arr 2 0 (I v.az)]::G (ei 3 (I v.az))::dj v.az)=I v.az+3:=by simp[MK]
 refine EL (σ:=bd) (T:=G [di v.n,.arr 2 0 (I v.az)]::G [di v.n,.arr 2 0 (I v.az)]::G (ei 3 (I v.az))::dj v.az) (fun i=>i+2) (II _) (fun i hi=>by grind) (fun i j _ _ h=>by omega) (fun i hi=>?_) (fun i cs hi=>?_) (by rfl) ?_
 ·grind
 ·match i,hi with
  |0,hi=>
   simp at hi;subst hi
   exact⟨by rw[Hn 1 3 _ (fun i _=>by omega)];rfl,LS _ _ (by grind)⟩
  |i+1,hi=>
   grind[ML,AA,Dq,AO]
 ·show Aa PP _ _ _ (.dagg [di v.n,.arr 2 0 (I v.az)]) _
  generalize (⟨G [di v.n,.arr 2 0 (I v.az)]::G [di v.n,.arr 2 0 (I v.az)]::G (ei 3 (I v.az))::dj v.az,[]⟩:St)=out at hlp⊢
  generalize bj [di v.n,.arr 2 0 (I v.az)]=od at hlp⊢
  have hF:=Dq x
  have hlp2:Rn PP B5 0 od out ([zu B5 116,.blk 0,zt B5 15]++[]) (cz 27 [(1,.v (.ref (Ad v))),(2,.ptr 0 0),(3,.ptr 1 0),(4,di (1:Nat))]) ⟨[G [di 0,.v .nils],G [di v.n,.gro 4 1 2],G (gk x),G [di 0,.arr 2 0 2],G [di 0,.arr 2 0 2]],[]⟩:=by
   refine Cq (H':=(j3 v.n 1 (ei 3 1) (dj [x])).H) (e':=cz 27 [(1,.v (.ref (Ad v))),(2,.ptr 0 0),(3,.ptr 1 0),(4,di (1:Nat))]) (m:=0) (fun _ _ h=>h.2) (fun i=>if i=2 then 4 else if i=3 then 2 else i) (II _) (fun i hi=>by omega) (fun i j hi hj h=>?_) (fun i cs hi=>?_) (by rfl) (by rfl) hlp
   ·have hi:i<4:=hi
    have hj:j<4:=hj
    grind
   ·have h4:(j3 v.n 1 (ei 3 1) (dj [x])).H.length=4:=rfl
    rw[h4]
    match i,hi with
    |0,hi=>simp at hi;subst hi;exact⟨rfl,by rfl⟩
    |1,hi=>simp at hi;subst hi;exact⟨rfl,by rfl⟩
    |2,hi=>simp at hi;subst hi;exact⟨rfl,rfl⟩
    |3,hi=>
     have hi:G (G (gk x))=G (G cs):=hi
     grind[AA,AO]
    |i+4,hi=>grind
  clear hlp
  generalize gk x=F at hsp hF hlp2
  refine Qe mixed B5 AD (by rfl) (by rfl) (by kernel_rfl) (by rfl) 27 (by rfl) [1] (.h .rn<|.n<|.t<|.h (.xs (Ad x))<|.h (.oc (.dagg [di x.n,.arr 2 0 (I x.az)]) ⟨[G [di 0,.v .nils],G [di v.n,.v .nils],G F],[]⟩)<|.h (.o (.gro 3 1 2) ⟨[G [di 0,.v .nils],G [di v.n,.v .nils],G F,G [di 0,.arr 2 0 2]],[]⟩)<|.h (.o (.gro 4 1 2) ⟨[G [di 0,.v .nils],G [di v.n,.v .nils],G F,G [di 0,.arr 2 0 2],G [di 0,.arr 2 0 2]],[]⟩)<|.l [ke 1,ke 2,ke 3,ch 4 (di (1:Nat))]) ?_
  refine fu (by kernel_rfl:(Y (0<(I (c7 v.az):Int))=J/\Q 2/\iz 0<=0/\(c7 v.az)[Z 0]?=G (Ad x)/\(N0 (Auh x) (bi [G [di 0,dn],G [di v.n,dn]] []) (bj [di x.n,bo 2 0 (I x.az)]) (bi [G [di 0,dn],G [di v.n,dn],G F] []))/\Ak PP rb [bj [di x.n,bo 2 0 (I x.az)]] (bi [G [di 0,dn],G [di v.n,dn],G F] []) (bm 3 1 2) (bi [G [di 0,dn],G [di v.n,dn],G F,G o7] [])/\Ak PP xe [dn,bm 3 1 2] (bi [G [di 0,dn],G [di v.n,dn],G F,G o7] []) (bm 4 1 2) (bi [G [di 0,dn],G [di v.n,dn],G F,G o7,G o7] [])/\((Q (G [dn])/\Q (G [dn])/\True)/\True)/\di (yu yt (0+1))=di (↑1:Int)/\I0 B5 (I bd.H) od out uw (Awj v) (bi [G [di 0,dn],G [di v.n,bm 4 1 2],G F,G o7,G o7] []))=_) ?_
  refine⟨HM hlt,rfl,IA _,h0,fun o c fo ho hc=>?_,?_,AgY rfl l6 rfl (q2:=3) (cs2:=[di 0,.arr 2 0 2]) rfl rfl (by decide) (by decide) (by decide),⟨⟨rfl,rfl,trivial⟩,trivial⟩,I6 di (by decide),⟨hlp2⟩⟩
  ·exact SS (H:=[G [di 0,.v .nils],G [di v.n,.v .nils]]) rfl hF hsp ho hc
  ·rw[x0,x2]
   exact Gw rfl l6 rfl rfl rfl (by decide) (by decide)
abbrev H8(x:b9)(b m:Nat):List D:=f0 x++[di 0,.arr b 0 m]
theorem ArY(x b:b9)(hx:x.az=[])(hb0:b.n=0)(hb:b.size<=900)(hk:∀y∈b.az,wb y)(hn:b.az≠ [])(v:b9)(hv:v.n=0)(hvk:v.az=[x,b]):Aa PP 131 [dV v] bd (.dagg [di 0,.arr 0 0 2]) ⟨G (H8 x 1 (I b.az))::G (ei 2 (I b.az))::dj b.az,[]⟩:=by
 have hsp:=ArX b hb hk hn
 have hcx:=DY _ x (HR _) (by have:=x.size_eq;grind[b9.sizes])
 have hlen:I v.az=2:=by grind
 have hxv:v.az[0]?=G x:=by grind
 have hbv:v.az[1]?=G b:=by grind
 obtain⟨m,hm⟩:∃m,I b.az=m:=⟨_,rfl⟩
 have hO:=MK b.az
 rw[hm] at hsp hO⊢
 refine EL (σ:=bd) (T:=G [di 0,.arr 2 0 2]::G [di 0,.arr 2 0 2]::G (H8 x 3 m)::G (ei 4 m)::dj b.az) (fun i=>i+2) (II _) (fun i hi=>by grind) (fun i j _ _ h=>by omega) (fun i hi=>?_) (fun i cs hi=>?_) (by rfl) ?_
 ·grind
 ·match i,hi with
  |0,hi=>
   grind[D.rens,D.ren,D.okNs,D.okN]
  |1,hi=>
   simp at hi;subst hi
   exact⟨by rw[Hn 2 4 _ (fun i _=>by omega)];rfl,LS _ _ (by grind)⟩
  |i+2,hi=>
   grind[ML,AA,Dq,AO]
 ·show Aa PP _ _ _ (.dagg [di 0,.arr 2 0 2]) _
  have hend:= @WZ 0 2 (H8 x 3 m) (G (ei 4 m)::dj b.az) v hlen (by simp[D.okNs,D.okN]) (by simp only[cp,Q5,LS (n:=I (G (ei 4 m)::dj b.az)+3) (ts:=[]) 4 m (by simp[hO];omega),Bool.and_self])
  generalize (⟨G [di 0,.arr 2 0 2]::G [di 0,.arr 2 0 2]::G (H8 x 3 m)::G (ei 4 m)::dj b.az,[]⟩:St)=out at hend⊢
  generalize bj [di 0,.arr 2 0 2]=od at hend⊢
  have hen2:Rn PP B5 0 od out ([kl AD [1,1,0,1,0,0],.blk 0,kc AD [1,1,1]]++[]) (cz 27 [(1,.v (.ref (Ad v))),(2,.ptr 0 0),(3,.ptr 1 0),(4,di (2:Nat))]) ⟨G [di 0,.v .nils]::G [di 0,.gro (m+5) 2 2]::none::((G (ei 4 m)::dj b.az++[G [di 0,.arr 3 0 m]])++[G (H8 x 3 m)]),[]⟩:=by
   have hH:(j3 0 2 (H8 x 3 m) (G (ei 4 m)::dj b.az)).H.length=m+4:=by simp[hO]
   refine Cq (H':=(j3 0 2 (H8 x 3 m) (G (ei 4 m)::dj b.az)).H) (e':=cz 27 [(1,.v (.ref (Ad v))),(2,.ptr 0 0),(3,.ptr 1 0),(4,di (2:Nat))]) (m:=0) (fun _ _ h=>h.2) (fun i=>if i=2 then m+5 else i) (II _) (fun i hi=>by omega) (fun i j hi hj h=>?_) (fun i cs hi=>?_) (by rw[hH];simp[cz,D.okNs,D.okN]) (by simp[cz,D.rens,D.ren]) hend
   ·have h:(if i=2 then m+5 else i)=(if j=2 then m+5 else j):=h
    rw[hH] at hi hj
    split at h<;>split at h<;>omega
   ·rw[hH]
    match i,hi with
    |0,hi=>simp at hi;subst hi;exact⟨rfl,by simp[D.okNs,D.okN]⟩
    |1,hi=>simp at hi;subst hi;exact⟨by simp[D.rens,D.ren],by simp[D.okNs,D.okN]⟩
    |2,hi=>
     simp at hi;subst hi
     refine⟨?_,by simp[D.okNs,D.okN]⟩
     show((G (ei 4 m)::dj b.az++[G [di 0,.arr 3 0 m]])++[G (H8 x 3 m)])[m+2]?=_
     rw[I2 (by simp[hO])]
     simp[hO,D.rens,D.ren]
    |3,hi=>
     have hi:G (G (ei 4 m))=G (G cs):=hi
     simp only[IF] at hi
     subst hi
     exact⟨by rw[Hn 4 4 _ (fun i hi=>by rw[Iz (by omega)])];rfl,LS _ _ (by omega)⟩
    |i+4,hi=>
     have hi:(dj b.az)[i]?=G (G cs):=hi
     have hlt:i<m:=by have:=(HN.1 hi).1;omega
     obtain⟨y,hy,rfl⟩:=ML hi
     refine⟨?_,AO (Dq y)⟩
     rw[AA (Dq y),Iz (by omega)]
     show((dj b.az++[G [di 0,.arr 3 0 m]])++[G (H8 x 3 m)])[i]?=_
     rw[I5 (by simp[hO];omega),I5 (by omega)]
     exact hi
  have hcall:∀(o:yy) (c:Call) (fo:x8),o.op=.call c->c.callee=.value fo->Ak PP o [.v (.fn 131 [] []),dV b] (gf 0 1 (f0 x) []) (.dagg [di 0,.arr 3 0 m]) ⟨G [di 0,.v .nils]::G [di 0,.gro 2 1 2]::G (f0 x)::(G (ei 4 m)::dj b.az),[]⟩:=fun o c fo ho hc=>by
   have h:=BE (σ:=gf 0 1 (f0 x) []) ho hc (fD:=.v (.fn 131 [] [])) rfl (ds:=[dV b]) [] id hsp (.cons (.ren (dc:=dV b) rfl) .nil) .nil (by simp) rfl (by simp) (by simp) (by simp[D.okN,D.okNs]) (by show cp _ [] (G (ei 1 m)::dj b.az)=J;simp only[cp,Q5,LS (n:=I (G (ei 1 m)::dj b.az)) (ts:=[]) 1 m (by simp[hO];omega),Bool.and_self])
   have e1:Dn (d6 3 []) id (G (ei 1 m)::dj b.az)=G (ei 4 m)::dj b.az:=by
    show G (D.rens (d6 3 []) id (ei 1 m))::Dn (d6 3 []) id (dj b.az)=_
    rw[Wo,Hn 1 4 _ (fun i _=>by simp[d6];omega)]
   have e2:(bj [di b.n,.arr 0 0 m]).ren (d6 3 []) id=.dagg [di 0,.arr 3 0 m]:=by rw[hb0];rfl
   have h:Ak PP o [.v (.fn 131 [] []),dV b] (gf 0 1 (f0 x) []) ((bj [di b.n,.arr 0 0 m]).ren (d6 3 []) id) ⟨G [di 0,.v .nils]::G [di 0,.gro 2 1 2]::G (f0 x)::Dn (d6 3 []) id (G (ei 1 m)::dj b.az),[]⟩:=h
   rw[e1,e2] at h
   exact h
  have hsec:Rn PP B5 0 od out ([kl AD [1,1,0,1,0,0],.blk 0,kc AD [1,1,1]]++[]) (cz 27 [(1,.v (.ref (Ad v))),(2,.ptr 0 0),(3,.ptr 1 0),(4,di (1:Nat))]) (gf 0 1 (f0 x) []):=by
   have hHl:I (G (ei 4 m)::dj b.az)=m+1:=by simp[hO]
   generalize G (ei 4 m)::dj b.az=Hs at hen2 hcall hHl
   have hLs:f0 x++[di 0,.arr 3 0 m]=H8 x 3 m:=rfl
   generalize hCF:H8 x 3 m=CF at hen2
   refine lv 27 [1] (.t<|.h (.xs (Ad b))<|.h (.oc (.dagg [di 0,.arr 3 0 m]) ⟨G [di 0,.v .nils]::G [di 0,.gro 2 1 2]::G (f0 x)::Hs,[]⟩)<|.h (.o (.gro (m+4) 1 2) ⟨G [di 0,.v .nils]::G [di 0,.gro 2 1 2]::G (f0 x)::(Hs++[G [di 0,.arr 3 0 m]]),[]⟩)<|.h (.o (.gro (m+5) 2 2) ⟨G [di 0,.v .nils]::G [di 0,.gro 2 1 2]::none::((Hs++[G [di 0,.arr 3 0 m]])++[G CF]),[]⟩)<|.l [ke 1,ke 2,ke 3,ch 4 (di (2:Nat))]) (Y ((↑1:Int)<(I (c7 v.az):Int))=J/\Q 2/\0<=(↑1:Int)/\(c7 v.az)[Z (↑1:Int)]?=G (Ad b)/\_/\Ak PP rb [bj [di 0,bo 3 0 m]] (bi (G [di 0,dn]::G [di 0,bm 2 1 2]::G (f0 x)::Hs) []) (bm (m+4) 1 2) (bi (G [di 0,dn]::G [di 0,bm 2 1 2]::G (f0 x)::(Hs++[G [di 0,bo 3 0 m]])) [])/\Ak PP xe [bm 2 1 2,bm (m+4) 1 2] (bi (G [di 0,dn]::G [di 0,bm 2 1 2]::G (f0 x)::(Hs++[G [di 0,bo 3 0 m]])) []) (bm (m+5) 2 2) (bi (G [di 0,dn]::G [di 0,bm 2 1 2]::none::(Hs++[G [di 0,bo 3 0 m]]++[G CF])) [])/\((Q (G [bm 2 1 2])/\Q (G [bm 2 1 2])/\True)/\True)/\Q (di (↑2:Int))/\_) ⟨HM (by rw[HJ];omega),rfl,by omega,Ap hbv,hcall,?_,?_,⟨⟨rfl,rfl,trivial⟩,trivial⟩,I6 di (by decide),iK hen2⟩
   ·refine Akb ?_ rfl l6 rfl rfl rfl (by decide) (by decide)
    simp[hHl]
   ·have hN:m+5=I (G [di 0,.v .nils]::G [di 0,.gro 2 1 2]::G (f0 x)::(Hs++[G [di 0,.arr 3 0 m]])):=by simp[hHl]
    rw[hN, ←hCF]
    refine L8 rfl l6 rfl (by decide) (q:=2) (q2:=m+4) (cs:=f0 x) (cs2:=[di 0,.arr 3 0 m]) rfl rfl ?_ rfl (by decide) (by decide) (by decide)
    show(Hs++[G [di 0,.arr 3 0 m]])[m+1]?=_
    rw[I2 (by omega)]
    simp[hHl]
  have h0:(v.az.map eV)[Z 0]?=G (Ad x):=Ap (i:=0) hxv
  refine sv B5 27 [1] (.h .rn<|.n<|.t<|.h (.xs (Ad x))<|.c (dV x)<|.h (.p (.v (.list [Ad x])))<|.h .g<|.lo [ke 1,ke 2,ke 3,ch 4 (di (1:Nat))] (gf v.n 1 (f0 x) [])) (Y (0<(I (c7 v.az):Int))=J/\Q 2/\iz 0<=0/\_/\_/\(∀(τ:St),Ak PP rb [dV x] τ (bt (ae [Ad x])) τ)/\[Ad x]≠ []/\(∀(y:V),y∈ [Ad x]->V.size y=2)/\Ao 1 32/\yp/\Q (di (↑1:Int))/\Q J/\Q [G [di 0,dn],G [di v.n,bm 2 1 2],G (f0 x)]/\I0 B5 (I bd.H) od out uw (Awj v) (gf v.n 1 (f0 x) [])) ⟨HM (by rw[HJ];omega),rfl,IA _,h0,hcx,fun τ=>qo x τ rfl,by simp,fun y hy=>by rw[Ia.1 hy];rfl,⟨by decide,by decide⟩,yn,I6 di (by decide),rfl,rfl,⟨?_⟩⟩
  grind
noncomputable def EJ:=yl FJ
def gI(m i j:Nat):Nat:=if j<i then 5+(m-i)+j else 5+(j-i)
def fb(g:Nat->Nat)(k:Nat):List D:=(List.range k).flatMap fun j=>[di 0,.arr (g j) 0 2]
theorem KE(g:Nat->Nat)(k:Nat):fb g (k+1)=fb g k++[di 0,.arr (g k) 0 2]:=by simp[fb,range_succ]
theorem TN(g:Nat->Nat)(k:Nat):I (fb g k)=2*k:=by
 induction k<;>grind[KE,fb]
theorem AaG(g:Nat->Nat)(k j:Nat)(h:j<k):(fb g k)[2*j+1]?=G (.arr (g j) 0 2):=by
 induction k<;>grind[KE,TN]
theorem Ajq{g:Nat->Nat}{n:Nat}{ts:List Nat}(k:Nat)(h:∀j,j<k->g j<n):D.okNs n ts (fb g k)=J:=by
 induction k<;>grind[KE,KT,D.okNs,D.okN,fb]
theorem VN{ρ g g':Nat->Nat}(k:Nat)(h:∀j,j<k->ρ (g j)=g' j):D.rens ρ id (fb g k)=fb g' k:=by
 induction k<;>grind[KE,KP,D.rens,D.ren,fb]
abbrev kj(ty:D)(s:Int)(n:Nat)(K:List D)(qQ:List (Option (List D))):St:=⟨G [di 0,.v .nils]::G (A2 ty)::G [di 0,.arr 3 0 2]::G [di s,co [],di 0,.arr 4 0 n]::G K::qQ,[]⟩
theorem Ao9{n i j:Nat}(hi:i<=n)(hj:j<n):gI n i j<n+5:=by grind[gI]
theorem Ao8{n i j:Nat}(hi:i<n)(hj:j<n):(if gI n (i+1) j<5 then gI n (i+1) j else if gI n (i+1) j=n+4 then 5 else gI n (i+1) j+1)=gI n i j:=by
 grind[gI]
theorem Anu{R:List D->St->Prop}{ks:List KI}{e:List D}(ty:D)(hty:D.pls (A2 ty)=J)(s:Int)(n i:Nat)(hi:i<n)(qQ:List (Option (List D)))(hQl:I qQ+1=n)(hQ:∀(k:Nat) (cs:List D),qQ[k]?=G (G cs)->D.pls cs=J)(F:List D)(hF:D.pls F=J)
  (he:D.okNs (n+5) [] e=J) (hee:e=D.rens (fun k=>if k<5 then k else if k=n+4 then 5 else k+1) id e) (h:A5 (CN 0) PP R ks e (kj ty s n (fb (gI n (i+1)) n) (qQ++[G F]))):A5 (CN 0) PP R ks e (kj ty s n (fb (gI n i) n) (G F::qQ)):=by
 have hH:(kj ty s n (fb (gI n (i+1)) n) (qQ++[G F])).H.length=n+5:=by simp;omega
 refine Cq (H':=(kj ty s n (fb (gI n (i+1)) n) (qQ++[G F])).H) (e':=e) (m:=0) (fun _ _ h=>h.2) (fun k=>if k<5 then k else if k=n+4 then 5 else k+1) (II _) (fun i hi=>by omega) (fun a b ha hb h=>?_) (fun k cs hk=>?_) (by grind) hee h
 ·grind
 ·rw[hH]
  match k,hk with
  |0,hk=>simp at hk;subst hk;exact⟨rfl,by rfl⟩
  |1,hk=>
   grind[AA,AO]
  |2,hk=>simp at hk;subst hk;exact⟨rfl,by rfl⟩
  |3,hk=>simp at hk;subst hk;exact⟨rfl,by rfl⟩
  |4,hk=>
   grind[Ajq,Ao9,VN,Ao8]
  |k+5,hk=>
   have hk:(qQ++[G F])[k]?=G (G cs):=hk
   have hlt:=(HN.1 hk).1
   simp at hlt
   by_cases h1:k<I qQ
   ·grind[AO,AA]
   ·have e:k=I qQ:=by omega
    subst e
    rw[I2 (HR _),Nat.sub_self] at hk
    have hk:G (G F)=G (G cs):=hk
    simp only[IF] at hk
    subst hk
    refine⟨?_,AO hF⟩
    rw[AA hF,Iz (by omega),I4 (by omega)]
    rfl
abbrev wq(p:Int×Int):List D:=[di p.1,co [],di p.2,co []]
theorem Ak7(m:cx)(_:0<=m.age/\m.age<=1000)(ty:D)(hty:D.pls (A2 ty)=J)(s:Int)(n i:Nat)(hi:i<n)(hn:n<=1000)(p:Int×Int)(_:0<=p.2/\p.2<m.age+2)(qQ:List (Option (List D)))(hQl:I qQ+1=n)(hQ:∀(k:Nat) (cs:List D),qQ[k]?=G (G cs)->D.pls cs=J){d:D}{σ':St}
  (next:Rn PP FJ 0 d σ' ([kl EJ [1,1,1,1,1,0,1,0,0],.blk 0,kc EJ [1,1,1,1,1,1]]++[]) (cz 76 [(2,.v (.ref (Aq m))),(4,.ptr 0 0),(7,.ptr 1 0),(9,.ptr 2 0),(10,di (i+1:Nat))]) (kj ty s n (fb (gI n (i+1)) n) (qQ++[G (wq (p.1,ES m p.2))]))):
  Rn PP FJ 0 d σ' ([kl EJ [1,1,1,1,1,0,1,0,0],.blk 0,kc EJ [1,1,1,1,1,1]]++[]) (cz 76 [(2,.v (.ref (Aq m))),(4,.ptr 0 0),(7,.ptr 1 0),(9,.ptr 2 0),(10,di (i:Nat))]) (kj ty s n (fb (gI n i) n) (G (wq p)::qQ)):=by
 have hr:=Anu (R:=fun env σ1=>A7 PP FJ env σ1 d σ') (ks:=[kl EJ [1,1,1,1,1,0,1,0,0],.blk 0,kc EJ [1,1,1,1,1,1]]++[]) (e:=cz 76 [(2,.v (.ref (Aq m))),(4,.ptr 0 0),(7,.ptr 1 0),(9,.ptr 2 0),(10,di (i+1:Nat))]) ty hty s n i hi qQ hQl hQ (wq (p.1,ES m p.2)) rfl (by simp[cz,D.okNs,D.okN]) (by simp[cz,D.rens,D.ren]) next
 have hK:(fb (gI n i) n)[2*i+1]?=G (.arr 5 0 2):=by
  rw[AaG _ _ _ hi,gI,Iz (Nat.lt_irrefl _),Nat.sub_self]
 have ho:(if yu .i64 (m.age+1)<yu .i64 (p.2+1) then yu .i64 (m.age+1) else yu .i64 (p.2+1))=ES m p.2:=rfl
 generalize fb (gI n i) n=K at hr hK⊢
 have hK2:K[((0+Z (i:Int)*2)+1)]?=G (.arr 5 0 2):=by rw[show 0+Z (i:Int)*2+1=2*i+1 by omega];exact hK
 refine lv 76 [2,3] (.t<|.m (.arr 3 0 2)<|.m (.arr 4 0 n)<|.m (.arr 5 0 2)<|.m (.arr 3 0 2)<|.m (.arr 4 0 n)<|.m (.arr 5 0 2)<|.m (di p.2)<|.l [ke 2,ke 4,ke 7,ke 9,ch 10 (di (i+1:Nat))]) (iz 0<=1/\1<(↑2:Int)/\Y ((i:Int)<(n:Int))=J/\Q (G (bo 3 0 2))/\iz 0<=1/\1<(↑2:Int)/\Q (G (bo 4 0 n))/\0<=(i:Int)/\(i:Int)<(n:Int)/\_/\Q (G (bo 3 0 2))/\iz 0<=1/\1<(↑2:Int)/\Q (G (bo 4 0 n))/\0<=(i:Int)/\(i:Int)<(n:Int)/\_/\iz 0<=1/\1<(↑2:Int)/\Q (G (di p.snd))/\iz 0<=1/\1<(↑2:Int)/\(yh (True))/\di (yu yt ((i:Int)+1))=di (↑(i+1):Int)/\It (type_of% hr)) ⟨by decide,by decide,yr,rfl,by decide,by decide,rfl,by omega,by omega,hK2,rfl,by decide,by decide,rfl,by omega,by omega,hK2,by decide,by decide,rfl,by decide,by decide,⟨trivial,trivial,trivial,trivial,trivial,trivial,trivial,trivial⟩,Ac,⟨?_⟩⟩
 grind
theorem AfM(g:Nat->Nat)(k j:Nat)(h:j<k):(fb g k)[2*j]?=G (di 0):=by
 induction k<;>grind[KE,TN]
theorem Aio{α:Type}{l:List α}{i:Nat}{a b:α}(h1:l[i]?=G a)(h2:l[i+1]?=G b):l.drop i=a::b::l.drop (i+2):=by
 grind[List.drop_eq_getElem_cons]
theorem AfN(g:Nat->Nat)(k j:Nat)(h:j<k):(fb g k).drop (2*j)=di 0:: .arr (g j) 0 2::(fb g k).drop (2*(j+1)):=by grind[Aio,AfM,AaG]
theorem cvC{e:List D}{σ σ1 σ2:St}(h:Cv e σ e σ1)(h2:Cv e σ1 e σ2):Cv e σ e σ2:=by grind[Cv]
def nf(g:Nat->Nat)(T:List b9)(k:Nat):List D:=Ab ((T.take k).map eV)++(fb g (I T)).drop (2*k)
theorem AhW(g:Nat->Nat)(T:List b9)(hT:∀x∈T,x.n=0)(hk2:∀x∈T,I x.az=2)(hg:∀j,j<I T->g j=5+j)(a b c d:Option (List D))(e:List D)(k:Nat):k<=I T->∃Z:List (Option (List D)),I Z=I T/\(∀j,k<=j->Z[j]?=(dj T)[j]?)/\
  Cv e ⟨a::b::c::d::G (fb g (I T))::dj T,[]⟩ e ⟨a::b::c::d::G (nf g T k)::Z,[]⟩:=by
 induction k with
 |zero=>
  intro _
  refine⟨dj T,MK T,fun j _=>rfl,?_⟩
  exact fun E g a w hf=>⟨g,hf⟩
 |succ k ih=>
  intro hk
  obtain⟨Z,h1,h2,h3⟩:=ih (by omega)
  obtain⟨x,hx⟩:=yk (show k<I T by omega)
  have hz:Z[k]?=G (G (gk x)):=by grind[dj]
  have hx0:=hT x (HQ hx)
  have hl:I (Ab ((T.take k).map eV))=2*k:=by grind[B1]
  have hm:nf g T k=(Ab ((T.take k).map eV)++[di 0])++ .arr (g k) 0 2::(fb g (I T)).drop (2*(k+1)):=by
   grind[nf,AfN]
  have hA:I (Ab ((T.take k).map eV)++[di 0])=2*k+1:=by grind
  have hm':nf g T (k+1)=(Ab ((T.take k).map eV)++[di 0])++ .v (.list (x.az.map eV))::(fb g (I T)).drop (2*(k+1)):=by
   rw[nf,J2,hx,Option.toList_some, ←EY,hx0];simp
  have hgk:=hg k (by omega)
  refine⟨Z.set k none,by grind,fun j hj=>by grind,cvC h3 ?_⟩
  have hc:=BA (σ:=⟨a::b::c::d::G (nf g T k)::Z,[]⟩) (p:=4) (q:=k+5) (i:=2*k+1) (sz:=2) (cs:=nf g T k) (xs:=x.az.map eV) (by decide) rfl hz (by omega) (by
   grind) (fun v hv=>by
   grind[AE,V.size]) e
  simp_all
theorem Al8(ty:D)(s:Int)(T:List b9)(hT:∀x∈T,x.n=0)(hk2:∀x∈T,I x.az=2)(e:List D):∃Z,Cv e (kj ty s (I T) (fb (gI (I T) (I T)) (I T)) (dj T)) e ⟨G [di 0,.v .nils]::G (A2 ty)::G [di 0,co [lf s,.mk 0 T]]::none::none::Z,[]⟩:=by
 obtain⟨Z,_,_,h⟩:=AhW (gI (I T) (I T)) T hT hk2 (fun j hj=>by grind[gI]) (G [di 0,.v .nils]) (G (A2 ty)) (G [di 0,.arr 3 0 2]) (G [di s,co [],di 0,.arr 4 0 (I T)]) e (I T) (HR _)
 have hm:nf (gI (I T) (I T)) T (I T)=Ab (T.map eV):=by
  grind[nf,TN]
 rw[hm] at h
 have sz2:∀l:List b9,∀v∈l.map eV,v.size=2:=fun l v hv=>by
  grind[AE,V.size]
 refine⟨Z,cvC h ?_⟩
 have h1:=BA (σ:=⟨G [di 0,.v .nils]::G (A2 ty)::G [di 0,.arr 3 0 2]::G [di s,co [],di 0,.arr 4 0 (I T)]::G (Ab (T.map eV))::Z,[]⟩) (p:=3) (q:=4) (i:=3) (sz:=2) (cs:=[di s,co [],di 0,.arr 4 0 (I T)]) (xs:=T.map eV) (by decide) rfl rfl (by decide) (by grind) (sz2 T) e
 refine cvC h1 ?_
 have e3:Ab ([lf s,.mk 0 T].map eV)=[di s,co [],di 0,co T]:=by rw[AK,AK];rfl
 have h2:=BA (σ:=⟨G [di 0,.v .nils]::G (A2 ty)::G [di 0,.arr 3 0 2]::G [di s,co [],di 0,co T]::none::Z,[]⟩) (p:=2) (q:=3) (i:=1) (sz:=2) (cs:=[di 0,.arr 3 0 2]) (xs:=[lf s,.mk 0 T].map eV) (by decide) rfl (by grind) (by decide) rfl (sz2 _) e
 exact h2
noncomputable def Ds:=yl BN
abbrev GX(n:Int)(N:Nat)(C:List D):St:=⟨[G [di 0,.v .nils],G C,G [di n,.arr 1 0 N]],[]⟩
abbrev ov(n:Int)(xs:List b9):St:=GX n (I xs) (Ab (xs.map eV))
noncomputable abbrev Hv:List KI:=[zu BN 500,.blk 2,zt BN 63]
noncomputable abbrev m9:List KI:=[zu BN 32036,.blk 4,.blk 3,zt BN 2003]
theorem Lj(A B:List b9)(a b:b9):(Ab ((A++a::B).map eV)).take (I A*2)++A2 (dV b)++(Ab ((A++a::B).map eV)).drop (I A*2+2)=Ab ((A++b::B).map eV):=by
 grind[B1,Ll,AK,A2]
theorem An7(t:cr)(n:Int)(L R:List b9)(x y:b9)(hx:x.size<=1000000)(hlt:Ay x y<0)(hN:I L+I R<=1000)(d:D)(σ':St)(i:Nat)
  (next:Rn PP BN 0 d σ' (m9++Hv) (cz 117 [(2,.v (.ref (vT t))),(4,.ptr 0 0),(5,.ptr 2 0),(7,di i),(8,di (I L:Nat))]) (ov n (L++x::y::R))):
  Rn PP BN 0 d σ' (m9++Hv) (cz 117 [(2,.v (.ref (vT t))),(4,.ptr 0 0),(5,.ptr 2 0),(7,di i),(8,di (I L+1:Nat))]) (ov n (L++y::x::R)):=by
 have hc:=Fh _ x y (HR _) hx
 have s1:=Lj (L++[y]) R x y
 have s2:=Lj L (y::R) y x
 have d1:=E8 (l:=L++y::x::R) (i:=I L+1) (x:=x) (by simp)
 have d0:=E8 (l:=L++y::x::R) (i:=I L) (x:=y) (by simp)
 rw[show(L++[y])++x::R=L++y::x::R by simp,show(L++[y])++y::R=L++y::y::R by simp,show(L++[y]).length=I L+1 by simp] at s1
 have c1:=B1 (L++y::x::R)
 have c2:=B1 (L++y::y::R)
 have n1:I (L++y::x::R)=I L+I R+2:=by grind
 have n2:I (L++y::y::R)=I L+I R+2:=by grind
 have n3:I (L++x::y::R)=I L+I R+2:=by grind
 have next:Rn PP BN 0 d σ' (m9++Hv) (cz 117 [(2,.v (.ref (vT t))),(4,.ptr 0 0),(5,.ptr 2 0),(7,di i),(8,di (I L:Nat))]) (GX n (I L+I R+2) (Ab ((L++x::y::R).map eV))):=by grind
 show Rn PP BN 0 d σ' (m9++Hv) (cz 117 [(2,.v (.ref (vT t))),(4,.ptr 0 0),(5,.ptr 2 0),(7,di i),(8,di (I L+1:Nat))]) (GX n (I (L++y::x::R)) (Ab ((L++y::x::R).map eV)))
 rw[n1]
 rw[n1] at c1
 rw[n2] at c2
 generalize Ab ((L++y::x::R).map eV)=C at*
 generalize Ab ((L++x::y::R).map eV)=C2 at*
 generalize Ab ((L++y::y::R).map eV)=C1 at*
 have hw:yu .i64 (((I L+1:Nat):Int)-1)=(I L:Int):=by rw[An];omega
 have k1:0+Z ((I L+1:Nat):Int)*2=(I L+1)*2:=by omega
 have k0:0+Z (I L:Int)*2=I L*2:=by omega
 refine zo [2,3] (.t<|.m (.arr 1 0 (I L+I R+2))<|.m (dV x)<|.m (.arr 1 0 (I L+I R+2))<|.m (dV y)<|.c (di (Ay x y))<|.t<|.m (.arr 1 0 (I L+I R+2))<|.m (.arr 1 0 (I L+I R+2))<|.m (.arr 1 0 (I L+I R+2))<|.m (dV y)<|.m (.arr 1 0 (I L+I R+2))<|.m (dV x)<|.h .ww<|.h .ww<|.l [ke 2,ke 4,ke 5,ke 7,ch 8 (di (I L:Nat))]) (yc ↑(I L+1) 0/\Q (G (bo 1 0 (I L+I R+2)))/\y6 ↑(I L+1)/\y5 ↑(I L+1) ↑(I L+I R+2)/\0+Z (↑(I L+1):Int)*2+2<=I C/\take 2 (W (0+Z (↑(I L+1):Int)*2) C)=(da x.n x.az)/\Q (G (bo 1 0 (I L+I R+2)))/\0<=yu yt ((↑(I L+1):Int)-1)/\y5 (yu yt ((↑(I L+1):Int)-1)) ↑(I L+I R+2)/\0+Z (yu yt ((↑(I L+1):Int)-1))*2+2<=I C/\take 2 (W (0+Z (yu yt ((↑(I L+1):Int)-1))*2) C)=(da y.n y.az)/\uq x y/\(yi (True))/\ye (Ay x y) 0/\Q (G (bo 1 0 (I L+I R+2)))/\Q (G (bo 1 0 (I L+I R+2)))/\Q (G (bo 1 0 (I L+I R+2)))/\0<=yu yt ((↑(I L+1):Int)-1)/\y5 (yu yt ((↑(I L+1):Int)-1)) ↑(I L+I R+2)/\0+Z (yu yt ((↑(I L+1):Int)-1))*2+2<=I C/\take 2 (W (0+Z (yu yt ((↑(I L+1):Int)-1))*2) C)=(da y.n y.az)/\Q (G (bo 1 0 (I L+I R+2)))/\y6 ↑(I L+1)/\y5 ↑(I L+1) ↑(I L+I R+2)/\0+Z (↑(I L+1):Int)*2+2<=I C/\take 2 (W (0+Z (↑(I L+1):Int)*2) C)=(da x.n x.az)/\y6 ↑(I L+1)/\y5 ↑(I L+1) ↑(I L+I R+2)/\0+Z (↑(I L+1):Int)*2+2<=I C/\0<=yu yt ((↑(I L+1):Int)-1)/\y5 (yu yt ((↑(I L+1):Int)-1)) ↑(I L+I R+2)/\0+Z (yu yt ((↑(I L+1):Int)-1))*2+2<=I (take (0+Z (↑(I L+1):Int)*2) C++A2 (bt (aa (vi y.n::dq y.az::nV)))++W (0+Z (↑(I L+1):Int)*2+2) C)/\(True/\(Q (G [bo 1 0 (I L+I R+2)])/\True)/\True/\True/\True/\True/\True)/\di (yu yt ((↑(I L+1):Int)-1))=di (I L:Int)/\I0 BN 0 d σ' [zu BN 32036,bh 4,bh 3,kc Ds t7,kl Ds iy,bh 2,zt BN 63] (cz 117 [(2,bt (bz (vT t))),o8,rr,(7,di (i:Int)),(8,di (I L:Int))]) (bi [G [di 0,dn],G (take (0+Z (yu yt ((↑(I L+1):Int)-1))*2) (take (0+Z (↑(I L+1):Int)*2) C++(da y.n y.az)++W (0+Z (↑(I L+1):Int)*2+2) C)++(da x.n x.az)++W (0+Z (yu yt ((↑(I L+1):Int)-1))*2+2) (take (0+Z (↑(I L+1):Int)*2) C++(da y.n y.az)++W (0+Z (↑(I L+1):Int)*2+2) C)),G [di n,bo 1 0 (I L+I R+2)]] [])) ?_
 simp only[hw,k1,k0]
 have e1:C.take ((I L+1)*2)++[di y.n,.v (dq y.az)]++C.drop ((I L+1)*2+2)=C1:=s1
 have e2:C1.take (I L*2)++[di x.n,.v (dq x.az)]++C1.drop (I L*2+2)=C2:=s2
 have e3:C.take ((I L+1)*2)++A2 (.v (.agg (vi y.n::dq y.az::nV)))++C.drop ((I L+1)*2+2)=C1:=s1
 simp only[e1,e2,e3]
 refine⟨yr,trivial,by omega,by omega,by omega,d1,trivial,by omega,by omega,by omega,d0,hc,⟨trivial,trivial,trivial,trivial,trivial⟩,HM hlt,trivial,trivial,trivial,by omega,by omega,by omega,d0,trivial,by omega,by omega,by omega,d1,by omega,by omega,by omega,by omega,by omega,by omega,⟨trivial,yn,trivial,trivial,trivial,trivial,trivial⟩,trivial,⟨next⟩⟩
theorem Agd(t:cr)(n:Int)(N:Nat)(C:List D)(d:D)(σ':St)(i:Nat)(hi:i<=1000)
  (next:Rn PP BN 0 d σ' (Hv++[]) (cz 117 [(2,.v (.ref (vT t))),(4,.ptr 0 0),(5,.ptr 2 0),(7,zw i)]) (GX n N C)):
  Rn PP BN 0 d σ' (m9++Hv) (cz 117 [(2,.v (.ref (vT t))),(4,.ptr 0 0),(5,.ptr 2 0),(7,di i),(8,di (0:Nat))]) (GX n N C):=by
 exact zo [2,3] (.k<|.f<|.l [ke 2,ke 4,ke 5,ch 7 (zw i)]) (Q false/\zx i/\_) ⟨rfl,Ac,iK next⟩
theorem Agc(t:cr)(n:Int)(L R:List b9)(x y:b9)(hx:x.size<=1000000)(hlt:¬Ay x y<0)(hN:I L+I R<=1000)(d:D)(σ':St)(i:Nat)(hi:i<=1000)
  (next:Rn PP BN 0 d σ' (Hv++[]) (cz 117 [(2,.v (.ref (vT t))),(4,.ptr 0 0),(5,.ptr 2 0),(7,zw i)]) (ov n (L++y::x::R))):
  Rn PP BN 0 d σ' (m9++Hv) (cz 117 [(2,.v (.ref (vT t))),(4,.ptr 0 0),(5,.ptr 2 0),(7,di i),(8,di (I L+1:Nat))]) (ov n (L++y::x::R)):=by
 have hc:=Fh _ x y (HR _) hx
 have d1:=E8 (l:=L++y::x::R) (i:=I L+1) (x:=x) (by simp)
 have d0:=E8 (l:=L++y::x::R) (i:=I L) (x:=y) (by simp)
 have c1:=B1 (L++y::x::R)
 have n1:I (L++y::x::R)=I L+I R+2:=by simp;omega
 have next:Rn PP BN 0 d σ' (Hv++[]) (cz 117 [(2,.v (.ref (vT t))),(4,.ptr 0 0),(5,.ptr 2 0),(7,zw i)]) (GX n (I (L++y::x::R)) (Ab ((L++y::x::R).map eV))):=next
 show Rn PP BN 0 d σ' (m9++Hv) (cz 117 [(2,.v (.ref (vT t))),(4,.ptr 0 0),(5,.ptr 2 0),(7,di i),(8,di (I L+1:Nat))]) (GX n (I (L++y::x::R)) (Ab ((L++y::x::R).map eV)))
 rw[n1] at next⊢
 generalize Ab ((L++y::x::R).map eV)=C at*
 have hw:yu .i64 (((I L+1:Nat):Int)-1)=(I L:Int):=by rw[An];omega
 have k1:0+Z ((I L+1:Nat):Int)*2=(I L+1)*2:=by omega
 have k0:0+Z (I L:Int)*2=I L*2:=by omega
 refine zo [2,3] (.t<|.m (.arr 1 0 (I L+I R+2))<|.m (dV x)<|.m (.arr 1 0 (I L+I R+2))<|.m (dV y)<|.c (di (Ay x y))<|.f<|.l [ke 2,ke 4,ke 5,ch 7 (zw i)]) (yc ↑(I L+1) 0/\Q (G (bo 1 0 (I L+I R+2)))/\y6 ↑(I L+1)/\y5 ↑(I L+1) ↑(I L+I R+2)/\0+Z (↑(I L+1):Int)*2+2<=I C/\take 2 (W (0+Z (↑(I L+1):Int)*2) C)=(da x.n x.az)/\Q (G (bo 1 0 (I L+I R+2)))/\0<=yu yt ((↑(I L+1):Int)-1)/\y5 (yu yt ((↑(I L+1):Int)-1)) ↑(I L+I R+2)/\0+Z (yu yt ((↑(I L+1):Int)-1))*2+2<=I C/\take 2 (W (0+Z (yu yt ((↑(I L+1):Int)-1))*2) C)=(da y.n y.az)/\uq x y/\(yi (True))/\yd (Ay x y) 0/\zx i/\It (type_of% next)) ?_
 simp only[hw,k1,k0]
 refine⟨yr,trivial,by omega,by omega,by omega,d1,trivial,by omega,by omega,by omega,d0,hc,⟨trivial,trivial,trivial,trivial,trivial⟩,HO hlt,Ac,⟨next⟩⟩
theorem An8(t:cr)(n:Int)(N:Nat)(C:List D)(d:D)(σ':St)(i:Nat)(hi:i<N)
  (next:Rn PP BN 0 d σ' (m9++Hv) (cz 117 [(2,.v (.ref (vT t))),(4,.ptr 0 0),(5,.ptr 2 0),(7,di i),(8,di i)]) (GX n N C)):
  Rn PP BN 0 d σ' (Hv++[]) (cz 117 [(2,.v (.ref (vT t))),(4,.ptr 0 0),(5,.ptr 2 0),(7,di i)]) (GX n N C):=by
 exact zo [2,3] (.t<|.l [ke 2,ke 4,ke 5,ke 7,ch 8 (di i)]) (ye i N/\Q (di (i:Int))/\_) ⟨yr,rfl,iK next⟩
theorem AkF(t:cr)(n:Int)(xs:List b9)(i:Nat)(hi:¬i<I xs):
  Rn PP BN 0 (dV (.mk n xs)) bd (Hv++[]) (cz 117 [(2,.v (.ref (vT t))),(4,.ptr 0 0),(5,.ptr 2 0),(7,di i)]) (ov n xs):=by
 have sz2:∀l:List b9,∀v∈l.map eV,v.size=2:=fun l v hv=>by
  grind[AE,V.size]
 have hcv:=fun e=>BA (σ:=ov n xs) (p:=2) (q:=1) (i:=1) (sz:=2) (cs:=[di n,.arr 1 0 (I xs)]) (xs:=xs.map eV) (by decide) rfl rfl (by decide) (by grind) (sz2 xs) e
 refine LW (hcv _) ?_
 show Rn PP BN 0 (dV (.mk n xs)) bd (Hv++[]) (cz 117 [(2,.v (.ref (vT t))),(4,.ptr 0 0),(5,.ptr 2 0),(7,di i)]) ⟨[G [di 0,.v .nils],none,G [di n,co xs]],[]⟩
 exact zo [2,3] (.f<|.r) (yd i (I (U eV xs))/\Q (dV (b9.mk n xs))) ⟨HO (by grind),rfl⟩
abbrev leV(a b:b9):Prop:=Ay a b<=0
theorem AkE(t:cr)(n:Int)(i:Nat)(hi:i<=1000)(S:List b9)(x:b9)(hx:x.size<=1000000)(d:D)(σ':St)(m:Nat):∀L R:List b9,I L=m->I L+I R+I S<=1000->(L++R).Pairwise leV->(∀r∈R,Ay x r<=0)->
  (∀ys:List b9,ys.Perm (L++x::R)->ys.Pairwise leV->Rn PP BN 0 d σ' (Hv++[]) (cz 117 [(2,.v (.ref (vT t))),(4,.ptr 0 0),(5,.ptr 2 0),(7,zw i)]) (ov n (ys++S)))->
  Rn PP BN 0 d σ' (m9++Hv) (cz 117 [(2,.v (.ref (vT t))),(4,.ptr 0 0),(5,.ptr 2 0),(7,di i),(8,di (I L:Nat))]) (ov n (L++x::R++S)):=by
 induction m with
 |zero=>
  intro L R hl hN hp hR next
  obtain rfl:L=[]:=List.length_eq_zero_iff.1 hl
  exact Agd t n _ _ d σ' i hi (next (x::R) (List.Perm.refl _) (List.pairwise_cons.2 ⟨hR,hp⟩))
 |succ m ih=>
  intro L R hl hN hp hR next
  obtain⟨L',y,rfl⟩:∃L' y,L=L'++[y]:=⟨L.dropLast,L.getLast (by grind),(List.dropLast_concat_getLast _).symm⟩
  simp only[HY,List.length_singleton] at hl hN
  have e0:L'++[y]++x::R++S=L'++y::x::(R++S):=by simp
  rw[e0,show(L'++[y]).length=I L'+1 by simp]
  by_cases hlt:Ay x y<0
  ·refine An7 t n L' (R++S) x y hx hlt (by grind) d σ' i ?_
   have h:=ih L' (y::R) (by omega) (by grind) (by simp_all) (fun r hr=>by
    grind) (fun ys hy hs=>next ys (hy.trans (by
     have:=(List.perm_middle (a:=y) (l₁:=L'++[x]) (l₂:=R))
     simp only[Jx,JM,nil_append] at this⊢
     exact(List.Perm.append_left L' (List.Perm.swap y x R)))) hs)
   simp_all
  ·refine Agc t n L' (R++S) x y hx hlt (by grind) d σ' i hi ?_
   rw[←e0]
   refine next (L'++[y]++x::R) (List.Perm.refl _) ?_
   have hyx:Ay y x<=0:=(NB y x).2 hlt
   rw[List.pairwise_append] at hp⊢
   refine⟨hp.1,List.pairwise_cons.2 ⟨hR,hp.2.1⟩,fun a ha b hb=>?_⟩
   rcases IN.1 hb with rfl|hb
   ·rcases IV.1 ha with ha'|ha'
    ·exact EW ((List.pairwise_append.1 hp.1).2.2 a ha' y (by simp)) hyx
    grind
   grind
theorem Agj(t:cr)(n:Int)(T:List b9)(hT:I T<=900)(hz:∀x∈T,x.size<=1000000)(m:Nat):∀(i:Nat) (xs:List b9),1<=i->I T-i=m->xs.Perm T->(xs.take i).Pairwise leV->
  Rn PP BN 0 (dV (.mk n (sortV T))) bd (Hv++[]) (cz 117 [(2,.v (.ref (vT t))),(4,.ptr 0 0),(5,.ptr 2 0),(7,di i)]) (ov n xs):=by
 induction m with
 |zero=>
  intro i xs hi hm hp hs
  have hl:=hp.length_eq
  grind[Qf,List.take_of_length_le,AkF]
 |succ m ih=>
  intro i xs hi hm hp hs
  have hl:=hp.length_eq
  obtain⟨x,hx⟩:=yk (show i<I xs by omega)
  have hxs:xs=xs.take i++[x]++xs.drop (i+1):=by
   conv=>lhs;rw[←List.take_append_drop (i+1) xs,J2,hx]
   rfl
  have hli:I (xs.take i)=i:=by grind
  refine An8 t n _ _ _ _ i (by omega) ?_
  have h:=AkE t n i (by omega) (xs.drop (i+1)) x (hz x (hp.mem_iff.1 (HQ hx))) (dV (.mk n (sortV T))) bd _ (xs.take i) [] rfl (by grind) (by grind) (fun r hr=>by grind) (fun ys hy hs'=>by
   have hyl:=hy.length_eq
   rw[HY,hli,List.length_singleton] at hyl
   refine ih (i+1) (ys++xs.drop (i+1)) (by omega) (by omega) ?_ (by grind)
   exact(hy.append_right (xs.drop (i+1))).trans (by grind))
  grind
noncomputable abbrev nc:List KI:=[zu BN 116,.blk 0,zt BN 15]
theorem Agg(l:List cr)(n:Int)(N k:Nat)(hk:k<N)(hN:N<=1000)(C C':List D)(hC:I C=N*2)(t:cr)(x x':b9)(hx:(C.drop (k*2)).take 2=[.v (vi x.n),.v (dq x.az)])(hC':C.take (k*2)++[.v (vi x'.n),.v (dq x'.az)]++C.drop (k*2+2)=C')(ht:l[k]?=G t)(hc:F0 242 [dT t,dV x] (dV x'))(d:D)(σ':St)
  (next:Rn PP BN 0 d σ' (nc++[]) (cz 117 [(2,.v (.ref (vT (.prod l)))),(4,.ptr 0 0),(5,.ptr 2 0),(6,zw k)]) (GX n N C')):
  Rn PP BN 0 d σ' (nc++[]) (cz 117 [(2,.v (.ref (vT (.prod l)))),(4,.ptr 0 0),(5,.ptr 2 0),(6,di k)]) (GX n N C):=by
 have k0:0+Z (k:Int)*2=k*2:=by omega
 refine zo [2,3] (.t<|.k<|.t<|.m (.arr 1 0 N)<|.x (vT t)<|.m (.arr 1 0 N)<|.m (dV x)<|.c (dV x')<|.h .ww<|.k<|.f<|.l [ke 2,ke 4,ke 5,ch 6 (zw k)]) (ye k N/\ye k (I (jh l))/\Q (G (bo 1 0 N))/\y6 k/\zy (jh l) k (vT t)/\Q (G (bo 1 0 N))/\y6 k/\y5 k N/\0+Z (k:Int)*2+2<=I C/\take 2 (W (0+Z (k:Int)*2) C)=(da x.n x.az)/\type_of% hc/\y6 k/\y5 k N/\0+Z (k:Int)*2+2<=I C/\(yj (True))/\(cr.kd (cr.prod l)==5)=O/\zx k/\I0 BN 0 d σ' [kl Ds e9,bh 0,zt BN 15] (cz 117 [(rt l),o8,rr,(6,zw k)]) (bi [G [di 0,dn],G (take (0+Z (k:Int)*2) C++(da x'.n x'.az)++W (0+Z (k:Int)*2+2) C),G [di n,bo 1 0 N]] [])) ?_
 simp only[k0]
 have hC2:C.take (k*2)++[di x'.n,.v (dq x'.az)]++C.drop (k*2+2)=C':=hC'
 simp only[hC2]
 have hlt:=(HN.1 ht).1
 refine⟨yr,HM (by rw[HJ];show(k:Int)<(I l:Int);omega),trivial,by omega,?_,trivial,by omega,by omega,by omega,hx,hc,by omega,by omega,by omega,⟨trivial,trivial,trivial,trivial⟩,rfl,Ac,⟨next⟩⟩
 grind[YU,cr.ps]
theorem Agf(t:cr)(n:Int)(N k:Nat)(hk:k<N)(hN:N<=1000)(C C':List D)(hC:I C=N*2)(x x':b9)(hx:(C.drop (k*2)).take 2=[.v (vi x.n),.v (dq x.az)])(hC':C.take (k*2)++[.v (vi x'.n),.v (dq x'.az)]++C.drop (k*2+2)=C')(hc:F0 242 [dT t,dV x] (dV x'))(d:D)(σ':St)
  (next:Rn PP BN 0 d σ' (nc++[]) (cz 117 [(2,.v (.ref (vT (.bag t)))),(4,.ptr 0 0),(5,.ptr 2 0),(6,zw k)]) (GX n N C')):
  Rn PP BN 0 d σ' (nc++[]) (cz 117 [(2,.v (.ref (vT (.bag t)))),(4,.ptr 0 0),(5,.ptr 2 0),(6,di k)]) (GX n N C):=by
 have k0:0+Z (k:Int)*2=k*2:=by omega
 refine zo [2,3] (.t<|.k<|.f<|.k<|.t<|.m (.arr 1 0 N)<|.x (vT t)<|.m (.arr 1 0 N)<|.m (dV x)<|.c (dV x')<|.h .ww<|.l [ke 2,ke 4,ke 5,ch 6 (zw k)]) (ye k N/\false=O/\(cr.kd (cr.bag t)==5)=J/\G (bo 1 0 N)=G (bo 1 0 N)/\iz 0<=0/\G (eT t)=G (vT t)/\G (bo 1 0 N)=G (bo 1 0 N)/\y6 k/\y5 k N/\0+Z (k:Int)*2+2<=I C/\take 2 (W (0+Z (k:Int)*2) C)=(da x.n x.az)/\F0 242 [bt (vT t),dV x] (dV x')/\y6 k/\y5 k N/\0+Z (k:Int)*2+2<=I C/\(yj (True))/\zx k/\I0 BN 0 d σ' [kl Ds e9,bh 0,zt BN 15] (cz 117 [(2,bt (bz (vT (cr.bag t)))),o8,rr,(6,zw k)]) (bi [G [di 0,dn],G (take (0+Z (k:Int)*2) C++(da x'.n x'.az)++W (0+Z (k:Int)*2+2) C),G [di n,bo 1 0 N]] [])) ?_
 simp only[k0]
 have hC2:C.take (k*2)++[di x'.n,.v (dq x'.az)]++C.drop (k*2+2)=C':=hC'
 simp only[hC2]
 exact⟨yr,trivial,rfl,trivial,by decide,I6 G (YU t),trivial,by omega,by omega,by omega,hx,hc,by omega,by omega,by omega,⟨trivial,trivial,trivial,trivial⟩,Ac,⟨next⟩⟩
theorem Qd(t:cr)(n:Int):F0 242 [dT t,dV (.mk n [])] (dV (.mk n [])):=by
 have hc:=DY _ (.mk n []) (HR _) (by show 1<=_;decide)
 by_cases h5:t.kd=5
 ·exact sv BN 117 [2,3] (.c (dV (.mk n []))<|.n<|.k<|.f<|.n<|.k<|.r) (_/\(cr.kd t !=5)=O/\Q (dV (fh n))) ⟨hc,by grind,rfl⟩
 ·exact sv BN 117 [2,3] (.c (dV (.mk n []))<|.n<|.k<|.t<|.r) (_/\(cr.kd t !=5)=J/\Q (dV (fh n))) ⟨hc,bne_iff_ne.2 h5,rfl⟩
theorem RC(l:List cr)(n:Int)(ks ks':List b9)(hn:ks≠ [])(hl:I ks=I l)(hl':I ks'=I l)(hz:(b9.mk n ks).size<=900)(hs:∀(i:Nat) (t:cr) (x x':b9),l[i]?=G t->ks[i]?=G x->ks'[i]?=G x'->F0 242 [dT t,dV x] (dV x')):F0 242 [dT (.prod l),dV (.mk n ks)] (dV (.mk n ks')):=by
 have hsz:=(b9.mk n ks).size_eq
 have hle:=b9.length_le ks
 have hks:(b9.mk n ks).az=ks:=rfl
 rw[hks] at hsz
 have hcp:=vg (.mk n ks) hn hz
 have sz2:∀l:List b9,∀v∈l.map eV,v.size=2:=fun l v hv=>by
  obtain⟨y,_,rfl⟩:=IQ.1 hv
  rw[AE];rfl
 have loop (m:Nat):∀k:Nat,I ks-k=m->k<=I ks->Rn PP BN 0 (dV (.mk n ks')) bd (nc++[]) (cz 117 [(2,.v (.ref (vT (.prod l)))),(4,.ptr 0 0),(5,.ptr 2 0),(6,di k)]) (GX n (I ks) (Ab ((ks'.take k++ks.drop k).map eV))):=by
  induction m with
  |zero=>
   intro k hm hk
   have e:k=I ks':=by omega
   subst e
   rw[take_length,I3 (by omega),IX ks']
   have hcv:=fun e=>BA (σ:=GX n (I ks) (Ab (ks'.map eV))) (p:=2) (q:=1) (i:=1) (sz:=2) (cs:=[di n,.arr 1 0 (I ks)]) (xs:=ks'.map eV) (by decide) rfl rfl (by decide) (by rw[HJ,hl', ←hl];rfl) (sz2 ks') e
   refine LW (hcv _) ?_
   show Rn PP BN 0 (dV (.mk n ks')) bd (nc++[]) (cz 117 [(2,.v (.ref (vT (.prod l)))),(4,.ptr 0 0),(5,.ptr 2 0),(6,di (I ks'))]) ⟨[G [di 0,.v .nils],none,G [di n,co ks']],[]⟩
   exact zo [2,3] (.f<|.k<|.r) (yd (I ks') (I (U eV ks'))/\Q (dV (b9.mk n ks'))) ⟨HO (by rw[HJ];omega),rfl⟩
  |succ m ih=>
   intro k hm hk
   obtain⟨t,ht⟩:=yk (show k<I l by omega)
   obtain⟨x,hx⟩:=yk (show k<I ks by omega)
   obtain⟨x',hx'⟩:∃x,ks'[k]?=G x:=⟨_,HK (show k<I ks' by omega)⟩
   have hd:ks.drop k=x::ks.drop (k+1):=by rw[HZ (show k<I ks by omega),(HN.1 hx).2]
   have htk:ks'.take (k+1)=ks'.take k++[x']:=by rw[J2,hx'];rfl
   have hkl:I (ks'.take k)=k:=by rw[ID];omega
   have hm1:=Lj (ks'.take k) (ks.drop (k+1)) x x'
   have hat:=E8 (l:=ks'.take k++x::ks.drop (k+1)) (i:=k) (x:=x) (by rw[I2 (by omega),hkl,Nat.sub_self];rfl)
   rw[hkl] at hm1
   rw[hd]
   have hih:=ih (k+1) (by omega) (by omega)
   rw[htk,Jx,List.singleton_append] at hih
   exact Agg l n (I ks) k (by omega) (by omega) _ _ (by rw[B1,HY,HP,Jw,hkl];omega) t x x' hat hm1 ht (hs k t x x' ht hx hx') _ _ hih
 have hlp:=loop _ 0 rfl (II _)
 have hF:=Dq (.mk n ks)
 have hcall:∀(o:yy) (c:Call) (fo:x8),o.op=.call c->c.callee=.value fo->Ak PP o [.v (.fn 131 [] []),dV (.mk n ks)] ⟨[G [di 0,.v .nils]],[]⟩ (.dagg [di n,.arr 1 0 (I ks)]) ⟨[G [di 0,.v .nils],G (gk (.mk n ks))],[]⟩:=fun o c fo ho hc=>SS (H:=[G [di 0,.v .nils]]) rfl hF hcp ho hc
 have hlp:Rn PP BN 0 (dV (.mk n ks')) bd (nc++[]) (cz 117 [(2,.v (.ref (vT (.prod l)))),(4,.ptr 0 0),(5,.ptr 2 0),(6,di (0:Nat))]) (GX n (I ks) (gk (.mk n ks))):=hlp
 clear hcp
 generalize gk (.mk n ks)=F at*
 exact sv BN 117 [2,3] (.h (.oc (.dagg [di n,.arr 1 0 (I ks)]) ⟨[G [di 0,.v .nils],G F],[]⟩)<|.l [ke 2,ke 4,ke 5,ch 6 (di (0:Nat))]) (_/\Q (di 0)/\_) ⟨hcall,rfl,iK hlp⟩
theorem Agh(t:cr)(n:Int)(T:List b9)(hn:T≠ [])(hz:(b9.mk n T).size<=900)(hs:∀x∈T,F0 242 [dT t,dV x] (dV x)):F0 242 [dT (.bag t),dV (.mk n T)] (dV (.mk n (sortV T))):=by
 have hsz:=(b9.mk n T).size_eq
 have hle:=b9.length_le T
 have hks:(b9.mk n T).az=T:=rfl
 rw[hks] at hsz
 have hcp:=vg (.mk n T) hn hz
 have hsl:=Agj (.bag t) n T (by omega) (fun x hx=>by have:=b9.size_mem hx;omega) _ 1 T (HR _) rfl (List.Perm.refl _) (by
  cases T<;>grind)
 have loop (m:Nat):∀k:Nat,I T-k=m->k<=I T->Rn PP BN 0 (dV (.mk n (sortV T))) bd (nc++[]) (cz 117 [(2,.v (.ref (vT (.bag t)))),(4,.ptr 0 0),(5,.ptr 2 0),(6,di k)]) (GX n (I T) (Ab (T.map eV))):=by
  induction m with
  |zero=>
   intro k hm hk
   have hsl:Rn PP BN 0 (dV (.mk n (sortV T))) bd (Hv++[]) (cz 117 [(2,.v (.ref (vT (.bag t)))),(4,.ptr 0 0),(5,.ptr 2 0),(7,di (1:Nat))]) (GX n (I T) (Ab (T.map eV))):=hsl
   generalize Ab (T.map eV)=F at*
   exact zo [2,3] (.f<|.k<|.l [ke 2,ke 4,ke 5,ch 7 (di (1:Nat))]) (yd k (I T)/\Q (di 1)/\_) ⟨yq,rfl,iK hsl⟩
  |succ m ih=>
   intro k hm hk
   obtain⟨x,hx⟩:=yk (show k<I T by omega)
   exact Agf t n (I T) k (by omega) (by omega) _ _ (B1 T) x x (E8 hx) (NN hx) (hs x (HQ hx)) _ _ (ih (k+1) (by omega) (by omega))
 have hlp:=loop _ 0 rfl (II _)
 have hF:=Dq (.mk n T)
 have hcall:∀(o:yy) (c:Call) (fo:x8),o.op=.call c->c.callee=.value fo->Ak PP o [.v (.fn 131 [] []),dV (.mk n T)] ⟨[G [di 0,.v .nils]],[]⟩ (.dagg [di n,.arr 1 0 (I T)]) ⟨[G [di 0,.v .nils],G (gk (.mk n T))],[]⟩:=fun o c fo ho hc=>SS (H:=[G [di 0,.v .nils]]) rfl hF hcp ho hc
 have hlp:Rn PP BN 0 (dV (.mk n (sortV T))) bd (nc++[]) (cz 117 [(2,.v (.ref (vT (.bag t)))),(4,.ptr 0 0),(5,.ptr 2 0),(6,di (0:Nat))]) (GX n (I T) (gk (.mk n T))):=hlp
 clear hcp hsl loop
 generalize gk (.mk n T)=F at*
 exact sv BN 117 [2,3] (.h (.oc (.dagg [di n,.arr 1 0 (I T)]) ⟨[G [di 0,.v .nils],G F],[]⟩)<|.l [ke 2,ke 4,ke 5,ch 6 (di (0:Nat))]) (_/\Q (di 0)/\_) ⟨hcall,rfl,iK hlp⟩
theorem AkD(a b:Int)(p:Int×Int):F0 242 [dT (.prod [.lab a,.lab b]),dV (pV p)] (dV (pV p)):=by
 refine RC [.lab a,.lab b] 0 [lf p.1,lf p.2] [lf p.1,lf p.2] (by simp) rfl rfl (by show 3<=900;decide) (fun i t x x' ht hx hx'=>?_)
 grind[Qd]
theorem OA:∀ps:List (Int×Int),b9.sizes (ps.map pV)=3*I ps
 |[]=>rfl
 |p::ps=>by
  show(pV p).size+b9.sizes (ps.map pV)=_
  rw[OA ps,HP]
  show 3+_=_
  omega
theorem Ol(ps:List (Int×Int)):(b9.mk 0 (ps.map pV)).size=1+3*I ps:=by grind[OA,b9.size]
theorem Hm(s:Int)(ps:List (Int×Int)):(ez s ps).size=3+3*I ps:=by
 show 1+((lf s).size+((b9.mk 0 (ps.map pV)).size+0))=_
 rw[Ol]
 show 1+(1+_)=_
 omega
theorem An9(m:cx)(s:Int)(ps:List (Int×Int))(hl:I ps<=100):F0 242 [dT (Az m),dV (ez s ps)] (dV (ez s (BQ ps))):=by
 have hb:F0 242 [dT (.bag (.prod [.lab (I m.ay),.lab (m.age+2)])),dV (.mk 0 (ps.map pV))] (dV (.mk 0 ((BQ ps).map pV))):=by
  by_cases e:ps=[]
  ·subst e
   rw[show BQ []=[] by simp[BQ]]
   exact Qd _ 0
  ·rw[←VV]
   exact Agh _ 0 (ps.map pV) (by simp_all) (by grind[Ol]) (fun x hx=>by
    obtain⟨p,_,rfl⟩:=IQ.1 hx
    grind[AkD])
 grind[RC,ez,Hm,Qd,Az]
theorem TW(m:cx)(hm:Dp m)(s:Int)(ps:List (Int×Int))(hl:I ps<=40)(hv:Al (Az m) (ez s (BQ ps))=J):F0 184 [dT (Az m),dV (ez s ps)] (.tup [dV (ez s (BQ ps)),di 0]):=by
 have h1:=Ae0 m hm
 have h2:=An9 m s ps (by omega)
 have h3:=HB m hm (ez s (BQ ps))
 rw[hv] at h3
 generalize Az m=t at*
 have hz:=Hm s ps
 generalize ez s (BQ ps)=w at*
 generalize ez s ps=v at*
 exact sv AoJ 27 [2,3] (.c (di 0)<|.k<|.c (di (min (v.size:Int) (128+1)))<|.f<|.c (dV w)<|.c (db J)<|.k<|.r) (_/\_/\yb (min (↑(b9.size v):Int) (128+1)) 128/\_/\_/\Q (bl [dV w,di 0])) ⟨h1,JR _ v (HR _) 128 (by decide) (by decide),yq,h2,h3,rfl⟩
theorem Ago(m:cx)(hm:Dp m)(s:Int)(ps:List (Int×Int))(hl:I ps<=40)(hv:Al (Az m) (ez s (BQ ps))=O):F0 184 [dT (Az m),dV (ez s ps)] (.tup [dV (.mk 0 []),di 5]):=by
 have h1:=Ae0 m hm
 have h2:=An9 m s ps (by omega)
 have h3:=HB m hm (ez s (BQ ps))
 rw[hv] at h3
 generalize Az m=t at*
 have hz:=Hm s ps
 generalize ez s (BQ ps)=w at*
 generalize ez s ps=v at*
 exact sv AoJ 27 [2,3] (.c (di 0)<|.k<|.c (di (min (v.size:Int) (128+1)))<|.f<|.c (dV w)<|.c (db O)<|.k<|.r) (_/\_/\yb (min (↑(b9.size v):Int) (128+1)) 128/\_/\_/\Q (bl [dV (b9.mk 0 []),di 5])) ⟨h1,JR _ v (HR _) 128 (by decide) (by decide),yq,h2,h3,rfl⟩
theorem LG(m:cx)(hm:BB m):F0 185 [Af m] (di 0):=by
 have h:=Ta m hm
 have hk:=hm.kind
 refine sv AoZ 12 [1] (.c (di 0)<|.k<|.f<|.r) (ut m/\(m.kind !=5)=O/\Q (di 0)) ?_
 grind
theorem Aa5(m:cx)(hm:BB m):F0 182 [Af m] (.tup [dT (Az m),di 0]):=by
 have h:=Ta m hm
 have h2:=Ak2 m hm.kind ⟨hm.age.1,by have:=hm.age.2;omega⟩
 generalize Az m=t at*
 refine sv AoH 13 [1] (.c (di 0)<|.k<|.c (dT t)<|.r) (ut m/\F0 83 [Af m] (dT t)/\Q (bl [dT t,di 0])) ?_
 grind
theorem Ak8(m:cx)(ha:0<=m.age/\m.age<=1000)(ty:D)(hty:D.pls (A2 ty)=J)(s:Int)(ps:List (Int×Int))(hn:I ps<=1000)(hp:∀p∈ps,0<=p.2/\p.2<m.age+2){d:D}{σ':St}
  (fin:Rn PP FJ 0 d σ' ([zu FJ 1012,.blk 0,zt FJ 127]++[]) (cz 76 [(2,.v (.ref (Aq m))),(4,.ptr 0 0),(7,.ptr 1 0),(9,.ptr 2 0),(10,di (I ps:Nat))]) (kj ty s (I ps) (fb (gI (I ps) (I ps)) (I ps)) (dj ((fq m ps).map pV)))) (k:Nat):∀i:Nat,I ps-i=k->i<=I ps->
  Rn PP FJ 0 d σ' ([zu FJ 1012,.blk 0,zt FJ 127]++[]) (cz 76 [(2,.v (.ref (Aq m))),(4,.ptr 0 0),(7,.ptr 1 0),(9,.ptr 2 0),(10,di (i:Nat))]) (kj ty s (I ps) (fb (gI (I ps) i) (I ps)) (dj ((ps.drop i).map pV)++dj ((fq m (ps.take i)).map pV))):=by
 induction k with
 |zero=>
  intro i hk hi
  have e:i=I ps:=by omega
  subst e
  rw[List.drop_length,take_length]
  exact fin
 |succ k ih=>
  intro i hk hi
  obtain⟨p,hx⟩:=yk (show i<I ps by omega)
  have hd:ps.drop i=p::ps.drop (i+1):=by grind[List.drop_eq_getElem_cons]
  have ht:fq m (ps.take (i+1))=fq m (ps.take i)++[(p.1,ES m p.2)]:=by grind[fq]
  have hih:=ih (i+1) (by omega) (by omega)
  have eQ:dj ((ps.drop (i+1)).map pV)++dj ((fq m (ps.take (i+1))).map pV)=(dj ((ps.drop (i+1)).map pV)++dj ((fq m (ps.take i)).map pV))++[G (wq (p.1,ES m p.2))]:=by
   rw[ht,J5,show ∀a b:List b9,dj (a++b)=dj a++dj b from fun a b=>by simp[dj], ←Jx];rfl
  rw[eQ] at hih
  rw[hd]
  refine Ak7 m ha ty hty s (I ps) i (by omega) hn p (hp p (HQ hx)) (dj ((ps.drop (i+1)).map pV)++dj ((fq m (ps.take i)).map pV)) (by simp[dj,fq];omega) (fun j cs hj=>?_) hih
  rw[show dj ((ps.drop (i+1)).map pV)++dj ((fq m (ps.take i)).map pV)=dj ((ps.drop (i+1)).map pV++(fq m (ps.take i)).map pV) by simp[dj]] at hj
  obtain⟨y,_,rfl⟩:=ML hj
  exact Dq y
noncomputable abbrev tj:List KI:=[zu FJ 1012,.blk 0,zt FJ 127]
theorem Anv(m:cx)(t:cr)(s:Int)(T:List b9)(hT:∀x∈T,wb x)(w:b9)(hs:F0 184 [dT t,dV (.mk 0 [lf s,.mk 0 T])] (.tup [dV w,di 0])):
  Rn PP FJ 0 (.tup [dV w,di 0]) bd (tj++[]) (cz 76 [(2,.v (.ref (Aq m))),(4,.ptr 0 0),(7,.ptr 1 0),(9,.ptr 2 0),(10,di (I T:Nat))]) (kj (dT t) s (I T) (fb (gI (I T) (I T)) (I T)) (dj T)):=by
 obtain⟨Z,hcv⟩:=Al8 (dT t) s T (fun x hx=>(hT x hx).1) (fun x hx=>(hT x hx).2) (cz 76 [(2,.v (.ref (Aq m))),(4,.ptr 0 0),(7,.ptr 1 0),(9,.ptr 2 0),(10,di (I T:Nat))])
 refine LW hcv ?_
 have hgo:Rn PP FJ 0 (.tup [dV w,di 0]) bd (tj++[]) (cz 76 [(2,.v (.ref (Aq m))),(4,.ptr 0 0),(7,.ptr 1 0),(9,.ptr 2 0),(10,di (I T:Nat))]) ⟨[G [di 0,.v .nils],G (A2 (dT t)),G [di 0,co [lf s,.mk 0 T]]],[]⟩:=by
  exact zo [2,3] (.x (Ad (.mk 0 T))<|.f<|.c (.tup [dV w,di 0])<|.r) (iz 0<=1/\G (eV (b9.mk 0 T))=G (Ad (b9.mk 0 T))/\yd (I T) (I (U eV (b9.az (b9.mk 0 T))))/\_/\Q (bl [dV w,di 0])) ⟨by decide,I6 G (AE _),HO (by grind[b9.az]),hs,rfl⟩
 refine Cq (H':=[G [di 0,.v .nils],G (A2 (dT t)),G [di 0,co [lf s,.mk 0 T]]]) (e':=cz 76 [(2,.v (.ref (Aq m))),(4,.ptr 0 0),(7,.ptr 1 0),(9,.ptr 2 0),(10,di (I T:Nat))]) (m:=0) (fun _ _ h=>h.2) id (II _) (fun i _=>rfl) (fun i j _ _ h=>h) (fun i cs hi=>?_) (by rfl) (by rfl) hgo
 match i,hi with
 |0,hi=>simp at hi;subst hi;exact⟨rfl,by rfl⟩
 |1,hi=>
  have hp:D.pls (A2 (dT t))=J:=rfl
  grind[AA,AO]
 |2,hi=>
  have hi:G (G [di 0,co [lf s,.mk 0 T]])=G (G cs):=hi
  simp only[IF] at hi
  subst hi
  exact⟨rfl,rfl⟩
 |i+3,hi=>grind
theorem XR(m:cx)(hm:BB m)(s:Int)(ps:List (Int×Int))(hw:q0 m s ps)(hne:ps≠ [])(hv:Al (Az m) (ez s ps)=J)(hv2:Al (Az m) (ez s (BQ (fq m ps)))=J):F0 180 [Af m,dV (ez s ps)] (.tup [dV (ez s (BQ (fq m ps))),di 0]):=by
 have hlen:=hw.len
 have ha:0<=m.age/\m.age<=1000:=⟨hm.age.1,by have:=hm.age.2;omega⟩
 have h1:=LG m hm
 have h2:=HC m hm (ez s ps)
 rw[hv] at h2
 have h3:=Aa5 m hm
 have hol:I (fq m ps)=I ps:=by simp[fq]
 have h4:=TW m hm.n s (fq m ps) (by omega) hv2
 have hcp:=ArY (lf s) (.mk 0 (ps.map pV)) rfl rfl (by grind[Ol]) (fun y hy=>by
  obtain⟨p,_,rfl⟩:=IQ.1 hy
  exact⟨rfl,rfl⟩) (by simpa[b9.az] using hne) (ez s ps) rfl rfl
 have hkl:(b9.mk 0 (ps.map pV)).az.length=I ps:=by show(ps.map pV).length=_;simp
 rw[hkl] at hcp
 have hend:=Anv m (Az m) s ((fq m ps).map pV) (fun x hx=>by
  obtain⟨p,_,rfl⟩:=IQ.1 hx
  exact⟨rfl,rfl⟩) _ h4
 rw[HJ,hol] at hend
 have hlp:=Ak8 m ha (dT (Az m)) rfl s ps (by omega) (fun p hp=>(hw.tok p hp).2) hend _ 0 rfl (II _)
 rw[JG,show fq m (ps.take 0)=[] by rfl,show dj (([]:List (Int×Int)).map pV)=[] from rfl,IX (dj _)] at hlp
 obtain⟨n,hn⟩:∃n,I ps=n:=⟨_,rfl⟩
 have hO:I (dj (ps.map pV))=n:=by grind[MK]
 have hOget:=fun(i:Nat) (cs:List D) (h:(dj (ps.map pV))[i]?=G (G cs))=>(ML h).elim fun y hy=>(show D.pls cs=J by grind[Dq])
 have hOren:=fun ρ τ=>Wo ρ τ (ps.map pV)
 have hOok:=fun n=>Q5 (n:=n) (ps.map pV)
 rw[hn] at hcp hlp
 change Aa PP _ _ _ (.dagg [di 0,.arr 0 0 2]) ⟨G (H8 (lf s) 1 n)::G (ei 2 n)::dj (ps.map pV),[]⟩ at hcp
 clear hend h4 hv hv2
 generalize ez s (BQ (fq m ps))=w at*
 generalize ez s ps=c at*
 generalize dj (ps.map pV)=Q at*
 have hty:D.pls (A2 (dT (Az m)))=J:=rfl
 have hcall:∀(o:yy) (cl:Call) (fo:x8),o.op=.call cl->cl.callee=.value fo->Ak PP o [.v (.fn 131 [] []),dV c] ⟨[G [di 0,.v .nils],G (A2 (dT (Az m)))],[]⟩ (.dagg [di 0,.arr 2 0 2]) ⟨G [di 0,.v .nils]::G (A2 (dT (Az m)))::(G (H8 (lf s) 3 n)::G (ei 4 n)::Q),[]⟩:=fun o cl fo ho hc=>by
  have h:=BE (σ:=⟨[G [di 0,.v .nils],G (A2 (dT (Az m)))],[]⟩) ho hc (fD:=.v (.fn 131 [] [])) rfl (ds:=[dV c]) [] id hcp (.cons (.ren (dc:=dV c) rfl) .nil) .nil (by simp) rfl (by simp) (by simp) (by rfl) (by
   grind[cp,LS,D.okNs,D.okN])
  have e1:Dn (d6 2 []) id (G (H8 (lf s) 1 n)::G (ei 2 n)::Q)=G (H8 (lf s) 3 n)::G (ei 4 n)::Q:=by
   show G (D.rens (d6 2 []) id (H8 (lf s) 1 n))::G (D.rens (d6 2 []) id (ei 2 n))::Dn (d6 2 []) id Q=_
   rw[hOren,Hn 2 4 _ (fun i _=>by grind[d6])]
   rfl
  have h:Ak PP o [.v (.fn 131 [] []),dV c] ⟨[G [di 0,.v .nils],G (A2 (dT (Az m)))],[]⟩ ((bj [di 0,.arr 0 0 2]).ren (d6 2 []) id) ⟨G [di 0,.v .nils]::G (A2 (dT (Az m)))::Dn (d6 2 []) id (G (H8 (lf s) 1 n)::G (ei 2 n)::Q),[]⟩:=h
  rw[e1] at h
  exact h
 have hgo:Rn PP FJ 0 (.tup [dV w,di 0]) bd (tj++[]) (cz 76 [(2,.v (.ref (Aq m))),(4,.ptr 0 0),(7,.ptr 1 0),(9,.ptr (n+4) 0),(10,di (0:Nat))]) ⟨G [di 0,.v .nils]::G (A2 (dT (Az m)))::((G (H8 (lf s) 3 n)::G (ei 4 n)::Q)++[G [di 0,.arr 2 0 2]]),[]⟩:=by
  have hH:(kj (dT (Az m)) s n (fb (gI n 0) n) Q).H.length=n+5:=by grind
  refine Cq (H':=(kj (dT (Az m)) s n (fb (gI n 0) n) Q).H) (e':=cz 76 [(2,.v (.ref (Aq m))),(4,.ptr 0 0),(7,.ptr 1 0),(9,.ptr 2 0),(10,di (0:Nat))]) (m:=0) (fun _ _ h=>h.2) (fun i=>if i<2 then i else if i=2 then n+4 else i-1) (II _) (fun i hi=>by omega) (fun i j hi hj h=>?_) (fun i cs hi=>?_) (by rfl) (by rfl) hlp
  ·grind
  ·rw[hH]
   match i,hi with
   |0,hi=>simp at hi;subst hi;exact⟨rfl,by rfl⟩
   |1,hi=>
    grind[AA,AO]
   |2,hi=>
    simp at hi;subst hi
    refine⟨?_,by simp[D.okNs,D.okN]⟩
    grind[D.rens,D.ren]
   |3,hi=>
    have hi:G (G [di s,co [],di 0,.arr 4 0 n])=G (G cs):=hi
    simp only[IF] at hi
    subst hi
    exact⟨rfl,by rfl⟩
   |4,hi=>
    have hi:G (G (fb (gI n 0) n))=G (G cs):=hi
    simp only[IF] at hi
    subst hi
    refine⟨?_,Ajq n fun j hj=>Ao9 (by omega) hj⟩
    rw[VN (g':=fun j=>4+j) n fun j hj=>?_]
    ·rfl
    grind[gI]
   |i+5,hi=>
    grind[AO,AA]
 have hHs:I (G (H8 (lf s) 3 n)::G (ei 4 n)::Q)=n+2:=by grind
 generalize G (H8 (lf s) 3 n)::G (ei 4 n)::Q=Hs at*
 refine sv FJ 76 [2,3] (.c (di 0)<|.k<|.c (db J)<|.k<|.c (.tup [dT (Az m),di 0])<|.h (.oc (.dagg [di 0,.arr 2 0 2]) ⟨G [di 0,.v .nils]::G (A2 (dT (Az m)))::Hs,[]⟩)<|.h (.o (.ptr (n+4) 0) ⟨G [di 0,.v .nils]::G (A2 (dT (Az m)))::(Hs++[G [di 0,.v .nils]]),[]⟩)<|.h (.o .undef ⟨G [di 0,.v .nils]::G (A2 (dT (Az m)))::(Hs++[G [di 0,.arr 2 0 2]]),[]⟩)<|.l [ke 2,ke 4,ke 7,ke 9,ch 10 (di (0:Nat))]) (_/\_/\_/\_/\Ak PP (Oper.mk (G 9) (Op.alloc 34) 0 "ref.go:83" #[] none) [] (bi (G [di 0,dn]::G [di (cr.kd (Az m)),di (cr.sz (Az m)),bt (cy (cr.rk (Az m))),bt (ae [eT (cr.lab (I m.aw:Int)),eT (cr.bag (cr.prod [cr.lab (I m.ay:Int),cr.lab (m.age+2)]))])]::Hs) []) (bq (n+4) 0) (bi (G [di 0,dn]::G [di (cr.kd (Az m)),di (cr.sz (Az m)),bt (cy (cr.rk (Az m))),bt (ae [eT (cr.lab (I m.aw:Int)),eT (cr.bag (cr.prod [cr.lab (I m.ay:Int),cr.lab (m.age+2)]))])]::(Hs++[G [di 0,dn]])) [])/\Ak PP (Oper.mk none (Op.store 34 (Operand.tmp 9) (Operand.tmp 30)) 0 "ref.go:83" #[Edge.mk 2 Ground.data,Edge.mk 1 Ground.data,Edge.mk 1 Ground.chain,Edge.mk 0 Ground.phase,Edge.mk 1 Ground.phase,Edge.mk 2 Ground.phase] none) [bq (n+4) 0,bj o7] (bi (G [di 0,dn]::G [di (cr.kd (Az m)),di (cr.sz (Az m)),bt (cy (cr.rk (Az m))),bt (ae [eT (cr.lab (I m.aw:Int)),eT (cr.bag (cr.prod [cr.lab (I m.ay:Int),cr.lab (m.age+2)]))])]::(Hs++[G [di 0,dn]])) []) bk (bi (G [di 0,dn]::G [di (cr.kd (Az m)),di (cr.sz (Az m)),bt (cy (cr.rk (Az m))),bt (ae [eT (cr.lab (I m.aw:Int)),eT (cr.bag (cr.prod [cr.lab (I m.ay:Int),cr.lab (m.age+2)]))])]::(Hs++[G o7])) [])/\di 0=di (↑0:Int)/\_) ⟨h1,h2,h3,hcall,?_,?_,rfl,iK hgo⟩
 ·have hN:n+4=I (G [di 0,.v .nils]::G (A2 (dT (Az m)))::Hs):=by grind
  rw[hN]
  exact N4 rfl (xs:=[vi 0,.nils]) rfl
 ·have h:=My (P:=PP) (o:=Oper.mk none (Op.store 34 (Operand.tmp 9) (Operand.tmp 30)) 0 "ref.go:83" #[Edge.mk 2 Ground.data,Edge.mk 1 Ground.data,Edge.mk 1 Ground.chain,Edge.mk 0 Ground.phase,Edge.mk 1 Ground.phase,Edge.mk 2 Ground.phase] none) (σ:=⟨G [di 0,.v .nils]::G (A2 (dT (Az m)))::(Hs++[G [di 0,.v .nils]]),[]⟩) (d:=.dagg [di 0,.arr 2 0 2]) rfl rfl (n:=2) (b:=true) rfl rfl (q:=n+4) (off:=0) (cs:=[di 0,.v .nils]) (by
   grind) (by decide)
  have e:(G [di 0,.v .nils]::G (A2 (dT (Az m)))::(Hs++[G [di 0,.v .nils]])).set (n+4) (G [di 0,.arr 2 0 2])=G [di 0,.v .nils]::G (A2 (dT (Az m)))::(Hs++[G [di 0,.arr 2 0 2]]):=by
   simp_all
  have h:Ak PP _ [.ptr (n+4) 0,.dagg [di 0,.arr 2 0 2]] ⟨G [di 0,.v .nils]::G (A2 (dT (Az m)))::(Hs++[G [di 0,.v .nils]]),[]⟩ .undef ⟨(G [di 0,.v .nils]::G (A2 (dT (Az m)))::(Hs++[G [di 0,.v .nils]])).set (n+4) (G [di 0,.arr 2 0 2]),[]⟩:=h
  rw[e] at h
  exact h
theorem XQ(m:cx)(hm:BB m)(s:Int)(hv:Al (Az m) (ez s [])=J):F0 180 [Af m,dV (ez s [])] (.tup [dV (ez s []),di 0]):=by
 have h1:=LG m hm
 have h2:=HC m hm (ez s [])
 rw[hv] at h2
 have h3:=Aa5 m hm
 have h4:=TW m hm.n s [] (by decide) (by rw[show BQ []=[] by simp[BQ]];exact hv)
 rw[show BQ []=[] by simp[BQ]] at h4
 have hcp:=vg (ez s []) (by simp[ez,b9.az]) (by grind[Hm])
 have hcall:∀(o:yy) (cl:Call) (fo:x8),o.op=.call cl->cl.callee=.value fo->Ak PP o [.v (.fn 131 [] []),dV (ez s [])] ⟨[G [di 0,.v .nils],G (A2 (dT (Az m)))],[]⟩ (.dagg [di 0,.arr 2 0 2]) ⟨[G [di 0,.v .nils],G (A2 (dT (Az m))),G [di s,co [],di 0,co []]],[]⟩:=fun o cl fo ho hc=>SS (x:=ez s []) (H:=[G [di 0,.v .nils],G (A2 (dT (Az m)))]) rfl rfl hcp ho hc
 have hgo:Rn PP FJ 0 (.tup [dV (ez s []),di 0]) bd (tj++[]) (cz 76 [(2,.v (.ref (Aq m))),(4,.ptr 0 0),(7,.ptr 1 0),(9,.ptr 3 0),(10,di (0:Nat))]) ⟨[G [di 0,.v .nils],G (A2 (dT (Az m))),G [di s,co [],di 0,co []],G [di 0,.arr 2 0 2]],[]⟩:=by
  have sz2:∀l:List b9,∀v∈l.map eV,v.size=2:=fun l v hv=>by
   grind[AE,V.size]
  have e3:Ab ([lf s,.mk 0 []].map eV)=[di s,co [],di 0,co []]:=by rfl
  have hcv:=fun e=>BA (σ:=⟨[G [di 0,.v .nils],G (A2 (dT (Az m))),G [di s,co [],di 0,co []],G [di 0,.arr 2 0 2]],[]⟩) (p:=3) (q:=2) (i:=1) (sz:=2) (cs:=[di 0,.arr 2 0 2]) (xs:=[lf s,.mk 0 []].map eV) (by decide) rfl (by rfl) (by decide) rfl (sz2 _) e
  refine LW (hcv _) ?_
  show Rn PP FJ 0 (.tup [dV (ez s []),di 0]) bd (tj++[]) (cz 76 [(2,.v (.ref (Aq m))),(4,.ptr 0 0),(7,.ptr 1 0),(9,.ptr 3 0),(10,di (0:Nat))]) ⟨[G [di 0,.v .nils],G (A2 (dT (Az m))),none,G [di 0,co [lf s,.mk 0 []]]],[]⟩
  clear hcv hcall hcp
  generalize Az m=t at*
  exact zo [2,3] (.x (Ad (.mk 0 []))<|.k<|.c (.tup [dV (ez s []),di 0])<|.r) (iz 0<=1/\G (eV (b9.mk 0 []))=G (Ad (b9.mk 0 []))/\_/\Q (bl [dV (ez s []),di 0])) ⟨by decide,I6 G (AE _),h4,rfl⟩
 generalize Az m=t at*
 exact sv FJ 76 [2,3] (.c (di 0)<|.k<|.c (db J)<|.k<|.c (.tup [dT t,di 0])<|.h (.oc (.dagg [di 0,.arr 2 0 2]) ⟨[G [di 0,.v .nils],G (A2 (dT t)),G [di s,co [],di 0,co []]],[]⟩)<|.l [ke 2,ke 4,ke 7,ke 9,ch 10 (di (0:Nat))]) (_/\_/\_/\_/\Q (di 0)/\_) ⟨h1,h2,h3,hcall,rfl,iK hgo⟩
theorem XP(m:cx)(hm:BB m)(c:b9)(hv:Al (Az m) c=J):F0 180 [Af m,dV c] (.tup [dV (ot m c),di 0]):=by
 obtain⟨s,ps,rfl,hw⟩:=Qa hv
 obtain⟨e1,hw2⟩:=AaH ⟨hm.age.1,by have:=hm.age.2;omega⟩ hw
 rw[e1]
 by_cases hne:ps=[]
 ·subst hne
  rw[show BQ (fq m [])=[] by simp[BQ,fq]]
  grind[XQ]
 grind[XR,VL]
noncomputable def FG:=yl EZ
abbrev vP(l:List (Int×Int)):V:=dq (l.map pV)
abbrev k8(L:List (List (Int×Int))):V:=.list (L.map vP)
theorem AaF(ys:List V):F0 186 [.v (.list ys),.v (AH [])] (.v (.list [.list ys])):=by
 refine zq EZ 73 (.k<|.r) (Q (bt (ae [ae ys]))) ?_
 rfl
abbrev TT(xs:List V):St:=⟨[],[(1,1,xs)]⟩
noncomputable abbrev tl:List KI:=[zu EZ 244,.blk 0,zt EZ 31]
theorem TX(l:List (Int×Int)):∀x∈ (l.map pV).map eV,V.size x=2:=by grind[AE,V.size]
noncomputable abbrev gh:=fun a₀=>(U eV (U pV a₀))
theorem AfG(tk:Tk)(l:List (Int×Int))(hl:I l<=100)(k:Nat)(p:Int×Int)(hp:l[k]?=G p)(xs:List V)(hxs:I xs<=100)(hm:je tk l k=J)(d:D)
  (next:Rn PP EZ 0 d bd (tl++[]) (cz 73 [(0,.v (vP l)),(1,.v (AH [tk])),(5,.acc 1 (xs++[vP (l.take k++l.drop (k+1))])),(6,di (k+1:Nat))]) (TT (xs++[vP (l.take k++l.drop (k+1))]))):
  Rn PP EZ 0 d bd (tl++[]) (cz 73 [(0,.v (vP l)),(1,.v (AH [tk])),(5,.acc 1 xs),(6,di k)]) (TT xs):=by
 have hk:=(HN.1 hp).1
 have hlen:I ((l.map pV).map eV)=I l:=by simp
 have hpx:((l.map pV).map eV)[Z (k:Int)]?=G (Ad (pV p)):=Ap (by rw[IP,hp];rfl)
 have hsz:=TX l
 have hcut:W 0 (take (Z (k:Int)) ((l.map pV).map eV))++W (Z ((k+1:Nat):Int)) (take (I ((l.map pV).map eV)) ((l.map pV).map eV))=((l.take k++l.drop (k+1)).map pV).map eV:=by
  rw[JG,take_length,Jy,Jy,J5,J5,map_take,map_take,map_drop,map_drop]
 have hc:=AaF (((l.take k++l.drop (k+1)).map pV).map eV)
 have hw1:yu .i64 ((k:Int)+1)=((k+1:Nat):Int):=by rw[An];omega
 unfold je at hm
 rw[hp] at hm
 simp only[HL] at hm
 obtain⟨m1,m2,m3⟩:=hm
 generalize hR:vP (l.take k++l.drop (k+1))=R at next
 refine lv 73 [] (.t<|.x (Ad (pV p))<|.x (Ad (lf p.2))<|.x (Ad (pV p))<|.x (Ad (lf p.1))<|.x (d9 tk)<|.t<|.x (d9 tk)<|.t<|.x (d9 tk)<|.t<|.a 2<|.w<|.w<|.c (.v (.list [R]))<|.w<|.ls (qt k) (TT (xs++[R]))) (Y ((k:Int)<(I (gh l):Int))=J/\0<=(k:Int)/\type_of% hpx/\iz 0<=1/\G (eV (fh p.snd))=G (Ad (lf p.snd))/\0<=(k:Int)/\(gh l)[Z (k:Int)]?=G (Ad (pV p))/\iz 0<=0/\G (eV (fh p.fst))=G (Ad (lf p.fst))/\iz 0<=0/\Q (G (d9 tk))/\(b9.n (lf p.fst)==tk.place)=J/\iz 0<=0/\Q (G (d9 tk))/\Y (b9.n (lf p.snd)>=tk.low)=J/\iz 0<=0/\Q (G (d9 tk))/\Y (b9.n (lf p.snd)<=tk.high)=J/\(∀(x:V),x∈U eV (U pV l)->V.size x=2)/\0<=(fun x=>x.snd) (gm k)/\(fun x=>x.snd) (gm k)<=(I (gh l):Int)/\Ao (I (W 0 (take (Z ((fun x=>x.snd) (gm k))) (gh l)))) 32/\(∀(y:V),y∈W 0 (take (Z ((fun x=>x.snd) (gm k))) (gh l))->V.size y=2)/\(∀(x:V),x∈U eV (U pV l)->V.size x=2)/\0<=(fun x=>x.snd) (yt,yu yt ((k:Int)+1))/\(fun x=>x.snd) (yt,yu yt ((k:Int)+1))<=(I (gh l):Int)/\Q (W 0 (take (Z ((fun x=>x.snd) (gm k))) (gh l)))/\Ao (I (W 0 (take (Z ((fun x=>x.snd) (gm k))) (gh l)))+I (W (Z ((fun x=>x.snd) (yt,yu yt ((k:Int)+1)))) (take (I (gh l)) (gh l)))) 32/\(∀(y:V),y∈W (Z ((fun x=>x.snd) (yt,yu yt ((k:Int)+1)))) (take (I (gh l)) (gh l))->V.size y=2)/\(∀(x:V),x∈ [d9 tk]->V.size x=3)/\0<=(1:Int)/\(1:Int)<=(I (U d9 [tk]):Int)/\F0 186 [bt (ae (W 0 (take (Z ((fun x=>x.snd) (gm k))) (gh l))++W (Z ((fun x=>x.snd) (yt,yu yt ((k:Int)+1)))) (take (I (gh l)) (gh l)))),bt (ae [])] (bt (ae [R]))/\Q xs/\Ao (I xs+I (R::nV)) 24/\(∀(y:V),y∈ [R]->V.size y=1)/\di (yu yt ((k:Int)+1))=di (↑(k+1):Int)/\Q [(1,1,xs++R::nV)]/\I0 EZ 0 d bd [kl FG fd,bh 0,kc FG [1,1,1,1]] (cz 73 [(0,bt (vP l)),(1,bt (AH [tk])),(5,br 1 (xs++[R])),(6,di (↑(k+1):Int))]) (TT (xs++[R]))) ?_
 rw[hw1]
 have l1:I (W 0 (take (Z (k:Int)) ((l.map pV).map eV)))<=100:=by simp only[Jw,ID,hlen];omega
 have l2:I (W (Z ((k+1:Nat):Int)) (take (I ((l.map pV).map eV)) ((l.map pV).map eV)))<=100:=by simp only[Jw,ID,hlen];omega
 refine⟨HM (by rw[hlen];omega),by omega,hpx,by decide,I6 G (AE _),by omega,hpx,by decide,I6 G (AE _),by decide,rfl,m1,by decide,rfl,m2,by decide,rfl,m3,hsz,by show(0:Int)<=(k:Int);omega,by show(k:Int)<=_;rw[hlen];omega,⟨Jn (Nat.mul_le_mul_right 32 l1) (by decide),Jn l1 (by decide)⟩,fun y hy=>hsz y (J6 (IY hy)),hsz,by show(0:Int)<=((k+1:Nat):Int);omega,by show((k+1:Nat):Int)<=_;rw[hlen];omega,rfl,⟨Jn (Nat.mul_le_mul_right 32 (Nat.add_le_add l1 l2)) (by decide),Jn (Nat.add_le_add l1 l2) (by decide)⟩,fun y hy=>hsz y (J6 (IY hy)),fun x hx=>by rw[Ia.1 hx];rfl,by decide,IA _,?_,rfl,⟨by show(_+1)*24<=_;omega,by show _+1<=_;omega⟩,fun y hy=>by rw[Ia.1 hy, ←hR];rfl,rfl,rfl,⟨next⟩⟩
 grind
theorem AfI(tk:Tk)(l:List (Int×Int))(hl:I l<=100)(k:Nat)(p:Int×Int)(hp:l[k]?=G p)(xs:List V)(hm:je tk l k=O)(d:D)
  (next:Rn PP EZ 0 d bd (tl++[]) (cz 73 [(0,.v (vP l)),(1,.v (AH [tk])),(5,.acc 1 xs),(6,zw k)]) (TT xs)):
  Rn PP EZ 0 d bd (tl++[]) (cz 73 [(0,.v (vP l)),(1,.v (AH [tk])),(5,.acc 1 xs),(6,di k)]) (TT xs):=by
 have hk:=(HN.1 hp).1
 have hlen:I ((l.map pV).map eV)=I l:=by simp
 have hpx:((l.map pV).map eV)[Z (k:Int)]?=G (Ad (pV p)):=Ap (by rw[IP,hp];rfl)
 unfold je at hm
 rw[hp] at hm
 simp only at hm
 by_cases m1:(p.1==tk.place)=J
 ·rw[m1,IG] at hm
  by_cases m2:p.2>=tk.low
  ·rw[HM m2,IG] at hm
   exact zp (.t<|.x (Ad (pV p))<|.x (Ad (lf p.2))<|.x (Ad (pV p))<|.x (Ad (lf p.1))<|.x (d9 tk)<|.t<|.x (d9 tk)<|.t<|.x (d9 tk)<|.f<|.ls (qt k) (TT xs)) (ye k (I (gh l))/\y6 k/\_/\iz 0<=1/\G (eV (fh p.snd))=G (Ad (lf p.snd))/\y6 k/\_/\iz 0<=0/\G (eV (fh p.fst))=G (Ad (lf p.fst))/\iz 0<=0/\Q (G (d9 tk))/\_/\iz 0<=0/\Q (G (d9 tk))/\y8 (b9.n (lf p.snd)) tk.low/\iz 0<=0/\Q (G (d9 tk))/\_/\zx k/\Q [(1,1,xs)]/\_) ⟨HM (by rw[hlen];omega),by omega,hpx,by decide,I6 G (AE _),by omega,hpx,by decide,I6 G (AE _),by decide,rfl,m1,by decide,rfl,HM m2,by decide,rfl,hm,Ac,rfl,iK next⟩
  ·exact zp (.t<|.x (Ad (pV p))<|.x (Ad (lf p.2))<|.x (Ad (pV p))<|.x (Ad (lf p.1))<|.x (d9 tk)<|.t<|.x (d9 tk)<|.f<|.k<|.ls (qt k) (TT xs)) (ye k (I (gh l))/\y6 k/\_/\iz 0<=1/\G (eV (fh p.snd))=G (Ad (lf p.snd))/\y6 k/\_/\iz 0<=0/\G (eV (fh p.fst))=G (Ad (lf p.fst))/\iz 0<=0/\Q (G (d9 tk))/\_/\iz 0<=0/\Q (G (d9 tk))/\y7 (b9.n (lf p.snd)) tk.low/\zx k/\Q [(1,1,xs)]/\_) ⟨HM (by rw[hlen];omega),by omega,hpx,by decide,I6 G (AE _),by omega,hpx,by decide,I6 G (AE _),by decide,rfl,m1,by decide,rfl,HO m2,Ac,rfl,iK next⟩
 ·exact zp (.t<|.x (Ad (pV p))<|.x (Ad (lf p.2))<|.x (Ad (pV p))<|.x (Ad (lf p.1))<|.x (d9 tk)<|.f<|.k<|.k<|.ls (qt k) (TT xs)) (ye k (I (gh l))/\y6 k/\_/\iz 0<=1/\G (eV (fh p.snd))=G (Ad (lf p.snd))/\y6 k/\_/\iz 0<=0/\G (eV (fh p.fst))=G (Ad (lf p.fst))/\iz 0<=0/\Q (G (d9 tk))/\(b9.n (lf p.fst)==tk.place)=O/\zx k/\Q [(1,1,xs)]/\_) ⟨HM (by rw[hlen];omega),by omega,hpx,by decide,I6 G (AE _),by omega,hpx,by decide,I6 G (AE _),by decide,rfl,HW m1,Ac,rfl,iK next⟩
theorem Ai9{tk:Tk}{l:List (Int×Int)}{k:Nat}(h:je tk l k=J):FT tk l (k+1)=FT tk l k++[l.take k++l.drop (k+1)]:=by
 simp[FT,range_succ,List.filter_append,h]
theorem AlY{tk:Tk}{l:List (Int×Int)}{k:Nat}(h:je tk l k=O):FT tk l (k+1)=FT tk l k:=by
 simp[FT,range_succ,List.filter_append,h]
theorem AiA(tk:Tk)(l:List (Int×Int))(k:Nat):I (FT tk l k)<=k:=by
 rw[FT,HJ]
 exact Jn (List.length_filter_le _ _) (by rw[List.length_range];exact HR _)
theorem AfJ(tk:Tk)(l:List (Int×Int))(hl:I l<=100)(n:Nat):∀k:Nat,I l-k=n->k<=I l->
  Rn PP EZ 0 (.v (k8 (FT tk l (I l)))) bd (tl++[]) (cz 73 [(0,.v (vP l)),(1,.v (AH [tk])),(5,.acc 1 ((FT tk l k).map vP)),(6,di k)]) (TT ((FT tk l k).map vP)):=by
 have hlen:I ((l.map pV).map eV)=I l:=by simp
 induction n with
 |zero=>
  intro k hn hk
  have e:k=I l:=by omega
  subst e
  obtain⟨xs,hxs⟩:∃xs,xs=(FT tk l (I l)).map vP:=⟨_,rfl⟩
  rw[←hxs]
  exact zp (.f<|.r) (yd (I l) (I (gh l))/\bt (ae xs)=bt (k8 (FT tk l (I l)))) ⟨HO (by rw[hlen];omega),by rw[hxs]⟩
 |succ n ih=>
  intro k hn hk
  obtain⟨p,hp⟩:=yk (show k<I l by omega)
  have hih:=ih (k+1) (by omega) (by omega)
  have hcl:=AiA tk l k
  cases hm:je tk l k with
  |true=>
   rw[Ai9 hm,J5] at hih
   exact AfG tk l hl k p hp _ (by rw[HJ];omega) hm _ hih
  |false=>
   rw[AlY hm] at hih
   exact AfI tk l hl k p hp _ hm _ hih
theorem Ak6(tk:Tk)(l:List (Int×Int))(hl:I l<=100):F0 186 [.v (vP l),.v (AH [tk])] (.v (k8 (FT tk l (I l)))):=by
 have h:=AfJ tk l hl _ 0 rfl (II _)
 rw[show FT tk l 0=[] from rfl] at h
 generalize FT tk l (I l)=out at h⊢
 exact zq EZ 73 (.k<|.h (.q 4 0)<|.h (.nw 5 1 1)<|.ls [ke 0,ke 1,ke 5,ch 6 (di (0:Nat))] (TT [])) (Q (di 0)/\Q [(1,1,nV)]/\_) ⟨rfl,rfl,iK h⟩
theorem AfH(ts:List Tk)(ht:ts=[]∨∃tk,ts=[tk])(l:List (Int×Int))(hl:I l<=100):F0 186 [.v (vP l),.v (AH ts)] (.v (k8 (TQ ts l))):=by
 rcases ht with rfl|⟨tk,rfl⟩
 ·exact AaF _
 ·have e:TQ [tk] l=FT tk l (I l):=by
   show(FT tk l (I l)).flatMap (fun x=>[x])=_
   simp
  rw[e]
  exact Ak6 tk l hl
theorem OB(p a:Int):F0 187 [di p,di a] (dV (pV (p,a))):=by
 refine zq AoI 11 (.r) (bt (aa [vi 0,ae (rh p a)])=dV (pV (p,a))) ?_
 rfl
abbrev ZM(r:cm)(t:cr):St:=⟨[G (rC r),G (A2 (dT t))],[]⟩
noncomputable abbrev q9:List KI:=[zu Mm 16372,.blk 0,zt Mm 2047]
theorem Mt(s:Int)(ps:List (Int×Int)):dV (ez s ps)=.v (.agg [vi 0,.list [.agg [vi s,.list []],.agg [vi 0,.list ((ps.map pV).map eV)]]]):=by
 show bt (.agg [vi 0,.list [eV (lf s),eV (.mk 0 (ps.map pV))]])=_
 rw[AE,AE];rfl
theorem Amt(m:cx)(r:cm)(hmk:r.ao=[]∨∃p,r.ao=[p])(t:cr)(L:List (List (Int×Int)))(hL:I L<=1000)(i:Nat)(q:List (Int×Int))(hq:L[i]?=G q)(hql:I q<=100)(os:List b9)(w:b9)(hs:F0 184 [dT t,dV (ez r.to (q++fy r.ao))] (.tup [dV w,di 0]))(hp:F0 95 [co os,dV w] (co (BZ os w)))(d:D)
  (next:Rn PP Mm 0 d bd (q9++[]) (cz 108 [(3,.v (.ref (Aq m))),(9,.ptr 0 0),(10,.ptr 1 0),(12,.v (k8 L)),(13,co (BZ os w)),(14,zw i)]) (ZM r t)):
  Rn PP Mm 0 d bd (q9++[]) (cz 108 [(3,.v (.ref (Aq m))),(9,.ptr 0 0),(10,.ptr 1 0),(12,.v (k8 L)),(13,co os),(14,di i)]) (ZM r t):=by
 have hi:=(HN.1 hq).1
 have hlen:I (L.map vP)=I L:=by simp
 have hqx:(L.map vP)[Z (i:Int)]?=G (vP q):=by grind
 have hsz:=TX q
 have hqe:I ((q.map pV).map eV)=I q:=by simp
 have ok:Ao (I ((q.map pV).map eV)) 32:=⟨by omega,by omega⟩
 have ok1:Ao (I ((q.map pV).map eV)+1) 32:=⟨by omega,by omega⟩
 rcases hmk with hm|⟨p,hm⟩
 ·rw[hm,show q++fy []=q by simp,Mt] at hs
  exact zo [3,5] (.t<|.x (vP q)<|.a 1<|.w<|.n<|.f<|.h (.q 22 0)<|.h (.un 15)<|.c (.tup [dV w,di 0])<|.k<|.c (co (BZ os w))<|.ls [ke 3,ke 9,ke 10,ke 12,ch 13 (co (BZ os w)),ch 14 (zw i)] (ZM r t)) (ye i (I (U vP L))/\y6 i/\_/\_/\_/\yd 0 (I (dt r.ao))/\_/\_/\Q (co (BZ os w))/\zx i/\Q (ZM r t).H/\_) ⟨yr,by omega,hqx,ok,hsz,HO (by grind),hs,hp,rfl,Ac,rfl,iK next⟩
 ·have hs2:F0 184 [dT t,.v (.agg [vi 0,.list [.agg [vi r.to,.list []],.agg [vi 0,.list ((q.map pV).map eV++[Ad (pV (p,0))])]]])] (.tup [dV w,di 0]):=by
   rw[hm,Mt] at hs
   have e:(q.map pV).map eV++[Ad (pV (p,0))]=((q++fy [p]).map pV).map eV:=by rw[J5,J5];rfl
   grind
  exact zo [3,5] (.t<|.x (vP q)<|.a 1<|.w<|.n<|.t<|.x (vi p)<|.c (dV (pV (p,0)))<|.w<|.n<|.f<|.h (.q 22 0)<|.h (.un 15)<|.c (.tup [dV w,di 0])<|.k<|.c (co (BZ os w))<|.ls [ke 3,ke 9,ke 10,ke 12,ch 13 (co (BZ os w)),ch 14 (zw i)] (ZM r t)) (ye i (I (U vP L))/\y6 i/\_/\_/\_/\ye 0 (I (dt r.ao))/\iz 0<=0/\zy (dt r.ao) 0 (vi p)/\_/\Q (gh q)/\_/\(∀(y:V),y∈ [Ad (pV (p,0))]->V.size y=2)/\yd (yu yt (0+1)) (I (dt r.ao))/\_/\_/\Q (co (BZ os w))/\zx i/\Q (ZM r t).H/\_) ⟨yr,by omega,hqx,ok,hsz,HM (by grind),by decide,by grind,OB p 0,rfl,ok1,fun y hy=>by rw[Ia.1 hy];rfl,HO (by rw[hm];show ¬yu .i64 (0+1)<(1:Int);decide),hs2,hp,rfl,Ac,rfl,iK next⟩
theorem Amv(m:cx)(r:cm)(hmk:r.ao=[]∨∃p,r.ao=[p])(t:cr)(L:List (List (Int×Int)))(_:I L<=1000)(i:Nat)(q:List (Int×Int))(hq:L[i]?=G q)(hql:I q<=100)(os:List b9)(hs:F0 184 [dT t,dV (ez r.to (q++fy r.ao))] (.tup [dV (.mk 0 []),di 5])):
  Rn PP Mm 0 (.tup [co [],di 1]) bd (q9++[]) (cz 108 [(3,.v (.ref (Aq m))),(9,.ptr 0 0),(10,.ptr 1 0),(12,.v (k8 L)),(13,co os),(14,di i)]) (ZM r t):=by
 have hi:=(HN.1 hq).1
 have hlen:I (L.map vP)=I L:=by simp
 have hqx:(L.map vP)[Z (i:Int)]?=G (vP q):=by grind
 have hsz:=TX q
 have hqe:I ((q.map pV).map eV)=I q:=by simp
 have ok:Ao (I ((q.map pV).map eV)) 32:=⟨by omega,by omega⟩
 have ok1:Ao (I ((q.map pV).map eV)+1) 32:=⟨by omega,by omega⟩
 rcases hmk with hm|⟨p,hm⟩
 ·rw[hm,show q++fy []=q by simp,Mt] at hs
  refine zo [3,5] (.t<|.x (vP q)<|.a 1<|.w<|.n<|.f<|.h (.q 22 0)<|.h (.un 15)<|.c (.tup [dV (.mk 0 []),di 5])<|.k<|.r) (ye i (I (U vP L))/\y6 i/\zy (U vP L) i (vP q)/\Ao (I (gh q)) 32/\type_of% hsz/\yd 0 (I (dt r.ao))/\type_of% hs/\Q (bl [co [],di 1])) ?_
  grind
 ·have hs2:F0 184 [dT t,.v (.agg [vi 0,.list [.agg [vi r.to,.list []],.agg [vi 0,.list ((q.map pV).map eV++[Ad (pV (p,0))])]]])] (.tup [dV (.mk 0 []),di 5]):=by
   rw[hm,Mt] at hs
   have e:(q.map pV).map eV++[Ad (pV (p,0))]=((q++fy [p]).map pV).map eV:=by rw[J5,J5];rfl
   grind
  exact zo [3,5] (.t<|.x (vP q)<|.a 1<|.w<|.n<|.t<|.x (vi p)<|.c (dV (pV (p,0)))<|.w<|.n<|.f<|.h (.q 22 0)<|.h (.un 15)<|.c (.tup [dV (.mk 0 []),di 5])<|.k<|.r) (ye i (I (U vP L))/\y6 i/\_/\_/\_/\ye 0 (I (dt r.ao))/\iz 0<=0/\zy (dt r.ao) 0 (vi p)/\_/\Q (gh q)/\_/\(∀(y:V),y∈ [Ad (pV (p,0))]->V.size y=2)/\yd (yu yt (0+1)) (I (dt r.ao))/\_/\Q (bl [co [],di 1])) ⟨yr,by omega,hqx,ok,hsz,HM (by grind),by decide,by grind,OB p 0,rfl,ok1,fun y hy=>by rw[Ia.1 hy];rfl,HO (by rw[hm];show ¬yu .i64 (0+1)<(1:Int);decide),hs2,rfl⟩
theorem ApX(m:cx)(r:cm)(t:cr)(L:List (List (Int×Int)))(os:List b9):
  Rn PP Mm 0 (.tup [co os,di 0]) bd (q9++[]) (cz 108 [(3,.v (.ref (Aq m))),(9,.ptr 0 0),(10,.ptr 1 0),(12,.v (k8 L)),(13,co os),(14,di (I L))]) (ZM r t):=by
 refine zo [3,5] (.f<|.r) (yd (I L) (I (U vP L))/\Q (bl [co os,di 0])) ?_
 grind
theorem Yl(l:List b9)(v:b9):b9.sizes (BZ l v)<=b9.sizes l+v.size:=by
 have hs:∀a b:List b9,b9.sizes (a++b)=b9.sizes a+b9.sizes b:=fun a b=>by
  induction a<;>grind[b9.sizes]
 grind[b9.sizes,List.take_append_drop,BZ]
theorem Pa{B:Nat}:∀(ys os:List b9),(∀y∈ys,y.size<=B)->b9.sizes (ys.foldl BZ os)<=b9.sizes os+B*I ys
 |[],os,_=>by simp
 |y::ys,os,h=>by
  have h1:=Pa ys (BZ os y) fun z hz=>h z (List.mem_cons_of_mem _ hz)
  grind[Yl,Nat.mul_add]
def l9(t:cr)(ys:List b9):List b9×Int:=if ys.all (Al t)=J then(ys.foldl BZ [],0) else([],1)
theorem Amu(m:cx)(hm:Dp m)(r:cm)(hmk:r.ao=[]∨∃p,r.ao=[p])(L:List (List (Int×Int)))(hL:I L<=100)(hq:∀q∈L,I q<=30)(k:Nat):∀i:Nat,I L-i=k->i<=I L->(∀q∈L.take i,Al (Az m) (ez r.to (BQ (q++fy r.ao)))=J)->
  Rn PP Mm 0 (.tup [co (l9 (Az m) (L.map fun q=>ez r.to (BQ (q++fy r.ao)))).1,di (l9 (Az m) (L.map fun q=>ez r.to (BQ (q++fy r.ao)))).2]) bd (q9++[]) (cz 108 [(3,.v (.ref (Aq m))),(9,.ptr 0 0),(10,.ptr 1 0),(12,.v (k8 L)),(13,co (((L.take i).map fun q=>ez r.to (BQ (q++fy r.ao))).foldl BZ [])),(14,di i)]) (ZM r (Az m)):=by
 have hml:I (fy r.ao)<=1:=by
  grind
 have hsz:∀q:List (Int×Int),I q<=30->(ez r.to (BQ (q++fy r.ao))).size<=200:=fun q h=>by
  rw[Hm,(JW _).length_eq,HY];omega
 induction k with
 |zero=>
  intro i hk hi hv
  grind[take_length,l9,ApX]
 |succ k ih=>
  intro i hk hi hv
  obtain⟨q,hx⟩:=yk (show i<I L by omega)
  have hqm:=HQ hx
  have hql:=hq q hqm
  have ht:L.take (i+1)=L.take i++[q]:=by grind[take_add_one]
  have hal:I (q++fy r.ao)<=40:=by grind
  cases hval:Al (Az m) (ez r.to (BQ (q++fy r.ao))) with
  |true=>
   have hih:=ih (i+1) (by omega) (by omega) (fun q' hq'=>by
    rw[ht] at hq'
    rcases IV.1 hq' with h|h
    ·exact hv q' h
    ·rw[Ia.1 h];exact hval)
   rw[ht,J5,List.foldl_append] at hih
   have hos:=Pa (B:=200) ((L.take i).map fun q=>ez r.to (BQ (q++fy r.ao))) [] (fun y hy=>by
    obtain⟨q',h,rfl⟩:=IQ.1 hy
    exact hsz q' (hq q' (J6 h)))
   rw[HJ,ID] at hos
   have hos3:b9.sizes ([]:List b9)=0:=rfl
   exact Amt m r hmk (Az m) L (by omega) i q hx (by omega) _ _ (TW m hm r.to _ hal hval) (Qp _ _ (by omega) (by have:=hsz q hql;omega)) _ hih
  |false=>
   rw[l9,Iz (fun h=>by
    simp_all)]
   exact Amv m r hmk (Az m) L (by omega) i q hx (by omega) _ (Ago m hm r.to _ hal hval)
theorem TP{ts:List Tk}(ht:ts=[]∨∃tk,ts=[tk])(l:List (Int×Int)):I (TQ ts l)<=I l+1/\∀q∈TQ ts l,I q<=I l:=by
 rcases ht with rfl|⟨tk,rfl⟩
 ·grind[TQ]
 ·have e:TQ [tk] l=FT tk l (I l):=by
   show(FT tk l (I l)).flatMap (fun x=>[x])=_
   simp
  rw[e]
  grind[FT]
theorem AeI(m:cx)(hm:BB m)(i:Nat)(r:cm)(hi:m.av[i]?=G r)(hmk:r.ao=[]∨∃p,r.ao=[p])(htk:r.aq=[]∨∃tk,r.aq=[tk])(s:Int)(ps:List (Int×Int))(hw:q0 m s ps)(hv:Al (Az m) (ez s ps)=J):F0 125 [Af m,di i,dV (ez s ps)] (if s=r.ai then .tup [co (l9 (Az m) ((TQ r.aq ps).map fun q=>ez r.to (BQ (q++fy r.ao)))).1,di (l9 (Az m) ((TQ r.aq ps).map fun q=>ez r.to (BQ (q++fy r.ao)))).2] else .tup [co [],di 0]):=by
 have hlen:=hw.len
 have h1:=LG m hm
 have h2:=HC m hm (ez s ps)
 rw[hv] at h2
 have h3:=Aa5 m hm
 have h4:=AfH r.aq htk ps (by omega)
 have hir:=(HN.1 hi).1
 have hb:=TP htk ps
 have hlp:=Amu m hm.n r hmk (TQ r.aq ps) (by omega) (fun q hq=>by have:=hb.2 q hq;omega) _ 0 rfl (II _) (fun q hq=>by simp at hq)
 by_cases hf:s=r.ai
 ·rw[I4 hf]
  generalize (l9 (Az m) ((TQ r.aq ps).map fun q=>ez r.to (BQ (q++fy r.ao))))=out at*
  generalize TQ r.aq ps=L at*
  have hgo:Rn PP Mm 0 (.tup [co out.1,di out.2]) bd (q9++[]) (cz 108 [(3,.v (.ref (Aq m))),(9,.ptr 0 0),(10,.ptr 1 0),(12,.v (k8 L)),(13,.v .nils),(14,di (0:Nat))]) (ZM r (Az m)):=LW (va (t:=13) _ rfl) hlp
  exact sv Mm 108 [3,5] (.c (di 0)<|.k<|.f<|.f<|.c (db J)<|.k<|.x (Aj r)<|.x (Ad (lf s))<|.f<|.c (.tup [dT (Az m),di 0])<|.x (Ad (.mk 0 (ps.map pV)))<|.c (.v (k8 L))<|.ls [ke 3,ke 9,ke 10,ke 12,ke 13,ch 14 (di (0:Nat))] (ZM r (Az m))) (_/\Y ((i:Int)<0)=O/\Y ((i:Int)>=(I (U Aj m.av):Int))=O/\_/\0<=(i:Int)/\(U Aj m.av)[Z (i:Int)]?=G (Aj r)/\iz 0<=0/\G (eV (lf s))=G (Ad (lf s))/\yp/\(b9.n (lf s) !=r.ai)=O/\_/\iz 0<=1/\G (eV (b9.mk 0 (U pV ps)))=G (Ad (b9.mk 0 (U pV ps)))/\_/\yp/\Q (di 0)/\Q [G (rC r),G [di (cr.kd (Az m)),di (cr.sz (Az m)),bt (cy (cr.rk (Az m))),bt (ae (eT (cr.lab (I m.aw:Int))::eT (cr.bag (cr.prod [cr.lab (I m.ay:Int),cr.lab (m.age+2)]))::nV))]]/\_) ⟨h1,yq,HO (by rw[HJ];omega),h2,by omega,by rw[Jy,IP,hi];rfl,by decide,I6 G (AE _),yn,by rw[hf];exact bne_self_eq_false _,h3,by decide,I6 G (AE _),h4,yn,rfl,rfl,iK hgo⟩
 ·rw[Iz hf]
  clear hlp h4
  exact sv Mm 108 [3,5] (.c (di 0)<|.k<|.f<|.f<|.c (db J)<|.k<|.x (Aj r)<|.x (Ad (lf s))<|.t<|.r) (_/\Y ((i:Int)<0)=O/\Y ((i:Int)>=(I (U Aj m.av):Int))=O/\_/\0<=(i:Int)/\(U Aj m.av)[Z (i:Int)]?=G (Aj r)/\iz 0<=0/\G (eV (lf s))=G (Ad (lf s))/\yp/\(b9.n (lf s) !=r.ai)=J/\Q (bl [co [],di 0])) ⟨h1,yq,HO (by rw[HJ];omega),h2,by omega,by rw[Jy,IP,hi];rfl,by decide,I6 G (AE _),yn,bne_iff_ne.2 hf,rfl⟩
theorem AqK(t:cr){ys zs:List b9}(h:∀y,y∈ys↔y∈zs):l9 t ys=la t zs:=by
 grind[l9,la,MF]
theorem AeJ(m:cx)(hm:BB m)(i:Nat)(r:cm)(hi:m.av[i]?=G r)(c:b9)(hv:Al (Az m) c=J):F0 125 [Af m,di i,dV c] (.tup [co (R6 (Az m) r c).1,di (R6 (Az m) r c).2]):=by
 obtain⟨s,ps,rfl,hw⟩:=Qa hv
 have hr:=hm.av i r hi
 have h:=AeI m hm i r hi (hr.ao.imp id fun⟨p,_,h⟩=>⟨p,h⟩) (hr.aq.imp id fun⟨_,_,_,_,_,h⟩=>⟨_,h⟩) s ps hw hv
 have e:l9 (Az m) ((TQ r.aq ps).map fun q=>ez r.to (BQ (q++fy r.ao)))=la (Az m) (lg r (ez s ps)):=AqK _ fun y=>by
  grind[lg,Aa8,AbR,Ae8,TO]
 rw[e] at h
 unfold R6
 rw[I4 hv,Aa9]
 by_cases hf:s=r.ai
 ·rw[I4 hf] at h
  rw[I4 (show(lf s).n=r.ai from hf)]
  exact h
 ·rw[Iz hf] at h
  rw[Iz (show ¬(lf s).n=r.ai from hf)]
  exact h
structure w9(m:cx)(t:cr):Prop where
 chk:F0 40 [Af m] (di 0)
 val:∀c:b9,c.size<=1000->F0 85 [Af m,dV c] (db (Al t c))
 kind:m.kind=2∨m.kind=3∨m.kind=5
 few:I m.av<=12
section
variable {m : cx} {t : cr} (hm : w9 m t) {c : b9} (hcs : c.size <= 1000) (hv : Al t c = true)
include hm
theorem UT:F0 84 [Af m] (di 0):=by
 exact sv Apa 12 [1] (.c (di 0)<|.k<|.f .r) (_/\(m.kind==6)=O/\Q (di 0)) ⟨hm.chk,by rcases hm.kind with h|h|h<;>rw[h]<;>rfl,rfl⟩
include hcs hv
theorem TE:F0 85 [Af m,dV c] (db J):=hv▸hm.val c hcs
theorem AnV(hk:m.kind=2)(p:List b9×Int)(hp:F0 179 [Af m,dV c] (dm p)):F0 123 [Af m,dV c] (dm p):=by
 refine sv Aic 38 [2,3] (.c (di 0)<|.c (db J)<|.k<|.t<|.c (dm p) .r) (nu m/\kp m c/\(m.kind==2)=J/\type_of% hp/\Q (dm p)) ?_
 grind[UT,TE]
theorem AnU(hk:m.kind=3)(p:List b9×Int)(hp:F0 179 [Af m,dV c] (dm p)):F0 123 [Af m,dV c] (dm p):=by
 refine sv Aic 38 [2,3] (.c (di 0)<|.c (db J)<|.k<|.f<|.t<|.c (dm p) .r) (nu m/\kp m c/\(m.kind==2)=O/\(m.kind==3)=J/\type_of% hp/\Q (dm p)) ?_
 grind[UT,TE]
theorem AnT(hk:m.kind=5)(w:b9)(hp:F0 180 [Af m,dV c] (.tup [dV w,di 0])):F0 123 [Af m,dV c] (dm ([w],0)):=by
 refine sv Aic 38 [2,3] (.c (di 0)<|.c (db J)<|.k<|.f<|.f<|.t<|.c (.tup [dV w,di 0]) .r) (nu m/\kp m c/\(m.kind==2)=O/\(m.kind==3)=O/\(m.kind==5)=J/\type_of% hp/\bl [bt (ae [aa [vi w.n,dq w.az]]),di 0]=dm ([w],0)) ?_
 grind[UT,TE,AE]
theorem AeH(q:List b9×Int)(hq:F0 123 [Af m,dV c] (dm q)):F0 86 [Af m,di (-1),dV c] (dm q):=by
 refine sv v8 78 [3,5] (.c (di 0)<|.k<|.k<|.f<|.c (db J)<|.c (dm q) .r) (nu m/\y7 (-1) (I (U Aj m.av))/\kp m c/\type_of% hq/\Q (dm q)) ?_
 grind[UT,TE]
theorem Aqf(hk:m.kind=5)(i:Nat)(hi:i<I m.av)(p:List b9×Int)(hp:F0 125 [Af m,di i,dV c] (dm p)):F0 86 [Af m,di i,dV c] (dm p):=by
 refine sv v8 78 [3,5] (.c (di 0)<|.k<|.f<|.f<|.c (db J)<|.k<|.f<|.f<|.t<|.c (dm p) .r) (nu m/\yd i (-1)/\y7 i (I (U Aj m.av))/\kp m c/\((i:Int)== -1)=O/\(m.kind==4)=O/\(m.kind==5)=J/\type_of% hp/\Q (dm p)) ?_
 grind[UT,TE]
theorem Amw(hk:m.kind=2∨m.kind=3)(i:Nat)(hi:i<I m.av)(p p0:b9×Int)(hp0:F0 126 [Af m,di i,dV c] (dP p0))(hp:F0 127 [Af m,di i,dV c] (dP p)):F0 86 [Af m,di i,dV c] (dm (C7 p)):=by
 refine sv v8 78 [3,5] (.c (di 0)<|.k<|.f<|.f<|.c (db J)<|.k<|.f<|.f<|.f<|.c (dP p0)<|.t<|.c (dP p)<|.b .r (.b .r .r)) (nu m/\yd i (-1)/\y7 i (I (U Aj m.av))/\kp m c/\((i:Int)== -1)=O/\(m.kind==4)=O/\(m.kind==5)=O/\type_of% hp0/\(m.kind !=1)=J/\type_of% hp/\((p.snd==18)=J->bl qv=dm (C7 p))/\((p.snd==18)=O->((p.snd !=0)=J->bl [bt (ae []),di p.snd]=dm (C7 p))/\((p.snd !=0)=O->bl [bt (ae [aa [vi p.fst.n,dq p.fst.az]]),di 0]=dm (C7 p)))) ?_
 grind[UT,TE,C7,AE]
theorem AeM(ap:Int->List b9×Int)(hl:∀i,(ap i).1.length<=1000)(hap:∀i:Int, -1<=i->i<I m.av->F0 86 [Af m,di i,dV c] (dm (ap i))):
  F0 41 [Af m,dV c] (fv (DD ap (I m.av+1) (-1) [])):=by
 have hsz:=hm.few
 refine sv G0 57 [2,3] (.c (di 0)<|.c (db J)<|.h (.q 7 0)<|.h (.nw 7 1 3)<|.ls uy (FO [])) (_/\_/\Q (di (-1))/\Q [(1,3,nV)]/\I0 G0 (I bd.H) (fv (DD ap (I m.av+1) (-1) [])) bd [kl CA iy,bh 0,zt G0 63] (cz 57 (uu m c)) (FO [])) ⟨UT hm,TE hm hcs hv,rfl,rfl,⟨?_⟩⟩
 exact PI m (by omega) c ap hl hap (I m.av+1) (-1) [] (by omega) (by omega) (by omega) (by simp)
end
end Go.Proofs.YtgigepkgakpjbaaGreat
