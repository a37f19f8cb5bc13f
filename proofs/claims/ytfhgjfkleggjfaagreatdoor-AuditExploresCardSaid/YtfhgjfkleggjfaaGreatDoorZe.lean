/-
  A part of the proof.
-/
import Derived.Test.YtfhgjfkleggjfaaGreatDoorZd
import Derived.Shelf.SlSortCmp.WholeK
import Derived.Shelf.SlGeneric
import Derived.Ground.SlsfProg
import Derived.Shelf.SlSortCmp.Whole1
import Derived.Test.YtfhgjfkleggjfaaGreatDoorZc
namespace Go.Proofs
open Go.Shelf
open Go.IntKind (u64)
open Go.IntKind renaming wrap → yu, i64 → yt
open List renaming length → I, map → U, drop → W
open Option renaming some → G
open Bool renaming true → J, false → O
open Decidable renaming decide → Y
open Int renaming toNat → Z
open Go.Dv.V renaming list → ai, str → ae, agg → ab, int → aa, ref → bz, fn → bw, nils → bv, bool → bu
open Go.Dv.D renaming v → bt, acc → br, ptr → bq, arr → bo, gro → bm, tup → bl, undef → bk, dagg → bj
open Go.Dv.St renaming mk → bi
open Go.Dv.KI renaming blk → bh
open _root_.ByteArray renaming mk → bf
open Go renaming Operand → x8, Program → x7, TypeId → x6, World → x5, Value → yz, Oper → yy, FuncId → yx, Func → yw, IntKind → yv
def Tryz.sortV_ren:Go.Shelf.Ren:=⟨fun|6=>21|15=>47|14=>46|28=>87|29=>88|20=>79|21=>80|22=>81|23=>82|24=>83|25=>84|26=>85|27=>86|46=>129|47=>130|48=>131|49=>132|50=>133|57=>184|n=>n,fun|22=>29|24=>31|25=>43|3=>3|39=>93|0=>0|53=>119|55=>121|4=>4|46=>112|45=>111|50=>116|5=>5|9=>9|66=>149|70=>153|76=>188|77=>189|n=>n,fun|n=>n⟩
theorem Tryz.sortV:Go.Proofs.SlLaysF0.n6 Tryz.prog Tryz.sortV_ren:={
 mixed:=by kernel_rfl
 f6:=⟨Tryz.f21.name,by decide,Tryz.func21.trans (HX G (by kernel_rfl))⟩
 f14:=⟨Tryz.f46.name,by decide,Tryz.func46.trans (HX G (by kernel_rfl))⟩
 f15:=Tryz.func47.trans (HX G (by kernel_rfl))
 f20:=⟨Tryz.f79.name,by decide,Tryz.func79.trans (HX G (by kernel_rfl))⟩
 f21:=⟨Tryz.f80.name,by decide,Tryz.func80.trans (HX G (by kernel_rfl))⟩
 f22:=⟨Tryz.f81.name,by decide,Tryz.func81.trans (HX G (by kernel_rfl))⟩
 f23:=⟨Tryz.f82.name,by decide,Tryz.func82.trans (HX G (by kernel_rfl))⟩
 f24:=⟨Tryz.f83.name,by decide,Tryz.func83.trans (HX G (by kernel_rfl))⟩
 f25:=⟨Tryz.f84.name,by decide,Tryz.func84.trans (HX G (by kernel_rfl))⟩
 f26:=⟨Tryz.f85.name,by decide,Tryz.func85.trans (HX G (by kernel_rfl))⟩
 f27:=⟨Tryz.f86.name,by decide,Tryz.func86.trans (HX G (by kernel_rfl))⟩
 f28:=Tryz.func87.trans (HX G (by kernel_rfl))
 f29:=Tryz.func88.trans (HX G (by kernel_rfl))
 f46:=⟨Tryz.f129.name,by decide,Tryz.func129.trans (HX G (by kernel_rfl))⟩
 f47:=Tryz.func130.trans (HX G (by kernel_rfl))
 f48:=Tryz.func131.trans (HX G (by kernel_rfl))
 f49:=⟨Tryz.f132.name,by decide,Tryz.func132.trans (HX G (by kernel_rfl))⟩
 f50:=⟨Tryz.f133.name,by decide,Tryz.func133.trans (HX G (by kernel_rfl))⟩
 f57:=⟨Tryz.f184.name,by decide,Tryz.func184.trans (HX G (by kernel_rfl))⟩
 t0:=Tryz.underlying0
 a0:=Tryz.isAgg0
 z0:=Tryz.sizeOf0
 v0:=Tryz.zeroValue0
 t3:=Tryz.underlying3
 a3:=Tryz.isAgg3
 z3:=Tryz.sizeOf3
 v3:=Tryz.zeroValue3
 t4:=Tryz.underlying4
 a4:=Tryz.isAgg4
 z4:=Tryz.sizeOf4
 v4:=Tryz.zeroValue4
 t5:=Tryz.underlying5
 a5:=Tryz.isAgg5
 z5:=Tryz.sizeOf5
 v5:=Tryz.zeroValue5
 t9:=Tryz.underlying9
 a9:=Tryz.isAgg9
 z9:=Tryz.sizeOf9
 v9:=Tryz.zeroValue9
 t22:=Tryz.underlying29
 a22:=Tryz.isAgg29
 z22:=Tryz.sizeOf29
 v22:=Tryz.zeroValue29
 t25:=Tryz.underlying43
 a25:=Tryz.isAgg43
 z25:=Tryz.sizeOf43
 v25:=Tryz.zeroValue43
 t39:=Tryz.underlying93
 a39:=Tryz.isAgg93
 z39:=Tryz.sizeOf93
 v39:=Tryz.zeroValue93
 t45:=Tryz.underlying111
 a45:=Tryz.isAgg111
 z45:=Tryz.sizeOf111
 v45:=Tryz.zeroValue111
 t46:=Tryz.underlying112
 a46:=Tryz.isAgg112
 z46:=Tryz.sizeOf112
 v46:=Tryz.zeroValue112
 t50:=Tryz.underlying116
 a50:=Tryz.isAgg116
 z50:=Tryz.sizeOf116
 v50:=Tryz.zeroValue116
 t53:=Tryz.underlying119
 a53:=Tryz.isAgg119
 z53:=Tryz.sizeOf119
 v53:=Tryz.zeroValue119
 t55:=Tryz.underlying121
 a55:=Tryz.isAgg121
 z55:=Tryz.sizeOf121
 v55:=Tryz.zeroValue121
 t66:=Tryz.underlying149
 a66:=Tryz.isAgg149
 z66:=Tryz.sizeOf149
 v66:=Tryz.zeroValue149
 t70:=Tryz.underlying153
 a70:=Tryz.isAgg153
 z70:=Tryz.sizeOf153
 v70:=Tryz.zeroValue153
 t76:=Tryz.underlying188
 a76:=Tryz.isAgg188
 z76:=Tryz.sizeOf188
 v76:=Tryz.zeroValue188
 t77:=Tryz.underlying189
 a77:=Tryz.isAgg189
 z77:=Tryz.sizeOf189
 v77:=Tryz.zeroValue189 }
end Go.Proofs
namespace Go.Proofs.YtfhgjfkleggjfaaGreatDoor
open Go.Dv Go.Nv Go.Shelf Go.RowKit Go.Lib Go.Sort
set_option maxRecDepth 20000
open List (flatMap_cons)
open Go.IntKind (u64)
open Go.IntKind renaming wrap → yu, i64 → yt
open List renaming length → I, map → U, drop → W
open Option renaming some → G
open Bool renaming true → J, false → O
open Decidable renaming decide → Y
open Int renaming toNat → Z
open Go.Dv.V renaming list → ai, str → ae, agg → ab, int → aa, ref → bz, fn → bw, nils → bv, bool → bu
open Go.Dv.D renaming v → bt, acc → br, ptr → bq, arr → bo, gro → bm, tup → bl, undef → bk, dagg → bj
open Go.Dv.St renaming mk → bi
open Go.Dv.KI renaming blk → bh
open _root_.ByteArray renaming mk → bf
open Go renaming Operand → x8, Program → x7, TypeId → x6, World → x5, Value → yz, Oper → yy, FuncId → yx, Func → yw, IntKind → yv
theorem Zf{g g':Gh}{w w':x5}{σ':St}(h:WI ⟨g,w,⟨[],[]⟩⟩ g' σ' w'):∃q os,w'=grow (w.drewN q) os:=by
 refine⟨w'.drawn-w.drawn,w'.heap.extract w.heap.size w'.heap.size,?_⟩
 have h1:=h.drawn trivial;have h2:=h.os;have h3:=h.tape;have h4:=h.output;have h5:=h.size
 have h6:∀b,b<w.heap.size->w'.heap[b]?=w.heap[b]?:=fun b hb=>(h.keep b hb ED).1
 have e:w'.heap=w.heap++w'.heap.extract w.heap.size w'.heap.size:=by
  apply Array.ext_getElem?
  intro i
  by_cases hi:i<w.heap.size
  ·rw[h6 i hi,Array.getElem?_append_left hi]
  ·rw[Array.getElem?_append_right (by omega),Array.getElem?_extract]
   have h5:w.heap.size<=w'.heap.size:=h5
   by_cases hj:i<w'.heap.size
   ·rw[HV (by omega)];congr 1;omega
   ·rw[HR (by omega),Array.getElem?_eq_none (by omega)]
 cases w'
 simp only[grow,World.drewN] at*
 subst h2;subst h3;subst h4
 congr 1
 have h1:w.drawn<=_:=h1
 omega
abbrev j3(M:cd):={p:bc×List yz//p.1.size<=1000000/\repC M (eV p.1) p.2}
instance (M:cd):Inhabited (j3 M):=⟨⟨(.mk 0 [],[.int .i64 0,.slice none 0 0]),by decide,by simp[bc.enc,bc.encs,repC,repA,V.isAgg];exact⟨_,_,⟨rfl,rfl⟩,rfl,_,rfl,_,_,rfl⟩⟩⟩
def Dg{M:cd}(x:j3 M):List yz:=x.1.2
def qx{M:cd}(x y:j3 M):Int:=Aq x.1.1 y.1.1
theorem RB(v:bc):(eV v).size=2:=by rw[AE];rfl
theorem Li{M:cd}(x:j3 M):I (Dg x)=2:=by
 have:=FK x.2.2
 rw[RB] at this;exact this
theorem Al5{M:cd}:SWO (ltOf (qx (M:=M))) where
 irrefl x:=by simp only[ltOf,qx,Bz.refl _ trivial];decide
 trans x y z h1 h2:=by
  exact HC (Bz.trans _ _ _ trivial trivial trivial (HL h1) (HL h2))
 ntrans x y z h1 h2:=by
  have h1:¬Aq x.1.1 y.1.1<0:=Iu h1
  have h2:¬Aq y.1.1 z.1.1<0:=Iu h2
  refine HE fun h3=>?_
  have h3:Aq x.1.1 z.1.1<0:=h3
  by_cases e:Aq x.1.1 y.1.1=0
  ·have:=EB.1 e;rw[this] at h3;exact h2 h3
  ·have h4:Aq y.1.1 x.1.1<0:=(Bz.swap _ _ trivial trivial).2 (by omega)
   exact h2 (Bz.trans _ _ _ trivial trivial trivial h4 h3)
theorem AdK{g:Gh}{l:List bc}(hl:∀v∈l,v.size<=1000000){us:List yz}(h:Ad g (Ab (l.map eV)) us)(h1:∀c∈Ab (l.map eV),c.one=J):∃ps:List (j3 g.M),ps.map (fun p=>p.1.1)=l/\ps.flatMap Dg=us:=by
 have hA:repA g.M ((l.map eV).flatMap V.cellsV) us:=by
  have hlen:=A4 h
  refine Rr (by rw[hlen,Ab,H9]) fun j y hj=>?_
  obtain⟨v,h2,h3⟩:=BF h (i:=j) (d:=.v y) (by rw[Ab,Ir,hj];rfl)
  refine⟨?_,v,h2,by simpa only[Ag] using h3⟩
  have:=h1 (.v y) (Is.2 ⟨y,HG hj,rfl⟩)
  simpa[D.one] using this
 have hE:=EZ (sz:=2) (xs:=l.map eV) (fun y hy=>by obtain⟨v,_,rfl⟩:=Is.1 hy;exact RB v) hA
 clear h h1 hA
 induction l generalizing us with
 |nil=>
  simp only[I7,repE] at hE
  exact⟨[],rfl,by simp[hE]⟩
 |cons v l ih=>
  simp only[Ia,repE] at hE
  obtain⟨u1,u2,rfl,_,h3,h4⟩:=hE
  obtain⟨ps,h5,h6⟩:=ih (fun v hv=>hl v (by simp[hv])) h4
  exact⟨⟨(v,u1),hl v (by simp),h3⟩::ps,by simp[h5],by simp[h6,Dg]⟩
theorem cells_rep{g:Gh}(ps:List (j3 g.M)):Ad g (Ab ((ps.map fun p=>p.1.1).map eV)) (ps.flatMap Dg)/\∀c∈Ab ((ps.map fun p=>p.1.1).map eV),c.one=J:=by
 refine Et (sz:=2) ?_
 induction ps with
 |nil=>simp[repE]
 |cons p ps ih=>
  simp only[Ia,flatMap_cons,repE]
  exact⟨_,_,rfl,Li p,p.2.2,ih⟩
theorem Th{M:cd}:∀(ps:List (j3 M)) (t:Nat),t<I ps*2->(ps.flatMap Dg)[t]?=G ((Dg (ps.getD (t/2) default))[t%2]!)
 |[],t,h=>by simp at h
 |p::ps,t,h=>by
  have h2:=Li p
  rw[flatMap_cons]
  by_cases ht:t<2
  ·rw[HW (by omega),show t/2=0 by omega,show t%2=t by omega,List.getD_cons_zero]
   simp[h2,ht]
  ·rw[HT (by omega),h2,Th ps (t-2) (by simp at h;omega)]
   have e1:t/2=(t-2)/2+1:=by omega
   have e2:(t-2)%2=t%2:=by omega
   rw[e1,e2,List.getD_cons_succ]
theorem JX{M:cd}(d:Array (j3 M)):(flatK Dg 2 d).toList=d.toList.flatMap Dg:=by
 apply List.ext_getElem?
 intro t
 have hlen:∀l:List (j3 M),I (l.flatMap Dg)=I l*2:=by
  intro l
  induction l with
  |nil=>rfl
  |cons p l ih=>rw[flatMap_cons,HO,ih,Li,HF];omega
 by_cases ht:t<d.size*2
 ·rw[Th _ t (by simpa using ht),Jm]
  have h1:=get_flatK Dg 2 d t ht
  have hs:t<(flatK Dg 2 d).size:=by rw[size_flatK];exact ht
  rw[getElem!_pos (flatK Dg 2 d) t hs] at h1
  rw[Array.getElem?_eq_getElem hs,h1]
  congr 3
  simp[Array.getElem!_eq_getD,IK,HI]
 ·rw[Iy (by rw[Im,size_flatK];omega),Iy (by rw[hlen];simp;omega)]
def sortV(l:List bc):List bc:=l.mergeSort fun a b=>Y (Aq a b<=0)
theorem A7(l:List bc):(sortV l).Perm l:=List.mergeSort_perm l _
theorem GA(l:List bc):(sortV l).Pairwise fun a b=>Y (Aq a b<=0)=J:=
 List.pairwise_mergeSort (le:=fun a b=>Y (Aq a b<=0)) (fun a b c h1 h2=>HC (Ey (HL h1) (HL h2))) (fun a b=>by
  simp only[Bool.or_eq_true,HK];exact J9 a b) l
theorem Oe{l k:List bc}(hp:k.Perm l)(hs:k.Pairwise fun a b=>Y (Aq a b<=0)=J):k=sortV l:=by
 refine List.Perm.eq_of_pairwise (fun a b _ _ h1 h2=>?_) hs (GA l) (hp.trans (A7 l).symm)
 have h1:Aq a b<=0:=HL h1
 have h2:Aq b a<=0:=HL h2
 have:=Bz.swap b a trivial trivial
 have:=Bz.swap a b trivial trivial
 exact EB.1 (by omega)
theorem Ad5{g:Gh}{w:x5}{σ:St}(hw:dw g σ w){blk:Nat}(hM:∀o,g.M blk o=none)(n:Nat):CmpLays PP 22 #[] (Dg (M:=g.M)) 2 qx blk 0 n w:=by
 intro m os dk _ x y
 obtain⟨W,hW⟩:∃W,W=sortWorldK Dg 2 w blk 0 m dk os:=⟨_,rfl⟩
 rw[←hW]
 have hmem:∀b o v,g.M b o=G v->W.cell? ⟨b,o,none⟩=G v:=by
  intro b o v h
  have hne:b≠blk:=fun e=>by rw[e,hM] at h;simp at h
  have hc:=hw.mem b o v h
  have hlt:b<w.heap.size:=hw.mem_lt h
  rw[hW,sortWorldK,cell?_grow _ _ _ (by rw[size_putRowK];exact hlt),cell?_putRowK_other _ _ _ _ _ _ _ hne]
  exact hc
 have hrep:dw { M:=g.M,β:=g.β,n:=0,ι:=fun _ _=>none,κ:=g.κ } ⟨[],[]⟩ W:=
  { n:=rfl,mem:=hmem,obj:=fun i cs hi=>by simp at hi,inj:=fun i j cs ds hi=>by simp at hi,own:=fun k sz xs hx=>by simp at hx,tags:=by simp,sep:=fun x hx=>by simp at hx,ownObj:=fun x hx=>by simp at hx,fresh:=fun _ _ _=>rfl,gl:=hw.gl,gw:=fun p hp=>by simp[Gy] at hp }
 have arg:∀z:j3 g.M,Ag { M:=g.M,β:=g.β,n:=0,ι:=fun _ _=>none,κ:=g.κ } (dV z.1.1) (.agg (Dg z).toArray):=by
  intro z
  simp only[Ag]
  exact⟨Dg z,by rw[←AE];exact z.2.2,rfl⟩
 have hs:=(Mt _ x.1.1 y.1.1 (HH _) x.2.1).2 _ W [.agg (Dg x).toArray,.agg (Dg y).toArray] hrep (Av.2 ⟨_,_,rfl,arg x,arg y⟩)
 refine Calls.mono hs ?_
 rintro e w' ⟨u,g',rfl,hwi,hd⟩
 simp only[Ag,AJ] at hd
 exact⟨by rw[hd];rfl,Zf hwi⟩
theorem G9(l:List bc)(hl:I l<=100000)(hs:∀v∈l,v.size<=1000000):
  Aa PP 21 [.arr 0 0 (I l),dfn 22] ⟨[G (Ab (l.map eV))],[]⟩ (.tup []) ⟨[G (Ab ((sortV l).map eV))],[]⟩:=by
 refine⟨⟨_, Tryz.func21,by kernel_rfl,by kernel_rfl⟩,fun g w args hw hargs=>?_⟩
 obtain⟨u0,u1,rfl,h0,h1⟩:=Av.1 hargs
 simp only[Ag] at h0 h1
 obtain⟨hn,cap,hcap,rfl⟩:=h0
 obtain⟨us1,vs1,rfl,hu1,hv1⟩:=GG.1 h1
 simp only[F5] at hu1 hv1
 subst hu1;subst hv1
 obtain⟨us,rest,et,hb,hr,hone,hM,hκ⟩:=hw.obj 0 _ rfl
 obtain⟨ps,hp1,hp2⟩:=AdK hs hr hone
 have hpl:I ps=I l:=by rw[←hp1,H9]
 have hul:I us=I l*2:=by
  have:=HX Array.size (show flatK Dg 2 ps.toArray=us.toArray by rw[←hp2];apply IC;rw[JX])
  rw[size_flatK] at this;simp at this;omega
 have hF:(flatK Dg 2 ps.toArray).toList=us:=by rw[JX, ←hp2]
 have hH:HoldsK Dg 2 w (g.β 0) 0 ps.toArray:=by
  intro j hj
  have hj':j<I us:=by rw[size_flatK] at hj;simp at hj;omega
  refine⟨?_,by simp[World.frozen?,hb]⟩
  have hg:(us++rest)[j]?=G us[j]:=by rw[HW hj',HA hj']
  have hg2:(flatK Dg 2 ps.toArray)[j]! =us[j]:=by
   rw[getElem!_pos (flatK Dg 2 ps.toArray) j hj]
   have:(flatK Dg 2 ps.toArray).toList[j]?=G us[j]:=by rw[hF,HA hj']
   rw[Jm,Array.getElem?_eq_getElem hj] at this
   exact HZ this
  simp only[World.cell?,hb,Iv,hg2,id]
  simpa using hg
 have hblk:g.β 0<w.heap.size:=GR hb
 have eg:∀args w,(callFunc 22 args).run PP w=.ok (.enter 22 args) w:=enters_of Tryz.func22 (by kernel_rfl) rfl
 have hcon:=AnyQ.slices_SortFunc Tryz.sortV 2 Tryz.isAgg31 Tryz.sizeOf31 (Dg (M:=g.M)) Li (fun x v hv=>K2 x.2.2 v hv) qx Al5 22 #[] (g.β 0) 0 cap ps.toArray w eg (Ad5 hw hM _) hH hblk (by simp;omega)
 change Calls PP 21 _ _ _ at hcon
 rw[show ps.toArray.size=I l by simp[hpl]] at hcon
 refine Calls.mono hcon ?_
 rintro e w' ⟨rfl,d',n,os,hperm,hsorted,rfl⟩
 obtain⟨hsz,_,hperm⟩:=hperm
 have hdl:d'.toList.map (fun p=>p.1.1)=sortV l:=by
  refine Oe ?_ ?_
  ·rw[←hp1]
   have h2:d'.toList.Perm ps:=by simpa[Array.extract_eq_self_of_le,hsz,hpl] using hperm
   exact h2.map _
  ·rw[List.pairwise_iff_getElem]
   intro i j hi hj hij
   have hi':i<d'.size:=by simpa using hi
   have hj':j<d'.size:=by simpa using hj
   have h3:=hsorted i j (Ik _) hij (by simp only[IP] at hsz;omega)
   simp only[ltOf,qx,IU,getElem!_pos d' i hi',getElem!_pos d' j hj'] at h3
   simp only[List.getElem_map,Array.getElem_toList,HK]
   exact(FM _ _).2 h3
 have hd2:d'.size=I l:=by rw[hsz];simp[hpl]
 have hF2:(flatK Dg 2 d').toList=d'.toList.flatMap Dg:=JX d'
 have hFl:I (d'.toList.flatMap Dg)=I us:=by rw[←hF2,Im,size_flatK,hd2];omega
 have hcs:=cells_rep d'.toList
 rw[hdl] at hcs
 have hb2:(putRowK Dg 2 (Sort.ahead w n) (g.β 0) 0 d').heap[g.β 0]?=G (.cells ((d'.toList.flatMap Dg)++rest).toArray et (0,0)):=by
  simp only[putRowK,putRow,mapBlock,Sort.ahead,Array.getElem?_modify,hb,onCells,IJ,IA]
  congr 2
  apply Array.ext_getElem?
  intro t
  simp only[putCells,Array.getElem?_mapIdx,Nat.sub_zero,Ik,true_and,Iv,id,ID,IP]
  by_cases ht:t<I us
  ·have htF:t<(flatK Dg 2 d').size:=by rw[size_flatK,hd2];omega
   rw[HW ht,HW (by omega),HA ht,IA,HV htF, ←hF2,Jm,getElem!_pos (flatK Dg 2 d') t htF,Array.getElem?_eq_getElem htF]
  ·have htF:¬t<(flatK Dg 2 d').size:=by rw[size_flatK,hd2];omega
   rw[HT (by omega),HT (by omega),hFl]
   simp only[HR htF,Option.map_id']
 have h2:=(WI.start hw).setObj (cs':=Ab ((sortV l).map eV)) (q:=0) (w':=putRowK Dg 2 (Sort.ahead w n) (g.β 0) 0 d') rfl hb2 (by rw[←hκ,HO,HO,hFl]) hcs.1 hcs.2 (fun b hb'=>by
  simp only[putRowK,putRow,mapBlock,Sort.ahead,Array.getElem?_modify]
  rw[HR (fun h=>hb' h.symm)]) (by rw[size_putRowK];rfl) rfl rfl rfl (drawn:=.of (Nat.le_add_right _ _))
 have h3:=h2.grow (w':=sortWorldK Dg 2 w (g.β 0) 0 n d' os) (M':=g.M) (cd.le_refl _) (fun b hb'=>⟨heap_grow_old _ _ hb',fun _=>rfl⟩) (fun b o v h=>by
  rw[sortWorldK,cell?_grow _ _ _ (h2.rep.mem_lt h)];exact h2.rep.mem b o v h) (by rw[sortWorldK,size_grow];exact Nat.le_add_right _ _) rfl rfl rfl
 exact⟨_,g,rfl,h3,by simp only[Ag];exact⟨[],rfl,by simp[Ad]⟩⟩
end Go.Proofs.YtfhgjfkleggjfaaGreatDoor

namespace Go.Proofs
open Go.Shelf
open Go.IntKind (u64)
open Go.IntKind renaming wrap → yu, i64 → yt
open List renaming length → I, map → U, drop → W
open Option renaming some → G
open Bool renaming true → J, false → O
open Decidable renaming decide → Y
open Int renaming toNat → Z
open Go.Dv.V renaming list → ai, str → ae, agg → ab, int → aa, ref → bz, fn → bw, nils → bv, bool → bu
open Go.Dv.D renaming v → bt, acc → br, ptr → bq, arr → bo, gro → bm, tup → bl, undef → bk, dagg → bj
open Go.Dv.St renaming mk → bi
open Go.Dv.KI renaming blk → bh
open _root_.ByteArray renaming mk → bf
open Go renaming Operand → x8, Program → x7, TypeId → x6, World → x5, Value → yz, Oper → yy, FuncId → yx, Func → yw, IntKind → yv
def Tryz.sortW_ren:Go.Shelf.Ren:=⟨fun|6=>261|15=>47|14=>268|28=>87|29=>88|20=>271|21=>272|22=>273|23=>274|24=>275|25=>276|26=>277|27=>278|46=>279|47=>130|48=>131|49=>280|50=>281|57=>282|n=>n,fun|22=>156|24=>27|25=>222|3=>3|39=>93|0=>0|53=>119|55=>121|4=>4|46=>112|45=>111|50=>116|5=>5|9=>9|66=>149|70=>153|76=>188|77=>189|n=>n,fun|n=>n⟩
theorem Tryz.sortW:Go.Proofs.SlLaysF.n6 Tryz.prog Tryz.sortW_ren:={
 mixed:=by kernel_rfl
 f6:=⟨Tryz.f261.name,by decide,Tryz.func261.trans (HX G (by kernel_rfl))⟩
 f14:=⟨Tryz.f268.name,by decide,Tryz.func268.trans (HX G (by kernel_rfl))⟩
 f15:=Tryz.func47.trans (HX G (by kernel_rfl))
 f20:=⟨Tryz.f271.name,by decide,Tryz.func271.trans (HX G (by kernel_rfl))⟩
 f21:=⟨Tryz.f272.name,by decide,Tryz.func272.trans (HX G (by kernel_rfl))⟩
 f22:=⟨Tryz.f273.name,by decide,Tryz.func273.trans (HX G (by kernel_rfl))⟩
 f23:=⟨Tryz.f274.name,by decide,Tryz.func274.trans (HX G (by kernel_rfl))⟩
 f24:=⟨Tryz.f275.name,by decide,Tryz.func275.trans (HX G (by kernel_rfl))⟩
 f25:=⟨Tryz.f276.name,by decide,Tryz.func276.trans (HX G (by kernel_rfl))⟩
 f26:=⟨Tryz.f277.name,by decide,Tryz.func277.trans (HX G (by kernel_rfl))⟩
 f27:=⟨Tryz.f278.name,by decide,Tryz.func278.trans (HX G (by kernel_rfl))⟩
 f28:=Tryz.func87.trans (HX G (by kernel_rfl))
 f29:=Tryz.func88.trans (HX G (by kernel_rfl))
 f46:=⟨Tryz.f279.name,by decide,Tryz.func279.trans (HX G (by kernel_rfl))⟩
 f47:=Tryz.func130.trans (HX G (by kernel_rfl))
 f48:=Tryz.func131.trans (HX G (by kernel_rfl))
 f49:=⟨Tryz.f280.name,by decide,Tryz.func280.trans (HX G (by kernel_rfl))⟩
 f50:=⟨Tryz.f281.name,by decide,Tryz.func281.trans (HX G (by kernel_rfl))⟩
 f57:=⟨Tryz.f282.name,by decide,Tryz.func282.trans (HX G (by kernel_rfl))⟩
 t0:=Tryz.underlying0
 a0:=Tryz.isAgg0
 z0:=Tryz.sizeOf0
 v0:=Tryz.zeroValue0
 t3:=Tryz.underlying3
 a3:=Tryz.isAgg3
 z3:=Tryz.sizeOf3
 v3:=Tryz.zeroValue3
 t4:=Tryz.underlying4
 a4:=Tryz.isAgg4
 z4:=Tryz.sizeOf4
 v4:=Tryz.zeroValue4
 t5:=Tryz.underlying5
 a5:=Tryz.isAgg5
 z5:=Tryz.sizeOf5
 v5:=Tryz.zeroValue5
 t9:=Tryz.underlying9
 a9:=Tryz.isAgg9
 z9:=Tryz.sizeOf9
 v9:=Tryz.zeroValue9
 t22:=Tryz.underlying156
 a22:=Tryz.isAgg156
 z22:=Tryz.sizeOf156
 v22:=Tryz.zeroValue156
 a24:=Tryz.isAgg27
 z24:=Tryz.sizeOf27
 t25:=Tryz.underlying222
 a25:=Tryz.isAgg222
 z25:=Tryz.sizeOf222
 v25:=Tryz.zeroValue222
 t39:=Tryz.underlying93
 a39:=Tryz.isAgg93
 z39:=Tryz.sizeOf93
 v39:=Tryz.zeroValue93
 t45:=Tryz.underlying111
 a45:=Tryz.isAgg111
 z45:=Tryz.sizeOf111
 v45:=Tryz.zeroValue111
 t46:=Tryz.underlying112
 a46:=Tryz.isAgg112
 z46:=Tryz.sizeOf112
 v46:=Tryz.zeroValue112
 t50:=Tryz.underlying116
 a50:=Tryz.isAgg116
 z50:=Tryz.sizeOf116
 v50:=Tryz.zeroValue116
 t53:=Tryz.underlying119
 a53:=Tryz.isAgg119
 z53:=Tryz.sizeOf119
 v53:=Tryz.zeroValue119
 t55:=Tryz.underlying121
 a55:=Tryz.isAgg121
 z55:=Tryz.sizeOf121
 v55:=Tryz.zeroValue121
 t66:=Tryz.underlying149
 a66:=Tryz.isAgg149
 z66:=Tryz.sizeOf149
 v66:=Tryz.zeroValue149
 t70:=Tryz.underlying153
 a70:=Tryz.isAgg153
 z70:=Tryz.sizeOf153
 v70:=Tryz.zeroValue153
 t76:=Tryz.underlying188
 a76:=Tryz.isAgg188
 z76:=Tryz.sizeOf188
 v76:=Tryz.zeroValue188
 t77:=Tryz.underlying189
 a77:=Tryz.isAgg189
 z77:=Tryz.sizeOf189
 v77:=Tryz.zeroValue189 }
end Go.Proofs
namespace Go.Proofs.YtfhgjfkleggjfaaGreatDoor
open Go.Dv Go.Nv Go.Shelf Go.RowKit Go.Lib Go.Sort
set_option maxRecDepth 20000
open Go.IntKind (u64)
open Go.IntKind renaming wrap → yu, i64 → yt
open List renaming length → I, map → U, drop → W
open Option renaming some → G
open Bool renaming true → J, false → O
open Decidable renaming decide → Y
open Int renaming toNat → Z
open Go.Dv.V renaming list → ai, str → ae, agg → ab, int → aa, ref → bz, fn → bw, nils → bv, bool → bu
open Go.Dv.D renaming v → bt, acc → br, ptr → bq, arr → bo, gro → bm, tup → bl, undef → bk, dagg → bj
open Go.Dv.St renaming mk → bi
open Go.Dv.KI renaming blk → bh
open _root_.ByteArray renaming mk → bf
open Go renaming Operand → x8, Program → x7, TypeId → x6, World → x5, Value → yz, Oper → yy, FuncId → yx, Func → yw, IntKind → yv
abbrev ce(w:List Int):bc:=.mk 0 (w.map lf)
def A5(a b:List Int):Int:=Aq (ce a) (ce b)
theorem QQ{a b:List Int}(h:ce a=ce b):a=b:=by
 have h:=HX (fun v:bc=>v.az.map bc.n) h
 simpa only[YS,bc.az] using h
abbrev oh(M:cd):={p:List Int×yz//p.1.length<=1000000/\repV M (cz p.1) p.2}
instance (M:cd):Inhabited (oh M):=⟨⟨([],.slice none 0 0),by decide,DX _⟩⟩
def Ho{M:cd}(x:oh M):yz:=x.1.2
def qy{M:cd}(x y:oh M):Int:=A5 x.1.1 y.1.1
theorem Al4{M:cd}:SWO (ltOf (qy (M:=M))) where
 irrefl x:=by simp only[ltOf,qy,A5,Bz.refl _ trivial];decide
 trans x y z h1 h2:=by
  have h1:Aq (ce x.1.1) (ce y.1.1)<0:=HL h1
  have h2:Aq (ce y.1.1) (ce z.1.1)<0:=HL h2
  exact HC (Bz.trans (ce x.1.1) (ce y.1.1) (ce z.1.1) trivial trivial trivial h1 h2)
 ntrans x y z h1 h2:=by
  have h1:¬A5 x.1.1 y.1.1<0:=Iu h1
  have h2:¬A5 y.1.1 z.1.1<0:=Iu h2
  refine HE fun h3=>?_
  have h3:A5 x.1.1 z.1.1<0:=h3
  have h1':Aq (ce y.1.1) (ce x.1.1)<=0:=(FM _ _).2 h1
  have h2':Aq (ce z.1.1) (ce y.1.1)<=0:=(FM _ _).2 h2
  exact(FM _ _).1 (Ey h2' h1') h3
theorem Aaf{g:Gh}{l:List (List Int)}(hl:∀v∈l,I v<=1000000){us:List yz}(h:Ad g (Ab (l.map cz)) us):∃ps:List (oh g.M),ps.map (fun p=>p.1.1)=l/\us=ps.map Ho:=by
 induction l generalizing us with
 |nil=>exact⟨[],rfl,by simpa[Ab,Ad] using h⟩
 |cons v l ih=>
  have h':Ad g (.v (cz v)::Ab (l.map cz)) us:=h
  simp only[Ad] at h'
  obtain⟨u,us',rfl,h1,h2⟩:=h'
  obtain⟨ps,h5,h6⟩:=ih (fun v hv=>hl v (by simp[hv])) h2
  simp only[Ag] at h1
  exact⟨⟨(v,u),hl v (by simp),h1⟩::ps,by simp[h5],by simp[h6,Ho]⟩
theorem VY{g:Gh}(ps:List (oh g.M)):Ad g (Ab ((ps.map fun p=>p.1.1).map cz)) (ps.map Ho)/\∀c∈Ab ((ps.map fun p=>p.1.1).map cz),c.one=J:=by
 induction ps with
 |nil=>exact⟨by simp[Ab,Ad],by simp[Ab]⟩
 |cons p ps ih=>
  constructor
  ·show Ad g (.v (cz p.1.1)::Ab ((ps.map fun p=>p.1.1).map cz)) (Ho p::ps.map Ho)
   simp only[Ad]
   exact⟨_,_,rfl,by simp only[Ag];exact p.2.2,ih.1⟩
  ·intro c hc
   have hc:c∈bt (cz p.1.1)::Ab ((ps.map fun p=>p.1.1).map cz):=hc
   rcases Iq.1 hc with rfl|hc
   ·rfl
   ·exact ih.2 c hc
def sortW(l:List (List Int)):List (List Int):=l.mergeSort fun a b=>Y (A5 a b<=0)
theorem D3(l:List (List Int)):(sortW l).Perm l:=List.mergeSort_perm l _
theorem AbD{l k:List (List Int)}(hp:k.Perm l)(hs:k.Pairwise fun a b=>Y (A5 a b<=0)=J):k=sortW l:=by
 have hso:(sortW l).Pairwise fun a b=>Y (A5 a b<=0)=J:=List.pairwise_mergeSort (le:=fun a b=>Y (A5 a b<=0)) (fun a b c h1 h2=>HC (Ey (HL h1) (HL h2))) (fun a b=>by
  simp only[Bool.or_eq_true,HK];exact J9 (ce a) (ce b)) l
 refine List.Perm.eq_of_pairwise (fun a b _ _ h1 h2=>?_) hs hso (hp.trans (D3 l).symm)
 have h1:Aq (ce a) (ce b)<=0:=HL h1
 have h2:Aq (ce b) (ce a)<=0:=HL h2
 have:=Bz.swap (ce b) (ce a) trivial trivial
 have:=Bz.swap (ce a) (ce b) trivial trivial
 exact QQ (EB.1 (by omega))
abbrev xp:Prop:=∀a b:List Int,I a<=1000000->I b<=1000000->F0 262 [cw a,cw b] (di (A5 a b))
theorem ZW(hC:xp){g:Gh}{w:x5}{σ:St}(hw:dw g σ w){blk:Nat}(hM:∀o,g.M blk o=none)(n:Nat):CmpLays1 PP 262 #[] (Ho (M:=g.M)) qy blk 0 n w:=by
 intro m os dk _ x y
 obtain⟨W,hW⟩:∃W,W=sortWorld Ho w blk 0 m dk os:=⟨_,rfl⟩
 rw[←hW]
 have hmem:∀b o v,g.M b o=G v->W.cell? ⟨b,o,none⟩=G v:=by
  intro b o v h
  have hne:b≠blk:=fun e=>by rw[e,hM] at h;simp at h
  have hc:=hw.mem b o v h
  have hlt:b<w.heap.size:=hw.mem_lt h
  rw[hW,sortWorld,cell?_grow _ _ _ (by rw[Go.Sort.size_putRow];exact hlt),cell?_putRow_other _ _ _ _ _ _ (.inl hne)]
  exact hc
 have hrep:dw { M:=g.M,β:=g.β,n:=0,ι:=fun _ _=>none,κ:=g.κ } ⟨[],[]⟩ W:=
  { n:=rfl,mem:=hmem,obj:=fun i cs hi=>by simp at hi,inj:=fun i j cs ds hi=>by simp at hi,own:=fun k sz xs hx=>by simp at hx,tags:=by simp,sep:=fun x hx=>by simp at hx,ownObj:=fun x hx=>by simp at hx,fresh:=fun _ _ _=>rfl,gl:=hw.gl,gw:=fun p hp=>by simp[Gy] at hp }
 have arg:∀z:oh g.M,Ag { M:=g.M,β:=g.β,n:=0,ι:=fun _ _=>none,κ:=g.κ } (cw z.1.1) (Ho z):=by
  intro z
  simp only[Ag]
  exact z.2.2
 have hs:=(hC x.1.1 y.1.1 x.2.1 y.2.1).2 _ W [Ho x,Ho y] hrep (Av.2 ⟨_,_,rfl,arg x,arg y⟩)
 refine Calls.mono hs ?_
 rintro e w' ⟨u,g',rfl,hwi,hd⟩
 simp only[Ag,AJ] at hd
 exact⟨by rw[hd];rfl,Zf hwi⟩
theorem MF(hC:xp)(l:List (List Int))(hl:I l<=100000)(hs:∀v∈l,I v<=1000000):
  Aa PP 261 [.arr 0 0 (I l),dfn 262] ⟨[G (Ab (l.map cz))],[]⟩ (.tup []) ⟨[G (Ab ((sortW l).map cz))],[]⟩:=by
 refine⟨⟨_, Tryz.func261,by kernel_rfl,by kernel_rfl⟩,fun g w args hw hargs=>?_⟩
 obtain⟨u0,u1,rfl,h0,h1⟩:=Av.1 hargs
 simp only[Ag] at h0 h1
 obtain⟨hn,cap,hcap,rfl⟩:=h0
 obtain⟨us1,vs1,rfl,hu1,hv1⟩:=GG.1 h1
 simp only[F5] at hu1 hv1
 subst hu1;subst hv1
 obtain⟨us,rest,et,hb,hr,hone,hM,hκ⟩:=hw.obj 0 _ rfl
 obtain⟨ps,hp1,hp2⟩:=Aaf hs hr
 have hpl:I ps=I l:=by rw[←hp1,H9]
 have hul:I us=I l:=by rw[hp2,H9,hpl]
 have hH:Holds Ho w (g.β 0) 0 ps.toArray:=by
  intro j hj
  have hj':j<I ps:=by simpa using hj
  refine⟨?_,by simp[World.frozen?,hb]⟩
  have hg:(us++rest)[j]?=G (Ho ps[j]):=by rw[HW (by omega),hp2,Ir,HA hj'];rfl
  rw[getElem!_pos ps.toArray j hj]
  simp only[World.cell?,hb,Iv,id]
  simpa using hg
 have hblk:g.β 0<w.heap.size:=GR hb
 have eg:∀args w,(callFunc 262 args).run PP w=.ok (.enter 262 args) w:=enters_of Tryz.func262 (by kernel_rfl) rfl
 have hcon:=Any.slices_SortFunc Tryz.sortW (Ho (M:=g.M)) (fun x=>Dl (x:=cz x.1.1) rfl x.2.2) qy Al4 262 #[] (g.β 0) 0 cap ps.toArray w eg (ZW hC hw hM _) hH hblk (by simp;omega)
 change Calls PP 261 _ _ _ at hcon
 rw[show ps.toArray.size=I l by simp[hpl]] at hcon
 refine Calls.mono hcon ?_
 rintro e w' ⟨rfl,d',n,os,hperm,hsorted,rfl⟩
 obtain⟨hsz,_,hperm⟩:=hperm
 have hdl:d'.toList.map (fun p=>p.1.1)=sortW l:=by
  refine AbD ?_ ?_
  ·rw[←hp1]
   have h2:d'.toList.Perm ps:=by simpa[Array.extract_eq_self_of_le,hsz,hpl] using hperm
   exact h2.map _
  ·rw[List.pairwise_iff_getElem]
   intro i j hi hj hij
   have hi':i<d'.size:=by simpa using hi
   have hj':j<d'.size:=by simpa using hj
   have h3:=hsorted i j (Ik _) hij (by simp only[IP] at hsz;omega)
   simp only[ltOf,qy,IU,getElem!_pos d' i hi',getElem!_pos d' j hj'] at h3
   simp only[List.getElem_map,Array.getElem_toList,HK]
   exact(FM _ _).2 h3
 have hd2:d'.size=I l:=by rw[hsz];simp[hpl]
 have hFl:I (d'.toList.map Ho)=I us:=by rw[H9,Im,hd2,hul]
 have hcs:=VY d'.toList
 rw[hdl] at hcs
 have hb2:(putRow Ho (Sort.ahead w n) (g.β 0) 0 d').heap[g.β 0]?=G (.cells ((d'.toList.map Ho)++rest).toArray et (0,0)):=by
  simp only[putRow,mapBlock,Sort.ahead,Array.getElem?_modify,hb,onCells,IJ,IA]
  congr 2
  apply Array.ext_getElem?
  intro t
  simp only[putCells,Array.getElem?_mapIdx,Nat.sub_zero,Ik,true_and,Iv,id,ID,IP]
  by_cases ht:t<I us
  ·have htF:t<d'.size:=by omega
   rw[HW ht,HW (by omega),HA ht,IA,HV htF,Ir,Jm,getElem!_pos d' t htF,Array.getElem?_eq_getElem htF];rfl
  ·have htF:¬t<d'.size:=by omega
   rw[HT (by omega),HT (by omega),hFl]
   simp only[HR htF,Option.map_id']
 have h2:=(WI.start hw).setObj (cs':=Ab ((sortW l).map cz)) (q:=0) (w':=putRow Ho (Sort.ahead w n) (g.β 0) 0 d') rfl hb2 (by rw[←hκ,HO,HO,hFl]) hcs.1 hcs.2 (fun b hb'=>by
  simp only[putRow,mapBlock,Sort.ahead,Array.getElem?_modify]
  rw[HR (fun h=>hb' h.symm)]) (by rw[Go.Sort.size_putRow];rfl) rfl rfl rfl (drawn:=.of (Nat.le_add_right _ _))
 have h3:=h2.grow (w':=sortWorld Ho w (g.β 0) 0 n d' os) (M':=g.M) (cd.le_refl _) (fun b hb'=>⟨heap_grow_old _ _ hb',fun _=>rfl⟩) (fun b o v h=>by
  rw[sortWorld,cell?_grow _ _ _ (h2.rep.mem_lt h)];exact h2.rep.mem b o v h) (by rw[sortWorld,size_grow];exact Nat.le_add_right _ _) rfl rfl rfl
 exact⟨_,g,rfl,h3,by simp only[Ag];exact⟨[],rfl,by simp[Ad]⟩⟩
end Go.Proofs.YtfhgjfkleggjfaaGreatDoor

namespace Go.Proofs.YtfhgjfkleggjfaaGreatDoor
open Go.Dv Go.Nv
set_option maxRecDepth 20000
open Go.IntKind (u64)
open Go.IntKind renaming wrap → yu, i64 → yt
open List renaming length → I, map → U, drop → W
open Option renaming some → G
open Bool renaming true → J, false → O
open Decidable renaming decide → Y
open Int renaming toNat → Z
open Go.Dv.V renaming list → ai, str → ae, agg → ab, int → aa, ref → bz, fn → bw, nils → bv, bool → bu
open Go.Dv.D renaming v → bt, acc → br, ptr → bq, arr → bo, gro → bm, tup → bl, undef → bk, dagg → bj
open Go.Dv.St renaming mk → bi
open Go.Dv.KI renaming blk → bh
open _root_.ByteArray renaming mk → bf
open Go renaming Operand → x8, Program → x7, TypeId → x6, World → x5, Value → yz, Oper → yy, FuncId → yx, Func → yw, IntKind → yv
noncomputable abbrev Zo:=Tryz.f9
noncomputable def Wb:=yl Zo
abbrev vt(l:List UInt8)(a:Nat)(c:bc)(run:List c8):St:=⟨[G (cr l a),G [di 0,.v .nils],G [di c.n,cx c.az]],[(1,3,run.map d8)]⟩
end Go.Proofs.YtfhgjfkleggjfaaGreatDoor

namespace Go.Nv
open Go.Dv
open Go.IntKind (u64)
open Go.IntKind renaming wrap → yu, i64 → yt
open List renaming length → I, map → U, drop → W
open Option renaming some → G
open Bool renaming true → J, false → O
open Decidable renaming decide → Y
open Int renaming toNat → Z
open Go.Dv.V renaming list → ai, str → ae, agg → ab, int → aa, ref → bz, fn → bw, nils → bv, bool → bu
open Go.Dv.D renaming v → bt, acc → br, ptr → bq, arr → bo, gro → bm, tup → bl, undef → bk, dagg → bj
open Go.Dv.St renaming mk → bi
open Go.Dv.KI renaming blk → bh
open _root_.ByteArray renaming mk → bf
open Go renaming Operand → x8, Program → x7, TypeId → x6, World → x5, Value → yz, Oper → yy, FuncId → yx, Func → yw, IntKind → yv
section
variable {C : cf -> cf -> Prop} {P : x7} {R : List D -> St -> Prop} {k : List KI} {env : List D} {σ : St} {ops : Array yy} {L : List yy} {o : yy}
end
def vk(f:yx):Op->Bool|.call c=>(match c.callee with|.value (.func f')=>f'==f|_=>false)|_=>false
def clA:Op->List x8|.call c=>c.args.toList|_=>[]
theorem Ajp{f:yx}{o:Op}(h:vk f o=J):∃c:Call,o=.call c/\c.callee=.value (.func f)/\clA o=c.args.toList:=by
 cases o<;>simp only[vk] at h<;>try (simp at h;done)
 rename_i c
 split at h
 ·rename_i f' hc
  have:=eq_of_beq h;subst this
  exact⟨c,rfl,hc,rfl⟩
 ·simp at h
section
variable {P : x7} {R : List D -> St -> Prop} {k : List KI} {nt : Nat} {E : List (Nat × D)} {σ : St} {ops : Array yy} {L0 : List yy} {C : cf -> cf -> Prop}
end
section
variable {P : x7} {fn : yw} {d : D} {σ' : St} {m : Nat} {k : List KI} {E : List (Nat × D)} {σ : St}
theorem D5(hm:P.follows .mixedOrders=J)(nt:Nat)(im:List Nat)(rg i:Nat){ops:Array yy}{L:List yy}(s:Sc)
  (h:AY (ba nt E) fun env=>Wr P im rg ops (fun L sl σ=>It (B8 (CN m) P (fun env σ1=>Az P fn env σ1 d σ') (k++[]) ops L (ba nt sl) σ)) L i s env σ fun s env σ=>vc (CN m) m P (fun env σ1=>Az P fn env σ1 d σ') (WO P fn.results.toList d σ') nt im [] 10000 s k env σ):
  B8 (CN m) P (fun env σ1=>Az P fn env σ1 d σ') k ops L (ba nt E) σ:=by
 have:=Oh hm (M5 m) m (fun _ _ h=>h.2) nt im rg i s h
 rwa[Iz] at this
end
theorem Ec{σ:St}{q:Nat}{cs cs':List D}(hq:σ.H[q]?=G (G cs))(h:∀(g:Gh) (us:List yz),Ad g cs us->Ad g cs' us)(h1:(∀c∈cs,c.one=J)->∀c∈cs',c.one=J)(e:List D):Cv e σ e ⟨σ.H.set q (G cs'),σ.own⟩:=fun E g a w hf=>by
 refine⟨g,?_,hf.env,hf.defers⟩
 have hw:=hf.wi
 obtain⟨us,rest,et,hb,hr,h2,hM,hκ⟩:=hw.rep.obj q cs hq
 exact hw.setObj hq hb hκ (h g us hr) (h1 h2) (fun _ _=>rfl) rfl rfl rfl rfl
theorem ZG{env:List D}{σ:St}{q t sz n:Nat}{xs:List V}(hsz:0<sz)(hs:∀x∈xs,x.size=sz)(hn:n=I xs)(hq:σ.H[q]?=G (G (Ab xs)))(ht:env[t]?=G (.arr q 0 n)):Cv env σ (env.set t (.v (.list xs))) ⟨σ.H.set q none,σ.own⟩:=fun E g a w hf=>by
 subst hn
 have hone:∀y∈xs.flatMap V.cellsV,y.isAgg=O:=fun y hy=>by
  obtain⟨_,_,_,_,_,h1,_⟩:=hf.wi.rep.obj q _ hq
  have:=h1 (.v y) (Is.2 ⟨y,hy,rfl⟩)
  simpa[D.one] using this
 have hz:Fz (Ex [q] σ.H) env (env.set t (.v (.list xs))):=by
  refine MV (n:=1) (Fz.refl env) ht (.inr (.inr ⟨q,0,sz,Ab xs,xs,.inl rfl,rfl,hsz,hs,by simp[Ex,hq],fun j y hy=>?_⟩))
  exact⟨hone y (HG hy),.v y,by rw[Iv,Ab,Ir,hy];rfl,.v y,.same,rfl⟩
 obtain⟨g',hf'⟩:=Qt [q] hz E g a w hf
 exact⟨g',by simpa[LX] using hf'⟩
end Go.Nv

namespace Go.Proofs.YtfhgjfkleggjfaaGreatDoor
open Go.Dv Go.Nv
set_option maxRecDepth 20000
open List (flatten take)
open Go.IntKind (u64)
open Go.IntKind renaming wrap → yu, i64 → yt
open List renaming length → I, map → U, drop → W
open Option renaming some → G
open Bool renaming true → J, false → O
open Decidable renaming decide → Y
open Int renaming toNat → Z
open Go.Dv.V renaming list → ai, str → ae, agg → ab, int → aa, ref → bz, fn → bw, nils → bv, bool → bu
open Go.Dv.D renaming v → bt, acc → br, ptr → bq, arr → bo, gro → bm, tup → bl, undef → bk, dagg → bj
open Go.Dv.St renaming mk → bi
open Go.Dv.KI renaming blk → bh
open _root_.ByteArray renaming mk → bf
open Go renaming Operand → x8, Program → x7, TypeId → x6, World → x5, Value → yz, Oper → yy, FuncId → yx, Func → yw, IntKind → yv
noncomputable abbrev AkO:=Tryz.f208
noncomputable abbrev qe:=Tryz.f209
noncomputable def oe:=yl qe
theorem Tf{c:bc}{s:Int}{ys:List Int}(hc:j4 c s ys):c.az=lf s::ys.map lf:=by rw[hc.eq];rfl
theorem PS{c:bc}{s:Int}{ys:List Int}(hc:j4 c s ys):W 1 (take (I (c.az.map eV)) (c.az.map eV))=(ys.map lf).map eV:=by
 rw[List.take_length,Tf hc];rfl
theorem AdJ(r:cp)(c:bc)(s:Int)(ys:List Int)(hl:I r.am=I ys)(hl2:I ys<=1000)(n:Nat):∀k:Nat,I ys-k=n->
  Rn PP qe 0 (db (DI (r.am.drop k) (ys.drop k))) bd ([kl oe [1,1,0,1,0,0],.blk 0,kc oe [1,1,1]]++[]) (ba 33 [(2,.v (.ref (Ai r))),(17,cx (ys.map lf)),(18,di (I ys)),(19,di k)]) bd:=by
 induction n with
 |zero=>
  intro k hn
  refine lv 33 [2,3] (.f .r) (Y ((k:Int)<(I ys:Int))=O/\db J=db (DI (W k r.am) (W k ys))) ⟨yq,?_⟩
  rw[HU (show I r.am<=k by omega)];simp only[DI]
 |succ n ih=>
  intro k hn
  obtain⟨x,hx⟩:∃x,r.am[k]?=G x:=⟨_,HA (show k<I r.am by omega)⟩
  obtain⟨y,hy⟩:=yk (show k<I ys by omega)
  refine lv 33 [2,3] (.t<|.h (.xs (Ac (lf y)))<|.x (vi x)<|.b .r (.ls [ke 2,ke 17,ke 18,ch 19 (di (k+1:Nat))] bd)) (Y ((k:Int)<(I ys:Int))=J/\Q 2/\0<=(k:Int)/\(U eV (U lf ys))[Z (k:Int)]?=G (Ac (lf y))/\0<=(k:Int)/\(U vi r.am)[Z (k:Int)]?=G (vi x)/\yp/\(Y (bc.n (lf y)<x)=J->db O=db (DI (W k r.am) (W k ys)))/\(Y (bc.n (lf y)<x)=O->di (yu yt ((k:Int)+1))=di (↑(k+1):Int)/\I0 qe 0 (db (DI (W k r.am) (W k ys))) bd [kl oe d5,bh 0,kc oe [1,1,1]] (ba 33 [(2,bt (bz (Ai r))),(17,bt (dt (U lf ys))),(18,di (I ys:Int)),(19,di (↑(k+1):Int))]) bd)) ?_
  have e3:r.am.drop k=x::r.am.drop (k+1):=by rw[HP (by omega)];congr 1;rw[HA (by omega)] at hx;simpa using hx
  have e4:ys.drop k=y::ys.drop (k+1):=by rw[HP (by omega)];congr 1;rw[HA (by omega)] at hy;simpa using hy
  rw[e3,e4]
  refine⟨yr,rfl,by omega,An (by rw[Ir,hy];rfl),by omega,Am hx,yn,fun h1=>?_,fun h1=>⟨Ae,⟨?_⟩⟩⟩
  ·have h1:Y (y<x)=J:=h1
   simp only[DI,h1,Bool.not_true,Ih]
  ·have h1:Y (y<x)=O:=h1
   simp only[DI,h1,Bool.not_false,Ij]
   have:=ih (k+1) (by omega)
   exact this
theorem AdI(r:cp)(c:bc)(s:Int)(ys:List Int)(hc:j4 c s ys)(hl:I r.am=I ys)(hl2:I ys<=1000):F0 209 [Cu r,dV c] (db (gj r s ys)):=by
 have hk:=Tf hc
 have hd:=PS hc
 have hlen:I c.az=I ys+1:=hc.len
 refine sv qe 33 [2,3] (.h (.xs (Ac (lf s)))<|.b .r (.l [ke 2,ch 17 (cx (ys.map lf)),ch 18 (di (I ys)),ch 19 (di (0:Nat))])) (Q 2/\iz 0<=0/\(cc c.az)[Z 0]?=G (Ac (lf s))/\((bc.n (lf s) !=r.aj)=J->db O=db (gj r s ys))/\((bc.n (lf s) !=r.aj)=O->(∀(x:V),x∈U eV c.az->V.size x=2)/\0<=(1:Int)/\(1:Int)<=(I (cc c.az):Int)/\bt (ai (W (Z ((1:Int))) (take (I (cc c.az)) (cc c.az))))=cx (U lf ys)/\di (I (W (Z ((1:Int))) (take (I (cc c.az)) (cc c.az))):Int)=di (I ys:Int)/\di 0=di (↑0:Int)/\I0 qe (I bd.H) (db (gj r s ys)) bd [kl oe d5,bh 0,kc oe [1,1,1]] (ba 33 [(2,bt (bz (Ai r))),(17,cx (U lf ys)),(18,di (I ys:Int)),(19,di (↑0:Int))]) dh)) ⟨rfl,by decide,An (i:=0) hc.head,fun h=>?_,fun h=>⟨?_,by omega,?_,?_,?_,rfl,⟨?_⟩⟩⟩
 ·have h:(s !=r.aj)=J:=h
  have h:(s==r.aj)=O:=by simpa using h
  simp only[gj,h,Ih]
 ·intro x hx;obtain⟨v,_,rfl⟩:=Is.1 hx;rw[AE];rfl
 ·rw[H9];omega
 ·exact HX (fun l=>bt (.list l)) hd
 ·have:=HX (fun l:List V=>di (I l:Int)) hd
  simpa using this
 ·have h:(s !=r.aj)=O:=h
  have h:(s==r.aj)=J:=by simpa using h
  simp only[gj,h,Ij]
  exact AdJ r c s ys hl hl2 _ 0 rfl
noncomputable abbrev Alu:=Tryz.f210
noncomputable abbrev li:=Tryz.f180
noncomputable def TC:=yl li
def UR:List bc->List Int->bc×Int
 |xs,v::vs=>if Y (v>1048576)=J then(.mk 0 [],1) else UR (xs++[lf v]) vs
 |xs,[]=>(.mk 0 xs,0)
theorem Yo:∀(ws gs:List Int) (xs:List bc),I ws=I gs->UR xs (List.zipWith (fun w g=>w+g) ws gs)=FG xs ws gs
 |[],[],xs,_=>rfl
 |w::ws,g::gs,xs,h=>by
  simp only[List.zipWith_cons_cons,UR,FG]
  rw[Yo ws gs _ (by simpa using h)]
theorem Ajw(r:cp)(ws:List Int)(hw:I ws<=1000)(n:Nat):∀(k:Nat) (xs:List bc),I ws-k=n->I xs<=k+1->
  Rn PP li 0 (dP (UR xs (ws.drop k))) bd ([kl TC [1,1,1,1,1,1,1,0,1,0,0],.blk 2,kc TC [1,1,1,1,1,1,1,1]]++[]) (ba 90 [(6,.ptr 0 0),(14,.ptr 3 0),(72,.arr 2 0 (I ws)),(73,di (I ws)),(74,di k)]) (j9 r ws xs):=by
 induction n with
 |zero=>
  intro k xs hn hx
  refine lv 90 [3,5] (.f .r) (Y ((k:Int)<(I ws:Int))=O/\bl [bt (tw xs),di 0]=dP (UR xs (W k ws))) ⟨yq,?_⟩
  rw[HU (show I ws<=k by omega)];rfl
 |succ n ih=>
  intro k xs hn hx
  obtain⟨w,hw1⟩:=yk (show k<I ws by omega)
  refine lv 90 [3,5] (.t<|.m (di w)<|.b .r (.lo [ke 6,ke 14,ke 72,ke 73,ch 74 (di (k+1:Nat))] (j9 r ws (xs++[lf w])))) (Y ((k:Int)<(I ws:Int))=J/\0<=(k:Int)/\(k:Int)<(I ws:Int)/\(dp ws)[0+Z (k:Int)*1]?=G (di w)/\(Y (w>1048576)=J->bl [bt l8,di 1]=dP (UR xs (W k ws)))/\(Y (w>1048576)=O->Q (U eV xs)/\Ao (I (U eV xs)+I (ab (aa yt w::ai nV::nV)::nV)) 32/\di (yu yt ((k:Int)+1))=di (↑(k+1):Int)/\cm 4 [1] [G [di 0,dn],G (cR r),G (dp ws),G [di 0,br 1 (U eV xs++[ab [vi w,ai []]])]]=J/\[G [di 0,dn],G (cR r),G (dp ws),G [di 0,br 1 (U eV xs++ab (gn w)::nV)]]=[G [di 0,dn],G (cR r),G (dp ws),G [di 0,br 1 (U eV (xs++[lf w]))]]/\[(1,2,U eV xs++ab (gn w)::nV)]=[(1,2,U eV (xs++[lf w]))]/\I0 li 0 (dP (UR xs (W k ws))) bd [kl TC [1,1,1,1,1,1,1,0,1,0,0],bh 2,kc TC [1,1,1,1,1,1,1,1]] (ba 90 [j0,(14,bq 3 0),(72,bo 2 0 (I ws)),(73,di (I ws:Int)),(74,di (↑(k+1):Int))]) (j9 r ws (xs++[lf w])))) ?_
  have e3:ws.drop k=w::ws.drop (k+1):=by rw[HP (by omega)];congr 1;rw[HA (by omega)] at hw1;simpa using hw1
  rw[e3]
  refine⟨yr,by omega,by omega,by simp[dp,hw1],fun h=>?_,fun h=>⟨rfl,⟨?_,?_⟩,Ae,?_,?_,?_,⟨?_⟩⟩⟩
  ·simp only[UR,h,IJ];rfl
  ·simp only[H9,HF,HJ];omega
  ·simp only[H9,HF,HJ];omega
  ·simp[cm,D.okNs,D.okN,Dw]
  ·rw[←B1];rfl
  ·rw[←B1];rfl
  ·have:=ih (k+1) (xs++[lf w]) (by omega) (by simp;omega)
   simp only[UR,h,Jq,if_false]
   exact this
theorem Afx(l:List Int):D.pls (dp l)=J:=by
 have:dp l=(l.map vi).map .v:=by simp[dp]
 rw[this];exact BY _
noncomputable abbrev Aiy:=Tryz.f176
noncomputable abbrev xi:=Tryz.f124
noncomputable abbrev t8:=Tryz.f178
noncomputable abbrev Aky:=Tryz.f179
theorem Pr(p:bc×Int):F0 179 [dV p.1,di p.2] (du (BG p)):=by
 refine sv Aky 14 [2] (.b .r (.b .r .r)) (((p.snd==0)=J->bl [bt (ai [Ac p.fst]),di 0]=du (BG p))/\((p.snd==0)=O->((p.snd==18)=J->bl n7=du (BG p))/\((p.snd==18)=O->bl [bt (ai []),di p.snd]=du (BG p)))) ⟨fun h=>?_,fun h=>⟨fun h1=>?_,fun h1=>?_⟩⟩
 ·have h:p.2=0:=by simpa using h
  rw[BG,HR (by rw[h];decide),HR (by rw[h];decide)]
  show bl [.v (.list [Ac p.1]),di 0]=_
  rw[←AE];rfl
 ·rw[BG,HV h1];rfl
 ·have h:p.2≠0:=by simpa using h
  rw[BG,HR (by rw[h1];decide),HV (by simpa using h)];rfl
noncomputable abbrev qi:=Tryz.f125
noncomputable abbrev Hf:=Tryz.f77
noncomputable def Dr:=yl Hf
theorem Afn(m:b9)(c:bc)(rl:Int)(hr1: -1<=rl)(hr2:rl<=1000)(l:List bc)(hl0:I l<=1000)(p:List c8×Int)(fin:List c8)(hf:I fin<=100000)
  (hout:Rn PP Hf 0 (e7 p) bd ([kl Dr [1,1,1,0,1,0,0],.blk 0,kc Dr [1,1,1,1]]++[]) (ba 53 [(2,.v (.ref (A1 m))),(3,.v (.ref (Ac c))),(7,GZ fin),(8,di (rl+1))]) (FF fin)) (n:Nat):∀(k:Nat) (xs:List c8),I l-k=n->xs++(l.drop k).map (fun v=>(rl,v))=fin->
  Rn PP Hf 0 (e7 p) bd ([kl Dr [1,1,1,0,1,0,0,1,0,0,1,1,1,0,0],.blk 2,.blk 1,kc Dr [1,1,1,0,1,0,0,1,1],kl Dr [1,1,1,0,1,0,0],.blk 0,kc Dr [1,1,1,1]]++[]) (ba 53 [(2,.v (.ref (A1 m))),(3,.v (.ref (Ac c))),(7,GZ xs),(8,di rl),(36,cx l),(37,di (I l)),(38,di k)]) (FF xs):=by
 induction n with
 |zero=>
  intro k xs hn hx
  rw[HU (by omega),I7,Iz] at hx
  subst hx
  exact lv 53 [2,3] (.f<|.l [ke 2,ke 3,ke 7,ch 8 (di (rl+1))]) (Y ((k:Int)<(I l:Int))=O/\di (yu yt (rl+1))=di (rl+1)/\_) ⟨yq,by rw[Al],iK hout⟩
 |succ n ih=>
  intro k xs hn hx
  have hk:k<I l:=by omega
  have hv:l[k]?=G l[k]:=HA hk
  rw[HP hk] at hx
  generalize l[k]=v at hv hx
  have hlen:=HX I hx
  simp only[HO,H9,HF,IF] at hlen
  refine lv 53 [2,3] (.t<|.h (.xs (Ac v))<|.ls [ke 2,ke 3,ch 7 (GZ (xs++[(rl,v)])),ke 8,ke 36,ke 37,ch 38 (di (k+1:Nat))] (FF (xs++[(rl,v)]))) (Y ((k:Int)<(I l:Int))=J/\Q 2/\0<=(k:Int)/\(U eV l)[Z (k:Int)]?=G (Ac v)/\Q (U d8 xs)/\Ao (I (U d8 xs)+I (ab (aa yt rl::vi v.n::dt v.az::nV)::nV)) 40/\br 1 (U d8 xs++[ab [vi rl,vi v.n,dt v.az]])=GZ (xs++[(rl,v)])/\di (yu yt ((k:Int)+1))=di (↑(k+1):Int)/\[(1,3,U d8 xs++ab (vi rl::vi v.n::dt v.az::nV)::nV)]=[(1,3,U d8 (xs++[(rl,v)]))]/\_) ⟨yr,rfl,by omega,An hv,rfl,⟨?_,?_⟩,?_,Ae,?_,iK (ih (k+1) (xs++[(rl,v)]) (by omega) (by rw[←hx];simp))⟩
  ·simp only[H9,HF,HJ];omega
  ·simp only[H9,HF,HJ];omega
  ·rw[GZ, ←Ge]
  ·rw[←Ge]
theorem Py(m:b9)(hm:I m.av<=12)(c:bc)(ap:Int->List bc×Int)(hl:∀i,(ap i).1.length<=1000)(hap:∀i:Int, -1<=i->i<I m.av->F0 125 [Af m,di i,dV c] (du (ap i)))(n:Nat):∀(rl:Int) (xs:List c8), -1<=rl->rl<=I m.av->(I m.av-rl).toNat=n->I xs<=(rl+1).toNat*1000->
  Rn PP Hf 0 (e7 (Cz ap n rl xs)) bd ([kl Dr [1,1,1,0,1,0,0],.blk 0,kc Dr [1,1,1,1]]++[]) (ba 53 [(2,.v (.ref (A1 m))),(3,.v (.ref (Ac c))),(7,GZ xs),(8,di rl)]) (FF xs):=by
 induction n with
 |zero=>
  intro rl xs h1 h2 hn hx
  refine lv 53 [2,3] (.f<|.b .r .r) (Y (rl<(I (U Ai m.av):Int))=O/\(Y ((I (U d8 xs):Int)>256)=J->bl [bt (ai []),di 1]=e7 (Cz ap 0 rl xs))/\(Y ((I (U d8 xs):Int)>256)=O->bl [bt (ai (U d8 xs)),di 0]=e7 (Cz ap 0 rl xs))) ⟨by rw[H9];exact yq,fun h=>?_,fun h=>?_⟩
  ·rw[H9] at h;rw[Cz,HV h];rfl
  ·rw[H9] at h;rw[Cz,HR (by rw[h];decide)]
 |succ n ih=>
  intro rl xs h1 h2 hn hx
  have hp:=hap rl h1 (by omega)
  have hi:=ih (rl+1) (xs++(ap rl).1.map fun v=>(rl,v)) (by omega) (by omega) (by omega) (by have:=hl rl;simp only[HO,H9];omega)
  have hll:=hl rl
  rw[Cz]
  generalize ap rl=q at*
  refine lv 53 [2,3] (.t<|.c (du q)<|.b .r (.l [ke 2,ke 3,ke 7,ke 8,ke 36,ch 37 (di (I q.1)),ch 38 (di (0:Nat))])) (Y (rl<(I (U Ai m.av):Int))=J/\_/\((q.snd !=0)=J->bl [bt (ai []),di q.snd]=e7 (if (q.snd !=0)=J then([],q.snd) else Cz ap n (rl+1) (xs++U (fun v=>(rl,v)) q.fst)))/\((q.snd !=0)=O->di (I (cc q.fst):Int)=di (I q.fst:Int)/\di 0=di (↑0:Int)/\I0 Hf 0 (e7 (if (q.snd !=0)=J then([],q.snd) else Cz ap n (rl+1) (xs++U (fun v=>(rl,v)) q.fst))) bd [kl Dr [1,1,1,0,1,0,0,1,0,0,1,1,1,0,0],bh 2,bh 1,kc Dr [1,1,1,0,1,0,0,1,1],kl Dr gi,bh 0,kc Dr [1,1,1,1]] (ba 53 [(2,bt (ic m)),(ip c),(7,br 1 (U d8 xs)),(8,di rl),(36,cx q.fst),(37,di (I q.fst:Int)),(38,di (↑0:Int))]) (FF xs))) ⟨by rw[H9];exact yr,hp,fun h=>?_,fun h=>⟨by rw[H9],rfl,⟨?_⟩⟩⟩
  ·rw[HV h];rfl
  ·rw[HR (by rw[h];decide)]
   exact Afn m c rl h1 (by omega) q.1 hll _ _ (by simp only[HO,H9];omega) hi _ 0 xs rfl (by simp)
theorem Ct(l:List bc):∀y∈l.map eV,y.size=2:=fun y hy=>by obtain⟨v,_,rfl⟩:=Is.1 hy;exact RB v
theorem A8(v:bc)(l:List bc):Ab ((v::l).map eV)=[.v (vi v.n),.v (dt v.az)]++Ab (l.map eV):=by
 simp only[Ab,Ia,List.flatMap_cons,IQ]
 rw[AE];rfl
theorem AT:∀l:List bc,I (Ab (l.map eV))=I l*2
 |[]=>rfl
 |v::l=>by rw[A8,HO,AT l,HF];simp;omega
theorem DL(l k:List bc):Ab ((l++k).map eV)=Ab (l.map eV)++Ab (k.map eV):=by
 simp only[Ab,IQ,List.flatMap_append]
theorem Dz{l:List bc}{i:Nat}{x:bc}(h:l[i]?=G x):((Ab (l.map eV)).drop (i*2)).take 2=[.v (vi x.n),.v (dt x.az)]:=by
 obtain⟨hi,rfl⟩:=HD.1 h
 have e:l=l.take i++l[i]::l.drop (i+1):=by rw[←HP hi,List.take_append_drop]
 conv=>lhs;rw[e]
 rw[DL,A8,List.drop_left' (by rw[AT,Ig];omega)]
 rfl
theorem Mc{l:List bc}{i:Nat}{x:bc}(h:l[i]?=G x):(Ab (l.map eV)).take (i*2)++[.v (vi x.n),.v (dt x.az)]++(Ab (l.map eV)).drop (i*2+2)=Ab (l.map eV):=by
 rw[←Dz h,IG]
 conv=>rhs;rw[←List.take_append_drop (i*2) (Ab (l.map eV))]
 rw[List.append_cancel_left_eq, ←List.drop_drop]
 exact List.take_append_drop 2 _
theorem A3(l:List V):D.pls (Ab l)=J:=BY _
theorem Ak(n:Nat)(ts:List Nat)(l:List V):D.okNs n ts (Ab l)=J:=by
 unfold Ab
 induction l.flatMap V.cellsV with
 |nil=>rfl
 |cons x l ih=>simp only[Ia,D.okNs,D.okN,ih,Ij]
noncomputable abbrev xj:=Tryz.f76
theorem AdB:F0 76 [cx []] (cx []):=by
 refine Su (ds:=[]) (ds':=[]) fun a cap=>?_
 cases a with
 |none=>
  refine sv xj 8 [] .r (bt (ai [])=cx []) ?_
  rfl
 |some a=>
  refine sv xj 8 [] (.a 1<|.h (.q 3 2)<|.h (.un 6)<|.r) (Q nV/\Ao 0 32/\bt (ai [])=cx []) ⟨rfl,⟨by simp,by simp⟩,?_⟩
  rfl
noncomputable abbrev dv:=fun a₀=>(Ab (U eV a₀))
theorem VN(l:List bc)(hl:I l<=1000000)(h:l≠ []):Aa PP 76 [cx l] bd (.arr 1 0 (I l)) ⟨[none,G (Ab (l.map eV))],[]⟩:=by
 refine sv xj 8 [] (.h .g<|.h (.q 3 3)<|.h (.ga 7) .ro) (U eV l≠ []/\Q 0/\U eV l≠ []/\(∀(y:V),y∈U eV l->V.size y=2)/\Ao (0+I (U eV l)) 32/\cm 2 [] [none,G ([]++Ab (U eV l))]=J/\[none,G ([]++Ab (U eV l))]=[none,G (dv l)]/\bo 1 0 (0+I (U eV l))=bo 1 0 (I l)) ⟨by simpa using h,rfl,by simpa using h,Ct l,⟨by simp;omega,by simp;omega⟩,?_,?_,?_⟩
 ·simp[cm,Ak]
 ·simp
 ·simp
noncomputable abbrev pr:=Tryz.f42
noncomputable def py:=yl pr
abbrev ja(l:List bc):St:=⟨[G [di 0,.v .nils],G (Ab (l.map eV))],[]⟩
noncomputable abbrev c7:=fun a₀ b₀=>[di a₀,cx b₀]
theorem Ach(v:bc)(hv:v.size<=1000000)(hk:∀x∈v.az,F0 42 [dV x] (dV x))(n:Nat):∀k:Nat,I v.az-k=n->
  Rn PP pr 0 (dV v) bd ([kl py [1,1,0,1,0,0],.blk 0,kc py [1,1,1]]++[]) (ba 26 [(1,.v (.ref (Ac v))),(2,.ptr 0 0),(3,.arr 1 0 (I v.az)),(9,.arr 1 0 (I v.az)),(10,di (I v.az)),(11,di k)]) (ja v.az):=by
 induction n with
 |zero=>
  intro k hn
  exact lv 26 [1] (.f<|.h (.q 7 0)<|.h (.ct 3 (cx v.az) ⟨[G [di 0,.v .nils],none],[]⟩) .r) (Y ((k:Int)<(I v.az:Int))=O/\(∀(e:List D),e[3]?=G (bo 1 0 (I v.az))->∀(E:cf) (g:Gh) (a:Act) (w:x5),FI E g (ja v.az) e a w->∃g',FI E g' (bi [G [di 0,dn],none] []) (List.set e 3 (cx v.az)) a w)/\Q (dV v)) ⟨yq,fun e he=>ZG (σ:=ja v.az) (q:=1) (sz:=2) (by decide) (Ct _) (by simp) rfl he,rfl⟩
 |succ n ih=>
  intro k hn
  obtain⟨x,hx⟩:∃x,v.az[k]?=G x:=⟨_,HA (show k<I v.az by omega)⟩
  refine lv 26 [1] (.t<|.m (dV x)<|.c (dV x)<|.h .ww<|.lo [ke 1,ke 2,ke 3,ke 9,ke 10,ch 11 (di (k+1:Nat))] (ja v.az)) (Y ((k:Int)<(I v.az:Int))=J/\0<=(k:Int)/\(k:Int)<(I v.az:Int)/\0+Z (k:Int)*2+2<=I (dv v.az)/\take 2 (W (0+Z (k:Int)*2) (dv v.az))=(c7 x.n x.az)/\F0 42 [dV x] (dV x)/\0<=(k:Int)/\(k:Int)<(I v.az:Int)/\0+Z (k:Int)*2+2<=I (dv v.az)/\di (yu yt ((k:Int)+1))=di (↑(k+1):Int)/\cm 2 [] [G [di 0,dn],G (take (0+Z (k:Int)*2) (dv v.az)++(c7 x.n x.az)++W (0+Z (k:Int)*2+2) (dv v.az))]=J/\[G [di 0,dn],G (take (0+Z (k:Int)*2) (dv v.az)++(c7 x.n x.az)++W (0+Z (k:Int)*2+2) (dv v.az))]=[G [di 0,dn],G (dv v.az)]/\I0 pr 0 (dV v) bd [kl py d5,bh 0,kc py [1,1,1]] (ba 26 [(1,bt (f7 v)),i7,(3,bo 1 0 (I v.az)),(9,bo 1 0 (I v.az)),(10,di (I v.az:Int)),(11,di (↑(k+1):Int))]) (ja v.az)) ?_
  have hk2:k<I v.az:=(HD.1 hx).1
  have e0:0+Z (k:Int)*2=k*2:=by omega
  have hl:k*2+2<=I (Ab (v.az.map eV)):=by rw[AT];omega
  rw[e0]
  refine⟨yr,by omega,by omega,hl,Dz hx,hk x (HG hx),by omega,by omega,hl,Ae (by have:=bc.length_le v.az;have:=v.size_eq;omega),?_,?_,⟨ih (k+1) (by omega)⟩⟩
  ·rw[Mc hx];simp[cm,D.okNs,D.okN,Ak]
  ·rw[Mc hx]
noncomputable abbrev qt:=(bi [G [di 0,dn]] [])
theorem SF(N:Nat):∀v:bc,v.size<=N->v.size<=1000000->F0 42 [dV v] (dV v):=by
 induction N with
 |zero=>intro v h;have:=v.size_pos;omega
 |succ N ih=>
 intro v hN hv
 have hs:=v.size_eq
 have hl:=bc.length_le v.az
 by_cases h:v.az=[]
 ·refine sv pr 26 [1] (.c (cx [])<|.n<|.f .r) (F0 76 [cx v.az] (cx [])/\Y (0<(I (U eV []):Int))=O/\bt (ab [vi v.n,ai []])=dV v) ⟨?_,rfl,?_⟩
  ·rw[h];exact AdB
  ·rw[show dV v=bt (.agg [vi v.n,dt v.az]) from rfl,h];rfl
 ·refine sv pr 26 [1] (.h (.q 1 2)<|.h (.oc (.arr 1 0 (I v.az)) (ja v.az))<|.lo [ke 1,ke 2,ke 3,ke 9,ke 10,ch 11 (di (0:Nat))] (ja v.az)) ((N0 [bt (bw 76 [] []),cx v.az] qt (bo 1 0 (I v.az)) (ja v.az))/\Q (di 0)/\cm 2 [] [G [di 0,dn],G (dv v.az)]=J/\Q (ja v.az).H/\I0 pr (I bd.H) (dV v) bd [kl py d5,bh 0,kc py [1,1,1]] (ba 26 [(1,bt (f7 v)),i7,(3,bo 1 0 (I v.az)),(9,bo 1 0 (I v.az)),(10,di (I v.az:Int)),(11,di (↑0:Int))]) (ja v.az)) ⟨fun o c fo ho hc=>?_,rfl,by simp[cm,D.okNs,D.okN,Ak],rfl,⟨Ach v hv (fun x hx=>?_) _ 0 rfl⟩⟩
  ·exact FV (σ:=⟨[G [di 0,.v .nils]],[]⟩) (fs:=[]) (cs:=[]) (ds:=[cx v.az]) ho hc rfl (Hc:=[none,G (Ab (v.az.map eV))]) (j:=1) rfl (A3 _) (VN v.az (by omega) h)
  ·have:=bc.size_mem hx
   exact ih x (by omega) (by omega)
noncomputable abbrev td:=Tryz.f45
noncomputable def uk:=yl td
abbrev nr(l:List bc):St:=⟨[],[(1,2,l.map eV)]⟩
theorem AdV(l:List bc)(hl:I l<=100000)(hs:∀v∈l,v.size<=1000000)(n:Nat):∀k:Nat,I l-k=n->
  Rn PP td 0 (.acc 1 (l.map eV)) (nr l) ([kl uk [1,1,0,1,0,0],.blk 0,kc uk [1,1,1]]++[]) (ba 22 [(3,.acc 1 ((l.take k).map eV)),(9,cx l),(10,di (I l)),(11,di k)]) (nr (l.take k)):=by
 induction n with
 |zero=>
  intro k hn
  refine lv 22 [] (.f .r) (Y ((k:Int)<(I l:Int))=O/\[(1,2,U eV (take k l))]=[(1,2,U eV l)]/\br 1 (U eV (take k l))=br 1 (U eV l)) ?_
  rw[Ic (by omega)]
  exact⟨yq,rfl,rfl⟩
 |succ n ih=>
  intro k hn
  obtain⟨x,hx⟩:=yk (show k<I l by omega)
  have hk:=(HD.1 hx).1
  have ht:l.take (k+1)=l.take k++[x]:=by rw[IM,hx];rfl
  have hxs:=hs x (HG hx)
  refine lv 22 [] (.t<|.h (.xs (Ac x))<|.c (dV x)<|.ls [ch 3 (.acc 1 ((l.take (k+1)).map eV)),ke 9,ke 10,ch 11 (di (k+1:Nat))] (nr (l.take (k+1)))) (Y ((k:Int)<(I l:Int))=J/\Q 2/\0<=(k:Int)/\(U eV l)[Z (k:Int)]?=G (Ac x)/\_/\Q (U eV (take k l))/\Ao (I (U eV (take k l))+I (Ac x::nV)) 32/\br 1 (U eV (take k l)++[Ac x])=br 1 (U eV (take (k+1) l))/\di (yu yt ((k:Int)+1))=di (↑(k+1):Int)/\[(1,2,U eV (take k l)++Ac x::nV)]=[(1,2,U eV (take (k+1) l))]/\_) ⟨yr,rfl,by omega,An hx,SF _ x (HH _) hxs,rfl,⟨?_,?_⟩,?_,Ae,?_,iK (ih (k+1) (by omega))⟩
  ·simp only[H9,Ig,HF,HJ];omega
  ·simp only[H9,Ig,HF,HJ];omega
  ·rw[B1, ←ht]
  ·rw[ht, ←B1]
theorem AdU(l:List bc)(hl:I l<=100000)(hs:∀v∈l,v.size<=1000000):Aa PP 45 [cx l] bd (.acc 1 (l.map eV)) (nr l):=by
 refine sv td 22 [] (.a 1<|.ls [ke 3,ke 9,ch 10 (di (I l)),ch 11 (di (0:Nat))] (nr [])) (iz 0=0/\0<=(I (U eV l):Int)/\(32:Int)*(I (U eV l):Int)<=281474976710656/\(I (U eV l):Int)<=9223372036854775807/\di (I (U eV l):Int)=di (I l:Int)/\Q (di 0)/\Q [(1,2,nV)]/\I0 td (I bd.H) (br 1 (U eV l)) (nr l) [kl uk d5,bh 0,kc uk [1,1,1]] (ba 22 [(3,br 1 []),(9,cx l),(10,di (I l:Int)),(11,di (↑0:Int))]) (nr [])) ⟨rfl,by omega,by rw[H9];omega,by rw[H9];omega,by rw[H9],rfl,rfl,⟨?_⟩⟩
 have:=AdV l hl hs _ 0 rfl
 simpa using this
theorem SO{n:Nat}{ts:List Nat}:∀{a b:List D},D.okNs n ts a=J->D.okNs n ts b=J->D.okNs n ts (a++b)=J
 |[],b,_,h=>h
 |x::a,b,h1,h2=>by
  simp only[Jr,D.okNs,HB] at h1⊢
  exact⟨h1.1,SO h1.2 h2⟩
noncomputable abbrev Akz:=Tryz.f78
noncomputable abbrev Ai6:=Tryz.f127
theorem UB(x v:bc)(hx:x.size<=1000000):F0 127 [dV x,.v (.ref (Ac v))] (db (Aq x v==0)):=by
 exact sv Ai6 7 [2] (.c (db (Aq x v==0)) .r) (_/\Q (db (Aq x v==0))) ⟨U9 x v hx,rfl⟩
def DO(l:List bc)(v:bc):Int:=d6 (fun x=>Aq x v==0) l 0
theorem Pv(l:List bc)(hl:I l<=1000000)(hs:∀v∈l,v.size<=1000000)(v:bc):F0 78 [cx l,dV v] (di (DO l v)):=by
 exact sv Akz 8 [3] (.c (di (DO l v)) .r) (_/\Q (di (DO l v))) ⟨Td _ [] [_] _ l hl fun x hx=>UB x v (hs x hx),rfl⟩
abbrev cq(p:Int×Int):V:=.agg [vi p.1,vi p.2]
abbrev Ck(l:List (Int×Int)):V:=.list (l.map cq)
abbrev AK(l:List (Int×Int)):D:=.v (Ck l)
theorem Pu(l:List (Int×Int)):∀y∈l.map cq,y.size=2:=fun y hy=>by obtain⟨p,_,rfl⟩:=Is.1 hy;rfl
noncomputable abbrev Alx:=Tryz.f267
theorem AcY(n:Nat)(hn:n<=1000000):Aa PP 267 [.v .nils,di n] bd (.acc 1 []) ⟨[],[(1,1,[])]⟩:=by
 have h1:yt.wrap (0-0)=0:=by decide
 by_cases h:n=0
 ·subst h
  exact sv Alx 27 [] (.f<|.f<|.h (.q 6 0)<|.h (.nw 0 1 1) .r) (Y ((↑0:Int)<0)=O/\Y (yu yt ((↑0:Int)-yu yt (0-0))>0)=O/\Q [(1,1,nV)]/\Q gp) ⟨by decide,by decide,rfl,rfl⟩
 ·refine sv Alx 27 [] (.f<|.t<|.a 1 .r) (Y ((n:Int)<0)=O/\Y (yu yt ((n:Int)-yu yt (0-0))>0)=J/\iz 0=0/\0<yu yt ((n:Int)-yu yt (0-0))/\Ao (Z (yu yt ((n:Int)-yu yt (0-0)))) 8/\iz 0=0/\Q [(1,1,nV)]/\Q gp) ?_
  have h2:yt.wrap ((n:Int)-yt.wrap (0-0))=n:=by rw[h1,Al];omega
  rw[h2]
  refine⟨by simp,by simp;omega,by simp,by omega,⟨by simp;omega,by simp;omega⟩,by simp,rfl,rfl⟩
noncomputable abbrev mu:=Tryz.f260
noncomputable def W1:=yl mu
abbrev Hu(ls:List (List (Int))):List V:=ls.map fun l=>.list (l.map vi)
theorem ZU(ls:List (List (Int)))(hl:I ls<=1000)(ht:I ls.flatten<=1000000)(n:Nat):∀k:Nat,I ls-k=n->
  Rn PP mu 0 (dl (ls.flatten.map vi)) bd ([kl W1 [1,1,1,1,0,1,0,0],.blk 2,kc W1 [1,1,1,1,1]]++[]) (ba 36 [(0,dl (Hu ls)),(6,.acc 1 ((ls.take k).flatten.map vi)),(25,dl (Hu ls)),(26,di (I ls)),(27,di k)]) ⟨[],[(1,1,(ls.take k).flatten.map vi)]⟩:=by
 induction n using Nat.strongRecOn with
 |_ n ih=>
 intro k hn
 refine lv 36 [] (.b (.e fun x:List (Int)=>.x (.list (x.map vi))<|.w<|.ls [ke 0,ch 6 (.acc 1 ((ls.take (k+1)).flatten.map vi)),ke 25,ke 26,ch 27 (di (k+1:Nat))] ⟨[],[(1,1,(ls.take (k+1)).flatten.map vi)]⟩) .r) ((Y ((k:Int)<(I ls:Int))=J->∃a,0<=(k:Int)/\(Hu ls)[Z (k:Int)]?=G (ai (U vi a))/\U vi (flatten (take k ls))=U vi (flatten (take k ls))/\Ao (I (U vi (flatten (take k ls)))+I (U vi a)) 8/\(∀(y:V),y∈U vi a->V.size y=1)/\br 1 (U vi (flatten (take k ls))++U vi a)=br 1 (U vi (flatten (take (k+1) ls)))/\di (yu yt ((k:Int)+1))=di (↑(k+1):Int)/\[(1,1,U vi (flatten (take k ls))++U vi a)]=[(1,1,U vi (flatten (take (k+1) ls)))]/\Nv.It (AB (CN 0) PP (fun env σ1=>Az PP mu env σ1 (dl (U vi (flatten ls))) bd) [kl W1 iw,bh 2,kc W1 [1,1,1,1,1]] (ba 36 [(0,bt (ai (Hu ls))),(6,br 1 (U vi (flatten (take (k+1) ls)))),(25,bt (ai (Hu ls))),(26,di (I ls:Int)),(27,di (↑(k+1):Int))]) (bi [] [(1,1,U vi (flatten (take (k+1) ls)))])))/\(Y ((k:Int)<(I ls:Int))=O->bt (ai (U vi (flatten (take k ls))))=dl (U vi (flatten ls)))) ⟨fun h=>?_,fun h=>?_⟩
 ·have hk:k<I ls:=by simpa using h
  have hx:ls[k]?=G ls[k]:=HA hk
  have hf:=DJ hk
  have hle:=FP ls (k+1)
  have hih:=ih (I ls- (k+1)) (by omega) (k+1) rfl
  rw[hf] at hle hih⊢
  generalize ls[k]=x at hx hle hih⊢
  simp only[HO] at hle
  refine⟨x,by omega,by simp[hx],rfl,MT (by omega) (by decide),Hy x,by simp,Ae,by simp,⟨hih⟩⟩
 ·have hk:I ls<=k:=by simpa using h
  rw[Ic hk]
theorem ZV(ls:List (List (Int)))(hl:I ls<=1000)(ht:I ls.flatten<=1000000)(n:Nat):∀k:Nat,I ls-k=n->
  Rn PP mu 0 (dl (ls.flatten.map vi)) bd ([kl W1 [1,1,0,1,0,0],.blk 0,kc W1 [1,1,1]]++[]) (ba 36 [(0,dl (Hu ls)),(3,di ((ls.take k).flatten.length:Nat)),(9,dl (Hu ls)),(10,di (I ls)),(11,di k)]) bd:=by
 induction n using Nat.strongRecOn with
 |_ n ih=>
 intro k hn
 refine lv 36 [] (.b (.e fun x:List (Int)=>.x (.list (x.map vi))<|.f<|.l [ke 0,ch 3 (di ((ls.take (k+1)).flatten.length:Nat)),ke 9,ke 10,ch 11 (di (k+1:Nat))]) (.h (.ckn 1 1 1 [])<|.ls [ke 0,ch 6 (.acc 1 ((ls.take 0).flatten.map vi)),ke 25,ch 26 (di (I ls)),ch 27 (di (0:Nat))] ⟨[],[(1,1,(ls.take 0).flatten.map vi)]⟩)) ((Y ((k:Int)<(I ls:Int))=J->∃a,0<=(k:Int)/\(Hu ls)[Z (k:Int)]?=G (ai (U vi a))/\Y (yu yt ((I (flatten (take k ls)):Int)+(I (U vi a):Int))<0)=O/\di (yu yt ((I (flatten (take k ls)):Int)+(I (U vi a):Int)))=di (I (flatten (take (k+1) ls)):Int)/\di (yu yt ((k:Int)+1))=di (↑(k+1):Int)/\Nv.It (AB (CN 0) PP (fun env σ1=>Az PP mu env σ1 (dl (U vi (flatten ls))) bd) [kl W1 d5,bh 0,kc W1 [1,1,1]] (ba 36 [(0,bt (ai (Hu ls))),(3,di (I (flatten (take (k+1) ls)):Int)),(9,bt (ai (Hu ls))),(10,di (I ls:Int)),(11,di (↑(k+1):Int))]) bd))/\(Y ((k:Int)<(I ls:Int))=O->Aa PP 267 [dn,di (I (flatten (take k ls)):Int)] dh gp qr/\Q gp/\di (I (Hu ls):Int)=di (I ls:Int)/\di 0=di (↑0:Int)/\Q [(1,1,nV)]/\I0 mu 0 (dl (U vi (flatten ls))) bd [kl W1 iw,bh 2,kc W1 [1,1,1,1,1]] (ba 36 [(0,bt (ai (Hu ls))),(6,br 1 []),(25,bt (ai (Hu ls))),(26,di (I ls:Int)),(27,di (↑0:Int))]) qr)) ⟨fun h=>?_,fun h=>?_⟩
 ·have hk:k<I ls:=by simpa using h
  have hx:ls[k]?=G ls[k]:=HA hk
  have hf:=HX I (DJ hk)
  rw[HO] at hf
  have hle:=FP ls (k+1)
  generalize ls[k]=x at hx hf⊢
  have h2:yt.wrap ((((ls.take k).flatten.length:Nat):Int)+(I (x.map vi):Int))=(((ls.take (k+1)).flatten.length:Nat):Int):=by rw[Al (by simp only[H9];omega) (by simp only[H9];omega),hf];simp
  refine⟨x,by omega,by simp[hx],by rw[h2];simp,by rw[h2],Ae,⟨?_⟩⟩
  exact ih (I ls- (k+1)) (by omega) (k+1) rfl
 ·have hk:I ls<=k:=by simpa using h
  rw[Ic hk]
  refine⟨AcY (I ls.flatten) ht,rfl,by simp,rfl,rfl,⟨?_⟩⟩
  exact ZU ls hl ht _ 0 rfl
theorem Ad2(ls:List (List (Int)))(hl:I ls<=1000)(ht:I ls.flatten<=1000000):F0 260 [dl (Hu ls)] (dl (ls.flatten.map vi)):=by
 refine sv mu 36 [] (.l [ke 0,ch 3 (di ((ls.take 0).flatten.length:Nat)),ke 9,ch 10 (di (I ls)),ch 11 (di (0:Nat))]) (Q (di 0)/\di (I (Hu ls):Int)=di (I ls:Int)/\Q (di 0)/\I0 mu (I bd.H) (dl (U vi (flatten ls))) bd [kl W1 d5,bh 0,kc W1 [1,1,1]] (ba 36 [(0,dl (Hu ls)),(3,di (I (flatten (take 0 ls)):Int)),(9,dl (Hu ls)),(10,di (I ls:Int)),(11,di (↑0:Int))]) bd) ⟨rfl,by simp,rfl,⟨?_⟩⟩
 exact ZV ls hl ht _ 0 rfl
noncomputable abbrev AiP:=Tryz.f248
theorem Zg(n:Nat)(hn:n<=1000000):Aa PP 248 [.v .nils,di n] bd (.acc 1 []) ⟨[],[(1,2,[])]⟩:=by
 have h1:yt.wrap (0-0)=0:=by decide
 by_cases h:n=0
 ·subst h
  exact sv AiP 27 [] (.f<|.f<|.h (.q 6 0)<|.h (.nw 0 1 2) .r) (Y ((↑0:Int)<0)=O/\Y (yu yt ((↑0:Int)-yu yt (0-0))>0)=O/\Q [(1,2,nV)]/\Q gp) ⟨by decide,by decide,rfl,rfl⟩
 ·refine sv AiP 27 [] (.f<|.t<|.a 1 .r) (Y ((n:Int)<0)=O/\Y (yu yt ((n:Int)-yu yt (0-0))>0)=J/\iz 0=0/\0<yu yt ((n:Int)-yu yt (0-0))/\Ao (Z (yu yt ((n:Int)-yu yt (0-0)))) 16/\iz 0=0/\Q [(1,2,nV)]/\Q gp) ?_
  have h2:yt.wrap ((n:Int)-yt.wrap (0-0))=n:=by rw[h1,Al];omega
  rw[h2]
  refine⟨by simp,by simp;omega,by simp,by omega,⟨by simp;omega,by simp;omega⟩,by simp,rfl,rfl⟩
noncomputable abbrev Qk:=Tryz.f222
noncomputable def Hh:=yl Qk
abbrev Em(ls:List (List (Int×Int))):List V:=ls.map fun l=>.list (l.map cq)
theorem VH(ls:List (List (Int×Int)))(hl:I ls<=1000)(ht:I ls.flatten<=1000000)(n:Nat):∀k:Nat,I ls-k=n->
  Rn PP Qk 0 (dl (ls.flatten.map cq)) bd ([kl Hh [1,1,1,1,0,1,0,0],.blk 2,kc Hh [1,1,1,1,1]]++[]) (ba 36 [(0,dl (Em ls)),(6,.acc 1 ((ls.take k).flatten.map cq)),(25,dl (Em ls)),(26,di (I ls)),(27,di k)]) ⟨[],[(1,2,(ls.take k).flatten.map cq)]⟩:=by
 induction n using Nat.strongRecOn with
 |_ n ih=>
 intro k hn
 refine lv 36 [] (.b (.e fun x:List (Int×Int)=>.x (.list (x.map cq))<|.w<|.ls [ke 0,ch 6 (.acc 1 ((ls.take (k+1)).flatten.map cq)),ke 25,ke 26,ch 27 (di (k+1:Nat))] ⟨[],[(1,2,(ls.take (k+1)).flatten.map cq)]⟩) .r) ((Y ((k:Int)<(I ls:Int))=J->∃a,0<=(k:Int)/\(Em ls)[Z (k:Int)]?=G (ai (U cq a))/\U cq (flatten (take k ls))=U cq (flatten (take k ls))/\Ao (I (U cq (flatten (take k ls)))+I (U cq a)) 16/\(∀(y:V),y∈U cq a->V.size y=2)/\br 1 (U cq (flatten (take k ls))++U cq a)=br 1 (U cq (flatten (take (k+1) ls)))/\di (yu yt ((k:Int)+1))=di (↑(k+1):Int)/\[(1,2,U cq (flatten (take k ls))++U cq a)]=[(1,2,U cq (flatten (take (k+1) ls)))]/\Nv.It (AB (CN 0) PP (fun env σ1=>Az PP Qk env σ1 (dl (U cq (flatten ls))) bd) [kl Hh iw,bh 2,kc Hh [1,1,1,1,1]] (ba 36 [(0,bt (ai (Em ls))),(6,br 1 (U cq (flatten (take (k+1) ls)))),(25,bt (ai (Em ls))),(26,di (I ls:Int)),(27,di (↑(k+1):Int))]) (bi [] [(1,2,U cq (flatten (take (k+1) ls)))])))/\(Y ((k:Int)<(I ls:Int))=O->bt (ai (U cq (flatten (take k ls))))=dl (U cq (flatten ls)))) ⟨fun h=>?_,fun h=>?_⟩
 ·have hk:k<I ls:=by simpa using h
  have hx:ls[k]?=G ls[k]:=HA hk
  have hf:=DJ hk
  have hle:=FP ls (k+1)
  have hih:=ih (I ls- (k+1)) (by omega) (k+1) rfl
  rw[hf] at hle hih⊢
  generalize ls[k]=x at hx hle hih⊢
  simp only[HO] at hle
  refine⟨x,by omega,by simp[hx],rfl,MT (by omega) (by decide),Pu x,by simp,Ae,by simp,⟨hih⟩⟩
 ·have hk:I ls<=k:=by simpa using h
  rw[Ic hk]
theorem VI(ls:List (List (Int×Int)))(hl:I ls<=1000)(ht:I ls.flatten<=1000000)(n:Nat):∀k:Nat,I ls-k=n->
  Rn PP Qk 0 (dl (ls.flatten.map cq)) bd ([kl Hh [1,1,0,1,0,0],.blk 0,kc Hh [1,1,1]]++[]) (ba 36 [(0,dl (Em ls)),(3,di ((ls.take k).flatten.length:Nat)),(9,dl (Em ls)),(10,di (I ls)),(11,di k)]) bd:=by
 induction n using Nat.strongRecOn with
 |_ n ih=>
 intro k hn
 refine lv 36 [] (.b (.e fun x:List (Int×Int)=>.x (.list (x.map cq))<|.f<|.l [ke 0,ch 3 (di ((ls.take (k+1)).flatten.length:Nat)),ke 9,ke 10,ch 11 (di (k+1:Nat))]) (.h (.ckn 1 1 2 [])<|.ls [ke 0,ch 6 (.acc 1 ((ls.take 0).flatten.map cq)),ke 25,ch 26 (di (I ls)),ch 27 (di (0:Nat))] ⟨[],[(1,2,(ls.take 0).flatten.map cq)]⟩)) ((Y ((k:Int)<(I ls:Int))=J->∃a,0<=(k:Int)/\(Em ls)[Z (k:Int)]?=G (ai (U cq a))/\Y (yu yt ((I (flatten (take k ls)):Int)+(I (U cq a):Int))<0)=O/\di (yu yt ((I (flatten (take k ls)):Int)+(I (U cq a):Int)))=di (I (flatten (take (k+1) ls)):Int)/\di (yu yt ((k:Int)+1))=di (↑(k+1):Int)/\Nv.It (AB (CN 0) PP (fun env σ1=>Az PP Qk env σ1 (dl (U cq (flatten ls))) bd) [kl Hh d5,bh 0,kc Hh [1,1,1]] (ba 36 [(0,bt (ai (Em ls))),(3,di (I (flatten (take (k+1) ls)):Int)),(9,bt (ai (Em ls))),(10,di (I ls:Int)),(11,di (↑(k+1):Int))]) bd))/\(Y ((k:Int)<(I ls:Int))=O->Aa PP 248 [dn,di (I (flatten (take k ls)):Int)] dh gp (bi [] [(1,2,[])])/\Q gp/\di (I (Em ls):Int)=di (I ls:Int)/\di 0=di (↑0:Int)/\Q [(1,2,nV)]/\I0 Qk 0 (dl (U cq (flatten ls))) bd [kl Hh iw,bh 2,kc Hh [1,1,1,1,1]] (ba 36 [(0,bt (ai (Em ls))),(6,br 1 []),(25,bt (ai (Em ls))),(26,di (I ls:Int)),(27,di (↑0:Int))]) (bi [] [(1,2,[])]))) ⟨fun h=>?_,fun h=>?_⟩
 ·have hk:k<I ls:=by simpa using h
  have hx:ls[k]?=G ls[k]:=HA hk
  have hf:=HX I (DJ hk)
  rw[HO] at hf
  have hle:=FP ls (k+1)
  generalize ls[k]=x at hx hf⊢
  have h2:yt.wrap ((((ls.take k).flatten.length:Nat):Int)+(I (x.map cq):Int))=(((ls.take (k+1)).flatten.length:Nat):Int):=by rw[Al (by simp only[H9];omega) (by simp only[H9];omega),hf];simp
  refine⟨x,by omega,by simp[hx],by rw[h2];simp,by rw[h2],Ae,⟨?_⟩⟩
  exact ih (I ls- (k+1)) (by omega) (k+1) rfl
 ·have hk:I ls<=k:=by simpa using h
  rw[Ic hk]
  refine⟨Zg (I ls.flatten) ht,rfl,by simp,rfl,rfl,⟨?_⟩⟩
  exact VH ls hl ht _ 0 rfl
theorem Ms(ls:List (List (Int×Int)))(hl:I ls<=1000)(ht:I ls.flatten<=1000000):F0 222 [dl (Em ls)] (dl (ls.flatten.map cq)):=by
 refine sv Qk 36 [] (.l [ke 0,ch 3 (di ((ls.take 0).flatten.length:Nat)),ke 9,ch 10 (di (I ls)),ch 11 (di (0:Nat))]) (Q (di 0)/\di (I (Em ls):Int)=di (I ls:Int)/\Q (di 0)/\I0 Qk (I bd.H) (dl (U cq (flatten ls))) bd [kl Hh d5,bh 0,kc Hh [1,1,1]] (ba 36 [(0,dl (Em ls)),(3,di (I (flatten (take 0 ls)):Int)),(9,dl (Em ls)),(10,di (I ls:Int)),(11,di (↑0:Int))]) bd) ⟨rfl,by simp,rfl,⟨?_⟩⟩
 exact VI ls hl ht _ 0 rfl
noncomputable abbrev Alv:=Tryz.f266
theorem AcW(n:Nat)(hn:n<=1000000):Aa PP 266 [.v .nils,di n] bd (.acc 1 []) ⟨[],[(1,2,[])]⟩:=by
 have h1:yt.wrap (0-0)=0:=by decide
 by_cases h:n=0
 ·subst h
  exact sv Alv 27 [] (.f<|.f<|.h (.q 6 0)<|.h (.nw 0 1 2) .r) (Y ((↑0:Int)<0)=O/\Y (yu yt ((↑0:Int)-yu yt (0-0))>0)=O/\Q [(1,2,nV)]/\Q gp) ⟨by decide,by decide,rfl,rfl⟩
 ·refine sv Alv 27 [] (.f<|.t<|.a 1 .r) (Y ((n:Int)<0)=O/\Y (yu yt ((n:Int)-yu yt (0-0))>0)=J/\iz 0=0/\0<yu yt ((n:Int)-yu yt (0-0))/\Ao (Z (yu yt ((n:Int)-yu yt (0-0)))) 32/\iz 0=0/\Q [(1,2,nV)]/\Q gp) ?_
  have h2:yt.wrap ((n:Int)-yt.wrap (0-0))=n:=by rw[h1,Al];omega
  rw[h2]
  refine⟨by simp,by simp;omega,by simp,by omega,⟨by simp;omega,by simp;omega⟩,by simp,rfl,rfl⟩
noncomputable abbrev mr:=Tryz.f257
noncomputable def Wz:=yl mr
abbrev Hj(ls:List (List (bc))):List V:=ls.map fun l=>.list (l.map eV)
theorem ZR(ls:List (List (bc)))(hl:I ls<=1000)(ht:I ls.flatten<=1000000)(n:Nat):∀k:Nat,I ls-k=n->
  Rn PP mr 0 (dl (ls.flatten.map eV)) bd ([kl Wz [1,1,1,1,0,1,0,0],.blk 2,kc Wz [1,1,1,1,1]]++[]) (ba 36 [(0,dl (Hj ls)),(6,.acc 1 ((ls.take k).flatten.map eV)),(25,dl (Hj ls)),(26,di (I ls)),(27,di k)]) ⟨[],[(1,2,(ls.take k).flatten.map eV)]⟩:=by
 induction n using Nat.strongRecOn with
 |_ n ih=>
 intro k hn
 refine lv 36 [] (.b (.e fun x:List (bc)=>.x (.list (x.map eV))<|.w<|.ls [ke 0,ch 6 (.acc 1 ((ls.take (k+1)).flatten.map eV)),ke 25,ke 26,ch 27 (di (k+1:Nat))] ⟨[],[(1,2,(ls.take (k+1)).flatten.map eV)]⟩) .r) ((Y ((k:Int)<(I ls:Int))=J->∃a,0<=(k:Int)/\(Hj ls)[Z (k:Int)]?=G (ai (U eV a))/\U eV (flatten (take k ls))=U eV (flatten (take k ls))/\Ao (I (U eV (flatten (take k ls)))+I (U eV a)) 32/\(∀(y:V),y∈U eV a->V.size y=2)/\br 1 (U eV (flatten (take k ls))++U eV a)=br 1 (U eV (flatten (take (k+1) ls)))/\di (yu yt ((k:Int)+1))=di (↑(k+1):Int)/\[(1,2,U eV (flatten (take k ls))++U eV a)]=[(1,2,U eV (flatten (take (k+1) ls)))]/\Nv.It (AB (CN 0) PP (fun env σ1=>Az PP mr env σ1 (dl (U eV (flatten ls))) bd) [kl Wz iw,bh 2,kc Wz [1,1,1,1,1]] (ba 36 [(0,bt (ai (Hj ls))),(6,br 1 (U eV (flatten (take (k+1) ls)))),(25,bt (ai (Hj ls))),(26,di (I ls:Int)),(27,di (↑(k+1):Int))]) (bi [] [(1,2,U eV (flatten (take (k+1) ls)))])))/\(Y ((k:Int)<(I ls:Int))=O->bt (ai (U eV (flatten (take k ls))))=dl (U eV (flatten ls)))) ⟨fun h=>?_,fun h=>?_⟩
 ·have hk:k<I ls:=by simpa using h
  have hx:ls[k]?=G ls[k]:=HA hk
  have hf:=DJ hk
  have hle:=FP ls (k+1)
  have hih:=ih (I ls- (k+1)) (by omega) (k+1) rfl
  rw[hf] at hle hih⊢
  generalize ls[k]=x at hx hle hih⊢
  simp only[HO] at hle
  refine⟨x,by omega,by simp[hx],rfl,MT (by omega) (by decide),Ct x,by simp,Ae,by simp,⟨hih⟩⟩
 ·have hk:I ls<=k:=by simpa using h
  rw[Ic hk]
theorem ZS(ls:List (List (bc)))(hl:I ls<=1000)(ht:I ls.flatten<=1000000)(n:Nat):∀k:Nat,I ls-k=n->
  Rn PP mr 0 (dl (ls.flatten.map eV)) bd ([kl Wz [1,1,0,1,0,0],.blk 0,kc Wz [1,1,1]]++[]) (ba 36 [(0,dl (Hj ls)),(3,di ((ls.take k).flatten.length:Nat)),(9,dl (Hj ls)),(10,di (I ls)),(11,di k)]) bd:=by
 induction n using Nat.strongRecOn with
 |_ n ih=>
 intro k hn
 refine lv 36 [] (.b (.e fun x:List (bc)=>.x (.list (x.map eV))<|.f<|.l [ke 0,ch 3 (di ((ls.take (k+1)).flatten.length:Nat)),ke 9,ke 10,ch 11 (di (k+1:Nat))]) (.h (.ckn 1 1 2 [])<|.ls [ke 0,ch 6 (.acc 1 ((ls.take 0).flatten.map eV)),ke 25,ch 26 (di (I ls)),ch 27 (di (0:Nat))] ⟨[],[(1,2,(ls.take 0).flatten.map eV)]⟩)) ((Y ((k:Int)<(I ls:Int))=J->∃a,0<=(k:Int)/\(Hj ls)[Z (k:Int)]?=G (ai (U eV a))/\Y (yu yt ((I (flatten (take k ls)):Int)+(I (U eV a):Int))<0)=O/\di (yu yt ((I (flatten (take k ls)):Int)+(I (U eV a):Int)))=di (I (flatten (take (k+1) ls)):Int)/\di (yu yt ((k:Int)+1))=di (↑(k+1):Int)/\Nv.It (AB (CN 0) PP (fun env σ1=>Az PP mr env σ1 (dl (U eV (flatten ls))) bd) [kl Wz d5,bh 0,kc Wz [1,1,1]] (ba 36 [(0,bt (ai (Hj ls))),(3,di (I (flatten (take (k+1) ls)):Int)),(9,bt (ai (Hj ls))),(10,di (I ls:Int)),(11,di (↑(k+1):Int))]) bd))/\(Y ((k:Int)<(I ls:Int))=O->Aa PP 266 [dn,di (I (flatten (take k ls)):Int)] dh gp (bi [] [(1,2,[])])/\Q gp/\di (I (Hj ls):Int)=di (I ls:Int)/\di 0=di (↑0:Int)/\Q [(1,2,nV)]/\I0 mr 0 (dl (U eV (flatten ls))) bd [kl Wz iw,bh 2,kc Wz [1,1,1,1,1]] (ba 36 [(0,bt (ai (Hj ls))),(6,br 1 []),(25,bt (ai (Hj ls))),(26,di (I ls:Int)),(27,di (↑0:Int))]) (bi [] [(1,2,[])]))) ⟨fun h=>?_,fun h=>?_⟩
 ·have hk:k<I ls:=by simpa using h
  have hx:ls[k]?=G ls[k]:=HA hk
  have hf:=HX I (DJ hk)
  rw[HO] at hf
  have hle:=FP ls (k+1)
  generalize ls[k]=x at hx hf⊢
  have h2:yt.wrap ((((ls.take k).flatten.length:Nat):Int)+(I (x.map eV):Int))=(((ls.take (k+1)).flatten.length:Nat):Int):=by rw[Al (by simp only[H9];omega) (by simp only[H9];omega),hf];simp
  refine⟨x,by omega,by simp[hx],by rw[h2];simp,by rw[h2],Ae,⟨?_⟩⟩
  exact ih (I ls- (k+1)) (by omega) (k+1) rfl
 ·have hk:I ls<=k:=by simpa using h
  rw[Ic hk]
  refine⟨AcW (I ls.flatten) ht,rfl,by simp,rfl,rfl,⟨?_⟩⟩
  exact ZR ls hl ht _ 0 rfl
theorem Ad1(ls:List (List (bc)))(hl:I ls<=1000)(ht:I ls.flatten<=1000000):F0 257 [dl (Hj ls)] (dl (ls.flatten.map eV)):=by
 refine sv mr 36 [] (.l [ke 0,ch 3 (di ((ls.take 0).flatten.length:Nat)),ke 9,ch 10 (di (I ls)),ch 11 (di (0:Nat))]) (Q (di 0)/\di (I (Hj ls):Int)=di (I ls:Int)/\Q (di 0)/\I0 mr (I bd.H) (dl (U eV (flatten ls))) bd [kl Wz d5,bh 0,kc Wz [1,1,1]] (ba 36 [(0,dl (Hj ls)),(3,di (I (flatten (take 0 ls)):Int)),(9,dl (Hj ls)),(10,di (I ls:Int)),(11,di (↑0:Int))]) bd) ⟨rfl,by simp,rfl,⟨?_⟩⟩
 exact ZS ls hl ht _ 0 rfl
noncomputable abbrev qd:=Tryz.f269
noncomputable def oa:=yl qd
theorem AdA(a b:List Int)(ha:I a<=1000000)(n:Nat):∀k:Nat,I a-k=n->k<=I b->k<=I a->
  Rn PP qd 0 (di (B0 AL (a.drop k) (b.drop k))) bd ([kl oa [1,0,1,0,0],.blk 0,kc oa [1,1]]++[]) (ba 36 [(0,cw a),(1,cw b),(9,cw a),(10,di (I a)),(11,di k)]) bd:=by
 induction n using Nat.strongRecOn with
 |_ n ih=>
 intro k hn hkb hka
 refine lv 36 [] (.b (.e fun x:Int=>.x (vi x)<|.b .r<|.e fun y:Int=>.x (vi y)<|.c (di (AL x y))<|.b .r (.ls [ke 0,ke 1,ke 9,ke 10,ch 11 (di (k+1:Nat))] bd)) (.b .r .r)) ((Y ((k:Int)<(I a:Int))=J->∃a_2,0<=(k:Int)/\(U vi a)[Z (k:Int)]?=G (vi a_2)/\(Y ((k:Int)>=(I (U vi b):Int))=J->di 1=di (B0 AL (W k a) (W k b)))/\(Y ((k:Int)>=(I (U vi b):Int))=O->∃a_4,0<=(k:Int)/\(U vi b)[Z (k:Int)]?=G (vi a_4)/\Aa PP 49 [di a_2,di a_4] dh (di (AL a_2 a_4)) dh/\((AL a_2 a_4 !=0)=J->di (AL a_2 a_4)=di (B0 AL (W k a) (W k b)))/\((AL a_2 a_4 !=0)=O->di (yu yt ((k:Int)+1))=di (↑(k+1):Int)/\Nv.It (AB (CN 0) PP (fun env σ1=>Az PP qd env σ1 (di (B0 AL (W k a) (W k b))) bd) [kl oa [1,0,1,0,0],bh 0,kc oa [1,1]] (ba 36 [(0,cw a),(1,cw b),(9,cw a),(10,di (I a:Int)),(11,di (↑(k+1):Int))]) bd))))/\(Y ((k:Int)<(I a:Int))=O->(Y ((I (U vi a):Int)<(I (U vi b):Int))=J->di (-1)=di (B0 AL (W k a) (W k b)))/\(Y ((I (U vi a):Int)<(I (U vi b):Int))=O->di 0=di (B0 AL (W k a) (W k b))))) ⟨fun h=>?_,fun h=>?_⟩
 ·have hk:k<I a:=by simpa using h
  have hx:a[k]?=G a[k]:=HA hk
  rw[HP hk]
  generalize a[k]=x at hx⊢
  refine⟨x,by omega,Am hx,fun h1=>?_,fun h1=>?_⟩
  ·have:b.drop k=[]:=HU (by simpa using h1)
   rw[this];rfl
  ·have hk2:k<I b:=by simpa using h1
   have hy:b[k]?=G b[k]:=HA hk2
   rw[HP hk2]
   generalize b[k]=y at hy⊢
   refine⟨y,by omega,Am hy,JF x y,fun h2=>?_,fun h2=>⟨Ae,⟨?_⟩⟩⟩
   ·have:AL x y≠0:=by simpa using h2
    simp[B0,this]
   ·have:AL x y=0:=by simpa using h2
    simp only[B0,this,IJ]
    exact ih (I a- (k+1)) (by omega) (k+1) rfl hk2 hk
 ·have hk:k=I a:=by have:I a<=k:=(by simpa using h);omega
  subst hk
  rw[List.drop_length]
  refine⟨fun h1=>?_,fun h1=>?_⟩
  ·have h1:I a<I b:=by simpa using h1
   rw[HP h1];rfl
  ·have h1:I b<=I a:=by simpa using h1
   rw[HU h1];rfl
theorem Ad9(a b:List Int)(ha:I a<=1000000):F0 269 [cw a,cw b] (di (B0 AL a b)):=by
 refine sv qd 36 [] (.ls [ke 0,ke 1,ke 9,ch 10 (di (I a)),ch 11 (di (0:Nat))] bd) (di (I (U vi a):Int)=di (I a:Int)/\Q (di 0)/\I0 qd (I bd.H) (di (B0 AL a b)) bd [kl oa [1,0,1,0,0],bh 0,kc oa [1,1]] (ba 36 [(0,cw a),(1,cw b),(9,cw a),(10,di (I a:Int)),(11,di (↑0:Int))]) bd) ⟨by rw[H9],rfl,⟨?_⟩⟩
 exact AdA a b ha _ 0 rfl (by omega) (by omega)
theorem AfZ(x y:Int):Aq (lf x) (lf y)=AL x y:=by
 rw[ON]
 show ig [AL x y,0,0]=_
 simp only[ig,IJ]
 split<;>simp_all
theorem RH:∀a b:List Int,B0 Aq (a.map lf) (b.map lf)=B0 AL a b
 |[],[]=>rfl
 |[],_::_=>rfl
 |_::_,[]=>rfl
 |x::a,y::b=>by simp only[Ia,B0,AfZ,RH a b]
noncomputable abbrev AlF:=Tryz.f262
theorem Sd:xp:=by
 intro a b ha hb
 have h1:A5 a b=ig [AL (I a) (I b),B0 AL a b]:=by
  rw[A5,ON]
  show ig [0,AL (I (a.map lf)) (I (b.map lf)),B0 Aq (a.map lf) (b.map lf)]=_
  rw[RH,H9,H9]
  rfl
 refine sv AlF 15 [] (.c (di (AL (I a) (I b)))<|.c (di (B0 AL a b))<|.c (di (A5 a b)) .r) (F0 49 [di (I (U vi a):Int),di (I (U vi b):Int)] (di (AL (I a:Int) (I b:Int)))/\_/\F0 48 [bt (ai [vi (AL (I a:Int) (I b:Int)),vi (B0 AL a b)])] (di (A5 a b))/\Q (di (A5 a b))) ⟨by rw[H9,H9];exact JF _ _,Ad9 a b ha,?_,rfl⟩
 rw[h1];exact Yp [_,_] (by simp)
structure Hq(m:b9)(t:cy):Prop where
 walks:F0 19 [Af m] (di 0)
 valid:∀v:bc,v.size<=1000000->F0 177 [Af m,dV v] (db (Ah t v))
 ay:I m.ay<=1000000
theorem b9.ok.int{m:b9}(h:m.ok):Hq m (AF m):=by
 obtain⟨h1,h2,h3,h4,h5,h6,h7,h8⟩:=h.sz
 exact⟨AaP m h,fun v hv=>LW m h v hv,by omega⟩
end Go.Proofs.YtfhgjfkleggjfaaGreatDoor

namespace Go.Nv
open Go.Dv
open List (map_map replicate)
open Go.IntKind (u64)
open Go.IntKind renaming wrap → yu, i64 → yt
open List renaming length → I, map → U, drop → W
open Option renaming some → G
open Bool renaming true → J, false → O
open Decidable renaming decide → Y
open Int renaming toNat → Z
open Go.Dv.V renaming list → ai, str → ae, agg → ab, int → aa, ref → bz, fn → bw, nils → bv, bool → bu
open Go.Dv.D renaming v → bt, acc → br, ptr → bq, arr → bo, gro → bm, tup → bl, undef → bk, dagg → bj
open Go.Dv.St renaming mk → bi
open Go.Dv.KI renaming blk → bh
open _root_.ByteArray renaming mk → bf
open Go renaming Operand → x8, Program → x7, TypeId → x6, World → x5, Value → yz, Oper → yy, FuncId → yx, Func → yw, IntKind → yv
theorem L9{g:Gh}:∀{a b:List D} {us:List yz},Ad g (a++b) us->∃u v,us=u++v/\Ad g a u/\Ad g b v
 |[],b,us,h=>⟨[],us,rfl,rfl,h⟩
 |x::a,b,us,h=>by
  simp only[Jr,Ad] at h
  obtain⟨u,us',rfl,h1,h2⟩:=h
  obtain⟨v,w,rfl,h3,h4⟩:=L9 h2
  exact⟨u::v,w,rfl,⟨u,v,rfl,h1,h3⟩,h4⟩
theorem AbB{P:x7}{f:yx}{ds A B es:List D}{T:List (Option (List D))}{q n sz:Nat}{c1 c2:List D}(hB:D.pls B=J)(he:D.pls es=J)(h1:D.pls c1=J)(h2:D.pls c2=J)(hq:T[q]?=G (G es))
  (h:Aa P f ds ⟨[G A],[]⟩ (.dagg (c1++ .gro (q+1) n sz::c2)) ⟨G B::T,[]⟩):Aa P f ds ⟨[G A],[]⟩ (.dagg (c1++ .arr 1 0 n::c2)) ⟨[G B,G es],[]⟩:=by
 refine⟨h.1,fun g w args hw ha=>Calls.mono (h.2 g w args hw ha) ?_⟩
 rintro e w' ⟨u,g',rfl,hw',hr⟩
 have hgn:g.n=1:=hw.n
 have hne:g'.β 0≠g'.β (q+1):=fun e=>by
  have:=hw'.rep.inj 0 (q+1) B es rfl (by simpa using hq) e
  omega
 refine⟨u,{ M:=g'.M,β:=fun i=>if i=0 then g'.β 0 else g'.β (q+1),n:=2,ι:=g'.ι,κ:=fun i=>if i=0 then g'.κ 0 else g'.κ (q+1)},rfl,?_,?_⟩
 ·refine{ rep:=?_,M:=hw'.M,size:=hw'.size,keep:=hw'.keep,os:=hw'.os,tape:=hw'.tape,output:=hw'.output,nE:=?_,βE:=?_,κE:=?_,objs:=?_,owns:=fun x hx=>by simp at hx,drawn:=hw'.drawn }
  ·refine{ n:=rfl,mem:=hw'.rep.mem,obj:=?_,inj:=?_,own:=fun k s xs hx=>by simp at hx,tags:=by simp,sep:=fun x hx=>by simp at hx,ownObj:=fun x hx=>by simp at hx,fresh:=hw'.rep.fresh,gl:=hw'.rep.gl,gw:=hw'.rep.gw }
   ·intro i cs hi
    match i,hi with
    |0,hi=>
     simp at hi;subst hi
     obtain⟨us,rest,et,a1,a2,a3,a4,a5⟩:=hw'.rep.obj 0 B rfl
     exact⟨us,rest,et,a1,BC (by rfl) hB a2,a3,a4,a5⟩
    |1,hi=>
     simp at hi;subst hi
     obtain⟨us,rest,et,a1,a2,a3,a4,a5⟩:=hw'.rep.obj (q+1) es (by simpa using hq)
     exact⟨us,rest,et,a1,BC (by rfl) he a2,a3,a4,a5⟩
    |i+2,hi=>simp at hi
   ·intro i j cs ds hi hj hij
    match i,j,hi,hj with
    |0,0,_,_=>rfl
    |0,1,_,_=>exact absurd hij hne
    |1,0,_,_=>exact absurd hij.symm hne
    |1,1,_,_=>rfl
    |i+2,_,hi,_=>simp at hi
    |_,j+2,_,hj=>simp at hj
  ·show g.n<=2;omega
  ·intro o ho
   have h0:o=0:=by show o=0;have:o<g.n:=ho;omega
   subst h0;exact hw'.βE 0 ho
  ·intro o ho
   have h0:o=0:=by show o=0;have:o<g.n:=ho;omega
   subst h0;exact hw'.κE 0 ho
  ·intro i cs hi
   match i,hi with
   |0,hi=>exact hw'.objs 0 B rfl
   |1,hi=>exact hw'.objs (q+1) es (by simpa using hq)
   |i+2,hi=>simp at hi
 ·simp only[Ag] at hr⊢
  obtain⟨us,rfl,hr⟩:=hr
  obtain⟨u1,u2,rfl,b1,b2⟩:=L9 hr
  simp only[Ad] at b2
  obtain⟨x,u3,rfl,b3,b4⟩:=b2
  simp only[Ag] at b3
  obtain⟨b5,cap,b6,b7,b8⟩:=b3
  refine⟨_,rfl,Au (BC (by rfl) h1 b1) ?_⟩
  simp only[Ad]
  exact⟨_,_,rfl,by simp only[Ag];exact⟨by decide,cap,b6,b8⟩,BC (by rfl) h2 b4⟩
theorem BP{σ:St}{p q i sz:Nat}{cs:List D}{xs:List V}(hsz:0<sz)(hp:σ.H[p]?=G (G cs))(hq:σ.H[q]?=G (G (Ab xs)))(hpq:p≠q)(hi:cs[i]?=G (.arr q 0 (I xs)))(hx:∀x∈xs,x.size=sz)(e:List D):
  Cv e σ e ⟨(σ.H.set q none).set p (G (cs.set i (.v (.list xs)))),σ.own⟩:=fun E g a w hf=>by
 obtain⟨us,rest,et,hb,hr,h1,hM,_⟩:=hf.wi.rep.obj q _ hq
 have hA:repA g.M (xs.flatMap V.cellsV) us:=KL (Gf _) hr h1
 let M':cd:=fun b o=>if b=g.β q then us[o]? else g.M b o
 have hle:g.M.le M':=fun b o v hm=>by
  simp only[M']
  rw[HR]; ·exact hm
  intro e;subst e;rw[hM o] at hm;simp at hm
 have hlg:g.le { g with M:=M' }:=⟨hle,HH _,fun _ _=>rfl,fun _ _ _ h=>h,fun _ _=>rfl⟩
 have hin:fg M' (g.β q) 0 us:=fun j v hj=>by simp[M',hj]
 have hw':WI E { g with M:=M' } ⟨σ.H.set q none,σ.own⟩ w:=hf.wi.setObjG hle hq (fun c hc=>by simp at hc) (fun b _ hne=>⟨rfl,fun o=>by simp[M',hne]⟩) (fun b o v hm=>by
   simp only[M'] at hm
   split at hm
   ·rename_i e;subst e
    simp only[World.cell?,hb,ID];exact Dm hm
   ·exact hf.wi.rep.mem b o v hm) (HH _) rfl rfl rfl
 have hp':(σ.H.set q none)[p]?=G (G cs):=by rw[List.getElem?_set_ne (fun e=>hpq e.symm)];exact hp
 obtain⟨us2,rest2,et2,hb2,hr2,h12,_,hκ2⟩:=hw'.rep.obj p cs hp'
 obtain⟨u,hu,hru⟩:=BF hr2 hi
 simp only[Ag] at hru
 obtain⟨_,cap,hcap,rfl⟩:=hru
 have hlist:repV M' (.list xs) (.slice (G ⟨g.β q,0,none⟩) (I xs) cap):=Du hsz hin (EZ hx (repA.mono hle _ _ hA)) hcap
 have hset:=CR hr2 i (d:=.v (.list xs)) (u:=.slice (G ⟨g.β q,0,none⟩) (I xs) cap) (by simp only[Ag];exact hlist)
 rw[DV hu] at hset
 have h3:=hw'.setObj hp' hb2 hκ2 hset (fun c hc=>by
  rcases IE hc with h|h
  ·exact h12 c h
  ·rw[h];rfl) (fun _ _=>rfl) rfl rfl rfl rfl
 exact⟨_,h3,Ad.mono hlg _ _ hf.env,hf.defers⟩
theorem H8{P:x7}{o:yy}{σ:St}{t:x6}{len:Nat}{parts:Array (Nat×x8)}(ho:o.op=.buildSlice t len parts)(hp:parts.toList=((parts.toList.map (·.2)).zipIdx 0).map fun x=>(x.2,x.1))(hlen:parts.size=len)
  {e:x6} {sz by':Nat} {z:Option yz} (hs:Cd P t=G (e,sz,by',z)) (hz:z.isSome=J) {ds:List D} {xs:List V} (hx:EN ds=G xs) (hsz:∀x∈xs,x.size=sz) (h0:0<len) (h1:0<sz) (h2:len*sz<=1000):
  Aj P o ds σ (.gro (I σ.H) len sz) ⟨σ.H++[G (Ab xs)],σ.own⟩:=by
 intro E g a w K Q hw hds hK
 simp only[ho,Op.operands] at hds
 obtain⟨i,hu,hi,rfl,rfl,rfl⟩:=AH hs
 obtain⟨zz,hzz⟩:=Option.isSome_iff_exists.1 hz
 have hlm:I (parts.toList.map fun p=>a.eval p.2)=len:=by simp[hlen]
 have hds':Ad g ds (parts.toList.map fun p=>a.eval p.2):=by simpa[Function.comp_def] using hds
 obtain⟨hr,hcs⟩:=Jy hx hds' hsz
 have hxl:I xs=len:=by rw[FH hx, ←A4 hds',hlm]
 have hpos:0<len*i.size:=Nat.mul_pos h0 h1
 have hf:=JC i.size (parts.toList.map fun p=>a.eval p.2) 0 [] ((Array.range (len*i.size)).map (zz.cells[· %zz.cells.size]!)).toList (by simp) hcs (by simp[hlen])
 have hpp:((parts.toList.map fun p=>a.eval p.2).zipIdx 0).map (fun x=>(x.2,x.1))=parts.toList.map fun p=>(p.1,a.eval p.2):=by
  have e1:(parts.toList.map fun p=>a.eval p.2)=(parts.toList.map (·.2)).map a.eval:=by simp
  rw[e1,List.zipIdx_map,map_map]
  conv=>rhs;rw[hp,map_map]
  rfl
 rw[hpp] at hf
 simp only[List.nil_append,Array.toArray_toList] at hf
 have hrun:=run_buildSlice (P:=P) w t e len (parts.map fun p=>(p.1,a.eval p.2)) _ i zz hu hi hzz (by omega) (by omega) (by simpa using hf)
 generalize hus:(parts.toList.map fun p=>a.eval p.2).flatMap (·.cells.toList)=us at hr hrun
 have hul:I us=len*i.size:=by rw[BN hr,hxl]
 obtain⟨h5,h6⟩:=Et hr
 obtain⟨g',h3,h4,h5',h6',h7⟩:=hw.newObjR (us:=us) (rest:=[]) (cs:=Ab xs) e h5 h6
 rw[Iz] at h3 h6'
 have:=hK g' _ (.slice (G ⟨w.heap.size,0,none⟩) len len) h3 h4 (by
  simp only[Ag]
  exact⟨by omega,len,HH _,by rw[h6',hul],by rw[h5']⟩)
 unfold Oper.wp execOp
 simp only[ho]
 simp only[Sem.run_bind]
 rw[show(parts.map fun(x:Nat×x8)=>match x with|(i,x)=>(i,a.eval x))=parts.map fun p=>(p.1,a.eval p.2) from rfl,hrun]
 exact this
theorem Oz{ρ τ:Nat->Nat}:∀{ds:List D},(∀c∈D.rens ρ τ ds,c.one=J)->∀c∈ds,c.one=J
 |[],_,c,hc=>by simp at hc
 |d::ds,h,c,hc=>by
  simp only[D.rens,Iq] at h
  rcases Iq.1 hc with rfl|hc
  ·have:=h _ (.inl rfl)
   rwa[XP] at this
  ·exact Oz (fun x hx=>h x (.inr hx)) c hc
mutual
theorem XO{ρ τ:Nat->Nat}:∀(d:D),d.pl=J->d.ren ρ τ=d
 |.v _,_|.raw _,_|.rv ..,_|.err,_|.undef,_=>by simp[D.ren]
 |.tup ds,h=>by rw[D.ren,Ol ds (by simpa[D.pl] using h)]
 |.acc ..,h|.ptr ..,h|.arr ..,h|.gro ..,h|.dagg _,h|.dfn ..,h=>by simp[D.pl] at h
theorem Ol{ρ τ:Nat->Nat}:∀(ds:List D),D.pls ds=J->D.rens ρ τ ds=ds
 |[],_=>by simp[D.rens]
 |d::ds,h=>by
  simp only[D.pls,HB] at h
  rw[D.rens,XO d h.1,Ol ds h.2]
end
mutual
theorem YC{n:Nat}{ts:List Nat}:∀(d:D),d.pl=J->d.okN n ts=J
 |.v _,_|.raw _,_|.rv ..,_|.err,_|.undef,_=>by simp[D.okN]
 |.tup ds,h=>by rw[D.okN,O0 ds (by simpa[D.pl] using h)]
 |.acc ..,h|.ptr ..,h|.arr ..,h|.gro ..,h|.dagg _,h|.dfn ..,h=>by simp[D.pl] at h
theorem O0{n:Nat}{ts:List Nat}:∀(ds:List D),D.pls ds=J->D.okNs n ts ds=J
 |[],_=>by simp[D.okNs]
 |d::ds,h=>by
  simp only[D.pls,HB] at h
  rw[D.okNs,YC d h.1,O0 ds h.2];rfl
end
theorem AC{ρ τ:Nat->Nat}{ds:List D}(h:D.pls ds=J):D.rens ρ τ ds=ds:=Ol ds h
theorem AS{n:Nat}{ts:List Nat}{ds:List D}(h:D.pls ds=J):D.okNs n ts ds=J:=O0 ds h
theorem Fq{P:x7}{f:yx}{ds:List D}{σ:St}{d:D}{T H':List (Option (List D))}(sel:Nat->Nat)(hk:I σ.H<=I H')(hfix:∀i,i<I σ.H->sel i=i)
  (hinj:∀i j,i<I H'->j<I H'->sel i=sel j->i=j) (hlt:∀i,i<I H'->sel i<I T)
  (hsel:∀i cs,H'[i]?=G (G cs)->T[sel i]?=G (G (D.rens sel id cs))/\D.okNs (I H') [] cs=J) (hd:d.okN (I H') []=J)
  (h:Aa P f ds σ (d.ren sel id) ⟨T,[]⟩):Aa P f ds σ d ⟨H',[]⟩:=by
 refine⟨h.1,fun g w args hw ha=>Calls.mono (h.2 g w args hw ha) ?_⟩
 rintro e w' ⟨u,g',rfl,hw',hr⟩
 have hgn:g.n=I σ.H:=hw.n
 have hn':g'.n=I T:=hw'.rep.n
 let g2:Gh:={ M:=g'.M,β:=fun i=>g'.β (sel i),n:=I H',ι:=g'.ι,κ:=fun i=>g'.κ (sel i)}
 have ho:∀o,o<I H'->sel o<g'.n->id o<g2.n/\g2.β (id o)=g'.β (sel o)/\g2.κ (id o)=g'.κ (sel o):=fun o h _=>⟨h,rfl,rfl⟩
 have hι:∀t,([]:List Nat).contains t=J->∀m u,g'.ι (id t) m=G u->g2.ι (id t) m=G u:=fun t ht=>by simp at ht
 have hdd:=fun(d:D) (u:yz) (hk:d.okN (I H') []=J) (h:Ag g' (d.ren sel id) u)=>by
  have:=KT (g:=g') (g':=g2) (ρ:=sel) (τ:=id) (ρ':=id) (τ':=id) (fun _ _ h=>h) ho hι d u hk h
  rwa[MM] at this
 have hds:=fun(ds:List D) (us:List yz) (hk:D.okNs (I H') [] ds=J) (h:Ad g' (D.rens sel id ds) us)=>by
  have:=DF (g:=g') (g':=g2) (ρ:=sel) (τ:=id) (ρ':=id) (τ':=id) (fun _ _ h=>h) ho hι ds us hk h
  rwa[Fg] at this
 refine⟨u,g2,rfl,?_,hdd d u hd hr⟩
 refine{ rep:=?_,M:=hw'.M,size:=hw'.size,keep:=hw'.keep,os:=hw'.os,tape:=hw'.tape,output:=hw'.output,nE:=?_,βE:=?_,κE:=?_,objs:=?_,owns:=fun x hx=>by simp at hx,drawn:=hw'.drawn }
 ·refine{ n:=rfl,mem:=hw'.rep.mem,obj:=?_,inj:=?_,own:=fun k s xs hx=>by simp at hx,tags:=by simp,sep:=fun x hx=>by simp at hx,ownObj:=fun x hx=>by simp at hx,fresh:=hw'.rep.fresh,gl:=hw'.rep.gl,gw:=hw'.rep.gw }
  ·intro i cs hi
   obtain⟨h1,h2⟩:=hsel i cs hi
   obtain⟨us,rest,et,a1,a2,a3,a4,a5⟩:=hw'.rep.obj (sel i) _ h1
   exact⟨us,rest,et,a1,hds cs us h2 a2,Oz a3,a4,a5⟩
  ·intro i j cs ds hi hj hij
   have hil:=(HD.1 hi).1
   have hjl:=(HD.1 hj).1
   exact hinj i j hil hjl (hw'.rep.inj _ _ _ _ (hsel i cs hi).1 (hsel j ds hj).1 hij)
 ·show g.n<=I H';omega
 ·intro o ho2
  have h2:o<I σ.H:=by have:o<g.n:=ho2;omega
  show g'.β (sel o)=g.β o
  rw[hfix o h2];exact hw'.βE o ho2
 ·intro o ho2
  have h2:o<I σ.H:=by have:o<g.n:=ho2;omega
  show g'.κ (sel o)=g.κ o
  rw[hfix o h2];exact hw'.κE o ho2
 ·intro i cs hi
  exact hw'.objs _ _ (hsel i cs hi).1
theorem AfL{E:cf}{g:Gh}{σ:St}{e e':List D}{a:Act}{w:x5}{H':List (Option (List D))}(sel:Nat->Nat){m:Nat}(hEm:E.g.n<=m)(hm:m<=I H')(hfix:∀i,i<m->sel i=i)
  (hinj:∀i j,i<I H'->j<I H'->sel i=sel j->i=j)
  (hsel:∀i cs,H'[i]?=G (G cs)->σ.H[sel i]?=G (G (D.rens sel id cs))/\D.okNs (I H') (σ.own.map (·.1)) cs=J)
  (he:D.okNs (I H') (σ.own.map (·.1)) e'=J) (hee:e=D.rens sel id e') (hf:FI E g σ e a w):∃g',FI E g' ⟨H',σ.own⟩ e' a w:=by
 have hw:=hf.wi
 let g2:Gh:={ M:=g.M,β:=fun i=>g.β (sel i),n:=I H',ι:=g.ι,κ:=fun i=>g.κ (sel i)}
 have ho:∀o,o<I H'->sel o<g.n->id o<g2.n/\g2.β (id o)=g.β (sel o)/\g2.κ (id o)=g.κ (sel o):=fun o h _=>⟨h,rfl,rfl⟩
 have hι:∀t,(σ.own.map (·.1)).contains t=J->∀m u,g.ι (id t) m=G u->g2.ι (id t) m=G u:=fun t _ m u h=>h
 have hds:=fun(ds:List D) (us:List yz) (hk:D.okNs (I H') (σ.own.map (·.1)) ds=J) (h:Ad g (D.rens sel id ds) us)=>by
  have:=DF (g:=g) (g':=g2) (ρ:=sel) (τ:=id) (ρ':=id) (τ':=id) (fun _ _ h=>h) ho hι ds us hk h
  rwa[Fg] at this
 refine⟨g2,?_,hds e' _ he (hee▸hf.env),hf.defers⟩
 refine{ rep:=?_,M:=hw.M,size:=hw.size,keep:=hw.keep,os:=hw.os,tape:=hw.tape,output:=hw.output,nE:=I6 hEm hm,βE:=?_,κE:=?_,objs:=?_,owns:=hw.owns,drawn:=hw.drawn }
 ·refine{ n:=rfl,mem:=hw.rep.mem,obj:=?_,inj:=?_,own:=hw.rep.own,tags:=hw.rep.tags,sep:=hw.rep.sep,ownObj:=?_,fresh:=hw.rep.fresh,gl:=hw.rep.gl,gw:=hw.rep.gw }
  ·intro i cs hi
   obtain⟨h1,h2⟩:=hsel i cs hi
   obtain⟨us,rest,et,a1,a2,a3,a4,a5⟩:=hw.rep.obj (sel i) _ h1
   exact⟨us,rest,et,a1,hds cs us h2 a2,Oz a3,a4,a5⟩
  ·intro i j cs ds hi hj hij
   have hil:=(HD.1 hi).1
   have hjl:=(HD.1 hj).1
   exact hinj i j hil hjl (hw.rep.inj _ _ _ _ (hsel i cs hi).1 (hsel j ds hj).1 hij)
  ·intro x hx u hu b hb i cs hi
   exact hw.rep.ownObj x hx u hu b hb _ _ (hsel i cs hi).1
 ·intro o ho2
  show g.β (sel o)=E.g.β o
  rw[hfix o (by omega)];exact hw.βE o ho2
 ·intro o ho2
  show g.κ (sel o)=E.g.κ o
  rw[hfix o (by omega)];exact hw.κE o ho2
 ·intro i cs hi
  exact hw.objs _ _ (hsel i cs hi).1
theorem Ce{C:cf->cf->Prop}{P:x7}{R:List D->St->Prop}{k:List KI}{σ:St}{e e':List D}{H':List (Option (List D))}{m:Nat}(hCm:∀E0 E,C E0 E->E.g.n<=m)(sel:Nat->Nat)(hm:m<=I H')(hfix:∀i,i<m->sel i=i)
  (hinj:∀i j,i<I H'->j<I H'->sel i=sel j->i=j)
  (hsel:∀i cs,H'[i]?=G (G cs)->σ.H[sel i]?=G (G (D.rens sel id cs))/\D.okNs (I H') (σ.own.map (·.1)) cs=J)
  (he:D.okNs (I H') (σ.own.map (·.1)) e'=J) (hee:e=D.rens sel id e') (h:AB C P R k e' ⟨H',σ.own⟩):AB C P R k e σ:=fun E0 E g a w B hC hf hB=>by
 obtain⟨g',hf'⟩:=AfL sel (hCm E0 E hC) hm hfix hinj hsel he hee hf
 exact h E0 E g' a w B hC hf' hB
theorem Ep{C:cf->cf->Prop}{P:x7}{R:List D->St->Prop}{k:List KI}{H0 H':List (Option (List D))}{e e':List D}(hCm:∀E0 E,C E0 E->E.g.n<=0)(j:Nat)(hj:I H0=j)(hp:∀cs,G cs∈H'->D.pls cs=J)
  (he:D.okNs (I H') [] e'=J) (hee:e=D.rens (fun i=>i+j) id e') (h:AB C P R k e' ⟨H',[]⟩):AB C P R k e ⟨H0++H',[]⟩:=by
 refine Ce (σ:=⟨H0++H',[]⟩) (e':=e') (H':=H') (m:=0) hCm (fun i=>i+j) (Ik _) (fun i hi=>by omega) (fun i k _ _ h=>by simpa using h) (fun i cs hi=>?_) he hee h
 have hpl:=hp cs (HG hi)
 refine⟨?_,AS hpl⟩
 rw[AC hpl,HT (by omega),hj,Nat.add_sub_cancel]
 exact hi
theorem F3{P:x7}{f:yx}{ds:List D}{k:Nat}{xs:List V}{own:List (Nat×Nat×List V)}(h:Aa P f ds ⟨[],[]⟩ (.acc k xs) ⟨[],own⟩):Aa P f ds ⟨[],[]⟩ (.v (.list xs)) ⟨[],[]⟩:=by
 refine⟨h.1,fun g w args hw ha=>Calls.mono (h.2 g w args hw ha) ?_⟩
 rintro e w' ⟨u,g',rfl,hw',hr⟩
 have hw2:=WA (σ':=⟨[],[]⟩) hw' (m:=0) rfl (Ik _) (by rw[hw.n];exact HH _) rfl (by simp)
 refine⟨u,_,rfl,hw2,?_⟩
 refine LB _ _ rfl ?_
 simp only[Ag] at hr⊢
 exact hr.1
def jm:St:=⟨[],[(1,1,[]),(1,1,[])]⟩
theorem SL{P:x7}{o:yy}{ds:List D}{d:D}{s':St}:Aj P o ds jm d s':=fun E g a w K Q hw=>by
 have:=hw.rep.tags
 simp[jm] at this
theorem Acw{P:x7}{o:yy}{ds:List D}{q off:Nat}{s:St}{d:D}{s':St}(h:I s.H<=q):Aj P o (.ptr q off::ds) s d s':=fun E g a w K Q hw hds=>by
 simp only[Ad,Ag] at hds
 obtain⟨u,us,_,h1,_⟩:=hds
 have:=h1.1
 have:=hw.rep.n
 omega
theorem Pw:∀(L:List (Nat×D)) (e0 e:List D),I e0=I e->(∀(i:Nat) (d':D),e0[i]?=G d'->d'=.undef∨e[i]?=G d')->(∀p∈L,e0[p.1]?=G .undef)->
  (I e0)=I (L.foldl (fun e p=>e.set p.1 p.2) e)/\∀(i:Nat) (d':D),e0[i]?=G d'->d'=.undef∨(L.foldl (fun e p=>e.set p.1 p.2) e)[i]?=G d'
 |[],e0,e,hl,h,_=>⟨hl,h⟩
 |p::L,e0,e,hl,h,hp=>by
  refine Pw L e0 (e.set p.1 p.2) (by simpa using hl) (fun i d' hd=>?_) (fun q hq=>hp q (by simp[hq]))
  by_cases hi:i=p.1
  ·subst hi
   rw[hp p (by simp)] at hd
   simp at hd;exact .inl hd.symm
  ·rw[List.getElem?_set_ne (fun e=>hi e.symm)];exact h i d' hd
theorem Rk{C:cf->cf->Prop}{P:x7}{R:List D->St->Prop}{k:List KI}{n:Nat}{L L2:List (Nat×D)}{σ:St}(hp:∀p∈L2,(ba n L)[p.1]?=G .undef)(h:AB C P R k (ba n L) σ):AB C P R k (ba n (L++L2)) σ:=by
 obtain⟨h1,h2⟩:=Pw L2 (ba n L) (ba n L) rfl (fun i d' hd=>.inr hd) hp
 rw[show ba n (L++L2)=L2.foldl (fun e p=>e.set p.1 p.2) (ba n L) by simp[ba]]
 exact JP h1 h2 h
theorem Ad0{P:x7}(hm:P.follows .mixedOrders=J){C:Nat}{fn:yw}{d:D}{σ':St}(nt:Nat)(im:List Nat){ks T:List KI}{L:List (Nat×D)}{σ:St}(s:Sc)
  (h:AY (ba nt L) fun env=>vc (CN C) C P (fun env σ1=>Az P fn env σ1 d σ') (WO P fn.results.toList d σ') nt im T 10000 s ks env σ):Rn P fn C d σ' (ks++T) (ba nt L) σ:=Aen hm (M5 _) _ (fun _ _ h=>h.2) nt im s h
noncomputable def xe(P:x7)(rs:List ResultVar)(d:D)(σ':St)(env:List D)(σ:St)(kn0:Bool:=false):Prop:=
 km P env σ true rs fun ds=>AY (ds.map (gh (σ'.own.map (·.1)) kn0)) fun ds=>Yk ds fun d'=>
  cond (D.okN (I σ'.H) (σ'.own.map (·.1)) d&&Nat.ble (I σ'.H) (I σ.H)) (uz true (cm (I σ'.H) (σ'.own.map (·.1)) (σ.H.take (I σ'.H)))
   (RA σ'.H (σ.H.take (I σ'.H)) (RA σ'.own (lu (σ'.own.map (·.1)) σ.own) (d'=d)))) False
theorem Sh{P:x7}{fn:yw}{d:D}{σ':St}{env:List D}{σ:St}(h:xe P fn.results.toList d σ' env σ):Az P fn env σ d σ':=by
 obtain⟨ds,h1,hr⟩:=G4 h
 rw[AO,Oq] at h1
 obtain⟨h2,h3⟩:=Ap h1
 obtain⟨h8,h3⟩:=Rz h3
 simp only[HB] at h2
 generalize false=kn at h3
 have h4:Rt (ds.map (gh (σ'.own.map (·.1)) kn))=d/\σ.H.take (I σ'.H)=σ'.H/\lu (σ'.own.map (·.1)) σ.own=σ'.own:=by
  obtain⟨e1,h3⟩:=Gs h3 (fun e=>by rw[e];rfl)
  obtain⟨e2,h3⟩:=Gs h3 (fun e=>by rw[e];unfold lu;rw[List.filter_eq_nil_iff];simp)
  exact⟨h3,e1,e2⟩
 obtain⟨rfl,hH,hown⟩:=h4
 intro E g a w hf hE
 obtain⟨us,h5,h6⟩:=hr.run hf
 have hrun:(results fn a.tmps).run P w=.ok (if h:I us=1 then us[0] else .tuple us.toArray) w:=by
  rw[JQ,Array.mapM_eq_mapM_toList]
  simp only[Sem.run_bind,Sem.run_map,h5,Result.andThen_ok]
  by_cases h:I us=1<;>simp[h]
 have hsub:σ'.own.Sublist σ.own:=by rw[←hown];exact List.filter_sublist
 refine⟨_,_,hrun,WA hf.wi hH.symm (Ie h2.2) hE (by have:=h8;rwa[hH] at this) hsub,?_⟩
 refine LB _ _ h2.1 ?_
 have h7:=CV (ts:=σ'.own.map (·.1)) (kn:=kn) h6
 generalize ds.map (gh (σ'.own.map (·.1)) kn)=ds' at h7
 have hl:=A4 h7
 unfold Rt
 split
 ·rename_i d0
  obtain⟨u,rfl,h3⟩:=A9.1 h7
  simpa using h3
 ·rename_i hne
  have:I us≠1:=by
   rw[hl]
   intro h
   match ds',h with
   |[d0],_=>exact hne d0 rfl
  rw[dif_neg this]
  simp only[Ag]
  exact⟨us,rfl,h7⟩
theorem Od{P:x7}(hm:P.follows .mixedOrders=J){f:yx}{ds:List D}{σ σ':St}{d:D}(fn:yw)(c:Code)(hf:P.funcs[f]?=G fn)(hb:fn.body=G c)(hn:(fn.name=="runtime.NumGoroutine")=O)(hH:Nat.ble (I σ.H) (I σ'.H)=J)(nt:Nat)(hnt:I (ds++replicate (fn.ntmps-I ds) bk)=nt)
  (im:List Nat) (s:Sc)
  (h:AY (ds++replicate (fn.ntmps-I ds) bk) fun env=>vc (CN (I σ.H)) (I σ.H) P (fun env σ1=>Az P fn env σ1 d σ') (fun _ env σ=>xe P fn.results.toList d σ' env σ) nt im [] 10000 s [.code c] env σ):Aa P f ds σ d σ':=by
 rw[AO] at h
 refine K0 hf hb hn (Ie hH) ?_
 exact Pj (ks:=[.code c]) (T:=[]) (M5 _) (fun _ _ h=>h.2) hm (fun b env σ _ h=>Sh h) hnt h
section
variable {P : x7} {o : yy} {σ : St} {d : D}
theorem LM{x:x8}{t:x6}(ho:o.op=.call { callee:=.builtin .clear,args:= #[x],argTypes:= #[t]}){e:x6}{sz by':Nat}{z:yz}(hs:Cd P t=G (e,sz,by',G z)){zs:List V}(hz:Fj z.cells.toList=G zs)(hzc:z.cells.size=sz)
  {q off len:Nat} {cs:List D} (hq:σ.H[q]?=G (G cs)) (hn:0<len) (hfit:off+len*sz<=I cs):
  Aj P o [.arr q off len] σ (.tup []) ⟨σ.H.set q (G (cs.take off++(replicate len zs).flatten.map .v++cs.drop (off+len*sz))),σ.own⟩:=by
 intro E g a w K Q hw hds hK
 simp only[ho,Op.operands,Call.operands] at hds
 obtain⟨u,eq,h1⟩:=A9.1 (by simpa using hds)
 simp only[HN,Io] at eq
 simp only[Ag] at h1
 obtain⟨_,cap,_,rfl⟩:=h1
 obtain⟨i,hu,hi,hsz,hby,hzz⟩:=AH hs
 obtain⟨us,rest,et,hb,hr,hone,hM,hκ⟩:=hw.rep.obj q cs hq
 have hul:=A4 hr
 have hcells:(Builtin.zeroCells z.cells len).toList=(replicate len z.cells.toList).flatten:=by
  have h:=K8 z.cells len
  have h2:Builtin.zeroCells z.cells len=madeCells z.cells (len*z.cells.size):=rfl
  rw[h2,h]
 obtain⟨hr1,ho1⟩:=D6 (g:=g) (EG (M:=g.M) hz)
 have hrz:∀m,Ad g ((replicate m zs).flatten.map .v) (replicate m z.cells.toList).flatten/\∀c∈ (replicate m zs).flatten.map bt,c.one=J:=by
  intro m
  induction m with
  |zero=>simp[Ad]
  |succ m ih=>
   simp only[I4,IY,IQ]
   refine⟨Au hr1 ih.1,fun c hc=>?_⟩
   rcases Ix.1 hc with h|h
   ·exact ho1 c h
   ·exact ih.2 c h
 have hvl:(replicate len z.cells.toList).flatten.length=len*sz:=by rw[FO,Im,hzc]
 have hst:=run_storeCells_at P (g.β q) off et (replicate len z.cells.toList).flatten 0 (us++rest).toArray w hb (by simp only[IP,HO];omega) (fun v hv=>C7 (hrz len).2 (hrz len).1 v hv)
 simp only[I8,hvl] at hst
 rw[show(us++rest).take off++(replicate len z.cells.toList).flatten++(us++rest).drop (off+len*sz)=(us.take off++(replicate len z.cells.toList).flatten++us.drop (off+len*sz))++rest from by
  rw[Jj (by omega),List.drop_append_of_le_length (by omega)];simp] at hst
 have hw':=hw.setObj (cs':=cs.take off++(replicate len zs).flatten.map .v++cs.drop (off+len*sz)) hq (us:=us.take off++(replicate len z.cells.toList).flatten++us.drop (off+len*sz)) (rest:=rest) (e:=et)
  (w':=w.setRow (g.β q) ((us.take off++(replicate len z.cells.toList).flatten++us.drop (off+len*sz))++rest).toArray) (setRow_heap w _ _ _ et _ hb) (by rw[←hκ];simp only[HO,Ig,IF];omega)
  (Au (Au (CH hr off) (hrz len).1) (CI hr (off+len*sz)))
  (fun c hc=>by
   simp only[Ix] at hc
   rcases hc with(hc|hc)|hc
   ·exact hone c (IR hc)
   ·exact(hrz len).2 c hc
   ·exact hone c (I1 hc))
  (fun b hb=>setRow_other w _ _ _ hb) (by simp) rfl rfl rfl
 have:=hK g _ (.tuple #[]) hw' g.le_refl (by simp only[Ag];exact⟨[],rfl,by simp[Ad]⟩)
 obtain⟨m,hm⟩:∃m,len=m+1:=⟨len-1,by omega⟩
 have hrun:(Builtin.clear_ #[t] o.type #[.slice (G ⟨g.β q,off,none⟩) len cap]).run P w=.ok (.tuple #[]) (w.setRow (g.β q) ((us.take off++(replicate len z.cells.toList).flatten++us.drop (off+len*sz))++rest).toArray):=by
  subst hm
  simp[Builtin.clear_,run_underlying hu,zeroValue,typeInfo,hi,hzz,hcells,hst]
 unfold Oper.wp execOp
 simp only[ho,resolve,invoke,builtin,Sem.run_bind,Sem.run_pure,Result.andThen_ok]
 rw[show(#[x]:Array x8).map a.eval= #[.slice (G ⟨g.β q,off,none⟩) len cap] from by simp[eq],hrun]
 exact this
end
theorem RC{env:List D}{σ:St}{q t sz n:Nat}{xs:List V}{rest:List D}(hsz:0<sz)(hs:∀x∈xs,x.size=sz)(hn:n=I xs)(hq:σ.H[q]?=G (G (Ab xs++rest)))(ht:env[t]?=G (.arr q 0 n)):Cv env σ (env.set t (.v (.list xs))) ⟨σ.H.set q none,σ.own⟩:=fun E g a w hf=>by
 subst hn
 have hone:∀y∈xs.flatMap V.cellsV,y.isAgg=O:=fun y hy=>by
  obtain⟨_,_,_,_,_,h1,_⟩:=hf.wi.rep.obj q _ hq
  have:=h1 (.v y) (Ix.2 (.inl (Is.2 ⟨y,hy,rfl⟩)))
  simpa[D.one] using this
 have hz:Fz (Ex [q] σ.H) env (env.set t (.v (.list xs))):=by
  refine MV (n:=1) (Fz.refl env) ht (.inr (.inr ⟨q,0,sz,Ab xs++rest,xs,.inl rfl,rfl,hsz,hs,by simp[Ex,hq],fun j y hy=>?_⟩))
  have hj:j<I (Ab xs):=by rw[Ab,H9];exact(HD.1 hy).1
  exact⟨hone y (HG hy),.v y,by rw[Iv,HW hj,Ab,Ir,hy];rfl,.v y,.same,rfl⟩
 obtain⟨g',hf'⟩:=Qt [q] hz E g a w hf
 exact⟨g',by simpa[LX] using hf'⟩
theorem XJ(n:Nat):df n (List.range n)=id:=by
 funext j
 unfold df
 by_cases h:j<n
 ·rw[List.getElem?_range h];rfl
 ·rw[Iy (by rw[List.length_range];omega),List.length_range];show n+(j-n)=j;omega
theorem My:∀(H2 H1 os:List (Option (List D))),I H2<=I os->CD (H1++H2) (List.range' (I H1) (I H2)) os=H1++os
 |[],H1,os,_=>by simp[CD]
 |x::H2,H1,[],h=>by simp at h
 |x::H2,H1,o::os,h=>by
  rw[HF,List.range'_succ,CD]
  have h2:=My H2 (H1++[o]) os (by simpa using h)
  rw[HO,HF,HJ] at h2
  rw[show(H1++x::H2).set (I H1) o=(H1++[o])++H2 by rw[List.set_append_right _ _ (HH _)];simp]
  rw[show I H1+1=I H1+(0+1) by omega,h2]
  simp
theorem AbY(H:List (Option (List D))):D7 id id H=H:=by
 unfold D7
 conv=>rhs;rw[←List.map_id H]
 refine List.map_congr_left fun x _=>?_
 cases x with
 |none=>rfl
 |some cs=>simp[Fg]
theorem Mz{n:Nat}{qs:List Nat}(hq:I qs=n)(hr:df n qs=id):∀{ds:List D},D.okNs n [] ds=J->Hi n qs ds ds
 |[],_=>.nil
 |d::ds,h=>by
  simp only[D.okNs,HB] at h
  refine .cons ?_ (Mz hq hr h.2)
  have:=m5.ren (n:=n) (qs:=qs) (dc:=d) (by rw[hq];exact h.1)
  rwa[hr,MM] at this
theorem PK{H:List (List D)}{qs:List Nat}(hq:I qs=I H)(hr:df (I H) qs=id)(hH:∀cs∈H,D.okNs (I H) [] cs=J/\cs.all D.one=J):∀(k:Nat),k<=I H->OW (H.map some) qs (List.range' (I H-k) k) ((H.drop (I H-k)).map some)
 |0,_=>by simp;exact .nil
 |k+1,hk=>by
  have hlt:I H- (k+1)<I H:=by omega
  rw[List.range'_succ,HP hlt,Ia,show I H- (k+1)+1=I H-k by omega]
  have hm:=hH _ (List.getElem_mem hlt)
  refine .cons (cs:=H[I H- (k+1)]) (by rw[Ir,HA hlt];rfl) ?_ hm.2 (PK hq hr hH k (by omega))
  rw[H9]
  exact Mz hq hr hm.1
theorem Dd{P:x7}{o:yy}{c:Call}{fo:x8}(ho:o.op=.call c)(hc:c.callee=.value fo){fD:D}{f:yx}{fs cs:List D}(hf:OF fD=G (f,fs,cs)){H:List (List D)}{H':List (Option (List D))}{ds:List D}{d:D}
  (hspec:Aa P f (fs++ds++cs) ⟨H.map some,[]⟩ d ⟨H',[]⟩) (hds:D.okNs (I H) [] (fs++ds++cs)=J) (hH:∀cs∈H,D.okNs (I H) [] cs=J/\cs.all D.one=J) (hd:d.okN (I H') []=J) (hH':cm (I H') [] H'=J) (hle:I H<=I H'):
  Aj P o (fD::ds) ⟨H.map some,[]⟩ d ⟨H',[]⟩:=by
 have hq:I (List.range (I H))=I H:=List.length_range
 have hr:=XJ (I H)
 have hl:I (H.map some)=I H:=H9 ..
 have hob:=PK hq hr hH (I H) (HH _)
 rw[Nat.sub_self,Jk, ←List.range_eq_range'] at hob
 have h:=BX (σ:=⟨H.map some,[]⟩) ho hc hf (List.range (I H)) id hspec (by
  show Hi (I (H.map some)) _ _ _
  rw[hl];exact Mz hq hr hds) hob List.nodup_range rfl (by simp) (by simp) hd hH'
 have hb:CD (H.map some) (List.range (I H)) H'=H':=by
  have:=My (H.map some) [] H' (by rw[hl];exact hle)
  simpa[hl,List.range_eq_range'] using this
 simp only[hl,hr,MM,AbY,hb] at h
 simpa[Ev] using h
end Go.Nv

namespace Go.Proofs.YtfhgjfkleggjfaaGreatDoor
open Go.Dv Go.Nv
set_option maxRecDepth 20000
open List (flatten getElem?_set_ne getElem?_set_self length_set pairwise_cons replicate set_cons_zero take)
open Go.IntKind (u64)
open Go.IntKind renaming wrap → yu, i64 → yt
open List renaming length → I, map → U, drop → W
open Option renaming some → G
open Bool renaming true → J, false → O
open Decidable renaming decide → Y
open Int renaming toNat → Z
open Go.Dv.V renaming list → ai, str → ae, agg → ab, int → aa, ref → bz, fn → bw, nils → bv, bool → bu
open Go.Dv.D renaming v → bt, acc → br, ptr → bq, arr → bo, gro → bm, tup → bl, undef → bk, dagg → bj
open Go.Dv.St renaming mk → bi
open Go.Dv.KI renaming blk → bh
open _root_.ByteArray renaming mk → bf
open Go renaming Operand → x8, Program → x7, TypeId → x6, World → x5, Value → yz, Oper → yy, FuncId → yx, Func → yw, IntKind → yv
structure ChC(m:b9)(c:bc):Prop where
 size:c.size<=128
 len:I c.az=1+I m.ay
 word:∀(k:Nat) (x:bc),c.az[1+k]?=G x->I x.az<=12
structure la(m:b9)(t:cy):Prop where
 int:Hq m t
 chk:F0 41 [Af m] (di 0)
 kind:m.kind=2∨m.kind=3
 few:I m.av<=12/\m.ay.length<=2
 rule:∀r∈m.av,0<=r.chan/\r.chan<I m.ay
 shape:∀c,Ah t c=J->ChC m c
noncomputable abbrev Aja:=Tryz.f253
theorem Wa(m:b9)(t:cy)(hm:Hq m t)(c:bc)(hs:c.size<=1000000):F0 253 [dV c,.v (.ref (A1 m))] (db (!Ah t c)):=by
 exact sv Aja 8 [2] (.c (db (Ah t c)) .r) (_/\Q (db !Ah t c)) ⟨hm.valid c hs,rfl⟩
noncomputable abbrev No:=Tryz.f237
theorem Ajv(m:b9)(t:cy)(hm:la m t):F0 237 [Af m,dl []] (di 0):=by
 have h:=JB 253 [] [.ref (A1 m)] (fun c=> !Ah t c) [] (by simp) (by simp)
 rcases hm.kind with hk|hk
 ·exact sv No 24 [2] (.c (di 0)<|.k<|.f<|.c (db O) .r) (_/\(m.kind !=2)=O/\_/\Q (di 0)) ⟨hm.chk,by rw[hk];rfl,h,rfl⟩
 ·exact sv No 24 [2] (.c (di 0)<|.k<|.t<|.f<|.c (db O) .r) (_/\(m.kind !=2)=J/\(m.kind !=3)=O/\_/\Q (di 0)) ⟨hm.chk,by rw[hk];rfl,by rw[hk];rfl,h,rfl⟩
def nv(t:cy)(c:bc):Int:=if Ah t c=J then 0 else 17
theorem AeE(m:b9)(t:cy)(hm:la m t)(c:bc)(hs:c.size<=1000000):F0 237 [Af m,dl [Ac c]] (di (nv t c)):=by
 have h:=JB 253 [] [.ref (A1 m)] (fun c=> !Ah t c) [c] (by simp) (fun x hx=>by rw[HQ.1 hx];exact Wa m t hm.int c hs)
 rw[show [c].map eV=[Ac c] from HX (fun z=>[z]) (AE c)] at h
 rw[nv]
 cases hv:Ah t c with
 |true=>
  rw[show([c].any fun c=> !Ah t c)=O by simp[hv]] at h
  rw[HV rfl]
  rcases hm.kind with hk|hk
  ·exact sv No 24 [2] (.c (di 0)<|.k<|.f<|.c (db O) .r) (_/\(m.kind !=2)=O/\_/\Q (di 0)) ⟨hm.chk,by rw[hk];rfl,h,rfl⟩
  ·exact sv No 24 [2] (.c (di 0)<|.k<|.t<|.f<|.c (db O) .r) (_/\(m.kind !=2)=J/\(m.kind !=3)=O/\_/\Q (di 0)) ⟨hm.chk,by rw[hk];rfl,by rw[hk];rfl,h,rfl⟩
 |false=>
  rw[show([c].any fun c=> !Ah t c)=J by simp[hv]] at h
  rw[HR (by decide)]
  rcases hm.kind with hk|hk
  ·exact sv No 24 [2] (.c (di 0)<|.k<|.f<|.c (db J) .r) (_/\(m.kind !=2)=O/\_/\Q (di 17)) ⟨hm.chk,by rw[hk];rfl,h,rfl⟩
  ·exact sv No 24 [2] (.c (di 0)<|.k<|.t<|.f<|.c (db J) .r) (_/\(m.kind !=2)=J/\(m.kind !=3)=O/\_/\Q (di 17)) ⟨hm.chk,by rw[hk];rfl,by rw[hk];rfl,h,rfl⟩
noncomputable abbrev AlT:=Tryz.f224
theorem AdM(m:b9)(t:cy)(hm:la m t)(i:Nat)(hi:i<I m.av)(c:bc)(hs:c.size<=1000000):F0 224 [Af m,di i,dV c] (di (nv t c)):=by
 exact sv AlT 28 [3,5] (.c (di 0)<|.k<|.k<|.f<|.c (di (nv t c)) .r) (_/\Y ((i:Int)>=(I (U Ai m.av):Int))=O/\_/\Q (di (nv t c))) ⟨Ajv m t hm,HE (by rw[H9];omega),AeE m t hm c hs,rfl⟩
abbrev AR(x:bc):List Int:=x.az.map bc.n
noncomputable abbrev Zw:=Tryz.f226
noncomputable def Wh:=yl Zw
theorem ZP(l:List bc)(hl:I l<=1000000)(n:Nat):∀k:Nat,I l-k=n->
  Rn PP Zw 0 (.acc 1 ((l.map bc.n).map vi)) ⟨[],[(1,1,(l.map bc.n).map vi)]⟩ ([kl Wh [1,1,0,1,0,0],.blk 0,kc Wh [1,1,1]]++[]) (ba 27 [(5,.acc 1 (((l.take k).map bc.n).map vi)),(14,cx l),(15,di (I l)),(16,di k)]) ⟨[],[(1,1,((l.take k).map bc.n).map vi)]⟩:=by
 induction n with
 |zero=>
  intro k hn
  refine lv 27 [2] (.f .r) (Y ((k:Int)<(I l:Int))=O/\[(1,1,U vi (U bc.n (take k l)))]=[(1,1,U vi (U bc.n l))]/\br 1 (U vi (U bc.n (take k l)))=br 1 (U vi (U bc.n l))) ?_
  rw[Ic (by omega)]
  exact⟨yq,rfl,rfl⟩
 |succ n ih=>
  intro k hn
  obtain⟨x,hx⟩:=yk (show k<I l by omega)
  refine lv 27 [2] (.t<|.h (.xs (Ac x))<|.ls [ch 5 (.acc 1 (((l.take (k+1)).map bc.n).map vi)),ke 14,ke 15,ch 16 (di (k+1:Nat))] ⟨[],[(1,1,((l.take (k+1)).map bc.n).map vi)]⟩) (Y ((k:Int)<(I l:Int))=J/\Q 2/\0<=(k:Int)/\(U eV l)[Z (k:Int)]?=G (Ac x)/\Q (U vi (U bc.n (take k l)))/\Ao (I (U vi (U bc.n (take k l)))+I (vi x.n::nV)) 8/\br 1 (U vi (U bc.n (take k l))++[vi x.n])=br 1 (U vi (U bc.n (take (k+1) l)))/\di (yu yt ((k:Int)+1))=di (↑(k+1):Int)/\[(1,1,U vi (U bc.n (take k l))++vi x.n::nV)]=[(1,1,U vi (U bc.n (take (k+1) l)))]/\I0 Zw 0 (br 1 (U vi (U bc.n l))) (bi [] [(1,1,U vi (U bc.n l))]) [kl Wh d5,bh 0,kc Wh [1,1,1]] (ba 27 [(5,br 1 (U vi (U bc.n (take (k+1) l)))),(14,cx l),(15,di (I l:Int)),(16,di (↑(k+1):Int))]) (bi [] [(1,1,U vi (U bc.n (take (k+1) l)))])) ?_
  have hk:=(HD.1 hx).1
  have ht:((l.take (k+1)).map bc.n).map vi=((l.take k).map bc.n).map vi++[vi x.n]:=by rw[IM,hx];simp
  rw[ht]
  refine⟨yr,rfl,by omega,An hx,rfl,⟨?_,?_⟩,rfl,Ae,rfl,⟨?_⟩⟩
  ·simp only[H9,Ig,HF,HJ];omega
  ·simp only[H9,Ig,HF,HJ];omega
  ·have:=ih (k+1) (by omega)
   rw[ht] at this
   exact this
theorem Nq(c:bc)(k:Nat)(x:bc)(hx:c.az[1+k]?=G x)(hl:I c.az<=1000000)(hs:I x.az<=1000000):Aa PP 226 [dV c,di k] bd (.acc 1 ((AR x).map vi)) ⟨[],[(1,1,(AR x).map vi)]⟩:=by
 refine sv Zw 27 [2] (.h (.q 2 0)<|.h (.nw 5 1 1)<|.h (.xs (Ac x))<|.ls [ch 5 (.acc 1 []),ke 14,ch 15 (di (I x.az)),ch 16 (di (0:Nat))] ⟨[],[(1,1,[])]⟩) (Q 2/\0<=yu yt (1+(k:Int))/\(cc c.az)[Z (yu yt (1+(k:Int)))]?=G (Ac x)/\Q gp/\di (I (cc x.az):Int)=di (I x.az:Int)/\di 0=di (↑0:Int)/\Q [(1,1,nV)]/\I0 Zw (I bd.H) (br 1 (U vi (AR x))) (bi [] [(1,1,U vi (AR x))]) [kl Wh d5,bh 0,kc Wh [1,1,1]] (ba 27 [(5,br 1 []),(14,cx x.az),(15,di (I x.az:Int)),(16,di (↑0:Int))]) qr) ?_
 have hk:=(HD.1 hx).1
 have hw:yt.wrap (1+(k:Int))=((1+k:Nat):Int):=by rw[Al];omega
 rw[hw]
 exact⟨rfl,by omega,An hx,rfl,by rw[H9],rfl,rfl,⟨ZP x.az hs _ 0 rfl⟩⟩
theorem Qw(c:bc)(k:Nat)(x:bc)(hx:c.az[1+k]?=G x)(hl:I c.az<=1000000)(hs:I x.az<=1000000):F0 226 [dV c,di k] (cw (AR x)):=F3 (Nq c k x hx hl hs)
noncomputable abbrev ug:=Tryz.f225
theorem Aae(r:cp)(c:bc)(k:Nat)(hk:r.chan=k)(s x:bc)(hs:c.az[0]?=G s)(hx:c.az[1+k]?=G x)(hl:I c.az<=1000000)(hz:I x.az<=1000000):
  F0 225 [Cu r,dV c] (db ((s.n==r.aj)&&((r.act !=2)||(AR x).head?==G r.letter))):=by
 have hct:=Qw c k x hx hl hz
 rw[←hk] at hct
 have hx0:(c.az.map eV)[Z 0]?=G (Ac s):=An (i:=0) hs
 by_cases h1:(s.n !=r.aj)=J
 ·have e1:(s.n==r.aj)=O:=by simpa using h1
  refine sv ug 32 [2,3] (.h (.xs (Ac s))<|.t .r) (Q 2/\iz 0<=0/\(cc c.az)[Z 0]?=G (Ac s)/\(s.n !=r.aj)=J/\db O=db (s.n==r.aj&&(r.act !=2||List.head? (AR x)==G r.letter))) ?_
  rw[e1]
  exact⟨rfl,Ib _,hx0,h1,rfl⟩
 ·have f1:=HM h1
  have e1:(s.n==r.aj)=J:=by simpa using h1
  by_cases h2:(r.act !=2)=J
  ·refine sv ug 32 [2,3] (.h (.xs (Ac s))<|.f<|.t .r) (Q 2/\iz 0<=0/\(cc c.az)[Z 0]?=G (Ac s)/\(s.n !=r.aj)=O/\(r.act !=2)=J/\db J=db (s.n==r.aj&&(r.act !=2||List.head? (AR x)==G r.letter))) ?_
   rw[e1,h2]
   exact⟨rfl,Ib _,hx0,f1,rfl,rfl⟩
  ·have f2:=HM h2
   rw[e1,f2]
   cases hn:AR x with
   |nil=>
    rw[hn] at hct
    exact sv ug 32 [2,3] (.h (.xs (Ac s))<|.f<|.f<|.c (cw []) .r) (Q 2/\iz 0<=0/\_/\_/\_/\_/\Q (db O)) ⟨rfl,Ib _,hx0,f1,f2,hct,rfl⟩
   |cons y ys=>
    rw[hn] at hct
    exact sv ug 32 [2,3] (.h (.xs (Ac s))<|.f<|.f<|.c (cw (y::ys))<|.t<|.x (vi y) .r) (Q 2/\iz 0<=0/\_/\_/\_/\_/\Y ((I (U vi (y::ys)):Int)>0)=J/\iz 0<=0/\Q (G (vi y))/\db (y==r.letter)=db (true&&(false||List.head? (y::ys)==G r.letter))) ⟨rfl,Ib _,hx0,f1,f2,hct,HC (by simp only[H9,HF];omega),Ib _,rfl,by simp⟩
noncomputable abbrev nu:=Tryz.f258
noncomputable def Wy:=yl nu
theorem Adz(l:List bc)(hl:I l<=1000000)(hp:∀v∈l,F0 249 [dV v] (dV v))(n:Nat):∀k:Nat,I l-k=n->
  Rn PP nu 0 (.acc 1 (l.map eV)) ⟨[],[(1,2,l.map eV)]⟩ ([kl Wy [1,1,0,1,0,0],.blk 0,kc Wy [1,1,1]]++[]) (ba 19 [(3,.acc 1 ((l.take k).map eV)),(6,cx l),(7,di (I l)),(8,di k)]) ⟨[],[(1,2,(l.take k).map eV)]⟩:=by
 induction n with
 |zero=>
  intro k hn
  refine lv 19 [] (.f .r) (Y ((k:Int)<(I l:Int))=O/\[(1,2,U eV (take k l))]=[(1,2,U eV l)]/\br 1 (U eV (take k l))=br 1 (U eV l)) ?_
  rw[Ic (by omega)]
  exact⟨yq,rfl,rfl⟩
 |succ n ih=>
  intro k hn
  obtain⟨x,hx⟩:=yk (show k<I l by omega)
  have hk:=(HD.1 hx).1
  have ht:l.take (k+1)=l.take k++[x]:=by rw[IM,hx];rfl
  refine lv 19 [] (.t<|.h (.xs (Ac x))<|.c (dV x)<|.ls [ch 3 (.acc 1 ((l.take (k+1)).map eV)),ke 6,ke 7,ch 8 (di (k+1:Nat))] ⟨[],[(1,2,(l.take (k+1)).map eV)]⟩) (Y ((k:Int)<(I l:Int))=J/\Q 2/\0<=(k:Int)/\(U eV l)[Z (k:Int)]?=G (Ac x)/\_/\Q (U eV (take k l))/\Ao (I (U eV (take k l))+I (Ac x::nV)) 32/\br 1 (U eV (take k l)++[Ac x])=br 1 (U eV (take (k+1) l))/\di (yu yt ((k:Int)+1))=di (↑(k+1):Int)/\[(1,2,U eV (take k l)++Ac x::nV)]=[(1,2,U eV (take (k+1) l))]/\_) ⟨yr,rfl,by omega,An hx,hp x (HG hx),rfl,⟨?_,?_⟩,?_,Ae,?_,iK (ih (k+1) (by omega))⟩
  ·simp only[H9,Ig,HF,HJ];omega
  ·simp only[H9,Ig,HF,HJ];omega
  ·rw[B1, ←ht]
  ·rw[ht, ←B1]
theorem Tu(l:List bc)(hl:I l<=1000000)(hp:∀v∈l,F0 249 [dV v] (dV v)):F0 258 [cx l] (cx l):=by
 have h:Aa PP 258 [cx l] bd (.acc 1 (l.map eV)) ⟨[],[(1,2,l.map eV)]⟩:=by
  exact sv nu 19 [] (.h (.q 2 0)<|.h (.nw 3 1 2)<|.ls [ch 3 (.acc 1 []),ke 6,ch 7 (di (I l)),ch 8 (di (0:Nat))] ⟨[],[(1,2,[])]⟩) (Q gp/\di (I (U eV l):Int)=di (I l:Int)/\Q (di 0)/\Q [(1,2,nV)]/\_) ⟨rfl,by rw[H9],rfl,rfl,iK (Adz l hl hp _ 0 rfl)⟩
 exact F3 h
noncomputable abbrev xy:=Tryz.f249
noncomputable def AlY:=yl xy
theorem Ts(N:Nat):∀v:bc,v.size<=N->v.size<=1000000->F0 249 [dV v] (dV v):=by
 induction N with
 |zero=>intro v h;have:=v.size_pos;omega
 |succ N ih=>
  intro v hN hv
  have hs:=v.size_eq
  have hl:=bc.length_le v.az
  exact sv xy 9 [1] (.c (cx v.az) .r) (_/\Q (dV v)) ⟨Tu v.az (by omega) (fun x hx=>by have:=bc.size_mem hx;exact ih x (by omega) (by omega)),rfl⟩
abbrev ri(xs:List bc):St:=⟨[G (Ab (xs.map eV))],[]⟩
theorem ZO(l:List bc)(hl:I l<=100000)(hp:∀v∈l,F0 249 [dV v] (dV v))(n:Nat):∀k:Nat,I l- (k+1)=n->k<I l->
  Rn PP nu 0 (.arr 0 0 (I l)) (ri l) ([kl Wy [1,1,0,1,0,0],.blk 0,kc Wy [1,1,1]]++[]) (ba 19 [(3,.gro 0 (k+1) 2),(6,cx l),(7,di (I l)),(8,di (k+1:Nat))]) (ri (l.take (k+1))):=by
 induction n with
 |zero=>
  intro k hn hk
  refine lv 19 [] (.f<|.h (.q 7 0)<|.h (.ga 3) .ro) (Y ((↑(k+1):Int)<(I l:Int))=O/\cm 1 [] [G (Ab (U eV (take (k+1) l)))]=J/\[G (Ab (U eV (take (k+1) l)))]=[G (dv l)]/\bo 0 0 (k+1)=bo 0 0 (I l)) ?_
  have e:k+1=I l:=by omega
  rw[e,Ic (HH _)]
  exact⟨yq,HS.2 ⟨Ak 1 [] _,rfl⟩,rfl,rfl⟩
 |succ n ih=>
  intro k hn hk
  obtain⟨x,hx⟩:=yk (show k+1<I l by omega)
  refine lv 19 [] (.t<|.h (.xs (Ac x))<|.c (dV x)<|.lo [ch 3 (.gro 2 (k+1+1) 2),ke 6,ke 7,ch 8 (di (k+1+1:Nat))] ⟨[none,G (c7 x.n x.az),G (Ab ((l.take (k+1+1)).map eV))],[]⟩) (Y ((↑(k+1):Int)<(I l:Int))=J/\Q 2/\0<=(↑(k+1):Int)/\(U eV l)[Z (↑(k+1):Int)]?=G (Ac x)/\F0 249 [dV x] (dV x)/\I (Ab (U eV (take (k+1) l)))=(k+1)*2/\[Ac x]≠ []/\(∀(y:V),y∈ [Ac x]->V.size y=2)/\Ao (k+1+I (Ac x::nV)) 32/\bm 2 (k+1+I (Ac x::nV)) 2=bm 2 (k+1+1) 2/\di (yu yt ((↑(k+1):Int)+1))=di (↑(k+1+1):Int)/\cm 3 [] [none,G (c7 x.n x.az),G (Ab (U eV (take (k+1) l))++(c7 x.n x.az))]=J/\[none,G (c7 x.n x.az),G (Ab (U eV (take (k+1) l))++(c7 x.n x.az))]=[none,G (c7 x.n x.az),G (Ab (U eV (take (k+1+1) l)))]/\I0 nu 0 (bo 0 0 (I l)) (ri l) [kl Wy d5,bh 0,kc Wy [1,1,1]] (ba 19 [(3,bm 2 (k+1+1) 2),(6,cx l),(7,di (I l:Int)),(8,di (↑(k+1+1):Int))]) (bi [none,G (c7 x.n x.az),G (Ab (U eV (take (k+1+1) l)))] [])) ?_
  have hk1:=(HD.1 hx).1
  have ht:l.take (k+1+1)=l.take (k+1)++[x]:=by rw[IM (i:=k+1),hx];rfl
  have hf:Ab ((l.take (k+1)).map eV)++[di x.n,bt (dt x.az)]=Ab ((l.take (k+1+1)).map eV):=by rw[ht,DL,A8];rfl
  have hih:=ih (k+1) (by omega) hk1
  rw[hf]
  refine⟨yr,rfl,by omega,An hx,hp x (HG hx),by rw[AT,Ig];omega,by simp,fun y hy=>by rw[HQ.1 hy];rfl,⟨?_,?_⟩,rfl,Ae,?_,rfl,⟨?_⟩⟩
  ·simp only[HF,HJ];omega
  ·simp only[HF,HJ];omega
  ·simp[cm,D.okNs,D.okN,Ak]
  ·refine Ep (H0:=[none,G [di x.n,cx x.az]]) (fun E0 E h=>h.2) 2 rfl (fun cs hc=>?_) ?_ ?_ hih
   ·simp at hc;rw[hc];exact A3 _
   ·simp[ba,D.okNs,D.okN]
   ·simp[ba,D.rens,D.ren]
theorem ZN(l:List bc)(hn:l≠ [])(hl:I l<=100000)(hp:∀v∈l,F0 249 [dV v] (dV v)):Aa PP 258 [cx l] bd (.arr 0 0 (I l)) (ri l):=by
 obtain⟨x,hx⟩:∃x,l[0]?=G x:=⟨_,HA (List.length_pos_iff.2 hn)⟩
 have hk1:=(HD.1 hx).1
 have ht:l.take 1=[x]:=by
  cases l with
  |nil=>simp at hx
  |cons y l=>simp at hx;simp[hx]
 have hih:=ZO l hl hp _ 0 rfl (by omega)
 refine sv nu 19 [] (.n<|.t<|.h (.xs (Ac x))<|.c (dV x)<|.h (.q 5 4)<|.h .g<|.lo [ch 3 (.gro 1 1 2),ke 6,ch 7 (di (I l)),ch 8 (di (1:Nat))] ⟨[G (c7 x.n x.az),G (Ab ((l.take 1).map eV))],[]⟩) (Y (0<(I (U eV l):Int))=J/\Q 2/\iz 0<=0/\(U eV l)[Z 0]?=G (Ac x)/\_/\[Ac x]≠ []/\(∀(y:V),y∈ [Ac x]->V.size y=2)/\Ao 1 32/\Q (bm 1 1 2)/\di (I (U eV l):Int)=di (I l:Int)/\di (yu yt (0+1))=di (↑1:Int)/\cm 2 [] [G (c7 x.n x.az),G (c7 x.n x.az)]=J/\[G (c7 x.n x.az),G (c7 x.n x.az)]=[G (c7 x.n x.az),G (Ab (U eV (take 1 l)))]/\I0 nu (I bd.H) (bo 0 0 (I l)) (ri l) [kl Wy d5,bh 0,kc Wy [1,1,1]] (ba 19 [(3,bm 1 1 2),(6,cx l),(7,di (I l:Int)),(8,di (↑1:Int))]) (bi [G (c7 x.n x.az),G (Ab (U eV (take 1 l)))] [])) ⟨HC (by simp only[H9];omega),rfl,Ib _,An (i:=0) hx,hp x (HG hx),by simp,fun y hy=>by rw[HQ.1 hy];rfl,⟨by decide,by decide⟩,rfl,by rw[H9],HX di (by decide),rfl,?_,⟨?_⟩⟩
 ·rw[ht,A8];rfl
 ·refine Ep (H0:=[G [di x.n,cx x.az]]) (fun E0 E h=>h.2) 1 rfl (fun cs hc=>?_) ?_ ?_ hih
  ·simp at hc;rw[hc];exact A3 _
  ·simp[ba,D.okNs,D.okN]
  ·simp[ba,D.rens,D.ren]
theorem ZM(v:bc)(hn:v.az≠ [])(hv:v.size<=100000):Aa PP 249 [dV v] bd (.dagg [di v.n,.arr 1 0 (I v.az)]) ⟨[G [di v.n,.arr 1 0 (I v.az)],G (Ab (v.az.map eV))],[]⟩:=by
 have hs:=v.size_eq
 have hl:=bc.length_le v.az
 refine Od mixed xy AlY (by kernel_rfl) (by kernel_rfl) (by kernel_rfl) (by kernel_rfl) 9 (by kernel_rfl) [1] (.h (.oc (.arr 1 0 (I v.az)) ⟨[G [di 0,.v .nils],G (Ab (v.az.map eV))],[]⟩)<|.h .g<|.r) ?_
 refine ey (by kernel_rfl:((N0 [bt (bw 258 [] []),cx v.az] qt (bo 1 0 (I v.az)) (bi [G [di 0,dn],G (dv v.az)] []))/\cm 2 [] [G [di v.n,bo 1 0 (I v.az)],G (dv v.az)]=J/\Q [G [di v.n,bo 1 0 (I v.az)],G (dv v.az)]/\Q (bj [di v.n,bo 1 0 (I v.az)]))=_) ?_
 refine⟨fun o cl fo ho hc=>?_,by simp[cm,D.okNs,D.okN,Ak],rfl,rfl⟩
 exact K4 (σ:=⟨[G [di 0,.v .nils]],[]⟩) (fs:=[]) (cs:=[]) (ds:=[cx v.az]) ho hc rfl (A3 _) (ZN v.az hn (by omega) (fun x hx=>by have:=bc.size_mem hx;exact Ts _ x (HH _) (by omega)))
theorem fb{P:x7}{o:yy}{ds ds':List D}{σ σ':St}{d:D}(h:DSL ds ds')(ho:Aj P o ds' σ d σ'):Aj P o ds σ d σ':=fun E g a w K Q hw hds hK=>ho E g a w K Q hw (h.rep hds) hK
theorem Acx{P:x7}{o:yy}{ds ds':List D}{σ σ':St}{d:D}(h:∀(g:Gh) (a:Act),Ad g ds' (o.op.operands.toList.map a.eval))(ho:Aj P o ds' σ d σ'):Aj P o ds σ d σ':=fun E g a w K Q hw _ hK=>ho E g a w K Q hw (h g a) hK
noncomputable abbrev He:=Tryz.f227
noncomputable def B4:=yl He
noncomputable def rq:Array yy:=match sub B4 [1,1,1,1,1,0,1,0,0,1,1,0,0,1] with
 |.region _ ops _=>ops
 |_=> #[]
noncomputable def oW(i:Nat):yy:=(rq[i]?).getD ⟨none,.alloc 0,0,"", #[],none⟩
theorem Cb:rq.size=12:=by kernel_rfl
theorem Yq:rq.toList=[oW 0,oW 1,oW 2,oW 3,oW 4,oW 5,oW 6,oW 7,oW 8,oW 9,oW 10,oW 11]:=by kernel_rfl
abbrev B6(c:bc)(L:List D)(T:List (Option (List D))):St:=⟨[G [di 0,.v .nils],G [di c.n,.arr 2 0 (I c.az)],G L,G [di c.n,.arr 2 0 (I c.az)]]++T,[]⟩
abbrev zE:V:=.agg [vi 0,.nils]
abbrev lE(x:Int):V:=.agg [vi x,.list []]
theorem Ake(p:Nat)(σ:St):Aj PP (oW 0) [.ptr 2 p] σ (.ptr 2 p) σ:=by
 obtain⟨_,d,σ',kd,⟨rfl,rfl,rfl⟩,h⟩:=C5 (P:=PP) (im:=[]) (s:=.z) (o:=oW 0) (ds:=[.ptr 2 p]) (σ:=σ) (K:=fun _ d' σ' kd=>d'=(.ptr 2 p)/\σ'=σ/\kd=.pure) (by
  refine ey (by kernel_rfl:(Q (bq 2 p)/\Q σ/\Q Kd.pure)=_) ?_
  exact⟨rfl,rfl,rfl⟩)
 exact h.op
theorem Akd(p:Nat)(σ:St):Aj PP (oW 1) [.ptr 2 p] σ (.ptr 2 p) σ:=by
 obtain⟨_,d,σ',kd,⟨rfl,rfl,rfl⟩,h⟩:=C5 (P:=PP) (im:=[]) (s:=.z) (o:=oW 1) (ds:=[.ptr 2 p]) (σ:=σ) (K:=fun _ d' σ' kd=>d'=(.ptr 2 p)/\σ'=σ/\kd=.pure) (by
  refine ey (by kernel_rfl:(Q (bq 2 p)/\Q σ/\Q Kd.pure)=_) ?_
  exact⟨rfl,rfl,rfl⟩)
 exact h.op
theorem Ahj(p:Nat)(σ:St):Aj PP (oW 10) [.ptr 2 p] σ (.ptr 2 p) σ:=by
 obtain⟨_,d,σ',kd,⟨rfl,rfl,rfl⟩,h⟩:=C5 (P:=PP) (im:=[]) (s:=.z) (o:=oW 10) (ds:=[.ptr 2 p]) (σ:=σ) (K:=fun _ d' σ' kd=>d'=(.ptr 2 p)/\σ'=σ/\kd=.pure) (by
  refine ey (by kernel_rfl:(Q (bq 2 p)/\Q σ/\Q Kd.pure)=_) ?_
  exact⟨rfl,rfl,rfl⟩)
 exact h.op
theorem Akc(c:bc)(L:List D)(p:Nat)(g0:D)(T:List (Option (List D)))(h:L[p]?=G g0):Aj PP (oW 2) [.ptr 2 p] (B6 c L T) g0 (B6 c L T):=by
 obtain⟨_,d,σ',kd,⟨rfl,rfl,rfl⟩,h⟩:=C5 (P:=PP) (im:=[]) (s:=.m g0 .z) (o:=oW 2) (ds:=[.ptr 2 p]) (σ:=(B6 c L T)) (K:=fun _ d' σ' kd=>d'=g0/\σ'=(B6 c L T)/\kd=.load 2 p 1) (by
  refine ey (by kernel_rfl:(L[p]?=G g0/\Q g0/\Q (B6 c L T)/\Q (Kd.load 2 p 1))=_) ?_
  exact⟨h,rfl,rfl,rfl⟩)
 exact h.op
theorem Akb(x:Int)(σ:St):Aj PP (oW 3) [di x] σ (di x) σ:=by
 obtain⟨_,d,σ',kd,⟨rfl,rfl,rfl⟩,h⟩:=C5 (P:=PP) (im:=[]) (s:=.z) (o:=oW 3) (ds:=[di x]) (σ:=σ) (K:=fun _ d' σ' kd=>d'=(di x)/\σ'=σ/\kd=.pure) (by
  refine ey (by kernel_rfl:(Q (di x)/\Q σ/\Q Kd.pure)=_) ?_
  exact⟨rfl,rfl,rfl⟩)
 exact h.op
theorem Aka(x:Int)(σ:St):Aj PP (oW 4) [di x] σ (.v (lE x)) σ:=by
 obtain⟨_,d,σ',kd,⟨rfl,rfl,rfl⟩,h⟩:=C5 (P:=PP) (im:=[]) (s:=.z) (o:=oW 4) (ds:=[di x]) (σ:=σ) (K:=fun _ d' σ' kd=>d'=(.v (lE x))/\σ'=σ/\kd=.pure) (by
  refine ey (by kernel_rfl:(bt (ab [vi x,ai []])=bt (lE x)/\Q σ/\Q Kd.pure)=_) ?_
  exact⟨rfl,rfl,rfl⟩)
 exact h.op
theorem AjZ(σ:St):Aj PP (oW 6) [.v zE] σ (.v (.list [zE])) σ:=by
 obtain⟨_,d,σ',kd,⟨rfl,rfl,rfl⟩,h⟩:=C5 (P:=PP) (im:=[]) (s:=.z) (o:=oW 6) (ds:=[.v zE]) (σ:=σ) (K:=fun _ d' σ' kd=>d'=(.v (.list [zE]))/\σ'=σ/\kd=.pure) (by
  refine ey (by kernel_rfl:(Q (bt (ai [zE]))/\Q σ/\Q Kd.pure)=_) ?_
  exact⟨rfl,rfl,rfl⟩)
 exact h.op
theorem Ahh(q n:Nat)(σ:St):Aj PP (oW 5) [.arr q 0 n] σ (di n) σ:=by
 obtain⟨_,d,σ',kd,⟨rfl,rfl,rfl⟩,h⟩:=C5 (P:=PP) (im:=[]) (s:=.z) (o:=oW 5) (ds:=[.arr q 0 n]) (σ:=σ) (K:=fun _ d' σ' kd=>d'=(di n)/\σ'=σ/\kd=.pure) (by
  refine ey (by kernel_rfl:(Q (di (n:Int))/\Q σ/\Q Kd.pure)=_) ?_
  exact⟨rfl,rfl,rfl⟩)
 exact h.op
theorem Ahg(σ:St):Aj PP (oW 5) [.v .nils] σ (di 0) σ:=by
 obtain⟨_,d,σ',kd,⟨rfl,rfl,rfl⟩,h⟩:=C5 (P:=PP) (im:=[]) (s:=.z) (o:=oW 5) (ds:=[.v .nils]) (σ:=σ) (K:=fun _ d' σ' kd=>d'=(di 0)/\σ'=σ/\kd=.pure) (by
  refine ey (by kernel_rfl:(Q (di 0)/\Q σ/\Q Kd.pure)=_) ?_
  exact⟨rfl,rfl,rfl⟩)
 exact h.op
theorem Ahd(q n j:Nat)(σ:St)(h:j<n):Aj PP (oW 8) [.arr q 0 n,di j] σ (.ptr q (0+Z (j:Int)*2)) σ:=by
 obtain⟨_,d,σ',kd,⟨rfl,rfl,rfl⟩,h⟩:=C5 (P:=PP) (im:=[]) (s:=.z) (o:=oW 8) (ds:=[.arr q 0 n,di j]) (σ:=σ) (K:=fun _ d' σ' kd=>d'=(.ptr q (0+Z (j:Int)*2))/\σ'=σ/\kd=.pure) (by
  refine ey (by kernel_rfl:(0<=(j:Int)/\(j:Int)<(n:Int)/\Q (bq q (0+Z (j:Int)*2))/\Q σ/\Q Kd.pure)=_) ?_
  exact⟨by omega,by omega,rfl,rfl,rfl⟩)
 exact h.op
theorem AjY(c:bc)(L:List D)(Cc:List D)(n:Nat)(hn:n<=1000)(hC:I Cc=n*2):Aj PP (oW 7) [.gro 4 n 2,.v (.list [zE])] (B6 c L [G Cc]) (.gro 5 (n+1) 2) (B6 c L [none,G (Cc++[di 0,.v .nils])]):=by
 obtain⟨_,d,σ',kd,⟨rfl,rfl,rfl⟩,h⟩:=C5 (P:=PP) (im:=[]) (s:=.z) (o:=oW 7) (ds:=[.gro 4 n 2,.v (.list [zE])]) (σ:=(B6 c L [G Cc])) (K:=fun _ d' σ' kd=>d'=(.gro 5 (n+1) 2)/\σ'=(B6 c L [none,G (Cc++[di 0,.v .nils])])/\kd=.eff) (by
  refine ey (by kernel_rfl:(I Cc=n*2/\[zE]≠ []/\(∀(y:V),y∈ [zE]->V.size y=2)/\Ao (n+I (zE::nV)) 32/\bm 5 (n+I (zE::nV)) 2=bm 5 (n+1) 2/\bi [G [di 0,dn],G [di c.n,bo 2 0 (I c.az)],G L,G [di c.n,bo 2 0 (I c.az)],none,G (Cc++[di 0,dn])] []=B6 c L [none,G (Cc++[di 0,dn])]/\Q Kd.eff)=_) ?_
  exact⟨hC,by simp,fun y hy=>by rw[HQ.1 hy];rfl,⟨by simp only[HF,HJ];omega,by simp only[HF,HJ];omega⟩,rfl,rfl,rfl⟩)
 exact h.op
theorem Ahe(c:bc)(L:List D):Aj PP (oW 7) [.v .nils,.v (.list [zE])] (B6 c L []) (.gro 4 1 2) (B6 c L [G [di 0,.v .nils]]):=by
 obtain⟨_,d,σ',kd,⟨rfl,rfl,rfl⟩,h⟩:=C5 (P:=PP) (im:=[]) (s:=.h .g .z) (o:=oW 7) (ds:=[.v .nils,.v (.list [zE])]) (σ:=(B6 c L [])) (K:=fun _ d' σ' kd=>d'=(.gro 4 1 2)/\σ'=(B6 c L [G [di 0,.v .nils]])/\kd=.eff) (by
  refine ey (by kernel_rfl:([zE]≠ []/\(∀(y:V),y∈ [zE]->V.size y=2)/\Ao 1 32/\Q (bm 4 1 2)/\bi [G [di 0,dn],G [di c.n,bo 2 0 (I c.az)],G L,G [di c.n,bo 2 0 (I c.az)],G [di 0,dn]] []=B6 c L [G [di 0,dn]]/\Q Kd.eff)=_) ?_
  exact⟨by simp,fun y hy=>by rw[HQ.1 hy];rfl,⟨by decide,by decide⟩,rfl,rfl,rfl⟩)
 exact h.op
theorem AjX(c:bc)(L:List D)(Cc:List D)(j:Nat)(x:Int)(hC:j+2<=I Cc):Aj PP (oW 9) [.ptr 5 j,.v (lE x)] (B6 c L [none,G Cc]) .undef (B6 c L [none,G (Cc.take j++[di x,.v (.list [])]++Cc.drop (j+2))]):=by
 obtain⟨_,d,σ',kd,⟨rfl,rfl,rfl⟩,h⟩:=C5 (P:=PP) (im:=[]) (s:=.h .ww .z) (o:=oW 9) (ds:=[.ptr 5 j,.v (lE x)]) (σ:=(B6 c L [none,G Cc])) (K:=fun _ d' σ' kd=>d'=.undef/\σ'=(B6 c L [none,G (Cc.take j++[di x,.v (.list [])]++Cc.drop (j+2))])/\kd=.eff) (by
  refine ey (by kernel_rfl:(j+2<=I Cc/\Q bk/\bi [G [di 0,dn],G [di c.n,bo 2 0 (I c.az)],G L,G [di c.n,bo 2 0 (I c.az)],none,G (take j Cc++[di x,bt (ai [])]++W (j+2) Cc)] []=B6 c L [none,G (take j Cc++[di x,bt (ai [])]++W (j+2) Cc)]/\Q Kd.eff)=_) ?_
  exact⟨hC,rfl,rfl,rfl⟩)
 exact h.op
theorem Ahc(c:bc)(L:List D)(x:Int):Aj PP (oW 9) [.ptr 4 0,.v (lE x)] (B6 c L [G [di 0,.v .nils]]) .undef (B6 c L [G [di x,.v (.list [])]]):=by
 obtain⟨_,d,σ',kd,⟨rfl,rfl,rfl⟩,h⟩:=C5 (P:=PP) (im:=[]) (s:=.z) (o:=oW 9) (ds:=[.ptr 4 0,.v (lE x)]) (σ:=(B6 c L [G [di 0,.v .nils]])) (K:=fun _ d' σ' kd=>d'=.undef/\σ'=(B6 c L [G [di x,.v (.list [])]])/\kd=.eff) (by
  refine ey (by kernel_rfl:(Q bk/\bi [G [di 0,dn],G [di c.n,bo 2 0 (I c.az)],G L,G [di c.n,bo 2 0 (I c.az)],G [di x,bt (ai [])]] []=B6 c L [G [di x,bt (ai [])]]/\Q Kd.eff)=_) ?_
  exact⟨rfl,rfl,rfl⟩)
 exact h.op
theorem Ahi(c:bc)(L:List D)(p q j:Nat)(T:List (Option (List D)))(hp:p<I L):Aj PP (oW 11) [.ptr 2 p,.gro q j 2] (B6 c L T) .undef (B6 c (L.set p (.gro q j 2)) T):=by
 obtain⟨_,d,σ',kd,⟨rfl,rfl,rfl⟩,h⟩:=C5 (P:=PP) (im:=[]) (s:=.w .z) (o:=oW 11) (ds:=[.ptr 2 p,.gro q j 2]) (σ:=(B6 c L T)) (K:=fun _ d' σ' kd=>d'=.undef/\σ'=(B6 c (L.set p (.gro q j 2)) T)/\kd=.eff) (by
  refine ey (by kernel_rfl:(p<I L/\Q bk/\bi (G [di 0,dn]::G [di c.n,bo 2 0 (I c.az)]::G (List.set L p (bm q j 2))::G [di c.n,bo 2 0 (I c.az)]::[]++T) []=B6 c (List.set L p (bm q j 2)) T/\Q Kd.eff)=_) ?_
  exact⟨hp,rfl,rfl,rfl⟩)
 exact h.op
theorem Ahf(ds:List D)(σ:St):Aj PP (oW 6) ds σ (.v (.list [zE])) σ:=by
 refine Acx (fun g a=>?_) (AjZ σ)
 have e:(oW 6).op.operands.toList=[.const (.agg #[.int .i64 0,.slice none 0 0])]:=by kernel_rfl
 rw[e]
 simp only[Ia,I7,Act.eval,Ad,Ag,C6]
 refine⟨_,_,rfl,⟨[.int .i64 0,.slice none 0 0],?_,rfl⟩,rfl⟩
 simp only[repA,repC]
 exact⟨_,_,rfl,rfl,rfl,_,_,rfl,rfl,rfl,rfl⟩
theorem RZ{C:cf->cf->Prop}{R:List D->St->Prop}{ks:List KI}(c:bc)(p:Nat)(L:List D)(hp:p<I L)(x:Int)(j:Nat)(g0:D)(T0 T1 T2:List (Option (List D)))(q1:Nat)(hq:4+I T0<=q1)(ws:List Int)(kk:Int)
  (h5:∀τ,Aj PP (oW 5) [g0] τ (di j) τ) (h7:Aj PP (oW 7) [g0,.v (.list [zE])] (B6 c (L.set p g0) T0) (.gro q1 (j+1) 2) (B6 c (L.set p g0) T1))
  (h9:∀M,Aj PP (oW 9) [.ptr q1 (0+Z (j:Int)*2),.v (lE x)] (B6 c M T1) .undef (B6 c M T2))
  (hk:AB C PP R ks (ba 46 [(8,.ptr 0 0),(9,.ptr 3 0),(10,.ptr 2 p),(12,di x),(28,cw ws),(29,di (I ws)),(30,di kk),(34,.ptr 2 p),(35,.ptr 2 p),(36,g0),(37,di x),(38,.v (lE x)),(39,di j),(40,.v (.list [zE])),(41,.gro q1 (j+1) 2),(42,.ptr q1 (0+Z (j:Int)*2)),(43,.ptr 2 p)]) (B6 c (L.set p (.gro q1 (j+1) 2)) T2)):
  AB C PP R (.code (sub B4 [1,1,1,1,1,0,1,0,0,1,1,0,0,1])::ks) (ba 46 [(8,.ptr 0 0),(9,.ptr 3 0),(10,.ptr 2 p),(12,di x),(28,cw ws),(29,di (I ws)),(30,di kk)]) (B6 c (L.set p g0) T0):=by
 have hx:sub B4 [1,1,1,1,1,0,1,0,0,1,1,0,0,1]=.region 8 rq true:=by kernel_rfl
 rw[hx]
 have h11:∀T,Aj PP (oW 11) [.ptr 2 p,.gro q1 (j+1) 2] (B6 c (L.set p g0) T) .undef (B6 c (L.set p (.gro q1 (j+1) 2)) T):=fun T=>by
  have:=Ahi c (L.set p g0) p q1 (j+1) T (by rw[length_set];exact hp)
  rwa[List.set_set] at this
 have h2:=Akc c (L.set p g0) p g0 T0 (by rw[getElem?_set_self hp])
 let sts:Bool->List St:=fun b=>match b with
  |false=>[B6 c (L.set p g0) T0,B6 c (L.set p g0) T1,B6 c (L.set p (.gro q1 (j+1) 2)) T1]
  |true=>[jm,B6 c (L.set p g0) T2,B6 c (L.set p (.gro q1 (j+1) 2)) T2]
 have h8:∀τ,Aj PP (oW 8) [.gro q1 (j+1) 2,di j] τ (.ptr q1 (0+Z (j:Int)*2)) τ:=fun τ=>fb (.cons .gro (.cons (.same _) .nil)) (Ahd q1 (j+1) j τ (by omega))
 refine KS mixed sts 9 (vals:=[.ptr 2 p,.ptr 2 p,g0,di x,.v (lE x),di j,.v (.list [zE]),.gro q1 (j+1) 2,.ptr q1 (0+Z (j:Int)*2),.undef,.ptr 2 p,.undef]) (j':=2) (σ':=B6 c (L.set p (.gro q1 (j+1) 2)) T2) (effs:=[(false,none),(false,none),(false,G 0),(false,none),(false,none),(false,none),(false,none),(true,none),(false,none),(false,none),(false,none),(true,none)]) rfl (by rw[Cb];rfl) ?_ (by kernel_rfl) hk
 rw[Yq]
 have en:∀{a b:List D},a=b->Gz PP rq sts 9 [] a 2 [] [] b 2:=fun h=>h▸ .nil
 have e:∀{a b:List D} {o:yy} {s s':St} {d:D},a=b->Aj PP o b s d s'->Aj PP o a s d s':=fun h k=>h▸k
 refine .quiet (d:=.ptr 2 p) (by rw[Cb];decide) (by kernel_rfl) (fun b s _=>e (by kernel_rfl) (Ake p s)) ?_
 refine .quiet (d:=.ptr 2 p) (by rw[Cb];decide) (by kernel_rfl) (fun b s _=>e (by kernel_rfl) (Akd p s)) ?_
 refine .quietW (d:=g0) 0 (by rw[Cb];decide) (by kernel_rfl) (fun b k s hk0 hs=>?_) ?_
 ·have hk0:k=0:=by omega
  subst hk0
  cases b with
  |false=>simp[sts] at hs;subst hs;exact e (by kernel_rfl) h2
  |true=>simp[sts] at hs;subst hs;exact SL
 refine .quiet (d:=di x) (by rw[Cb];decide) (by kernel_rfl) (fun b s _=>e (by kernel_rfl) (Akb x s)) ?_
 refine .quiet (d:=.v (lE x)) (by rw[Cb];decide) (by kernel_rfl) (fun b s _=>e (by kernel_rfl) (Aka x s)) ?_
 refine .quiet (d:=di j) (by rw[Cb];decide) (by kernel_rfl) (fun b s _=>e (by kernel_rfl) (h5 s)) ?_
 refine .quiet (d:=.v (.list [zE])) (by rw[Cb];decide) (by kernel_rfl) (fun b s _=>Ahf _ s) ?_
 refine .eff (d:=.gro q1 (j+1) 2) (by rw[Cb];decide) (by kernel_rfl) (fun b s hs _=>?_) ?_
 ·cases b with
  |false=>simp[sts] at hs;subst hs;exact⟨_,rfl,e (by kernel_rfl) h7⟩
  |true=>simp[sts] at hs;subst hs;exact⟨_,rfl,SL⟩
 refine .quiet (d:=.ptr q1 (0+Z (j:Int)*2)) (by rw[Cb];decide) (by kernel_rfl) (fun b s _=>e (by kernel_rfl) (h8 s)) ?_
 refine .free (d:=.undef) (by rw[Cb];rfl) (by kernel_rfl) (fun k s hs=>?_) ?_
 ·match k,hs with
  |0,hs=>simp[sts] at hs;subst hs;exact⟨_,rfl,e (b:=[.ptr q1 (0+Z (j:Int)*2),.v (lE x)]) (by kernel_rfl) (Acw (by simp only[HO,HF,HJ];omega))⟩
  |1,hs=>simp[sts] at hs;subst hs;exact⟨_,rfl,e (by kernel_rfl) (h9 _)⟩
  |2,hs=>simp[sts] at hs;subst hs;exact⟨_,rfl,e (by kernel_rfl) (h9 _)⟩
  |k+3,hs=>simp[sts] at hs
 refine .quiet (d:=.ptr 2 p) (by rw[Cb];decide) (by kernel_rfl) (fun b s _=>e (by kernel_rfl) (Ahj p s)) ?_
 refine .eff (d:=.undef) (by rw[Cb];decide) (by kernel_rfl) (fun b s hs _=>?_) (en (by kernel_rfl))
 cases b with
 |false=>simp[sts] at hs;subst hs;exact⟨_,rfl,e (by kernel_rfl) (h11 _)⟩
 |true=>simp[sts] at hs;subst hs;exact⟨_,rfl,e (by kernel_rfl) (h11 _)⟩
theorem Mb:∀(l:List bc) (i:Nat) (x:bc) (s:Int),l[i]?=G x->(Ab (l.map eV)).set (i*2) (di s)=Ab ((l.set i (.mk s x.az)).map eV)
 |[],_,_,_,h=>by simp at h
 |y::l,0,x,s,h=>by
  simp at h;subst h
  rw[A8,set_cons_zero,A8];rfl
 |y::l,i+1,x,s,h=>by
  have h':l[i]?=G x:=by simpa using h
  rw[A8,IW,A8, ←Mb l i x s h',show(i+1)*2=i*2+2 by omega]
  rfl
theorem PX:∀(l:List bc) (i:Nat) (x:bc) (ys:List bc),l[i]?=G x->(Ab (l.map eV)).set (i*2+1) (cx ys)=Ab ((l.set i (.mk x.n ys)).map eV)
 |[],_,_,_,h=>by simp at h
 |y::l,0,x,s,h=>by
  simp at h;subst h
  rw[A8,set_cons_zero,A8];rfl
 |y::l,i+1,x,s,h=>by
  have h':l[i]?=G x:=by simpa using h
  rw[A8,IW,A8, ←PX l i x s h',show(i+1)*2+1=(i*2+1)+2 by omega]
  rfl
theorem YX(ws:List Int):ws.map lE=(ws.map lf).map eV:=by
 rw[List.map_map]
 refine List.map_congr_left fun x _=>?_
 show lE x=eV (lf x)
 rw[AE];rfl
def BL(l:List bc)(s0 x:bc)(s:Int)(i:Nat)(ws:List Int):List bc:=(l.set 0 (.mk s s0.az)).set i (.mk x.n (ws.map lf))
theorem Ll{e e1 e2:List D}{σ σ1 σ2:St}(h1:Cv e σ e1 σ1)(h2:Cv e1 σ1 e2 σ2):Cv e σ e2 σ2:=fun E g a w hf=>by
 obtain⟨g1,hf1⟩:=h1 E g a w hf
 exact h2 E g1 a w hf1
theorem Kp{σ:St}{p q i sz:Nat}{cs:List D}{xs:List V}(hsz:0<sz)(hp:σ.H[p]?=G (G cs))(hq:σ.H[q]?=G (G (Ab xs)))(hpq:p≠q)(hi:cs[i]?=G (.gro q (I xs) sz))(hx:∀x∈xs,x.size=sz)(e:List D):
  Cv e σ e ⟨(σ.H.set q none).set p (G (cs.set i (.v (.list xs)))),σ.own⟩:=by
 have hpl:=(HD.1 hp).1
 have hil:=(HD.1 hi).1
 have h1:Cv e σ e ⟨σ.H.set p (G (cs.set i (.arr q 0 (I xs)))),σ.own⟩:=Ec (σ:=σ) (q:=p) (cs:=cs) (cs':=cs.set i (.arr q 0 (I xs))) hp (fun g us hr=>by
  obtain⟨u,hu,hru⟩:=BF hr hi
  have:=CR hr i (d:=.arr q 0 (I xs)) (u:=u) (DS.rep .gro hru)
  rwa[DV hu] at this) (fun h c hc=>by
  rcases IE hc with h2|h2
  ·exact h c h2
  ·rw[h2];rfl) e
 have h2:=BP (σ:=⟨σ.H.set p (G (cs.set i (.arr q 0 (I xs)))),σ.own⟩) (p:=p) (q:=q) (i:=i) (cs:=cs.set i (.arr q 0 (I xs))) (xs:=xs) hsz (by simp[hpl]) (by rw[getElem?_set_ne hpq];exact hq) hpq (by simp[hil]) hx e
 have h3:=Ll h1 h2
 simp only[List.set_set] at h3
 rwa[List.set_comm _ _ hpq,List.set_set] at h3
abbrev pm(c:bc)(xs:List bc)(T:List (Option (List D))):St:=⟨[G [di 0,.v .nils],G [di c.n,.arr 2 0 (I c.az)],none,G [di c.n,cx xs]]++T,[]⟩
theorem Tr(c:bc)(xs:List bc)(L:List D)(hL:L=Ab (xs.map eV))(hx:I xs=I c.az)(T:List (Option (List D)))(e:List D):Cv e (B6 c L T) e (pm c xs T):=by
 have h:=BP (σ:=B6 c L T) (p:=3) (q:=2) (i:=1) (sz:=2) (cs:=[di c.n,.arr 2 0 (I c.az)]) (xs:=xs.map eV) (by decide) rfl (by rw[hL];rfl) (by decide) (by rw[H9,hx];rfl) (Ct _) e
 exact h
theorem Adw(c:bc)(xs:List bc)(L:List D)(p:Nat)(hp:p<I L)(ws:List Int)(hL:L.set p (.v (.list (ws.map lE)))=Ab (xs.map eV))(hx:I xs=I c.az)(e:List D):
  Cv e (B6 c (L.set p (.gro 4 (I ws) 2)) [G (Ab (ws.map lE))]) e (pm c xs [none]):=by
 have h:=Kp (σ:=B6 c (L.set p (.gro 4 (I ws) 2)) [G (Ab (ws.map lE))]) (p:=2) (q:=4) (i:=p) (sz:=2) (cs:=L.set p (.gro 4 (I ws) 2)) (xs:=ws.map lE) (by decide) rfl rfl (by decide) (by rw[getElem?_set_self hp,H9]) (fun y hy=>by obtain⟨x,_,rfl⟩:=Is.1 hy;rfl) e
 rw[List.set_set] at h
 exact Ll h (Tr c xs _ hL hx [none] e)
theorem S6{ρ τ:Nat->Nat}:∀(L:List D) (p:Nat) (d:D),D.pls L=J->D.rens ρ τ (L.set p d)=L.set p (d.ren ρ τ)
 |[],_,_,_=>by simp[D.rens]
 |x::L,0,d,h=>by
  simp only[D.pls,HB] at h
  rw[set_cons_zero,D.rens,AC h.2,set_cons_zero]
 |x::L,p+1,d,h=>by
  simp only[D.pls,HB] at h
  rw[IW,D.rens,S6 L p d h.2,XO x h.1,IW]
theorem SM{n:Nat}{ts:List Nat}:∀(L:List D) (p:Nat) (d:D),D.pls L=J->d.okN n ts=J->D.okNs n ts (L.set p d)=J
 |[],_,_,_,_=>by simp[D.okNs]
 |x::L,0,d,h,hd=>by
  simp only[D.pls,HB] at h
  rw[set_cons_zero,D.okNs,hd,AS h.2];rfl
 |x::L,p+1,d,h,hd=>by
  simp only[D.pls,HB] at h
  rw[IW,D.okNs,YC x h.1,SM L p d h.2 hd];rfl
noncomputable abbrev sy(p:Nat)(ws:List Int)(k:Nat):List D:=ba 46 [(8,.ptr 0 0),(9,.ptr 3 0),(10,.ptr 2 p),(28,cw ws),(29,di (I ws)),(30,di k)]
theorem W8{R:List D->St->Prop}{ks:List KI}(c:bc)(L F:List D)(hL:D.pls L=J)(hF:D.pls F=J)(p n:Nat)(ws:List Int)(k:Nat)
  (h:AB (CN 0) PP R ks (sy p ws k) (B6 c (L.set p (.gro 4 n 2)) [G F])):AB (CN 0) PP R ks (sy p ws k) (B6 c (L.set p (.gro 5 n 2)) [none,G F]):=by
 refine Ce (σ:=B6 c (L.set p (.gro 5 n 2)) [none,G F]) (e':=sy p ws k) (H':=(B6 c (L.set p (.gro 4 n 2)) [G F]).H) (m:=0) (fun _ _ h=>h.2) (fun i=>if i<4 then i else i+1) (Ik _) (fun i hi=>by omega) (fun i j _ _ h=>?_) (fun i cs hi=>?_) ?_ ?_ h
 ·have h:(if i<4 then i else i+1)=(if j<4 then j else j+1):=h
  split at h<;>split at h<;>omega
 ·match i,hi with
  |0,hi=>simp at hi;subst hi;exact⟨rfl,rfl⟩
  |1,hi=>simp at hi;subst hi;exact⟨rfl,rfl⟩
  |2,hi=>
   simp at hi;subst hi
   refine⟨?_,SM L p _ hL rfl⟩
   rw[S6 L p _ hL];rfl
  |3,hi=>simp at hi;subst hi;exact⟨rfl,rfl⟩
  |4,hi=>
   simp at hi;subst hi
   refine⟨?_,AS hF⟩
   rw[AC hF];rfl
  |i+5,hi=>simp at hi
 ·simp[ba,D.okNs,D.okN]
 ·simp[ba,D.rens,D.ren]
theorem Pe(d:D)(σ':St)(c:bc)(L:List D)(T:List (Option (List D)))(p:Nat)(ws:List Int)(x:Int)(k:Nat)(hk:k<=1000)(d36 d39 d41 d42:D)
  (h:Rn PP He 0 d σ' [kl B4 [1,1,1,1,1,0,1,0,0],.blk 0,kc B4 [1,1,1,1,1,1]] (sy p ws (k+1)) (B6 c L T)):
  Rn PP He 0 d σ' [.blk 1,kc B4 [1,1,1,1,1,0,1,0,0,1,1,1],kl B4 [1,1,1,1,1,0,1,0,0],.blk 0,kc B4 [1,1,1,1,1,1]] (ba 46 [(8,.ptr 0 0),(9,.ptr 3 0),(10,.ptr 2 p),(12,di x),(28,cw ws),(29,di (I ws)),(30,di k),(34,.ptr 2 p),(35,.ptr 2 p),(36,d36),(37,di x),(38,.v (lE x)),(39,d39),(40,.v (.list [zE])),(41,d41),(42,d42),(43,.ptr 2 p)]) (B6 c L T):=by
 have h0:Rn PP He 0 d σ' ([.blk 1,kc B4 [1,1,1,1,1,0,1,0,0,1,1,1],kl B4 [1,1,1,1,1,0,1,0,0],.blk 0,kc B4 [1,1,1,1,1,1]]++[]) (ba 46 [(8,.ptr 0 0),(9,.ptr 3 0),(10,.ptr 2 p),(12,di x),(28,cw ws),(29,di (I ws)),(30,di k)]) (B6 c L T):=by
  refine Ad0 mixed 46 [4] (.l [ke 8,ke 9,ke 10,ke 28,ke 29,ch 30 (di (k+1:Nat))]) ?_
  refine ey (by kernel_rfl:(di (yu yt ((k:Int)+1))=di (↑(k+1):Int)/\I0 He 0 d σ' [kl B4 [1,1,1,1,1,0,1,0,0],bh 0,kc B4 [1,1,1,1,1,1]] (ba 46 [(8,bq 0 0),(9,bq 3 0),(10,bq 2 p),(28,cw ws),(29,di (I ws:Int)),(30,di (↑(k+1):Int))]) (B6 c L T))=_) ?_
  exact⟨Ae,⟨h⟩⟩
 refine Rk (L:=[(8,.ptr 0 0),(9,.ptr 3 0),(10,.ptr 2 p),(12,di x),(28,cw ws),(29,di (I ws)),(30,di k)]) (L2:=[(34,.ptr 2 p),(35,.ptr 2 p),(36,d36),(37,di x),(38,.v (lE x)),(39,d39),(40,.v (.list [zE])),(41,d41),(42,d42),(43,.ptr 2 p)]) (fun q hq=>?_) h0
 simp only[Iq,Ji,or_false] at hq
 rcases hq with rfl|rfl|rfl|rfl|rfl|rfl|rfl|rfl|rfl|rfl<;>simp[ba]
theorem R9(l:List Int):I (Ab (l.map lE))=I l*2:=by rw[YX,AT,H9]
noncomputable abbrev te:=[kc B4 [1,1,1,1,1,0,1,0,0,1,1,0,0,1],bh 1,kc B4 [1,1,1,1,1,0,1,0,0,1,1,1],kl B4 [1,1,1,1,1,0,1,0,0],bh 0,kc B4 [1,1,1,1,1,1]]
noncomputable abbrev s9:=(B2 (sub B4 [1,1,1,1,1,0,1,0,0,1,1,0,0,0]))
theorem W9(c:bc)(xs:List bc)(L:List D)(hpl:D.pls L=J)(p:Nat)(hp:p<I L)(ws:List Int)(hw:I ws<=900)(hL:L.set p (.v (.list (ws.map lE)))=Ab (xs.map eV))(hx:I xs=I c.az)(n:Nat):∀k:Nat,I ws- (k+1)=n->k<I ws->
  Rn PP He 0 (dV (.mk c.n xs)) bd ([kl B4 [1,1,1,1,1,0,1,0,0],.blk 0,kc B4 [1,1,1,1,1,1]]++[]) (ba 46 [(8,.ptr 0 0),(9,.ptr 3 0),(10,.ptr 2 p),(28,cw ws),(29,di (I ws)),(30,di (k+1:Nat))]) (B6 c (L.set p (.gro 4 (k+1) 2)) [G (Ab ((ws.take (k+1)).map lE))]):=by
 induction n with
 |zero=>
  intro k hn hk
  refine lv 46 [4] (.f<|.h (.q 10 0)<|.h (.cs (pm c xs [none])) .r) (Y ((↑(k+1):Int)<(I ws:Int))=O/\(∀(e:List D) (E:cf) (g:Gh) (a:Act) (w:x5),FI E g (bi [G [di 0,dn],G [di c.n,bo 2 0 (I c.az)],G (List.set L p (bm 4 (k+1) 2)),G [di c.n,bo 2 0 (I c.az)],G (Ab (U lE (take (k+1) ws)))] []) e a w->∃g',FI E g' (pm c xs [none]) e a w)/\bt (ab [vi c.n,ai (U eV xs)])=dV (bc.mk c.n xs)) ?_
  have e:k+1=I ws:=by omega
  rw[e,Ic (HH _)]
  exact⟨yq,fun e=>Adw c xs L p hp ws hL hx e,rfl⟩
 |succ n ih=>
  intro k hn hk
  obtain⟨x,hx1⟩:=yk (show k+1<I ws by omega)
  refine lv 46 [4] (.t<|.x (vi x)<|.h (.q 7 2)<|.h (.s [ke 8,ke 9,ke 10,ke 28,ke 29,ke 30,ke 33]) .z) (Y ((↑(k+1):Int)<(I ws:Int))=J/\0<=(↑(k+1):Int)/\(U vi ws)[Z (↑(k+1):Int)]?=G (vi x)/\Nv.It (B8 (CN 0) PP (fun env σ1=>Az PP He env σ1 (dV (bc.mk c.n xs)) bd) te s9 (W 2 s9.toList) (ba 46 [(8,bq 0 0),(9,bq 3 0),(10,bq 2 p),(28,cw ws),(29,di (I ws:Int)),(30,di (↑(k+1):Int)),(33,di x)]) (B6 c (List.set L p (bm 4 (k+1) 2)) [G (Ab (U lE (take (k+1) ws)))]))) ⟨yr,by omega,Am hx1,⟨?_⟩⟩
  refine Oh (ks:=[]) (T:=[kc B4 [1,1,1,1,1,0,1,0,0,1,1,0,0,1],.blk 1,kc B4 [1,1,1,1,1,0,1,0,0,1,1,1],kl B4 [1,1,1,1,1,0,1,0,0],.blk 0,kc B4 [1,1,1,1,1,1]]) mixed (M5 0) 0 (fun _ _ h=>h.2) 46 [4] 7 2 (.l [ke 8,ke 9,ke 10,ch 12 (di x),ke 28,ke 29,ke 30]) ?_
  refine ey (by kernel_rfl:(Q (di x)/\I0 He 0 (dV (bc.mk c.n xs)) bd te (ba 46 [(8,bq 0 0),(9,bq 3 0),(10,bq 2 p),(12,di x),(28,cw ws),(29,di (I ws:Int)),(30,di (↑(k+1):Int))]) (B6 c (List.set L p (bm 4 (k+1) 2)) [G (Ab (U lE (take (k+1) ws)))]))=_) ?_
  have hk1:=(HD.1 hx1).1
  have ht:(ws.take (k+1+1)).map lE=(ws.take (k+1)).map lE++[lE x]:=by rw[IM (i:=k+1),hx1];simp
  have hfl:I (Ab ((ws.take (k+1)).map lE))=(k+1)*2:=by rw[R9,Ig];omega
  have hih:=ih (k+1) (by omega) hk1
  have hF:(Ab ((ws.take (k+1)).map lE)++[di 0,.v .nils]).take (0+Z ((k+1:Nat):Int)*2)++[di x,.v (.list [])]++(Ab ((ws.take (k+1)).map lE)++[di 0,.v .nils]).drop (0+Z ((k+1:Nat):Int)*2+2)=Ab ((ws.take (k+1+1)).map lE):=by
   rw[show 0+Z ((k+1:Nat):Int)*2=(k+1)*2 by omega,List.take_left' hfl,HU (by rw[HO,hfl];simp),Iz,ht]
   simp only[Ab,List.flatMap_append,IQ];rfl
  refine⟨rfl,⟨RZ c p L hp x (k+1) (.gro 4 (k+1) 2) [G (Ab ((ws.take (k+1)).map lE))] _ _ 5 (by simp) ws (k+1:Nat) (fun τ=>fb (.cons .gro .nil) (Ahh 4 (k+1) τ)) (AjY c _ _ (k+1) (by omega) hfl) (fun M=>AjX c M _ _ x (by rw[HO,hfl];simp only[HF,HJ];omega)) ?_⟩⟩
  refine Pe _ _ c _ _ p ws x (k+1) (by omega) _ _ _ _ ?_
  rw[hF]
  exact W8 c L _ hpl (A3 _) p (k+1+1) ws (k+1+1) hih
theorem VC{σ:St}{q i:Nat}{cs:List D}(hq:σ.H[q]?=G (G cs))(hi:cs[i]?=G (.v .nils))(e:List D):Cv e σ e ⟨σ.H.set q (G (cs.set i (.v (.list [])))),σ.own⟩:=
 Ec (σ:=σ) (q:=q) (cs:=cs) (cs':=cs.set i (.v (.list []))) hq (fun g us hr=>by
  obtain⟨u,hu,hru⟩:=BF hr hi
  have:=CR hr i (d:=.v (.list [])) (u:=u) (Ft hru)
  rwa[DV hu] at this) (fun h c hc=>by
  rcases IE hc with h2|h2
  ·exact h c h2
  ·rw[h2];rfl) e
theorem Lt{l:List bc}{s0 x:bc}{k:Nat}(h0:l[0]?=G s0)(hx:l[1+k]?=G x)(s:Int)(ws:List Int):
  ((Ab (l.map eV)).set 0 (di s)).set ((1+k)*2+1) (.v (.list (ws.map lE)))=Ab ((BL l s0 x s (1+k) ws).map eV):=by
 have h1:=Mb l 0 s0 s h0
 rw[Nat.zero_mul] at h1
 rw[h1,YX]
 exact PX _ (1+k) x _ (by rw[getElem?_set_ne (by omega)];exact hx)
theorem Y3(c:bc)(hn:c.az≠ [])(hc:c.size<=1000){o:yy}{cl:Call}{fo:x8}(ho:o.op=.call cl)(hc2:cl.callee=.value fo):Aj PP o [.v (.fn 249 [] []),dV c] ⟨[G [di 0,.v .nils]],[]⟩ (.dagg [di c.n,.arr 2 0 (I c.az)]) ⟨[G [di 0,.v .nils],G [di c.n,.arr 2 0 (I c.az)],G (Ab (c.az.map eV))],[]⟩:=by
 have h:=BX (σ:=⟨[G [di 0,.v .nils]],[]⟩) ho hc2 (fD:=.v (.fn 249 [] [])) rfl (ds:=[dV c]) [] id (ZM c hn (by omega)) (.cons (.ren (dc:=dV c) rfl) .nil) .nil (by simp) rfl (by simp) (by simp) (by simp[D.okN,D.okNs]) (by simp[cm,D.okN,D.okNs,Ak])
 have e1:D.rens (df 1 []) id (Ab (c.az.map eV))=Ab (c.az.map eV):=AC (A3 _)
 simpa[D7,CD,Ev,D.ren,D.rens,df,e1] using h
noncomputable abbrev qm:=fun a₀ b₀=>(bi [G [di 0,dn],G [di a₀,bo 2 0 (I b₀)],G (dv b₀)] [])
theorem Pg(c:bc)(hc:c.size<=1000)(s0 x:bc)(k:Nat)(h0:c.az[0]?=G s0)(hx:c.az[1+k]?=G x)(s:Int)(ws:List Int)(hw:I ws<=900):
  F0 227 [dV c,di s,di k,cw ws] (dV (.mk c.n (BL c.az s0 x s (1+k) ws))):=by
 have hk:=(HD.1 hx).1
 have hkl:=bc.length_le c.az
 have hks:=c.size_eq
 have hww:yt.wrap (1+(k:Int))=((1+k:Nat):Int):=by rw[Al];omega
 have hfl:I (Ab (c.az.map eV))=I c.az*2:=AT _
 have hp0:Nat.add (0+Z ((1+k:Nat):Int)*2) 1=(1+k)*2+1:=by show 0+Z ((1+k:Nat):Int)*2+1=_;omega
 have hne:c.az≠ []:=by intro e;rw[e] at h0;simp at h0
 have hxl:I (BL c.az s0 x s (1+k) ws)=I c.az:=by simp[BL]
 have hcl:=Lt h0 hx s ws
 have hw0:0<I c.az:=by omega
 cases ws with
 |nil=>
  refine sv He 46 [4] (.h (.oc (.dagg [di c.n,.arr 2 0 (I c.az)]) ⟨[G [di 0,.v .nils],G [di c.n,.arr 2 0 (I c.az)],G (Ab (c.az.map eV))],[]⟩)<|.h (.q 2 5)<|.w<|.h (.q 4 2)<|.w<|.n<|.f<|.h (.q 10 0)<|.h (.cs (pm c (BL c.az s0 x s (1+k) []) [])) .r) ((N0 [bt (bw 249 [] []),dV c] qt (bj [di c.n,bo 2 0 (I c.az)]) (qm c.n c.az))/\iz 0<=0/\0<(I c.az:Int)/\0<I (dv c.az)/\0<=yu yt (1+(k:Int))/\yu yt (1+(k:Int))<(I c.az:Int)/\Nat.add (0+Z (yu yt (1+(k:Int)))*2) 1<I (List.set (dv c.az) (Nat.add (0+Z 0*2) 0) (di s))/\Y (0<(I (U vi []):Int))=O/\(∀(e:List D) (E:cf) (g:Gh) (a:Act) (w:x5),FI E g (bi [G [di 0,dn],G [di c.n,bo 2 0 (I c.az)],G (List.set (List.set (dv c.az) (Nat.add (0+Z 0*2) 0) (di s)) (Nat.add (0+Z (yu yt (1+(k:Int)))*2) 1) (j8 [dV c,di s,di (k:Int),cw [],bt (f7 c),bk,bk,bk,bq (I bd.H) 0,bq (I (qm c.n c.az).H) 0,bq 2 (Nat.add (0+Z (yu yt (1+(k:Int)))*2) 1),bk,bk,dV c,bj [di c.n,bo 2 0 (I c.az)],bq (I (qm c.n c.az).H) (Nat.add 0 1),bo 2 0 (I c.az),di s,bq 2 (0+Z 0*2),bq 2 (Nat.add (0+Z 0*2) 0),bq (I (qm c.n c.az).H) (Nat.add 0 1),bo 2 0 (I c.az),di (k:Int),bt (aa yt (yu yt (1+(k:Int)))),bq 2 (0+Z (yu yt (1+(k:Int)))*2),bq 2 (Nat.add (0+Z (yu yt (1+(k:Int)))*2) 1),bq 2 (Nat.add (0+Z (yu yt (1+(k:Int)))*2) 1),bq 2 (Nat.add (0+Z (yu yt (1+(k:Int)))*2) 1),bk,bk,bk,bk,bk,bk,bk,bk,bk,bk,bk,bk,bk,bk,bk,bk,bk,bk] (Operand.const (Value.slice none 0 0)))),G [di c.n,bo 2 0 (I c.az)]] []) e a w->∃g',FI E g' (pm c (BL c.az s0 x s (1+k) []) []) e a w)/\bt (ab [vi c.n,ai (U eV (BL c.az s0 x s (1+k) []))])=dV (bc.mk c.n (BL c.az s0 x s (1+k) []))) ?_
  rw[hww,hp0]
  refine⟨fun o cl fo ho hc2=>Y3 c hne hc ho hc2,Ib _,by omega,by rw[hfl];omega,by omega,by omega,by rw[length_set,hfl];omega,rfl,fun e=>?_,rfl⟩
  refine Ll (VC (σ:=B6 c (((Ab (c.az.map eV)).set 0 (di s)).set ((1+k)*2+1) (.v .nils)) []) (q:=2) (i:=(1+k)*2+1) rfl (by rw[getElem?_set_self (by rw[length_set,hfl];omega)]) e) ?_
  rw[List.set_set]
  exact Tr c _ _ hcl hxl [] e
 |cons y ws=>
  refine sv He 46 [4] (.h (.oc (.dagg [di c.n,.arr 2 0 (I c.az)]) ⟨[G [di 0,.v .nils],G [di c.n,.arr 2 0 (I c.az)],G (Ab (c.az.map eV))],[]⟩)<|.h (.q 2 5)<|.w<|.h (.q 4 2)<|.w<|.n<|.t<|.x (vi y)<|.h (.q 7 2)<|.h (.s [ke 8,ke 9,ke 10,ke 28,ke 29,ke 30,ke 33]) .z) ((N0 [bt (bw 249 [] []),dV c] qt (bj [di c.n,bo 2 0 (I c.az)]) (qm c.n c.az))/\iz 0<=0/\0<(I c.az:Int)/\0<I (dv c.az)/\0<=yu yt (1+(k:Int))/\yu yt (1+(k:Int))<(I c.az:Int)/\Nat.add (0+Z (yu yt (1+(k:Int)))*2) 1<I (List.set (dv c.az) (Nat.add (0+Z 0*2) 0) (di s))/\Y (0<(I (U vi (y::ws)):Int))=J/\iz 0<=0/\Q (G (vi y))/\Nv.It (B8 (CN (I bd.H)) PP (fun env σ1=>Az PP He env σ1 (dV (bc.mk c.n (BL c.az s0 x s (1+k) (y::ws)))) bd) te s9 (W 2 s9.toList) (ba 46 [(8,bq 0 0),(9,bq 3 0),(10,bq 2 (Nat.add (0+Z (yu yt (1+(k:Int)))*2) 1)),(28,cw (y::ws)),(29,di (I (U vi (y::ws)):Int)),(30,di 0),(33,di y)]) (bi [G [di 0,dn],G [di c.n,bo 2 0 (I c.az)],G (List.set (List.set (dv c.az) (Nat.add (0+Z 0*2) 0) (di s)) (Nat.add (0+Z (yu yt (1+(k:Int)))*2) 1) (dn)),G [di c.n,bo 2 0 (I c.az)]] []))) ?_
  rw[hww,hp0]
  refine⟨fun o cl fo ho hc2=>Y3 c hne hc ho hc2,Ib _,by omega,by rw[hfl];omega,by omega,by omega,by rw[length_set,hfl];omega,HC (by simp only[H9,HF];omega),Ib _,rfl,⟨?_⟩⟩
  obtain⟨L,hL⟩:∃L,L=(Ab (c.az.map eV)).set 0 (di s):=⟨_,rfl⟩
  rw[←hL] at hcl
  have hpl:D.pls L=J:=by
   rw[hL]
   have h1:=Mb c.az 0 s0 s h0
   rw[Nat.zero_mul] at h1
   rw[h1];exact A3 _
  have hpL:(1+k)*2+1<I L:=by rw[hL,length_set,hfl];omega
  have hlp:=W9 c _ L hpl ((1+k)*2+1) hpL (y::ws) hw hcl hxl _ 0 rfl (by simp)
  have hst:bi [G [di 0,bt bv],G [di c.n,bo 2 0 (I c.az)],G (((Ab (c.az.map eV)).set (Nat.add (0+Z 0*2) 0) (di s)).set ((1+k)*2+1) (bt bv)),G [di c.n,bo 2 0 (I c.az)]] []=B6 c (L.set ((1+k)*2+1) (.v .nils)) []:=by rw[hL];rfl
  rw[hst]
  refine Oh (ks:=[]) (T:=[kc B4 [1,1,1,1,1,0,1,0,0,1,1,0,0,1],.blk 1,kc B4 [1,1,1,1,1,0,1,0,0,1,1,1],kl B4 [1,1,1,1,1,0,1,0,0],.blk 0,kc B4 [1,1,1,1,1,1]]) mixed (M5 0) 0 (fun _ _ h=>h.2) 46 [4] 7 2 (.l [ke 8,ke 9,ke 10,ch 12 (di y),ke 28,ch 29 (di (I (y::ws))),ch 30 (di (0:Nat))]) ?_
  refine ey (by kernel_rfl:(Q (di y)/\di (I (U vi (y::ws)):Int)=di (I (y::ws):Int)/\di 0=di (↑0:Int)/\I0 He 0 (dV (bc.mk c.n (BL c.az s0 x s (1+k) (y::ws)))) bd te (ba 46 [(8,bq 0 0),(9,bq 3 0),(10,bq 2 ((1+k)*2+1)),(12,di y),(28,bt (cz (y::ws))),(29,di (I (y::ws):Int)),(30,di (↑0:Int))]) (B6 c (List.set L ((1+k)*2+1) (dn)) []))=_) ?_
  refine⟨rfl,by rw[H9],rfl,⟨RZ c ((1+k)*2+1) L hpL y 0 (.v .nils) [] [G [di 0,.v .nils]] [G [di y,.v (.list [])]] 4 (by simp) (y::ws) (0:Nat) (fun τ=>Ahg τ) (Ahe c _) (fun M=>Ahc c M y) ?_⟩⟩
  exact Pe _ _ c _ _ ((1+k)*2+1) (y::ws) y 0 (by omega) _ _ _ _ hlp
noncomputable abbrev V3:=Tryz.f183
theorem L4:∀(l:List bc) (i:Nat) (x y:bc),l[i]?=G x->bc.sizes (l.set i y)+x.size=bc.sizes l+y.size
 |[],_,_,_,h=>by simp at h
 |z::l,0,x,y,h=>by
  simp at h;subst h
  rw[set_cons_zero,bc.sizes,bc.sizes];omega
 |z::l,i+1,x,y,h=>by
  have:=L4 l i x y (by simpa using h)
  rw[IW,bc.sizes,bc.sizes];omega
theorem AbK(ws:List Int):bc.sizes (ws.map lf)=I ws:=J1 ws
theorem JL{l:List bc}{s0 x:bc}{k:Nat}(h0:l[0]?=G s0)(hx:l[1+k]?=G x)(s:Int)(ws:List Int)(n:Int):(bc.mk n (BL l s0 x s (1+k) ws)).size<=1+bc.sizes l+I ws+1:=by
 have h1:=L4 l 0 s0 (.mk s s0.az) h0
 have h2:=L4 (l.set 0 (.mk s s0.az)) (1+k) x (.mk x.n (ws.map lf)) (by rw[getElem?_set_ne (by omega)];exact hx)
 have h3:(bc.mk n (BL l s0 x s (1+k) ws)).size=1+bc.sizes ((l.set 0 (.mk s s0.az)).set (1+k) (.mk x.n (ws.map lf))):=by rw[bc.size];rfl
 have h4:(bc.mk s s0.az).size=1+bc.sizes s0.az:=by rw[bc.size]
 have h5:(bc.mk x.n (ws.map lf)).size=1+bc.sizes (ws.map lf):=by rw[bc.size]
 have h6:=s0.size_eq
 have h7:=AbK ws
 have h8:=x.size_pos
 omega
abbrev ez:bc:=.mk 0 []
def GU(c:bc)(k:Nat)(s:Int)(w:List Int):bc:=.mk c.n (BL c.az (c.az.getD 0 ez) (c.az.getD (1+k) ez) s (1+k) w)
def wb(r:cp)(c:bc):Bool:=((c.az.getD 0 ez).n==r.aj)&&((r.act !=2)||(AR (c.az.getD (1+r.chan.toNat) ez)).head?==G r.letter)
def RM(t:cy)(r:cp)(c:bc):bc×Int:=
 if Ah t c=J then
  if wb r c=J then
   if (r.act==1)=J then
    if ((I (AR (c.az.getD (1+r.chan.toNat) ez)):Int)==12)=J then(ez,1) else(GU c r.chan.toNat r.to (AR (c.az.getD (1+r.chan.toNat) ez)++[r.letter]),0)
   else if (r.act==2)=J then(GU c r.chan.toNat r.to ((AR (c.az.getD (1+r.chan.toNat) ez)).drop 1),0) else(GU c r.chan.toNat r.to (AR (c.az.getD (1+r.chan.toNat) ez)),0)
  else(ez,18)
 else(ez,17)
theorem Q1{c s0 x:bc}{k:Nat}(h0:c.az[0]?=G s0)(hx:c.az[1+k]?=G x)(s:Int)(w:List Int):GU c k s w=.mk c.n (BL c.az s0 x s (1+k) w):=by
 simp only[GU,HI,h0,hx,IZ]
theorem T9(m:b9)(t:cy)(hm:la m t)(i:Nat)(r:cp)(hi:m.av[i]?=G r)(c:bc)(hs:c.size<=1000):(RM t r c).1.size<=1000/\F0 183 [Af m,di i,dV c] (dP (RM t r c)):=by
 have hir:=(HD.1 hi).1
 have hat:=AdM m t hm i hir c (by omega)
 have hfew:=hm.few
 rw[nv] at hat
 unfold RM
 by_cases hv:Ah t c=J
 ·rw[HV hv] at hat
  rw[HV hv]
  have hsh:=hm.shape c hv
  have hrc:=hm.rule r (HG hi)
  obtain⟨k,hk⟩:∃k:Nat,r.chan=k:=⟨r.chan.toNat,by omega⟩
  obtain⟨s0,h0⟩:∃x,c.az[0]?=G x:=⟨_,HA (by rw[hsh.len];omega)⟩
  obtain⟨x,hx⟩:∃x,c.az[1+k]?=G x:=⟨_,HA (by rw[hsh.len];omega)⟩
  have hx12:=hsh.word k x hx
  have hkl:I c.az<=1000000:=by rw[hsh.len];omega
  have hen:=Aae r c k hk s0 x h0 hx hkl (by omega)
  have hct:=Nq c k x hx hkl (by omega)
  have hwi:=fun ws hw=>Pg c hs s0 x k h0 hx r.to ws hw
  have hsz:=fun ws=>JL h0 hx r.to ws c.n
  have hcs:=c.size_eq
  have h128:=hsh.size
  rw[←hk] at hct hwi
  have hnl:I (AR x)<=12:=by rw[H9];exact hx12
  have ek:r.chan.toNat=k:=by rw[hk];rfl
  have e0:c.az.getD 0 ez=s0:=by rw[HI,h0];rfl
  have ex:c.az.getD (1+k) ez=x:=by rw[HI,hx];rfl
  unfold wb
  rw[ek,e0,ex]
  simp only[Q1 h0 hx]
  cases hb:((s0.n==r.aj)&&((r.act !=2)||(AR x).head?==G r.letter)) with
  |false=>
   rw[hb] at hen
   rw[HR (by decide)]
   refine⟨by decide,?_⟩
   exact sv V3 57 [3,5] (.c (di 0)<|.k<|.x (Ai r)<|.c (db O) .r) (_/\0<=(i:Int)/\(U Ai m.av)[Z (i:Int)]?=G (Ai r)/\_/\bl [bt l8,di 18]=dP (ez,18)) ⟨hat,by omega,Am hi,hen,rfl⟩
  |true=>
   rw[hb] at hen
   rw[HV rfl]
   by_cases h1:(r.act==1)=J
   ·rw[HV h1]
    by_cases h2:((I (AR x):Int)==12)=J
    ·rw[HV h2]
     refine⟨by decide,?_⟩
     exact sv V3 57 [3,5] (.c (di 0)<|.k<|.x (Ai r)<|.c (db J)<|.k<|.h (.ck 1 1 1 ((AR x).map vi))<|.t<|.t .r) (_/\0<=(i:Int)/\(U Ai m.av)[Z (i:Int)]?=G (Ai r)/\_/\_/\_/\((I (U vi (AR x)):Int)==12)=J/\bl [bt l8,di 1]=dP (ez,1)) ⟨hat,by omega,Am hi,hen,hct,h1,by rw[H9];exact h2,rfl⟩
    ·rw[HR h2]
     refine⟨?_,?_⟩
     ·have:=hsz (AR x++[r.letter])
      simp only[HO,HF,HJ] at this
      show(bc.mk c.n (BL c.az s0 x r.to (1+k) (AR x++[r.letter]))).size<=1000
      omega
     ·refine sv V3 57 [3,5] (.c (di 0)<|.k<|.x (Ai r)<|.c (db J)<|.k<|.h (.ck 1 1 1 ((AR x).map vi))<|.t<|.f<|.c (dV (.mk c.n (BL c.az s0 x r.to (1+k) (AR x++[r.letter])))) .r) (F0 224 [Af m,di (i:Int),dV c] (di 0)/\0<=(i:Int)/\(U Ai m.av)[Z (i:Int)]?=G (Ai r)/\F0 225 [Cu r,dV c] (db J)/\Aa PP 226 [dV c,di r.chan] dh (br 1 (U vi (AR x))) (bi [] [(1,1,U vi (AR x))])/\(r.act==1)=J/\((I (U vi (AR x)):Int)==12)=O/\Q (U vi (AR x))/\Ao (I (U vi (AR x))+I (vi r.letter::nV)) 8/\F0 227 [dV c,di r.to,di r.chan,bt (ai (U vi (AR x)++[vi r.letter]))] (dV (bc.mk c.n (BL c.az s0 x r.to (1+k) (AR x++[r.letter]))))/\bl [bt (ab [vi (bc.n (bc.mk c.n (BL c.az s0 x r.to (1+k) (AR x++[r.letter])))),ai (U eV (bc.az (bc.mk c.n (BL c.az s0 x r.to (1+k) (AR x++[r.letter])))))]),di 0]=dP (bc.mk c.n (BL c.az s0 x r.to (1+k) (AR x++[r.letter])),0)) ?_
      have hw:=hwi (AR x++[r.letter]) (by simp only[HO,HF,HJ];omega)
      have e:(AR x).map vi++[vi r.letter]=(AR x++[r.letter]).map vi:=by simp
      rw[e]
      exact⟨hat,by omega,Am hi,hen,hct,h1,by rw[H9];exact HM h2,rfl,⟨by simp only[H9,HF,HJ] at*;omega,by simp only[H9,HF,HJ] at*;omega⟩,hw,rfl⟩
   ·rw[HR h1]
    by_cases h2:(r.act==2)=J
    ·rw[HV h2]
     have hn:1<=I (AR x):=by
      cases hn:AR x with
      |nil=>rw[hn] at hb;simp_all
      |cons y ys=>simp
     obtain⟨W,hW⟩:∃W,W=AR x:=⟨_,rfl⟩
     rw[←hW] at hct hn hnl⊢
     refine⟨?_,?_⟩
     ·have:=hsz (W.drop 1)
      rw[IF] at this
      show(bc.mk c.n (BL c.az s0 x r.to (1+k) (W.drop 1))).size<=1000
      omega
     ·refine sv V3 57 [3,5] (.c (di 0)<|.k<|.x (Ai r)<|.c (db J)<|.k<|.h (.ck 1 1 1 (W.map vi))<|.f<|.t<|.c (dV (.mk c.n (BL c.az s0 x r.to (1+k) (W.drop 1)))) .r) (F0 224 [Af m,di (i:Int),dV c] (di 0)/\0<=(i:Int)/\(U Ai m.av)[Z (i:Int)]?=G (Ai r)/\F0 225 [Cu r,dV c] (db J)/\Aa PP 226 [dV c,di r.chan] dh (br 1 (U vi W)) (bi [] [(1,1,U vi W)])/\(r.act==1)=O/\(r.act==2)=J/\(∀(x:V),x∈U vi W->V.size x=1)/\0<=(1:Int)/\(1:Int)<=(I (U vi W):Int)/\F0 227 [dV c,di r.to,di r.chan,bt (ai (List.drop (Z ((1:Int))) (take (I (U vi W)) (U vi W))))] (dV (bc.mk c.n (BL c.az s0 x r.to (1+k) (List.drop 1 W))))/\bl [bt (ab [vi (bc.n (bc.mk c.n (BL c.az s0 x r.to (1+k) (List.drop 1 W)))),ai (U eV (bc.az (bc.mk c.n (BL c.az s0 x r.to (1+k) (List.drop 1 W)))))]),di 0]=dP (bc.mk c.n (BL c.az s0 x r.to (1+k) (List.drop 1 W)),0)) ?_
      have e:List.drop (Z (1:Int)) (take (I (W.map vi)) (W.map vi))=(W.drop 1).map vi:=by rw[Ic (HH _),List.map_drop];rfl
      rw[e]
      exact⟨hat,by omega,Am hi,hen,hct,HM h1,h2,fun y hy=>by obtain⟨z,_,rfl⟩:=Is.1 hy;rfl,by omega,by rw[H9];omega,hwi (W.drop 1) (by rw[IF];omega),rfl⟩
    ·rw[HR h2]
     refine⟨?_,?_⟩
     ·have:=hsz (AR x)
      show(bc.mk c.n (BL c.az s0 x r.to (1+k) (AR x))).size<=1000
      omega
     ·exact sv V3 57 [3,5] (.c (di 0)<|.k<|.x (Ai r)<|.c (db J)<|.k<|.h (.ck 1 1 1 ((AR x).map vi))<|.f<|.f<|.c (dV (.mk c.n (BL c.az s0 x r.to (1+k) (AR x)))) .r) (_/\0<=(i:Int)/\(U Ai m.av)[Z (i:Int)]?=G (Ai r)/\_/\_/\(r.act==1)=O/\(r.act==2)=O/\_/\bl [bt (ab [vi (bc.n (bc.mk c.n (BL c.az s0 x r.to (1+k) (AR x)))),ai (U eV (bc.az (bc.mk c.n (BL c.az s0 x r.to (1+k) (AR x)))))]),di 0]=dP (bc.mk c.n (BL c.az s0 x r.to (1+k) (AR x)),0)) ⟨hat,by omega,Am hi,hen,hct,HM h1,HM h2,hwi (AR x) (by omega),rfl⟩
 ·rw[HR hv] at hat
  rw[HR hv]
  refine⟨by decide,?_⟩
  exact sv V3 57 [3,5] (.c (di 17) .r) (_/\bl [bt l8,di 17]=dP (ez,17)) ⟨hat,rfl⟩
section
variable {α : Type} {c : α -> α -> Int}
abbrev je:α->Prop:=fun _=>True
abbrev jz(c:α->α->Int)(l:List α):Prop:=l.Pairwise fun a b=>c a b<0
theorem Aao(h:iy c je)(x:α):¬c x x<0:=by rw[h.refl x trivial];omega
theorem Ajz(h:iy c je){x y:α}(h1:c x y<0):¬c y x<0:=fun h2=>Aao h x (h.trans x y x trivial trivial trivial h1 h2)
theorem JJ(h:iy c je){l:List α}(ha:jz c l):l.Nodup:=ha.imp fun{a b} hab e=>by subst e;exact Aao h a hab
theorem RO(h:iy c je){l k:List α}(ha:jz c l)(hb:jz c k)(hm:∀x,x∈l↔x∈k):l=k:=
 List.Perm.eq_of_pairwise (fun a b _ _ h1 h2=>absurd h2 (Ajz h h1)) ha hb ((List.perm_ext_iff_of_nodup (JJ h ha) (JJ h hb)).2 hm)
theorem Aan(h:iy c je){k:List α}(hs:k.Pairwise fun a b=>c a b<=0)(hn:k.Nodup):jz c k:=
 (hs.and hn).imp fun{a b} hab=>by
  have:=h.eq a b trivial trivial
  rcases Int.lt_or_eq_of_le hab.1 with h1|h1
  ·exact h1
  ·exact absurd (this h1) hab.2
def BQ(q:α->α->Bool):α->List α->List α
 |_,[]=>[]
 |p,x::r=>if q x p=J then BQ q x r else x::BQ q x r
def AP(q:α->α->Bool):List α->List α
 |[]=>[]
 |x::r=>x::BQ q x r
theorem Ks(q:α->α->Bool):∀(l:List α) (p x:α),x∈BQ q p l->x∈l
 |[],_,_,h=>by simp[BQ] at h
 |y::l,p,x,h=>by
  unfold BQ at h
  split at h
  ·exact List.mem_cons_of_mem _ (Ks q l y x h)
  ·rcases Iq.1 h with rfl|h
   ·simp
   ·exact List.mem_cons_of_mem _ (Ks q l y x h)
theorem da{l:List α}{i:Nat}{x:α}(h:l[i]?=G x):l.drop i=x::l.drop (i+1):=by
 obtain⟨h1,h2⟩:=HD.1 h
 rw[HP h1,h2]
theorem Jz{l:List α}{k:Nat}{x:α}(h:k<I l):(l.set k x).take (k+1)=l.take k++[x]:=by
 rw[IM,getElem?_set_self h,List.take_set_of_le (HH _)];rfl
theorem JD(q:α->α->Bool){l:List α}(h:I l<2):AP q l=l:=by
 match l,h with
 |[],_=>rfl
 |[_],_=>rfl
theorem Mp{q:α->α->Bool}{l:List α}{p:α}(h:l[1-1]?=G p):l.take 1++BQ q p (l.drop 1)=AP q l:=by
 cases l with
 |nil=>simp at h
 |cons x l=>simp at h;subst h;rfl
theorem RE{q:α->α->Bool}{l:List α}{x:α}(h:x∈AP q l):x∈l:=by
 cases l with
 |nil=>simp[AP] at h
 |cons y l=>
  rcases Iq.1 h with rfl|h
  ·simp
  ·exact List.mem_cons_of_mem _ (Ks q l y x h)
theorem Nt(q:α->α->Bool):∀(l:List α) (p:α),I (BQ q p l)<=I l
 |[],_=>HH _
 |y::l,p=>by
  have:=Nt q l y
  unfold BQ;split<;>simp only[HF]<;>omega
theorem Mq(q:α->α->Bool)(l:List α):I (AP q l)<=I l:=by
 cases l with
 |nil=>exact HH _
 |cons y l=>have:=Nt q l y;simp only[AP,HF];omega
theorem Nu(h:iy c je){q:α->α->Bool}(hq:∀x y,q x y=J↔x=y):∀(l:List α) (p:α),(p::l).Pairwise (fun a b=>c a b<=0)->jz c (p::BQ q p l)/\∀x,(x=p∨x∈BQ q p l)↔(x=p∨x∈l)
 |[],p,_=>⟨by simp[BQ],fun x=>by simp[BQ]⟩
 |y::l,p,hs=>by
  have hp:=pairwise_cons.1 hs
  obtain⟨a1,a2⟩:=Nu h hq l y hp.2
  unfold BQ
  by_cases e:y=p
  ·subst e
   rw[HV ((hq y y).2 rfl)]
   exact⟨a1,fun x=>by rw[a2 x];simp⟩
  ·rw[HR (fun he=>e ((hq y p).1 he))]
   have h1:c p y<0:=by
    rcases Int.lt_or_eq_of_le (hp.1 y (by simp)) with h1|h1
    ·exact h1
    ·exact absurd (h.eq p y trivial trivial h1).symm e
   refine⟨pairwise_cons.2 ⟨fun b hb=>?_,a1⟩,fun x=>?_⟩
   ·rcases Iq.1 hb with rfl|hb
    ·exact h1
    ·exact h.trans p y b trivial trivial trivial h1 ((pairwise_cons.1 a1).1 b hb)
   ·rw[Iq,Iq,a2 x]
theorem Mr(h:iy c je){q:α->α->Bool}(hq:∀x y,q x y=J↔x=y){l:List α}(hs:l.Pairwise fun a b=>c a b<=0):jz c (AP q l)/\∀x,x∈AP q l↔x∈l:=by
 cases l with
 |nil=>exact⟨.nil,fun x=>Iff.rfl⟩
 |cons p l=>
  obtain⟨a1,a2⟩:=Nu h hq l p hs
  exact⟨a1,fun x=>by simp only[AP,Iq];exact a2 x⟩
def CO(c:α->α->Int):List α->α->List α
 |[],v=>[v]
 |x::l,v=>if c x v<0 then x::CO c l v else if c x v=0 then x::l else v::x::l
theorem SB(h:iy c je)(v:α):∀l:List α,jz c l->jz c (CO c l v)/\∀x,x∈CO c l v↔(x∈l∨x=v)
 |[],_=>⟨List.pairwise_singleton _ _,fun x=>by simp[CO]⟩
 |y::l,ha=>by
  have hp:=pairwise_cons.1 ha
  obtain⟨a1,a2⟩:=SB h v l hp.2
  unfold CO
  by_cases h1:c y v<0
  ·rw[HV h1]
   refine⟨pairwise_cons.2 ⟨fun b hb=>?_,a1⟩,fun x=>?_⟩
   ·rcases(a2 b).1 hb with hb|rfl
    ·exact hp.1 b hb
    ·exact h1
   ·rw[Iq,Iq,a2 x,or_assoc]
  ·rw[HR h1]
   by_cases h2:c y v=0
   ·rw[HV h2]
    have:=h.eq y v trivial trivial h2
    subst this
    exact⟨ha,fun x=>⟨.inl,fun hx=>hx.elim id fun e=>by rw[e];exact List.mem_cons_self⟩⟩
   ·rw[HR h2]
    have h3:c v y<0:=by
     have:=(h.swap v y trivial trivial)
     exact this.2 (by omega)
    refine⟨pairwise_cons.2 ⟨fun b hb=>?_,ha⟩,fun x=>?_⟩
    ·rcases Iq.1 hb with rfl|hb
     ·exact h3
     ·exact h.trans v y b trivial trivial trivial h3 (hp.1 b hb)
    ·rw[Iq];exact Or.comm
end
theorem Hb(l:List (List Int)):Ab (l.map cz)=l.map fun w=>bt (cz w):=by
 induction l with
 |nil=>rfl
 |cons x l ih=>show bt (cz x)::Ab (l.map cz)=_;rw[ih];rfl
theorem Pa(l:List (List Int)):I (Ab (l.map cz))=I l*1:=by rw[Hb,H9];omega
theorem Fm{l:List (List Int)}{i:Nat}{x:List Int}(h:l[i]?=G x):(Ab (l.map cz))[i]?=G (bt (cz x)):=by rw[Hb,Ir,h];rfl
theorem Aee(l:List (List Int))(k:Nat):(Ab (l.map cz)).take (k*1)=Ab ((l.take k).map cz):=by rw[Hb,Hb,Nat.mul_one,List.map_take]
theorem Aa5(l:List (List Int))(k:Nat)(x:List Int)(_:k<I l):(Ab (l.map cz)).set k (bt (cz x))=Ab ((l.set k x).map cz):=by rw[Hb,Hb,List.map_set]
theorem Aef(k:Nat):(((replicate k [bv]).flatten.map bt).all D.one)=J:=by
 induction k with
 |zero=>rfl
 |succ k ih=>simp only[I4,IY,IQ,List.all_append,ih];rfl
theorem M2(l:List (List Int)):(Ab (l.map cz)).all D.one=J:=by
 rw[Hb,Iw]
 intro x hx
 obtain⟨w,_,rfl⟩:=Is.1 hx
 rfl
theorem X6:Cd PP 156=G (27,1,24,G (.slice none 0 0)):=by kernel_rfl
theorem M1(l:List V){R:List D}(h:D.pls R=J):D.pls (Ab l++R)=J:=by rw[Dc,A3,h];rfl
noncomputable abbrev Zx:=Tryz.f263
noncomputable def EJ:=yl Zx
noncomputable abbrev wm:=[kl EJ [1,1,0,1,0,0,1,0,0,1,0,1,0,1,0,0],bh 2,kc EJ [1,1,0,1,0,0,1,0,0,1,0,1,1],bh 1,kc EJ [1,1,0,1,0,0,1,1],kl EJ d5,bh 0,kc EJ [1,1,1]]
noncomputable abbrev fk:=fun a₀=>(Ab (U cz a₀))
noncomputable abbrev jq:=fun a₀=>(bi [G (fk a₀)] [])
noncomputable abbrev lz:=fun a₀ b₀=>(bi [G (Ab (U cz a₀)++b₀)] [])
theorem AjF(F:yx)(l:List (List Int))(q:(List Int)->(List Int)->Bool)(hl:I l<=1000)(hq:∀x∈l,∀y∈l,F0 F [.v (cz x),.v (cz y)] (db (q x y)))(k0:Nat)(h0:1<=k0)(h1:k0<I l)(n:Nat):∀(k j:Nat) (A:List (List Int)),I l-k0-j=n->1<=k->1<=j->k<k0+j->j<=I l-k0->I A=I l->(∀x∈A,x∈l)->(∀i:Nat,k0+j-1<=i->A[i]?=l[i]?)->(∀p,l[k0+j-1]?=G p->A.take k++BQ q p (l.drop (k0+j))=AP q l)->
  ∃(ys:List (List Int)) (R:List D),ys=AP q l/\D.pls R=J/\R.all D.one=J/\Rn PP Zx 1 (.arr 0 0 (I ys)) ⟨[G (Ab (ys.map cz)++R)],[]⟩ ([kl EJ [1,1,0,1,0,0,1,0,0,1,0,1,0,1,0,0],.blk 2,kc EJ [1,1,0,1,0,0,1,0,0,1,0,1,1],.blk 1,kc EJ [1,1,0,1,0,0,1,1],kl EJ [1,1,0,1,0,0],.blk 0,kc EJ [1,1,1]]++[]) (ba 66 [(0,.arr 0 0 (I l)),(1,dfn F),(5,di k),(6,.arr 0 (k0*1) (I l-k0)),(7,di j)]) ⟨[G (Ab (A.map cz))],[]⟩:=by
 induction n with
 |zero=>
  intro k j A hn hk hj hkj hjl hA hAl hAe hT
  refine⟨A.take k,(replicate (I l-k) [bv]).flatten.map .v,?_,?_,?_,?_⟩
  ·obtain⟨p,hp⟩:∃p,l[k0+j-1]?=G p:=⟨_,HA (by omega)⟩
   have:=hT p hp
   rw[HU (by omega),BQ,Iz] at this
   exact this
  ·exact BY _
  ·exact Aef _
  have hkl:k<I l:=by omega
  have hsl:∀(o:yy) (x:x8) (y:x8) (τ:St),o.op=.slice 156 x (G y) none none->Aj PP o [.arr 0 0 (I l),di k] τ (.arr 0 (k*1) (I l-k)) τ:=fun o x y τ ho=>by
   have:=CJ (P:=PP) (o:=o) (σ:=τ) ho X6 (q:=0) (off:=0) (len:=I l) (G (.i64,(k:Int))) none rfl rfl (l':=k) (h':=I l) (by simp[Cn];omega) hkl
   rwa[Iv] at this
  have hsh:∀(o:yy) (x:x8) (y:x8) (τ:St),o.op=.slice 156 x none (G y) none->Aj PP o [.arr 0 0 (I l),di k] τ (.arr 0 0 k) τ:=fun o x y τ ho=>by
   have:=CJ (P:=PP) (o:=o) (σ:=τ) ho X6 (q:=0) (off:=0) (len:=I l) none (G (.i64,(k:Int))) rfl rfl (l':=0) (h':=k) (by simp[Cn];omega) (by omega)
   rwa[Nat.zero_mul,I8,Nat.sub_zero] at this
  have hfl:I (Ab (A.map cz))=I l*1:=by rw[Pa,hA]
  have hcl:=fun(o:yy) (x:x8) (ho:o.op=.call { callee:=.builtin .clear,args:= #[x],argTypes:= #[156]})=>LM (P:=PP) (o:=o) (σ:=⟨[G (Ab (A.map cz))],[]⟩) ho X6 (zs:=[.nils]) rfl rfl (q:=0) (off:=k*1) (len:=I l-k) rfl (by omega) (by rw[hfl];omega)
  have hd:(Ab (A.map cz)).drop (k*1+(I l-k)*1)=[]:=HU (by rw[hfl];omega)
  have htk:(Ab (A.map cz)).take (k*1)=Ab ((A.take k).map cz):=Aee A k
  rw[hd,htk,Iz] at hcl
  refine lv 66 [] (.f<|.h (.q 14 2)<|.h (.o (.arr 0 (k*1) (I l-k)) ⟨[G (Ab (A.map cz))],[]⟩)<|.h (.o (.tup []) ⟨[G (Ab ((A.take k).map cz)++(replicate (I l-k) [bv]).flatten.map .v)],[]⟩)<|.h (.q 15 2)<|.h (.o (.arr 0 0 k) ⟨[G (Ab ((A.take k).map cz)++(replicate (I l-k) [bv]).flatten.map .v)],[]⟩) .ro) (Y ((j:Int)<(↑(I l-k0):Int))=O/\Aj PP (Oper.mk (G 61) (Op.slice 156 (Operand.tmp 59) (G (Operand.tmp 60)) none none) 156 "slices.go:410" #[Edge.mk 0 Ground.data,Edge.mk 1 Ground.data] none) [bo 0 0 (I l),di (k:Int)] (jq A) (bo 0 (k*1) (I l-k)) (jq A)/\Aj PP (Oper.mk none (Op.call (Call.mk (Callee.builtin Builtin.clear) #[Operand.tmp 61] #[156])) 0 "slices.go:410" #[Edge.mk 2 Ground.data] none) [bo 0 (k*1) (I l-k)] (jq A) (bl []) (bi [G (Ab (U cz (take k A))++U bt (flatten (replicate (I l-k) [bv])))] [])/\Aj PP (Oper.mk (G 64) (Op.slice 156 (Operand.tmp 62) none (G (Operand.tmp 63)) none) 156 "slices.go:411" #[Edge.mk 0 Ground.data,Edge.mk 1 Ground.data] none) [bo 0 0 (I l),di (k:Int)] (bi [G (Ab (U cz (take k A))++U bt (flatten (replicate (I l-k) [bv])))] []) (bo 0 0 k) (bi [G (Ab (U cz (take k A))++U bt (flatten (replicate (I l-k) [bv])))] [])/\cm 1 [] [G (Ab (U cz (take k A))++U bt (flatten (replicate (I l-k) [bv])))]=J/\Q [G (Ab (U cz (take k A))++U bt (flatten (replicate (I l-k) (bv::nV))))]/\bo 0 0 k=bo 0 0 (I (take k A))) ⟨yq,hsl _ _ _ _ rfl,hcl _ _ rfl,hsh _ _ _ _ rfl,?_,rfl,by rw[Ig,hA,Nat.min_eq_left (by omega)]⟩
  exact HS.2 ⟨AS (M1 _ (BY _)),rfl⟩
 |succ n ih=>
  intro k j A hn hk hj hkj hjl hA hAl hAe hT
  obtain⟨x,hx⟩:=yk (show k0+j<I A by omega)
  obtain⟨y,hy⟩:=yk (show k0+j-1<I A by omega)
  have hc:=hq x (hAl x (HG hx)) y (hAl y (HG hy))
  have hw1:yt.wrap ((j:Int)-1)=((j-1:Nat):Int):=by rw[Al];omega
  have hT':=hT y (by rw[←hAe _ (HH _)];exact hy)
  have hx':l[k0+j]?=G x:=by rw[←hAe _ (by omega)];exact hx
  rw[da hx',BQ] at hT'
  cases hb:q x y with
  |true=>
   rw[hb] at hc
   obtain⟨ys,R,r1,r3,r5,r4⟩:=ih k (j+1) A (by omega) hk (by omega) (by omega) (by omega) hA hAl (fun i hi=>hAe i (by omega)) (fun p hp=>by
    have e:x=p:=HZ (hx'.symm.trans hp)
    rw[hb,HV rfl,e] at hT';exact hT')
   refine⟨ys,R,r1,r3,r5,?_⟩
   refine lv 66 [] (.t<|.m (.v (cz x))<|.m (.v (cz y))<|.c (db J)<|.lo [ke 0,ke 1,ke 5,ke 6,ch 7 (di (j+1:Nat))] ⟨[G (Ab (A.map cz))],[]⟩) (Y ((j:Int)<(↑(I l-k0):Int))=J/\0<=(j:Int)/\(j:Int)<(↑(I l-k0):Int)/\(fk A)[k0*1+Z (j:Int)*1]?=G (cw x)/\0<=yu yt ((j:Int)-1)/\yu yt ((j:Int)-1)<(↑(I l-k0):Int)/\(fk A)[k0*1+Z (yu yt ((j:Int)-1))*1]?=G (cw y)/\F0 F [cw x,cw y] (db J)/\yo/\di (yu yt ((j:Int)+1))=di (↑(j+1):Int)/\cm 1 [] [G (fk A)]=J/\Q [G (fk A)]/\I0 Zx 1 (bo 0 0 (I ys)) (lz ys R) wm (ba 66 [(0,bo 0 0 (I l)),(kz F),(5,di (k:Int)),(6,bo 0 (k0*1) (I l-k0)),(7,di (↑(j+1):Int))]) (jq A)) ?_
   rw[hw1]
   refine⟨yr,by omega,by omega,by rw[show k0*1+Z (j:Int)*1=k0+j by omega];exact Fm hx,by omega,by omega,by rw[show k0*1+Z ((j-1:Nat):Int)*1=k0+j-1 by omega];exact Fm hy,hc,ym,Ae,HS.2 ⟨Ak 1 [] _,rfl⟩,rfl,⟨r4⟩⟩
  |false=>
   rw[hb] at hc
   have hA2:∀z∈A.set k x,z∈l:=fun z hz=>by
    rcases IE hz with h|h
    ·exact hAl z h
    ·rw[h];exact hAl x (HG hx)
   obtain⟨ys,R,r1,r3,r5,r4⟩:=ih (k+1) (j+1) (A.set k x) (by omega) (by omega) (by omega) (by omega) (by omega) (by rw[length_set];exact hA) hA2 (fun i hi=>by rw[getElem?_set_ne (by omega)];exact hAe i (by omega)) (fun p hp=>by
    have e:x=p:=HZ (hx'.symm.trans hp)
    rw[hb,HR (by decide)] at hT'
    rw[Jz (by omega),IG,List.singleton_append, ←e];exact hT')
   refine⟨ys,R,r1,r3,r5,?_⟩
   refine lv 66 [] (.t<|.m (.v (cz x))<|.m (.v (cz y))<|.c (db O)<|.m (.v (cz x))<|.w<|.lo [ke 0,ke 1,ch 5 (di (k+1:Nat)),ke 6,ch 7 (di (j+1:Nat))] ⟨[G (Ab ((A.set k x).map cz))],[]⟩) (Y ((j:Int)<(↑(I l-k0):Int))=J/\0<=(j:Int)/\(j:Int)<(↑(I l-k0):Int)/\(fk A)[k0*1+Z (j:Int)*1]?=G (cw x)/\0<=yu yt ((j:Int)-1)/\yu yt ((j:Int)-1)<(↑(I l-k0):Int)/\(fk A)[k0*1+Z (yu yt ((j:Int)-1))*1]?=G (cw y)/\F0 F [cw x,cw y] (db O)/\yo/\0<=(j:Int)/\(j:Int)<(↑(I l-k0):Int)/\(fk A)[k0*1+Z (j:Int)*1]?=G (cw x)/\0<=(k:Int)/\(k:Int)<(I l:Int)/\0+Z (k:Int)*1<I (fk A)/\di (yu yt ((k:Int)+1))=di (↑(k+1):Int)/\di (yu yt ((j:Int)+1))=di (↑(j+1):Int)/\cm 1 [] [G (List.set (fk A) (0+Z (k:Int)*1) (cw x))]=J/\[G (List.set (fk A) (0+Z (k:Int)*1) (cw x))]=[G (Ab (U cz (List.set A k x)))]/\I0 Zx 1 (bo 0 0 (I ys)) (lz ys R) wm (ba 66 [(0,bo 0 0 (I l)),(kz F),(5,di (↑(k+1):Int)),(6,bo 0 (k0*1) (I l-k0)),(7,di (↑(j+1):Int))]) (bi [G (Ab (U cz (List.set A k x)))] [])) ?_
   rw[hw1]
   refine⟨yr,by omega,by omega,by rw[show k0*1+Z (j:Int)*1=k0+j by omega];exact Fm hx,by omega,by omega,by rw[show k0*1+Z ((j-1:Nat):Int)*1=k0+j-1 by omega];exact Fm hy,hc,ym,by omega,by omega,by rw[show k0*1+Z (j:Int)*1=k0+j by omega];exact Fm hx,by omega,by omega,by rw[Pa];omega,Ae,Ae,?_,?_,⟨r4⟩⟩
   ·rw[show 0+Z (k:Int)*1=k by omega,Aa5 A k x (by omega)]
    exact HS.2 ⟨Ak 1 [] _,rfl⟩
   ·rw[show 0+Z (k:Int)*1=k by omega,Aa5 A k x (by omega)]
theorem Ag1(F:yx)(l:List (List Int))(q:(List Int)->(List Int)->Bool)(hl:I l<=1000)(hq:∀x∈l,∀y∈l,F0 F [.v (cz x),.v (cz y)] (db (q x y)))(n:Nat):∀(k:Nat),I l-k=n->1<=k->k<=I l->(∀p,l[k-1]?=G p->l.take k++BQ q p (l.drop k)=AP q l)->
  ∃(ys:List (List Int)) (R:List D),ys=AP q l/\D.pls R=J/\R.all D.one=J/\Rn PP Zx 1 (.arr 0 0 (I ys)) ⟨[G (Ab (ys.map cz)++R)],[]⟩ ([kl EJ [1,1,0,1,0,0],.blk 0,kc EJ [1,1,1]]++[]) (ba 66 [(0,.arr 0 0 (I l)),(1,dfn F),(5,di k)]) ⟨[G (Ab (l.map cz))],[]⟩:=by
 induction n with
 |zero=>
  intro k hn hk hkl hT
  refine⟨l,[],?_,rfl,rfl,?_⟩
  ·obtain⟨p,hp⟩:∃p,l[k-1]?=G p:=⟨_,HA (by omega)⟩
   have:=hT p hp
   rw[HU (by omega),BQ,Iz,Ic (by omega)] at this
   exact this
  exact lv 66 [] (.f .ro) (Y ((k:Int)<(I l:Int))=O/\cm 1 [] [G (fk l)]=J/\[G (fk l)]=[G (Ab (U cz l)++[])]/\Q (bo 0 0 (I l))) ⟨yq,HS.2 ⟨Ak 1 [] _,rfl⟩,by rw[Iz],rfl⟩
 |succ n ih=>
  intro k hn hk hkl' hT
  obtain⟨x,hx⟩:=yk (show k<I l by omega)
  obtain⟨y,hy⟩:=yk (show k-1<I l by omega)
  have hc:=hq x (HG hx) y (HG hy)
  have hkl:k<I l:=by omega
  have hw1:yt.wrap ((k:Int)-1)=((k-1:Nat):Int):=by rw[Al];omega
  have hT':=hT y hy
  rw[da hx,BQ] at hT'
  cases hb:q x y with
  |true=>
   rw[hb] at hc
   obtain⟨ys,R,r1,r3,r5,r4⟩:=AjF F l q hl hq k hk (by omega) _ k 1 l rfl hk (by omega) (by omega) (by omega) rfl (fun x h=>h) (fun _ _=>rfl) (fun p hp=>by
    have e:x=p:=HZ (hx.symm.trans hp)
    rw[hb,HV rfl,e] at hT';exact hT')
   refine⟨ys,R,r1,r3,r5,?_⟩
   refine lv 66 [] (.t<|.m (.v (cz x))<|.m (.v (cz y))<|.c (db J)<|.k<|.h (.q 7 2)<|.h (.o (.arr 0 (k*1) (I l-k)) ⟨[G (Ab (l.map cz))],[]⟩)<|.lo [ke 0,ke 1,ke 5,ke 6,ch 7 (di (1:Nat))] ⟨[G (Ab (l.map cz))],[]⟩) (Y ((k:Int)<(I l:Int))=J/\0<=(k:Int)/\(k:Int)<(I l:Int)/\(fk l)[0+Z (k:Int)*1]?=G (cw x)/\0<=yu yt ((k:Int)-1)/\yu yt ((k:Int)-1)<(I l:Int)/\(fk l)[0+Z (yu yt ((k:Int)-1))*1]?=G (cw y)/\F0 F [cw x,cw y] (db J)/\yo/\Aj PP (Oper.mk (G 31) (Op.slice 156 (Operand.tmp 29) (G (Operand.tmp 30)) none none) 156 "slices.go:402" #[Edge.mk 0 Ground.data,Edge.mk 1 Ground.data] none) [bo 0 0 (I l),di (k:Int)] (jq l) (bo 0 (k*1) (I l-k)) (jq l)/\di 1=di (↑1:Int)/\cm 1 [] [G (fk l)]=J/\Q [G (fk l)]/\I0 Zx 1 (bo 0 0 (I ys)) (lz ys R) wm (ba 66 [(0,bo 0 0 (I l)),(kz F),(5,di (k:Int)),(6,bo 0 (k*1) (I l-k)),(7,di (↑1:Int))]) (jq l)) ?_
   have hsl:∀(o:yy) (x:x8) (y:x8) (τ:St),o.op=.slice 156 x (G y) none none->Aj PP o [.arr 0 0 (I l),di k] τ (.arr 0 (k*1) (I l-k)) τ:=fun o x y τ ho=>by
    have:=CJ (P:=PP) (o:=o) (σ:=τ) ho X6 (q:=0) (off:=0) (len:=I l) (G (.i64,(k:Int))) none rfl rfl (l':=k) (h':=I l) (by simp[Cn];omega) hkl
    rwa[Iv] at this
   rw[hw1]
   exact⟨yr,by omega,by omega,by rw[show 0+Z (k:Int)*1=k by omega];exact Fm hx,by omega,by omega,by rw[show 0+Z ((k-1:Nat):Int)*1=k-1 by omega];exact Fm hy,hc,ym,hsl _ _ _ _ rfl,rfl,HS.2 ⟨Ak 1 [] _,rfl⟩,rfl,⟨r4⟩⟩
  |false=>
   rw[hb] at hc
   obtain⟨ys,R,r1,r3,r5,r4⟩:=ih (k+1) (by omega) (by omega) (by omega) (fun p hp=>by
    have e:x=p:=HZ (hx.symm.trans hp)
    rw[hb,HR (by decide)] at hT'
    rw[IM,hx,Option.toList_some,IG,List.singleton_append, ←e];exact hT')
   refine⟨ys,R,r1,r3,r5,?_⟩
   refine lv 66 [] (.t<|.m (.v (cz x))<|.m (.v (cz y))<|.c (db O)<|.lo (n5 k) ⟨[G (Ab (l.map cz))],[]⟩) (Y ((k:Int)<(I l:Int))=J/\0<=(k:Int)/\(k:Int)<(I l:Int)/\(fk l)[0+Z (k:Int)*1]?=G (cw x)/\0<=yu yt ((k:Int)-1)/\yu yt ((k:Int)-1)<(I l:Int)/\(fk l)[0+Z (yu yt ((k:Int)-1))*1]?=G (cw y)/\F0 F [cw x,cw y] (db O)/\yo/\di (yu yt ((k:Int)+1))=di (↑(k+1):Int)/\cm 1 [] [G (fk l)]=J/\Q [G (fk l)]/\I0 Zx 1 (bo 0 0 (I ys)) (lz ys R) [kl EJ d5,bh 0,kc EJ [1,1,1]] (ba 66 [(0,bo 0 0 (I l)),(kz F),(5,di (↑(k+1):Int))]) (jq l)) ?_
   rw[hw1]
   exact⟨yr,by omega,by omega,by rw[show 0+Z (k:Int)*1=k by omega];exact Fm hx,by omega,by omega,by rw[show 0+Z ((k-1:Nat):Int)*1=k-1 by omega];exact Fm hy,hc,ym,Ae,HS.2 ⟨Ak 1 [] _,rfl⟩,rfl,⟨r4⟩⟩
theorem AeL(F:yx)(l:List (List Int))(q:(List Int)->(List Int)->Bool)(hl:I l<=1000)(hq:∀x∈l,∀y∈l,F0 F [.v (cz x),.v (cz y)] (db (q x y))):
  ∃R:List D,D.pls R=J/\R.all D.one=J/\Aa PP 263 [.arr 0 0 (I l),dfn F] ⟨[G (Ab (l.map cz))],[]⟩ (.arr 0 0 (I (AP q l))) ⟨[G (Ab ((AP q l).map cz)++R)],[]⟩:=by
 by_cases h2:I l<2
 ·refine⟨[],rfl,rfl,?_⟩
  rw[JD q h2]
  exact sv Zx 66 [] (.t .ro) (Y ((I l:Int)<2)=J/\cm 1 [] [G (fk l)]=J/\[G (fk l)]=[G (Ab (U cz l)++[])]/\Q (bo 0 0 (I l))) ⟨yr,HS.2 ⟨Ak 1 [] _,rfl⟩,by rw[Iz],rfl⟩
 ·obtain⟨ys,R,r1,r3,r5,r4⟩:=Ag1 F l q hl hq _ 1 rfl (HH _) (by omega) (fun p hp=>Mp hp)
  subst r1
  refine⟨R,r3,r5,?_⟩
  exact sv Zx 66 [] (.f<|.lo [ke 0,ke 1,ch 5 (di (1:Nat))] ⟨[G (Ab (l.map cz))],[]⟩) (Y ((I l:Int)<2)=O/\Q (di 1)/\cm 1 [] [G (fk l)]=J/\Q [G (fk l)]/\_) ⟨yq,rfl,HS.2 ⟨Ak 1 [] _,rfl⟩,rfl,iK r4⟩
end Go.Proofs.YtfhgjfkleggjfaaGreatDoor
