/-
  A part of the proof.
-/
import Derived.Test.YtmhjflomgppcnaaGreatDoorZe
import Derived.Shelf.SlSortCmp.WholeK
import Derived.Shelf.SlGeneric
import Derived.Ground.SlsfProg
import Derived.Shelf.SlSortCmp.Whole1
import Derived.Test.YtmhjflomgppcnaaGreatDoorZc
import Derived.Shelf.SlSortCmp.NoneTotal
namespace Go.Proofs.YtmhjflomgppcnaaGreatDoor
open Go.Dv Go.Nv
set_option maxRecDepth 20000
open Go.IntKind (wrap i64 u64)
theorem R7{rs:List Rul}(h3:rs.length<=2){ns np:Nat}{ag:Int}(h:∀k r,rs[k]?=some r->Ps ns np ag k r):rs.map Rul.name=dl2.take rs.length:=by
 apply List.ext_getElem?
 intro i
 by_cases hi:i<rs.length
 ·have hx:rs[i]?=some rs[i]:=H4 hi
  rw[Ik,hx,List.getElem?_take_of_lt hi,(h i _ hx).name];rfl
 ·rw[Ir (by simp;omega),Ir (by simp;omega)]
theorem BR.sz{m:Mod}(h:BR m):(1<=m.states.length/\m.states.length<=2)/\(1<=m.places.length/\m.places.length<=2):=
 ⟨by rcases h.states with e|e<;>rw[e]<;>decide,by rcases h.places with e|e<;>rw[e]<;>decide⟩
theorem BR.right{m:Mod}(h:BR m)(r:Rul)(hr:r∈m.rules):Aa PP 89 [Ag m,Cl r] σ0 (db true) σ0:=by
 obtain⟨hst,hpl⟩:=h.sz
 have hag:=h.age
 have hi:=List.idxOf_lt_length_of_mem hr
 have hm:=h.rules _ r (by rw[H4 hi,List.getElem_idxOf])
 rw[hm.rest]
 refine V7 m (by omega) (by omega) h.kind (by omega) _ _ _ _ _ hm.frm hm.to ?_ ?_ ?_ ?_
 ·rcases hm.takes with e|⟨p,lo,hi,_,_,e⟩<;>rw[e]<;>simp
 ·rcases hm.makes with e|⟨p,_,e⟩<;>rw[e]<;>simp
 ·rcases hm.takes with e|⟨p,lo,hi,h1,h2,e⟩
  ·rw[e];simp
  ·rw[e];intro t ht;rw[HK.1 ht];exact⟨h1,h2⟩
 ·rcases hm.makes with e|⟨p,h1,e⟩
  ·rw[e];simp
  ·rw[e];intro t ht;rw[HK.1 ht];exact h1
theorem TD(m:Mod)(hm:BR m)(r:Rul)(hr:r∈m.rules):Aa PP 88 [Cl r,.v (.ref (A8 m))] σ0 (db false) σ0:=by
 refine sv AgM 8 [2] (.c (db true) .r) (F0 89 [Ag m,Cl r] (db true)/\(db !true)=db false) ?_
 exact⟨hm.right r hr,rfl⟩
theorem BR.good{m:Mod}(h:BR m):C0 8 (AR m)=true:=Aih m (by have:=h.sz;omega) (by have:=h.sz;omega) (by have:=h.age;omega)
theorem BR.start_ok{m:Mod}(h:BR m):Aj (AR m) m.start=true:=by
 obtain⟨ts,h1,h2⟩:=h.start
 have:=h.sz
 rw[h2];exact Pk m 0 ⟨by omega,by omega⟩ ts h1
theorem BR.ssz{m:Mod}(h:BR m):m.start.size<=1000000:=by
 have:=h.start_ok
 simp only[Aj,H5,HE] at this
 omega
theorem XS(m:Mod)(hm:BR m):Aa PP 90 [Ag m] σ0 (db true) σ0:=by
 refine sv Ajw 22 [1] (.f<|.c (dT (AR m))<|.c (db true) .r) ((m.kind==6)=false/\F0 141 [Ag m] (dT (AR m))/\F0 140 [D.v (vT (AR m)),dV m.start] (db true)/\Q (db true)) ?_
 refine⟨by rw[hm.kind];rfl,GG m hm.kind (by have:=hm.age;omega),?_,rfl⟩
 have:=EH (AR m) hm.good m.start hm.ssz
 rw[hm.start_ok] at this
 exact this
theorem Jw(m:Mod)(hm:BR m):Aa PP 52 [Ag m] σ0 (di 0) σ0:=by
 refine sv Aju 29 [1] (.c (db true)<|.c (db true)<|.c (db true)<|.c (db true)<|.c (db false)<|.c (db true) .r) (F0 83 [di m.kind,di 1,di 6] (db true)/\F0 84 [Ag m] (db true)/\F0 85 [Ag m] (db true)/\F0 86 [Ag m] (db true)/\Aon m.rules m/\F0 90 [Ag m] (db true)/\Q (di 0)) ?_
 obtain⟨hst,hpl⟩:=hm.sz
 have hag:=hm.age
 have hc:=hm.count
 have hb:∀{x a b:Int},a<=x->x<=b->Av x a b=true:=fun h1 h2=>by simp[Av,h1,h2]
 refine⟨?_,?_,?_,?_,?_,XS m hm,rfl⟩
 ·have:=CI m.kind 1 6
  rwa[show Av m.kind 1 6=true by rw[hm.kind];rfl] at this
 ·have:=LQ AhD m (by rw[hm.kind];exact Aj8)
  rwa[show C3 AhD m=true by
   simp only[C3,H5,HE,hm.letters,hm.levels]
   exact⟨hb (by omega) (by omega),by omega,hb (by omega) (by omega),by decide,by decide,hb (by omega) (by omega)⟩] at this
 ·have:=La m (by rw[hm.ranks];decide)
  rwa[show BO m=true by rw[BO,HP (by rw[hm.kind];rfl),hm.ranks];rfl] at this
 ·have:=R2 m (by simp only[BL,IR,List.flatten_nil,HI,HD,hm.letters];omega)
  rwa[show D0 m=true by
   have hn:=R7 hm.count hm.rules
   rw[D0,DO,hn,BL,hm.letters]
   have:m.rules.length=0∨m.rules.length=1∨m.rules.length=2:=by omega
   rcases hm.states with e|e<;>rcases hm.places with e'|e'<;>rcases this with e2|e2|e2<;>rw[e,e',e2]<;>decide+kernel] at this
 ·have:=Ls 88 [] [.ref (A8 m)] (fun _=>false) m.rules (by omega) (fun r hr=>TD m hm r hr)
  rw[show m.rules.any (fun _=>false)=false by simp] at this
  exact this
theorem Ti(m:Mod)(hm:BR m)(v:Val)(hv:v.size<=1000000):Aa PP 118 [Ag m,dV v] σ0 (db (Aj (AR m) v)) σ0:=by
 refine sv Ag3 14 [2,3] (.c (di 0)<|.c (dT (AR m))<|.c (db (Aj (AR m) v)) .r) (Ak1 m/\F0 141 [Ag m] (dT (AR m))/\F0 140 [D.v (vT (AR m)),dV v] (db (Aj (AR m) v))/\Q (db (Aj (AR m) v))) ?_
 exact⟨Jw m hm,GG m hm.kind (by have:=hm.age;omega),EH _ hm.good v hv,rfl⟩
theorem Uq(m:Mod)(hm:BR m):Aa PP 22 [Ag m] σ0 (di 0) σ0:=by
 refine sv Ajk 12 [1] (.c (di 0)<|.k<|.f .r) (Ak1 m/\(m.kind==6)=false/\Q (di 0)) ?_
 exact⟨Jw m hm,by rw[hm.kind];rfl,rfl⟩
theorem BR.int{m:Mod}(h:BR m):Fx m (AR m):=⟨Uq m h,QP m (by have:=h.count;omega),fun v hv=>Ti m h v hv,by have:=h.sz;omega⟩
inductive Fg (m:Mod):Prop where
 |cM (h:Q1 m)
 |l2 (h:FO 2 m)
 |l3 (h:FO 3 m)
 |tm (h:BR m)
 |c (h:Q2 m)
theorem Fg.small{m:Mod}(h:Fg m):(1<=m.states.length/\m.states.length<=3)/\(m.places=[[120]]∨m.places=[[120],[121]])/\m.letters.length<=2/\m.age<=3:=by
 have two:∀S:List (List UInt8),(S=[[97]]∨S=[[97],[98]])->1<=S.length/\S.length<=3:=fun S e=>by rcases e with e|e<;>rw[e]<;>decide
 cases h with
 |cM h=>exact⟨two _ h.states,h.places,by rw[h.letters];decide,by rw[h.age];decide⟩
 |c h=>exact⟨two _ h.states,h.places,by rw[h.letters];decide,by rw[h.age];decide⟩
 |tm h=>exact⟨two _ h.states,h.places,by rw[h.letters];decide,by have:=h.age;omega⟩
 |l2 h=>exact⟨by obtain⟨n,h1,h2,e⟩:=h.states;rw[e,HY];simp only[H9,HD];omega,h.places,by rcases h.letters with e|e<;>rw[e]<;>decide,by rw[h.age];decide⟩
 |l3 h=>exact⟨by obtain⟨n,h1,h2,e⟩:=h.states;rw[e,HY];simp only[H9,HD];omega,h.places,by rcases h.letters with e|e<;>rw[e]<;>decide,by rw[h.age];decide⟩
noncomputable abbrev AgQ:Func:= Tryz.f7
theorem Ahw(l:List UInt8)(hl:l.length<=200)(a:Nat)(ha:a<=l.length):
  ∃(m:Mod) (a':Nat),Fg m/\a'<=l.length/\Aa PP 7 [.ptr 0 0] (dz l a) (Ag m) (dz l a'):=by
 obtain⟨r,a1,p1,p2,p3,p4⟩:=Ax l hl a ha 5 (by decide) (by decide)
 rcases(show r=0∨r=1∨r=2∨r=3∨r=4 by omega) with rfl|rfl|rfl|rfl|rfl
 ·obtain⟨m,a2,h1,h2,h3⟩:=AdZ l hl a1 p3
  refine⟨m,a2,.cM h1,h2,?_⟩
  refine sv AgQ 23 [] (.c1 (cDz l a1) (di 0)<|.c1 (cDz l a2) (Ag m) .r) (Aa PP 8 [Azb 0 0,di 5] (dz l a) (di 0) (dz l a1)/\Aa PP 19 [Azb 0 0,db true] (dz l a1) (Ag m) (dz l a2)/\Q (Am4 l a2)/\D.v (Azh [vi m.kind,Azf (Aks m.states),Azf (Aks m.places),Azf (Aks m.letters),Azf (Anw m.ranks),vi m.levels,vi m.age,Azf (Aps m.rules),vi m.start.n,Azf (Alj m.start.kids)])=Ag m) ?_
  trivial
 ·obtain⟨m,a2,h1,h2,h3⟩:=AcG l hl a1 p3 2 (.inl rfl)
  refine⟨m,a2,.l2 h1,h2,?_⟩
  refine sv AgQ 23 [] (.c1 (cDz l a1) (di 1)<|.c1 (cDz l a2) (Ag m) .r) (Aa PP 8 [Azb 0 0,di 5] (dz l a) (di 1) (dz l a1)/\Aa PP 20 [Azb 0 0,di 2] (dz l a1) (Ag m) (dz l a2)/\Q (Am4 l a2)/\D.v (Azh [vi m.kind,Azf (Aks m.states),Azf (Aks m.places),Azf (Aks m.letters),Azf (Anw m.ranks),vi m.levels,vi m.age,Azf (Aps m.rules),vi m.start.n,Azf (Alj m.start.kids)])=Ag m) ?_
  trivial
 ·obtain⟨m,a2,h1,h2,h3⟩:=AcG l hl a1 p3 3 (.inr rfl)
  refine⟨m,a2,.l3 h1,h2,?_⟩
  refine sv AgQ 23 [] (.c1 (cDz l a1) (di 2)<|.c1 (cDz l a2) (Ag m) .r) (Aa PP 8 [Azb 0 0,di 5] (dz l a) (di 2) (dz l a1)/\Aa PP 20 [Azb 0 0,di 3] (dz l a1) (Ag m) (dz l a2)/\Q (Am4 l a2)/\D.v (Azh [vi m.kind,Azf (Aks m.states),Azf (Aks m.places),Azf (Aks m.letters),Azf (Anw m.ranks),vi m.levels,vi m.age,Azf (Aps m.rules),vi m.start.n,Azf (Alj m.start.kids)])=Ag m) ?_
  trivial
 ·obtain⟨m,a2,h1,h2,h3⟩:=Afv l hl a1 p3
  refine⟨m,a2,.tm h1,h2,?_⟩
  refine sv AgQ 23 [] (.c1 (cDz l a1) (di 3)<|.c1 (cDz l a2) (Ag m) .r) (Aa PP 8 [Azb 0 0,di 5] (dz l a) (di 3) (dz l a1)/\Aa PP 21 [Azb 0 0] (dz l a1) (Ag m) (dz l a2)/\Q (Am4 l a2)/\D.v (Azh [vi m.kind,Azf (Aks m.states),Azf (Aks m.places),Azf (Aks m.letters),Azf (Anw m.ranks),vi m.levels,vi m.age,Azf (Aps m.rules),vi m.start.n,Azf (Alj m.start.kids)])=Ag m) ?_
  trivial
 ·obtain⟨m,a2,h1,h2,h3⟩:=Ahe l hl a1 p3
  refine⟨m,a2,.c h1,h2,?_⟩
  refine sv AgQ 23 [] (.c1 (cDz l a1) (di 4)<|.c1 (cDz l a2) (Ag m) .r) (Aa PP 8 [Azb 0 0,di 5] (dz l a) (di 4) (dz l a1)/\Aa PP 19 [Azb 0 0,db false] (dz l a1) (Ag m) (dz l a2)/\Q (Am4 l a2)/\D.v (Azh [vi m.kind,Azf (Aks m.states),Azf (Aks m.places),Azf (Aks m.letters),Azf (Anw m.ranks),vi m.levels,vi m.age,Azf (Aps m.rules),vi m.start.n,Azf (Alj m.start.kids)])=Ag m) ?_
  trivial
end Go.Proofs.YtmhjflomgppcnaaGreatDoor

namespace Go.Proofs
open Go.Shelf
open Go.IntKind (wrap i64 u64)
def Tryz.sortV_ren:Go.Shelf.Ren:=⟨fun|6=>24|15=>58|14=>57|28=>102|29=>103|20=>94|21=>95|22=>96|23=>97|24=>98|25=>99|26=>100|27=>101|46=>145|47=>146|48=>147|49=>148|50=>149|57=>200|n=>n,fun|22=>29|24=>31|25=>43|3=>3|39=>112|0=>0|53=>147|55=>149|4=>4|46=>141|45=>140|50=>121|5=>5|9=>9|66=>180|70=>184|76=>218|77=>219|n=>n,fun|n=>n⟩
theorem Tryz.sortV:Go.Proofs.SlLaysF0.n6 Tryz.prog Tryz.sortV_ren:={
 mixed:=by kernel_rfl
 f6:=⟨Tryz.f24.name,by decide,Tryz.func24.trans (HR some (by kernel_rfl))⟩
 f14:=⟨Tryz.f57.name,by decide,Tryz.func57.trans (HR some (by kernel_rfl))⟩
 f15:=Tryz.func58.trans (HR some (by kernel_rfl))
 f20:=⟨Tryz.f94.name,by decide,Tryz.func94.trans (HR some (by kernel_rfl))⟩
 f21:=⟨Tryz.f95.name,by decide,Tryz.func95.trans (HR some (by kernel_rfl))⟩
 f22:=⟨Tryz.f96.name,by decide,Tryz.func96.trans (HR some (by kernel_rfl))⟩
 f23:=⟨Tryz.f97.name,by decide,Tryz.func97.trans (HR some (by kernel_rfl))⟩
 f24:=⟨Tryz.f98.name,by decide,Tryz.func98.trans (HR some (by kernel_rfl))⟩
 f25:=⟨Tryz.f99.name,by decide,Tryz.func99.trans (HR some (by kernel_rfl))⟩
 f26:=⟨Tryz.f100.name,by decide,Tryz.func100.trans (HR some (by kernel_rfl))⟩
 f27:=⟨Tryz.f101.name,by decide,Tryz.func101.trans (HR some (by kernel_rfl))⟩
 f28:=Tryz.func102.trans (HR some (by kernel_rfl))
 f29:=Tryz.func103.trans (HR some (by kernel_rfl))
 f46:=⟨Tryz.f145.name,by decide,Tryz.func145.trans (HR some (by kernel_rfl))⟩
 f47:=Tryz.func146.trans (HR some (by kernel_rfl))
 f48:=Tryz.func147.trans (HR some (by kernel_rfl))
 f49:=⟨Tryz.f148.name,by decide,Tryz.func148.trans (HR some (by kernel_rfl))⟩
 f50:=⟨Tryz.f149.name,by decide,Tryz.func149.trans (HR some (by kernel_rfl))⟩
 f57:=⟨Tryz.f200.name,by decide,Tryz.func200.trans (HR some (by kernel_rfl))⟩
 t0:=Tryz.underlying0
 a0:=Tryz.isAgg0
 z0:=Tryz.sizeOf0
 v0:=Tryz.zeroValue0
 t3:=Tryz.underlying3
 a3:=Tryz.isAgg3
 z3:=Tryz.sizeOf3
 v3:=Tryz.zeroValue3
 t4:=Tryz.underlying4
 a4:=Tryz.isAgg4
 z4:=Tryz.sizeOf4
 v4:=Tryz.zeroValue4
 t5:=Tryz.underlying5
 a5:=Tryz.isAgg5
 z5:=Tryz.sizeOf5
 v5:=Tryz.zeroValue5
 t9:=Tryz.underlying9
 a9:=Tryz.isAgg9
 z9:=Tryz.sizeOf9
 v9:=Tryz.zeroValue9
 t22:=Tryz.underlying29
 a22:=Tryz.isAgg29
 z22:=Tryz.sizeOf29
 v22:=Tryz.zeroValue29
 t25:=Tryz.underlying43
 a25:=Tryz.isAgg43
 z25:=Tryz.sizeOf43
 v25:=Tryz.zeroValue43
 t39:=Tryz.underlying112
 a39:=Tryz.isAgg112
 z39:=Tryz.sizeOf112
 v39:=Tryz.zeroValue112
 t45:=Tryz.underlying140
 a45:=Tryz.isAgg140
 z45:=Tryz.sizeOf140
 v45:=Tryz.zeroValue140
 t46:=Tryz.underlying141
 a46:=Tryz.isAgg141
 z46:=Tryz.sizeOf141
 v46:=Tryz.zeroValue141
 t50:=Tryz.underlying121
 a50:=Tryz.isAgg121
 z50:=Tryz.sizeOf121
 v50:=Tryz.zeroValue121
 t53:=Tryz.underlying147
 a53:=Tryz.isAgg147
 z53:=Tryz.sizeOf147
 v53:=Tryz.zeroValue147
 t55:=Tryz.underlying149
 a55:=Tryz.isAgg149
 z55:=Tryz.sizeOf149
 v55:=Tryz.zeroValue149
 t66:=Tryz.underlying180
 a66:=Tryz.isAgg180
 z66:=Tryz.sizeOf180
 v66:=Tryz.zeroValue180
 t70:=Tryz.underlying184
 a70:=Tryz.isAgg184
 z70:=Tryz.sizeOf184
 v70:=Tryz.zeroValue184
 t76:=Tryz.underlying218
 a76:=Tryz.isAgg218
 z76:=Tryz.sizeOf218
 v76:=Tryz.zeroValue218
 t77:=Tryz.underlying219
 a77:=Tryz.isAgg219
 z77:=Tryz.sizeOf219
 v77:=Tryz.zeroValue219 }
end Go.Proofs
namespace Go.Proofs.YtmhjflomgppcnaaGreatDoor
open Go.Dv Go.Nv Go.Shelf Go.RowKit Go.Lib Go.Sort
set_option maxRecDepth 20000
open List (flatMap_cons)
open Go.IntKind (wrap i64 u64)
theorem WQ{g g':Gh}{w w':World}{σ':St}(h:WI ⟨g,w,⟨[],[]⟩⟩ g' σ' w'):∃q os,w'=grow (w.drewN q) os:=by
 refine⟨w'.drawn-w.drawn,w'.heap.extract w.heap.size w'.heap.size,?_⟩
 have h1:=h.drawn trivial;have h2:=h.os;have h3:=h.tape;have h4:=h.output;have h5:=h.size
 have h6:∀b,b<w.heap.size->w'.heap[b]?=w.heap[b]?:=fun b hb=>(h.keep b hb Eh).1
 have e:w'.heap=w.heap++w'.heap.extract w.heap.size w'.heap.size:=by
  apply Array.ext_getElem?
  intro i
  by_cases hi:i<w.heap.size
  ·rw[h6 i hi,Array.getElem?_append_left hi]
  ·rw[Array.getElem?_append_right (by omega),Array.getElem?_extract]
   have h5:w.heap.size<=w'.heap.size:=h5
   by_cases hj:i<w'.heap.size
   ·rw[HP (by omega)];congr 1;omega
   ·rw[HL (by omega),Array.getElem?_eq_none (by omega)]
 cases w'
 simp only[grow,World.drewN] at*
 subst h2;subst h3;subst h4
 congr 1
 have h1:w.drawn<=_:=h1
 omega
abbrev Cel(M:Mem):={p:Val×List Value//p.1.size<=1000000/\repC M (eV p.1) p.2}
instance (M:Mem):Inhabited (Cel M):=⟨⟨(.mk 0 [],[.int .i64 0,.slice none 0 0]),by decide,by simp[Val.enc,Val.encs,repC,repA,V.isAgg];exact⟨_,_,⟨rfl,rfl⟩,rfl,_,rfl,_,_,rfl⟩⟩⟩
def CD{M:Mem}(x:Cel M):List Value:=x.1.2
def cfC{M:Mem}(x y:Cel M):Int:=Au x.1.1 y.1.1
theorem Qo(v:Val):(eV v).size=2:=by rw[Bz];rfl
theorem K7{M:Mem}(x:Cel M):(CD x).length=2:=by
 have:=Fi x.2.2
 rw[Qo] at this;exact this
theorem Aj4{M:Mem}:SWO (ltOf (cfC (M:=M))) where
 irrefl x:=by simp only[ltOf,cfC,AP.refl _ trivial];decide
 trans x y z h1 h2:=by
  exact H6 (AP.trans _ _ _ trivial trivial trivial (HF h1) (HF h2))
 ntrans x y z h1 h2:=by
  have h1:¬Au x.1.1 y.1.1<0:=Im h1
  have h2:¬Au y.1.1 z.1.1<0:=Im h2
  refine H8 fun h3=>?_
  have h3:Au x.1.1 z.1.1<0:=h3
  by_cases e:Au x.1.1 y.1.1=0
  ·have:=JG.1 e;rw[this] at h3;exact h2 h3
  ·have h4:Au y.1.1 x.1.1<0:=(AP.swap _ _ trivial trivial).2 (by omega)
   exact h2 (AP.trans _ _ _ trivial trivial trivial h4 h3)
theorem AbC{g:Gh}{l:List Val}(hl:∀v∈l,v.size<=1000000){us:List Value}(h:Ac g (Ab (l.map eV)) us)(h1:∀c∈Ab (l.map eV),c.one=true):∃ps:List (Cel g.M),ps.map (fun p=>p.1.1)=l/\ps.flatMap CD=us:=by
 have hA:repA g.M ((l.map eV).flatMap V.cellsV) us:=by
  have hlen:=A4 h
  refine PO (by rw[hlen,Ab,H3]) fun j y hj=>?_
  obtain⟨v,h2,h3⟩:=B9 h (i:=j) (d:=.v y) (by rw[Ab,Ik,hj];rfl)
  refine⟨?_,v,h2,by simpa only[Ae] using h3⟩
  have:=h1 (.v y) (Il.2 ⟨y,HA hj,rfl⟩)
  simpa[D.one] using this
 have hE:=E5 (sz:=2) (xs:=l.map eV) (fun y hy=>by obtain⟨v,_,rfl⟩:=Il.1 hy;exact Qo v) hA
 clear h h1 hA
 induction l generalizing us with
 |nil=>
  simp only[I1,repE] at hE
  exact⟨[],rfl,by simp[hE]⟩
 |cons v l ih=>
  simp only[HU,repE] at hE
  obtain⟨u1,u2,rfl,_,h3,h4⟩:=hE
  obtain⟨ps,h5,h6⟩:=ih (fun v hv=>hl v (by simp[hv])) h4
  exact⟨⟨(v,u1),hl v (by simp),h3⟩::ps,by simp[h5],by simp[h6,CD]⟩
theorem cells_rep{g:Gh}(ps:List (Cel g.M)):Ac g (Ab ((ps.map fun p=>p.1.1).map eV)) (ps.flatMap CD)/\∀c∈Ab ((ps.map fun p=>p.1.1).map eV),c.one=true:=by
 refine DL (sz:=2) ?_
 induction ps with
 |nil=>simp[repE]
 |cons p ps ih=>
  simp only[HU,flatMap_cons,repE]
  exact⟨_,_,rfl,K7 p,p.2.2,ih⟩
theorem RJ{M:Mem}:∀(ps:List (Cel M)) (t:Nat),t<ps.length*2->(ps.flatMap CD)[t]?=some ((CD (ps.getD (t/2) default))[t%2]!)
 |[],t,h=>by simp at h
 |p::ps,t,h=>by
  have h2:=K7 p
  rw[flatMap_cons]
  by_cases ht:t<2
  ·rw[HQ (by omega),show t/2=0 by omega,show t%2=t by omega,List.getD_cons_zero]
   simp[h2,ht]
  ·rw[HN (by omega),h2,RJ ps (t-2) (by simp at h;omega)]
   have e1:t/2=(t-2)/2+1:=by omega
   have e2:(t-2)%2=t%2:=by omega
   rw[e1,e2,List.getD_cons_succ]
theorem JA{M:Mem}(d:Array (Cel M)):(flatK CD 2 d).toList=d.toList.flatMap CD:=by
 apply List.ext_getElem?
 intro t
 have hlen:∀l:List (Cel M),(l.flatMap CD).length=l.length*2:=by
  intro l
  induction l with
  |nil=>rfl
  |cons p l ih=>rw[flatMap_cons,HI,ih,K7,H9];omega
 by_cases ht:t<d.size*2
 ·rw[RJ _ t (by simpa using ht),IX]
  have h1:=get_flatK CD 2 d t ht
  have hs:t<(flatK CD 2 d).size:=by rw[size_flatK];exact ht
  rw[getElem!_pos (flatK CD 2 d) t hs] at h1
  rw[Array.getElem?_eq_getElem hs,h1]
  congr 3
  simp[Array.getElem!_eq_getD,ID,HC]
 ·rw[Ir (by rw[Ig,size_flatK];omega),Ir (by rw[hlen];simp;omega)]
def sortV(l:List Val):List Val:=l.mergeSort fun a b=>decide (Au a b<=0)
theorem AH(l:List Val):(sortV l).Perm l:=List.mergeSort_perm l _
theorem Gs(a b:Val):Au a b<=0↔¬Au b a<0:=by
 have:=AP.swap b a trivial trivial
 omega
theorem EK{a b c:Val}(h1:Au a b<=0)(h2:Au b c<=0):Au a c<=0:=by
 by_cases e1:Au a b=0
 ·rw[JG.1 e1];exact h2
 ·by_cases e2:Au b c=0
  ·rw[←JG.1 e2];exact h1
  ·have:=AP.trans a b c trivial trivial trivial (by omega) (by omega)
   omega
theorem Js(a b:Val):Au a b<=0∨Au b a<=0:=by
 have:=AP.swap b a trivial trivial
 omega
theorem JN(l:List Val):(sortV l).Pairwise fun a b=>decide (Au a b<=0)=true:=
 List.pairwise_mergeSort (le:=fun a b=>decide (Au a b<=0)) (fun a b c h1 h2=>H6 (EK (HF h1) (HF h2))) (fun a b=>by
  simp only[Bool.or_eq_true,HE];exact Js a b) l
theorem QQ{l k:List Val}(hp:k.Perm l)(hs:k.Pairwise fun a b=>decide (Au a b<=0)=true):k=sortV l:=by
 refine List.Perm.eq_of_pairwise (fun a b _ _ h1 h2=>?_) hs (JN l) (hp.trans (AH l).symm)
 have h1:Au a b<=0:=HF h1
 have h2:Au b a<=0:=HF h2
 have:=AP.swap b a trivial trivial
 have:=AP.swap a b trivial trivial
 exact JG.1 (by omega)
theorem Aby{g:Gh}{w:World}{σ:St}(hw:WRep g σ w){blk:Nat}(hM:∀o,g.M blk o=none)(n:Nat):CmpLays PP 25 #[] (CD (M:=g.M)) 2 cfC blk 0 n w:=by
 intro m os dk _ x y
 obtain⟨W,hW⟩:∃W,W=sortWorldK CD 2 w blk 0 m dk os:=⟨_,rfl⟩
 rw[←hW]
 have hmem:∀b o v,g.M b o=some v->W.cell? ⟨b,o,none⟩=some v:=by
  intro b o v h
  have hne:b≠blk:=fun e=>by rw[e,hM] at h;simp at h
  have hc:=hw.mem b o v h
  have hlt:b<w.heap.size:=hw.mem_lt h
  rw[hW,sortWorldK,cell?_grow _ _ _ (by rw[size_putRowK];exact hlt),cell?_putRowK_other _ _ _ _ _ _ _ hne]
  exact hc
 have hrep:WRep { M:=g.M,β:=g.β,n:=0,ι:=fun _ _=>none,κ:=g.κ } ⟨[],[]⟩ W:=
  { n:=rfl,mem:=hmem,obj:=fun i cs hi=>by simp at hi,inj:=fun i j cs ds hi=>by simp at hi,own:=fun k sz xs hx=>by simp at hx,tags:=by simp,sep:=fun x hx=>by simp at hx,ownObj:=fun x hx=>by simp at hx,fresh:=fun _ _ _=>rfl,gl:=hw.gl,gw:=fun p hp=>by simp[FP] at hp }
 have arg:∀z:Cel g.M,Ae { M:=g.M,β:=g.β,n:=0,ι:=fun _ _=>none,κ:=g.κ } (dV z.1.1) (.agg (CD z).toArray):=by
  intro z
  simp only[Ae]
  exact⟨CD z,by rw[←Bz];exact z.2.2,rfl⟩
 have hs:=(Ju _ x.1.1 y.1.1 (HB _) x.2.1).2 _ W [.agg (CD x).toArray,.agg (CD y).toArray] hrep (Ao.2 ⟨_,_,rfl,arg x,arg y⟩)
 refine Calls.mono hs ?_
 rintro e w' ⟨u,g',rfl,hwi,hd⟩
 simp only[Ae,A5] at hd
 exact⟨by rw[hd];rfl,WQ hwi⟩
theorem FV(l:List Val)(hl:l.length<=100000)(hs:∀v∈l,v.size<=1000000):
  Aa PP 24 [.arr 0 0 l.length,dfn 25] ⟨[some (Ab (l.map eV))],[]⟩ (.tup []) ⟨[some (Ab ((sortV l).map eV))],[]⟩:=by
 refine⟨⟨_, Tryz.func24,by kernel_rfl,by kernel_rfl⟩,fun g w args hw hargs=>?_⟩
 obtain⟨u0,u1,rfl,h0,h1⟩:=Ao.1 hargs
 simp only[Ae] at h0 h1
 obtain⟨hn,cap,hcap,rfl⟩:=h0
 obtain⟨us1,vs1,rfl,hu1,hv1⟩:=FZ.1 h1
 simp only[EQ] at hu1 hv1
 subst hu1;subst hv1
 obtain⟨us,rest,et,hb,hr,hone,hM,hκ⟩:=hw.obj 0 _ rfl
 obtain⟨ps,hp1,hp2⟩:=AbC hs hr hone
 have hpl:ps.length=l.length:=by rw[←hp1,H3]
 have hul:us.length=l.length*2:=by
  have:=HR Array.size (show flatK CD 2 ps.toArray=us.toArray by rw[←hp2];apply I6;rw[JA])
  rw[size_flatK] at this;simp at this;omega
 have hF:(flatK CD 2 ps.toArray).toList=us:=by rw[JA, ←hp2]
 have hH:HoldsK CD 2 w (g.β 0) 0 ps.toArray:=by
  intro j hj
  have hj':j<us.length:=by rw[size_flatK] at hj;simp at hj;omega
  refine⟨?_,by simp[World.frozen?,hb]⟩
  have hg:(us++rest)[j]?=some us[j]:=by rw[HQ hj',H4 hj']
  have hg2:(flatK CD 2 ps.toArray)[j]! =us[j]:=by
   rw[getElem!_pos (flatK CD 2 ps.toArray) j hj]
   have:(flatK CD 2 ps.toArray).toList[j]?=some us[j]:=by rw[hF,H4 hj']
   rw[IX,Array.getElem?_eq_getElem hj] at this
   exact HT this
  simp only[World.cell?,hb,Io,hg2,id]
  simpa using hg
 have hblk:g.β 0<w.heap.size:=Gt hb
 have eg:∀args w,(callFunc 25 args).run PP w=.ok (.enter 25 args) w:=enters_of Tryz.func25 (by kernel_rfl) rfl
 have hcon:=AnyQ.slices_SortFunc Tryz.sortV 2 Tryz.isAgg31 Tryz.sizeOf31 (CD (M:=g.M)) K7 (fun x v hv=>JP x.2.2 v hv) cfC Aj4 25 #[] (g.β 0) 0 cap ps.toArray w eg (Aby hw hM _) hH hblk (by simp;omega)
 change Calls PP 24 _ _ _ at hcon
 rw[show ps.toArray.size=l.length by simp[hpl]] at hcon
 refine Calls.mono hcon ?_
 rintro e w' ⟨rfl,d',n,os,hperm,hsorted,rfl⟩
 obtain⟨hsz,_,hperm⟩:=hperm
 have hdl:d'.toList.map (fun p=>p.1.1)=sortV l:=by
  refine QQ ?_ ?_
  ·rw[←hp1]
   have h2:d'.toList.Perm ps:=by simpa[Array.extract_eq_self_of_le,hsz,hpl] using hperm
   exact h2.map _
  ·rw[List.pairwise_iff_getElem]
   intro i j hi hj hij
   have hi':i<d'.size:=by simpa using hi
   have hj':j<d'.size:=by simpa using hj
   have h3:=hsorted i j (Ic _) hij (by simp only[II] at hsz;omega)
   simp only[ltOf,cfC,IM,getElem!_pos d' i hi',getElem!_pos d' j hj'] at h3
   simp only[List.getElem_map,Array.getElem_toList,HE]
   exact(Gs _ _).2 h3
 have hd2:d'.size=l.length:=by rw[hsz];simp[hpl]
 have hF2:(flatK CD 2 d').toList=d'.toList.flatMap CD:=JA d'
 have hFl:(d'.toList.flatMap CD).length=us.length:=by rw[←hF2,Ig,size_flatK,hd2];omega
 have hcs:=cells_rep d'.toList
 rw[hdl] at hcs
 have hb2:(putRowK CD 2 (Sort.ahead w n) (g.β 0) 0 d').heap[g.β 0]?=some (.cells ((d'.toList.flatMap CD)++rest).toArray et (0,0)):=by
  simp only[putRowK,putRow,mapBlock,Sort.ahead,Array.getElem?_modify,hb,onCells,IC,I4]
  congr 2
  apply Array.ext_getElem?
  intro t
  simp only[putCells,Array.getElem?_mapIdx,Nat.sub_zero,Ic,true_and,Io,id,I7,II]
  by_cases ht:t<us.length
  ·have htF:t<(flatK CD 2 d').size:=by rw[size_flatK,hd2];omega
   rw[HQ ht,HQ (by omega),H4 ht,I4,HP htF, ←hF2,IX,getElem!_pos (flatK CD 2 d') t htF,Array.getElem?_eq_getElem htF]
  ·have htF:¬t<(flatK CD 2 d').size:=by rw[size_flatK,hd2];omega
   rw[HN (by omega),HN (by omega),hFl]
   simp only[HL htF,Option.map_id']
 have h2:=(WI.start hw).setObj (cs':=Ab ((sortV l).map eV)) (q:=0) (w':=putRowK CD 2 (Sort.ahead w n) (g.β 0) 0 d') rfl hb2 (by rw[←hκ,HI,HI,hFl]) hcs.1 hcs.2 (fun b hb'=>by
  simp only[putRowK,putRow,mapBlock,Sort.ahead,Array.getElem?_modify]
  rw[HL (fun h=>hb' h.symm)]) (by rw[size_putRowK];rfl) rfl rfl rfl (drawn:=.of (Nat.le_add_right _ _))
 have h3:=h2.grow (w':=sortWorldK CD 2 w (g.β 0) 0 n d' os) (M':=g.M) (Mem.le_refl _) (fun b hb'=>⟨heap_grow_old _ _ hb',fun _=>rfl⟩) (fun b o v h=>by
  rw[sortWorldK,cell?_grow _ _ _ (h2.rep.mem_lt h)];exact h2.rep.mem b o v h) (by rw[sortWorldK,size_grow];exact Nat.le_add_right _ _) rfl rfl rfl
 exact⟨_,g,rfl,h3,by simp only[Ae];exact⟨[],rfl,by simp[Ac]⟩⟩
end Go.Proofs.YtmhjflomgppcnaaGreatDoor

namespace Go.Proofs
open Go.Shelf
open Go.IntKind (wrap i64 u64)
def Tryz.sortW_ren:Go.Shelf.Ren:=⟨fun|6=>276|15=>58|14=>283|28=>102|29=>103|20=>286|21=>287|22=>288|23=>289|24=>290|25=>291|26=>292|27=>293|46=>294|47=>146|48=>147|49=>295|50=>296|57=>297|n=>n,fun|22=>186|24=>27|25=>251|3=>3|39=>112|0=>0|53=>147|55=>149|4=>4|46=>141|45=>140|50=>121|5=>5|9=>9|66=>180|70=>184|76=>218|77=>219|n=>n,fun|n=>n⟩
theorem Tryz.sortW:Go.Proofs.SlLaysF.n6 Tryz.prog Tryz.sortW_ren:={
 mixed:=by kernel_rfl
 f6:=⟨Tryz.f276.name,by decide,Tryz.func276.trans (HR some (by kernel_rfl))⟩
 f14:=⟨Tryz.f283.name,by decide,Tryz.func283.trans (HR some (by kernel_rfl))⟩
 f15:=Tryz.func58.trans (HR some (by kernel_rfl))
 f20:=⟨Tryz.f286.name,by decide,Tryz.func286.trans (HR some (by kernel_rfl))⟩
 f21:=⟨Tryz.f287.name,by decide,Tryz.func287.trans (HR some (by kernel_rfl))⟩
 f22:=⟨Tryz.f288.name,by decide,Tryz.func288.trans (HR some (by kernel_rfl))⟩
 f23:=⟨Tryz.f289.name,by decide,Tryz.func289.trans (HR some (by kernel_rfl))⟩
 f24:=⟨Tryz.f290.name,by decide,Tryz.func290.trans (HR some (by kernel_rfl))⟩
 f25:=⟨Tryz.f291.name,by decide,Tryz.func291.trans (HR some (by kernel_rfl))⟩
 f26:=⟨Tryz.f292.name,by decide,Tryz.func292.trans (HR some (by kernel_rfl))⟩
 f27:=⟨Tryz.f293.name,by decide,Tryz.func293.trans (HR some (by kernel_rfl))⟩
 f28:=Tryz.func102.trans (HR some (by kernel_rfl))
 f29:=Tryz.func103.trans (HR some (by kernel_rfl))
 f46:=⟨Tryz.f294.name,by decide,Tryz.func294.trans (HR some (by kernel_rfl))⟩
 f47:=Tryz.func146.trans (HR some (by kernel_rfl))
 f48:=Tryz.func147.trans (HR some (by kernel_rfl))
 f49:=⟨Tryz.f295.name,by decide,Tryz.func295.trans (HR some (by kernel_rfl))⟩
 f50:=⟨Tryz.f296.name,by decide,Tryz.func296.trans (HR some (by kernel_rfl))⟩
 f57:=⟨Tryz.f297.name,by decide,Tryz.func297.trans (HR some (by kernel_rfl))⟩
 t0:=Tryz.underlying0
 a0:=Tryz.isAgg0
 z0:=Tryz.sizeOf0
 v0:=Tryz.zeroValue0
 t3:=Tryz.underlying3
 a3:=Tryz.isAgg3
 z3:=Tryz.sizeOf3
 v3:=Tryz.zeroValue3
 t4:=Tryz.underlying4
 a4:=Tryz.isAgg4
 z4:=Tryz.sizeOf4
 v4:=Tryz.zeroValue4
 t5:=Tryz.underlying5
 a5:=Tryz.isAgg5
 z5:=Tryz.sizeOf5
 v5:=Tryz.zeroValue5
 t9:=Tryz.underlying9
 a9:=Tryz.isAgg9
 z9:=Tryz.sizeOf9
 v9:=Tryz.zeroValue9
 t22:=Tryz.underlying186
 a22:=Tryz.isAgg186
 z22:=Tryz.sizeOf186
 v22:=Tryz.zeroValue186
 a24:=Tryz.isAgg27
 z24:=Tryz.sizeOf27
 t25:=Tryz.underlying251
 a25:=Tryz.isAgg251
 z25:=Tryz.sizeOf251
 v25:=Tryz.zeroValue251
 t39:=Tryz.underlying112
 a39:=Tryz.isAgg112
 z39:=Tryz.sizeOf112
 v39:=Tryz.zeroValue112
 t45:=Tryz.underlying140
 a45:=Tryz.isAgg140
 z45:=Tryz.sizeOf140
 v45:=Tryz.zeroValue140
 t46:=Tryz.underlying141
 a46:=Tryz.isAgg141
 z46:=Tryz.sizeOf141
 v46:=Tryz.zeroValue141
 t50:=Tryz.underlying121
 a50:=Tryz.isAgg121
 z50:=Tryz.sizeOf121
 v50:=Tryz.zeroValue121
 t53:=Tryz.underlying147
 a53:=Tryz.isAgg147
 z53:=Tryz.sizeOf147
 v53:=Tryz.zeroValue147
 t55:=Tryz.underlying149
 a55:=Tryz.isAgg149
 z55:=Tryz.sizeOf149
 v55:=Tryz.zeroValue149
 t66:=Tryz.underlying180
 a66:=Tryz.isAgg180
 z66:=Tryz.sizeOf180
 v66:=Tryz.zeroValue180
 t70:=Tryz.underlying184
 a70:=Tryz.isAgg184
 z70:=Tryz.sizeOf184
 v70:=Tryz.zeroValue184
 t76:=Tryz.underlying218
 a76:=Tryz.isAgg218
 z76:=Tryz.sizeOf218
 v76:=Tryz.zeroValue218
 t77:=Tryz.underlying219
 a77:=Tryz.isAgg219
 z77:=Tryz.sizeOf219
 v77:=Tryz.zeroValue219 }
end Go.Proofs
namespace Go.Proofs.YtmhjflomgppcnaaGreatDoor
open Go.Dv Go.Nv Go.Shelf Go.RowKit Go.Lib Go.Sort
set_option maxRecDepth 20000
open Go.IntKind (wrap i64 u64)
abbrev wdV(w:List Int):Val:=.mk 0 (w.map lf)
def FG(a b:List Int):Int:=Au (wdV a) (wdV b)
theorem P3{a b:List Int}(h:wdV a=wdV b):a=b:=by
 have h:=HR (fun v:Val=>v.kids.map Val.n) h
 simpa only[WH,Val.kids] using h
abbrev Afd(M:Mem):={p:List Int×Value//p.1.length<=1000000/\repV M (vIs p.1) p.2}
instance (M:Mem):Inhabited (Afd M):=⟨⟨([],.slice none 0 0),by decide,Dw _⟩⟩
def GA{M:Mem}(x:Afd M):Value:=x.1.2
def cfW{M:Mem}(x y:Afd M):Int:=FG x.1.1 y.1.1
theorem Aj3{M:Mem}:SWO (ltOf (cfW (M:=M))) where
 irrefl x:=by simp only[ltOf,cfW,FG,AP.refl _ trivial];decide
 trans x y z h1 h2:=by
  have h1:Au (wdV x.1.1) (wdV y.1.1)<0:=HF h1
  have h2:Au (wdV y.1.1) (wdV z.1.1)<0:=HF h2
  exact H6 (AP.trans (wdV x.1.1) (wdV y.1.1) (wdV z.1.1) trivial trivial trivial h1 h2)
 ntrans x y z h1 h2:=by
  have h1:¬FG x.1.1 y.1.1<0:=Im h1
  have h2:¬FG y.1.1 z.1.1<0:=Im h2
  refine H8 fun h3=>?_
  have h3:FG x.1.1 z.1.1<0:=h3
  have h1':Au (wdV y.1.1) (wdV x.1.1)<=0:=(Gs _ _).2 h1
  have h2':Au (wdV z.1.1) (wdV y.1.1)<=0:=(Gs _ _).2 h2
  exact(Gs _ _).1 (EK h2' h1') h3
theorem XL{g:Gh}{l:List (List Int)}(hl:∀v∈l,v.length<=1000000){us:List Value}(h:Ac g (Ab (l.map vIs)) us):∃ps:List (Afd g.M),ps.map (fun p=>p.1.1)=l/\us=ps.map GA:=by
 induction l generalizing us with
 |nil=>exact⟨[],rfl,by simpa[Ab,Ac] using h⟩
 |cons v l ih=>
  have h':Ac g (.v (vIs v)::Ab (l.map vIs)) us:=h
  simp only[Ac] at h'
  obtain⟨u,us',rfl,h1,h2⟩:=h'
  obtain⟨ps,h5,h6⟩:=ih (fun v hv=>hl v (by simp[hv])) h2
  simp only[Ae] at h1
  exact⟨⟨(v,u),hl v (by simp),h1⟩::ps,by simp[h5],by simp[h6,GA]⟩
theorem TK{g:Gh}(ps:List (Afd g.M)):Ac g (Ab ((ps.map fun p=>p.1.1).map vIs)) (ps.map GA)/\∀c∈Ab ((ps.map fun p=>p.1.1).map vIs),c.one=true:=by
 induction ps with
 |nil=>exact⟨by simp[Ab,Ac],by simp[Ab]⟩
 |cons p ps ih=>
  constructor
  ·show Ac g (.v (vIs p.1.1)::Ab ((ps.map fun p=>p.1.1).map vIs)) (GA p::ps.map GA)
   simp only[Ac]
   exact⟨_,_,rfl,by simp only[Ae];exact p.2.2,ih.1⟩
  ·intro c hc
   have hc:c∈D.v (vIs p.1.1)::Ab ((ps.map fun p=>p.1.1).map vIs):=hc
   rcases Ij.1 hc with rfl|hc
   ·rfl
   ·exact ih.2 c hc
def sortW(l:List (List Int)):List (List Int):=l.mergeSort fun a b=>decide (FG a b<=0)
theorem CX(l:List (List Int)):(sortW l).Perm l:=List.mergeSort_perm l _
theorem Zn{l k:List (List Int)}(hp:k.Perm l)(hs:k.Pairwise fun a b=>decide (FG a b<=0)=true):k=sortW l:=by
 have hso:(sortW l).Pairwise fun a b=>decide (FG a b<=0)=true:=List.pairwise_mergeSort (le:=fun a b=>decide (FG a b<=0)) (fun a b c h1 h2=>H6 (EK (HF h1) (HF h2))) (fun a b=>by
  simp only[Bool.or_eq_true,HE];exact Js (wdV a) (wdV b)) l
 refine List.Perm.eq_of_pairwise (fun a b _ _ h1 h2=>?_) hs hso (hp.trans (CX l).symm)
 have h1:Au (wdV a) (wdV b)<=0:=HF h1
 have h2:Au (wdV b) (wdV a)<=0:=HF h2
 have:=AP.swap (wdV b) (wdV a) trivial trivial
 have:=AP.swap (wdV a) (wdV b) trivial trivial
 exact P3 (JG.1 (by omega))
abbrev Ae2:Prop:=∀a b:List Int,a.length<=1000000->b.length<=1000000->Aa PP 277 [dIs a,dIs b] σ0 (di (FG a b)) σ0
theorem X9(hC:Ae2){g:Gh}{w:World}{σ:St}(hw:WRep g σ w){blk:Nat}(hM:∀o,g.M blk o=none)(n:Nat):CmpLays1 PP 277 #[] (GA (M:=g.M)) cfW blk 0 n w:=by
 intro m os dk _ x y
 obtain⟨W,hW⟩:∃W,W=sortWorld GA w blk 0 m dk os:=⟨_,rfl⟩
 rw[←hW]
 have hmem:∀b o v,g.M b o=some v->W.cell? ⟨b,o,none⟩=some v:=by
  intro b o v h
  have hne:b≠blk:=fun e=>by rw[e,hM] at h;simp at h
  have hc:=hw.mem b o v h
  have hlt:b<w.heap.size:=hw.mem_lt h
  rw[hW,sortWorld,cell?_grow _ _ _ (by rw[Go.Sort.size_putRow];exact hlt),cell?_putRow_other _ _ _ _ _ _ (.inl hne)]
  exact hc
 have hrep:WRep { M:=g.M,β:=g.β,n:=0,ι:=fun _ _=>none,κ:=g.κ } ⟨[],[]⟩ W:=
  { n:=rfl,mem:=hmem,obj:=fun i cs hi=>by simp at hi,inj:=fun i j cs ds hi=>by simp at hi,own:=fun k sz xs hx=>by simp at hx,tags:=by simp,sep:=fun x hx=>by simp at hx,ownObj:=fun x hx=>by simp at hx,fresh:=fun _ _ _=>rfl,gl:=hw.gl,gw:=fun p hp=>by simp[FP] at hp }
 have arg:∀z:Afd g.M,Ae { M:=g.M,β:=g.β,n:=0,ι:=fun _ _=>none,κ:=g.κ } (dIs z.1.1) (GA z):=by
  intro z
  simp only[Ae]
  exact z.2.2
 have hs:=(hC x.1.1 y.1.1 x.2.1 y.2.1).2 _ W [GA x,GA y] hrep (Ao.2 ⟨_,_,rfl,arg x,arg y⟩)
 refine Calls.mono hs ?_
 rintro e w' ⟨u,g',rfl,hwi,hd⟩
 simp only[Ae,A5] at hd
 exact⟨by rw[hd];rfl,WQ hwi⟩
theorem LP(hC:Ae2)(l:List (List Int))(hl:l.length<=100000)(hs:∀v∈l,v.length<=1000000):
  Aa PP 276 [.arr 0 0 l.length,dfn 277] ⟨[some (Ab (l.map vIs))],[]⟩ (.tup []) ⟨[some (Ab ((sortW l).map vIs))],[]⟩:=by
 refine⟨⟨_, Tryz.func276,by kernel_rfl,by kernel_rfl⟩,fun g w args hw hargs=>?_⟩
 obtain⟨u0,u1,rfl,h0,h1⟩:=Ao.1 hargs
 simp only[Ae] at h0 h1
 obtain⟨hn,cap,hcap,rfl⟩:=h0
 obtain⟨us1,vs1,rfl,hu1,hv1⟩:=FZ.1 h1
 simp only[EQ] at hu1 hv1
 subst hu1;subst hv1
 obtain⟨us,rest,et,hb,hr,hone,hM,hκ⟩:=hw.obj 0 _ rfl
 obtain⟨ps,hp1,hp2⟩:=XL hs hr
 have hpl:ps.length=l.length:=by rw[←hp1,H3]
 have hul:us.length=l.length:=by rw[hp2,H3,hpl]
 have hH:Holds GA w (g.β 0) 0 ps.toArray:=by
  intro j hj
  have hj':j<ps.length:=by simpa using hj
  refine⟨?_,by simp[World.frozen?,hb]⟩
  have hg:(us++rest)[j]?=some (GA ps[j]):=by rw[HQ (by omega),hp2,Ik,H4 hj'];rfl
  rw[getElem!_pos ps.toArray j hj]
  simp only[World.cell?,hb,Io,id]
  simpa using hg
 have hblk:g.β 0<w.heap.size:=Gt hb
 have eg:∀args w,(callFunc 277 args).run PP w=.ok (.enter 277 args) w:=enters_of Tryz.func277 (by kernel_rfl) rfl
 have hcon:=Any.slices_SortFunc Tryz.sortW (GA (M:=g.M)) (fun x=>CF (x:=vIs x.1.1) rfl x.2.2) cfW Aj3 277 #[] (g.β 0) 0 cap ps.toArray w eg (X9 hC hw hM _) hH hblk (by simp;omega)
 change Calls PP 276 _ _ _ at hcon
 rw[show ps.toArray.size=l.length by simp[hpl]] at hcon
 refine Calls.mono hcon ?_
 rintro e w' ⟨rfl,d',n,os,hperm,hsorted,rfl⟩
 obtain⟨hsz,_,hperm⟩:=hperm
 have hdl:d'.toList.map (fun p=>p.1.1)=sortW l:=by
  refine Zn ?_ ?_
  ·rw[←hp1]
   have h2:d'.toList.Perm ps:=by simpa[Array.extract_eq_self_of_le,hsz,hpl] using hperm
   exact h2.map _
  ·rw[List.pairwise_iff_getElem]
   intro i j hi hj hij
   have hi':i<d'.size:=by simpa using hi
   have hj':j<d'.size:=by simpa using hj
   have h3:=hsorted i j (Ic _) hij (by simp only[II] at hsz;omega)
   simp only[ltOf,cfW,IM,getElem!_pos d' i hi',getElem!_pos d' j hj'] at h3
   simp only[List.getElem_map,Array.getElem_toList,HE]
   exact(Gs _ _).2 h3
 have hd2:d'.size=l.length:=by rw[hsz];simp[hpl]
 have hFl:(d'.toList.map GA).length=us.length:=by rw[H3,Ig,hd2,hul]
 have hcs:=TK d'.toList
 rw[hdl] at hcs
 have hb2:(putRow GA (Sort.ahead w n) (g.β 0) 0 d').heap[g.β 0]?=some (.cells ((d'.toList.map GA)++rest).toArray et (0,0)):=by
  simp only[putRow,mapBlock,Sort.ahead,Array.getElem?_modify,hb,onCells,IC,I4]
  congr 2
  apply Array.ext_getElem?
  intro t
  simp only[putCells,Array.getElem?_mapIdx,Nat.sub_zero,Ic,true_and,Io,id,I7,II]
  by_cases ht:t<us.length
  ·have htF:t<d'.size:=by omega
   rw[HQ ht,HQ (by omega),H4 ht,I4,HP htF,Ik,IX,getElem!_pos d' t htF,Array.getElem?_eq_getElem htF];rfl
  ·have htF:¬t<d'.size:=by omega
   rw[HN (by omega),HN (by omega),hFl]
   simp only[HL htF,Option.map_id']
 have h2:=(WI.start hw).setObj (cs':=Ab ((sortW l).map vIs)) (q:=0) (w':=putRow GA (Sort.ahead w n) (g.β 0) 0 d') rfl hb2 (by rw[←hκ,HI,HI,hFl]) hcs.1 hcs.2 (fun b hb'=>by
  simp only[putRow,mapBlock,Sort.ahead,Array.getElem?_modify]
  rw[HL (fun h=>hb' h.symm)]) (by rw[Go.Sort.size_putRow];rfl) rfl rfl rfl (drawn:=.of (Nat.le_add_right _ _))
 have h3:=h2.grow (w':=sortWorld GA w (g.β 0) 0 n d' os) (M':=g.M) (Mem.le_refl _) (fun b hb'=>⟨heap_grow_old _ _ hb',fun _=>rfl⟩) (fun b o v h=>by
  rw[sortWorld,cell?_grow _ _ _ (h2.rep.mem_lt h)];exact h2.rep.mem b o v h) (by rw[sortWorld,size_grow];exact Nat.le_add_right _ _) rfl rfl rfl
 exact⟨_,g,rfl,h3,by simp only[Ae];exact⟨[],rfl,by simp[Ac]⟩⟩
end Go.Proofs.YtmhjflomgppcnaaGreatDoor

namespace Go.Proofs.YtmhjflomgppcnaaGreatDoor
open Go.Dv Go.Nv
set_option maxRecDepth 20000
open List (flatten getElem?_set_ne length length_set map replicate set_cons_zero take)
open Go.IntKind (wrap i64 u64)
theorem C7(l:List Val):∀y∈l.map eV,y.size=2:=fun y hy=>by obtain⟨v,_,rfl⟩:=Il.1 hy;exact Qo v
theorem AB(v:Val)(l:List Val):Ab ((v::l).map eV)=[.v (vi v.n),.v (vVs v.kids)]++Ab (l.map eV):=by
 simp only[Ab,HU,List.flatMap_cons,IJ]
 rw[Bz];rfl
theorem BA:∀l:List Val,(Ab (l.map eV)).length=l.length*2
 |[]=>rfl
 |v::l=>by rw[AB,HI,BA l,H9];simp;omega
theorem EN(l k:List Val):Ab ((l++k).map eV)=Ab (l.map eV)++Ab (k.map eV):=by
 simp only[Ab,IJ,List.flatMap_append]
theorem K4{l:List Val}{i:Nat}{x:Val}(h:l[i]?=some x):((Ab (l.map eV)).drop (i*2)).take 2=[.v (vi x.n),.v (vVs x.kids)]:=by
 obtain⟨hi,rfl⟩:=H7.1 h
 have e:l=l.take i++l[i]::l.drop (i+1):=by rw[←HJ hi,List.take_append_drop]
 conv=>lhs;rw[e]
 rw[EN,AB,List.drop_left' (by rw[BA,HY];omega)]
 rfl
theorem OO{l:List Val}{i:Nat}{x:Val}(h:l[i]?=some x):(Ab (l.map eV)).take (i*2)++[.v (vi x.n),.v (vVs x.kids)]++(Ab (l.map eV)).drop (i*2+2)=Ab (l.map eV):=by
 rw[←K4 h,IA]
 conv=>rhs;rw[←List.take_append_drop (i*2) (Ab (l.map eV))]
 rw[List.append_cancel_left_eq, ←List.drop_drop]
 exact List.take_append_drop 2 _
theorem A3(l:List V):D.pls (Ab l)=true:=BT _
theorem Ai(n:Nat)(ts:List Nat)(l:List V):D.okNs n ts (Ab l)=true:=by
 unfold Ab
 induction l.flatMap V.cellsV with
 |nil=>rfl
 |cons x l ih=>simp only[HU,D.okNs,D.okN,ih,Ib]
noncomputable abbrev AdS:Func:= Tryz.f91
theorem Ab5:Aa PP 91 [dVs []] σ0 (dVs []) σ0:=by
 refine MC (ds:=[]) (ds':=[]) fun a cap=>?_
 cases a with
 |none=>
  refine sv AdS 8 [] .r (D.v (Azf [])=dVs []) ?_
  rfl
 |some a=>
  refine sv AdS 8 [] (.a 1<|.h (.q 3 2)<|.h (.un 6)<|.r) (Q nV/\Ar 0 32/\D.v (Azf [])=dVs []) ?_
  refine⟨rfl,⟨by simp,by simp⟩,?_⟩
  rfl
noncomputable abbrev Akr:=fun a₀=>(Ab (map eV a₀))
theorem TA(l:List Val)(hl:l.length<=1000000)(h:l≠ []):Aa PP 91 [dVs l] σ0 (.arr 1 0 l.length) ⟨[none,some (Ab (l.map eV))],[]⟩:=by
 refine sv AdS 8 [] (.h .g<|.h (.q 3 3)<|.h (.ga 7) .ro) (map eV l≠ []/\Q 0/\map eV l≠ []/\(∀(y:V),y∈map eV l->V.size y=2)/\Ar (0+length (map eV l)) 32/\okH 2 [] [none,some ([]++Ab (map eV l))]=true/\[none,some ([]++Ab (map eV l))]=[none,some (Akr l)]/\Azi 1 0 (0+length (map eV l))=Azi 1 0 l.length) ?_
 refine⟨by simpa using h,rfl,by simpa using h,C7 l,⟨by simp;omega,by simp;omega⟩,?_,?_,?_⟩
 ·simp[okH,Ai]
 ·simp
 ·simp
noncomputable abbrev AeH:Func:= Tryz.f53
noncomputable def AeO:Code:=AeH.body.getD .skip
abbrev stO(l:List Val):St:=⟨[some [di 0,.v .nils],some (Ab (l.map eV))],[]⟩
noncomputable abbrev Ana:=fun a₀ b₀=>[di a₀,dVs b₀]
noncomputable abbrev Ao3:=fun a₀ b₀=>(Azh [vi a₀,Azf (Alj b₀)])
theorem ZU(v:Val)(hv:v.size<=1000000)(hk:∀x∈v.kids,Aa PP 53 [dV x] σ0 (dV x) σ0)(n:Nat):∀k:Nat,v.kids.length-k=n->
  Rn PP AeH 0 (dV v) σ0 ([.lp (sub AeO [1,1,0,1,0,0]),.blk 0,.code (sub AeO [1,1,1])]++[]) (mkE 26 [(1,.v (.ref (Af v))),(2,.ptr 0 0),(3,.arr 1 0 v.kids.length),(9,.arr 1 0 v.kids.length),(10,di v.kids.length),(11,di k)]) (stO v.kids):=by
 induction n with
 |zero=>
  intro k hn
  refine lv 26 [1] (.f<|.h (.q 7 0)<|.h (.ct 3 (dVs v.kids) ⟨[some [di 0,.v .nils],none],[]⟩) .r) (decide ((k:Int)<(v.kids.length:Int))=false/\(∀(e:List D),e[3]?=some (Azi 1 0 v.kids.length)->∀(E:Ent) (g:Gh) (a:Act) (w:World),FI E g (stO v.kids) e a w->∃g',FI E g' (Azd [some [di 0,dn],none] []) (List.set e 3 (dVs v.kids)) a w)/\D.v (Ao3 v.n v.kids)=dV v) ?_
  exact⟨H8 (by omega),fun e he=>Xx (σ:=stO v.kids) (q:=1) (sz:=2) (by decide) (C7 _) (by simp) rfl he,rfl⟩
 |succ n ih=>
  intro k hn
  obtain⟨x,hx⟩:∃x,v.kids[k]?=some x:=⟨_,H4 (show k<v.kids.length by omega)⟩
  refine lv 26 [1] (.t<|.m (dV x)<|.c (dV x)<|.h .ww<|.lo [ke 1,ke 2,ke 3,ke 9,ke 10,ch 11 (di (k+1:Nat))] (stO v.kids)) (decide ((k:Int)<(v.kids.length:Int))=true/\0<=(k:Int)/\(k:Int)<(v.kids.length:Int)/\0+Int.toNat (k:Int)*2+2<=length (Akr v.kids)/\take 2 (List.drop (0+Int.toNat (k:Int)*2) (Akr v.kids))=(Ana x.n x.kids)/\F0 53 [dV x] (dV x)/\0<=(k:Int)/\(k:Int)<(v.kids.length:Int)/\0+Int.toNat (k:Int)*2+2<=length (Akr v.kids)/\di (wrap i64 ((k:Int)+1))=di (↑(k+1):Int)/\okH 2 [] [some [di 0,dn],some (take (0+Int.toNat (k:Int)*2) (Akr v.kids)++(Ana x.n x.kids)++List.drop (0+Int.toNat (k:Int)*2+2) (Akr v.kids))]=true/\[some [di 0,dn],some (take (0+Int.toNat (k:Int)*2) (Akr v.kids)++(Ana x.n x.kids)++List.drop (0+Int.toNat (k:Int)*2+2) (Akr v.kids))]=[some [di 0,dn],some (Akr v.kids)]/\I0 AeH 0 (dV v) σ0 [kl AeO Akw,Aza 0,kc AeO [1,1,1]] (mkE 26 [(1,D.v (Apv v)),An1,(3,Azi 1 0 v.kids.length),(9,Azi 1 0 v.kids.length),(Apc v.kids.length),(11,di (↑(k+1):Int))]) (stO v.kids)) ?_
  have hk2:k<v.kids.length:=(H7.1 hx).1
  have e0:0+Int.toNat (k:Int)*2=k*2:=by omega
  have hl:k*2+2<=(Ab (v.kids.map eV)).length:=by rw[BA];omega
  rw[e0]
  refine⟨H6 (by omega),by omega,by omega,hl,K4 hx,hk x (HA hx),by omega,by omega,hl,Ad (by have:=Val.length_le v.kids;have:=v.size_eq;omega),?_,?_,⟨ih (k+1) (by omega)⟩⟩
  ·rw[OO hx];simp[okH,D.okNs,D.okN,Ai]
  ·rw[OO hx]
theorem Rl(N:Nat):∀v:Val,v.size<=N->v.size<=1000000->Aa PP 53 [dV v] σ0 (dV v) σ0:=by
 induction N with
 |zero=>intro v h;have:=v.size_pos;omega
 |succ N ih=>
 intro v hN hv
 have hs:=v.size_eq
 have hl:=Val.length_le v.kids
 by_cases h:v.kids=[]
 ·refine sv AeH 26 [1] (.c (dVs [])<|.n<|.f .r) (F0 91 [dVs v.kids] (dVs [])/\decide (0<(length (map eV []):Int))=false/\D.v (Azh [vi v.n,Azf []])=dV v) ?_
  refine⟨?_,rfl,?_⟩
  ·rw[h];exact Ab5
  ·rw[show dV v=D.v (.agg [vi v.n,vVs v.kids]) from rfl,h];rfl
 ·refine sv AeH 26 [1] (.h (.q 1 2)<|.h (.oc (.arr 1 0 v.kids.length) (stO v.kids))<|.lo [ke 1,ke 2,ke 3,ke 9,ke 10,ch 11 (di (0:Nat))] (stO v.kids)) ((N0 [D.v (Azl 91 [] []),dVs v.kids] (Azd [some [di 0,dn]] []) (Azi 1 0 v.kids.length) (stO v.kids))/\di 0=di (↑0:Int)/\okH 2 [] [some [di 0,dn],some (Akr v.kids)]=true/\Q [some [di 0,dn],some (Akr v.kids)]/\I0 AeH σ0.H.length (dV v) σ0 [kl AeO Akw,Aza 0,kc AeO [1,1,1]] (mkE 26 [(1,D.v (Apv v)),An1,(3,Azi 1 0 v.kids.length),(9,Azi 1 0 v.kids.length),(Apc v.kids.length),(11,di (↑0:Int))]) (stO v.kids)) ?_
  refine⟨fun o c fo ho hc=>?_,rfl,by simp[okH,D.okNs,D.okN,Ai],rfl,⟨ZU v hv (fun x hx=>?_) _ 0 rfl⟩⟩
  ·exact DY (σ:=⟨[some [di 0,.v .nils]],[]⟩) (fs:=[]) (cs:=[]) (ds:=[dVs v.kids]) ho hc rfl (Hc:=[none,some (Ab (v.kids.map eV))]) (j:=1) rfl (A3 _) (TA v.kids (by omega) h)
  ·have:=Val.size_mem hx
   exact ih x (by omega) (by omega)
noncomputable abbrev AgR:Func:= Tryz.f56
noncomputable def Afc:Code:=AgR.body.getD .skip
abbrev ZV(l:List Val):St:=⟨[],[(1,2,l.map eV)]⟩
noncomputable abbrev Apd:=fun a₀ b₀=>(map eV (take a₀ b₀))
noncomputable abbrev Apn:=fun a₀ b₀=>(map eV (take (a₀+1) b₀))
theorem AbU(l:List Val)(hl:l.length<=100000)(hs:∀v∈l,v.size<=1000000)(n:Nat):∀k:Nat,l.length-k=n->
  Rn PP AgR 0 (.acc 1 (l.map eV)) (ZV l) ([.lp (sub Afc [1,1,0,1,0,0]),.blk 0,.code (sub Afc [1,1,1])]++[]) (mkE 22 [(3,.acc 1 ((l.take k).map eV)),(9,dVs l),(10,di l.length),(11,di k)]) (ZV (l.take k)):=by
 induction n with
 |zero=>
  intro k hn
  refine lv 22 [] (.f .r) (decide ((k:Int)<(l.length:Int))=false/\[(1,2,map eV (take k l))]=[(1,2,map eV l)]/\Azc 1 (map eV (take k l))=Azc 1 (map eV l)) ?_
  rw[HW (by omega)]
  exact⟨H8 (by omega),rfl,rfl⟩
 |succ n ih=>
  intro k hn
  obtain⟨x,hx⟩:∃x,l[k]?=some x:=⟨_,H4 (show k<l.length by omega)⟩
  refine lv 22 [] (.t<|.h (.xs (Af x))<|.c (dV x)<|.ls [ch 3 (.acc 1 ((l.take (k+1)).map eV)),ke 9,ke 10,ch 11 (di (k+1:Nat))] (ZV (l.take (k+1)))) (decide ((k:Int)<(l.length:Int))=true/\Q 2/\0<=(k:Int)/\(map eV l)[Int.toNat (k:Int)]?=some (Af x)/\F0 53 [dV x] (dV x)/\Q (map eV (take k l))/\Ar (length (map eV (take k l))+length (Af x::nV)) 32/\Azc 1 (map eV (take k l)++[Af x])=Azc 1 (map eV (take (k+1) l))/\di (wrap i64 ((k:Int)+1))=di (↑(k+1):Int)/\[(1,2,map eV (take k l)++Af x::nV)]=[(1,2,map eV (take (k+1) l))]/\I0 AgR 0 (Azc 1 (map eV l)) (ZV l) [kl Afc [1,1,0,1,0,0],Aza 0,kc Afc [1,1,1]] (mkE 22 [(3,Azc 1 (map eV (take (k+1) l))),(9,dVs l),(10,di (l.length:Int)),(11,di (↑(k+1):Int))]) (ZV (take (k+1) l))) ?_
  have hk:=(H7.1 hx).1
  have ht:l.take (k+1)=l.take k++[x]:=by rw[IF,hx];rfl
  have hxs:=hs x (HA hx)
  refine⟨H6 (by omega),rfl,by omega,As hx,Rl _ x (HB _) hxs,rfl,⟨?_,?_⟩,?_,Ad (by omega),?_,⟨ih (k+1) (by omega)⟩⟩
  ·simp only[H3,HY,H9,HD];omega
  ·simp only[H3,HY,H9,HD];omega
  ·rw[BB, ←ht]
  ·rw[ht, ←BB]
theorem AbT(l:List Val)(hl:l.length<=100000)(hs:∀v∈l,v.size<=1000000):Aa PP 56 [dVs l] σ0 (.acc 1 (l.map eV)) (ZV l):=by
 refine sv AgR 22 [] (.a 1<|.ls [ke 3,ke 9,ch 10 (di l.length),ch 11 (di (0:Nat))] (ZV [])) (iz 0=0/\0<=(length (map eV l):Int)/\(32:Int)*(length (map eV l):Int)<=281474976710656/\(length (map eV l):Int)<=9223372036854775807/\di (length (map eV l):Int)=di (l.length:Int)/\di 0=di (↑0:Int)/\Q [(1,2,nV)]/\I0 AgR σ0.H.length (Azc 1 (map eV l)) (ZV l) [kl Afc Akw,Aza 0,kc Afc [1,1,1]] (mkE 22 [(3,Azc 1 []),(9,dVs l),(Apc l.length),(11,di (↑0:Int))]) (ZV [])) ?_
 refine⟨rfl,by omega,by rw[H3];omega,by rw[H3];omega,by rw[H3],rfl,rfl,⟨?_⟩⟩
 have:=AbU l hl hs _ 0 rfl
 simpa using this
theorem GT{n:Nat}{ts:List Nat}:∀{a b:List D},D.okNs n ts a=true->D.okNs n ts b=true->D.okNs n ts (a++b)=true
 |[],b,_,h=>h
 |x::a,b,h1,h2=>by
  simp only[Jk,D.okNs,H5] at h1⊢
  exact⟨h1.1,GT h1.2 h2⟩
noncomputable abbrev Aip:Func:= Tryz.f93
noncomputable abbrev Agt:Func:= Tryz.f144
theorem SD(x v:Val)(hx:x.size<=1000000):Aa PP 144 [dV x,.v (.ref (Af v))] σ0 (db (Au x v==0)) σ0:=by
 refine sv Agt 7 [2] (.c (db (Au x v==0)) .r) (F0 119 [dV x,dV v] (db (Au x v==0))/\Q (db (Au x v==0))) ?_
 exact⟨LO x v hx,rfl⟩
def Ew(l:List Val)(v:Val):Int:=ixM (fun x=>Au x v==0) l 0
theorem Od(l:List Val)(hl:l.length<=1000000)(hs:∀v∈l,v.size<=1000000)(v:Val):Aa PP 93 [dVs l,dV v] σ0 (di (Ew l v)) σ0:=by
 refine sv Aip 8 [3] (.c (di (Ew l v)) .r) (F0 68 [dVs l,D.v (Azl 144 [] [Azo (Af v)])] (di (Ew l v))/\Q (di (Ew l v))) ?_
 exact⟨Nq _ [] [_] _ l hl fun x hx=>SD x v (hs x hx),rfl⟩
abbrev vPr(p:Int×Int):V:=.agg [vi p.1,vi p.2]
abbrev Cb(l:List (Int×Int)):V:=.list (l.map vPr)
abbrev AC(l:List (Int×Int)):D:=.v (Cb l)
theorem Oc(l:List (Int×Int)):∀y∈l.map vPr,y.size=2:=fun y hy=>by obtain⟨p,_,rfl⟩:=Il.1 hy;rfl
noncomputable abbrev Ajs:Func:= Tryz.f282
theorem AaP(n:Nat)(hn:n<=1000000):Aa PP 282 [.v .nils,di n] σ0 (.acc 1 []) ⟨[],[(1,1,[])]⟩:=by
 have h1:i64.wrap (0-0)=0:=by decide
 by_cases h:n=0
 ·subst h
  refine sv Ajs 27 [] (.f<|.f<|.h (.q 6 0)<|.h (.nw 0 1 1) .r) (decide ((↑0:Int)<0)=false/\decide (wrap i64 ((↑0:Int)-wrap i64 (0-0))>0)=false/\Q [(1,1,nV)]/\Q Anz) ?_
  exact⟨by decide,by decide,rfl,rfl⟩
 ·refine sv Ajs 27 [] (.f<|.t<|.a 1 .r) (decide ((n:Int)<0)=false/\decide (wrap i64 ((n:Int)-wrap i64 (0-0))>0)=true/\iz 0=0/\0<wrap i64 ((n:Int)-wrap i64 (0-0))/\Ar (Int.toNat (wrap i64 ((n:Int)-wrap i64 (0-0)))) 8/\iz 0=0/\Q [(1,1,nV)]/\Q Anz) ?_
  have h2:i64.wrap ((n:Int)-i64.wrap (0-0))=n:=by rw[h1,Al (by omega) (by omega)];omega
  rw[h2]
  refine⟨by simp,by simp;omega,by simp,by omega,⟨by simp;omega,by simp;omega⟩,by simp,rfl,rfl⟩
noncomputable abbrev AcB:Func:= Tryz.f275
noncomputable def Um:Code:=AcB.body.getD .skip
abbrev GF(ls:List (List (Int))):List V:=ls.map fun l=>.list (l.map vi)
theorem X7(ls:List (List (Int)))(hl:ls.length<=1000)(ht:ls.flatten.length<=1000000)(n:Nat):∀k:Nat,ls.length-k=n->
  Rn PP AcB 0 (dl (ls.flatten.map vi)) σ0 ([.lp (sub Um [1,1,1,1,0,1,0,0]),.blk 2,.code (sub Um [1,1,1,1,1])]++[]) (mkE 36 [(0,dl (GF ls)),(6,.acc 1 ((ls.take k).flatten.map vi)),(25,dl (GF ls)),(26,di ls.length),(27,di k)]) ⟨[],[(1,1,(ls.take k).flatten.map vi)]⟩:=by
 induction n using Nat.strongRecOn with
 |_ n ih=>
 intro k hn
 refine lv 36 [] (.b (.e fun x:List (Int)=>.x (.list (x.map vi))<|.w<|.ls [ke 0,ch 6 (.acc 1 ((ls.take (k+1)).flatten.map vi)),ke 25,ke 26,ch 27 (di (k+1:Nat))] ⟨[],[(1,1,(ls.take (k+1)).flatten.map vi)]⟩) .r) ((decide ((k:Int)<(ls.length:Int))=true->∃a,0<=(k:Int)/\(GF ls)[Int.toNat (k:Int)]?=some (Aqp a)/\map vi (flatten (take k ls))=map vi (flatten (take k ls))/\Ar (length (map vi (flatten (take k ls)))+length (map vi a)) 8/\(∀(y:V),y∈map vi a->V.size y=1)/\Azc 1 (map vi (flatten (take k ls))++map vi a)=Azc 1 (map vi (flatten (take (k+1) ls)))/\di (wrap i64 ((k:Int)+1))=di (↑(k+1):Int)/\[(1,1,map vi (flatten (take k ls))++map vi a)]=[(1,1,map vi (flatten (take (k+1) ls)))]/\Nv.It (A1 (CN 0) PP (fun env σ1=>Aw PP AcB env σ1 (dl (map vi (flatten ls))) σ0) [kl Um Aod,Aza 2,kc Um [1,1,1,1,1]] (mkE 36 [(0,D.v (Azf (GF ls))),(6,Azc 1 (map vi (flatten (take (k+1) ls)))),(25,D.v (Azf (GF ls))),(26,di (ls.length:Int)),(27,di (↑(k+1):Int))]) (Azd [] [(1,1,map vi (flatten (take (k+1) ls)))])))/\(decide ((k:Int)<(ls.length:Int))=false->D.v (Azf (map vi (flatten (take k ls))))=dl (map vi (flatten ls)))) ?_
 refine⟨fun h=>?_,fun h=>?_⟩
 ·have hk:k<ls.length:=by simpa using h
  have hx:ls[k]?=some ls[k]:=H4 hk
  have hf:=Dl hk
  have hle:=Fo ls (k+1)
  have hih:=ih (ls.length- (k+1)) (by omega) (k+1) rfl
  rw[hf] at hle hih⊢
  generalize ls[k]=x at hx hle hih⊢
  simp only[HI] at hle
  refine⟨x,by omega,by simp[hx],rfl,Mb (by omega) (by decide),Ec x,by simp,Ad (by omega),by simp,⟨hih⟩⟩
 ·have hk:ls.length<=k:=by simpa using h
  rw[HW hk]
theorem X8(ls:List (List (Int)))(hl:ls.length<=1000)(ht:ls.flatten.length<=1000000)(n:Nat):∀k:Nat,ls.length-k=n->
  Rn PP AcB 0 (dl (ls.flatten.map vi)) σ0 ([.lp (sub Um [1,1,0,1,0,0]),.blk 0,.code (sub Um [1,1,1])]++[]) (mkE 36 [(0,dl (GF ls)),(3,di ((ls.take k).flatten.length:Nat)),(9,dl (GF ls)),(10,di ls.length),(11,di k)]) σ0:=by
 induction n using Nat.strongRecOn with
 |_ n ih=>
 intro k hn
 refine lv 36 [] (.b (.e fun x:List (Int)=>.x (.list (x.map vi))<|.f<|.l [ke 0,ch 3 (di ((ls.take (k+1)).flatten.length:Nat)),ke 9,ke 10,ch 11 (di (k+1:Nat))]) (.h (.ckn 1 1 1 [])<|.ls [ke 0,ch 6 (.acc 1 ((ls.take 0).flatten.map vi)),ke 25,ch 26 (di ls.length),ch 27 (di (0:Nat))] ⟨[],[(1,1,(ls.take 0).flatten.map vi)]⟩)) ((decide ((k:Int)<(ls.length:Int))=true->∃a,0<=(k:Int)/\(GF ls)[Int.toNat (k:Int)]?=some (Aqp a)/\decide (wrap i64 ((length (flatten (take k ls)):Int)+(length (map vi a):Int))<0)=false/\di (wrap i64 ((length (flatten (take k ls)):Int)+(length (map vi a):Int)))=di (length (flatten (take (k+1) ls)):Int)/\di (wrap i64 ((k:Int)+1))=di (↑(k+1):Int)/\Nv.It (A1 (CN 0) PP (fun env σ1=>Aw PP AcB env σ1 (dl (map vi (flatten ls))) σ0) [kl Um Akw,Aza 0,kc Um [1,1,1]] (mkE 36 [(0,D.v (Azf (GF ls))),(3,di (length (flatten (take (k+1) ls)):Int)),(9,D.v (Azf (GF ls))),(Apc ls.length),(11,di (↑(k+1):Int))]) σ0))/\(decide ((k:Int)<(ls.length:Int))=false->Aa PP 282 [dn,di (length (flatten (take k ls)):Int)] Akz Anz Ard/\Q Anz/\di (length (GF ls):Int)=di (ls.length:Int)/\di 0=di (↑0:Int)/\Q [(1,1,nV)]/\I0 AcB 0 (dl (map vi (flatten ls))) σ0 [kl Um Aod,Aza 2,kc Um [1,1,1,1,1]] (mkE 36 [(0,D.v (Azf (GF ls))),(6,Azc 1 []),(25,D.v (Azf (GF ls))),(26,di (ls.length:Int)),(27,di (↑0:Int))]) Ard)) ?_
 refine⟨fun h=>?_,fun h=>?_⟩
 ·have hk:k<ls.length:=by simpa using h
  have hx:ls[k]?=some ls[k]:=H4 hk
  have hf:=HR length (Dl hk)
  rw[HI] at hf
  have hle:=Fo ls (k+1)
  generalize ls[k]=x at hx hf⊢
  have h2:i64.wrap ((((ls.take k).flatten.length:Nat):Int)+((x.map vi).length:Int))=(((ls.take (k+1)).flatten.length:Nat):Int):=by rw[Al (by simp only[H3];omega) (by simp only[H3];omega),hf];simp
  refine⟨x,by omega,by simp[hx],by rw[h2];simp,by rw[h2],Ad (by omega),⟨?_⟩⟩
  exact ih (ls.length- (k+1)) (by omega) (k+1) rfl
 ·have hk:ls.length<=k:=by simpa using h
  rw[HW hk]
  refine⟨AaP ls.flatten.length ht,rfl,by simp,rfl,rfl,⟨?_⟩⟩
  exact X7 ls hl ht _ 0 rfl
theorem Abv(ls:List (List (Int)))(hl:ls.length<=1000)(ht:ls.flatten.length<=1000000):Aa PP 275 [dl (GF ls)] σ0 (dl (ls.flatten.map vi)) σ0:=by
 refine sv AcB 36 [] (.l [ke 0,ch 3 (di ((ls.take 0).flatten.length:Nat)),ke 9,ch 10 (di ls.length),ch 11 (di (0:Nat))]) (di 0=di (length (flatten (take 0 ls)):Int)/\di (length (GF ls):Int)=di (ls.length:Int)/\di 0=di (↑0:Int)/\I0 AcB σ0.H.length (dl (map vi (flatten ls))) σ0 [kl Um Akw,Aza 0,kc Um [1,1,1]] (mkE 36 [(0,dl (GF ls)),(3,di (length (flatten (take 0 ls)):Int)),(9,dl (GF ls)),(Apc ls.length),(11,di (↑0:Int))]) σ0) ?_
 refine⟨rfl,by simp,rfl,⟨?_⟩⟩
 exact X8 ls hl ht _ 0 rfl
noncomputable abbrev AgE:Func:= Tryz.f263
theorem WR(n:Nat)(hn:n<=1000000):Aa PP 263 [.v .nils,di n] σ0 (.acc 1 []) ⟨[],[(1,2,[])]⟩:=by
 have h1:i64.wrap (0-0)=0:=by decide
 by_cases h:n=0
 ·subst h
  refine sv AgE 27 [] (.f<|.f<|.h (.q 6 0)<|.h (.nw 0 1 2) .r) (decide ((↑0:Int)<0)=false/\decide (wrap i64 ((↑0:Int)-wrap i64 (0-0))>0)=false/\Q [(1,2,nV)]/\Q Anz) ?_
  exact⟨by decide,by decide,rfl,rfl⟩
 ·refine sv AgE 27 [] (.f<|.t<|.a 1 .r) (decide ((n:Int)<0)=false/\decide (wrap i64 ((n:Int)-wrap i64 (0-0))>0)=true/\iz 0=0/\0<wrap i64 ((n:Int)-wrap i64 (0-0))/\Ar (Int.toNat (wrap i64 ((n:Int)-wrap i64 (0-0)))) 16/\iz 0=0/\Q [(1,2,nV)]/\Q Anz) ?_
  have h2:i64.wrap ((n:Int)-i64.wrap (0-0))=n:=by rw[h1,Al (by omega) (by omega)];omega
  rw[h2]
  refine⟨by simp,by simp;omega,by simp,by omega,⟨by simp;omega,by simp;omega⟩,by simp,rfl,rfl⟩
noncomputable abbrev OW:Func:= Tryz.f237
noncomputable def G2:Code:=OW.body.getD .skip
abbrev DB(ls:List (List (Int×Int))):List V:=ls.map fun l=>.list (l.map vPr)
theorem T5(ls:List (List (Int×Int)))(hl:ls.length<=1000)(ht:ls.flatten.length<=1000000)(n:Nat):∀k:Nat,ls.length-k=n->
  Rn PP OW 0 (dl (ls.flatten.map vPr)) σ0 ([.lp (sub G2 [1,1,1,1,0,1,0,0]),.blk 2,.code (sub G2 [1,1,1,1,1])]++[]) (mkE 36 [(0,dl (DB ls)),(6,.acc 1 ((ls.take k).flatten.map vPr)),(25,dl (DB ls)),(26,di ls.length),(27,di k)]) ⟨[],[(1,2,(ls.take k).flatten.map vPr)]⟩:=by
 induction n using Nat.strongRecOn with
 |_ n ih=>
 intro k hn
 refine lv 36 [] (.b (.e fun x:List (Int×Int)=>.x (.list (x.map vPr))<|.w<|.ls [ke 0,ch 6 (.acc 1 ((ls.take (k+1)).flatten.map vPr)),ke 25,ke 26,ch 27 (di (k+1:Nat))] ⟨[],[(1,2,(ls.take (k+1)).flatten.map vPr)]⟩) .r) ((decide ((k:Int)<(ls.length:Int))=true->∃a,0<=(k:Int)/\(DB ls)[Int.toNat (k:Int)]?=some (Azf (map vPr a))/\map vPr (flatten (take k ls))=map vPr (flatten (take k ls))/\Ar (length (map vPr (flatten (take k ls)))+length (map vPr a)) 16/\(∀(y:V),y∈map vPr a->V.size y=2)/\Azc 1 (map vPr (flatten (take k ls))++map vPr a)=Azc 1 (map vPr (flatten (take (k+1) ls)))/\di (wrap i64 ((k:Int)+1))=di (↑(k+1):Int)/\[(1,2,map vPr (flatten (take k ls))++map vPr a)]=[(1,2,map vPr (flatten (take (k+1) ls)))]/\Nv.It (A1 (CN 0) PP (fun env σ1=>Aw PP OW env σ1 (dl (map vPr (flatten ls))) σ0) [kl G2 Aod,Aza 2,kc G2 [1,1,1,1,1]] (mkE 36 [(0,D.v (Azf (DB ls))),(6,Azc 1 (map vPr (flatten (take (k+1) ls)))),(25,D.v (Azf (DB ls))),(26,di (ls.length:Int)),(27,di (↑(k+1):Int))]) (Azd [] [(1,2,map vPr (flatten (take (k+1) ls)))])))/\(decide ((k:Int)<(ls.length:Int))=false->D.v (Azf (map vPr (flatten (take k ls))))=dl (map vPr (flatten ls)))) ?_
 refine⟨fun h=>?_,fun h=>?_⟩
 ·have hk:k<ls.length:=by simpa using h
  have hx:ls[k]?=some ls[k]:=H4 hk
  have hf:=Dl hk
  have hle:=Fo ls (k+1)
  have hih:=ih (ls.length- (k+1)) (by omega) (k+1) rfl
  rw[hf] at hle hih⊢
  generalize ls[k]=x at hx hle hih⊢
  simp only[HI] at hle
  refine⟨x,by omega,by simp[hx],rfl,Mb (by omega) (by decide),Oc x,by simp,Ad (by omega),by simp,⟨hih⟩⟩
 ·have hk:ls.length<=k:=by simpa using h
  rw[HW hk]
noncomputable abbrev Arc:=(Azd [] [(1,2,[])])
theorem T6(ls:List (List (Int×Int)))(hl:ls.length<=1000)(ht:ls.flatten.length<=1000000)(n:Nat):∀k:Nat,ls.length-k=n->
  Rn PP OW 0 (dl (ls.flatten.map vPr)) σ0 ([.lp (sub G2 [1,1,0,1,0,0]),.blk 0,.code (sub G2 [1,1,1])]++[]) (mkE 36 [(0,dl (DB ls)),(3,di ((ls.take k).flatten.length:Nat)),(9,dl (DB ls)),(10,di ls.length),(11,di k)]) σ0:=by
 induction n using Nat.strongRecOn with
 |_ n ih=>
 intro k hn
 refine lv 36 [] (.b (.e fun x:List (Int×Int)=>.x (.list (x.map vPr))<|.f<|.l [ke 0,ch 3 (di ((ls.take (k+1)).flatten.length:Nat)),ke 9,ke 10,ch 11 (di (k+1:Nat))]) (.h (.ckn 1 1 2 [])<|.ls [ke 0,ch 6 (.acc 1 ((ls.take 0).flatten.map vPr)),ke 25,ch 26 (di ls.length),ch 27 (di (0:Nat))] ⟨[],[(1,2,(ls.take 0).flatten.map vPr)]⟩)) ((decide ((k:Int)<(ls.length:Int))=true->∃a,0<=(k:Int)/\(DB ls)[Int.toNat (k:Int)]?=some (Azf (map vPr a))/\decide (wrap i64 ((length (flatten (take k ls)):Int)+(length (map vPr a):Int))<0)=false/\di (wrap i64 ((length (flatten (take k ls)):Int)+(length (map vPr a):Int)))=di (length (flatten (take (k+1) ls)):Int)/\di (wrap i64 ((k:Int)+1))=di (↑(k+1):Int)/\Nv.It (A1 (CN 0) PP (fun env σ1=>Aw PP OW env σ1 (dl (map vPr (flatten ls))) σ0) [kl G2 Akw,Aza 0,kc G2 [1,1,1]] (mkE 36 [(0,D.v (Azf (DB ls))),(3,di (length (flatten (take (k+1) ls)):Int)),(9,D.v (Azf (DB ls))),(Apc ls.length),(11,di (↑(k+1):Int))]) σ0))/\(decide ((k:Int)<(ls.length:Int))=false->Aa PP 263 [dn,di (length (flatten (take k ls)):Int)] Akz Anz Arc/\Q Anz/\di (length (DB ls):Int)=di (ls.length:Int)/\di 0=di (↑0:Int)/\Q [(1,2,nV)]/\I0 OW 0 (dl (map vPr (flatten ls))) σ0 [kl G2 Aod,Aza 2,kc G2 [1,1,1,1,1]] (mkE 36 [(0,D.v (Azf (DB ls))),(6,Azc 1 []),(25,D.v (Azf (DB ls))),(26,di (ls.length:Int)),(27,di (↑0:Int))]) Arc)) ?_
 refine⟨fun h=>?_,fun h=>?_⟩
 ·have hk:k<ls.length:=by simpa using h
  have hx:ls[k]?=some ls[k]:=H4 hk
  have hf:=HR length (Dl hk)
  rw[HI] at hf
  have hle:=Fo ls (k+1)
  generalize ls[k]=x at hx hf⊢
  have h2:i64.wrap ((((ls.take k).flatten.length:Nat):Int)+((x.map vPr).length:Int))=(((ls.take (k+1)).flatten.length:Nat):Int):=by rw[Al (by simp only[H3];omega) (by simp only[H3];omega),hf];simp
  refine⟨x,by omega,by simp[hx],by rw[h2];simp,by rw[h2],Ad (by omega),⟨?_⟩⟩
  exact ih (ls.length- (k+1)) (by omega) (k+1) rfl
 ·have hk:ls.length<=k:=by simpa using h
  rw[HW hk]
  refine⟨WR ls.flatten.length ht,rfl,by simp,rfl,rfl,⟨?_⟩⟩
  exact T5 ls hl ht _ 0 rfl
theorem L8(ls:List (List (Int×Int)))(hl:ls.length<=1000)(ht:ls.flatten.length<=1000000):Aa PP 237 [dl (DB ls)] σ0 (dl (ls.flatten.map vPr)) σ0:=by
 refine sv OW 36 [] (.l [ke 0,ch 3 (di ((ls.take 0).flatten.length:Nat)),ke 9,ch 10 (di ls.length),ch 11 (di (0:Nat))]) (di 0=di (length (flatten (take 0 ls)):Int)/\di (length (DB ls):Int)=di (ls.length:Int)/\di 0=di (↑0:Int)/\I0 OW σ0.H.length (dl (map vPr (flatten ls))) σ0 [kl G2 Akw,Aza 0,kc G2 [1,1,1]] (mkE 36 [(0,dl (DB ls)),(3,di (length (flatten (take 0 ls)):Int)),(9,dl (DB ls)),(Apc ls.length),(11,di (↑0:Int))]) σ0) ?_
 refine⟨rfl,by simp,rfl,⟨?_⟩⟩
 exact T6 ls hl ht _ 0 rfl
noncomputable abbrev Ajq:Func:= Tryz.f281
theorem AaN(n:Nat)(hn:n<=1000000):Aa PP 281 [.v .nils,di n] σ0 (.acc 1 []) ⟨[],[(1,2,[])]⟩:=by
 have h1:i64.wrap (0-0)=0:=by decide
 by_cases h:n=0
 ·subst h
  refine sv Ajq 27 [] (.f<|.f<|.h (.q 6 0)<|.h (.nw 0 1 2) .r) (decide ((↑0:Int)<0)=false/\decide (wrap i64 ((↑0:Int)-wrap i64 (0-0))>0)=false/\Q [(1,2,nV)]/\Q Anz) ?_
  exact⟨by decide,by decide,rfl,rfl⟩
 ·refine sv Ajq 27 [] (.f<|.t<|.a 1 .r) (decide ((n:Int)<0)=false/\decide (wrap i64 ((n:Int)-wrap i64 (0-0))>0)=true/\iz 0=0/\0<wrap i64 ((n:Int)-wrap i64 (0-0))/\Ar (Int.toNat (wrap i64 ((n:Int)-wrap i64 (0-0)))) 32/\iz 0=0/\Q [(1,2,nV)]/\Q Anz) ?_
  have h2:i64.wrap ((n:Int)-i64.wrap (0-0))=n:=by rw[h1,Al (by omega) (by omega)];omega
  rw[h2]
  refine⟨by simp,by simp;omega,by simp,by omega,⟨by simp;omega,by simp;omega⟩,by simp,rfl,rfl⟩
noncomputable abbrev Ac9:Func:= Tryz.f272
noncomputable def Uk:Code:=Ac9.body.getD .skip
abbrev G4(ls:List (List (Val))):List V:=ls.map fun l=>.list (l.map eV)
theorem X4(ls:List (List (Val)))(hl:ls.length<=1000)(ht:ls.flatten.length<=1000000)(n:Nat):∀k:Nat,ls.length-k=n->
  Rn PP Ac9 0 (dl (ls.flatten.map eV)) σ0 ([.lp (sub Uk [1,1,1,1,0,1,0,0]),.blk 2,.code (sub Uk [1,1,1,1,1])]++[]) (mkE 36 [(0,dl (G4 ls)),(6,.acc 1 ((ls.take k).flatten.map eV)),(25,dl (G4 ls)),(26,di ls.length),(27,di k)]) ⟨[],[(1,2,(ls.take k).flatten.map eV)]⟩:=by
 induction n using Nat.strongRecOn with
 |_ n ih=>
 intro k hn
 refine lv 36 [] (.b (.e fun x:List (Val)=>.x (.list (x.map eV))<|.w<|.ls [ke 0,ch 6 (.acc 1 ((ls.take (k+1)).flatten.map eV)),ke 25,ke 26,ch 27 (di (k+1:Nat))] ⟨[],[(1,2,(ls.take (k+1)).flatten.map eV)]⟩) .r) ((decide ((k:Int)<(ls.length:Int))=true->∃a,0<=(k:Int)/\(G4 ls)[Int.toNat (k:Int)]?=some (Azf (map eV a))/\map eV (flatten (take k ls))=map eV (flatten (take k ls))/\Ar (length (map eV (flatten (take k ls)))+length (map eV a)) 32/\(∀(y:V),y∈map eV a->V.size y=2)/\Azc 1 (map eV (flatten (take k ls))++map eV a)=Azc 1 (map eV (flatten (take (k+1) ls)))/\di (wrap i64 ((k:Int)+1))=di (↑(k+1):Int)/\[(1,2,map eV (flatten (take k ls))++map eV a)]=[(1,2,map eV (flatten (take (k+1) ls)))]/\Nv.It (A1 (CN 0) PP (fun env σ1=>Aw PP Ac9 env σ1 (dl (map eV (flatten ls))) σ0) [kl Uk Aod,Aza 2,kc Uk [1,1,1,1,1]] (mkE 36 [(0,D.v (Azf (G4 ls))),(6,Azc 1 (map eV (flatten (take (k+1) ls)))),(25,D.v (Azf (G4 ls))),(26,di (ls.length:Int)),(27,di (↑(k+1):Int))]) (Azd [] [(1,2,map eV (flatten (take (k+1) ls)))])))/\(decide ((k:Int)<(ls.length:Int))=false->D.v (Azf (map eV (flatten (take k ls))))=dl (map eV (flatten ls)))) ?_
 refine⟨fun h=>?_,fun h=>?_⟩
 ·have hk:k<ls.length:=by simpa using h
  have hx:ls[k]?=some ls[k]:=H4 hk
  have hf:=Dl hk
  have hle:=Fo ls (k+1)
  have hih:=ih (ls.length- (k+1)) (by omega) (k+1) rfl
  rw[hf] at hle hih⊢
  generalize ls[k]=x at hx hle hih⊢
  simp only[HI] at hle
  refine⟨x,by omega,by simp[hx],rfl,Mb (by omega) (by decide),C7 x,by simp,Ad (by omega),by simp,⟨hih⟩⟩
 ·have hk:ls.length<=k:=by simpa using h
  rw[HW hk]
theorem X5(ls:List (List (Val)))(hl:ls.length<=1000)(ht:ls.flatten.length<=1000000)(n:Nat):∀k:Nat,ls.length-k=n->
  Rn PP Ac9 0 (dl (ls.flatten.map eV)) σ0 ([.lp (sub Uk [1,1,0,1,0,0]),.blk 0,.code (sub Uk [1,1,1])]++[]) (mkE 36 [(0,dl (G4 ls)),(3,di ((ls.take k).flatten.length:Nat)),(9,dl (G4 ls)),(10,di ls.length),(11,di k)]) σ0:=by
 induction n using Nat.strongRecOn with
 |_ n ih=>
 intro k hn
 refine lv 36 [] (.b (.e fun x:List (Val)=>.x (.list (x.map eV))<|.f<|.l [ke 0,ch 3 (di ((ls.take (k+1)).flatten.length:Nat)),ke 9,ke 10,ch 11 (di (k+1:Nat))]) (.h (.ckn 1 1 2 [])<|.ls [ke 0,ch 6 (.acc 1 ((ls.take 0).flatten.map eV)),ke 25,ch 26 (di ls.length),ch 27 (di (0:Nat))] ⟨[],[(1,2,(ls.take 0).flatten.map eV)]⟩)) ((decide ((k:Int)<(ls.length:Int))=true->∃a,0<=(k:Int)/\(G4 ls)[Int.toNat (k:Int)]?=some (Azf (map eV a))/\decide (wrap i64 ((length (flatten (take k ls)):Int)+(length (map eV a):Int))<0)=false/\di (wrap i64 ((length (flatten (take k ls)):Int)+(length (map eV a):Int)))=di (length (flatten (take (k+1) ls)):Int)/\di (wrap i64 ((k:Int)+1))=di (↑(k+1):Int)/\Nv.It (A1 (CN 0) PP (fun env σ1=>Aw PP Ac9 env σ1 (dl (map eV (flatten ls))) σ0) [kl Uk Akw,Aza 0,kc Uk [1,1,1]] (mkE 36 [(0,D.v (Azf (G4 ls))),(3,di (length (flatten (take (k+1) ls)):Int)),(9,D.v (Azf (G4 ls))),(Apc ls.length),(11,di (↑(k+1):Int))]) σ0))/\(decide ((k:Int)<(ls.length:Int))=false->Aa PP 281 [dn,di (length (flatten (take k ls)):Int)] Akz Anz Arc/\Q Anz/\di (length (G4 ls):Int)=di (ls.length:Int)/\di 0=di (↑0:Int)/\Q [(1,2,nV)]/\I0 Ac9 0 (dl (map eV (flatten ls))) σ0 [kl Uk Aod,Aza 2,kc Uk [1,1,1,1,1]] (mkE 36 [(0,D.v (Azf (G4 ls))),(6,Azc 1 []),(25,D.v (Azf (G4 ls))),(26,di (ls.length:Int)),(27,di (↑0:Int))]) Arc)) ?_
 refine⟨fun h=>?_,fun h=>?_⟩
 ·have hk:k<ls.length:=by simpa using h
  have hx:ls[k]?=some ls[k]:=H4 hk
  have hf:=HR length (Dl hk)
  rw[HI] at hf
  have hle:=Fo ls (k+1)
  generalize ls[k]=x at hx hf⊢
  have h2:i64.wrap ((((ls.take k).flatten.length:Nat):Int)+((x.map eV).length:Int))=(((ls.take (k+1)).flatten.length:Nat):Int):=by rw[Al (by simp only[H3];omega) (by simp only[H3];omega),hf];simp
  refine⟨x,by omega,by simp[hx],by rw[h2];simp,by rw[h2],Ad (by omega),⟨?_⟩⟩
  exact ih (ls.length- (k+1)) (by omega) (k+1) rfl
 ·have hk:ls.length<=k:=by simpa using h
  rw[HW hk]
  refine⟨AaN ls.flatten.length ht,rfl,by simp,rfl,rfl,⟨?_⟩⟩
  exact X4 ls hl ht _ 0 rfl
theorem Abu(ls:List (List (Val)))(hl:ls.length<=1000)(ht:ls.flatten.length<=1000000):Aa PP 272 [dl (G4 ls)] σ0 (dl (ls.flatten.map eV)) σ0:=by
 refine sv Ac9 36 [] (.l [ke 0,ch 3 (di ((ls.take 0).flatten.length:Nat)),ke 9,ch 10 (di ls.length),ch 11 (di (0:Nat))]) (di 0=di (length (flatten (take 0 ls)):Int)/\di (length (G4 ls):Int)=di (ls.length:Int)/\di 0=di (↑0:Int)/\I0 Ac9 σ0.H.length (dl (map eV (flatten ls))) σ0 [kl Uk Akw,Aza 0,kc Uk [1,1,1]] (mkE 36 [(0,dl (G4 ls)),(3,di (length (flatten (take 0 ls)):Int)),(9,dl (G4 ls)),(Apc ls.length),(11,di (↑0:Int))]) σ0) ?_
 refine⟨rfl,by simp,rfl,⟨?_⟩⟩
 exact X5 ls hl ht _ 0 rfl
noncomputable abbrev AgL:Func:= Tryz.f284
noncomputable def AeZ:Code:=AgL.body.getD .skip
noncomputable abbrev Aqu:=fun a₀ b₀ c₀=>(AZ AK (List.drop a₀ b₀) (List.drop a₀ c₀))
theorem Ab4(a b:List Int)(ha:a.length<=1000000)(n:Nat):∀k:Nat,a.length-k=n->k<=b.length->k<=a.length->
  Rn PP AgL 0 (di (AZ AK (a.drop k) (b.drop k))) σ0 ([.lp (sub AeZ [1,0,1,0,0]),.blk 0,.code (sub AeZ [1,1])]++[]) (mkE 36 [(0,dIs a),(1,dIs b),(9,dIs a),(10,di a.length),(11,di k)]) σ0:=by
 induction n using Nat.strongRecOn with
 |_ n ih=>
 intro k hn hkb hka
 refine lv 36 [] (.b (.e fun x:Int=>.x (vi x)<|.b .r<|.e fun y:Int=>.x (vi y)<|.c (di (AK x y))<|.b .r (.ls [ke 0,ke 1,ke 9,ke 10,ch 11 (di (k+1:Nat))] σ0)) (.b .r .r)) ((decide ((k:Int)<(a.length:Int))=true->∃a_2,0<=(k:Int)/\(map vi a)[Int.toNat (k:Int)]?=some (vi a_2)/\(decide ((k:Int)>=(length (map vi b):Int))=true->di 1=di (AZ AK (List.drop k a) (List.drop k b)))/\(decide ((k:Int)>=(length (map vi b):Int))=false->∃a_4,0<=(k:Int)/\(map vi b)[Int.toNat (k:Int)]?=some (vi a_4)/\Aa PP 60 [di a_2,di a_4] (Azd [] []) (di (AK a_2 a_4)) (Azd [] [])/\((AK a_2 a_4 !=0)=true->di (AK a_2 a_4)=di (AZ AK (List.drop k a) (List.drop k b)))/\((AK a_2 a_4 !=0)=false->di (wrap i64 ((k:Int)+1))=di (↑(k+1):Int)/\Nv.It (A1 (CN 0) PP (fun env σ1=>Aw PP AgL env σ1 (di (AZ AK (List.drop k a) (List.drop k b))) σ0) [kl AeZ [1,0,1,0,0],Aza 0,kc AeZ [1,1]] (mkE 36 [(0,dIs a),(1,dIs b),(9,dIs a),(10,di (a.length:Int)),(11,di (↑(k+1):Int))]) σ0))))/\(decide ((k:Int)<(a.length:Int))=false->(decide ((length (map vi a):Int)<(length (map vi b):Int))=true->di (-1)=di (AZ AK (List.drop k a) (List.drop k b)))/\(decide ((length (map vi a):Int)<(length (map vi b):Int))=false->di 0=di (AZ AK (List.drop k a) (List.drop k b))))) ?_
 refine⟨fun h=>?_,fun h=>?_⟩
 ·have hk:k<a.length:=by simpa using h
  have hx:a[k]?=some a[k]:=H4 hk
  rw[HJ hk]
  generalize a[k]=x at hx⊢
  refine⟨x,by omega,Aq hx,fun h1=>?_,fun h1=>?_⟩
  ·have:b.drop k=[]:=HO (by simpa using h1)
   rw[this];rfl
  ·have hk2:k<b.length:=by simpa using h1
   have hy:b[k]?=some b[k]:=H4 hk2
   rw[HJ hk2]
   generalize b[k]=y at hy⊢
   refine⟨y,by omega,Aq hy,Jv x y,fun h2=>?_,fun h2=>⟨Ad (by omega),⟨?_⟩⟩⟩
   ·have:AK x y≠0:=by simpa using h2
    simp[AZ,this]
   ·have:AK x y=0:=by simpa using h2
    simp only[AZ,this,IC]
    exact ih (a.length- (k+1)) (by omega) (k+1) rfl hk2 hk
 ·have hk:k=a.length:=by have:a.length<=k:=(by simpa using h);omega
  subst hk
  rw[List.drop_length]
  refine⟨fun h1=>?_,fun h1=>?_⟩
  ·have h1:a.length<b.length:=by simpa using h1
   rw[HJ h1];rfl
  ·have h1:b.length<=a.length:=by simpa using h1
   rw[HO h1];rfl
theorem Ab3(a b:List Int)(ha:a.length<=1000000):Aa PP 284 [dIs a,dIs b] σ0 (di (AZ AK a b)) σ0:=by
 refine sv AgL 36 [] (.ls [ke 0,ke 1,ke 9,ch 10 (di a.length),ch 11 (di (0:Nat))] σ0) (di (length (map vi a):Int)=di (a.length:Int)/\di 0=di (↑0:Int)/\I0 AgL σ0.H.length (di (AZ AK a b)) σ0 [kl AeZ [1,0,1,0,0],Aza 0,kc AeZ [1,1]] (mkE 36 [(0,dIs a),(1,dIs b),(9,dIs a),(Apc a.length),(11,di (↑0:Int))]) σ0) ?_
 refine⟨by rw[H3],rfl,⟨?_⟩⟩
 exact Ab4 a b ha _ 0 rfl (by omega) (by omega)
theorem Aeb(x y:Int):Au (lf x) (lf y)=AK x y:=by
 rw[N6]
 show orM [AK x y,0,0]=_
 simp only[orM,IC]
 split<;>simp_all
theorem XB:∀a b:List Int,AZ Au (a.map lf) (b.map lf)=AZ AK a b
 |[],[]=>rfl
 |[],_::_=>rfl
 |_::_,[]=>rfl
 |x::a,y::b=>by simp only[HU,AZ,Aeb,XB a b]
noncomputable abbrev AjG:Func:= Tryz.f277
theorem QC:Ae2:=by
 intro a b ha hb
 refine sv AjG 15 [] (.c (di (AK a.length b.length))<|.c (di (AZ AK a b))<|.c (di (FG a b)) .r) (F0 60 [di (length (map vi a):Int),di (length (map vi b):Int)] (di (AK (a.length:Int) (b.length:Int)))/\F0 284 [dIs a,dIs b] (di (AZ AK a b))/\F0 59 [D.v (Azf [vi (AK (a.length:Int) (b.length:Int)),vi (AZ AK a b)])] (di (FG a b))/\Q (di (FG a b))) ?_
 have h1:FG a b=orM [AK a.length b.length,AZ AK a b]:=by
  rw[FG,N6]
  show orM [0,AK (a.map lf).length (b.map lf).length,AZ Au (a.map lf) (b.map lf)]=_
  rw[XB,H3,H3]
  rfl
 refine⟨by rw[H3,H3];exact Jv _ _,Ab3 a b ha,?_,rfl⟩
 rw[h1];exact We [_,_] (by simp)
structure ChC(m:Mod)(c:Val):Prop where
 size:c.size<=128
 len:c.kids.length=1+m.places.length
 word:∀(k:Nat) (x:Val),c.kids[1+k]?=some x->x.kids.length<=12
structure ChM(m:Mod)(t:Typ):Prop where
 int:Fx m t
 chk:Aa PP 52 [Ag m] σ0 (di 0) σ0
 kind:m.kind=2∨m.kind=3
 few:m.rules.length<=12/\m.places.length<=2
 rule:∀r∈m.rules,0<=r.chan/\r.chan<m.places.length
 shape:∀c,Aj t c=true->ChC m c
noncomputable abbrev AgO:Func:= Tryz.f268
theorem TM(m:Mod)(t:Typ)(hm:Fx m t)(c:Val)(hs:c.size<=1000000):Aa PP 268 [dV c,.v (.ref (A8 m))] σ0 (db (!Aj t c)) σ0:=by
 refine sv AgO 8 [2] (.c (db (Aj t c)) .r) (F0 118 [Ag m,dV c] (db (Aj t c))/\(db !Aj t c)=db !Aj t c) ?_
 exact⟨hm.valid c hs,rfl⟩
noncomputable abbrev Mg:Func:= Tryz.f252
noncomputable abbrev Amx:=fun a₀=>(Azl 268 [] [Azo (A8 a₀)])
noncomputable abbrev Aqi:=fun a₀=>F0 33 [D.v (Azf []),D.v (Amx a₀)] (db false)
theorem Ahm(m:Mod)(t:Typ)(hm:ChM m t):Aa PP 252 [Ag m,dl []] σ0 (di 0) σ0:=by
 have h:=EM 268 [] [.ref (A8 m)] (fun c=> !Aj t c) [] (by simp) (by simp)
 rcases hm.kind with hk|hk
 ·refine sv Mg 24 [2] (.c (di 0)<|.k<|.f<|.c (db false) .r) (Ak1 m/\(m.kind !=2)=false/\Aqi m/\Q (di 0)) ?_
  exact⟨hm.chk,by rw[hk];rfl,h,rfl⟩
 ·refine sv Mg 24 [2] (.c (di 0)<|.k<|.t<|.f<|.c (db false) .r) (Ak1 m/\(m.kind !=2)=true/\(m.kind !=3)=false/\Aqi m/\Q (di 0)) ?_
  exact⟨hm.chk,by rw[hk];rfl,by rw[hk];rfl,h,rfl⟩
def AcH(t:Typ)(c:Val):Int:=if Aj t c=true then 0 else 17
noncomputable abbrev Aqm:=fun a₀ b₀=>F0 33 [D.v (Azf [Af a₀]),D.v (Amx b₀)] (db false)
noncomputable abbrev Aqo:=fun a₀ b₀=>F0 33 [D.v (Azf [Af a₀]),D.v (Amx b₀)] (db true)
theorem AcI(m:Mod)(t:Typ)(hm:ChM m t)(c:Val)(hs:c.size<=1000000):Aa PP 252 [Ag m,dl [Af c]] σ0 (di (AcH t c)) σ0:=by
 have h:=EM 268 [] [.ref (A8 m)] (fun c=> !Aj t c) [c] (by simp) (fun x hx=>by rw[HK.1 hx];exact TM m t hm.int c hs)
 rw[show [c].map eV=[Af c] from HR (fun z=>[z]) (Bz c)] at h
 rw[AcH]
 cases hv:Aj t c with
 |true=>
  rw[show([c].any fun c=> !Aj t c)=false by simp[hv]] at h
  rw[HP rfl]
  rcases hm.kind with hk|hk
  ·refine sv Mg 24 [2] (.c (di 0)<|.k<|.f<|.c (db false) .r) (Ak1 m/\(m.kind !=2)=false/\Aqm c m/\Q (di 0)) ?_
   exact⟨hm.chk,by rw[hk];rfl,h,rfl⟩
  ·refine sv Mg 24 [2] (.c (di 0)<|.k<|.t<|.f<|.c (db false) .r) (Ak1 m/\(m.kind !=2)=true/\(m.kind !=3)=false/\Aqm c m/\Q (di 0)) ?_
   exact⟨hm.chk,by rw[hk];rfl,by rw[hk];rfl,h,rfl⟩
 |false=>
  rw[show([c].any fun c=> !Aj t c)=true by simp[hv]] at h
  rw[HL (by decide)]
  rcases hm.kind with hk|hk
  ·refine sv Mg 24 [2] (.c (di 0)<|.k<|.f<|.c (db true) .r) (Ak1 m/\(m.kind !=2)=false/\Aqo c m/\Q (di 17)) ?_
   exact⟨hm.chk,by rw[hk];rfl,h,rfl⟩
  ·refine sv Mg 24 [2] (.c (di 0)<|.k<|.t<|.f<|.c (db true) .r) (Ak1 m/\(m.kind !=2)=true/\(m.kind !=3)=false/\Aqo c m/\Q (di 17)) ?_
   exact⟨hm.chk,by rw[hk];rfl,by rw[hk];rfl,h,rfl⟩
noncomputable abbrev Akc:Func:= Tryz.f239
theorem AbE(m:Mod)(t:Typ)(hm:ChM m t)(i:Nat)(hi:i<m.rules.length)(c:Val)(hs:c.size<=1000000):Aa PP 239 [Ag m,di i,dV c] σ0 (di (AcH t c)) σ0:=by
 refine sv Akc 28 [3,5] (.c (di 0)<|.k<|.k<|.f<|.c (di (AcH t c)) .r) (F0 252 [Ag m,D.v (Azf [])] (di 0)/\decide ((i:Int)>=(length (Aps m.rules):Int))=false/\F0 252 [Ag m,D.v (Azf [Af c])] (di (AcH t c))/\Q (di (AcH t c))) ?_
 exact⟨Ahm m t hm,H8 (by rw[H3];omega),AcI m t hm c hs,rfl⟩
abbrev AS(x:Val):List Int:=x.kids.map Val.n
noncomputable abbrev Xf:Func:= Tryz.f241
noncomputable def TR:Code:=Xf.body.getD .skip
noncomputable abbrev Aoz:=fun a₀ b₀=>(map Val.n (take a₀ b₀))
theorem X2(l:List Val)(hl:l.length<=1000000)(n:Nat):∀k:Nat,l.length-k=n->
  Rn PP Xf 0 (.acc 1 ((l.map Val.n).map vi)) ⟨[],[(1,1,(l.map Val.n).map vi)]⟩ ([.lp (sub TR [1,1,0,1,0,0]),.blk 0,.code (sub TR [1,1,1])]++[]) (mkE 27 [(5,.acc 1 (((l.take k).map Val.n).map vi)),(14,dVs l),(15,di l.length),(16,di k)]) ⟨[],[(1,1,((l.take k).map Val.n).map vi)]⟩:=by
 induction n with
 |zero=>
  intro k hn
  refine lv 27 [2] (.f .r) (decide ((k:Int)<(l.length:Int))=false/\[(1,1,map vi (map Val.n (take k l)))]=[(1,1,map vi (map Val.n l))]/\Azc 1 (map vi (map Val.n (take k l)))=Azc 1 (map vi (map Val.n l))) ?_
  rw[HW (by omega)]
  exact⟨H8 (by omega),rfl,rfl⟩
 |succ n ih=>
  intro k hn
  obtain⟨x,hx⟩:∃x,l[k]?=some x:=⟨_,H4 (show k<l.length by omega)⟩
  refine lv 27 [2] (.t<|.h (.xs (Af x))<|.ls [ch 5 (.acc 1 (((l.take (k+1)).map Val.n).map vi)),ke 14,ke 15,ch 16 (di (k+1:Nat))] ⟨[],[(1,1,((l.take (k+1)).map Val.n).map vi)]⟩) (decide ((k:Int)<(l.length:Int))=true/\Q 2/\0<=(k:Int)/\(map eV l)[Int.toNat (k:Int)]?=some (Af x)/\Q (map vi (map Val.n (take k l)))/\Ar (length (map vi (map Val.n (take k l)))+length (vi x.n::nV)) 8/\Azc 1 (map vi (map Val.n (take k l))++[vi x.n])=Azc 1 (map vi (map Val.n (take (k+1) l)))/\di (wrap i64 ((k:Int)+1))=di (↑(k+1):Int)/\[(1,1,map vi (map Val.n (take k l))++vi x.n::nV)]=[(1,1,map vi (map Val.n (take (k+1) l)))]/\I0 Xf 0 (Azc 1 (map vi (map Val.n l))) (Azd [] [(1,1,map vi (map Val.n l))]) [kl TR [1,1,0,1,0,0],Aza 0,kc TR [1,1,1]] (mkE 27 [(5,Azc 1 (map vi (map Val.n (take (k+1) l)))),(14,dVs l),(15,di (l.length:Int)),(16,di (↑(k+1):Int))]) (Azd [] [(1,1,map vi (map Val.n (take (k+1) l)))])) ?_
  have hk:=(H7.1 hx).1
  have ht:((l.take (k+1)).map Val.n).map vi=((l.take k).map Val.n).map vi++[vi x.n]:=by rw[IF,hx];simp
  rw[ht]
  refine⟨H6 (by omega),rfl,by omega,As hx,rfl,⟨?_,?_⟩,rfl,Ad (by omega),rfl,⟨?_⟩⟩
  ·simp only[H3,HY,H9,HD];omega
  ·simp only[H3,HY,H9,HD];omega
  ·have:=ih (k+1) (by omega)
   rw[ht] at this
   exact this
theorem Mj(c:Val)(k:Nat)(x:Val)(hx:c.kids[1+k]?=some x)(hl:c.kids.length<=1000000)(hs:x.kids.length<=1000000):Aa PP 241 [dV c,di k] σ0 (.acc 1 ((AS x).map vi)) ⟨[],[(1,1,(AS x).map vi)]⟩:=by
 refine sv Xf 27 [2] (.h (.q 2 0)<|.h (.nw 5 1 1)<|.h (.xs (Af x))<|.ls [ch 5 (.acc 1 []),ke 14,ch 15 (di x.kids.length),ch 16 (di (0:Nat))] ⟨[],[(1,1,[])]⟩) (Q 2/\0<=wrap i64 (1+(k:Int))/\(Alj c.kids)[Int.toNat (wrap i64 (1+(k:Int)))]?=some (Af x)/\Q Anz/\di (length (Alj x.kids):Int)=di (x.kids.length:Int)/\di 0=di (↑0:Int)/\Q [(1,1,nV)]/\I0 Xf σ0.H.length (Azc 1 (map vi (AS x))) (Azd [] [(1,1,map vi (AS x))]) [kl TR Akw,Aza 0,kc TR [1,1,1]] (mkE 27 [(5,Azc 1 []),(14,dVs x.kids),(15,di (x.kids.length:Int)),(16,di (↑0:Int))]) Ard) ?_
 have hk:=(H7.1 hx).1
 have hw:i64.wrap (1+(k:Int))=((1+k:Nat):Int):=by rw[Al (by omega) (by omega)];omega
 rw[hw]
 exact⟨rfl,by omega,As hx,rfl,by rw[H3],rfl,rfl,⟨X2 x.kids hs _ 0 rfl⟩⟩
theorem Pd(c:Val)(k:Nat)(x:Val)(hx:c.kids[1+k]?=some x)(hl:c.kids.length<=1000000)(hs:x.kids.length<=1000000):Aa PP 241 [dV c,di k] σ0 (dIs (AS x)) σ0:=FU (Mj c k x hx hl hs)
noncomputable abbrev Abb:Func:= Tryz.f240
theorem XK(r:Rul)(c:Val)(k:Nat)(hk:r.chan=k)(s x:Val)(hs:c.kids[0]?=some s)(hx:c.kids[1+k]?=some x)(hl:c.kids.length<=1000000)(hz:x.kids.length<=1000000):
  Aa PP 240 [Cl r,dV c] σ0 (db ((s.n==r.frm)&&((r.act !=2)||(AS x).head?==some r.letter))) σ0:=by
 have hct:=Pd c k x hx hl hz
 rw[←hk] at hct
 have hx0:(c.kids.map eV)[Int.toNat 0]?=some (Af s):=As (i:=0) hs
 by_cases h1:(s.n !=r.frm)=true
 ·have e1:(s.n==r.frm)=false:=by simpa using h1
  refine sv Abb 32 [2,3] (.h (.xs (Af s))<|.t .r) (Q 2/\iz 0<=0/\(Alj c.kids)[Int.toNat 0]?=some (Af s)/\(s.n !=r.frm)=true/\db false=db (s.n==r.frm&&(r.act !=2||List.head? (AS x)==some r.letter))) ?_
  rw[e1]
  exact⟨rfl,HV _,hx0,h1,rfl⟩
 ·have f1:=HG h1
  have e1:(s.n==r.frm)=true:=by simpa using h1
  by_cases h2:(r.act !=2)=true
  ·refine sv Abb 32 [2,3] (.h (.xs (Af s))<|.f<|.t .r) (Q 2/\iz 0<=0/\(Alj c.kids)[Int.toNat 0]?=some (Af s)/\(s.n !=r.frm)=false/\(r.act !=2)=true/\db true=db (s.n==r.frm&&(r.act !=2||List.head? (AS x)==some r.letter))) ?_
   rw[e1,h2]
   exact⟨rfl,HV _,hx0,f1,rfl,rfl⟩
  ·have f2:=HG h2
   rw[e1,f2]
   cases hn:AS x with
   |nil=>
    rw[hn] at hct
    refine sv Abb 32 [2,3] (.h (.xs (Af s))<|.f<|.f<|.c (dIs []) .r) (Q 2/\iz 0<=0/\(Alj c.kids)[Int.toNat 0]?=some (Af s)/\(s.n !=r.frm)=false/\(r.act !=2)=false/\F0 241 [dV c,di r.chan] (dIs [])/\db false=db (true&&(false||List.head? []==some r.letter))) ?_
    exact⟨rfl,HV _,hx0,f1,f2,hct,rfl⟩
   |cons y ys=>
    rw[hn] at hct
    refine sv Abb 32 [2,3] (.h (.xs (Af s))<|.f<|.f<|.c (dIs (y::ys))<|.t<|.x (vi y) .r) (Q 2/\iz 0<=0/\(Alj c.kids)[Int.toNat 0]?=some (Af s)/\(s.n !=r.frm)=false/\(r.act !=2)=false/\F0 241 [dV c,di r.chan] (dIs (y::ys))/\decide ((length (map vi (y::ys)):Int)>0)=true/\iz 0<=0/\Q (some (vi y))/\db (y==r.letter)=db (true&&(false||List.head? (y::ys)==some r.letter))) ?_
    exact⟨rfl,HV _,hx0,f1,f2,hct,H6 (by simp only[H3,H9];omega),HV _,rfl,by simp⟩
noncomputable abbrev AaZ:Func:= Tryz.f273
noncomputable def Uj:Code:=AaZ.body.getD .skip
noncomputable abbrev Aq6:=[kl Uj Akw,Aza 0,kc Uj [1,1,1]]
theorem Abs(l:List Val)(hl:l.length<=1000000)(hp:∀v∈l,Aa PP 264 [dV v] σ0 (dV v) σ0)(n:Nat):∀k:Nat,l.length-k=n->
  Rn PP AaZ 0 (.acc 1 (l.map eV)) ⟨[],[(1,2,l.map eV)]⟩ ([.lp (sub Uj [1,1,0,1,0,0]),.blk 0,.code (sub Uj [1,1,1])]++[]) (mkE 19 [(3,.acc 1 ((l.take k).map eV)),(6,dVs l),(7,di l.length),(8,di k)]) ⟨[],[(1,2,(l.take k).map eV)]⟩:=by
 induction n with
 |zero=>
  intro k hn
  refine lv 19 [] (.f .r) (decide ((k:Int)<(l.length:Int))=false/\[(1,2,map eV (take k l))]=[(1,2,map eV l)]/\Azc 1 (map eV (take k l))=Azc 1 (map eV l)) ?_
  rw[HW (by omega)]
  exact⟨H8 (by omega),rfl,rfl⟩
 |succ n ih=>
  intro k hn
  obtain⟨x,hx⟩:∃x,l[k]?=some x:=⟨_,H4 (show k<l.length by omega)⟩
  refine lv 19 [] (.t<|.h (.xs (Af x))<|.c (dV x)<|.ls [ch 3 (.acc 1 ((l.take (k+1)).map eV)),ke 6,ke 7,ch 8 (di (k+1:Nat))] ⟨[],[(1,2,(l.take (k+1)).map eV)]⟩) (decide ((k:Int)<(l.length:Int))=true/\Q 2/\0<=(k:Int)/\(map eV l)[Int.toNat (k:Int)]?=some (Af x)/\F0 264 [dV x] (dV x)/\Q (map eV (take k l))/\Ar (length (map eV (take k l))+length (Af x::nV)) 32/\Azc 1 (map eV (take k l)++[Af x])=Azc 1 (map eV (take (k+1) l))/\di (wrap i64 ((k:Int)+1))=di (↑(k+1):Int)/\[(1,2,map eV (take k l)++Af x::nV)]=[(1,2,map eV (take (k+1) l))]/\I0 AaZ 0 (Azc 1 (map eV l)) (Azd [] [(1,2,map eV l)]) [kl Uj [1,1,0,1,0,0],Aza 0,kc Uj [1,1,1]] (mkE 19 [(3,Azc 1 (map eV (take (k+1) l))),(6,dVs l),(7,di (l.length:Int)),(8,di (↑(k+1):Int))]) (Azd [] [(1,2,map eV (take (k+1) l))])) ?_
  have hk:=(H7.1 hx).1
  have ht:l.take (k+1)=l.take k++[x]:=by rw[IF,hx];rfl
  refine⟨H6 (by omega),rfl,by omega,As hx,hp x (HA hx),rfl,⟨?_,?_⟩,?_,Ad (by omega),?_,⟨ih (k+1) (by omega)⟩⟩
  ·simp only[H3,HY,H9,HD];omega
  ·simp only[H3,HY,H9,HD];omega
  ·rw[BB, ←ht]
  ·rw[ht, ←BB]
theorem RS(l:List Val)(hl:l.length<=1000000)(hp:∀v∈l,Aa PP 264 [dV v] σ0 (dV v) σ0):Aa PP 273 [dVs l] σ0 (dVs l) σ0:=by
 have h:Aa PP 273 [dVs l] σ0 (.acc 1 (l.map eV)) ⟨[],[(1,2,l.map eV)]⟩:=by
  refine sv AaZ 19 [] (.h (.q 2 0)<|.h (.nw 3 1 2)<|.ls [ch 3 (.acc 1 []),ke 6,ch 7 (di l.length),ch 8 (di (0:Nat))] ⟨[],[(1,2,[])]⟩) (Q Anz/\di (length (map eV l):Int)=di (l.length:Int)/\di 0=di (↑0:Int)/\Q [(1,2,nV)]/\I0 AaZ σ0.H.length (Azc 1 (map eV l)) (Azd [] [(1,2,map eV l)]) Aq6 (mkE 19 [(3,Azc 1 []),(6,dVs l),(Apx l.length),(8,di (↑0:Int))]) Arc) ?_
  exact⟨rfl,by rw[H3],rfl,rfl,⟨Abs l hl hp _ 0 rfl⟩⟩
 exact FU h
noncomputable abbrev AiC:Func:= Tryz.f264
noncomputable def Aki:Code:=AiC.body.getD .skip
theorem RR(N:Nat):∀v:Val,v.size<=N->v.size<=1000000->Aa PP 264 [dV v] σ0 (dV v) σ0:=by
 induction N with
 |zero=>intro v h;have:=v.size_pos;omega
 |succ N ih=>
  intro v hN hv
  have hs:=v.size_eq
  have hl:=Val.length_le v.kids
  refine sv AiC 9 [1] (.c (dVs v.kids) .r) (F0 273 [dVs v.kids] (dVs v.kids)/\D.v (Ao3 v.n v.kids)=dV v) ?_
  exact⟨RS v.kids (by omega) (fun x hx=>by have:=Val.size_mem hx;exact ih x (by omega) (by omega)),rfl⟩
abbrev Af3(xs:List Val):St:=⟨[some (Ab (xs.map eV))],[]⟩
noncomputable abbrev Aoj:=fun a₀=>(Azi 0 0 a₀)
theorem X1(l:List Val)(hl:l.length<=100000)(hp:∀v∈l,Aa PP 264 [dV v] σ0 (dV v) σ0)(n:Nat):∀k:Nat,l.length- (k+1)=n->k<l.length->
  Rn PP AaZ 0 (.arr 0 0 l.length) (Af3 l) ([.lp (sub Uj [1,1,0,1,0,0]),.blk 0,.code (sub Uj [1,1,1])]++[]) (mkE 19 [(3,.gro 0 (k+1) 2),(6,dVs l),(7,di l.length),(8,di (k+1:Nat))]) (Af3 (l.take (k+1))):=by
 induction n with
 |zero=>
  intro k hn hk
  refine lv 19 [] (.f<|.h (.q 7 0)<|.h (.ga 3) .ro) (decide ((↑(k+1):Int)<(l.length:Int))=false/\okH 1 [] [some (Ab (map eV (take (k+1) l)))]=true/\[some (Ab (map eV (take (k+1) l)))]=[some (Ab (map eV l))]/\Azi 0 0 (k+1)=Azi 0 0 l.length) ?_
  have e:k+1=l.length:=by omega
  rw[e,HW (HB _)]
  exact⟨H8 (by omega),HM.2 ⟨Ai 1 [] _,rfl⟩,rfl,rfl⟩
 |succ n ih=>
  intro k hn hk
  obtain⟨x,hx⟩:∃x,l[k+1]?=some x:=⟨_,H4 (show k+1<l.length by omega)⟩
  refine lv 19 [] (.t<|.h (.xs (Af x))<|.c (dV x)<|.lo [ch 3 (.gro 2 (k+1+1) 2),ke 6,ke 7,ch 8 (di (k+1+1:Nat))] ⟨[none,some [di x.n,dVs x.kids],some (Ab ((l.take (k+1+1)).map eV))],[]⟩) (decide ((↑(k+1):Int)<(l.length:Int))=true/\Q 2/\0<=(↑(k+1):Int)/\(map eV l)[Int.toNat (↑(k+1):Int)]?=some (Af x)/\F0 264 [dV x] (dV x)/\length (Ab (map eV (take (k+1) l)))=(k+1)*2/\[Af x]≠ []/\(∀(y:V),y∈ [Af x]->V.size y=2)/\Ar (k+1+length (Af x::nV)) 32/\Azm 2 (k+1+length (Af x::nV)) 2=Azm 2 (k+1+1) 2/\di (wrap i64 ((↑(k+1):Int)+1))=di (↑(k+1+1):Int)/\okH 3 [] [none,some [di x.n,dVs x.kids],some (Ab (map eV (take (k+1) l))++[di x.n,dVs x.kids])]=true/\[none,some [di x.n,dVs x.kids],some (Ab (map eV (take (k+1) l))++[di x.n,dVs x.kids])]=[none,some [di x.n,dVs x.kids],some (Ab (map eV (take (k+1+1) l)))]/\I0 AaZ 0 (Azi 0 0 l.length) (Af3 l) [kl Uj [1,1,0,1,0,0],Aza 0,kc Uj [1,1,1]] (mkE 19 [(3,Azm 2 (k+1+1) 2),(6,dVs l),(7,di (l.length:Int)),(8,di (↑(k+1+1):Int))]) (Azd [none,some [di x.n,dVs x.kids],some (Ab (map eV (take (k+1+1) l)))] [])) ?_
  have hk1:=(H7.1 hx).1
  have ht:l.take (k+1+1)=l.take (k+1)++[x]:=by rw[IF (i:=k+1),hx];rfl
  have hf:Ab ((l.take (k+1)).map eV)++[di x.n,D.v (vVs x.kids)]=Ab ((l.take (k+1+1)).map eV):=by rw[ht,EN,AB];rfl
  have hih:=ih (k+1) (by omega) hk1
  rw[hf]
  refine⟨H6 (by omega),rfl,by omega,As hx,hp x (HA hx),by rw[BA,HY];omega,by simp,fun y hy=>by rw[HK.1 hy];rfl,⟨?_,?_⟩,rfl,Ad (by omega),?_,rfl,⟨?_⟩⟩
  ·simp only[H9,HD];omega
  ·simp only[H9,HD];omega
  ·simp[okH,D.okNs,D.okN,Ai]
  ·refine DH (H0:=[none,some [di x.n,dVs x.kids]]) (fun E0 E h=>h.2) 2 rfl (fun cs hc=>?_) ?_ ?_ hih
   ·simp at hc;rw[hc];exact A3 _
   ·simp[mkE,D.okNs,D.okN]
   ·simp[mkE,D.rens,D.ren]
theorem X0(l:List Val)(hn:l≠ [])(hl:l.length<=100000)(hp:∀v∈l,Aa PP 264 [dV v] σ0 (dV v) σ0):Aa PP 273 [dVs l] σ0 (.arr 0 0 l.length) (Af3 l):=by
 obtain⟨x,hx⟩:∃x,l[0]?=some x:=⟨_,H4 (List.length_pos_iff.2 hn)⟩
 refine sv AaZ 19 [] (.n<|.t<|.h (.xs (Af x))<|.c (dV x)<|.h (.q 5 4)<|.h .g<|.lo [ch 3 (.gro 1 1 2),ke 6,ch 7 (di l.length),ch 8 (di (1:Nat))] ⟨[some (Ana x.n x.kids),some (Ab ((l.take 1).map eV))],[]⟩) (decide (0<(length (map eV l):Int))=true/\Q 2/\iz 0<=0/\(map eV l)[Int.toNat 0]?=some (Af x)/\F0 264 [dV x] (dV x)/\[Af x]≠ []/\(∀(y:V),y∈ [Af x]->V.size y=2)/\Ar 1 32/\Q (Azm 1 1 2)/\di (length (map eV l):Int)=di (l.length:Int)/\di (wrap i64 (0+1))=di (↑1:Int)/\okH 2 [] [some (Ana x.n x.kids),some (Ana x.n x.kids)]=true/\[some (Ana x.n x.kids),some (Ana x.n x.kids)]=[some (Ana x.n x.kids),some (Ab (map eV (take 1 l)))]/\I0 AaZ σ0.H.length (Aoj l.length) (Af3 l) Aq6 (mkE 19 [(3,Azm 1 1 2),(6,dVs l),(Apx l.length),(8,di (↑1:Int))]) (Azd [some (Ana x.n x.kids),some (Ab (map eV (take 1 l)))] [])) ?_
 have hk1:=(H7.1 hx).1
 have ht:l.take 1=[x]:=by
  cases l with
  |nil=>simp at hx
  |cons y l=>simp at hx;simp[hx]
 have hih:=X1 l hl hp _ 0 rfl (by omega)
 refine⟨H6 (by simp only[H3];omega),rfl,HV _,As (i:=0) hx,hp x (HA hx),by simp,fun y hy=>by rw[HK.1 hy];rfl,⟨by decide,by decide⟩,rfl,by rw[H3],HR di (by decide),rfl,?_,⟨?_⟩⟩
 ·rw[ht,AB];rfl
 ·refine DH (H0:=[some [di x.n,dVs x.kids]]) (fun E0 E h=>h.2) 1 rfl (fun cs hc=>?_) ?_ ?_ hih
  ·simp at hc;rw[hc];exact A3 _
  ·simp[mkE,D.okNs,D.okN]
  ·simp[mkE,D.rens,D.ren]
theorem Xz(v:Val)(hn:v.kids≠ [])(hv:v.size<=100000):Aa PP 264 [dV v] σ0 (.dagg [di v.n,.arr 1 0 v.kids.length]) ⟨[some [di v.n,.arr 1 0 v.kids.length],some (Ab (v.kids.map eV))],[]⟩:=by
 have hs:=v.size_eq
 have hl:=Val.length_le v.kids
 refine Zk mixed AiC Aki (by kernel_rfl) (by kernel_rfl) (by kernel_rfl) (by kernel_rfl) 9 (by kernel_rfl) [1] (.h (.oc (.arr 1 0 v.kids.length) ⟨[some [di 0,.v .nils],some (Ab (v.kids.map eV))],[]⟩)<|.h .g<|.r) ?_
 refine via (by kernel_rfl:((N0 [D.v (Azl 273 [] []),dVs v.kids] (Azd [some [di 0,dn]] []) (Azi 1 0 v.kids.length) (Azd [some [di 0,dn],some (Akr v.kids)] []))/\okH 2 [] [some [di v.n,Azi 1 0 v.kids.length],some (Akr v.kids)]=true/\Q [some [di v.n,Azi 1 0 v.kids.length],some (Akr v.kids)]/\Q (D.dagg [di v.n,Azi 1 0 v.kids.length]))=_) ?_
 refine⟨fun o cl fo ho hc=>?_,by simp[okH,D.okNs,D.okN,Ai],rfl,rfl⟩
 exact E8 (σ:=⟨[some [di 0,.v .nils]],[]⟩) (fs:=[]) (cs:=[]) (ds:=[dVs v.kids]) ho hc rfl (A3 _) (X0 v.kids hn (by omega) (fun x hx=>by have:=Val.size_mem hx;exact RR _ x (HB _) (by omega)))
theorem opOK_see{P:Program}{o:Oper}{ds ds':List D}{σ σ':St}{d:D}(h:DSL ds ds')(ho:Ah P o ds' σ d σ'):Ah P o ds σ d σ':=fun E g a w K Q hw hds hK=>ho E g a w K Q hw (h.rep hds) hK
theorem Aak{P:Program}{o:Oper}{ds ds':List D}{σ σ':St}{d:D}(h:∀(g:Gh) (a:Act),Ac g ds' (o.op.operands.toList.map a.eval))(ho:Ah P o ds' σ d σ'):Ah P o ds σ d σ':=fun E g a w K Q hw _ hK=>ho E g a w K Q hw (h g a) hK
noncomputable abbrev G0:Func:= Tryz.f242
noncomputable def AX:Code:=G0.body.getD .skip
noncomputable def AfL:Array Oper:=match sub AX [1,1,1,1,1,0,1,0,0,1,1,0,0,1] with
 |.region _ ops _=>ops
 |_=> #[]
noncomputable def oW(i:Nat):Oper:=(AfL[i]?).getD ⟨none,.alloc 0,0,"", #[],none⟩
theorem BW:AfL.size=12:=by kernel_rfl
theorem Wf:AfL.toList=[oW 0,oW 1,oW 2,oW 3,oW 4,oW 5,oW 6,oW 7,oW 8,oW 9,oW 10,oW 11]:=by kernel_rfl
abbrev B0(c:Val)(L:List D)(T:List (Option (List D))):St:=⟨[some [di 0,.v .nils],some [di c.n,.arr 2 0 c.kids.length],some L,some [di c.n,.arr 2 0 c.kids.length]]++T,[]⟩
abbrev zE:V:=.agg [vi 0,.nils]
abbrev lE(x:Int):V:=.agg [vi x,.list []]
theorem AhS(p:Nat)(σ:St):Ah PP (oW 0) [.ptr 2 p] σ (.ptr 2 p) σ:=by
 obtain⟨_,d,σ',kd,⟨rfl,rfl,rfl⟩,h⟩:=Cp (P:=PP) (im:=[]) (s:=.z) (o:=oW 0) (ds:=[.ptr 2 p]) (σ:=σ) (K:=fun _ d' σ' kd=>d'=(.ptr 2 p)/\σ'=σ/\kd=.pure) (by
  refine via (by kernel_rfl:(Q (Azb 2 p)/\Q σ/\Q Kd.pure)=_) ?_
  exact⟨rfl,rfl,rfl⟩)
 exact h.op
theorem AhR(p:Nat)(σ:St):Ah PP (oW 1) [.ptr 2 p] σ (.ptr 2 p) σ:=by
 obtain⟨_,d,σ',kd,⟨rfl,rfl,rfl⟩,h⟩:=Cp (P:=PP) (im:=[]) (s:=.z) (o:=oW 1) (ds:=[.ptr 2 p]) (σ:=σ) (K:=fun _ d' σ' kd=>d'=(.ptr 2 p)/\σ'=σ/\kd=.pure) (by
  refine via (by kernel_rfl:(Q (Azb 2 p)/\Q σ/\Q Kd.pure)=_) ?_
  exact⟨rfl,rfl,rfl⟩)
 exact h.op
theorem Afn(p:Nat)(σ:St):Ah PP (oW 10) [.ptr 2 p] σ (.ptr 2 p) σ:=by
 obtain⟨_,d,σ',kd,⟨rfl,rfl,rfl⟩,h⟩:=Cp (P:=PP) (im:=[]) (s:=.z) (o:=oW 10) (ds:=[.ptr 2 p]) (σ:=σ) (K:=fun _ d' σ' kd=>d'=(.ptr 2 p)/\σ'=σ/\kd=.pure) (by
  refine via (by kernel_rfl:(Q (Azb 2 p)/\Q σ/\Q Kd.pure)=_) ?_
  exact⟨rfl,rfl,rfl⟩)
 exact h.op
theorem AhQ(c:Val)(L:List D)(p:Nat)(g0:D)(T:List (Option (List D)))(h:L[p]?=some g0):Ah PP (oW 2) [.ptr 2 p] (B0 c L T) g0 (B0 c L T):=by
 obtain⟨_,d,σ',kd,⟨rfl,rfl,rfl⟩,h⟩:=Cp (P:=PP) (im:=[]) (s:=.m g0 .z) (o:=oW 2) (ds:=[.ptr 2 p]) (σ:=(B0 c L T)) (K:=fun _ d' σ' kd=>d'=g0/\σ'=(B0 c L T)/\kd=.load 2 p 1) (by
  refine via (by kernel_rfl:(L[p]?=some g0/\Q g0/\Q (B0 c L T)/\Q (Kd.load 2 p 1))=_) ?_
  exact⟨h,rfl,rfl,rfl⟩)
 exact h.op
theorem AhP(x:Int)(σ:St):Ah PP (oW 3) [di x] σ (di x) σ:=by
 obtain⟨_,d,σ',kd,⟨rfl,rfl,rfl⟩,h⟩:=Cp (P:=PP) (im:=[]) (s:=.z) (o:=oW 3) (ds:=[di x]) (σ:=σ) (K:=fun _ d' σ' kd=>d'=(di x)/\σ'=σ/\kd=.pure) (by
  refine via (by kernel_rfl:(Q (di x)/\Q σ/\Q Kd.pure)=_) ?_
  exact⟨rfl,rfl,rfl⟩)
 exact h.op
theorem AhO(x:Int)(σ:St):Ah PP (oW 4) [di x] σ (.v (lE x)) σ:=by
 obtain⟨_,d,σ',kd,⟨rfl,rfl,rfl⟩,h⟩:=Cp (P:=PP) (im:=[]) (s:=.z) (o:=oW 4) (ds:=[di x]) (σ:=σ) (K:=fun _ d' σ' kd=>d'=(.v (lE x))/\σ'=σ/\kd=.pure) (by
  refine via (by kernel_rfl:(D.v (Azh [vi x,Azf []])=D.v (lE x)/\Q σ/\Q Kd.pure)=_) ?_
  exact⟨rfl,rfl,rfl⟩)
 exact h.op
theorem AhN(σ:St):Ah PP (oW 6) [.v zE] σ (.v (.list [zE])) σ:=by
 obtain⟨_,d,σ',kd,⟨rfl,rfl,rfl⟩,h⟩:=Cp (P:=PP) (im:=[]) (s:=.z) (o:=oW 6) (ds:=[.v zE]) (σ:=σ) (K:=fun _ d' σ' kd=>d'=(.v (.list [zE]))/\σ'=σ/\kd=.pure) (by
  refine via (by kernel_rfl:(Q (D.v (Azf [zE]))/\Q σ/\Q Kd.pure)=_) ?_
  exact⟨rfl,rfl,rfl⟩)
 exact h.op
theorem Afl(q n:Nat)(σ:St):Ah PP (oW 5) [.arr q 0 n] σ (di n) σ:=by
 obtain⟨_,d,σ',kd,⟨rfl,rfl,rfl⟩,h⟩:=Cp (P:=PP) (im:=[]) (s:=.z) (o:=oW 5) (ds:=[.arr q 0 n]) (σ:=σ) (K:=fun _ d' σ' kd=>d'=(di n)/\σ'=σ/\kd=.pure) (by
  refine via (by kernel_rfl:(Q (di (n:Int))/\Q σ/\Q Kd.pure)=_) ?_
  exact⟨rfl,rfl,rfl⟩)
 exact h.op
theorem Afk(σ:St):Ah PP (oW 5) [.v .nils] σ (di 0) σ:=by
 obtain⟨_,d,σ',kd,⟨rfl,rfl,rfl⟩,h⟩:=Cp (P:=PP) (im:=[]) (s:=.z) (o:=oW 5) (ds:=[.v .nils]) (σ:=σ) (K:=fun _ d' σ' kd=>d'=(di 0)/\σ'=σ/\kd=.pure) (by
  refine via (by kernel_rfl:(Q (di 0)/\Q σ/\Q Kd.pure)=_) ?_
  exact⟨rfl,rfl,rfl⟩)
 exact h.op
theorem Afh(q n j:Nat)(σ:St)(h:j<n):Ah PP (oW 8) [.arr q 0 n,di j] σ (.ptr q (0+Int.toNat (j:Int)*2)) σ:=by
 obtain⟨_,d,σ',kd,⟨rfl,rfl,rfl⟩,h⟩:=Cp (P:=PP) (im:=[]) (s:=.z) (o:=oW 8) (ds:=[.arr q 0 n,di j]) (σ:=σ) (K:=fun _ d' σ' kd=>d'=(.ptr q (0+Int.toNat (j:Int)*2))/\σ'=σ/\kd=.pure) (by
  refine via (by kernel_rfl:(0<=(j:Int)/\(j:Int)<(n:Int)/\Q (Azb q (0+Int.toNat (j:Int)*2))/\Q σ/\Q Kd.pure)=_) ?_
  exact⟨by omega,by omega,rfl,rfl,rfl⟩)
 exact h.op
noncomputable abbrev Aox:=fun a₀ b₀=>[di a₀,Azi 2 0 b₀]
theorem AhM(c:Val)(L:List D)(Cc:List D)(n:Nat)(hn:n<=1000)(hC:Cc.length=n*2):Ah PP (oW 7) [.gro 4 n 2,.v (.list [zE])] (B0 c L [some Cc]) (.gro 5 (n+1) 2) (B0 c L [none,some (Cc++[di 0,.v .nils])]):=by
 obtain⟨_,d,σ',kd,⟨rfl,rfl,rfl⟩,h⟩:=Cp (P:=PP) (im:=[]) (s:=.z) (o:=oW 7) (ds:=[.gro 4 n 2,.v (.list [zE])]) (σ:=(B0 c L [some Cc])) (K:=fun _ d' σ' kd=>d'=(.gro 5 (n+1) 2)/\σ'=(B0 c L [none,some (Cc++[di 0,.v .nils])])/\kd=.eff) (by
  refine via (by kernel_rfl:(length Cc=n*2/\[zE]≠ []/\(∀(y:V),y∈ [zE]->V.size y=2)/\Ar (n+length (zE::nV)) 32/\Azm 5 (n+length (zE::nV)) 2=Azm 5 (n+1) 2/\Azd [some [di 0,dn],some (Aox c.n c.kids.length),some L,some (Aox c.n c.kids.length),none,some (Cc++[di 0,dn])] []=B0 c L [none,some (Cc++[di 0,dn])]/\Q Kd.eff)=_) ?_
  exact⟨hC,by simp,fun y hy=>by rw[HK.1 hy];rfl,⟨by simp only[H9,HD];omega,by simp only[H9,HD];omega⟩,rfl,rfl,rfl⟩)
 exact h.op
theorem Afi(c:Val)(L:List D):Ah PP (oW 7) [.v .nils,.v (.list [zE])] (B0 c L []) (.gro 4 1 2) (B0 c L [some [di 0,.v .nils]]):=by
 obtain⟨_,d,σ',kd,⟨rfl,rfl,rfl⟩,h⟩:=Cp (P:=PP) (im:=[]) (s:=.h .g .z) (o:=oW 7) (ds:=[.v .nils,.v (.list [zE])]) (σ:=(B0 c L [])) (K:=fun _ d' σ' kd=>d'=(.gro 4 1 2)/\σ'=(B0 c L [some [di 0,.v .nils]])/\kd=.eff) (by
  refine via (by kernel_rfl:([zE]≠ []/\(∀(y:V),y∈ [zE]->V.size y=2)/\Ar 1 32/\Q (Azm 4 1 2)/\Azd [some [di 0,dn],some (Aox c.n c.kids.length),some L,some (Aox c.n c.kids.length),some [di 0,dn]] []=B0 c L [some [di 0,dn]]/\Q Kd.eff)=_) ?_
  exact⟨by simp,fun y hy=>by rw[HK.1 hy];rfl,⟨by decide,by decide⟩,rfl,rfl,rfl⟩)
 exact h.op
theorem AhL(c:Val)(L:List D)(Cc:List D)(j:Nat)(x:Int)(hC:j+2<=Cc.length):Ah PP (oW 9) [.ptr 5 j,.v (lE x)] (B0 c L [none,some Cc]) .undef (B0 c L [none,some (Cc.take j++[di x,.v (.list [])]++Cc.drop (j+2))]):=by
 obtain⟨_,d,σ',kd,⟨rfl,rfl,rfl⟩,h⟩:=Cp (P:=PP) (im:=[]) (s:=.h .ww .z) (o:=oW 9) (ds:=[.ptr 5 j,.v (lE x)]) (σ:=(B0 c L [none,some Cc])) (K:=fun _ d' σ' kd=>d'=.undef/\σ'=(B0 c L [none,some (Cc.take j++[di x,.v (.list [])]++Cc.drop (j+2))])/\kd=.eff) (by
  refine via (by kernel_rfl:(j+2<=length Cc/\Q Azj/\Azd [some [di 0,dn],some (Aox c.n c.kids.length),some L,some (Aox c.n c.kids.length),none,some (take j Cc++[di x,D.v (Azf [])]++List.drop (j+2) Cc)] []=B0 c L [none,some (take j Cc++[di x,D.v (Azf [])]++List.drop (j+2) Cc)]/\Q Kd.eff)=_) ?_
  exact⟨hC,rfl,rfl,rfl⟩)
 exact h.op
theorem Afg(c:Val)(L:List D)(x:Int):Ah PP (oW 9) [.ptr 4 0,.v (lE x)] (B0 c L [some [di 0,.v .nils]]) .undef (B0 c L [some [di x,.v (.list [])]]):=by
 obtain⟨_,d,σ',kd,⟨rfl,rfl,rfl⟩,h⟩:=Cp (P:=PP) (im:=[]) (s:=.z) (o:=oW 9) (ds:=[.ptr 4 0,.v (lE x)]) (σ:=(B0 c L [some [di 0,.v .nils]])) (K:=fun _ d' σ' kd=>d'=.undef/\σ'=(B0 c L [some [di x,.v (.list [])]])/\kd=.eff) (by
  refine via (by kernel_rfl:(Q Azj/\Azd [some [di 0,dn],some (Aox c.n c.kids.length),some L,some (Aox c.n c.kids.length),some [di x,D.v (Azf [])]] []=B0 c L [some [di x,D.v (Azf [])]]/\Q Kd.eff)=_) ?_
  exact⟨rfl,rfl,rfl⟩)
 exact h.op
theorem Afm(c:Val)(L:List D)(p q j:Nat)(T:List (Option (List D)))(hp:p<L.length):Ah PP (oW 11) [.ptr 2 p,.gro q j 2] (B0 c L T) .undef (B0 c (L.set p (.gro q j 2)) T):=by
 obtain⟨_,d,σ',kd,⟨rfl,rfl,rfl⟩,h⟩:=Cp (P:=PP) (im:=[]) (s:=.w .z) (o:=oW 11) (ds:=[.ptr 2 p,.gro q j 2]) (σ:=(B0 c L T)) (K:=fun _ d' σ' kd=>d'=.undef/\σ'=(B0 c (L.set p (.gro q j 2)) T)/\kd=.eff) (by
  refine via (by kernel_rfl:(p<length L/\Q Azj/\Azd (some [di 0,dn]::some (Aox c.n c.kids.length)::some (List.set L p (Azm q j 2))::some (Aox c.n c.kids.length)::[]++T) []=B0 c (List.set L p (Azm q j 2)) T/\Q Kd.eff)=_) ?_
  exact⟨hp,rfl,rfl,rfl⟩)
 exact h.op
theorem Afj(ds:List D)(σ:St):Ah PP (oW 6) ds σ (.v (.list [zE])) σ:=by
 refine Aak (fun g a=>?_) (AhN σ)
 have e:(oW 6).op.operands.toList=[.const (.agg #[.int .i64 0,.slice none 0 0])]:=by kernel_rfl
 rw[e]
 simp only[HU,I1,Act.eval,Ac,Ae,Cr]
 refine⟨_,_,rfl,⟨[.int .i64 0,.slice none 0 0],?_,rfl⟩,rfl⟩
 simp only[repA,repC]
 exact⟨_,_,rfl,rfl,rfl,_,_,rfl,rfl,rfl,rfl⟩
theorem QA{C:Ent->Ent->Prop}{R:List D->St->Prop}{ks:List KI}(c:Val)(p:Nat)(L:List D)(hp:p<L.length)(x:Int)(j:Nat)(g0:D)(T0 T1 T2:List (Option (List D)))(q1:Nat)(hq:4+T0.length<=q1)(ws:List Int)(kk:Int)
  (h5:∀τ,Ah PP (oW 5) [g0] τ (di j) τ) (h7:Ah PP (oW 7) [g0,.v (.list [zE])] (B0 c (L.set p g0) T0) (.gro q1 (j+1) 2) (B0 c (L.set p g0) T1))
  (h9:∀M,Ah PP (oW 9) [.ptr q1 (0+Int.toNat (j:Int)*2),.v (lE x)] (B0 c M T1) .undef (B0 c M T2))
  (hk:A1 C PP R ks (mkE 46 [(8,.ptr 0 0),(9,.ptr 3 0),(10,.ptr 2 p),(12,di x),(28,dIs ws),(29,di ws.length),(30,di kk),(34,.ptr 2 p),(35,.ptr 2 p),(36,g0),(37,di x),(38,.v (lE x)),(39,di j),(40,.v (.list [zE])),(41,.gro q1 (j+1) 2),(42,.ptr q1 (0+Int.toNat (j:Int)*2)),(43,.ptr 2 p)]) (B0 c (L.set p (.gro q1 (j+1) 2)) T2)):
  A1 C PP R (.code (sub AX [1,1,1,1,1,0,1,0,0,1,1,0,0,1])::ks) (mkE 46 [(8,.ptr 0 0),(9,.ptr 3 0),(10,.ptr 2 p),(12,di x),(28,dIs ws),(29,di ws.length),(30,di kk)]) (B0 c (L.set p g0) T0):=by
 have hx:sub AX [1,1,1,1,1,0,1,0,0,1,1,0,0,1]=.region 8 AfL true:=by kernel_rfl
 rw[hx]
 have h11:∀T,Ah PP (oW 11) [.ptr 2 p,.gro q1 (j+1) 2] (B0 c (L.set p g0) T) .undef (B0 c (L.set p (.gro q1 (j+1) 2)) T):=fun T=>by
  have:=Afm c (L.set p g0) p q1 (j+1) T (by rw[length_set];exact hp)
  rwa[List.set_set] at this
 have h2:=AhQ c (L.set p g0) p g0 T0 (by rw[List.getElem?_set_self hp])
 let sts:Bool->List St:=fun b=>match b with
  |false=>[B0 c (L.set p g0) T0,B0 c (L.set p g0) T1,B0 c (L.set p (.gro q1 (j+1) 2)) T1]
  |true=>[σbad,B0 c (L.set p g0) T2,B0 c (L.set p (.gro q1 (j+1) 2)) T2]
 have h8:∀τ,Ah PP (oW 8) [.gro q1 (j+1) 2,di j] τ (.ptr q1 (0+Int.toNat (j:Int)*2)) τ:=fun τ=>opOK_see (.cons .gro (.cons (.same _) .nil)) (Afh q1 (j+1) j τ (by omega))
 refine GI mixed sts 9 (vals:=[.ptr 2 p,.ptr 2 p,g0,di x,.v (lE x),di j,.v (.list [zE]),.gro q1 (j+1) 2,.ptr q1 (0+Int.toNat (j:Int)*2),.undef,.ptr 2 p,.undef]) (j':=2) (σ':=B0 c (L.set p (.gro q1 (j+1) 2)) T2) (effs:=[(false,none),(false,none),(false,some 0),(false,none),(false,none),(false,none),(false,none),(true,none),(false,none),(false,none),(false,none),(true,none)]) rfl (by rw[BW];rfl) ?_ (by kernel_rfl) hk
 rw[Wf]
 have en:∀{a b:List D},a=b->Fy PP AfL sts 9 [] a 2 [] [] b 2:=fun h=>h▸ .nil
 have e:∀{a b:List D} {o:Oper} {s s':St} {d:D},a=b->Ah PP o b s d s'->Ah PP o a s d s':=fun h k=>h▸k
 refine .quiet (d:=.ptr 2 p) (by rw[BW];decide) (by kernel_rfl) (fun b s _=>e (by kernel_rfl) (AhS p s)) ?_
 refine .quiet (d:=.ptr 2 p) (by rw[BW];decide) (by kernel_rfl) (fun b s _=>e (by kernel_rfl) (AhR p s)) ?_
 refine .quietW (d:=g0) 0 (by rw[BW];decide) (by kernel_rfl) (fun b k s hk0 hs=>?_) ?_
 ·have hk0:k=0:=by omega
  subst hk0
  cases b with
  |false=>simp[sts] at hs;subst hs;exact e (by kernel_rfl) h2
  |true=>simp[sts] at hs;subst hs;exact Rt
 refine .quiet (d:=di x) (by rw[BW];decide) (by kernel_rfl) (fun b s _=>e (by kernel_rfl) (AhP x s)) ?_
 refine .quiet (d:=.v (lE x)) (by rw[BW];decide) (by kernel_rfl) (fun b s _=>e (by kernel_rfl) (AhO x s)) ?_
 refine .quiet (d:=di j) (by rw[BW];decide) (by kernel_rfl) (fun b s _=>e (by kernel_rfl) (h5 s)) ?_
 refine .quiet (d:=.v (.list [zE])) (by rw[BW];decide) (by kernel_rfl) (fun b s _=>Afj _ s) ?_
 refine .eff (d:=.gro q1 (j+1) 2) (by rw[BW];decide) (by kernel_rfl) (fun b s hs _=>?_) ?_
 ·cases b with
  |false=>simp[sts] at hs;subst hs;exact⟨_,rfl,e (by kernel_rfl) h7⟩
  |true=>simp[sts] at hs;subst hs;exact⟨_,rfl,Rt⟩
 refine .quiet (d:=.ptr q1 (0+Int.toNat (j:Int)*2)) (by rw[BW];decide) (by kernel_rfl) (fun b s _=>e (by kernel_rfl) (h8 s)) ?_
 refine .free (d:=.undef) (by rw[BW];rfl) (by kernel_rfl) (fun k s hs=>?_) ?_
 ·match k,hs with
  |0,hs=>simp[sts] at hs;subst hs;exact⟨_,rfl,e (b:=[.ptr q1 (0+Int.toNat (j:Int)*2),.v (lE x)]) (by kernel_rfl) (Aaj (by simp only[HI,H9,HD];omega))⟩
  |1,hs=>simp[sts] at hs;subst hs;exact⟨_,rfl,e (by kernel_rfl) (h9 _)⟩
  |2,hs=>simp[sts] at hs;subst hs;exact⟨_,rfl,e (by kernel_rfl) (h9 _)⟩
  |k+3,hs=>simp[sts] at hs
 refine .quiet (d:=.ptr 2 p) (by rw[BW];decide) (by kernel_rfl) (fun b s _=>e (by kernel_rfl) (Afn p s)) ?_
 refine .eff (d:=.undef) (by rw[BW];decide) (by kernel_rfl) (fun b s hs _=>?_) (en (by kernel_rfl))
 cases b with
 |false=>simp[sts] at hs;subst hs;exact⟨_,rfl,e (by kernel_rfl) (h11 _)⟩
 |true=>simp[sts] at hs;subst hs;exact⟨_,rfl,e (by kernel_rfl) (h11 _)⟩
theorem Lu:∀(l:List Val) (i:Nat) (x:Val) (s:Int),l[i]?=some x->(Ab (l.map eV)).set (i*2) (di s)=Ab ((l.set i (.mk s x.kids)).map eV)
 |[],_,_,_,h=>by simp at h
 |y::l,0,x,s,h=>by
  simp at h;subst h
  rw[AB,set_cons_zero,AB];rfl
 |y::l,i+1,x,s,h=>by
  have h':l[i]?=some x:=by simpa using h
  rw[AB,IP,AB, ←Lu l i x s h',show(i+1)*2=i*2+2 by omega]
  rfl
theorem ON:∀(l:List Val) (i:Nat) (x:Val) (ys:List Val),l[i]?=some x->(Ab (l.map eV)).set (i*2+1) (dVs ys)=Ab ((l.set i (.mk x.n ys)).map eV)
 |[],_,_,_,h=>by simp at h
 |y::l,0,x,s,h=>by
  simp at h;subst h
  rw[AB,set_cons_zero,AB];rfl
 |y::l,i+1,x,s,h=>by
  have h':l[i]?=some x:=by simpa using h
  rw[AB,IP,AB, ←ON l i x s h',show(i+1)*2+1=(i*2+1)+2 by omega]
  rfl
theorem Ac1(ws:List Int):ws.map lE=(ws.map lf).map eV:=by
 rw[List.map_map]
 refine List.map_congr_left fun x _=>?_
 show lE x=eV (lf x)
 rw[Bz];rfl
def BC(l:List Val)(s0 x:Val)(s:Int)(i:Nat)(ws:List Int):List Val:=(l.set 0 (.mk s s0.kids)).set i (.mk x.n (ws.map lf))
theorem K9{e e1 e2:List D}{σ σ1 σ2:St}(h1:Cv e σ e1 σ1)(h2:Cv e1 σ1 e2 σ2):Cv e σ e2 σ2:=fun E g a w hf=>by
 obtain⟨g1,hf1⟩:=h1 E g a w hf
 exact h2 E g1 a w hf1
theorem JD{σ:St}{p q i sz:Nat}{cs:List D}{xs:List V}(hsz:0<sz)(hp:σ.H[p]?=some (some cs))(hq:σ.H[q]?=some (some (Ab xs)))(hpq:p≠q)(hi:cs[i]?=some (.gro q xs.length sz))(hx:∀x∈xs,x.size=sz)(e:List D):
  Cv e σ e ⟨(σ.H.set q none).set p (some (cs.set i (.v (.list xs)))),σ.own⟩:=by
 have hpl:=(H7.1 hp).1
 have hil:=(H7.1 hi).1
 have h1:Cv e σ e ⟨σ.H.set p (some (cs.set i (.arr q 0 xs.length))),σ.own⟩:=El (σ:=σ) (q:=p) (cs:=cs) (cs':=cs.set i (.arr q 0 xs.length)) hp (fun g us hr=>by
  obtain⟨u,hu,hru⟩:=B9 hr hi
  have:=CG hr i (d:=.arr q 0 xs.length) (u:=u) (DS.rep .gro hru)
  rwa[Ed hu] at this) (fun h c hc=>by
  rcases I8 hc with h2|h2
  ·exact h c h2
  ·rw[h2];rfl) e
 have h2:=Hf (σ:=⟨σ.H.set p (some (cs.set i (.arr q 0 xs.length))),σ.own⟩) (p:=p) (q:=q) (i:=i) (cs:=cs.set i (.arr q 0 xs.length)) (xs:=xs) hsz (by simp[hpl]) (by rw[getElem?_set_ne hpq];exact hq) hpq (by simp[hil]) hx e
 have h3:=K9 h1 h2
 simp only[List.set_set] at h3
 rwa[List.set_comm _ _ hpq,List.set_set] at h3
abbrev Ae8(c:Val)(xs:List Val)(T:List (Option (List D))):St:=⟨[some [di 0,.v .nils],some [di c.n,.arr 2 0 c.kids.length],none,some [di c.n,dVs xs]]++T,[]⟩
theorem RP(c:Val)(xs:List Val)(L:List D)(hL:L=Ab (xs.map eV))(hx:xs.length=c.kids.length)(T:List (Option (List D)))(e:List D):Cv e (B0 c L T) e (Ae8 c xs T):=by
 have h:=Hf (σ:=B0 c L T) (p:=3) (q:=2) (i:=1) (sz:=2) (cs:=[di c.n,.arr 2 0 c.kids.length]) (xs:=xs.map eV) (by decide) rfl (by rw[hL];rfl) (by decide) (by rw[H3,hx];rfl) (C7 _) e
 exact h
theorem Abq(c:Val)(xs:List Val)(L:List D)(p:Nat)(hp:p<L.length)(ws:List Int)(hL:L.set p (.v (.list (ws.map lE)))=Ab (xs.map eV))(hx:xs.length=c.kids.length)(e:List D):
  Cv e (B0 c (L.set p (.gro 4 ws.length 2)) [some (Ab (ws.map lE))]) e (Ae8 c xs [none]):=by
 have h:=JD (σ:=B0 c (L.set p (.gro 4 ws.length 2)) [some (Ab (ws.map lE))]) (p:=2) (q:=4) (i:=p) (sz:=2) (cs:=L.set p (.gro 4 ws.length 2)) (xs:=ws.map lE) (by decide) rfl rfl (by decide) (by rw[List.getElem?_set_self hp,H3]) (fun y hy=>by obtain⟨x,_,rfl⟩:=Il.1 hy;rfl) e
 rw[List.set_set] at h
 exact K9 h (RP c xs _ hL hx [none] e)
theorem Rb{ρ τ:Nat->Nat}:∀(L:List D) (p:Nat) (d:D),D.pls L=true->D.rens ρ τ (L.set p d)=L.set p (d.ren ρ τ)
 |[],_,_,_=>by simp[D.rens]
 |x::L,0,d,h=>by
  simp only[D.pls,H5] at h
  rw[set_cons_zero,D.rens,AV h.2,set_cons_zero]
 |x::L,p+1,d,h=>by
  simp only[D.pls,H5] at h
  rw[IP,D.rens,Rb L p d h.2,VE x h.1,IP]
theorem Rv{n:Nat}{ts:List Nat}:∀(L:List D) (p:Nat) (d:D),D.pls L=true->d.okN n ts=true->D.okNs n ts (L.set p d)=true
 |[],_,_,_,_=>by simp[D.okNs]
 |x::L,0,d,h,hd=>by
  simp only[D.pls,H5] at h
  rw[set_cons_zero,D.okNs,hd,AO h.2];rfl
 |x::L,p+1,d,h,hd=>by
  simp only[D.pls,H5] at h
  rw[IP,D.okNs,W1 x h.1,Rv L p d h.2 hd];rfl
noncomputable abbrev eWi(p:Nat)(ws:List Int)(k:Nat):List D:=mkE 46 [(8,.ptr 0 0),(9,.ptr 3 0),(10,.ptr 2 p),(28,dIs ws),(29,di ws.length),(30,di k)]
theorem Ur{R:List D->St->Prop}{ks:List KI}(c:Val)(L F:List D)(hL:D.pls L=true)(hF:D.pls F=true)(p n:Nat)(ws:List Int)(k:Nat)
  (h:A1 (CN 0) PP R ks (eWi p ws k) (B0 c (L.set p (.gro 4 n 2)) [some F])):A1 (CN 0) PP R ks (eWi p ws k) (B0 c (L.set p (.gro 5 n 2)) [none,some F]):=by
 refine Ee (σ:=B0 c (L.set p (.gro 5 n 2)) [none,some F]) (e':=eWi p ws k) (H':=(B0 c (L.set p (.gro 4 n 2)) [some F]).H) (m:=0) (fun _ _ h=>h.2) (fun i=>if i<4 then i else i+1) (Ic _) (fun i hi=>by omega) (fun i j _ _ h=>?_) (fun i cs hi=>?_) ?_ ?_ h
 ·have h:(if i<4 then i else i+1)=(if j<4 then j else j+1):=h
  split at h<;>split at h<;>omega
 ·match i,hi with
  |0,hi=>simp at hi;subst hi;exact⟨rfl,rfl⟩
  |1,hi=>simp at hi;subst hi;exact⟨rfl,rfl⟩
  |2,hi=>
   simp at hi;subst hi
   refine⟨?_,Rv L p _ hL rfl⟩
   rw[Rb L p _ hL];rfl
  |3,hi=>simp at hi;subst hi;exact⟨rfl,rfl⟩
  |4,hi=>
   simp at hi;subst hi
   refine⟨?_,AO hF⟩
   rw[AV hF];rfl
  |i+5,hi=>simp at hi
 ·simp[mkE,D.okNs,D.okN]
 ·simp[mkE,D.rens,D.ren]
theorem NR(d:D)(σ':St)(c:Val)(L:List D)(T:List (Option (List D)))(p:Nat)(ws:List Int)(x:Int)(k:Nat)(hk:k<=1000)(d36 d39 d41 d42:D)
  (h:Rn PP G0 0 d σ' [.lp (sub AX [1,1,1,1,1,0,1,0,0]),.blk 0,.code (sub AX [1,1,1,1,1,1])] (eWi p ws (k+1)) (B0 c L T)):
  Rn PP G0 0 d σ' [.blk 1,.code (sub AX [1,1,1,1,1,0,1,0,0,1,1,1]),.lp (sub AX [1,1,1,1,1,0,1,0,0]),.blk 0,.code (sub AX [1,1,1,1,1,1])] (mkE 46 [(8,.ptr 0 0),(9,.ptr 3 0),(10,.ptr 2 p),(12,di x),(28,dIs ws),(29,di ws.length),(30,di k),(34,.ptr 2 p),(35,.ptr 2 p),(36,d36),(37,di x),(38,.v (lE x)),(39,d39),(40,.v (.list [zE])),(41,d41),(42,d42),(43,.ptr 2 p)]) (B0 c L T):=by
 have h0:Rn PP G0 0 d σ' ([.blk 1,.code (sub AX [1,1,1,1,1,0,1,0,0,1,1,1]),.lp (sub AX [1,1,1,1,1,0,1,0,0]),.blk 0,.code (sub AX [1,1,1,1,1,1])]++[]) (mkE 46 [(8,.ptr 0 0),(9,.ptr 3 0),(10,.ptr 2 p),(12,di x),(28,dIs ws),(29,di ws.length),(30,di k)]) (B0 c L T):=by
  refine Abt mixed 46 [4] (.l [ke 8,ke 9,ke 10,ke 28,ke 29,ch 30 (di (k+1:Nat))]) ?_
  refine via (by kernel_rfl:(di (wrap i64 ((k:Int)+1))=di (↑(k+1):Int)/\I0 G0 0 d σ' [kl AX [1,1,1,1,1,0,1,0,0],Aza 0,kc AX [1,1,1,1,1,1]] (mkE 46 [(8,Azb 0 0),(9,Azb 3 0),(10,Azb 2 p),(28,dIs ws),(29,di (ws.length:Int)),(30,di (↑(k+1):Int))]) (B0 c L T))=_) ?_
  exact⟨Ad (by omega),⟨h⟩⟩
 refine PI (L:=[(8,.ptr 0 0),(9,.ptr 3 0),(10,.ptr 2 p),(12,di x),(28,dIs ws),(29,di ws.length),(30,di k)]) (L2:=[(34,.ptr 2 p),(35,.ptr 2 p),(36,d36),(37,di x),(38,.v (lE x)),(39,d39),(40,.v (.list [zE])),(41,d41),(42,d42),(43,.ptr 2 p)]) (fun q hq=>?_) h0
 simp only[Ij,IU,or_false] at hq
 rcases hq with rfl|rfl|rfl|rfl|rfl|rfl|rfl|rfl|rfl|rfl<;>simp[mkE]
theorem Qk(l:List Int):(Ab (l.map lE)).length=l.length*2:=by rw[Ac1,BA,H3]
noncomputable abbrev Alo:=[kc AX [1,1,1,1,1,0,1,0,0,1,1,0,0,1],Aza 1,kc AX [1,1,1,1,1,0,1,0,0,1,1,1],kl AX [1,1,1,1,1,0,1,0,0],Aza 0,kc AX [1,1,1,1,1,1]]
noncomputable abbrev Aph:=(A0 (sub AX [1,1,1,1,1,0,1,0,0,1,1,0,0,0]))
theorem Us(c:Val)(xs:List Val)(L:List D)(hpl:D.pls L=true)(p:Nat)(hp:p<L.length)(ws:List Int)(hw:ws.length<=900)(hL:L.set p (.v (.list (ws.map lE)))=Ab (xs.map eV))(hx:xs.length=c.kids.length)(n:Nat):∀k:Nat,ws.length- (k+1)=n->k<ws.length->
  Rn PP G0 0 (dV (.mk c.n xs)) σ0 ([.lp (sub AX [1,1,1,1,1,0,1,0,0]),.blk 0,.code (sub AX [1,1,1,1,1,1])]++[]) (mkE 46 [(8,.ptr 0 0),(9,.ptr 3 0),(10,.ptr 2 p),(28,dIs ws),(29,di ws.length),(30,di (k+1:Nat))]) (B0 c (L.set p (.gro 4 (k+1) 2)) [some (Ab ((ws.take (k+1)).map lE))]):=by
 induction n with
 |zero=>
  intro k hn hk
  refine lv 46 [4] (.f<|.h (.q 10 0)<|.h (.cs (Ae8 c xs [none])) .r) (decide ((↑(k+1):Int)<(ws.length:Int))=false/\(∀(e:List D) (E:Ent) (g:Gh) (a:Act) (w:World),FI E g (Azd [some [di 0,dn],some (Aox c.n c.kids.length),some (List.set L p (Azm 4 (k+1) 2)),some (Aox c.n c.kids.length),some (Ab (map lE (take (k+1) ws)))] []) e a w->∃g',FI E g' (Ae8 c xs [none]) e a w)/\D.v (Azh [vi c.n,Azf (map eV xs)])=dV (Val.mk c.n xs)) ?_
  have e:k+1=ws.length:=by omega
  rw[e,HW (HB _)]
  exact⟨H8 (by omega),fun e=>Abq c xs L p hp ws hL hx e,rfl⟩
 |succ n ih=>
  intro k hn hk
  obtain⟨x,hx1⟩:∃x,ws[k+1]?=some x:=⟨_,H4 (show k+1<ws.length by omega)⟩
  refine lv 46 [4] (.t<|.x (vi x)<|.h (.q 7 2)<|.h (.s [ke 8,ke 9,ke 10,ke 28,ke 29,ke 30,ke 33]) .z) (decide ((↑(k+1):Int)<(ws.length:Int))=true/\0<=(↑(k+1):Int)/\(map vi ws)[Int.toNat (↑(k+1):Int)]?=some (vi x)/\Nv.It (AT (CN 0) PP (fun env σ1=>Aw PP G0 env σ1 (dV (Val.mk c.n xs)) σ0) Alo Aph (List.drop 2 Aph.toList) (mkE 46 [(8,Azb 0 0),(9,Azb 3 0),(10,Azb 2 p),(28,dIs ws),(29,di (ws.length:Int)),(30,di (↑(k+1):Int)),(33,di x)]) (B0 c (List.set L p (Azm 4 (k+1) 2)) [some (Ab (map lE (take (k+1) ws)))]))) ?_
  refine⟨H6 (by omega),by omega,Aq hx1,⟨?_⟩⟩
  refine MF (ks:=[]) (T:=[.code (sub AX [1,1,1,1,1,0,1,0,0,1,1,0,0,1]),.blk 1,.code (sub AX [1,1,1,1,1,0,1,0,0,1,1,1]),.lp (sub AX [1,1,1,1,1,0,1,0,0]),.blk 0,.code (sub AX [1,1,1,1,1,1])]) mixed (OF 0) 0 (fun _ _ h=>h.2) 46 [4] 7 2 (.l [ke 8,ke 9,ke 10,ch 12 (di x),ke 28,ke 29,ke 30]) ?_
  refine via (by kernel_rfl:(Q (di x)/\I0 G0 0 (dV (Val.mk c.n xs)) σ0 Alo (mkE 46 [(8,Azb 0 0),(9,Azb 3 0),(10,Azb 2 p),(12,di x),(28,dIs ws),(29,di (ws.length:Int)),(30,di (↑(k+1):Int))]) (B0 c (List.set L p (Azm 4 (k+1) 2)) [some (Ab (map lE (take (k+1) ws)))]))=_) ?_
  have hk1:=(H7.1 hx1).1
  have ht:(ws.take (k+1+1)).map lE=(ws.take (k+1)).map lE++[lE x]:=by rw[IF (i:=k+1),hx1];simp
  have hfl:(Ab ((ws.take (k+1)).map lE)).length=(k+1)*2:=by rw[Qk,HY];omega
  have hih:=ih (k+1) (by omega) hk1
  have hF:(Ab ((ws.take (k+1)).map lE)++[di 0,.v .nils]).take (0+Int.toNat ((k+1:Nat):Int)*2)++[di x,.v (.list [])]++(Ab ((ws.take (k+1)).map lE)++[di 0,.v .nils]).drop (0+Int.toNat ((k+1:Nat):Int)*2+2)=Ab ((ws.take (k+1+1)).map lE):=by
   rw[show 0+Int.toNat ((k+1:Nat):Int)*2=(k+1)*2 by omega,List.take_left' hfl,HO (by rw[HI,hfl];simp),Is,ht]
   simp only[Ab,List.flatMap_append,IJ];rfl
  refine⟨rfl,⟨QA c p L hp x (k+1) (.gro 4 (k+1) 2) [some (Ab ((ws.take (k+1)).map lE))] _ _ 5 (by simp) ws (k+1:Nat) (fun τ=>opOK_see (.cons .gro .nil) (Afl 4 (k+1) τ)) (AhM c _ _ (k+1) (by omega) hfl) (fun M=>AhL c M _ _ x (by rw[HI,hfl];simp only[H9,HD];omega)) ?_⟩⟩
  refine NR _ _ c _ _ p ws x (k+1) (by omega) _ _ _ _ ?_
  rw[hF]
  exact Ur c L _ hpl (A3 _) p (k+1+1) ws (k+1+1) hih
theorem Tx{σ:St}{q i:Nat}{cs:List D}(hq:σ.H[q]?=some (some cs))(hi:cs[i]?=some (.v .nils))(e:List D):Cv e σ e ⟨σ.H.set q (some (cs.set i (.v (.list [])))),σ.own⟩:=
 El (σ:=σ) (q:=q) (cs:=cs) (cs':=cs.set i (.v (.list []))) hq (fun g us hr=>by
  obtain⟨u,hu,hru⟩:=B9 hr hi
  have:=CG hr i (d:=.v (.list [])) (u:=u) (EF hru)
  rwa[Ed hu] at this) (fun h c hc=>by
  rcases I8 hc with h2|h2
  ·exact h c h2
  ·rw[h2];rfl) e
theorem P2{l:List Val}{s0 x:Val}{k:Nat}(h0:l[0]?=some s0)(hx:l[1+k]?=some x)(s:Int)(ws:List Int):
  ((Ab (l.map eV)).set 0 (di s)).set ((1+k)*2+1) (.v (.list (ws.map lE)))=Ab ((BC l s0 x s (1+k) ws).map eV):=by
 have h1:=Lu l 0 s0 s h0
 rw[Nat.zero_mul] at h1
 rw[h1,Ac1]
 exact ON _ (1+k) x _ (by rw[getElem?_set_ne (by omega)];exact hx)
theorem Wp(c:Val)(hn:c.kids≠ [])(hc:c.size<=1000){o:Oper}{cl:Call}{fo:Operand}(ho:o.op=.call cl)(hc2:cl.callee=.value fo):Ah PP o [.v (.fn 264 [] []),dV c] ⟨[some [di 0,.v .nils]],[]⟩ (.dagg [di c.n,.arr 2 0 c.kids.length]) ⟨[some [di 0,.v .nils],some [di c.n,.arr 2 0 c.kids.length],some (Ab (c.kids.map eV))],[]⟩:=by
 have h:=CT (σ:=⟨[some [di 0,.v .nils]],[]⟩) ho hc2 (fD:=.v (.fn 264 [] [])) rfl (ds:=[dV c]) [] id (Xz c hn (by omega)) (.cons (.ren (dc:=dV c) rfl) .nil) .nil (by simp) rfl (by simp) (by simp) (by simp[D.okN,D.okNs]) (by simp[okH,D.okN,D.okNs,Ai])
 have e1:D.rens (rho 1 []) id (Ab (c.kids.map eV))=Ab (c.kids.map eV):=AV (A3 _)
 simpa[Gi,CM,Gg,D.ren,D.rens,rho,e1] using h
noncomputable abbrev Anf:=fun a₀ b₀ c₀=>(Azd [some [di 0,dn],some [di a₀,Azi 2 0 b₀],some (Akr c₀)] [])
noncomputable abbrev Anu:=fun a₀ b₀ c₀ d₀=>(N0 [D.v (Azl 264 [] []),dV a₀] (Azd [some [di 0,dn]] []) (D.dagg [di b₀,Azi 2 0 c₀]) (Azd [some [di 0,dn],some [di b₀,Azi 2 0 c₀],some (Akr d₀)] []))
theorem NS(c:Val)(hc:c.size<=1000)(s0 x:Val)(k:Nat)(h0:c.kids[0]?=some s0)(hx:c.kids[1+k]?=some x)(s:Int)(ws:List Int)(hw:ws.length<=900):
  Aa PP 242 [dV c,di s,di k,dIs ws] σ0 (dV (.mk c.n (BC c.kids s0 x s (1+k) ws))) σ0:=by
 have hk:=(H7.1 hx).1
 have hkl:=Val.length_le c.kids
 have hks:=c.size_eq
 have hww:i64.wrap (1+(k:Int))=((1+k:Nat):Int):=by rw[Al (by omega) (by omega)];omega
 have hfl:(Ab (c.kids.map eV)).length=c.kids.length*2:=BA _
 have hp0:Nat.add (0+Int.toNat ((1+k:Nat):Int)*2) 1=(1+k)*2+1:=by show 0+Int.toNat ((1+k:Nat):Int)*2+1=_;omega
 have hne:c.kids≠ []:=by intro e;rw[e] at h0;simp at h0
 have hxl:(BC c.kids s0 x s (1+k) ws).length=c.kids.length:=by simp[BC]
 have hcl:=P2 h0 hx s ws
 have hw0:0<c.kids.length:=by omega
 cases ws with
 |nil=>
  refine sv G0 46 [4] (.h (.oc (.dagg [di c.n,.arr 2 0 c.kids.length]) ⟨[some [di 0,.v .nils],some [di c.n,.arr 2 0 c.kids.length],some (Ab (c.kids.map eV))],[]⟩)<|.h (.q 2 5)<|.w<|.h (.q 4 2)<|.w<|.n<|.f<|.h (.q 10 0)<|.h (.cs (Ae8 c (BC c.kids s0 x s (1+k) []) [])) .r) ((∀(o:Oper) (c_1:Call) (fo:Operand),o.op=Op.call c_1->c_1.callee=Callee.value fo->Ah PP o [D.v (V.fn 264 [] []),dV c] (St.mk [some [di 0,dn]] []) (D.dagg [di c.n,D.arr 2 0 c.kids.length]) (St.mk [some [di 0,dn],some [di c.n,D.arr 2 0 c.kids.length],some (Ab (map eV c.kids))] []))/\iz 0<=0/\0<(c.kids.length:Int)/\0<length (Ab (map eV c.kids))/\0<=wrap i64 (1+(k:Int))/\wrap i64 (1+(k:Int))<(c.kids.length:Int)/\Nat.add (0+Int.toNat (wrap i64 (1+(k:Int)))*2) 1<length (List.set (Ab (map eV c.kids)) (Nat.add (0+Int.toNat 0*2) 0) (di s))/\decide (0<(length (map vi []):Int))=false/\(∀(e:List D) (E:Ent) (g:Gh) (a:Act) (w:World),FI E g (St.mk [some [di 0,dn],some [di c.n,D.arr 2 0 c.kids.length],some (List.set (List.set (Ab (map eV c.kids)) (Nat.add (0+Int.toNat 0*2) 0) (di s)) (Nat.add (0+Int.toNat (wrap i64 (1+(k:Int)))*2) 1) (evN [dV c,di s,di (k:Int),dIs [],D.v (V.ref (Af c)),D.undef,D.undef,D.undef,D.ptr σ0.H.length 0,D.ptr (length (St.mk [some [di 0,dn],some [di c.n,D.arr 2 0 c.kids.length],some (Ab (map eV c.kids))] []).H) 0,D.ptr 2 (Nat.add (0+Int.toNat (wrap i64 (1+(k:Int)))*2) 1),D.undef,D.undef,dV c,D.dagg [di c.n,D.arr 2 0 c.kids.length],D.ptr (length (St.mk [some [di 0,dn],some [di c.n,D.arr 2 0 c.kids.length],some (Ab (map eV c.kids))] []).H) (Nat.add 0 1),D.arr 2 0 c.kids.length,di s,D.ptr 2 (0+Int.toNat 0*2),D.ptr 2 (Nat.add (0+Int.toNat 0*2) 0),D.ptr (length (St.mk [some [di 0,dn],some [di c.n,D.arr 2 0 c.kids.length],some (Ab (map eV c.kids))] []).H) (Nat.add 0 1),D.arr 2 0 c.kids.length,di (k:Int),D.v (V.int i64 (wrap i64 (1+(k:Int)))),D.ptr 2 (0+Int.toNat (wrap i64 (1+(k:Int)))*2),D.ptr 2 (Nat.add (0+Int.toNat (wrap i64 (1+(k:Int)))*2) 1),D.ptr 2 (Nat.add (0+Int.toNat (wrap i64 (1+(k:Int)))*2) 1),D.ptr 2 (Nat.add (0+Int.toNat (wrap i64 (1+(k:Int)))*2) 1),D.undef,D.undef,D.undef,D.undef,D.undef,D.undef,D.undef,D.undef,D.undef,D.undef,D.undef,D.undef,D.undef,D.undef,D.undef,D.undef,D.undef,D.undef] (Operand.const (Value.slice none 0 0)))),some [di c.n,D.arr 2 0 c.kids.length]] []) e a w->∃g',FI E g' (Ae8 c (BC c.kids s0 x s (1+k) []) []) e a w)/\D.v (V.agg [vi c.n,V.list (map eV (BC c.kids s0 x s (1+k) []))])=dV (Val.mk c.n (BC c.kids s0 x s (1+k) []))) ?_
  rw[hww,hp0]
  refine⟨fun o cl fo ho hc2=>Wp c hne hc ho hc2,HV _,by omega,by rw[hfl];omega,by omega,by omega,by rw[length_set,hfl];omega,rfl,fun e=>?_,rfl⟩
  refine K9 (Tx (σ:=B0 c (((Ab (c.kids.map eV)).set 0 (di s)).set ((1+k)*2+1) (.v .nils)) []) (q:=2) (i:=(1+k)*2+1) rfl (by rw[List.getElem?_set_self (by rw[length_set,hfl];omega)]) e) ?_
  rw[List.set_set]
  exact RP c _ _ hcl hxl [] e
 |cons y ws=>
  refine sv G0 46 [4] (.h (.oc (.dagg [di c.n,.arr 2 0 c.kids.length]) ⟨[some [di 0,.v .nils],some [di c.n,.arr 2 0 c.kids.length],some (Ab (c.kids.map eV))],[]⟩)<|.h (.q 2 5)<|.w<|.h (.q 4 2)<|.w<|.n<|.t<|.x (vi y)<|.h (.q 7 2)<|.h (.s [ke 8,ke 9,ke 10,ke 28,ke 29,ke 30,ke 33]) .z) ((∀(o:Oper) (c_1:Call) (fo:Operand),o.op=Op.call c_1->c_1.callee=Callee.value fo->Ah PP o [D.v (V.fn 264 [] []),dV c] (St.mk [some [di 0,dn]] []) (D.dagg [di c.n,D.arr 2 0 c.kids.length]) (St.mk [some [di 0,dn],some [di c.n,D.arr 2 0 c.kids.length],some (Ab (map eV c.kids))] []))/\iz 0<=0/\0<(c.kids.length:Int)/\0<length (Ab (map eV c.kids))/\0<=wrap i64 (1+(k:Int))/\wrap i64 (1+(k:Int))<(c.kids.length:Int)/\Nat.add (0+Int.toNat (wrap i64 (1+(k:Int)))*2) 1<length (List.set (Ab (map eV c.kids)) (Nat.add (0+Int.toNat 0*2) 0) (di s))/\decide (0<(length (map vi (y::ws)):Int))=true/\iz 0<=0/\Q (some (vi y))/\Nv.It (AT (CN σ0.H.length) PP (fun env σ1=>Aw PP G0 env σ1 (dV (Val.mk c.n (BC c.kids s0 x s (1+k) (y::ws)))) σ0) [kc AX [1,1,1,1,1,0,1,0,0,1,1,0,0,1],KI.blk 1,kc AX [1,1,1,1,1,0,1,0,0,1,1,1],kl AX [1,1,1,1,1,0,1,0,0],KI.blk 0,kc AX [1,1,1,1,1,1]] (A0 (sub AX [1,1,1,1,1,0,1,0,0,1,1,0,0,0])) (List.drop 2 (A0 (sub AX [1,1,1,1,1,0,1,0,0,1,1,0,0,0])).toList) (mkE 46 [(8,D.ptr 0 0),(9,D.ptr 3 0),(10,D.ptr 2 (Nat.add (0+Int.toNat (wrap i64 (1+(k:Int)))*2) 1)),(28,dIs (y::ws)),(29,di (length (map vi (y::ws)):Int)),(30,di 0),(33,di y)]) (St.mk [some [di 0,dn],some [di c.n,D.arr 2 0 c.kids.length],some (List.set (List.set (Ab (map eV c.kids)) (Nat.add (0+Int.toNat 0*2) 0) (di s)) (Nat.add (0+Int.toNat (wrap i64 (1+(k:Int)))*2) 1) (dn)),some [di c.n,D.arr 2 0 c.kids.length]] []))) ?_
  rw[hww,hp0]
  refine⟨fun o cl fo ho hc2=>Wp c hne hc ho hc2,HV _,by omega,by rw[hfl];omega,by omega,by omega,by rw[length_set,hfl];omega,H6 (by simp only[H3,H9];omega),HV _,rfl,⟨?_⟩⟩
  obtain⟨L,hL⟩:∃L,L=(Ab (c.kids.map eV)).set 0 (di s):=⟨_,rfl⟩
  rw[←hL] at hcl
  have hpl:D.pls L=true:=by
   rw[hL]
   have h1:=Lu c.kids 0 s0 s h0
   rw[Nat.zero_mul] at h1
   rw[h1];exact A3 _
  have hpL:(1+k)*2+1<L.length:=by rw[hL,length_set,hfl];omega
  have hlp:=Us c _ L hpl ((1+k)*2+1) hpL (y::ws) hw hcl hxl _ 0 rfl (by simp)
  have hst:St.mk [some [di 0,D.v V.nils],some [di c.n,D.arr 2 0 c.kids.length],some (((Ab (c.kids.map eV)).set (Nat.add (0+Int.toNat 0*2) 0) (di s)).set ((1+k)*2+1) (D.v V.nils)),some [di c.n,D.arr 2 0 c.kids.length]] []=B0 c (L.set ((1+k)*2+1) (.v .nils)) []:=by rw[hL];rfl
  rw[hst]
  refine MF (ks:=[]) (T:=[.code (sub AX [1,1,1,1,1,0,1,0,0,1,1,0,0,1]),.blk 1,.code (sub AX [1,1,1,1,1,0,1,0,0,1,1,1]),.lp (sub AX [1,1,1,1,1,0,1,0,0]),.blk 0,.code (sub AX [1,1,1,1,1,1])]) mixed (OF 0) 0 (fun _ _ h=>h.2) 46 [4] 7 2 (.l [ke 8,ke 9,ke 10,ch 12 (di y),ke 28,ch 29 (di (y::ws).length),ch 30 (di (0:Nat))]) ?_
  refine via (by kernel_rfl:(Q (di y)/\di (length (map vi (y::ws)):Int)=di (length (y::ws):Int)/\di 0=di (↑0:Int)/\I0 G0 0 (dV (Val.mk c.n (BC c.kids s0 x s (1+k) (y::ws)))) σ0 [kc AX [1,1,1,1,1,0,1,0,0,1,1,0,0,1],KI.blk 1,kc AX [1,1,1,1,1,0,1,0,0,1,1,1],kl AX [1,1,1,1,1,0,1,0,0],KI.blk 0,kc AX [1,1,1,1,1,1]] (mkE 46 [(8,D.ptr 0 0),(9,D.ptr 3 0),(10,D.ptr 2 ((1+k)*2+1)),(12,di y),(28,D.v (vIs (y::ws))),(29,di (length (y::ws):Int)),(30,di (↑0:Int))]) (B0 c (List.set L ((1+k)*2+1) (dn)) []))=_) ?_
  refine⟨rfl,by rw[H3],rfl,⟨QA c ((1+k)*2+1) L hpL y 0 (.v .nils) [] [some [di 0,.v .nils]] [some [di y,.v (.list [])]] 4 (by simp) (y::ws) (0:Nat) (fun τ=>Afk τ) (Afi c _) (fun M=>Afg c M y) ?_⟩⟩
  exact NR _ _ c _ _ ((1+k)*2+1) (y::ws) y 0 (by omega) _ _ _ _ hlp
noncomputable abbrev Tu:Func:= Tryz.f199
theorem KR:∀(l:List Val) (i:Nat) (x y:Val),l[i]?=some x->Val.sizes (l.set i y)+x.size=Val.sizes l+y.size
 |[],_,_,_,h=>by simp at h
 |z::l,0,x,y,h=>by
  simp at h;subst h
  rw[set_cons_zero,Val.sizes,Val.sizes];omega
 |z::l,i+1,x,y,h=>by
  have:=KR l i x y (by simpa using h)
  rw[IP,Val.sizes,Val.sizes];omega
theorem Zv(ws:List Int):Val.sizes (ws.map lf)=ws.length:=Hu ws
theorem Jx{l:List Val}{s0 x:Val}{k:Nat}(h0:l[0]?=some s0)(hx:l[1+k]?=some x)(s:Int)(ws:List Int)(n:Int):(Val.mk n (BC l s0 x s (1+k) ws)).size<=1+Val.sizes l+ws.length+1:=by
 have h1:=KR l 0 s0 (.mk s s0.kids) h0
 have h2:=KR (l.set 0 (.mk s s0.kids)) (1+k) x (.mk x.n (ws.map lf)) (by rw[getElem?_set_ne (by omega)];exact hx)
 have h3:(Val.mk n (BC l s0 x s (1+k) ws)).size=1+Val.sizes ((l.set 0 (.mk s s0.kids)).set (1+k) (.mk x.n (ws.map lf))):=by rw[Val.size];rfl
 have h4:(Val.mk s s0.kids).size=1+Val.sizes s0.kids:=by rw[Val.size]
 have h5:(Val.mk x.n (ws.map lf)).size=1+Val.sizes (ws.map lf):=by rw[Val.size]
 have h6:=s0.size_eq
 have h7:=Zv ws
 have h8:=x.size_pos
 omega
abbrev z00:Val:=.mk 0 []
def Hh(c:Val)(k:Nat)(s:Int)(w:List Int):Val:=.mk c.n (BC c.kids (c.kids.getD 0 z00) (c.kids.getD (1+k) z00) s (1+k) w)
def AiR(r:Rul)(c:Val):Bool:=((c.kids.getD 0 z00).n==r.frm)&&((r.act !=2)||(AS (c.kids.getD (1+r.chan.toNat) z00)).head?==some r.letter)
def TI(t:Typ)(r:Rul)(c:Val):Val×Int:=
 if Aj t c=true then
  if AiR r c=true then
   if (r.act==1)=true then
    if (((AS (c.kids.getD (1+r.chan.toNat) z00)).length:Int)==12)=true then(z00,1) else(Hh c r.chan.toNat r.to (AS (c.kids.getD (1+r.chan.toNat) z00)++[r.letter]),0)
   else if (r.act==2)=true then(Hh c r.chan.toNat r.to ((AS (c.kids.getD (1+r.chan.toNat) z00)).drop 1),0) else(Hh c r.chan.toNat r.to (AS (c.kids.getD (1+r.chan.toNat) z00)),0)
  else(z00,18)
 else(z00,17)
theorem Ph{c s0 x:Val}{k:Nat}(h0:c.kids[0]?=some s0)(hx:c.kids[1+k]?=some x)(s:Int)(w:List Int):Hh c k s w=.mk c.n (BC c.kids s0 x s (1+k) w):=by
 simp only[Hh,HC,h0,hx,IT]
noncomputable abbrev Anl:=fun a₀ b₀ c₀=>Aa PP 241 [dV a₀,di b₀] Akz (Azc 1 (map vi (AS c₀))) (Azd [] [(1,1,map vi (AS c₀))])
noncomputable abbrev Anm:=fun a₀ (b₀:Nat) c₀=>F0 239 [Ag a₀,di (b₀:Int),dV c₀] (di 0)
noncomputable abbrev Aor:=fun a₀ b₀=>F0 240 [Cl a₀,dV b₀] (db true)
theorem Sa(m:Mod)(t:Typ)(hm:ChM m t)(i:Nat)(r:Rul)(hi:m.rules[i]?=some r)(c:Val)(hs:c.size<=1000):(TI t r c).1.size<=1000/\Aa PP 199 [Ag m,di i,dV c] σ0 (dP (TI t r c)) σ0:=by
 have hir:=(H7.1 hi).1
 have hat:=AbE m t hm i hir c (by omega)
 have hfew:=hm.few
 rw[AcH] at hat
 unfold TI
 by_cases hv:Aj t c=true
 ·rw[HP hv] at hat
  rw[HP hv]
  have hsh:=hm.shape c hv
  have hrc:=hm.rule r (HA hi)
  obtain⟨k,hk⟩:∃k:Nat,r.chan=k:=⟨r.chan.toNat,by omega⟩
  obtain⟨s0,h0⟩:∃x,c.kids[0]?=some x:=⟨_,H4 (by rw[hsh.len];omega)⟩
  obtain⟨x,hx⟩:∃x,c.kids[1+k]?=some x:=⟨_,H4 (by rw[hsh.len];omega)⟩
  have hx12:=hsh.word k x hx
  have hkl:c.kids.length<=1000000:=by rw[hsh.len];omega
  have hen:=XK r c k hk s0 x h0 hx hkl (by omega)
  have hct:=Mj c k x hx hkl (by omega)
  have hwi:=fun ws hw=>NS c hs s0 x k h0 hx r.to ws hw
  have hsz:=fun ws=>Jx h0 hx r.to ws c.n
  have hcs:=c.size_eq
  have h128:=hsh.size
  rw[←hk] at hct hwi
  have hnl:(AS x).length<=12:=by rw[H3];exact hx12
  have ek:r.chan.toNat=k:=by rw[hk];rfl
  have e0:c.kids.getD 0 z00=s0:=by rw[HC,h0];rfl
  have ex:c.kids.getD (1+k) z00=x:=by rw[HC,hx];rfl
  unfold AiR
  rw[ek,e0,ex]
  simp only[Ph h0 hx]
  cases hb:((s0.n==r.frm)&&((r.act !=2)||(AS x).head?==some r.letter)) with
  |false=>
   rw[hb] at hen
   rw[HL (by decide)]
   refine⟨by decide,?_⟩
   refine sv Tu 57 [3,5] (.c (di 0)<|.k<|.x (Ak r)<|.c (db false) .r) (Anm m i c/\0<=(i:Int)/\(Aps m.rules)[Int.toNat (i:Int)]?=some (Ak r)/\F0 240 [Cl r,dV c] (db false)/\Azn [D.v (Azh [vi 0,Azf []]),di 18]=dP (z00,18)) ?_
   exact⟨hat,by omega,Aq hi,hen,rfl⟩
  |true=>
   rw[hb] at hen
   rw[HP rfl]
   by_cases h1:(r.act==1)=true
   ·rw[HP h1]
    by_cases h2:(((AS x).length:Int)==12)=true
    ·rw[HP h2]
     refine⟨by decide,?_⟩
     refine sv Tu 57 [3,5] (.c (di 0)<|.k<|.x (Ak r)<|.c (db true)<|.k<|.h (.ck 1 1 1 ((AS x).map vi))<|.t<|.t .r) (Anm m i c/\0<=(i:Int)/\(Aps m.rules)[Int.toNat (i:Int)]?=some (Ak r)/\Aor r c/\Anl c r.chan x/\(r.act==1)=true/\((length (map vi (AS x)):Int)==12)=true/\Azn [D.v (Azh [vi 0,Azf []]),di 1]=dP (z00,1)) ?_
     exact⟨hat,by omega,Aq hi,hen,hct,h1,by rw[H3];exact h2,rfl⟩
    ·rw[HL h2]
     refine⟨?_,?_⟩
     ·have:=hsz (AS x++[r.letter])
      simp only[HI,H9,HD] at this
      show(Val.mk c.n (BC c.kids s0 x r.to (1+k) (AS x++[r.letter]))).size<=1000
      omega
     ·refine sv Tu 57 [3,5] (.c (di 0)<|.k<|.x (Ak r)<|.c (db true)<|.k<|.h (.ck 1 1 1 ((AS x).map vi))<|.t<|.f<|.c (dV (.mk c.n (BC c.kids s0 x r.to (1+k) (AS x++[r.letter])))) .r) (Anm m i c/\0<=(i:Int)/\(Aps m.rules)[Int.toNat (i:Int)]?=some (Ak r)/\Aor r c/\Anl c r.chan x/\(r.act==1)=true/\((length (map vi (AS x)):Int)==12)=false/\Q (map vi (AS x))/\Ar (length (map vi (AS x))+length (vi r.letter::nV)) 8/\F0 242 [dV c,di r.to,di r.chan,D.v (Azf (map vi (AS x)++[vi r.letter]))] (dV (Val.mk c.n (BC c.kids s0 x r.to (1+k) (AS x++[r.letter]))))/\Azn [D.v (Azh [vi (Val.n (Val.mk c.n (BC c.kids s0 x r.to (1+k) (AS x++[r.letter])))),Azf (map eV (Val.kids (Val.mk c.n (BC c.kids s0 x r.to (1+k) (AS x++[r.letter])))))]),di 0]=dP (Val.mk c.n (BC c.kids s0 x r.to (1+k) (AS x++[r.letter])),0)) ?_
      have hw:=hwi (AS x++[r.letter]) (by simp only[HI,H9,HD];omega)
      have e:(AS x).map vi++[vi r.letter]=(AS x++[r.letter]).map vi:=by simp
      rw[e]
      exact⟨hat,by omega,Aq hi,hen,hct,h1,by rw[H3];exact HG h2,rfl,⟨by simp only[H3,H9,HD] at*;omega,by simp only[H3,H9,HD] at*;omega⟩,hw,rfl⟩
   ·rw[HL h1]
    by_cases h2:(r.act==2)=true
    ·rw[HP h2]
     have hn:1<=(AS x).length:=by
      cases hn:AS x with
      |nil=>rw[hn] at hb;simp_all
      |cons y ys=>simp
     obtain⟨W,hW⟩:∃W,W=AS x:=⟨_,rfl⟩
     rw[←hW] at hct hn hnl⊢
     refine⟨?_,?_⟩
     ·have:=hsz (W.drop 1)
      rw[I9] at this
      show(Val.mk c.n (BC c.kids s0 x r.to (1+k) (W.drop 1))).size<=1000
      omega
     ·refine sv Tu 57 [3,5] (.c (di 0)<|.k<|.x (Ak r)<|.c (db true)<|.k<|.h (.ck 1 1 1 (W.map vi))<|.f<|.t<|.c (dV (.mk c.n (BC c.kids s0 x r.to (1+k) (W.drop 1)))) .r) (Anm m i c/\0<=(i:Int)/\(Aps m.rules)[Int.toNat (i:Int)]?=some (Ak r)/\Aor r c/\Aa PP 241 [dV c,di r.chan] Akz (Azc 1 (map vi W)) (Azd [] [(1,1,map vi W)])/\(r.act==1)=false/\(r.act==2)=true/\(∀(x:V),x∈map vi W->V.size x=1)/\0<=(1:Int)/\(1:Int)<=(length (map vi W):Int)/\F0 242 [dV c,di r.to,di r.chan,D.v (Azf (List.drop (Int.toNat ((1:Int))) (take (length (map vi W)) (map vi W))))] (dV (Val.mk c.n (BC c.kids s0 x r.to (1+k) (List.drop 1 W))))/\Azn [D.v (Azh [vi (Val.n (Val.mk c.n (BC c.kids s0 x r.to (1+k) (List.drop 1 W)))),Azf (map eV (Val.kids (Val.mk c.n (BC c.kids s0 x r.to (1+k) (List.drop 1 W)))))]),di 0]=dP (Val.mk c.n (BC c.kids s0 x r.to (1+k) (List.drop 1 W)),0)) ?_
      have e:List.drop (Int.toNat (1:Int)) (take (W.map vi).length (W.map vi))=(W.drop 1).map vi:=by rw[HW (HB _),List.map_drop];rfl
      rw[e]
      exact⟨hat,by omega,Aq hi,hen,hct,HG h1,h2,fun y hy=>by obtain⟨z,_,rfl⟩:=Il.1 hy;rfl,by omega,by rw[H3];omega,hwi (W.drop 1) (by rw[I9];omega),rfl⟩
    ·rw[HL h2]
     refine⟨?_,?_⟩
     ·have:=hsz (AS x)
      show(Val.mk c.n (BC c.kids s0 x r.to (1+k) (AS x))).size<=1000
      omega
     ·refine sv Tu 57 [3,5] (.c (di 0)<|.k<|.x (Ak r)<|.c (db true)<|.k<|.h (.ck 1 1 1 ((AS x).map vi))<|.f<|.f<|.c (dV (.mk c.n (BC c.kids s0 x r.to (1+k) (AS x)))) .r) (Anm m i c/\0<=(i:Int)/\(Aps m.rules)[Int.toNat (i:Int)]?=some (Ak r)/\Aor r c/\Anl c r.chan x/\(r.act==1)=false/\(r.act==2)=false/\F0 242 [dV c,di r.to,di r.chan,D.v (Azf (map vi (AS x)))] (dV (Val.mk c.n (BC c.kids s0 x r.to (1+k) (AS x))))/\Azn [D.v (Azh [vi (Val.n (Val.mk c.n (BC c.kids s0 x r.to (1+k) (AS x)))),Azf (map eV (Val.kids (Val.mk c.n (BC c.kids s0 x r.to (1+k) (AS x)))))]),di 0]=dP (Val.mk c.n (BC c.kids s0 x r.to (1+k) (AS x)),0)) ?_
      exact⟨hat,by omega,Aq hi,hen,hct,HG h1,HG h2,hwi (AS x) (by omega),rfl⟩
 ·rw[HL hv] at hat
  rw[HL hv]
  refine⟨by decide,?_⟩
  refine sv Tu 57 [3,5] (.c (di 17) .r) (F0 239 [Ag m,di (i:Int),dV c] (di 17)/\Azn [D.v (Azh [vi 0,Azf []]),di 17]=dP (z00,17)) ?_
  exact⟨hat,rfl⟩
section
variable {α : Type} {c : α -> α -> Int}
abbrev Afe:α->Prop:=fun _=>True
abbrev Asc(c:α->α->Int)(l:List α):Prop:=l.Pairwise fun a b=>c a b<0
theorem Aew(h:Lin c Afe)(x:α):¬c x x<0:=by rw[h.refl x trivial];omega
theorem Pn(h:Lin c Afe){l:List α}(ha:Asc c l):l.Nodup:=ha.imp fun{a b} hab e=>by subst e;exact Aew h a hab
theorem XU(h:Lin c Afe){k:List α}(hs:k.Pairwise fun a b=>c a b<=0)(hn:k.Nodup):Asc c k:=
 (hs.and hn).imp fun{a b} hab=>by
  have:=h.eq a b trivial trivial
  rcases Int.lt_or_eq_of_le hab.1 with h1|h1
  ·exact h1
  ·exact absurd (this h1) hab.2
def BI(q:α->α->Bool):α->List α->List α
 |_,[]=>[]
 |p,x::r=>if q x p=true then BI q x r else x::BI q x r
def AG(q:α->α->Bool):List α->List α
 |[]=>[]
 |x::r=>x::BI q x r
theorem JH(q:α->α->Bool):∀(l:List α) (p x:α),x∈BI q p l->x∈l
 |[],_,_,h=>by simp[BI] at h
 |y::l,p,x,h=>by
  unfold BI at h
  split at h
  ·exact List.mem_cons_of_mem _ (JH q l y x h)
  ·rcases Ij.1 h with rfl|h
   ·simp
   ·exact List.mem_cons_of_mem _ (JH q l y x h)
theorem drop_cons{l:List α}{i:Nat}{x:α}(h:l[i]?=some x):l.drop i=x::l.drop (i+1):=by
 obtain⟨h1,h2⟩:=H7.1 h
 rw[HJ h1,h2]
theorem Jn{l:List α}{k:Nat}{x:α}(h:k<l.length):(l.set k x).take (k+1)=l.take k++[x]:=by
 rw[IF,List.getElem?_set_self h,List.take_set_of_le (HB _)];rfl
theorem Jt(q:α->α->Bool){l:List α}(h:l.length<2):AG q l=l:=by
 match l,h with
 |[],_=>rfl
 |[_],_=>rfl
theorem L6{q:α->α->Bool}{l:List α}{p:α}(h:l[1-1]?=some p):l.take 1++BI q p (l.drop 1)=AG q l:=by
 cases l with
 |nil=>simp at h
 |cons x l=>simp at h;subst h;rfl
theorem Qs{q:α->α->Bool}{l:List α}{x:α}(h:x∈AG q l):x∈l:=by
 cases l with
 |nil=>simp[AG] at h
 |cons y l=>
  rcases Ij.1 h with rfl|h
  ·simp
  ·exact List.mem_cons_of_mem _ (JH q l y x h)
theorem Mm(q:α->α->Bool):∀(l:List α) (p:α),(BI q p l).length<=l.length
 |[],_=>HB _
 |y::l,p=>by
  have:=Mm q l y
  unfold BI;split<;>simp only[H9]<;>omega
theorem L7(q:α->α->Bool)(l:List α):(AG q l).length<=l.length:=by
 cases l with
 |nil=>exact HB _
 |cons y l=>have:=Mm q l y;simp only[AG,H9];omega
theorem Mn(h:Lin c Afe){q:α->α->Bool}(hq:∀x y,q x y=true↔x=y):∀(l:List α) (p:α),(p::l).Pairwise (fun a b=>c a b<=0)->Asc c (p::BI q p l)/\∀x,(x=p∨x∈BI q p l)↔(x=p∨x∈l)
 |[],p,_=>⟨by simp[BI],fun x=>by simp[BI]⟩
 |y::l,p,hs=>by
  have hp:=List.pairwise_cons.1 hs
  obtain⟨a1,a2⟩:=Mn h hq l y hp.2
  unfold BI
  by_cases e:y=p
  ·subst e
   rw[HP ((hq y y).2 rfl)]
   exact⟨a1,fun x=>by rw[a2 x];simp⟩
  ·rw[HL (fun he=>e ((hq y p).1 he))]
   have h1:c p y<0:=by
    rcases Int.lt_or_eq_of_le (hp.1 y (by simp)) with h1|h1
    ·exact h1
    ·exact absurd (h.eq p y trivial trivial h1).symm e
   refine⟨List.pairwise_cons.2 ⟨fun b hb=>?_,a1⟩,fun x=>?_⟩
   ·rcases Ij.1 hb with rfl|hb
    ·exact h1
    ·exact h.trans p y b trivial trivial trivial h1 ((List.pairwise_cons.1 a1).1 b hb)
   ·rw[Ij,Ij,a2 x]
theorem Qt(h:Lin c Afe){q:α->α->Bool}(hq:∀x y,q x y=true↔x=y){l:List α}(hs:l.Pairwise fun a b=>c a b<=0):Asc c (AG q l)/\∀x,x∈AG q l↔x∈l:=by
 cases l with
 |nil=>exact⟨.nil,fun x=>Iff.rfl⟩
 |cons p l=>
  obtain⟨a1,a2⟩:=Mn h hq l p hs
  exact⟨a1,fun x=>by simp only[AG,Ij];exact a2 x⟩
end
theorem Gy(l:List (List Int)):Ab (l.map vIs)=l.map fun w=>D.v (vIs w):=by
 induction l with
 |nil=>rfl
 |cons x l ih=>show D.v (vIs x)::Ab (l.map vIs)=_;rw[ih];rfl
theorem NO(l:List (List Int)):(Ab (l.map vIs)).length=l.length*1:=by rw[Gy,H3];omega
theorem EC{l:List (List Int)}{i:Nat}{x:List Int}(h:l[i]?=some x):(Ab (l.map vIs))[i]?=some (D.v (vIs x)):=by rw[Gy,Ik,h];rfl
theorem Acb(l:List (List Int))(k:Nat):(Ab (l.map vIs)).take (k*1)=Ab ((l.take k).map vIs):=by rw[Gy,Gy,Nat.mul_one,List.map_take]
theorem Ym(l:List (List Int))(k:Nat)(x:List Int)(_:k<l.length):(Ab (l.map vIs)).set k (D.v (vIs x))=Ab ((l.set k x).map vIs):=by rw[Gy,Gy,List.map_set]
theorem Acc(k:Nat):(((replicate k [V.nils]).flatten.map D.v).all D.one)=true:=by
 induction k with
 |zero=>rfl
 |succ k ih=>simp only[Ix,IR,IJ,List.all_append,ih];rfl
theorem LJ(l:List (List Int)):(Ab (l.map vIs)).all D.one=true:=by
 rw[Gy,Ip]
 intro x hx
 obtain⟨w,_,rfl⟩:=Il.1 hx
 rfl
theorem Vr:BP PP 186=some (27,1,24,some (.slice none 0 0)):=by kernel_rfl
theorem LI(l:List V){R:List D}(h:D.pls R=true):D.pls (Ab l++R)=true:=by rw[Db,A3,h];rfl
noncomputable abbrev Xg:Func:= Tryz.f278
noncomputable def En:Code:=Xg.body.getD .skip
noncomputable abbrev Alm:=fun a₀=>[some (Ab (map vIs a₀))]
noncomputable abbrev Amk:=[kl En [1,1,0,1,0,0,1,0,0,1,0,1,0,1,0,0],Aza 2,kc En [1,1,0,1,0,0,1,0,0,1,0,1,1],Aza 1,kc En [1,1,0,1,0,0,1,1],kl En Akw,Aza 0,kc En [1,1,1]]
noncomputable abbrev Am9:=fun a₀ b₀=>(Azd [some (Ab (map vIs a₀)++b₀)] [])
noncomputable abbrev Aov:=fun a₀=>(Azd (Alm a₀) [])
noncomputable abbrev Ap4:=fun a₀=>(Ab (map vIs a₀))
theorem Ah3(F:FuncId)(l:List (List Int))(q:(List Int)->(List Int)->Bool)(hl:l.length<=1000)(hq:∀x∈l,∀y∈l,Aa PP F [.v (vIs x),.v (vIs y)] σ0 (db (q x y)) σ0)(k0:Nat)(h0:1<=k0)(h1:k0<l.length)(n:Nat):∀(k j:Nat) (A:List (List Int)),l.length-k0-j=n->1<=k->1<=j->k<k0+j->j<=l.length-k0->A.length=l.length->(∀x∈A,x∈l)->(∀i:Nat,k0+j-1<=i->A[i]?=l[i]?)->(∀p,l[k0+j-1]?=some p->A.take k++BI q p (l.drop (k0+j))=AG q l)->
  ∃(ys:List (List Int)) (R:List D),ys=AG q l/\D.pls R=true/\R.all D.one=true/\Rn PP Xg 1 (.arr 0 0 ys.length) ⟨[some (Ab (ys.map vIs)++R)],[]⟩ ([.lp (sub En [1,1,0,1,0,0,1,0,0,1,0,1,0,1,0,0]),.blk 2,.code (sub En [1,1,0,1,0,0,1,0,0,1,0,1,1]),.blk 1,.code (sub En [1,1,0,1,0,0,1,1]),.lp (sub En [1,1,0,1,0,0]),.blk 0,.code (sub En [1,1,1])]++[]) (mkE 66 [(0,.arr 0 0 l.length),(1,dfn F),(5,di k),(6,.arr 0 (k0*1) (l.length-k0)),(7,di j)]) ⟨[some (Ab (A.map vIs))],[]⟩:=by
 induction n with
 |zero=>
  intro k j A hn hk hj hkj hjl hA hAl hAe hT
  refine⟨A.take k,(replicate (l.length-k) [V.nils]).flatten.map .v,?_,?_,?_,?_⟩
  ·obtain⟨p,hp⟩:∃p,l[k0+j-1]?=some p:=⟨_,H4 (by omega)⟩
   have:=hT p hp
   rw[HO (by omega),BI,Is] at this
   exact this
  ·exact BT _
  ·exact Acc _
  refine lv 66 [] (.f<|.h (.q 14 2)<|.h (.o (.arr 0 (k*1) (l.length-k)) ⟨[some (Ab (A.map vIs))],[]⟩)<|.h (.o (.tup []) ⟨[some (Ab ((A.take k).map vIs)++(replicate (l.length-k) [V.nils]).flatten.map .v)],[]⟩)<|.h (.q 15 2)<|.h (.o (.arr 0 0 k) ⟨[some (Ab ((A.take k).map vIs)++(replicate (l.length-k) [V.nils]).flatten.map .v)],[]⟩) .ro) (decide ((j:Int)<(↑(length l-k0):Int))=false/\Ah PP (Oper.mk (some 61) (Op.slice 186 (Operand.tmp 59) (some (Operand.tmp 60)) none none) 186 "slices.go:410" #[Edge.mk 0 Ground.data,Edge.mk 1 Ground.data] none) [Azi 0 0 l.length,di (k:Int)] (Aov A) (Azi 0 (k*1) (length l-k)) (Aov A)/\Ah PP (Oper.mk none (Op.call (Call.mk (Callee.builtin Builtin.clear) #[Operand.tmp 61] #[186])) 0 "slices.go:410" #[Edge.mk 2 Ground.data] none) [Azi 0 (k*1) (length l-k)] (Aov A) (Azn []) (Azd [some (Ab (map vIs (take k A))++map D.v (flatten (replicate (length l-k) [V.nils])))] [])/\Ah PP (Oper.mk (some 64) (Op.slice 186 (Operand.tmp 62) none (some (Operand.tmp 63)) none) 186 "slices.go:411" #[Edge.mk 0 Ground.data,Edge.mk 1 Ground.data] none) [Azi 0 0 l.length,di (k:Int)] (Azd [some (Ab (map vIs (take k A))++map D.v (flatten (replicate (length l-k) [V.nils])))] []) (Aoj k) (Azd [some (Ab (map vIs (take k A))++map D.v (flatten (replicate (length l-k) [V.nils])))] [])/\okH 1 [] [some (Ab (map vIs (take k A))++map D.v (flatten (replicate (length l-k) [V.nils])))]=true/\Q [some (Ab (map vIs (take k A))++map D.v (flatten (replicate (length l-k) (V.nils::nV))))]/\Azi 0 0 k=Azi 0 0 (length (take k A))) ?_
  have hkl:k<l.length:=by omega
  have hsl:∀(o:Oper) (x:Operand) (y:Operand) (τ:St),o.op=.slice 186 x (some y) none none->Ah PP o [.arr 0 0 l.length,di k] τ (.arr 0 (k*1) (l.length-k)) τ:=fun o x y τ ho=>by
   have:=Cy (P:=PP) (o:=o) (σ:=τ) ho Vr (q:=0) (off:=0) (len:=l.length) (some (.i64,(k:Int))) none rfl rfl (l':=k) (h':=l.length) (by simp[BD];omega) hkl
   rwa[Io] at this
  have hsh:∀(o:Oper) (x:Operand) (y:Operand) (τ:St),o.op=.slice 186 x none (some y) none->Ah PP o [.arr 0 0 l.length,di k] τ (.arr 0 0 k) τ:=fun o x y τ ho=>by
   have:=Cy (P:=PP) (o:=o) (σ:=τ) ho Vr (q:=0) (off:=0) (len:=l.length) none (some (.i64,(k:Int))) rfl rfl (l':=0) (h':=k) (by simp[BD];omega) (by omega)
   rwa[Nat.zero_mul,I2,Nat.sub_zero] at this
  have hfl:(Ab (A.map vIs)).length=l.length*1:=by rw[NO,hA]
  have hcl:=fun(o:Oper) (x:Operand) (ho:o.op=.call { callee:=.builtin .clear,args:= #[x],argTypes:= #[186]})=>Li (P:=PP) (o:=o) (σ:=⟨[some (Ab (A.map vIs))],[]⟩) ho Vr (zs:=[.nils]) rfl rfl (q:=0) (off:=k*1) (len:=l.length-k) rfl (by omega) (by rw[hfl];omega)
  have hd:(Ab (A.map vIs)).drop (k*1+(l.length-k)*1)=[]:=HO (by rw[hfl];omega)
  have htk:(Ab (A.map vIs)).take (k*1)=Ab ((A.take k).map vIs):=Acb A k
  rw[hd,htk,Is] at hcl
  refine⟨H8 (by omega),hsl _ _ _ _ rfl,hcl _ _ rfl,hsh _ _ _ _ rfl,?_,rfl,by rw[HY,hA,Nat.min_eq_left (by omega)]⟩
  exact HM.2 ⟨AO (LI _ (BT _)),rfl⟩
 |succ n ih=>
  intro k j A hn hk hj hkj hjl hA hAl hAe hT
  obtain⟨x,hx⟩:∃x,A[k0+j]?=some x:=⟨_,H4 (show k0+j<A.length by omega)⟩
  obtain⟨y,hy⟩:∃x,A[k0+j-1]?=some x:=⟨_,H4 (show k0+j-1<A.length by omega)⟩
  have hc:=hq x (hAl x (HA hx)) y (hAl y (HA hy))
  have hw1:i64.wrap ((j:Int)-1)=((j-1:Nat):Int):=by rw[Al (by omega) (by omega)];omega
  have hT':=hT y (by rw[←hAe _ (HB _)];exact hy)
  have hx':l[k0+j]?=some x:=by rw[←hAe _ (by omega)];exact hx
  rw[drop_cons hx',BI] at hT'
  cases hb:q x y with
  |true=>
   rw[hb] at hc
   obtain⟨ys,R,r1,r3,r5,r4⟩:=ih k (j+1) A (by omega) hk (by omega) (by omega) (by omega) hA hAl (fun i hi=>hAe i (by omega)) (fun p hp=>by
    have e:x=p:=HT (hx'.symm.trans hp)
    rw[hb,HP rfl,e] at hT';exact hT')
   refine⟨ys,R,r1,r3,r5,?_⟩
   refine lv 66 [] (.t<|.m (.v (vIs x))<|.m (.v (vIs y))<|.c (db true)<|.lo [ke 0,ke 1,ke 5,ke 6,ch 7 (di (j+1:Nat))] ⟨[some (Ab (A.map vIs))],[]⟩) (decide ((j:Int)<(↑(length l-k0):Int))=true/\0<=(j:Int)/\(j:Int)<(↑(length l-k0):Int)/\(Ap4 A)[k0*1+Int.toNat (j:Int)*1]?=some (dIs x)/\0<=wrap i64 ((j:Int)-1)/\wrap i64 ((j:Int)-1)<(↑(length l-k0):Int)/\(Ap4 A)[k0*1+Int.toNat (wrap i64 ((j:Int)-1))*1]?=some (dIs y)/\F0 F [dIs x,dIs y] (db true)/\(True/\True/\True)/\di (wrap i64 ((j:Int)+1))=di (↑(j+1):Int)/\okH 1 [] (Alm A)=true/\Q (Alm A)/\I0 Xg 1 (Aoj ys.length) (Am9 ys R) Amk (mkE 66 [(0,Azi 0 0 l.length),(Ao7 F),(5,di (k:Int)),(6,Azi 0 (k0*1) (length l-k0)),(7,di (↑(j+1):Int))]) (Aov A)) ?_
   rw[hw1]
   refine⟨H6 (by omega),by omega,by omega,by rw[show k0*1+Int.toNat (j:Int)*1=k0+j by omega];exact EC hx,by omega,by omega,by rw[show k0*1+Int.toNat ((j-1:Nat):Int)*1=k0+j-1 by omega];exact EC hy,hc,⟨trivial,trivial,trivial⟩,Ad (by omega),HM.2 ⟨Ai 1 [] _,rfl⟩,rfl,⟨r4⟩⟩
  |false=>
   rw[hb] at hc
   have hA2:∀z∈A.set k x,z∈l:=fun z hz=>by
    rcases I8 hz with h|h
    ·exact hAl z h
    ·rw[h];exact hAl x (HA hx)
   obtain⟨ys,R,r1,r3,r5,r4⟩:=ih (k+1) (j+1) (A.set k x) (by omega) (by omega) (by omega) (by omega) (by omega) (by rw[length_set];exact hA) hA2 (fun i hi=>by rw[getElem?_set_ne (by omega)];exact hAe i (by omega)) (fun p hp=>by
    have e:x=p:=HT (hx'.symm.trans hp)
    rw[hb,HL (by decide)] at hT'
    rw[Jn (by omega),IA,List.singleton_append, ←e];exact hT')
   refine⟨ys,R,r1,r3,r5,?_⟩
   refine lv 66 [] (.t<|.m (.v (vIs x))<|.m (.v (vIs y))<|.c (db false)<|.m (.v (vIs x))<|.w<|.lo [ke 0,ke 1,ch 5 (di (k+1:Nat)),ke 6,ch 7 (di (j+1:Nat))] ⟨[some (Ab ((A.set k x).map vIs))],[]⟩) (decide ((j:Int)<(↑(length l-k0):Int))=true/\0<=(j:Int)/\(j:Int)<(↑(length l-k0):Int)/\(Ap4 A)[k0*1+Int.toNat (j:Int)*1]?=some (dIs x)/\0<=wrap i64 ((j:Int)-1)/\wrap i64 ((j:Int)-1)<(↑(length l-k0):Int)/\(Ap4 A)[k0*1+Int.toNat (wrap i64 ((j:Int)-1))*1]?=some (dIs y)/\F0 F [dIs x,dIs y] (db false)/\(True/\True/\True)/\0<=(j:Int)/\(j:Int)<(↑(length l-k0):Int)/\(Ap4 A)[k0*1+Int.toNat (j:Int)*1]?=some (dIs x)/\0<=(k:Int)/\(k:Int)<(l.length:Int)/\0+Int.toNat (k:Int)*1<length (Ap4 A)/\di (wrap i64 ((k:Int)+1))=di (↑(k+1):Int)/\di (wrap i64 ((j:Int)+1))=di (↑(j+1):Int)/\okH 1 [] [some (List.set (Ap4 A) (0+Int.toNat (k:Int)*1) (dIs x))]=true/\[some (List.set (Ap4 A) (0+Int.toNat (k:Int)*1) (dIs x))]=[some (Ab (map vIs (List.set A k x)))]/\I0 Xg 1 (Aoj ys.length) (Am9 ys R) Amk (mkE 66 [(0,Azi 0 0 l.length),(Ao7 F),(5,di (↑(k+1):Int)),(6,Azi 0 (k0*1) (length l-k0)),(7,di (↑(j+1):Int))]) (Azd [some (Ab (map vIs (List.set A k x)))] [])) ?_
   rw[hw1]
   refine⟨H6 (by omega),by omega,by omega,by rw[show k0*1+Int.toNat (j:Int)*1=k0+j by omega];exact EC hx,by omega,by omega,by rw[show k0*1+Int.toNat ((j-1:Nat):Int)*1=k0+j-1 by omega];exact EC hy,hc,⟨trivial,trivial,trivial⟩,by omega,by omega,by rw[show k0*1+Int.toNat (j:Int)*1=k0+j by omega];exact EC hx,by omega,by omega,by rw[NO];omega,Ad (by omega),Ad (by omega),?_,?_,⟨r4⟩⟩
   ·rw[show 0+Int.toNat (k:Int)*1=k by omega,Ym A k x (by omega)]
    exact HM.2 ⟨Ai 1 [] _,rfl⟩
   ·rw[show 0+Int.toNat (k:Int)*1=k by omega,Ym A k x (by omega)]
theorem Ae3(F:FuncId)(l:List (List Int))(q:(List Int)->(List Int)->Bool)(hl:l.length<=1000)(hq:∀x∈l,∀y∈l,Aa PP F [.v (vIs x),.v (vIs y)] σ0 (db (q x y)) σ0)(n:Nat):∀(k:Nat),l.length-k=n->1<=k->k<=l.length->(∀p,l[k-1]?=some p->l.take k++BI q p (l.drop k)=AG q l)->
  ∃(ys:List (List Int)) (R:List D),ys=AG q l/\D.pls R=true/\R.all D.one=true/\Rn PP Xg 1 (.arr 0 0 ys.length) ⟨[some (Ab (ys.map vIs)++R)],[]⟩ ([.lp (sub En [1,1,0,1,0,0]),.blk 0,.code (sub En [1,1,1])]++[]) (mkE 66 [(0,.arr 0 0 l.length),(1,dfn F),(5,di k)]) ⟨[some (Ab (l.map vIs))],[]⟩:=by
 induction n with
 |zero=>
  intro k hn hk hkl hT
  refine⟨l,[],?_,rfl,rfl,?_⟩
  ·obtain⟨p,hp⟩:∃p,l[k-1]?=some p:=⟨_,H4 (by omega)⟩
   have:=hT p hp
   rw[HO (by omega),BI,Is,HW (by omega)] at this
   exact this
  refine lv 66 [] (.f .ro) (decide ((k:Int)<(l.length:Int))=false/\okH 1 [] (Alm l)=true/\[some (Ap4 l)]=[some (Ab (map vIs l)++[])]/\Q (Aoj l.length)) ?_
  exact⟨H8 (by omega),HM.2 ⟨Ai 1 [] _,rfl⟩,by rw[Is],rfl⟩
 |succ n ih=>
  intro k hn hk hkl' hT
  obtain⟨x,hx⟩:∃x,l[k]?=some x:=⟨_,H4 (show k<l.length by omega)⟩
  obtain⟨y,hy⟩:∃x,l[k-1]?=some x:=⟨_,H4 (show k-1<l.length by omega)⟩
  have hc:=hq x (HA hx) y (HA hy)
  have hkl:k<l.length:=by omega
  have hw1:i64.wrap ((k:Int)-1)=((k-1:Nat):Int):=by rw[Al (by omega) (by omega)];omega
  have hT':=hT y hy
  rw[drop_cons hx,BI] at hT'
  cases hb:q x y with
  |true=>
   rw[hb] at hc
   obtain⟨ys,R,r1,r3,r5,r4⟩:=Ah3 F l q hl hq k hk (by omega) _ k 1 l rfl hk (by omega) (by omega) (by omega) rfl (fun x h=>h) (fun _ _=>rfl) (fun p hp=>by
    have e:x=p:=HT (hx.symm.trans hp)
    rw[hb,HP rfl,e] at hT';exact hT')
   refine⟨ys,R,r1,r3,r5,?_⟩
   refine lv 66 [] (.t<|.m (.v (vIs x))<|.m (.v (vIs y))<|.c (db true)<|.k<|.h (.q 7 2)<|.h (.o (.arr 0 (k*1) (l.length-k)) ⟨[some (Ab (l.map vIs))],[]⟩)<|.lo [ke 0,ke 1,ke 5,ke 6,ch 7 (di (1:Nat))] ⟨[some (Ab (l.map vIs))],[]⟩) (decide ((k:Int)<(l.length:Int))=true/\0<=(k:Int)/\(k:Int)<(l.length:Int)/\(Ap4 l)[0+Int.toNat (k:Int)*1]?=some (dIs x)/\0<=wrap i64 ((k:Int)-1)/\wrap i64 ((k:Int)-1)<(l.length:Int)/\(Ap4 l)[0+Int.toNat (wrap i64 ((k:Int)-1))*1]?=some (dIs y)/\F0 F [dIs x,dIs y] (db true)/\(True/\True/\True)/\Ah PP (Oper.mk (some 31) (Op.slice 186 (Operand.tmp 29) (some (Operand.tmp 30)) none none) 186 "slices.go:402" #[Edge.mk 0 Ground.data,Edge.mk 1 Ground.data] none) [Azi 0 0 l.length,di (k:Int)] (Aov l) (Azi 0 (k*1) (length l-k)) (Aov l)/\di 1=di (↑1:Int)/\okH 1 [] (Alm l)=true/\Q (Alm l)/\I0 Xg 1 (Aoj ys.length) (Am9 ys R) Amk (mkE 66 [(0,Azi 0 0 l.length),(Ao7 F),(5,di (k:Int)),(6,Azi 0 (k*1) (length l-k)),(7,di (↑1:Int))]) (Aov l)) ?_
   have hsl:∀(o:Oper) (x:Operand) (y:Operand) (τ:St),o.op=.slice 186 x (some y) none none->Ah PP o [.arr 0 0 l.length,di k] τ (.arr 0 (k*1) (l.length-k)) τ:=fun o x y τ ho=>by
    have:=Cy (P:=PP) (o:=o) (σ:=τ) ho Vr (q:=0) (off:=0) (len:=l.length) (some (.i64,(k:Int))) none rfl rfl (l':=k) (h':=l.length) (by simp[BD];omega) hkl
    rwa[Io] at this
   rw[hw1]
   exact⟨H6 (by omega),by omega,by omega,by rw[show 0+Int.toNat (k:Int)*1=k by omega];exact EC hx,by omega,by omega,by rw[show 0+Int.toNat ((k-1:Nat):Int)*1=k-1 by omega];exact EC hy,hc,⟨trivial,trivial,trivial⟩,hsl _ _ _ _ rfl,rfl,HM.2 ⟨Ai 1 [] _,rfl⟩,rfl,⟨r4⟩⟩
  |false=>
   rw[hb] at hc
   obtain⟨ys,R,r1,r3,r5,r4⟩:=ih (k+1) (by omega) (by omega) (by omega) (fun p hp=>by
    have e:x=p:=HT (hx.symm.trans hp)
    rw[hb,HL (by decide)] at hT'
    rw[IF,hx,Option.toList_some,IA,List.singleton_append, ←e];exact hT')
   refine⟨ys,R,r1,r3,r5,?_⟩
   refine lv 66 [] (.t<|.m (.v (vIs x))<|.m (.v (vIs y))<|.c (db false)<|.lo [ke 0,ke 1,ch 5 (di (k+1:Nat))] ⟨[some (Ab (l.map vIs))],[]⟩) (decide ((k:Int)<(l.length:Int))=true/\0<=(k:Int)/\(k:Int)<(l.length:Int)/\(Ap4 l)[0+Int.toNat (k:Int)*1]?=some (dIs x)/\0<=wrap i64 ((k:Int)-1)/\wrap i64 ((k:Int)-1)<(l.length:Int)/\(Ap4 l)[0+Int.toNat (wrap i64 ((k:Int)-1))*1]?=some (dIs y)/\F0 F [dIs x,dIs y] (db false)/\(True/\True/\True)/\di (wrap i64 ((k:Int)+1))=di (↑(k+1):Int)/\okH 1 [] (Alm l)=true/\Q (Alm l)/\I0 Xg 1 (Aoj ys.length) (Am9 ys R) [kl En Akw,Aza 0,kc En [1,1,1]] (mkE 66 [(0,Azi 0 0 l.length),(Ao7 F),(5,di (↑(k+1):Int))]) (Aov l)) ?_
   rw[hw1]
   exact⟨H6 (by omega),by omega,by omega,by rw[show 0+Int.toNat (k:Int)*1=k by omega];exact EC hx,by omega,by omega,by rw[show 0+Int.toNat ((k-1:Nat):Int)*1=k-1 by omega];exact EC hy,hc,⟨trivial,trivial,trivial⟩,Ad (by omega),HM.2 ⟨Ai 1 [] _,rfl⟩,rfl,⟨r4⟩⟩
theorem AcQ(F:FuncId)(l:List (List Int))(q:(List Int)->(List Int)->Bool)(hl:l.length<=1000)(hq:∀x∈l,∀y∈l,Aa PP F [.v (vIs x),.v (vIs y)] σ0 (db (q x y)) σ0):
  ∃R:List D,D.pls R=true/\R.all D.one=true/\Aa PP 278 [.arr 0 0 l.length,dfn F] ⟨[some (Ab (l.map vIs))],[]⟩ (.arr 0 0 (AG q l).length) ⟨[some (Ab ((AG q l).map vIs)++R)],[]⟩:=by
 by_cases h2:l.length<2
 ·refine⟨[],rfl,rfl,?_⟩
  rw[Jt q h2]
  refine sv Xg 66 [] (.t .ro) (decide ((l.length:Int)<2)=true/\okH 1 [] (Alm l)=true/\[some (Ap4 l)]=[some (Ab (map vIs l)++[])]/\Q (Aoj l.length)) ?_
  exact⟨H6 (by omega),HM.2 ⟨Ai 1 [] _,rfl⟩,by rw[Is],rfl⟩
 ·obtain⟨ys,R,r1,r3,r5,r4⟩:=Ae3 F l q hl hq _ 1 rfl (HB _) (by omega) (fun p hp=>L6 hp)
  subst r1
  refine⟨R,r3,r5,?_⟩
  refine sv Xg 66 [] (.f<|.lo [ke 0,ke 1,ch 5 (di (1:Nat))] ⟨[some (Ab (l.map vIs))],[]⟩) (decide ((l.length:Int)<2)=false/\di 1=di (↑1:Int)/\okH 1 [] (Alm l)=true/\Q (Alm l)/\I0 Xg (length (Aov l).H) (Azi 0 0 (length (AG q l))) (Azd [some (Ab (map vIs (AG q l))++R)] []) [kl En Akw,Aza 0,kc En [1,1,1]] (mkE 66 [(0,Azi 0 0 l.length),(1,dfn F),(5,di (↑1:Int))]) (Aov l)) ?_
  exact⟨H8 (by omega),rfl,HM.2 ⟨Ai 1 [] _,rfl⟩,rfl,⟨r4⟩⟩
end Go.Proofs.YtmhjflomgppcnaaGreatDoor

namespace Go.Proofs.YtmhjflomgppcnaaGreatDoor
open Go.Dv Go.Nv Go.Shelf
set_option maxRecDepth 20000
open List (length map take)
open Go.IntKind (wrap i64 u64)
theorem Oa:Aa PP 276 [dl [],dfn 277] σ0 (.tup []) σ0:=by
 refine⟨⟨_, Tryz.func276,by kernel_rfl,by kernel_rfl⟩,fun g w args hw hargs=>?_⟩
 obtain⟨u0,u1,rfl,h0,h1⟩:=Ao.1 hargs
 simp only[Ae,AU] at h0
 obtain⟨a,cap,rfl,_,_⟩:=h0
 have h:=AnyF.slices_SortFunc_none { Tryz.sortW with } a cap u1 w
 refine Calls.mono h ?_
 rintro e w' ⟨rfl,rfl⟩
 exact⟨_,g,rfl,WI.start hw,by simp only[Ae];exact⟨[],rfl,by simp[Ac]⟩⟩
theorem KP:Aa PP 24 [dl [],dfn 25] σ0 (.tup []) σ0:=by
 refine⟨⟨_, Tryz.func24,by kernel_rfl,by kernel_rfl⟩,fun g w args hw hargs=>?_⟩
 obtain⟨u0,u1,rfl,h0,h1⟩:=Ao.1 hargs
 simp only[Ae,AU] at h0
 obtain⟨a,cap,rfl,_,_⟩:=h0
 have h:=AnyF.slices_SortFunc_none Tryz.sortV a cap u1 w
 refine Calls.mono h ?_
 rintro e w' ⟨rfl,rfl⟩
 exact⟨_,g,rfl,WI.start hw,by simp only[Ae];exact⟨[],rfl,by simp[Ac]⟩⟩
theorem N4:Lin FG Afe:=by
 constructor
 ·exact fun x _=>AP.refl (wdV x) trivial
 ·exact fun x y _ _ h=>P3 (AP.eq (wdV x) (wdV y) trivial trivial h)
 ·exact fun x y _ _=>AP.swap (wdV x) (wdV y) trivial trivial
 ·exact fun x y z _ _ _=>AP.trans (wdV x) (wdV y) (wdV z) trivial trivial trivial
theorem Zm(l:List (List Int)):(sortW l).Pairwise fun a b=>FG a b<=0:=
 (List.pairwise_mergeSort (le:=fun a b=>decide (FG a b<=0)) (fun a b c h1 h2=>H6 (EK (HF h1) (HF h2))) (fun a b=>by rcases Js (wdV a) (wdV b) with h|h<;>simp[FG,h]) l).imp fun{a b} h=>HF h
def eqW(a b:List Int):Bool:=decide (a=b)
def Eb(l:List (List Int)):List (List Int):=AG eqW (sortW l)
theorem F2(l:List (List Int)):Asc FG (Eb l)/\∀x,x∈Eb l↔x∈l:=by
 obtain⟨h1,h2⟩:=Qt N4 (q:=eqW) (fun x y=>by simp[eqW]) (Zm l)
 exact⟨h1,fun x=>(h2 x).trans (CX l).mem_iff⟩
theorem Q9(l:List (List Int)):(Eb l).length<=l.length:=by
 have:=L7 eqW (sortW l)
 rwa[(CX l).length_eq] at this
noncomputable abbrev Agm:Func:= Tryz.f280
noncomputable abbrev Aos:=fun a₀=>(map vIs a₀)
noncomputable abbrev Apg:=(Azl 277 [] [])
noncomputable abbrev Apw:=(Azl 184 [] [])
noncomputable abbrev Aqt:=fun a₀=>(Azd [some (Ab (map vIs (sortW a₀)))] [])
theorem AcR(l:List (List Int))(hl:l.length<=1000)(hs:∀v∈l,v.length<=1000):∃R:List D,D.pls R=true/\R.all D.one=true/\Aa PP 280 [.arr 0 0 l.length] ⟨[some (Ab (l.map vIs))],[]⟩ (.arr 0 0 (Eb l).length) ⟨[some (Ab ((Eb l).map vIs)++R)],[]⟩:=by
 have hlen:(sortW l).length=l.length:=(CX l).length_eq
 obtain⟨R,h3,h5,h4⟩:=AcQ 184 (sortW l) eqW (by omega) (fun x hx y hy=>D2 x y (by have:=hs x ((CX l).mem_iff.1 hx);omega))
 refine⟨R,h3,h5,?_⟩
 rw[hlen] at h4
 obtain⟨ys,hys⟩:∃ys,ys=Eb l:=⟨_,rfl⟩
 rw[show AG eqW (sortW l)=Eb l from rfl, ←hys] at h4
 rw[←hys]
 refine sv Agm 7 [] (.h (.oc (.tup []) ⟨[some (Ab ((sortW l).map vIs))],[]⟩)<|.h (.oc (.arr 0 0 ys.length) ⟨[some (Ab (ys.map vIs)++R)],[]⟩) .ro) ((N0 [D.v (Azl 276 [] []),Azi 0 0 l.length,D.v Apg] (Aov l) (Azn []) (Aqt l))/\(N0 [D.v (Azl 278 [] []),Azi 0 0 l.length,D.v Apw] (Aqt l) (Aoj ys.length) (Am9 ys R))/\okH 1 [] [some (Ab (Aos ys)++R)]=true/\Q [some (Ab (Aos ys)++R)]/\Q (Aoj ys.length)) ?_
 have hsp:=LP QC l (by omega) (fun v hv=>by have:=hs v hv;omega)
 refine⟨fun o cl fo ho hc=>?_,fun o cl fo ho hc=>?_,HM.2 ⟨AO (LI _ h3),rfl⟩,rfl,rfl⟩
 ·exact Ci (H:=[Ab (l.map vIs)]) ho hc (fs:=[]) (cs:=[]) (ds:=[.arr 0 0 l.length,dfn 277]) rfl hsp rfl (fun cs hm=>by rw[HK.1 hm];exact⟨Ai _ _ _,LJ l⟩) rfl (HM.2 ⟨Ai _ _ _,rfl⟩) (HB _)
 ·exact Ci (H:=[Ab ((sortW l).map vIs)]) ho hc (fs:=[]) (cs:=[]) (ds:=[.arr 0 0 l.length,dfn 184]) rfl h4 rfl (fun cs hm=>by rw[HK.1 hm];exact⟨Ai _ _ _,LJ _⟩) rfl (HM.2 ⟨AO (LI _ h3),rfl⟩) (HB _)
theorem Yn(F:FuncId):Aa PP 278 [dl [],dfn F] σ0 (dl []) σ0:=by
 refine sv Xg 66 [] (.t .r) (decide ((nV.length:Int)<2)=true/\D.v (Azf [])=dl []) ?_
 exact⟨by decide,rfl⟩
theorem Y6:Aa PP 280 [dl []] σ0 (dl []) σ0:=by
 refine sv Agm 7 [] (.c (.tup [])<|.c (dl []) .r) (F0 276 [D.v (Azf []),D.v Apg] (Azn [])/\F0 278 [D.v (Azf []),D.v Apw] (dl [])/\D.v (Azf [])=dl []) ?_
 exact⟨Oa,Yn _,rfl⟩
noncomputable abbrev Agk:Func:= Tryz.f285
theorem Sv(x:Int):Aa PP 285 [di x] σ0 (db (decide (x<0)||decide (x>=16))) σ0:=by
 refine sv Agk 9 [] (.b .r .r) ((decide (x<0)=true->db true=db (decide (x<0)||decide (x>=16)))/\(decide (x<0)=false->db (decide (x>=16))=db (decide (x<0)||decide (x>=16)))) ?_
 exact⟨fun h=>by rw[h];rfl,fun h=>by rw[h];rfl⟩
noncomputable abbrev Agl:Func:= Tryz.f279
def Uo(w:List Int):Bool:=decide ((w.length:Int)<=12)&& !(w.any fun x=>decide (x<0)||decide (x>=16))
theorem Un(w:List Int)(hw:w.length<=1000):Aa PP 279 [dIs w] σ0 (db (Uo w)) σ0:=by
 rw[Uo]
 by_cases h:decide ((w.length:Int)<=12)=true
 ·rw[h,Ib]
  refine sv Agl 11 [] (.t<|.c (db (w.any fun x=>decide (x<0)||decide (x>=16))) .r) (decide ((length (map vi w):Int)<=12)=true/\F0 125 [dIs w,D.v (Azl 285 [] [])] (db (List.any w fun x=>decide (x<0)||decide (x>=16)))/\(db !List.any w fun x=>decide (x<0)||decide (x>=16))=db !List.any w fun x=>decide (x<0)||decide (x>=16)) ?_
  exact⟨by rw[H3];exact h,Dk 285 [] [] (fun x=>decide (x<0)||decide (x>=16)) w (by omega) (fun x _=>Sv x),rfl⟩
 ·rw[HG h,HZ]
  refine sv Agl 11 [] (.f .r) (decide ((length (map vi w):Int)<=12)=false/\Q (db false)) ?_
  exact⟨by rw[H3];exact HG h,rfl⟩
theorem NP{w:List Int}(h:Uo w=true):w.length<=12:=by
 have:=(HM.1 h).1
 have:=HF this
 omega
theorem K8(w:List Int)(hw:w.length<=1000)(i:Nat)(hi:i<w.length):Aa PP 275 [D.v (V.list [V.list (List.drop 0 (take (Int.toNat (i:Int)) (w.map vi))),V.list (List.drop (Int.toNat ((i+1:Nat):Int)) (take (w.map vi).length (w.map vi)))])] σ0 (dIs (w.take i++w.drop (i+1))) σ0:=by
 have h:=Abv [w.take i,w.drop (i+1)] (by simp) (by simp only[IR,List.flatten_nil,Is,HI,HY,I9];omega)
 rw[IB,IB,IW,HW (HB _), ←List.map_take, ←List.map_drop,show dIs (w.take i++w.drop (i+1))=dl ([w.take i,w.drop (i+1)].flatten.map vi) by simp]
 exact h
theorem NY(w:List Int):∀x∈w.map vi,V.size x=1:=fun x h=>by obtain⟨y,_,rfl⟩:=Il.1 h;rfl
theorem Me(l:List (List Int))(x:List Int):Ab (l.map vIs)++[D.v (vIs x)]=Ab ((l++[x]).map vIs):=by rw[Gy,Gy];simp
theorem Ajx{o:Oper}{t:Nat}(x:List Int)(τ:St)(ho:o.op=.buildSlice 186 1 #[(0,.tmp t)]):Ah PP o [dIs x] τ (.v (.list [vIs x])) τ:=
 DZ ho rfl rfl Vr rfl (xs:=[vIs x]) rfl (fun y hy=>by rw[HK.1 hy];rfl) (by decide) (by decide) (by decide)
noncomputable abbrev AdN:Func:= Tryz.f270
noncomputable def AeJ:Code:=AdN.body.getD .skip
def del(w:List Int)(i:Nat):List Int:=w.take i++w.drop (i+1)
theorem Xt(w:List Int)(i:Nat):(del w i).length<=w.length:=by unfold del;rw[HI,HY,I9];omega
def Dt(w:List Int)(k:Nat):List (List Int):=(List.range k).map (del w)
theorem Sy(w:List Int)(k:Nat):Dt w (k+1)=Dt w k++[del w k]:=by simp[Dt,List.range_succ]
theorem KE(w:List Int)(k:Nat):(Dt w k).length=k:=by simp[Dt]
theorem QD{w:List Int}(hw:w.length<=12){k:Nat}{v:List Int}(h:v∈Dt w k):v.length<=12:=by
 obtain⟨i,_,rfl⟩:=Il.1 h
 have:=Xt w i;omega
def FR(w:List Int):List (List Int):=if Uo w=true then Eb (Dt w w.length) else[]
theorem YC(w:List Int)(hw:w.length<=12)(n:Nat):∀k:Nat,w.length- (k+1)=n->k<w.length->
  Rn PP AdN 0 (dl ((Eb (Dt w w.length)).map vIs)) σ0 ([.lp (sub AeJ [1,1,1,0,1,0,0]),.blk 0,.code (sub AeJ [1,1,1,1])]++[]) (mkE 28 [(0,dIs w),(3,.gro 0 (k+1) 1),(8,dIs w),(9,di w.length),(10,di (k+1:Nat))]) ⟨[some (Ab ((Dt w (k+1)).map vIs))],[]⟩:=by
 induction n with
 |zero=>
  intro k hn hk
  obtain⟨outs,houts⟩:∃outs,outs=Dt w (k+1):=⟨_,rfl⟩
  have ho:outs.length=k+1:=by rw[houts];exact KE _ _
  obtain⟨R,h3,h5,h4⟩:=AcR outs (by omega) (fun v hv=>by rw[houts] at hv;have:=QD hw hv;omega)
  rw[ho] at h4
  obtain⟨ys,hys⟩:∃ys,ys=Eb outs:=⟨_,rfl⟩
  rw[←hys] at h4
  rw[←houts,show Dt w w.length=outs by rw[houts];congr 1;omega, ←hys]
  refine lv 28 [] (.f<|.h (.q 9 0)<|.h (.ga 3)<|.h (.oc (.arr 0 0 ys.length) ⟨[some (Ab (ys.map vIs)++R)],[]⟩)<|.h (.q 9 2)<|.h (.ct 27 (dl (ys.map vIs)) ⟨[none],[]⟩) .r) (decide ((↑(k+1):Int)<(w.length:Int))=false/\(N0 [D.v (Azl 280 [] []),Azi 0 0 (k+1)] (Aov outs) (Aoj ys.length) (Am9 ys R))/\(∀(e:List D),e[27]?=some (Aoj ys.length)->∀(E:Ent) (g:Gh) (a:Act) (w:World),FI E g (Am9 ys R) e a w->∃g',FI E g' (Azd [none] []) (List.set e 27 (dl (Aos ys))) a w)/\D.v (Azf (Aos ys))=dl (Aos ys)) ?_
  refine⟨H8 (by omega),fun o cl fo hop hc=>?_,fun e he=>?_,rfl⟩
  ·exact Ci (H:=[Ab (outs.map vIs)]) hop hc (fs:=[]) (cs:=[]) (ds:=[.arr 0 0 (k+1)]) rfl h4 rfl (fun cs hm=>by rw[HK.1 hm];exact⟨Ai _ _ _,LJ _⟩) rfl (HM.2 ⟨AO (LI _ h3),rfl⟩) (HB _)
  ·exact Qp (σ:=⟨[some (Ab (ys.map vIs)++R)],[]⟩) (q:=0) (sz:=1) (rest:=R) (by decide) (fun x hx=>by obtain⟨y,_,rfl⟩:=Il.1 hx;rfl) (by rw[H3]) rfl he
 |succ n ih=>
  intro k hn hk
  have g3:=ih (k+1) (by omega) (by omega)
  rw[Sy w (k+1),show del w (k+1)=w.take (k+1)++w.drop (k+2) from rfl] at g3
  have ho:=KE w (k+1)
  generalize Eb (Dt w w.length)=ws at g3⊢
  generalize Dt w (k+1)=outs at g3 ho⊢
  refine lv 28 [] (.t<|.c (dIs (w.take (k+1)++w.drop (k+2)))<|.lo [ke 0,ch 3 (.gro 1 (k+1+1) 1),ke 8,ke 9,ch 10 (di (k+1+1:Nat))] ⟨[none,some (Ab ((outs++[w.take (k+1)++w.drop (k+2)]).map vIs))],[]⟩) (decide ((↑(k+1):Int)<(w.length:Int))=true/\(∀(x:V),x∈map vi w->V.size x=1)/\0<=(fun x=>x.snd) (i64,(↑(k+1):Int))/\(fun x=>x.snd) (i64,(↑(k+1):Int))<=(length (map vi w):Int)/\(∀(x:V),x∈map vi w->V.size x=1)/\0<=(fun x=>x.snd) (i64,wrap i64 ((↑(k+1):Int)+1))/\(fun x=>x.snd) (i64,wrap i64 ((↑(k+1):Int)+1))<=(length (map vi w):Int)/\F0 275 [D.v (Azf [Azf (List.drop 0 (take (Int.toNat ((fun x=>x.snd) (i64,(↑(k+1):Int)))) (map vi w))),Azf (List.drop (Int.toNat ((fun x=>x.snd) (i64,wrap i64 ((↑(k+1):Int)+1)))) (take (length (map vi w)) (map vi w)))])] (dIs (take (k+1) w++List.drop (k+2) w))/\length (Ab (Aos outs))=(k+1)*1/\[vIs (take (k+1) w++List.drop (k+2) w)]≠ []/\(∀(y:V),y∈ [vIs (take (k+1) w++List.drop (k+2) w)]->V.size y=1)/\Ar (k+1+length (vIs (take (k+1) w++List.drop (k+2) w)::nV)) 24/\Azm 1 (k+1+length (vIs (take (k+1) w++List.drop (k+2) w)::nV)) 1=Azm 1 (k+1+1) 1/\di (wrap i64 ((↑(k+1):Int)+1))=di (↑(k+1+1):Int)/\okH 2 [] [none,some (Ab (Aos outs)++[D.v (vIs (take (k+1) w++List.drop (k+2) w))])]=true/\[none,some (Ab (Aos outs)++[D.v (vIs (take (k+1) w++List.drop (k+2) w))])]=[none,some (Ab (map vIs (outs++[take (k+1) w++List.drop (k+2) w])))]/\I0 AdN 0 (dl (Aos ws)) σ0 [kl AeJ Ak2,Aza 0,kc AeJ [1,1,1,1]] (mkE 28 [(0,dIs w),(3,Azm 1 (k+1+1) 1),(8,dIs w),(9,di (w.length:Int)),(10,di (↑(k+1+1):Int))]) (Azd [none,some (Ab (map vIs (outs++[take (k+1) w++List.drop (k+2) w])))] [])) ?_
  have hw1:i64.wrap (((k+1:Nat):Int)+1)=((k+1+1:Nat):Int):=by rw[Al (by omega) (by omega)];omega
  rw[hw1,Me]
  refine⟨H6 (by omega),NY w,by show(0:Int)<=((k+1:Nat):Int);omega,by show((k+1:Nat):Int)<=_;rw[H3];omega,NY w,by show(0:Int)<=((k+1+1:Nat):Int);omega,by show((k+1+1:Nat):Int)<=_;rw[H3];omega,K8 w (by omega) (k+1) (by omega),by rw[NO,ho],by simp,fun y hy=>by rw[HK.1 hy];rfl,⟨by simp only[H9,HD];omega,by simp only[H9,HD];omega⟩,rfl,rfl,?_,rfl,⟨?_⟩⟩
  ·simp[okH,D.okNs,D.okN,Ai]
  ·refine DH (H0:=[none]) (fun E0 E h=>h.2) 1 rfl (fun cs hc=>?_) ?_ ?_ g3
   ·simp at hc;rw[hc];exact A3 _
   ·simp[mkE,D.okNs,D.okN]
   ·simp[mkE,D.rens,D.ren]
theorem YB(w:List Int)(hw:w.length<=1000):Aa PP 270 [dIs w] σ0 (dl ((FR w).map vIs)) σ0:=by
 have hb2:=Un w hw
 unfold FR
 cases hv:Uo w with
 |false=>
  rw[hv] at hb2
  rw[HL (by decide)]
  refine sv AdN 28 [] (.c (db false) .r) (F0 279 [dIs w] (db false)/\D.v (Azf [])=dl (map vIs [])) ?_
  exact⟨hb2,rfl⟩
 |true=>
  have h12:=NP hv
  rw[hv] at hb2
  rw[HP rfl]
  by_cases h0:w=[]
  ·subst h0
   rw[show Eb (Dt [] ([]:List Int).length)=[] by simp[Eb,Dt,sortW,AG]]
   refine sv AdN 28 [] (.c (db true)<|.k<|.n<|.f<|.c (dl []) .r) (F0 279 [D.v (vIs [])] (db true)/\decide (0<(length (map vi []):Int))=false/\F0 280 [D.v (Azf [])] (dl [])/\D.v (Azf [])=dl (map vIs [])) ?_
   exact⟨hb2,rfl,Y6,rfl⟩
  ·have hpos:=List.length_pos_iff.2 h0
   have g3:=YC w h12 _ 0 rfl hpos
   rw[show Dt w (0+1)=[w.drop 1] by simp[Dt,List.range_succ,del]] at g3
   generalize Eb (Dt w w.length)=ws at g3⊢
   refine sv AdN 28 [] (.c (db true)<|.k<|.n<|.t<|.c (dIs (w.drop 1))<|.h (.p (.v (.list [vIs (w.drop 1)])))<|.h .g<|.lo [ke 0,ch 3 (.gro 0 1 1),ke 8,ch 9 (di w.length),ch 10 (di (1:Nat))] ⟨[some (Ab ([w.drop 1].map vIs))],[]⟩) (F0 279 [dIs w] (db true)/\decide (0<(length (map vi w):Int))=true/\(∀(x:V),x∈map vi w->V.size x=1)/\0<=(0:Int)/\(0:Int)<=(length (map vi w):Int)/\(∀(x:V),x∈map vi w->V.size x=1)/\0<=(fun x=>x.snd) (i64,wrap i64 (0+1))/\(fun x=>x.snd) (i64,wrap i64 (0+1))<=(length (map vi w):Int)/\F0 275 [D.v (Azf [Azf [],Azf (List.drop (Int.toNat ((fun x=>x.snd) (i64,wrap i64 (0+1)))) (take (length (map vi w)) (map vi w)))])] (dIs (List.drop 1 w))/\(∀(τ:St),Ah PP (Oper.mk (some 23) (Op.buildSlice 186 1 #[(0,Operand.tmp 22)]) 186 "word.go:71" #[Edge.mk 9 Ground.data] none) [dIs (List.drop 1 w)] τ (D.v (Azf [vIs (List.drop 1 w)])) τ)/\[vIs (List.drop 1 w)]≠ []/\(∀(y:V),y∈ [vIs (List.drop 1 w)]->V.size y=1)/\Ar 1 24/\Q (Azm 0 1 1)/\di (length (map vi w):Int)=di (w.length:Int)/\di (wrap i64 (0+1))=di (↑1:Int)/\okH 1 [] [some [D.v (vIs (List.drop 1 w))]]=true/\Q [some [D.v (vIs (List.drop 1 w))]]/\I0 AdN σ0.H.length (dl (Aos ws)) σ0 [kl AeJ Ak2,Aza 0,kc AeJ [1,1,1,1]] (mkE 28 [(0,dIs w),(3,Azm 0 1 1),(8,dIs w),(9,di (w.length:Int)),(10,di (↑1:Int))]) (Azd [some [D.v (vIs (List.drop 1 w))]] [])) ?_
   have hw1:i64.wrap (0+1)=((0+1:Nat):Int):=by decide
   rw[hw1]
   refine⟨hb2,H6 (by rw[H3];omega),NY w,HV _,by omega,NY w,by decide,by show((0+1:Nat):Int)<=_;rw[H3];omega,K8 w (by omega) 0 hpos,fun τ=>Ajx _ τ rfl,by simp,fun y hy=>by rw[HK.1 hy];rfl,⟨by decide,by decide⟩,rfl,by rw[H3],rfl,rfl,rfl,⟨g3⟩⟩
theorem Sz(w:List Int):(FR w).length<=12/\∀v∈FR w,v.length<=12:=by
 unfold FR
 split
 ·rename_i h
  have h12:=NP h
  have hl:=Q9 (Dt w w.length)
  rw[KE] at hl
  exact⟨by omega,fun v hv=>QD h12 (((F2 _).2 v).1 hv)⟩
 ·exact⟨by decide,by simp⟩
end Go.Proofs.YtmhjflomgppcnaaGreatDoor

namespace Go.Proofs.YtmhjflomgppcnaaGreatDoor
open Go.Dv Go.Nv
set_option maxRecDepth 20000
open List (length map take)
open Go.IntKind (wrap i64 u64)
theorem Sw(k:Nat)(h:k<=1000000):i64.wrap ((k:Int)+1)=((k+1:Nat):Int):=by rw[Al (by omega) (by omega)];omega
theorem Fl{l:List Int}{x r:Int}(_:0<=x)(h:l[x.toNat]?=some r):(l.map vi)[Int.toNat x]?=some (vi r):=by rw[Ik,h];rfl
noncomputable abbrev Aiv:Func:= Tryz.f274
theorem VP(x:Int):Aa PP 274 [di x] σ0 (db (decide (x<0)||decide (x>=6))) σ0:=by
 refine sv Aiv 9 [] (.b .r .r) ((decide (x<0)=true->db true=db (decide (x<0)||decide (x>=6)))/\(decide (x<0)=false->db (decide (x>=6))=db (decide (x<0)||decide (x>=6)))) ?_
 exact⟨fun h=>by rw[h];rfl,fun h=>by rw[h];rfl⟩
noncomputable abbrev Aiw:Func:= Tryz.f265
def Adx(rk:List Int):Bool:=decide ((rk.length:Int)>=1)&&(decide ((rk.length:Int)<=6)&& !(rk.any fun x=>decide (x<0)||decide (x>=6)))
theorem ZM(rk:List Int)(hr:rk.length<=1000):Aa PP 265 [dIs rk] σ0 (db (Adx rk)) σ0:=by
 rw[Adx]
 by_cases h:decide ((rk.length:Int)>=1)=true
 ·rw[h,Ib]
  by_cases h2:decide ((rk.length:Int)<=6)=true
  ·rw[h2,Ib]
   refine sv Aiw 16 [] (.t<|.t<|.c (db (rk.any fun x=>decide (x<0)||decide (x>=6))) .r) (decide ((length (map vi rk):Int)>=1)=true/\decide ((length (map vi rk):Int)<=6)=true/\F0 125 [dIs rk,D.v (Azl 274 [] [])] (db (List.any rk fun x=>decide (x<0)||decide (x>=6)))/\(db !List.any rk fun x=>decide (x<0)||decide (x>=6))=db !List.any rk fun x=>decide (x<0)||decide (x>=6)) ?_
   exact⟨by rw[H3];exact h,by rw[H3];exact h2,Dk 274 [] [] (fun x=>decide (x<0)||decide (x>=6)) rk (by omega) (fun x _=>VP x),rfl⟩
  ·rw[HG h2,HZ]
   refine sv Aiw 16 [] (.t<|.f .r) (decide ((length (map vi rk):Int)>=1)=true/\decide ((length (map vi rk):Int)<=6)=false/\Q (db false)) ?_
   exact⟨by rw[H3];exact h,by rw[H3];exact HG h2,rfl⟩
 ·rw[HG h,HZ]
  refine sv Aiw 16 [] (.f .r) (decide ((length (map vi rk):Int)>=1)=false/\Q (db false)) ?_
  exact⟨by rw[H3];exact HG h,rfl⟩
noncomputable abbrev Ais:Func:= Tryz.f266
theorem VI(rk:List Int)(x:Int):Aa PP 266 [di x,.v (.ref (vIs rk))] σ0 (db (decide (x<0)||decide (x>=rk.length))) σ0:=by
 refine sv Ais 12 [] (.b .r .r) ((decide (x<0)=true->db true=db (decide (x<0)||decide (x>=(rk.length:Int))))/\(decide (x<0)=false->db (decide (x>=(length (map vi rk):Int)))=db (decide (x<0)||decide (x>=(rk.length:Int))))) ?_
 exact⟨fun h=>by rw[h];rfl,fun h=>by rw[h,H3];rfl⟩
noncomputable abbrev Ait:Func:= Tryz.f247
def TZ(rk w:List Int):Bool:=Adx rk&&(decide ((w.length:Int)<=12)&& !(w.any fun x=>decide (x<0)||decide (x>=rk.length)))
theorem MK(rk w:List Int)(hr:rk.length<=1000)(hw:w.length<=1000):Aa PP 247 [dIs rk,dIs w] σ0 (db (TZ rk w)) σ0:=by
 have hb:=ZM rk hr
 rw[TZ]
 cases hv:Adx rk with
 |false=>
  rw[hv] at hb
  refine sv Ait 18 [2] (.c (db false) .r) (F0 265 [dIs rk] (db false)/\db false=db (false&&(decide ((w.length:Int)<=12)&& !List.any w fun x=>decide (x<0)||decide (x>=(rk.length:Int))))) ?_
  exact⟨hb,rfl⟩
 |true=>
  rw[hv] at hb
  rw[Ib]
  by_cases h:decide ((w.length:Int)<=12)=true
  ·rw[h,Ib]
   refine sv Ait 18 [2] (.c (db true)<|.k<|.t<|.c (db (w.any fun x=>decide (x<0)||decide (x>=rk.length))) .r) (F0 265 [dIs rk] (db true)/\decide ((length (map vi w):Int)<=12)=true/\F0 125 [dIs w,D.v (Azl 266 [] [Azo (vIs rk)])] (db (List.any w fun x=>decide (x<0)||decide (x>=(rk.length:Int))))/\(db !List.any w fun x=>decide (x<0)||decide (x>=(rk.length:Int)))=db !List.any w fun x=>decide (x<0)||decide (x>=(rk.length:Int))) ?_
   exact⟨hb,by rw[H3];exact h,Dk 266 [] [.ref (vIs rk)] (fun x=>decide (x<0)||decide (x>=rk.length)) w (by omega) (fun x _=>VI rk x),rfl⟩
  ·rw[HG h,HZ]
   refine sv Ait 18 [2] (.c (db true)<|.k<|.f .r) (F0 265 [dIs rk] (db true)/\decide ((length (map vi w):Int)<=12)=false/\Q (db false)) ?_
   exact⟨hb,by rw[H3];exact HG h,rfl⟩
theorem Gk{rk w:List Int}(hv:TZ rk w=true):w.length<=12/\∀x∈w,0<=x/\x<rk.length:=by
 unfold TZ at hv
 simp only[H5,Iv] at hv
 refine⟨by have:=HF hv.2.1;omega,fun x hx=>?_⟩
 have:=List.any_eq_false.1 hv.2.2 x hx
 simp at this;omega
noncomputable abbrev Yt:Func:= Tryz.f269
noncomputable def Sd:Code:=Yt.body.getD .skip
def pc(rk w:List Int)(i:Nat):Bool:=decide (rk.getD (w.getD i 0).toNat 0<=rk.getD (w.getD (i+1) 0).toNat 0)
def CK(rk w:List Int)(k:Nat):List (List Int):=((List.range k).filter (pc rk w)).map (del w)
theorem Ow{rk w:List Int}{k:Nat}(h:pc rk w k=true):CK rk w (k+1)=CK rk w k++[w.take k++w.drop (k+1)]:=by simp[CK,List.range_succ,h,del]
theorem Rj{rk w:List Int}{k:Nat}(h:pc rk w k=false):CK rk w (k+1)=CK rk w k:=by simp[CK,List.range_succ,h]
theorem Ox(rk w:List Int)(k:Nat):(CK rk w k).length<=k:=by
 have:=List.length_filter_le (pc rk w) (List.range k)
 rw[List.length_range] at this
 rw[CK,H3];exact this
theorem Rk{rk w:List Int}(hw:w.length<=12){k:Nat}{v:List Int}(h:v∈CK rk w k):v.length<=12:=by
 obtain⟨i,_,rfl⟩:=Il.1 h
 have:=Xt w i;omega
theorem AfH{rk w:List Int}{k:Nat}{x y rx ry:Int}(h1:w[k]?=some x)(h2:w[k+1]?=some y)(h3:rk[x.toNat]?=some rx)(h4:rk[y.toNat]?=some ry):pc rk w k=decide (rx<=ry):=by
 simp only[pc,HC,h1,h2,h3,h4,IT]
def Gp(rk w:List Int):List (List Int):=if TZ rk w=true then Eb (CK rk w (w.length-1)) else[]
theorem ST(rk w:List Int):(Gp rk w).length<=12/\∀v∈Gp rk w,v.length<=12:=by
 unfold Gp
 split
 ·rename_i h
  have h12:=(Gk h).1
  have hl:=Q9 (CK rk w (w.length-1))
  have:=Ox rk w (w.length-1)
  exact⟨by omega,fun v hv=>Rk h12 (((F2 _).2 v).1 hv)⟩
 ·exact⟨by decide,by simp⟩
noncomputable abbrev Anx:=fun (a₀:Nat)=>(i64,(a₀:Int))
noncomputable abbrev Ao2:=[kl Sd Ak2,Aza 0,kc Sd [1,1,1,1]]
noncomputable abbrev Apl:=fun a₀ b₀=>[D.v (vIs (take a₀ b₀++List.drop (a₀+1) b₀))]
theorem ZS(rk w:List Int)(hw:w.length<=12)(hx:∀x∈w,0<=x/\x<rk.length)(n:Nat):∀(k m:Nat) (outs:List (List Int)),w.length-k=n->outs.length=m+1->k+1<=w.length->outs=CK rk w k->
  Rn PP Yt 0 (dl ((Eb (CK rk w (w.length-1))).map vIs)) σ0 ([.lp (sub Sd [1,1,1,0,1,0,0]),.blk 0,.code (sub Sd [1,1,1,1])]++[]) (mkE 50 [(0,dIs rk),(1,dIs w),(5,.gro 0 (m+1) 1),(6,di k)]) ⟨[some (Ab (outs.map vIs))],[]⟩:=by
 induction n using Nat.strongRecOn with
 |_ n ih=>
 intro k m outs hn ho hkw houts
 have hm:=Ox rk w k
 rw[←houts,ho] at hm
 by_cases hk:k+1<w.length
 ·obtain⟨x,hx1⟩:∃x,w[k]?=some x:=⟨_,H4 (show k<w.length by omega)⟩
  obtain⟨y,hy1⟩:∃x,w[k+1]?=some x:=⟨_,H4 (show k+1<w.length by omega)⟩
  have bx:=hx x (HA hx1)
  have bY:=hx y (HA hy1)
  obtain⟨rx,hrx⟩:∃r,rk[x.toNat]?=some r:=⟨_,H4 (show x.toNat<rk.length by omega)⟩
  obtain⟨ry,hry⟩:∃r,rk[y.toNat]?=some r:=⟨_,H4 (show y.toNat<rk.length by omega)⟩
  have hpc:=AfH hx1 hy1 hrx hry
  by_cases hc:decide (rx<=ry)=true
  ·have g3:=ih (w.length- (k+1)) (by omega) (k+1) (m+1) (outs++[w.take k++w.drop (k+1)]) rfl (by simp[ho]) (by omega) (by rw[houts];exact(Ow (hpc.trans hc)).symm)
   generalize Eb (CK rk w (w.length-1))=ws at g3⊢
   clear houts
   refine lv 50 [] (.t<|.x (vi x)<|.x (vi rx)<|.x (vi y)<|.x (vi ry)<|.t<|.c (dIs (w.take k++w.drop (k+1)))<|.lo [ke 0,ke 1,ch 5 (.gro 1 (m+1+1) 1),ch 6 (di (k+1:Nat))] ⟨[none,some (Ab ((outs++[w.take k++w.drop (k+1)]).map vIs))],[]⟩) (decide (wrap i64 ((k:Int)+1)<(length (map vi w):Int))=true/\0<=(k:Int)/\(map vi w)[Int.toNat (k:Int)]?=some (vi x)/\0<=x/\(map vi rk)[Int.toNat x]?=some (vi rx)/\0<=wrap i64 ((k:Int)+1)/\(map vi w)[Int.toNat (wrap i64 ((k:Int)+1))]?=some (vi y)/\0<=y/\(map vi rk)[Int.toNat y]?=some (vi ry)/\decide (rx<=ry)=true/\(∀(x:V),x∈map vi w->V.size x=1)/\0<=(fun x=>x.snd) (Anx k)/\(fun x=>x.snd) (Anx k)<=(length (map vi w):Int)/\(∀(x:V),x∈map vi w->V.size x=1)/\0<=(fun x=>x.snd) (i64,wrap i64 ((k:Int)+1))/\(fun x=>x.snd) (i64,wrap i64 ((k:Int)+1))<=(length (map vi w):Int)/\F0 275 [D.v (Azf [Azf (List.drop 0 (take (Int.toNat ((fun x=>x.snd) (Anx k))) (map vi w))),Azf (List.drop (Int.toNat ((fun x=>x.snd) (i64,wrap i64 ((k:Int)+1)))) (take (length (map vi w)) (map vi w)))])] (dIs (take k w++List.drop (k+1) w))/\length (Ab (Aos outs))=(m+1)*1/\[vIs (take k w++List.drop (k+1) w)]≠ []/\(∀(y:V),y∈ [vIs (take k w++List.drop (k+1) w)]->V.size y=1)/\Ar (m+1+length (vIs (take k w++List.drop (k+1) w)::nV)) 24/\Azm 1 (m+1+length (vIs (take k w++List.drop (k+1) w)::nV)) 1=Azm 1 (m+1+1) 1/\di (wrap i64 ((k:Int)+1))=di (↑(k+1):Int)/\okH 2 [] [none,some (Ab (Aos outs)++(Apl k w))]=true/\[none,some (Ab (Aos outs)++(Apl k w))]=[none,some (Ab (map vIs (outs++[take k w++List.drop (k+1) w])))]/\I0 Yt 0 (dl (Aos ws)) σ0 Ao2 (mkE 50 [(0,dIs rk),(1,dIs w),(5,Azm 1 (m+1+1) 1),(6,di (↑(k+1):Int))]) (Azd [none,some (Ab (map vIs (outs++[take k w++List.drop (k+1) w])))] [])) ?_
   rw[Sw k (by omega),Me]
   refine⟨H6 (by rw[H3];omega),by omega,Aq hx1,bx.1,Fl bx.1 hrx,by omega,Aq hy1,bY.1,Fl bY.1 hry,hc,NY w,by show(0:Int)<=(k:Int);omega,by show(k:Int)<=_;rw[H3];omega,NY w,by show(0:Int)<=((k+1:Nat):Int);omega,by show((k+1:Nat):Int)<=_;rw[H3];omega,K8 w (by omega) k (by omega),by rw[NO,ho],by simp,fun y hy=>by rw[HK.1 hy];rfl,⟨by simp only[H9,HD];omega,by simp only[H9,HD];omega⟩,rfl,rfl,?_,rfl,⟨?_⟩⟩
   ·simp[okH,D.okNs,D.okN,Ai]
   ·refine DH (H0:=[none]) (fun E0 E h=>h.2) 1 rfl (fun cs hc=>?_) ?_ ?_ g3
    ·simp at hc;rw[hc];exact A3 _
    ·simp[mkE,D.okNs,D.okN]
    ·simp[mkE,D.rens,D.ren]
  ·have g3:=ih (w.length- (k+1)) (by omega) (k+1) m outs rfl ho (by omega) (by rw[houts];exact(Rj (hpc.trans (HG hc))).symm)
   generalize Eb (CK rk w (w.length-1))=ws at g3⊢
   clear houts
   refine lv 50 [] (.t<|.x (vi x)<|.x (vi rx)<|.x (vi y)<|.x (vi ry)<|.f<|.lo [ke 0,ke 1,ke 5,ch 6 (di (k+1:Nat))] ⟨[some (Ab (outs.map vIs))],[]⟩) (decide (wrap i64 ((k:Int)+1)<(length (map vi w):Int))=true/\0<=(k:Int)/\(map vi w)[Int.toNat (k:Int)]?=some (vi x)/\0<=x/\(map vi rk)[Int.toNat x]?=some (vi rx)/\0<=wrap i64 ((k:Int)+1)/\(map vi w)[Int.toNat (wrap i64 ((k:Int)+1))]?=some (vi y)/\0<=y/\(map vi rk)[Int.toNat y]?=some (vi ry)/\decide (rx<=ry)=false/\di (wrap i64 ((k:Int)+1))=di (↑(k+1):Int)/\okH 1 [] (Alm outs)=true/\Q (Alm outs)/\I0 Yt 0 (dl (Aos ws)) σ0 Ao2 (mkE 50 [(0,dIs rk),(1,dIs w),(5,Azm 0 (m+1) 1),(6,di (↑(k+1):Int))]) (Aov outs)) ?_
   rw[Sw k (by omega)]
   exact⟨H6 (by rw[H3];omega),by omega,Aq hx1,bx.1,Fl bx.1 hrx,by omega,Aq hy1,bY.1,Fl bY.1 hry,HG hc,rfl,HM.2 ⟨Ai 1 [] _,rfl⟩,rfl,⟨g3⟩⟩
 ·have hlen:(sortW outs).length=outs.length:=(CX outs).length_eq
  have hs:∀v∈outs,v.length<=12:=fun v hv=>by rw[houts] at hv;exact Rk hw hv
  obtain⟨R,h3,h5,h4⟩:=AcQ 184 (sortW outs) eqW (by omega) (fun x hx y hy=>D2 x y (by have:=hs x ((CX outs).mem_iff.1 hx);omega))
  rw[hlen,ho] at h4
  rw[show w.length-1=k by omega, ←houts]
  obtain⟨ys,hys⟩:∃ys,ys=Eb outs:=⟨_,rfl⟩
  rw[show AG eqW (sortW outs)=Eb outs from rfl, ←hys] at h4
  rw[←hys]
  refine lv 50 [] (.f<|.h (.q 9 0)<|.h (.ga 5)<|.h (.oc (.tup []) ⟨[some (Ab ((sortW outs).map vIs))],[]⟩)<|.h (.oc (.arr 0 0 ys.length) ⟨[some (Ab (ys.map vIs)++R)],[]⟩)<|.h (.q 10 2)<|.h (.ct 49 (dl (ys.map vIs)) ⟨[none],[]⟩) .r) (decide (wrap i64 ((k:Int)+1)<(length (map vi w):Int))=false/\(N0 [D.v (Azl 276 [] []),Azi 0 0 (m+1),D.v Apg] (Aov outs) (Azn []) (Aqt outs))/\(N0 [D.v (Azl 278 [] []),Azi 0 0 (m+1),D.v Apw] (Aqt outs) (Aoj ys.length) (Am9 ys R))/\(∀(e:List D),e[49]?=some (Aoj ys.length)->∀(E:Ent) (g:Gh) (a:Act) (w:World),FI E g (Am9 ys R) e a w->∃g',FI E g' (Azd [none] []) (List.set e 49 (dl (Aos ys))) a w)/\D.v (Azf (Aos ys))=dl (Aos ys)) ?_
  rw[Sw k (by omega)]
  have hsp:=LP QC outs (by omega) (fun v hv=>by have:=hs v hv;omega)
  rw[ho] at hsp
  refine⟨H8 (by rw[H3];omega),fun o cl fo hop hc=>?_,fun o cl fo hop hc=>?_,fun e he=>?_,rfl⟩
  ·exact Ci (H:=[Ab (outs.map vIs)]) hop hc (fs:=[]) (cs:=[]) (ds:=[.arr 0 0 (m+1),dfn 277]) rfl hsp rfl (fun cs hm=>by rw[HK.1 hm];exact⟨Ai _ _ _,LJ _⟩) rfl (HM.2 ⟨Ai _ _ _,rfl⟩) (HB _)
  ·exact Ci (H:=[Ab ((sortW outs).map vIs)]) hop hc (fs:=[]) (cs:=[]) (ds:=[.arr 0 0 (m+1),dfn 184]) rfl h4 rfl (fun cs hm=>by rw[HK.1 hm];exact⟨Ai _ _ _,LJ _⟩) rfl (HM.2 ⟨AO (LI _ h3),rfl⟩) (HB _)
  ·exact Qp (σ:=⟨[some (Ab (ys.map vIs)++R)],[]⟩) (q:=0) (sz:=1) (rest:=R) (by decide) (fun x hx=>by obtain⟨y,_,rfl⟩:=Il.1 hx;rfl) (by rw[H3]) rfl he
theorem VV(rk w:List Int)(hw:w.length<=12)(hx:∀x∈w,0<=x/\x<rk.length)(n:Nat):∀(k:Nat),w.length-k=n->(k=0∨k+1<=w.length)->CK rk w k=[]->
  Rn PP Yt 0 (dl ((Eb (CK rk w (w.length-1))).map vIs)) σ0 ([.lp (sub Sd [1,1,1,0,1,0,0]),.blk 0,.code (sub Sd [1,1,1,1])]++[]) (mkE 50 [(0,dIs rk),(1,dIs w),(5,.v .nils),(6,di k)]) σ0:=by
 induction n using Nat.strongRecOn with
 |_ n ih=>
 intro k hn hkw houts
 by_cases hk:k+1<w.length
 ·obtain⟨x,hx1⟩:∃x,w[k]?=some x:=⟨_,H4 (show k<w.length by omega)⟩
  obtain⟨y,hy1⟩:∃x,w[k+1]?=some x:=⟨_,H4 (show k+1<w.length by omega)⟩
  have bx:=hx x (HA hx1)
  have bY:=hx y (HA hy1)
  obtain⟨rx,hrx⟩:∃r,rk[x.toNat]?=some r:=⟨_,H4 (show x.toNat<rk.length by omega)⟩
  obtain⟨ry,hry⟩:∃r,rk[y.toNat]?=some r:=⟨_,H4 (show y.toNat<rk.length by omega)⟩
  have hpc:=AfH hx1 hy1 hrx hry
  by_cases hc:decide (rx<=ry)=true
  ·have g3:=ZS rk w hw hx (w.length- (k+1)) (k+1) 0 [w.take k++w.drop (k+1)] rfl rfl (by omega) (by rw[Ow (hpc.trans hc),houts];rfl)
   generalize Eb (CK rk w (w.length-1))=ws at g3⊢
   refine lv 50 [] (.t<|.x (vi x)<|.x (vi rx)<|.x (vi y)<|.x (vi ry)<|.t<|.c (dIs (w.take k++w.drop (k+1)))<|.h (.p (.v (.list [vIs (w.take k++w.drop (k+1))])))<|.h .g<|.lo [ke 0,ke 1,ch 5 (.gro 0 1 1),ch 6 (di (k+1:Nat))] ⟨[some (Ab ([w.take k++w.drop (k+1)].map vIs))],[]⟩) (decide (wrap i64 ((k:Int)+1)<(length (map vi w):Int))=true/\0<=(k:Int)/\(map vi w)[Int.toNat (k:Int)]?=some (vi x)/\0<=x/\(map vi rk)[Int.toNat x]?=some (vi rx)/\0<=wrap i64 ((k:Int)+1)/\(map vi w)[Int.toNat (wrap i64 ((k:Int)+1))]?=some (vi y)/\0<=y/\(map vi rk)[Int.toNat y]?=some (vi ry)/\decide (rx<=ry)=true/\(∀(x:V),x∈map vi w->V.size x=1)/\0<=(fun x=>x.snd) (Anx k)/\(fun x=>x.snd) (Anx k)<=(length (map vi w):Int)/\(∀(x:V),x∈map vi w->V.size x=1)/\0<=(fun x=>x.snd) (i64,wrap i64 ((k:Int)+1))/\(fun x=>x.snd) (i64,wrap i64 ((k:Int)+1))<=(length (map vi w):Int)/\F0 275 [D.v (Azf [Azf (List.drop 0 (take (Int.toNat ((fun x=>x.snd) (Anx k))) (map vi w))),Azf (List.drop (Int.toNat ((fun x=>x.snd) (i64,wrap i64 ((k:Int)+1)))) (take (length (map vi w)) (map vi w)))])] (dIs (take k w++List.drop (k+1) w))/\(∀(τ:St),Ah PP (Oper.mk (some 44) (Op.buildSlice 186 1 #[(0,Operand.tmp 43)]) 186 "priority.go:29" #[Edge.mk 9 Ground.data] none) [dIs (take k w++List.drop (k+1) w)] τ (D.v (Azf [vIs (take k w++List.drop (k+1) w)])) τ)/\[vIs (take k w++List.drop (k+1) w)]≠ []/\(∀(y:V),y∈ [vIs (take k w++List.drop (k+1) w)]->V.size y=1)/\Ar 1 24/\Q (Azm 0 1 1)/\di (wrap i64 ((k:Int)+1))=di (↑(k+1):Int)/\okH 1 [] [some (Apl k w)]=true/\Q [some (Apl k w)]/\I0 Yt 0 (dl (Aos ws)) σ0 Ao2 (mkE 50 [(0,dIs rk),(1,dIs w),(5,Azm 0 1 1),(6,di (↑(k+1):Int))]) (Azd [some (Apl k w)] [])) ?_
   rw[Sw k (by omega)]
   exact⟨H6 (by rw[H3];omega),by omega,Aq hx1,bx.1,Fl bx.1 hrx,by omega,Aq hy1,bY.1,Fl bY.1 hry,hc,NY w,by show(0:Int)<=(k:Int);omega,by show(k:Int)<=_;rw[H3];omega,NY w,by show(0:Int)<=((k+1:Nat):Int);omega,by show((k+1:Nat):Int)<=_;rw[H3];omega,K8 w (by omega) k (by omega),fun τ=>Ajx _ τ rfl,by simp,fun y hy=>by rw[HK.1 hy];rfl,⟨by decide,by decide⟩,rfl,rfl,rfl,rfl,⟨g3⟩⟩
  ·have g3:=ih (w.length- (k+1)) (by omega) (k+1) rfl (by omega) (by rw[Rj (hpc.trans (HG hc))];exact houts)
   generalize Eb (CK rk w (w.length-1))=ws at g3⊢
   refine lv 50 [] (.t<|.x (vi x)<|.x (vi rx)<|.x (vi y)<|.x (vi ry)<|.f<|.l [ke 0,ke 1,ke 5,ch 6 (di (k+1:Nat))]) (decide (wrap i64 ((k:Int)+1)<(length (map vi w):Int))=true/\0<=(k:Int)/\(map vi w)[Int.toNat (k:Int)]?=some (vi x)/\0<=x/\(map vi rk)[Int.toNat x]?=some (vi rx)/\0<=wrap i64 ((k:Int)+1)/\(map vi w)[Int.toNat (wrap i64 ((k:Int)+1))]?=some (vi y)/\0<=y/\(map vi rk)[Int.toNat y]?=some (vi ry)/\decide (rx<=ry)=false/\di (wrap i64 ((k:Int)+1))=di (↑(k+1):Int)/\I0 Yt 0 (dl (Aos ws)) σ0 Ao2 (mkE 50 [(0,dIs rk),(1,dIs w),(5,dn),(6,di (↑(k+1):Int))]) Akz) ?_
   rw[Sw k (by omega)]
   exact⟨H6 (by rw[H3];omega),by omega,Aq hx1,bx.1,Fl bx.1 hrx,by omega,Aq hy1,bY.1,Fl bY.1 hry,HG hc,rfl,⟨g3⟩⟩
 ·have e:Eb (CK rk w (w.length-1))=[]:=by
   rw[show CK rk w (w.length-1)=[] by rw[show w.length-1=k by omega];exact houts]
   simp[Eb,sortW,AG]
  rw[e]
  refine lv 50 [] (.f<|.c (.tup [])<|.c (dl []) .r) (decide (wrap i64 ((k:Int)+1)<(length (map vi w):Int))=false/\F0 276 [D.v (Azf []),D.v Apg] (Azn [])/\F0 278 [D.v (Azf []),D.v Apw] (dl [])/\D.v (Azf [])=dl (map vIs [])) ?_
  refine⟨?_,Oa,Yn _,rfl⟩
  rw[H3,Sw k (by omega)];exact H8 (by omega)
noncomputable abbrev Aq9:=fun a₀ b₀=>F0 247 [dIs a₀,dIs b₀] (db true)
theorem ZR(rk w:List Int)(hr:rk.length<=1000)(hw:w.length<=1000):Aa PP 269 [dIs rk,dIs w] σ0 (dl ((Gp rk w).map vIs)) σ0:=by
 have hb2:=MK rk w hr hw
 unfold Gp
 cases hv:TZ rk w with
 |false=>
  rw[hv] at hb2
  rw[HL (by decide)]
  refine sv Yt 50 [] (.c (db false) .r) (F0 247 [dIs rk,dIs w] (db false)/\D.v (Azf [])=dl (map vIs [])) ?_
  exact⟨hb2,rfl⟩
 |true=>
  rw[hv] at hb2
  rw[HP rfl]
  obtain⟨h12,hx⟩:=Gk hv
  have g3:=VV rk w h12 hx _ 0 rfl (.inl rfl) rfl
  generalize Eb (CK rk w (w.length-1))=ws at g3⊢
  refine sv Yt 50 [] (.c (db true)<|.k<|.l [ke 0,ke 1,ke 5,ch 6 (di (0:Nat))]) (Aq9 rk w/\di 0=di (↑0:Int)/\I0 Yt σ0.H.length (dl (Aos ws)) σ0 Ao2 (mkE 50 [(0,dIs rk),(1,dIs w),(5,dn),(6,di (↑0:Int))]) σ0) ?_
  exact⟨hb2,rfl,⟨g3⟩⟩
end Go.Proofs.YtmhjflomgppcnaaGreatDoor
