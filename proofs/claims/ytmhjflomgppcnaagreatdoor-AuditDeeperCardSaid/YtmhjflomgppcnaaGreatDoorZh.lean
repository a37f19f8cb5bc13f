/-
  A part of the proof.
-/
import Derived.Test.YtmhjflomgppcnaaGreatDoorZd
import Derived.Test.YtmhjflomgppcnaaGreatDoorZf
import Derived.Test.YtmhjflomgppcnaaGreatDoorZg
import Derived.Test.YtmhjflomgppcnaaGreatDoorZc
import Derived.Test.YtmhjflomgppcnaaGreatDoorZe
namespace Go.Proofs.YtmhjflomgppcnaaGreatDoor
open Go.Dv Go.Nv
set_option maxRecDepth 20000
open List (cons_append getElem?_of_mem length map map_map map_take nil_append replicate take)
open Go.IntKind (wrap i64 u64)
theorem AfU(m:Mod)(hm:BR m):Aa PP 42 [Ag m] σ0 (db true) σ0:=by
 have h1:∀a b x,Av x a b=true->Aa PP 41 [di x,di a,di b] σ0 (db true) σ0:=fun a b x h=>h▸Ch x a b
 have hb:∀{x a b:Int},a<=x->x<=b->Av x a b=true:=fun h1 h2=>by simp[Av,h1,h2]
 obtain⟨hst,hpl⟩:=hm.sz
 have hag:=hm.age
 have hc:=hm.count
 have hle:=hm.letters
 have hlv:=hm.levels
 have hk:=hm.kind
 clear hm
 obtain⟨kind,states,places,letters,ranks,levels,age,rules,start⟩:=m
 dsimp only at*
 subst hk
 subst hle
 subst hlv
 refine sv RL 81 [1] (.c (db true)<|.c (db true)<|.k<|.f<|.c (db true)<|.c (db true)<|.c (db true) .r) (F0 41 [di (length (map Azg (Mod.mk 5 states places [] ranks 0 age rules start).states):Int),di 1,di 8] (db true)/\F0 41 [di (length (map Azg (Mod.mk 5 states places [] ranks 0 age rules start).places):Int),di 1,di 6] (db true)/\decide ((length (map Ak (Mod.mk 5 states places [] ranks 0 age rules start).rules):Int)>12)=false/\F0 41 [di (length (map Azg (Mod.mk 5 states places [] ranks 0 age rules start).letters):Int),di 0,di 0] (db true)/\F0 41 [di (Mod.mk 5 states places [] ranks 0 age rules start).levels,di 0,di 0] (db true)/\F0 41 [di (Mod.mk 5 states places [] ranks 0 age rules start).age,di 0,di 3] (db true)/\Q (db true)) ?_
 have b1:Av (states.length:Int) 1 8=true:=hb (by omega) (by omega)
 have b2:Av (places.length:Int) 1 6=true:=hb (by omega) (by omega)
 have b3:decide ((rules.length:Int)>12)=false:=H8 (by omega)
 have b4:Av age 0 3=true:=hb (by omega) (by omega)
 exact⟨by rw[H3];exact h1 _ _ _ b1,by rw[H3];exact h1 _ _ _ b2,by rw[H3];exact b3,h1 _ _ _ rfl,h1 _ _ _ rfl,h1 _ _ _ b4,rfl⟩
theorem AfB(m:Mod)(hm:BR m):Aa PP 43 [Ag m] σ0 (db true) σ0:=by
 refine sv Lx 32 [1] (.t .r) ((m.kind !=3)=true/\db ((length (Anw m.ranks):Int)==0)=db true) ?_
 exact⟨by rw[hm.kind];rfl,by rw[hm.ranks];rfl⟩
theorem AjC(m:Mod)(hm:BR m):D0 m=true:=by
 have hn:=R7 hm.count hm.rules
 have hc:=hm.count
 rw[D0,DO,hn,BL,hm.letters]
 have:m.rules.length=0∨m.rules.length=1∨m.rules.length=2:=by omega
 rcases hm.states with e|e<;>rcases hm.places with e'|e'<;>rcases this with e2|e2|e2<;>rw[e,e',e2]<;>decide+kernel
theorem AfY(m:Mod)(hm:BR m):Aa PP 44 [Ag m] σ0 (db true) σ0:=by
 obtain⟨hst,hpl⟩:=hm.sz
 have hc:=hm.count
 exact R3 m (by simp only[DO,BL,IR,List.flatten_nil,HI,H3,HD,hm.letters];omega) (by omega) (AjC m hm)
noncomputable abbrev AgF:Func:= Tryz.f75
theorem AaT(l:List Int)(hl:l.length<=3)(b:Int)(h:∀x∈l,0<=x/\x<=b):Aa PP 75 [dIs l,di 3,di b] σ0 (db true) σ0:=by
 have:=Gq l (by omega) l.length 0 b rfl (fun x hx=>by simp[Av,h x hx])
 refine sv AgF 18 [] (.t<|.c (db true) .r) (decide ((length (map vi l):Int)<=3)=true/\F0 74 [dIs l,di (length (map vi l):Int),di 0,di b] (db true)/\Q (db true)) ?_
 exact⟨H6 (by rw[H3];omega),by rw[H3];exact this,rfl⟩
noncomputable abbrev Ac4:Func:= Tryz.f76
theorem YW(m:Mod)(hp:1<=m.places.length/\m.places.length<=1000)(ha:0<=m.age/\m.age<=1000)(r:Rul)(h1:r.takes=[]∨∃p lo hi:Int,(0<=p/\p<m.places.length)/\(0<=lo/\lo<=hi/\hi<=m.age+1)/\r.takes=[⟨p,lo,hi⟩])(h2:r.makes=[]∨∃p:Int,(0<=p/\p<m.places.length)/\r.makes=[p]):Aa PP 76 [Ag m,Cl r] σ0 (db true) σ0:=by
 have hw:i64.wrap (((m.places.map V.str).length:Int)-1)=(m.places.length:Int)-1:=CP _ _ (by omega)
 have hwa:i64.wrap (m.age+1)=m.age+1:=Al (by omega) (by omega)
 have hm1:r.makes.length<=1:=by rcases h2 with e|⟨_,_,e⟩<;>rw[e]<;>simp
 have hfew:=AaT r.makes (by omega) ((m.places.length:Int)-1) (fun x hx=>by
  rcases h2 with e|⟨p,hp,e⟩
  ·rw[e] at hx;simp at hx
  ·rw[e] at hx;rw[HK.1 hx];omega)
 have hml:¬(1:Int)<((r.makes.map vi).length:Int):=by rw[H3];omega
 rcases h1 with e|⟨p,lo,hi,⟨p1,p2⟩,⟨l1,l2,l3⟩,e⟩
 ·refine sv Ac4 81 [2,3] (.f<|.c (db true)<|.k<|.n<|.f<|.n<|.f .r) (decide ((length (map vTk r.takes):Int)>3)=false/\F0 75 [dIs r.makes,di 3,di (wrap i64 ((length (Aks m.places):Int)-1))] (db true)/\decide (0<(length (map vTk r.takes):Int))=false/\decide (1<(length (Anw r.makes):Int))=false/\Q (db true)) ?_
  rw[hw]
  exact⟨by rw[e];rfl,hfew,by rw[e];rfl,H8 hml,rfl⟩
 ·have hbt:Aa PP 41 [di p,di 0,di ((m.places.length:Int)-1)] σ0 (db true) σ0:=by
   have:=Ch p 0 ((m.places.length:Int)-1)
   rwa[show Av p 0 ((m.places.length:Int)-1)=true by simp[Av];omega] at this
  refine sv Ac4 81 [2,3] (.f<|.c (db true)<|.k<|.n<|.t<|.x (vTk ⟨p,lo,hi⟩)<|.c (db true)<|.k<|.f<|.f<|.f<|.n<|.f<|.n<|.f .r) (decide ((length (map vTk r.takes):Int)>3)=false/\F0 75 [dIs r.makes,di 3,di (wrap i64 ((length (Aks m.places):Int)-1))] (db true)/\decide (0<(length (map vTk r.takes):Int))=true/\iz 0<=0/\(map vTk r.takes)[Int.toNat 0]?=some (vTk (Tk.mk p lo hi))/\F0 41 [di (Tk.mk p lo hi).place,di 0,di (wrap i64 ((length (Aks m.places):Int)-1))] (db true)/\decide ((Tk.mk p lo hi).low<0)=false/\decide ((Tk.mk p lo hi).low>(Tk.mk p lo hi).high)=false/\decide ((Tk.mk p lo hi).high>wrap i64 (m.age+1))=false/\decide (wrap i64 (0+1)<(length (map vTk r.takes):Int))=false/\decide (1<(length (Anw r.makes):Int))=false/\Q (db true)) ?_
  rw[hw,hwa]
  exact⟨by rw[e];rfl,hfew,by rw[e];rfl,HV _,by rw[e];rfl,hbt,H8 (by show ¬lo<0;omega),H8 (by show ¬lo>hi;omega),H8 (by show ¬hi>m.age+1;omega),by rw[e];rfl,H8 hml,rfl⟩
theorem Aib(m:Mod)(hm:BR m)(r:Rul)(hr:r∈m.rules):Aa PP 45 [Ag m,Cl r] σ0 (db true) σ0:=by
 have h1:∀a b x,Av x a b=true->Aa PP 41 [di x,di a,di b] σ0 (db true) σ0:=fun a b x h=>h▸Ch x a b
 have hb:∀{x a b:Int},a<=x->x<=b->Av x a b=true:=fun h1 h2=>by simp[Av,h1,h2]
 obtain⟨i,hi⟩:=getElem?_of_mem hr
 have hR:=hm.rules i r hi
 obtain⟨hst,hpl⟩:=hm.sz
 have ht:=YW m (by omega) (by have:=hm.age;omega) r hR.takes hR.makes
 have hf:=hR.frm
 have hto:=hR.to
 have hw:i64.wrap (((m.states.map V.str).length:Int)-1)=(m.states.length:Int)-1:=CP _ _ (by omega)
 have hre:=hR.rest
 have hk:=hm.kind
 clear hm hr hi hR
 generalize r.name=nm at*
 generalize r.frm=f at*
 generalize r.to=t at*
 generalize r.takes=tk at*
 generalize r.makes=mk at*
 subst hre
 obtain⟨kind,states,places,letters,ranks,levels,age,rules,start⟩:=m
 dsimp only at*
 subst hk
 refine sv AaV 234 [2,3] (.c (db true)<|.c (db true)<|.c (db true) .r) (F0 41 [di (mkT nm f t tk mk).frm,di 0,di (wrap i64 ((length (map Azg (Mod.mk 5 states places letters ranks levels age rules start).states):Int)-1))] (db true)/\F0 41 [di (mkT nm f t tk mk).to,di 0,di (wrap i64 ((length (map Azg (Mod.mk 5 states places letters ranks levels age rules start).states):Int)-1))] (db true)/\F0 76 [D.v (A8 (Mod.mk 5 states places letters ranks levels age rules start)),D.v (Ak (mkT nm f t tk mk))] (db true)/\db ((mkT nm f t tk mk).second==0)=db true) ?_
 rw[hw]
 have b1:Av f 0 ((states.length:Int)-1)=true:=hb hf.1 (by omega)
 have b2:Av t 0 ((states.length:Int)-1)=true:=hb hto.1 (by omega)
 exact⟨h1 _ _ _ b1,h1 _ _ _ b2,ht,rfl⟩
theorem AhY(m:Mod)(hk:m.kind=5)(hag:0<=m.age/\m.age<=1000):Aa PP 47 [Ag m] σ0 (dT (AR m)) σ0:=by
 obtain⟨kind,states,places,letters,ranks,levels,age,rules,start⟩:=m
 dsimp only at*
 subst hk
 refine sv Ys 96 [1] (.a 1<|.h .g .r) (Q (Azh (vi 2::vi (length (map Azg (Mod.mk 5 states places letters ranks levels age rules start).states):Int)::Azf nV::Azf nV::nV)::nV)/\Ar 2 64/\D.v (Azh [vi 3,vi 0,Azf [],Azf [Azh [vi 2,vi (length (map Azg (Mod.mk 5 states places letters ranks levels age rules start).states):Int),Azf [],Azf []],Azh [vi 5,vi 0,Azf [],Azf [Azh [vi 3,vi 0,Azf [],Azf [Azh [vi 2,vi (length (map Azg (Mod.mk 5 states places letters ranks levels age rules start).places):Int),Azf [],Azf []],Azh [vi 2,vi (wrap i64 ((Mod.mk 5 states places letters ranks levels age rules start).age+2)),Azf [],Azf []]]]]]]])=dT (AR (Mod.mk 5 states places letters ranks levels age rules start))) ?_
 refine⟨rfl,⟨by decide,by decide⟩,?_⟩
 show D.v (V.agg [vi 3,vi 0,V.list [],V.list [V.agg [vi 2,vi ((states.map V.str).length:Int),V.list [],V.list []],V.agg [vi 5,vi 0,V.list [],V.list [V.agg [vi 3,vi 0,V.list [],V.list [V.agg [vi 2,vi ((places.map V.str).length:Int),V.list [],V.list []],V.agg [vi 2,vi (wrap i64 (age+2)),V.list [],V.list []]]]]]]])=_
 rw[H3,H3,Al (n:=age+2) (by omega) (by omega)]
 show _=D.v (vT (.prod [.lab states.length,.bag (.prod [.lab places.length,.lab (age+2)])]))
 rfl
theorem YG(d:Nat)(t:Typ)(hd:d<=100)(h:Aa PP 122 [dT t,di d] σ0 (db true) σ0):Aa PP 122 [dT (.bag t),di ((d+1:Nat):Int)] σ0 (db true) σ0:=by
 rw[dT,NU]
 refine sv LL 132 [2] (.f<|.x (vT t)<|.c (db true) .r) (((↑(d+1):Int)==0)=false/\iz 0<=0/\Q (some (vT t))/\F0 122 [D.v (vT t),di (wrap i64 ((↑(d+1):Int)-1))] (db true)/\Q (db true)) ?_
 have hz:(((d+1:Nat):Int)==0)=false:=Ii.2 (by omega)
 rw[show i64.wrap (((d+1:Nat):Int)-1)=d by rw[Al (by omega) (by omega)];omega]
 exact⟨hz,by decide,rfl,h,rfl⟩
theorem Uy(m:Mod)(hm:BR m):Aa PP 122 [dT (AR m),di 8] σ0 (db true) σ0:=by
 obtain⟨hst,hpl⟩:=hm.sz
 have hag:=hm.age
 refine KF 7 _ (by decide) rfl rfl fun t ht=>?_
 simp only[Ij,IU,or_false] at ht
 rcases ht with rfl|rfl
 ·exact GD 6 _ (by omega) (by omega)
 ·refine YG 6 _ (by decide) (KF 5 _ (by decide) rfl rfl fun t ht=>?_)
  simp only[Ij,IU,or_false] at ht
  rcases ht with rfl|rfl
  ·exact GD 4 _ (by omega) (by omega)
  ·exact GD 4 _ (by omega) (by omega)
theorem Ahl(m:Mod)(hm:BR m):Aa PP 78 [dT (AR m)] σ0 (di 0) σ0:=by
 refine sv AcD 6 [1] (.c (db true) .r) (F0 122 [D.v (vT (AR m)),di 8] (db true)/\Q (di 0)) ?_
 exact⟨Uy m hm,rfl⟩
def AcK(t:Typ)(l:List Val):Nat->Nat->Bool
 |0,_=>true
 |n+1,k=>(Am t (l.getD k default)&& !(decide (k>0)&&decide (Au (l.getD (k-1) default) (l.getD k default)>0)))&&AcK t l n (k+1)
noncomputable abbrev Ap2:=fun a₀ b₀=>F0 80 [D.v (vT a₀),dV b₀] (db true)
theorem Te(t:Typ)(v:Val)(hv:v.kids.length<=12)(hz:v.size<=1000000)(h:∀k∈v.kids,Aa PP 80 [dT t,dV k] σ0 (db (Am t k)) σ0)(n:Nat):∀k:Nat,v.kids.length-k=n->
  Rn PP Dm 0 (db (AcK t v.kids n k)) σ0 ([.lp (sub Cg [1,1,1,0,1,0,0]),.blk 3,.code (sub Cg [1,1,1,1])]++[]) (mkE 169 [(2,.v (.ref (vTy 5 0 [] [vT t]))),(3,.v (.ref (Af v))),(6,di k)]) σ0:=by
 induction n with
 |zero=>
  intro k hn
  refine lv 169 [2,3] (.f .r) (decide ((k:Int)<(length (Alj v.kids):Int))=false/\db true=db (AcK t v.kids 0 k)) ?_
  exact⟨H8 (by rw[H3];omega),rfl⟩
 |succ n ih=>
  intro k hn
  obtain⟨x,hx⟩:∃r,v.kids[k]?=some r:=⟨_,H4 (by omega)⟩
  have hlt:decide ((k:Int)<((v.kids.map eV).length:Int))=true:=H6 (by rw[H3];omega)
  have hxd:v.kids.getD k default=x:=by rw[HC,hx];rfl
  have ho:=h x (HA hx)
  rw[AcK,hxd]
  have hih:=ih (k+1) (by omega)
  generalize AcK t v.kids n (k+1)=b at*
  cases hb:Am t x with
  |false=>
   rw[hb] at ho
   refine lv 169 [2,3] (.t<|.x (vT t)<|.x (Af x)<|.c (db false)<|.k<|.k .r) (decide ((k:Int)<(length (Alj v.kids):Int))=true/\iz 0<=0/\Q (some (vT t))/\0<=(k:Int)/\(Alj v.kids)[Int.toNat (k:Int)]?=some (Af x)/\F0 80 [D.v (vT t),dV x] (db false)/\db false=db (false&& !(decide (k>0)&&decide (Au (List.getD v.kids (k-1) default) x>0))&&b)) ?_
   exact⟨hlt,by decide,rfl,by omega,As hx,ho,by rw[HZ,HZ]⟩
  |true=>
   rw[hb] at ho
   cases k with
   |zero=>
    refine lv 169 [2,3] (.t<|.x (vT t)<|.x (Af x)<|.c (db true)<|.k<|.k<|.k<|.l [ke 2,ke 3,ch 6 (di ((0:Nat)+1:Nat))]) (decide ((↑0:Int)<(length (Alj v.kids):Int))=true/\iz 0<=0/\Q (some (vT t))/\0<=(↑0:Int)/\(Alj v.kids)[Int.toNat (↑0:Int)]?=some (Af x)/\Ap2 t x/\di (wrap i64 ((↑0:Int)+1))=di (↑(0+1):Int)/\I0 Dm 0 (db (true&& !(decide (0>0)&&decide (Au (List.getD v.kids (0-1) default) x>0))&&b)) σ0 Ani (mkE 169 [(2,D.v (Azo (vTy 5 0 [] [vT t]))),(Als v),(6,di (↑(0+1):Int))]) Akz) ?_
    exact⟨hlt,by decide,rfl,by omega,As hx,ho,rfl,⟨by simpa using hih⟩⟩
   |succ k=>
    obtain⟨y,hy⟩:∃r,v.kids[k]?=some r:=⟨_,H4 (by omega)⟩
    have hyd:v.kids.getD k default=y:=by rw[HC,hy];rfl
    rw[show k+1-1=k by omega,hyd]
    have hyz:=Val.size_mem (HA hy)
    have hvz:=Val.size_eq v
    have hcm:=EW _ y x (HB _) (by omega)
    have hw1:wrap i64 (((k+1:Nat):Int)-1)=(k:Int):=by rw[Al (by omega) (by omega)];omega
    have hg:decide (((k+1:Nat):Int)>0)=true:=H6 (by omega)
    by_cases hc:Au y x>0
    ·refine lv 169 [2,3] (.t<|.x (vT t)<|.x (Af x)<|.c (db true)<|.k<|.k<|.t<|.x (Af y)<|.x (Af x)<|.c (di (Au y x))<|.t .r) (decide ((↑(k+1):Int)<(length (Alj v.kids):Int))=true/\iz 0<=0/\Q (some (vT t))/\0<=(↑(k+1):Int)/\(Alj v.kids)[Int.toNat (↑(k+1):Int)]?=some (Af x)/\Ap2 t x/\decide ((↑(k+1):Int)>0)=true/\0<=wrap i64 ((↑(k+1):Int)-1)/\(Alj v.kids)[Int.toNat (wrap i64 ((↑(k+1):Int)-1))]?=some (Af y)/\0<=(↑(k+1):Int)/\(Alj v.kids)[Int.toNat (↑(k+1):Int)]?=some (Af x)/\Amh y x/\decide (Au y x>0)=true/\db false=db (true&& !(decide (k+1>0)&&decide (Au y x>0))&&b)) ?_
     rw[hw1]
     exact⟨hlt,by decide,rfl,by omega,As hx,ho,hg,by omega,As hy,by omega,As hx,hcm,H6 hc,by rw[H6 hc];simp⟩
    ·refine lv 169 [2,3] (.t<|.x (vT t)<|.x (Af x)<|.c (db true)<|.k<|.k<|.t<|.x (Af y)<|.x (Af x)<|.c (di (Au y x))<|.f<|.l [ke 2,ke 3,ch 6 (di (k+1+1:Nat))]) (decide ((↑(k+1):Int)<(length (Alj v.kids):Int))=true/\iz 0<=0/\Q (some (vT t))/\0<=(↑(k+1):Int)/\(Alj v.kids)[Int.toNat (↑(k+1):Int)]?=some (Af x)/\Ap2 t x/\decide ((↑(k+1):Int)>0)=true/\0<=wrap i64 ((↑(k+1):Int)-1)/\(Alj v.kids)[Int.toNat (wrap i64 ((↑(k+1):Int)-1))]?=some (Af y)/\0<=(↑(k+1):Int)/\(Alj v.kids)[Int.toNat (↑(k+1):Int)]?=some (Af x)/\Amh y x/\decide (Au y x>0)=false/\di (wrap i64 ((↑(k+1):Int)+1))=di (↑(k+1+1):Int)/\I0 Dm 0 (db (true&& !(decide (k+1>0)&&decide (Au y x>0))&&b)) σ0 Ani (mkE 169 [(2,D.v (Azo (vTy 5 0 [] [vT t]))),(Als v),(6,di (↑(k+1+1):Int))]) Akz) ?_
     rw[hw1]
     exact⟨hlt,by decide,rfl,by omega,As hx,ho,hg,by omega,As hy,by omega,As hx,hcm,H8 hc,Ad (by omega),⟨by rw[H8 hc];simpa using hih⟩⟩
theorem AbQ(t:Typ)(l:List Val)(n:Nat):∀k:Nat,l.length-k=n->k<=l.length->(AcK t l n k=true↔(∀i,k<=i->i<l.length->Am t (l.getD i default)=true)/\∀i,k<=i->0<i->i<l.length->Au (l.getD (i-1) default) (l.getD i default)<=0):=by
 induction n with
 |zero=>
  intro k hn hk
  exact⟨fun _=>⟨fun i h1 h2=>by omega,fun i h1 _ h2=>by omega⟩,fun _=>rfl⟩
 |succ n ih=>
  intro k hn hk
  rw[AcK,H5,H5,ih (k+1) (by omega) (by omega)]
  simp only[Iv,Bool.and_eq_false_iff,IM]
  constructor
  ·rintro ⟨⟨h1,h2⟩,h3,h4⟩
   refine⟨fun i hi1 hi2=>?_,fun i hi1 h0 hi2=>?_⟩
   ·by_cases e:i=k
    ·rw[e];exact h1
    ·exact h3 i (by omega) hi2
   ·by_cases e:i=k
    ·subst e;rcases h2 with h2|h2<;>omega
    ·exact h4 i (by omega) h0 hi2
  ·rintro ⟨h1,h2⟩
   refine⟨⟨h1 k (HB _) (by omega),?_⟩,fun i hi1 hi2=>h1 i (by omega) hi2,fun i hi1 h0 hi2=>h2 i (by omega) h0 hi2⟩
   by_cases h0:k>0
   ·right;have:=h2 k (HB _) h0 (by omega);omega
   ·left;exact h0
theorem Aer(t:Typ)(l:List Val):AcK t l l.length 0=(l.all (fun k=>Am t k)&&SC l):=by
 rw[Bool.eq_iff_iff,AbQ t l l.length 0 (Nat.sub_zero _) (Ic _),H5,Ip,MB]
 constructor
 ·rintro ⟨h1,h2⟩
  refine⟨fun x hx=>?_,Lb l fun i hi=>?_⟩
  ·obtain⟨i,hi⟩:=getElem?_of_mem hx
   have:=h1 i (Ic _) (H7.1 hi).1
   rwa[HC,hi] at this
  ·have:=h2 (i+1) (Ic _) (by omega) hi
   rwa[show i+1-1=i by omega] at this
 ·rintro ⟨h1,h2⟩
  refine⟨fun i _ hi=>?_,fun i _ h0 hi=>?_⟩
  ·rw[HC,H4 hi]
   exact h1 _ (List.getElem_mem hi)
  ·have:=List.pairwise_iff_getElem.1 h2 (i-1) i (by omega) hi (by omega)
   rw[HC,HC,H4 hi,H4 (show i-1<l.length by omega)]
   exact this
theorem Aau(t:Typ)(v:Val)(hz:v.size<=1000000)(h:∀k∈v.kids,Aa PP 80 [dT t,dV k] σ0 (db (Am t k)) σ0):Aa PP 80 [dT (.bag t),dV v] σ0 (db (Am (.bag t) v)) σ0:=by
 rw[dT,NU]
 refine sv Dm 169 [2,3] (.k<|.k<|.k<|.k<|.b .r (.b .r (.l [ke 2,ke 3,ch 6 (di (0:Nat))]))) (((v.n !=0)=true->db false=db (Am (Typ.bag t) v))/\((v.n !=0)=false->(decide ((length (Alj v.kids):Int)>12)=true->db false=db (Am (Typ.bag t) v))/\(decide ((length (Alj v.kids):Int)>12)=false->di 0=di (↑0:Int)/\I0 Dm σ0.H.length (db (Am (Typ.bag t) v)) σ0 Ani (mkE 169 [(2,D.v (Azo (vTy 5 0 [] [vT t]))),(Als v),(6,di (↑0:Int))]) σ0))) ?_
 refine⟨fun h1=>?_,fun h1=>⟨fun h2=>?_,fun h2=>⟨rfl,⟨?_⟩⟩⟩⟩
 ·have h1:(v.n==0)=false:=by simpa using h1
  simp only[Am,h1,HZ]
 ·have h2:¬((v.kids.length:Int)<=12):=by simpa using h2
  simp only[Am,H8 h2,HZ,IY]
 ·have h1:(v.n==0)=true:=by simpa using h1
  have h2:(v.kids.length:Int)<=12:=by simpa using h2
  simp only[Am,h1,H6 h2,Ib]
  rw[←Aer]
  exact Te t v (by omega) hz h _ 0 rfl
theorem W3(m:Mod)(v:Val)(hv:v.size<=1000000):Aa PP 80 [dT (AR m),dV v] σ0 (db (Am (AR m) v)) σ0:=
 Lo _ v hv fun t ht k hk=>by
  have hks:=Val.size_mem hk
  have hvs:=v.size_eq
  simp only[Ij,IU,or_false] at ht
  rcases ht with rfl|rfl
  ·exact K0 _ k
  ·refine Aau _ k (by omega) fun x hx=>Lo _ x (by have:=Val.size_mem hx;have:=k.size_eq;omega) fun t ht y _=>?_
   simp only[Ij,IU,or_false] at ht
   rcases ht with rfl|rfl<;>exact K0 _ y
theorem Afo(m:Mod)(hm:BR m)(v:Val)(hv:v.size<=1000000):Aa PP 46 [dT (AR m),dV v] σ0 (db (Aj (AR m) v)) σ0:=by
 refine sv Ac3 18 [2,3] (.c (di 0)<|.c (di (min (v.size:Int) 129))<|.b (.c (db (Am (AR m) v)) .r) .r) (F0 78 [D.v (vT (AR m))] (di 0)/\F0 79 [dV v,di 128] (di (min (↑(Val.size v):Int) 129))/\(decide (min (↑(Val.size v):Int) 129<=128)=true->F0 80 [D.v (vT (AR m)),dV v] (db (Am (AR m) v))/\db (Am (AR m) v)=db (Aj (AR m) v))/\(decide (min (↑(Val.size v):Int) 129<=128)=false->db false=db (Aj (AR m) v))) ?_
 refine⟨Ahl m hm,LR _ v (HB _) hv 128 (by decide) (by decide),fun h1=>⟨W3 m v hv,?_⟩,fun h1=>?_⟩
 ·have h1:=HF h1
  rw[Aj,H6 (show(v.size:Int)<=128 by rw[I3] at h1;split at h1<;>omega),Ib]
 ·have h1:=Im h1
  rw[Aj,H8 (show ¬(v.size:Int)<=128 by rw[I3] at h1;split at h1<;>omega),HZ]
theorem Qx(m:Mod)(hm:BR m)(n:Nat):∀k:Nat,m.rules.length-k=n->
  Rn PP Gv 0 (di 0) σ0 ([.lp (sub Ez [1,1,1,1,1,0,1,0,0]),.blk 0,.code (sub Ez [1,1,1,1,1,1])]++[]) (mkE 52 [(1,.v (.ref (A8 m))),(3,di k)]) σ0:=by
 induction n using Nat.strongRecOn with
 |_ n ih=>
 intro k hn
 refine lv 52 [1] (.b (.e fun r:Rul=>.x (Ak r)<|.c (db true)<|.l [ke 1,ch 3 (di (k+1:Nat))]) (.f<|.c (dT (AR m))<|.c (db true) .r)) ((decide ((k:Int)<(length (Aps m.rules):Int))=true->∃a,0<=(k:Int)/\(Aps m.rules)[Int.toNat (k:Int)]?=some (Ak a)/\Aa PP 45 [Ag m,Cl a] Akz (db true) Akz/\di (wrap i64 ((k:Int)+1))=di (↑(k+1):Int)/\Nv.It (A1 (CN 0) PP (fun env σ1=>Aw PP Gv env σ1 (di 0) σ0) An9 (mkE 52 [(Aot m),(3,di (↑(k+1):Int))]) Akz))/\(decide ((k:Int)<(length (Aps m.rules):Int))=false->(m.kind==6)=false/\F0 47 [Ag m] (dT (AR m))/\F0 46 [D.v (vT (AR m)),dV m.start] (db true)/\Q (di 0))) ?_
 have hc:=hm.count
 refine⟨fun h=>?_,fun h=>⟨by rw[hm.kind];rfl,AhY m hm.kind (by have:=hm.age;omega),?_,rfl⟩⟩
 ·have hk:k<m.rules.length:=by simpa using h
  have hx:m.rules[k]?=some m.rules[k]:=H4 hk
  generalize m.rules[k]=r at hx
  exact⟨r,by omega,Aq hx,Aib m hm r (HA hx),Ad (by omega),⟨ih (m.rules.length- (k+1)) (by omega) (k+1) rfl⟩⟩
 ·have:=Afo m hm m.start hm.ssz
  rw[hm.start_ok] at this
  exact this
theorem Ahk(m:Mod)(hm:BR m):Aa PP 18 [Ag m] σ0 (di 0) σ0:=by
 refine sv Gv 52 [1] (.c (db true)<|.c (db true)<|.c (db true)<|.c (db true)<|.l [ke 1,ch 3 (di (0:Nat))]) (F0 41 [di m.kind,di 1,di 6] (db true)/\F0 42 [Ag m] (db true)/\F0 43 [Ag m] (db true)/\F0 44 [Ag m] (db true)/\di 0=di (↑0:Int)/\I0 Gv σ0.H.length (di 0) σ0 An9 (mkE 52 [(Aot m),(3,di (↑0:Int))]) σ0) ?_
 refine⟨?_,AfU m hm,AfB m hm,AfY m hm,rfl,⟨Qx m hm _ 0 rfl⟩⟩
 have:=Ch m.kind 1 6
 rwa[show Av m.kind 1 6=true by rw[hm.kind];rfl] at this
theorem WS:PP.underlying 3=some (.int .i64):=by kernel_rfl
theorem Qi:PP.underlying 112=some (.int .u64):=by kernel_rfl
theorem J8:PP.underlying 27=some (.slice 3):=by kernel_rfl
theorem FB:BP PP 27=some (3,1,8,some (.int .i64 0)):=by kernel_rfl
noncomputable abbrev AjU:Func:= Tryz.f350
noncomputable abbrev Alw:=(IntKind.bits u64)
noncomputable abbrev Aop:=fun (a₀:Nat)=>(BitVec.ofInt Alw (a₀:Int)&&&BitVec.ofInt Alw 4294967295)
noncomputable abbrev Aq3:=(BitVec.ofInt Alw 1&&&BitVec.ofInt Alw 4294967295)
theorem Aif(n:Nat)(h:n<=12):Aa PP 350 [.v (.int .u64 1),.v (.int .u64 (n:Int))] σ0 (.tup [.v (.int .u64 0),.v (.int .u64 (n:Int))]) σ0:=by
 refine sv AjU 51 [] .r (iz 0<=32/\iz 0<=32/\iz 0<=32/\iz 0<=32/\iz 0<=32/\Azn [D.v (V.int u64 (wrap u64 (wrap u64 (wrap u64 (Int.fdiv 1 (2^min (Int.toNat 32) Alw)*Int.fdiv (n:Int) (2^min (Int.toNat 32) Alw))+Int.fdiv (wrap u64 (wrap u64 (Int.fdiv 1 (2^min (Int.toNat 32) Alw)*wrap u64 (↑(BitVec.toNat (Aop n)):Int))+Int.fdiv (wrap u64 (wrap u64 (↑(BitVec.toNat Aq3):Int)*wrap u64 (↑(BitVec.toNat (Aop n)):Int))) (2^min (Int.toNat 32) Alw))) (2^min (Int.toNat 32) Alw))+Int.fdiv (wrap u64 (wrap u64 (↑(BitVec.toNat (BitVec.ofInt Alw (wrap u64 (wrap u64 (Int.fdiv 1 (2^min (Int.toNat 32) Alw)*wrap u64 (↑(BitVec.toNat (Aop n)):Int))+Int.fdiv (wrap u64 (wrap u64 (↑(BitVec.toNat Aq3):Int)*wrap u64 (↑(BitVec.toNat (Aop n)):Int))) (2^min (Int.toNat 32) Alw)))&&&BitVec.ofInt Alw 4294967295)):Int)+wrap u64 (wrap u64 (↑(BitVec.toNat Aq3):Int)*Int.fdiv (n:Int) (2^min (Int.toNat 32) Alw)))) (2^min (Int.toNat 32) Alw)))),D.v (V.int u64 (wrap u64 (1*(n:Int))))]=Azn [D.v (V.int u64 0),D.v (V.int u64 (n:Int))]) ?_
 rcases(show n=0∨n=1∨n=2∨n=3∨n=4∨n=5∨n=6∨n=7∨n=8∨n=9∨n=10∨n=11∨n=12 by omega) with rfl|rfl|rfl|rfl|rfl|rfl|rfl|rfl|rfl|rfl|rfl|rfl|rfl<;>exact⟨by decide,by decide,by decide,by decide,by decide,by kernel_rfl⟩
noncomputable abbrev AjS:Func:= Tryz.f343
theorem R4(n:Nat)(h:n<=12):Aa PP 343 [.v (.int .u64 1),.v (.int .u64 (n:Int))] σ0 (.tup [.v (.int .u64 0),.v (.int .u64 (n:Int))]) σ0:=by
 refine sv AjS 30 [] (.c (.tup [.v (.int .u64 0),.v (.int .u64 (n:Int))]) .r) (F0 350 [D.v (V.int u64 1),D.v (V.int u64 (n:Int))] (Azn [D.v (V.int u64 0),D.v (V.int u64 (n:Int))])/\Q (Azn [D.v (V.int u64 0),D.v (V.int u64 (n:Int))])) ?_
 exact⟨Aif n h,rfl⟩
def DD(x:Int)(n k:Nat):List D:=replicate k (di x)++replicate (n-k) (di 0)
section
variable {P : Program} {o : Oper} {σ : St}
theorem O4{t:TypeId}{x lo:Operand}(ho:o.op=.slice t x (some lo) none none){e:TypeId}{by':Nat}{z:Option Value}(hs:BP P t=some (e,1,by',z)){q len k:Nat}(hk:k<len):
  Ah P o [.arr q 0 len,di ↑k] σ (.arr q k (len-k)) σ:=by
 have:=Lf (P:=P) (o:=o) (σ:=σ) ho hs (q:=q) (off:=0) (len:=len) (some (.i64,(k:Int))) none rfl rfl (l':=k) (h':=len) (by simp[BD];omega) hk
 rw[Io] at this;exact this
theorem SW{t:TypeId}{x hi:Operand}(ho:o.op=.slice t x none (some hi) none){e:TypeId}{by':Nat}{z:Option Value}(hs:BP P t=some (e,1,by',z)){q len k:Nat}(hk:k<len):
  Ah P o [.arr q 0 len,di ↑k] σ (.arr q 0 k) σ:=by
 have:=Lf (P:=P) (o:=o) (σ:=σ) ho hs (q:=q) (off:=0) (len:=len) none (some (.i64,(k:Int))) rfl rfl (l':=0) (h':=k) (by simp[BD];omega) (by omega)
 rw[Io,Nat.sub_zero] at this;exact this
theorem SY{x y:Operand}{t:TypeId}(ho:o.op=.call { callee:=.builtin .copy,args:= #[x,y],argTypes:= #[t,t]}){e:TypeId}{by':Nat}{z:Option Value}(hs:BP P t=some (e,1,by',z)){x:Int}{n k:Nat}(hk:k<n):
  Ah P o [.arr 0 k (n-k),.arr 0 0 k] ⟨[some (DD x n k)],[]⟩ (di ↑(min k (n-k))) ⟨[some (DD x n (k+min k (n-k)))],[]⟩:=by
 have hl:(DD x n k).length=n:=by simp[DD];omega
 have h1:min k (n-k)<=n-k:=Nat.min_le_right _ _
 have h2:min k (n-k)<=k:=Nat.min_le_left _ _
 have:=Aah (P:=P) (o:=o) (σ:=⟨[some (DD x n k)],[]⟩) ho hs (q:=0) (off:=k) (len:=n-k) (off2:=0) (len2:=k) (k:=min k (n-k)) (cs:=DD x n k) rfl rfl (by omega) (by omega)
 have e:(DD x n k).take k++((DD x n k).drop 0).take (min k (n-k))++(DD x n k).drop (k+min k (n-k))=DD x n (k+min k (n-k)):=by
  generalize min k (n-k)=j at h1 h2⊢
  simp only[DD,IW]
  rw[IV (by simp),List.take_replicate,Nat.min_self,IV (by simpa using h2),List.take_replicate,Nat.min_eq_left h2,List.drop_append,List.drop_replicate,List.drop_replicate,List.length_replicate]
  rw[show k- (k+j)=0 by omega,List.replicate_zero,nil_append,List.replicate_append_replicate,show k+j-k=j by omega,show n-k-j=n- (k+j) by omega]
 rw[e] at this
 exact this
end
theorem VQ(x:Int)(n:Nat):D.pls (replicate n (di x))=true:=by
 induction n with
 |zero=>rfl
 |succ n ih=>rw[Ix];simp only[D.pls,ih,Bool.and_true];rfl
theorem Acg{n:Nat}(h:n<=1000):u64.wrap (n:Int)=n:=by
 have:∀m:Nat,m<=1000->u64.wrap (m:Int)=m:=by decide+kernel
 exact this n h
theorem VA{x:Int}{n:Nat}(_:1<=n):take 0 (replicate n (di 0))++map D.v (take 1 [vi x])++List.drop 1 (replicate n (di 0))=DD x n 1:=by
 simp[DD]
noncomputable def AiS:Code:= Tryz.f334.body.getD .skip
set_option maxRecDepth 20000 in
theorem ZE(x:Int)(n:Nat)(hn:n<=100)(m:Nat):∀(k:Nat),n-k=m->1<=k->k<=n->Run PP (fun env σ1=>Aw PP Tryz.f334 env σ1 (.arr 0 0 n) ⟨[some (replicate n (di x))],[]⟩) [.lp (sub AiS [1,1,1,1,1,1,0,0,0]),.blk 0,.code (sub AiS [1,1,1,1,1,1,1])] (.undef:: .undef:: .undef:: .undef:: .undef:: .undef:: .undef::(.arr 0 0 n)::(di ↑k):: .undef:: .undef:: .undef:: .undef:: .undef:: .undef:: .undef:: .undef:: .undef:: .undef:: .undef:: .undef:: .undef:: .undef:: .undef:: .undef:: .undef:: .undef:: .undef:: .undef:: .undef:: .undef:: .undef:: .undef:: .undef:: .undef:: .undef:: .undef:: .undef:: .undef:: .undef:: .undef:: .undef:: .undef:: .undef:: .undef:: .undef:: .undef:: .undef::[]) ⟨[some (DD x n k)],[]⟩:=by
 induction m using Nat.strongRecOn with
 |_ m ih=>
  intro k hm hk1 hkn
  refine Acr ?_
  refine E1 [1,1,1,1,1,1,0,0,0,0] [1,1,1,1,1,1,0,0,0,1] rfl ?_
  refine E1 [1,1,1,1,1,1,0,0,0,0,0] [1,1,1,1,1,1,0,0,0,0,1] rfl ?_
  refine Dn rfl ?_
  refine DG 8 34 rfl rfl rfl (.inl rfl) rfl (by dsimp only[List.set]) ?_
  refine DG 7 35 rfl rfl rfl (.inl rfl) rfl (by dsimp only[List.set]) ?_
  first|(refine Dp (some 36) rfl rfl rfl rfl (Hy rfl J8) (by dsimp only[AN,List.set]) ?_)|(refine Dp (some 36) rfl rfl rfl rfl (PW (Hy rfl J8)) (by dsimp only[AN,List.set]) ?_)|(refine Dp (some 36) rfl rfl rfl rfl (MQ rfl J8) (by dsimp only[AN,List.set]) ?_)
  refine Dp (some 37) rfl rfl rfl rfl (Hz rfl rfl) (by dsimp only[AN,List.set]) ?_
  refine Hj rfl ?_
  refine Qz [1,1,1,1,1,1,0,0,0,0,1,0] [1,1,1,1,1,1,0,0,0,0,1,1] rfl rfl (fun hc1=>?_) (fun hc1=>?_)
  ·skip
   have hlt:k<n:=by simp at hc1;omega
   refine Qy rfl ?_
   refine Sj [1,1,1,1,1,1,0,0,0,1,0] 1 rfl ?_
   refine Aev mixed rfl [⟨[some (DD x n k)],[]⟩,⟨[some (DD x n (k+min k (n-k)))],[]⟩] rfl ?_
   refine Tw 8 38 rfl rfl rfl (.inl rfl) rfl (by dsimp only[List.set]) ?_
   refine Tw 7 39 rfl rfl rfl (.inl rfl) rfl (by dsimp only[List.set]) ?_
   refine Tw 8 40 rfl rfl rfl (.inl rfl) rfl (by dsimp only[List.set]) ?_
   refine N3 (some 41) rfl rfl rfl rfl (fun s hs=>O4 rfl FB hlt) (by dsimp only[AN,List.set]) ?_
   refine Tw 7 42 rfl rfl rfl (.inl rfl) rfl (by dsimp only[List.set]) ?_
   refine Tw 8 43 rfl rfl rfl (.inl rfl) rfl (by dsimp only[List.set]) ?_
   refine N3 (some 44) rfl rfl rfl rfl (fun s hs=>SW rfl FB hlt) (by dsimp only[AN,List.set]) ?_
   refine Aha (some 45) rfl rfl rfl rfl rfl rfl (SY rfl FB hlt) (by dsimp only[AN,List.set]) ?_
   refine N3 (some 46) rfl rfl rfl rfl (fun s hs=>Hz rfl rfl) (by dsimp only[AN,List.set]) ?_
   refine Tw 46 8 rfl rfl rfl (.inr rfl) rfl (by dsimp only[List.set]) ?_
   refine AgZ rfl ⟨by decide+kernel,_,rfl,?_⟩
   refine Vy ?_
   rw[Al (by omega) (by omega),show(k:Int)+((min k (n-k):Nat):Int)=((k+min k (n-k):Nat):Int) by omega]
   exact Acp (.drop (.drop (.drop (.drop (.drop (.drop (.drop (.keep (.keep (.drop (.drop (.drop (.drop (.drop (.drop (.drop (.drop (.drop (.drop (.drop (.drop (.drop (.drop (.drop (.drop (.drop (.drop (.drop (.drop (.drop (.drop (.drop (.drop (.drop (.drop (.drop (.drop (.drop (.drop (.drop (.drop (.drop (.drop (.drop (.drop (.drop (.drop (.drop .nil)))))))))))))))))))))))))))))))))))))))))))))))) (ih _ (by omega) (k+min k (n-k)) rfl (by omega) (by omega))
  ·skip
   have hge:k=n:=by simp at hc1;omega
   subst hge
   rw[show DD x k k=replicate k (di x) by simp[DD]]
   refine Aeu rfl rfl ?_
   refine E1 [1,1,1,1,1,1,1,0] [1,1,1,1,1,1,1,1] rfl ?_
   refine Dn rfl ?_
   refine DG 7 47 rfl rfl rfl (.inl rfl) rfl (by dsimp only[List.set]) ?_
   refine DG 47 4 rfl rfl rfl (.inr rfl) rfl (by dsimp only[List.set]) ?_
   refine Hj rfl ?_
   refine Ahs rfl ?_
   exact Adt (.tmp rfl .nil) 1 rfl (by simp) (fun i cs h=>by cases i with|zero=>(simp only[I5,Ia] at h;subst h;exact VQ _ _)|succ i=>simp at h) (List.Sublist.refl _) (by decide)
set_option maxRecDepth 20000 in
theorem ZD(x:Int)(n:Nat)(h0:1<=n)(h6:n<=12):Aa PP 334 [dl [vi x],di ↑n] σ0 (.arr 0 0 n) ⟨[some (replicate n (di x))],[]⟩:=by
 refine Adm AiS Tryz.func334 rfl (by kernel_rfl) (by first|decide|simp) _ (by dsimp only[Tryz.f334,length,Nat.reduceAdd,Nat.reduceSub,replicate,cons_append,nil_append]) ?_
 refine E1 [0] [1] rfl ?_
 refine Dn rfl ?_
 refine AiX 4 rfl rfl rfl (.inr rfl) (by dsimp only[Ml]) (by dsimp only[List.set]) ?_
 refine Hj rfl ?_
 refine E1 [1,0] [1,1] rfl ?_
 refine E1 [1,0,0] [1,0,1] rfl ?_
 refine Dn rfl ?_
 refine DG 1 9 rfl rfl rfl (.inl rfl) rfl (by dsimp only[List.set]) ?_
 refine Dp (some 10) rfl rfl rfl rfl (Hz rfl rfl) (by dsimp only[AN,List.set]) ?_
 refine Hj rfl ?_
 refine Qz [1,0,1,0] [1,0,1,1] rfl rfl (fun hc1=>?_) (fun hc1=>?_)
 ·skip
  exact absurd hc1 (by first|(simp;done)|(simp;omega))
 ·skip
  refine Qy rfl ?_
  refine E1 [1,1,0] [1,1,1] rfl ?_
  refine Dn rfl ?_
  refine DG 0 13 rfl rfl rfl (.inl rfl) rfl (by dsimp only[List.set]) ?_
  first|(refine Dp (some 14) rfl rfl rfl rfl (Hy rfl J8) (by dsimp only[AN,List.set]) ?_)|(refine Dp (some 14) rfl rfl rfl rfl (PW (Hy rfl J8)) (by dsimp only[AN,List.set]) ?_)|(refine Dp (some 14) rfl rfl rfl rfl (MQ rfl J8) (by dsimp only[AN,List.set]) ?_)
  refine Dp (some 15) rfl rfl rfl rfl (Kz rfl WS Qi) (by dsimp only[AN,List.set]) ?_
  rw[show u64.wrap ((([vi x]).length:Nat):Int)=1 from Acg (n:=1) (by decide)]
  refine DG 1 16 rfl rfl rfl (.inl rfl) rfl (by dsimp only[List.set]) ?_
  refine Dp (some 17) rfl rfl rfl rfl (Kz rfl WS Qi) (by dsimp only[AN,List.set]) ?_
  rw[Acg (by omega)]
  refine Dp (some 18) rfl rfl rfl rfl (MS rfl rfl rfl rfl (R4 n h6)) (by dsimp only[AN,List.set]) ?_
  refine DG 18 12 rfl rfl rfl (.inl rfl) rfl (by dsimp only[List.set]) ?_
  refine Dp (some 19) rfl rfl rfl rfl (J4 rfl rfl) (by dsimp only[AN,List.set]) ?_
  refine Dp (some 20) rfl rfl rfl rfl (J4 rfl rfl) (by dsimp only[AN,List.set]) ?_
  refine DG 19 5 rfl rfl rfl (.inr rfl) rfl (by dsimp only[List.set]) ?_
  refine DG 20 6 rfl rfl rfl (.inr rfl) rfl (by dsimp only[List.set]) ?_
  refine Hj rfl ?_
  refine E1 [1,1,1,0] [1,1,1,1] rfl ?_
  refine E1 [1,1,1,0,0] [1,1,1,0,1] rfl ?_
  refine Dn rfl ?_
  refine DG 5 21 rfl rfl rfl (.inl rfl) rfl (by dsimp only[List.set]) ?_
  refine Dp (some 22) rfl rfl rfl rfl (Hz rfl rfl) (by dsimp only[AN,List.set]) ?_
  refine DG 22 23 rfl rfl rfl (.inl rfl) rfl (by dsimp only[List.set]) ?_
  refine AbR 23 rfl (fun hb2 env' he=>?_) (fun hb2 env' he=>?_)
  ·dsimp only[List.set] at he;subst he
   exact absurd hb2 (by simp)
  ·dsimp only[List.set] at he;subst he
   refine DG 6 24 rfl rfl rfl (.inl rfl) rfl (by dsimp only[List.set]) ?_
   refine Dp (some 25) rfl rfl rfl rfl (Hz rfl rfl) (by dsimp only[AN,List.set]) ?_
   refine AiW false 23 25 26 rfl rfl rfl rfl rfl rfl rfl (by dsimp only[List.set]) ?_
   refine Hj rfl ?_
   refine Qz [1,1,1,0,1,0] [1,1,1,0,1,1] rfl rfl (fun hc3=>?_) (fun hc3=>?_)
   ·skip
    exact absurd hc3 (by first|(simp;done)|(simp;omega))
   ·skip
    refine Qy rfl ?_
    refine E1 [1,1,1,1,0] [1,1,1,1,1] rfl ?_
    refine Dn rfl ?_
    refine DG 6 28 rfl rfl rfl (.inl rfl) rfl (by dsimp only[List.set]) ?_
    refine Dp (some 29) rfl rfl rfl rfl (Kz rfl Qi WS) (by dsimp only[AN,List.set]) ?_
    rw[Al (by omega) (by omega)]
    refine AcL (some 30) rfl rfl rfl rfl (Ad1 rfl FB rfl (by omega) (by omega) (by omega)) (by dsimp only[AN,List.set]) (by dsimp only[List.set,List.append,cons_append,nil_append,BQ,map,Ft,length,Nat.reduceAdd,if_true, ↓reduceIte];first|done|rfl) ?_
    rw[IB]
    refine DG 30 7 rfl rfl rfl (.inr rfl) rfl (by dsimp only[List.set]) ?_
    refine Hj rfl ?_
    refine E1 [1,1,1,1,1,0] [1,1,1,1,1,1] rfl ?_
    refine Dn rfl ?_
    refine DG 7 31 rfl rfl rfl (.inl rfl) rfl (by dsimp only[List.set]) ?_
    refine DG 0 32 rfl rfl rfl (.inl rfl) rfl (by dsimp only[List.set]) ?_
    refine AcL (some 33) rfl rfl rfl rfl (Aag (k:=1) rfl FB rfl (by simp[V.size,V.isAgg]) (by show(1:Nat)=min 1 n;omega) (by decide) (by simp;omega)) (by dsimp only[AN,List.set]) (by dsimp only[List.set,List.append,cons_append,nil_append,BQ,map,Ft,length,Nat.reduceAdd,if_true, ↓reduceIte];first|done|rfl) ?_
    refine DG 33 8 rfl rfl rfl (.inr rfl) rfl (by dsimp only[List.set]) ?_
    refine Hj rfl ?_
    rw[VA h0]
    refine E1 [1,1,1,1,1,1,0] [1,1,1,1,1,1,1] rfl ?_
    refine Sj [1,1,1,1,1,1,0,0] 0 rfl ?_
    refine Aet [1,1,1,1,1,1,0,0,0] rfl ?_
    try simp only[H3,HD]
    exact Acp (.drop (.drop (.drop (.drop (.drop (.drop (.drop (.keep (.keep (.drop (.drop (.drop (.drop (.drop (.drop (.drop (.drop (.drop (.drop (.drop (.drop (.drop (.drop (.drop (.drop (.drop (.drop (.drop (.drop (.drop (.drop (.drop (.drop (.drop (.drop (.drop (.drop (.drop (.drop (.drop (.drop (.drop (.drop (.drop (.drop (.drop (.drop (.drop .nil)))))))))))))))))))))))))))))))))))))))))))))))) (ZE x n (by omega) _ 1 rfl (by omega) h0)
abbrev vBl(l:List Bool):V:=.list (l.map .bool)
abbrev cBl(l:List Bool):List D:=l.map db
abbrev EV(T:List (List Bool)):D:=dl (T.map vBl)
abbrev stM(O:List Int)(S:List Bool):St:=⟨[some (cIs O),some (cBl S)],[]⟩
structure LM(T:List (List Bool))(c:Nat):Prop where
 rows:T.length<=12
 cols:c<=12
 eq:∀r∈T,r.length=c
structure NJ(T:List (List Bool))(c:Nat)(O:List Int):Prop where
 len:O.length=c
 rng:∀x∈O,x= -1∨(0<=x/\x<T.length)
abbrev GY(S:List Bool):Nat:=S.countP (!·)
noncomputable abbrev Ac6:Func:= Tryz.f335
noncomputable def Y0:Code:=Ac6.body.getD .skip
def Aj0(T:List (List Bool))(c:Nat)(O:List Int)(S:List Bool)(row:Nat):Prop:=
 ∃(O':List Int) (S':List Bool) (b:Bool),NJ T c O'/\S'.length=c/\GY S'<=GY S/\Aa PP 335 [EV T,.arr 0 0 c,.arr 1 0 c,di row] (stM O S) (db b) (stM O' S')
theorem Hx:∀S:List Bool,D.pls (cBl S)=true
 |[]=>rfl
 |b::S=>by show(_&&D.pls (cBl S))=true;rw[Hx S];rfl
theorem okM(n:Nat)(O:List Int)(S:List Bool):okH n [] [some (cIs O),some (cBl S)]=true:=by
 simp[okH,CU,AO (Hx S)]
theorem Wz(S:List Bool):(cBl S).all D.one=true:=by simp[D.one];exact⟨fun _=>rfl,fun _=>rfl⟩
theorem Wy(S:List Int):(cIs S).all D.one=true:=by simp[D.one,V.isAgg]
theorem RI:∀(S:List Bool) (k:Nat),S[k]?=some false->GY (S.set k true)<GY S
 |[],k,h=>by simp at h
 |b::S,0,h=>by
  simp only[I5,Ia] at h;subst h
  simp[GY]
 |b::S,k+1,h=>by
  have:=RI S k (by simpa using h)
  simp only[GY,IP,List.countP_cons] at this⊢;omega
theorem NJ.set{T:List (List Bool)}{c:Nat}{O:List Int}(h:NJ T c O){k row:Nat}(hr:row<T.length):NJ T c (O.set k row):=⟨by rw[List.length_set,h.len],fun x hx=>by
 rcases I8 hx with hx|rfl
 ·exact h.rng x hx
 ·exact .inr ⟨by omega,by omega⟩⟩
theorem WP{l:List Bool}{k:Nat}{b:Bool}(h:l[k]?=some b):(l.map V.bool)[Int.toNat (k:Int)]?=some (.bool b):=by rw[IB,Ik,h];rfl
theorem RG{l:List Bool}{k:Nat}{b:Bool}(h:l[k]?=some b):(cBl l)[0+Int.toNat (k:Int)*1]?=some (db b):=by rw[show 0+Int.toNat (k:Int)*1=k by omega,Ik,h];rfl
theorem OK{l:List Int}{k:Nat}{b:Int}(h:l[k]?=some b):(cIs l)[0+Int.toNat (k:Int)*1]?=some (di b):=by rw[show 0+Int.toNat (k:Int)*1=k by omega,Ik,h];rfl
theorem Vt(l:List Bool)(k:Nat)(b:Bool):(cBl l).set (0+Int.toNat (k:Int)*1) (db b)=cBl (l.set k b):=by rw[show 0+Int.toNat (k:Int)*1=k by omega];exact List.map_set.symm
theorem Aco(l:List Int)(k:Nat)(b:Int):(cIs l).set (0+Int.toNat (k:Int)*1) (di b)=cIs (l.set k b):=by rw[show 0+Int.toNat (k:Int)*1=k by omega];exact List.map_set.symm
noncomputable abbrev Am2:=fun a₀ (b₀:Nat) (c₀:Nat) d₀ (e₀:Nat)=>(mkE 52 [(0,D.v (Azf (map vBl a₀))),(1,Azi 0 0 b₀),(2,Azi 1 0 b₀),(3,di (c₀:Int)),(14,D.v (vBl d₀)),(15,di (b₀:Int)),(16,di (↑(e₀+1):Int))])
noncomputable abbrev Aof:=fun a₀=>(Azf (map vBl a₀))
noncomputable abbrev Ao8:=(Azl 335 [] [])
noncomputable abbrev Apj:=fun a₀ b₀=>[some (cIs a₀),some (cBl b₀)]
noncomputable abbrev Ap6:=[kl Y0 [1,0,1,0,0],Aza 0,kc Y0 [1,1]]
noncomputable abbrev Arh:=fun a₀=>[ke 0,ke 1,ke 2,ke 3,ke 14,ke 15,ch 16 (di (a₀+1:Nat))]
noncomputable abbrev Ark:=fun a₀=>(map Azk a₀)
theorem Zz{T:List (List Bool)}{c:Nat}(hT:LM T c){N:Nat}(ihN:∀(O:List Int) (S:List Bool) (row:Nat),GY S<N->NJ T c O->S.length=c->row<T.length->Aj0 T c O S row){r:List Bool}(hr:r.length=c){row:Nat}(hrow:row<T.length)(m:Nat):∀(k:Nat) (O:List Int) (S:List Bool),c-k=m->k<=c->GY S<=N->NJ T c O->S.length=c->
  ∃(O':List Int) (S':List Bool) (b:Bool),NJ T c O'/\S'.length=c/\GY S'<=GY S/\Rn PP Ac6 2 (db b) (stM O' S') ([.lp (sub Y0 [1,0,1,0,0]),.blk 0,.code (sub Y0 [1,1])]++[]) (mkE 52 [(0,EV T),(1,.arr 0 0 c),(2,.arr 1 0 c),(3,di row),(14,.v (vBl r)),(15,di c),(16,di k)]) (stM O S):=by
 induction m with
 |zero=>
  intro k O S hm hk hN hO hS
  refine⟨O,S,false,hO,hS,HB _,?_⟩
  refine lv 52 [] (.f<|.ro) (decide ((k:Int)<(c:Int))=false/\okH 2 [] (Apj O S)=true/\Q (Apj O S)/\Q (db false)) ?_
  exact⟨H8 (by omega),okM _ _ _,rfl,rfl⟩
 |succ m ih=>
  intro k O S hm hk hN hO hS
  have hc:=hT.cols
  have hOl:=hO.len
  obtain⟨b,hb⟩:∃b,r[k]?=some b:=⟨_,H4 (by omega)⟩
  obtain⟨s,hs⟩:∃b,S[k]?=some b:=⟨_,H4 (by omega)⟩
  obtain⟨o,ho⟩:∃b,O[k]?=some b:=⟨_,H4 (by omega)⟩
  have hlt:decide ((k:Int)<c)=true:=H6 (by omega)
  cases b with
  |false=>
   obtain⟨O',S',b',h1,h2,h3,h4⟩:=ih (k+1) O S (by omega) (by omega) hN hO hS
   refine⟨O',S',b',h1,h2,h3,?_⟩
   refine lv 52 [] (.t<|.x (.bool false)<|.k<|.lo (Arh k) (stM O S)) (decide ((k:Int)<(c:Int))=true/\0<=(k:Int)/\(Ark r)[Int.toNat (k:Int)]?=some (Azk false)/\di (wrap i64 ((k:Int)+1))=di (↑(k+1):Int)/\okH 2 [] (Apj O S)=true/\Q (Apj O S)/\I0 Ac6 2 (db b') (stM O' S') Ap6 (Am2 T c row r k) (stM O S)) ?_
   exact⟨hlt,by omega,WP hb,Ad (by omega),okM _ _ _,rfl,⟨h4⟩⟩
  |true=>
   cases s with
   |true=>
    obtain⟨O',S',b',h1,h2,h3,h4⟩:=ih (k+1) O S (by omega) (by omega) hN hO hS
    refine⟨O',S',b',h1,h2,h3,?_⟩
    refine lv 52 [] (.t<|.x (.bool true)<|.k<|.m (db true)<|.k<|.lo (Arh k) (stM O S)) (decide ((k:Int)<(c:Int))=true/\0<=(k:Int)/\(Ark r)[Int.toNat (k:Int)]?=some (Azk true)/\0<=(k:Int)/\(k:Int)<(c:Int)/\(cBl S)[0+Int.toNat (k:Int)*1]?=some (db true)/\di (wrap i64 ((k:Int)+1))=di (↑(k+1):Int)/\okH 2 [] (Apj O S)=true/\Q (Apj O S)/\I0 Ac6 2 (db b') (stM O' S') Ap6 (Am2 T c row r k) (stM O S)) ?_
    exact⟨hlt,by omega,WP hb,by omega,by omega,RG hs,Ad (by omega),okM _ _ _,rfl,⟨h4⟩⟩
   |false=>
    have hfr:=RI S k hs
    have hSl:(S.set k true).length=c:=by rw[List.length_set,hS]
    have hbl:0+Int.toNat (k:Int)*1<(cBl S).length:=by rw[H3];omega
    have hil:0+Int.toNat (k:Int)*1<(cIs O).length:=by rw[H3];omega
    by_cases h1:o= -1
    ·subst h1
     refine⟨O.set k row,S.set k true,true,hO.set hrow,hSl,by omega,?_⟩
     refine lv 52 [] (.t<|.x (.bool true)<|.k<|.m (db false)<|.k<|.w<|.m (di (-1))<|.k<|.k<|.w<|.ro) (decide ((k:Int)<(c:Int))=true/\0<=(k:Int)/\(Ark r)[Int.toNat (k:Int)]?=some (Azk true)/\0<=(k:Int)/\(k:Int)<(c:Int)/\(cBl S)[0+Int.toNat (k:Int)*1]?=some (db false)/\0<=(k:Int)/\(k:Int)<(c:Int)/\0+Int.toNat (k:Int)*1<length (cBl S)/\0<=(k:Int)/\(k:Int)<(c:Int)/\(cIs O)[0+Int.toNat (k:Int)*1]?=some (di (-1))/\0<=(k:Int)/\(k:Int)<(c:Int)/\0+Int.toNat (k:Int)*1<length (cIs O)/\okH 2 [] [some (List.set (cIs O) (0+Int.toNat (k:Int)*1) (di (row:Int))),some (List.set (cBl S) (0+Int.toNat (k:Int)*1) (db true))]=true/\[some (List.set (cIs O) (0+Int.toNat (k:Int)*1) (di (row:Int))),some (List.set (cBl S) (0+Int.toNat (k:Int)*1) (db true))]=[some (cIs (List.set O k (row:Int))),some (cBl (List.set S k true))]/\Q (db true)) ?_
     rw[Vt,Aco]
     exact⟨hlt,by omega,WP hb,by omega,by omega,RG hs,by omega,by omega,hbl,by omega,by omega,OK ho,by omega,by omega,hil,okM _ _ _,rfl,rfl⟩
    ·have ho':=(hO.rng o (HA ho)).resolve_left h1
     obtain⟨O1,S1,b1,g1,g2,g3,g4⟩:=ihN O (S.set k true) o.toNat (by omega) hO hSl (by omega)
     have hto:((o.toNat:Nat):Int)=o:=by omega
     rw[hto] at g4
     have hcall:∀(o':Oper) (cl:Call) (fo:Operand),o'.op=.call cl->cl.callee=.value fo->Ah PP o' [dfn 335,EV T,.arr 0 0 c,.arr 1 0 c,di o] (stM O (S.set k true)) (db b1) (stM O1 S1):=fun o' cl fo hop hcl=>
      Ci (H:=[cIs O,cBl (S.set k true)]) (H':=(stM O1 S1).H) hop hcl (fs:=[]) (cs:=[]) (ds:=[EV T,.arr 0 0 c,.arr 1 0 c,di o]) rfl g4 rfl (fun cs hm=>by
       simp only[Ij,IU,or_false] at hm
       rcases hm with rfl|rfl
       ·exact⟨CU _ _ _,Wy _⟩
       ·exact⟨AO (Hx _),Wz _⟩) rfl (okM _ _ _) (HB _)
     have hne:(o== -1)=false:=Ii.2 h1
     have hO1:=g1.len
     cases b1 with
     |true=>
      refine⟨O1.set k row,S1,true,g1.set hrow,g2,by omega,?_⟩
      have hil1:0+Int.toNat (k:Int)*1<(cIs O1).length:=by rw[H3];omega
      refine lv 52 [] (.t<|.x (.bool true)<|.k<|.m (db false)<|.k<|.w<|.m (di o)<|.f<|.m (di o)<|.h (.oc (db true) (stM O1 S1))<|.k<|.w<|.ro) (decide ((k:Int)<(c:Int))=true/\0<=(k:Int)/\(Ark r)[Int.toNat (k:Int)]?=some (Azk true)/\0<=(k:Int)/\(k:Int)<(c:Int)/\(cBl S)[0+Int.toNat (k:Int)*1]?=some (db false)/\0<=(k:Int)/\(k:Int)<(c:Int)/\0+Int.toNat (k:Int)*1<length (cBl S)/\0<=(k:Int)/\(k:Int)<(c:Int)/\(cIs O)[0+Int.toNat (k:Int)*1]?=some (di o)/\(o== -1)=false/\0<=(k:Int)/\(k:Int)<(c:Int)/\(cIs O)[0+Int.toNat (k:Int)*1]?=some (di o)/\(N0 [D.v Ao8,D.v (Aof T),Azi 0 0 c,Azi 1 0 c,di o] (Azd [some (cIs O),some (List.set (cBl S) (0+Int.toNat (k:Int)*1) (db true))] []) (db true) (stM O1 S1))/\0<=(k:Int)/\(k:Int)<(c:Int)/\0+Int.toNat (k:Int)*1<length (cIs O1)/\okH 2 [] [some (List.set (cIs O1) (0+Int.toNat (k:Int)*1) (di (row:Int))),some (cBl S1)]=true/\[some (List.set (cIs O1) (0+Int.toNat (k:Int)*1) (di (row:Int))),some (cBl S1)]=[some (cIs (List.set O1 k (row:Int))),some (cBl S1)]/\Q (db true)) ?_
      rw[Vt,Aco]
      exact⟨hlt,by omega,WP hb,by omega,by omega,RG hs,by omega,by omega,hbl,by omega,by omega,OK ho,hne,by omega,by omega,OK ho,hcall,by omega,by omega,hil1,okM _ _ _,rfl,rfl⟩
     |false=>
      obtain⟨O',S',b',k1,k2,k3,k4⟩:=ih (k+1) O1 S1 (by omega) (by omega) (by omega) g1 g2
      refine⟨O',S',b',k1,k2,by omega,?_⟩
      refine lv 52 [] (.t<|.x (.bool true)<|.k<|.m (db false)<|.k<|.w<|.m (di o)<|.f<|.m (di o)<|.h (.oc (db false) (stM O1 S1))<|.k<|.lo (Arh k) (stM O1 S1)) (decide ((k:Int)<(c:Int))=true/\0<=(k:Int)/\(Ark r)[Int.toNat (k:Int)]?=some (Azk true)/\0<=(k:Int)/\(k:Int)<(c:Int)/\(cBl S)[0+Int.toNat (k:Int)*1]?=some (db false)/\0<=(k:Int)/\(k:Int)<(c:Int)/\0+Int.toNat (k:Int)*1<length (cBl S)/\0<=(k:Int)/\(k:Int)<(c:Int)/\(cIs O)[0+Int.toNat (k:Int)*1]?=some (di o)/\(o== -1)=false/\0<=(k:Int)/\(k:Int)<(c:Int)/\(cIs O)[0+Int.toNat (k:Int)*1]?=some (di o)/\(N0 [D.v Ao8,D.v (Aof T),Azi 0 0 c,Azi 1 0 c,di o] (Azd [some (cIs O),some (List.set (cBl S) (0+Int.toNat (k:Int)*1) (db true))] []) (db false) (stM O1 S1))/\di (wrap i64 ((k:Int)+1))=di (↑(k+1):Int)/\okH 2 [] [some (cIs O1),some (cBl S1)]=true/\Q [some (cIs O1),some (cBl S1)]/\I0 Ac6 2 (db b') (stM O' S') Ap6 (Am2 T c row r k) (stM O1 S1)) ?_
      rw[Vt]
      exact⟨hlt,by omega,WP hb,by omega,by omega,RG hs,by omega,by omega,hbl,by omega,by omega,OK ho,hne,by omega,by omega,OK ho,hcall,Ad (by omega),okM _ _ _,rfl,⟨k4⟩⟩
theorem Zy{T:List (List Bool)}{c:Nat}(hT:LM T c)(N:Nat):∀(O:List Int) (S:List Bool) (row:Nat),GY S<N->NJ T c O->S.length=c->row<T.length->Aj0 T c O S row:=by
 induction N with
 |zero=>intro O S row h;omega
 |succ N ih=>
  intro O S row hN hO hS hrow
  obtain⟨r,hr⟩:∃r,T[row]?=some r:=⟨_,H4 hrow⟩
  have hrl:=hT.eq r (HA hr)
  obtain⟨O',S',b,h1,h2,h3,h4⟩:=Zz hT ih hrl hrow _ 0 O S rfl (by omega) (by omega) hO hS
  refine⟨O',S',b,h1,h2,h3,?_⟩
  refine sv Ac6 52 [] (.x (vBl r)<|.lo [ke 0,ke 1,ke 2,ke 3,ch 14 (.v (vBl r)),ch 15 (di c),ch 16 (di (0:Nat))] (stM O S)) (0<=(row:Int)/\(map vBl T)[Int.toNat (row:Int)]?=some (vBl r)/\Q (D.v (vBl r))/\di (length (Ark r):Int)=di (c:Int)/\di 0=di (↑0:Int)/\okH 2 [] (Apj O S)=true/\Q (Apj O S)/\I0 Ac6 (length (stM O S).H) (db b) (stM O' S') Ap6 (mkE 52 [(0,EV T),(1,Azi 0 0 c),(2,Azi 1 0 c),(3,di (row:Int)),(14,D.v (vBl r)),(15,di (c:Int)),(16,di (↑0:Int))]) (stM O S)) ?_
  exact⟨by omega,Aq hr,rfl,by rw[H3,hrl],rfl,okM _ _ _,rfl,⟨h4⟩⟩
noncomputable abbrev AdT:Func:= Tryz.f336
theorem Ql:∀l:List Bool,Ab (l.map V.bool)=cBl l
 |[]=>rfl
 |b::l=>HR (db b:: ·) (Ql l)
theorem AdC(l:List Bool):okH 2 [] [none,some ([]++cBl l)]=true:=by simp[okH,AO (Hx l)]
theorem Ab6:Aa PP 336 [.v (vBl [])] σ0 (.v (vBl [])) σ0:=by
 refine MC (ds:=[]) (ds':=[]) fun a cap=>?_
 cases a with
 |none=>
  refine sv AdT 8 [] .r (D.v (Azf [])=D.v (vBl [])) ?_
  rfl
 |some a=>
  refine sv AdT 8 [] (.a 1<|.h (.q 3 2)<|.h (.un 6)<|.r) (Q nV/\Ar 0 1/\D.v (Azf [])=D.v (vBl [])) ?_
  refine⟨rfl,⟨by simp,by simp⟩,?_⟩
  rfl
theorem TC(l:List Bool)(hl:l.length<=1000000)(h:l≠ []):Aa PP 336 [.v (vBl l)] σ0 (.arr 1 0 l.length) ⟨[none,some (cBl l)],[]⟩:=by
 refine sv AdT 8 [] (.h .g<|.h (.q 3 3)<|.h (.ga 7) .ro) (map Azk l≠ []/\Q 0/\map Azk l≠ []/\(∀(y:V),y∈map Azk l->V.size y=1)/\Ar (0+length (Ark l)) 1/\okH 2 [] [none,some ([]++Ab (Ark l))]=true/\[none,some ([]++Ab (Ark l))]=[none,some (cBl l)]/\Azi 1 0 (0+length (Ark l))=Azi 1 0 l.length) ?_
 refine⟨by simpa using h,rfl,by simpa using h,fun y hy=>by obtain⟨b,_,rfl⟩:=Il.1 hy;rfl,⟨by simp;omega,by simp;omega⟩,?_,?_,?_⟩
 ·rw[Ql];exact AdC l
 ·simp[Ql]
 ·simp
theorem Vv{P:Program}{R:List D->St->Prop}{ks:List KI}{e:List D}(H T:List (Option (List D)))(hp:∀cs,some cs∈H->D.pls cs=true)(he:D.okNs H.length [] e=true)(h:A1 (CN 0) P R ks e ⟨H,[]⟩):A1 (CN 0) P R ks e ⟨H++T,[]⟩:=by
 refine Ee (σ:=⟨H++T,[]⟩) (e':=e) (H':=H) (m:=0) (fun _ _ h=>h.2) id (Ic _) (fun _ _=>rfl) (fun _ _ _ _ h=>h) (fun i cs hi=>?_) he ?_ h
 ·have hpl:=hp cs (HA hi)
  refine⟨?_,AO hpl⟩
  rw[AV hpl,id,HQ (H7.1 hi).1];exact hi
 ·exact(DX e).symm
noncomputable abbrev Yv:Func:= Tryz.f328
noncomputable def Se:Code:=Yv.body.getD .skip
noncomputable abbrev Anv:=fun a₀=>(replicate a₀ false)
noncomputable abbrev Ao1:=[kl Se Ak2,Aza 0,kc Se [1,1,1,1]]
noncomputable abbrev Aqb:=fun a₀ b₀=>(N0 [D.v (Azl 336 [] []),D.v (vBl (Anv a₀))] (Azd [some (cIs b₀)] []) (Azi 1 0 a₀) (stM b₀ (Anv a₀)))
theorem Aaz{T:List (List Bool)}{c:Nat}(hT:LM T c)(hc:c≠0)(m:Nat):∀(row:Nat) (n:Int) (O:List Int),T.length-row=m->row<=T.length->NJ T c O->(0<=n/\n<=row)->
  ∃n':Int,Rn PP Yv 0 (di n') σ0 ([.lp (sub Se [1,1,1,0,1,0,0]),.blk 0,.code (sub Se [1,1,1,1])]++[]) (mkE 30 [(0,EV T),(2,.v (vBl (replicate c false))),(7,.arr 0 0 c),(8,di n),(9,di row)]) ⟨[some (cIs O)],[]⟩:=by
 induction m with
 |zero=>
  intro row n O hm hr hO hn
  refine⟨n,?_⟩
  refine lv 30 [] (.f .r) (decide ((row:Int)<(length (map vBl T):Int))=false/\Q (di n)) ?_
  exact⟨H8 (by rw[H3];omega),rfl⟩
 |succ m ih=>
  intro row n O hm hr hO hn
  have hrw:=hT.rows
  have hcl:=hT.cols
  obtain⟨O1,S1,b,h1,h2,h3,h4⟩:=Zy hT _ O (replicate c false) row (Nat.lt_succ_self _) hO (by simp) (by omega)
  have hlt:decide ((row:Int)<((T.map vBl).length:Int))=true:=H6 (by rw[H3];omega)
  have hcl:∀(o':Oper) (cl:Call) (fo:Operand),o'.op=.call cl->cl.callee=.value fo->Ah PP o' [dfn 336,.v (vBl (replicate c false))] ⟨[some (cIs O)],[]⟩ (.arr 1 0 c) (stM O (replicate c false)):=fun o' cl fo hop hcl=>by
   have:=DY (σ:=⟨[some (cIs O)],[]⟩) (fs:=[]) (cs:=[]) (ds:=[.v (vBl (replicate c false))]) hop hcl rfl (Hc:=[none,some (cBl (replicate c false))]) (j:=1) rfl (Hx _) (TC (replicate c false) (by simp;omega) (by simpa using hc))
   rw[List.length_replicate] at this;exact this
  have hsc:∀(o':Oper) (cl:Call) (fo:Operand),o'.op=.call cl->cl.callee=.value fo->Ah PP o' [dfn 335,EV T,.arr 0 0 c,.arr 1 0 c,di row] (stM O (replicate c false)) (db b) (stM O1 S1):=fun o' cl fo hop hcl=>
   Ci (H:=[cIs O,cBl (replicate c false)]) (H':=(stM O1 S1).H) hop hcl (fs:=[]) (cs:=[]) (ds:=[EV T,.arr 0 0 c,.arr 1 0 c,di row]) rfl h4 rfl (fun cs hm=>by
    simp only[Ij,IU,or_false] at hm
    rcases hm with rfl|rfl
    ·exact⟨CU _ _ _,Wy _⟩
    ·exact⟨AO (Hx _),Wz _⟩) rfl (okM _ _ _) (HB _)
  have hpl:∀cs,some cs∈ [some (cIs O1)]->D.pls cs=true:=fun cs h=>by
   simp only[HK,Ia] at h;subst h;exact VR _
  cases b with
  |false=>
   obtain⟨n',h5⟩:=ih (row+1) n O1 (by omega) (by omega) h1 (by omega)
   refine⟨n',?_⟩
   refine lv 30 [] (.t<|.h (.oc (.arr 1 0 c) (stM O (Anv c)))<|.h (.oc (db false) (stM O1 S1))<|.k<|.lo [ke 0,ke 2,ke 7,ke 8,ch 9 (di (row+1:Nat))] (stM O1 S1)) (decide ((row:Int)<(length (map vBl T):Int))=true/\(Aqb c O)/\(N0 [D.v Ao8,D.v (Aof T),Azi 0 0 c,Azi 1 0 c,di (row:Int)] (stM O (Anv c)) (db false) (stM O1 S1))/\di (wrap i64 ((row:Int)+1))=di (↑(row+1):Int)/\okH 2 [] [some (cIs O1),some (cBl S1)]=true/\Q [some (cIs O1),some (cBl S1)]/\I0 Yv 0 (di n') σ0 Ao1 (mkE 30 [(0,D.v (Aof T)),(2,D.v (vBl (Anv c))),(7,Azi 0 0 c),(8,di n),(9,di (↑(row+1):Int))]) (stM O1 S1)) ?_
   exact⟨hlt,hcl,hsc,Ad (by omega),okM _ _ _,rfl,⟨Vv [some (cIs O1)] [some (cBl S1)] hpl (by simp[mkE,D.okNs,D.okN]) h5⟩⟩
  |true=>
   obtain⟨n',h5⟩:=ih (row+1) (n+1) O1 (by omega) (by omega) h1 (by omega)
   refine⟨n',?_⟩
   refine lv 30 [] (.t<|.h (.oc (.arr 1 0 c) (stM O (Anv c)))<|.h (.oc (db true) (stM O1 S1))<|.k<|.lo [ke 0,ke 2,ke 7,ch 8 (di (n+1)),ch 9 (di (row+1:Nat))] (stM O1 S1)) (decide ((row:Int)<(length (map vBl T):Int))=true/\(Aqb c O)/\(N0 [D.v Ao8,D.v (Aof T),Azi 0 0 c,Azi 1 0 c,di (row:Int)] (stM O (Anv c)) (db true) (stM O1 S1))/\di (wrap i64 (n+1))=di (n+1)/\di (wrap i64 ((row:Int)+1))=di (↑(row+1):Int)/\okH 2 [] [some (cIs O1),some (cBl S1)]=true/\Q [some (cIs O1),some (cBl S1)]/\I0 Yv 0 (di n') σ0 Ao1 (mkE 30 [(0,D.v (Aof T)),(2,D.v (vBl (Anv c))),(7,Azi 0 0 c),(8,di (n+1)),(9,di (↑(row+1):Int))]) (stM O1 S1)) ?_
   exact⟨hlt,hcl,hsc,HR di (Al (by omega) (by omega)),Ad (by omega),okM _ _ _,rfl,⟨Vv [some (cIs O1)] [some (cBl S1)] hpl (by simp[mkE,D.okNs,D.okN]) h5⟩⟩
theorem Aay{T:List (List Bool)}{c:Nat}(hT:LM T c)(hc:c≠0):∃n':Int,Aa PP 328 [EV T,di 0,.v (vBl (replicate c false))] σ0 (di n') σ0:=by
 obtain⟨n',h⟩:=Aaz hT hc _ 0 0 (replicate c (-1)) rfl (by omega) ⟨by simp,fun x hx=>.inl (List.mem_replicate.1 hx).2⟩ (by omega)
 have hcl:=hT.cols
 refine⟨n',?_⟩
 have e:replicate c (di (-1))=cIs (replicate c (-1)):=by simp
 have hrp:∀(o':Oper) (cl:Call) (fo:Operand),o'.op=.call cl->cl.callee=.value fo->Ah PP o' [dfn 334,dl [vi (-1)],di c] σ0 (.arr 0 0 c) ⟨[some (cIs (replicate c (-1)))],[]⟩:=fun o' cl fo hop hcl=>by
  have:=E8 (σ:=σ0) (f:=334) (fs:=[]) (cs:=[]) (ds:=[dl [vi (-1)],di c]) hop hcl rfl (VQ (-1) c) (ZD (-1) c (by omega) hT.cols)
  rw[e] at this;simpa using this
 refine sv Yv 30 [] (.h (.oc (.arr 0 0 c) ⟨[some (cIs (replicate c (-1)))],[]⟩)<|.lo [ke 0,ke 2,ke 7,ch 8 (di 0),ch 9 (di (0:Nat))] ⟨[some (cIs (replicate c (-1)))],[]⟩) ((N0 [D.v (Azl 334 [] []),D.v (Azf [vi (-1)]),di (length (map Azk (Anv c)):Int)] σ0 (Azi 0 0 c) (Azd [some (cIs (replicate c (-1)))] []))/\Q (di 0)/\di 0=di (↑0:Int)/\okH 1 [] [some (cIs (replicate c (-1)))]=true/\Q [some (cIs (replicate c (-1)))]/\I0 Yv σ0.H.length (di n') σ0 Ao1 (mkE 30 [(0,EV T),(2,D.v (vBl (Anv c))),(7,Azi 0 0 c),(8,di 0),(9,di (↑0:Int))]) (Azd [some (cIs (replicate c (-1)))] [])) ?_
 exact⟨by rw[H3,List.length_replicate];exact hrp,rfl,rfl,HM.2 ⟨CU _ _ _,rfl⟩,rfl,⟨h⟩⟩
theorem Zx{T:List (List Bool)}{row:Nat}(hr:T[row]?=some []):Aa PP 335 [EV T,.arr 0 0 0,.v (vBl []),di row] ⟨[some []],[]⟩ (db false) ⟨[some []],[]⟩:=by
 refine sv Ac6 52 [] (.x (vBl [])<|.n<|.k<|.ro) (0<=(row:Int)/\(map vBl T)[Int.toNat (row:Int)]?=some (vBl [])/\okH 1 [] [some []]=true/\([some []]:List (Option (List D)))=[some []]/\Q (db false)) ?_
 exact⟨by omega,Aq hr,rfl,rfl,rfl⟩
theorem Wq{P:Program}{o:Oper}{σ:St}{x y:Operand}{t:TypeId}(ho:o.op=.call { callee:=.builtin .copy,args:= #[x,y],argTypes:= #[t,t]}){e:TypeId}{by':Nat}{z:Option Value}(hs:BP P t=some (e,1,by',z)){q off len k:Nat}{cs:List D}(hq:σ.H[q]?=some (some cs)){xs:List V}
  (hx:∀x∈xs,x.size=1/\x.isAgg=false) (hk:k=Nat.min xs.length len) (h0:xs≠ []) (hfit:off+k<=cs.length):
  Ah P o [.arr q off len,.v (.list xs)] σ (.v (.int .i64 (k:Int))) ⟨σ.H.set q (some (cs.take off++(xs.take k).map .v++cs.drop (off+k))),σ.own⟩:=by
 intro E g a w K Q hw hds hK
 simp only[ho,Op.operands,Call.operands] at hds
 obtain⟨u,v,eq,h1,h2⟩:=Ao.1 (by simpa using hds)
 simp only[HH,Ih] at eq
 simp only[Ae] at h1 h2
 obtain⟨_,cap,_,rfl⟩:=h1
 obtain⟨a2,c2,rfl,hc2,hor⟩:=B4 h2 (fun x hx'=>(hx x hx').1) (by decide)
 have hkx:k<=xs.length:=by rw[hk];exact Nat.min_le_left _ _
 rcases hor with rfl|⟨b2,off2,us2,rfl,hin,hE⟩
 ·exact absurd rfl h0
 have hd2:=B8 (PN (fun x hx'=>(hx x hx').2) hE) k
 rw[←map_take] at hd2
 have hlen:((xs.take k).map D.v).length=k:=by simp;omega
 obtain⟨w',hrun,hw'⟩:=L4 (P:=P) (ty:=o.type) hw hs hq (off:=off) (len:=len) (cap:=cap) (a:=⟨b2,off2,none⟩) (sLen:=xs.length) (sCap:=c2) hd2 (fun d hd=>by
   obtain⟨x,hx',rfl⟩:=Il.1 hd
   have:=(hx x (IK hx')).2
   simp[D.one,this]) (by rw[hlen,hk]) (fun j v hj=>Dj hw hin j v (by rw[IQ] at hj;split at hj;exact hj;simp at hj)) (by rw[hlen];exact hfit)
 rw[hlen] at hrun hw'
 have:=hK g w' (goInt k) hw' g.le_refl (by simp[Ae,A5,goInt])
 unfold Oper.wp execOp
 simp only[ho,resolve,invoke,builtin,Sem.run_bind,Sem.run_pure,Result.andThen_ok]
 rw[show(#[x,y]:Array Operand).map a.eval= #[.slice (some ⟨g.β q,off,none⟩) len cap,.slice (some ⟨b2,off2,none⟩) xs.length c2] from by simp[eq.1,eq.2],hrun]
 exact this
noncomputable abbrev AjK:Func:= Tryz.f334
noncomputable abbrev Aqr:=(Azd [some []] [])
theorem ZC(x:Int):Aa PP 334 [dl [vi x],di 0] σ0 (.arr 0 0 0) ⟨[some []],[]⟩:=by
 refine sv AjK 48 [] (.k<|.c (.tup [.v (.int .u64 0),.v (.int .u64 0)])<|.k<|.k<|.h (.q 7 2)<|.h (.o (di 0) ⟨[some []],[]⟩)<|.n<|.k<|.ro) (F0 343 [D.v (V.int u64 (wrap u64 (length (vi x::nV):Int))),D.v (V.int u64 (wrap u64 0))] (Azn [D.v (V.int u64 0),D.v (V.int u64 0)])/\Q (wrap i64 0)/\0<=wrap i64 0/\(8:Int)*wrap i64 0<=281474976710656/\wrap i64 0<=9223372036854775807/\Ah PP (Oper.mk (some 33) (Op.call (Call.mk (Callee.builtin Builtin.copy) #[Operand.tmp 31,Operand.tmp 32] #[27,27])) 3 "slices.go:526" #[Edge.mk 0 Ground.data,Edge.mk 1 Ground.data] none) [Azi 0 0 0,dl [vi x]] Aqr (di 0) Aqr/\okH 1 [] [some []]=true/\([some []]:List (Option (List D)))=[some []]/\Q (Azi 0 0 0)) ?_
 refine⟨R4 0 (by decide),rfl,by decide,by decide,by decide,?_,rfl,rfl,rfl⟩
 exact Wq (k:=0) rfl FB rfl (fun y hy=>by rw[HK.1 hy];exact⟨rfl,rfl⟩) rfl (by simp) (by decide)
theorem WD{T:List (List Bool)}(hT:LM T 0)(m:Nat):∀row:Nat,T.length-row=m->
  Rn PP Yv 0 (di 0) σ0 ([.lp (sub Se [1,1,1,0,1,0,0]),.blk 0,.code (sub Se [1,1,1,1])]++[]) (mkE 30 [(0,EV T),(2,.v (vBl [])),(7,.arr 0 0 0),(8,di 0),(9,di row)]) ⟨[some []],[]⟩:=by
 induction m with
 |zero=>
  intro row hm
  refine lv 30 [] (.f .r) (decide ((row:Int)<(length (map vBl T):Int))=false/\Q (di 0)) ?_
  exact⟨H8 (by rw[H3];omega),rfl⟩
 |succ m ih=>
  intro row hm
  have hrw:=hT.rows
  obtain⟨r,hr⟩:∃r,T[row]?=some r:=⟨_,H4 (by omega)⟩
  have hrl:=hT.eq r (HA hr)
  rw[List.length_eq_zero_iff.1 hrl] at hr
  refine lv 30 [] (.t<|.c (.v (vBl []))<|.c1 [] (db false)<|.k<|.l [ke 0,ke 2,ke 7,ke 8,ch 9 (di (row+1:Nat))]) (decide ((row:Int)<(length (map vBl T):Int))=true/\F0 336 [D.v (vBl [])] (D.v (vBl []))/\Aa PP 335 [D.v (Aof T),Azi 0 0 0,D.v (vBl []),di (row:Int)] Aqr (db false) Aqr/\di (wrap i64 ((row:Int)+1))=di (↑(row+1):Int)/\I0 Yv 0 (di 0) σ0 Ao1 (mkE 30 [(0,D.v (Aof T)),(2,D.v (vBl [])),(7,Azi 0 0 0),(8,di 0),(9,di (↑(row+1):Int))]) Aqr) ?_
  exact⟨H6 (by rw[H3];omega),Ab6,Zx hr,Ad (by omega),⟨ih (row+1) (by omega)⟩⟩
theorem Aax{T:List (List Bool)}(hT:LM T 0):Aa PP 328 [EV T,di 0,.v (vBl [])] σ0 (di 0) σ0:=by
 refine sv Yv 30 [] (.h (.oc (.arr 0 0 0) ⟨[some []],[]⟩)<|.lo [ke 0,ke 2,ke 7,ch 8 (di 0),ch 9 (di (0:Nat))] ⟨[some []],[]⟩) ((N0 [D.v (Azl 334 [] []),D.v (Azf [vi (-1)]),di (length (map Azk []):Int)] σ0 (Azi 0 0 0) Aqr)/\Q (di 0)/\di 0=di (↑0:Int)/\okH 1 [] [some []]=true/\([some []]:List (Option (List D)))=[some []]/\I0 Yv σ0.H.length (di 0) σ0 Ao1 (mkE 30 [(0,EV T),(2,D.v (vBl [])),(7,Azi 0 0 0),(8,di 0),(9,di (↑0:Int))]) Aqr) ?_
 exact⟨fun o' cl fo hop hcl=>E8 (σ:=σ0) (f:=334) (fs:=[]) (cs:=[]) (ds:=[dl [vi (-1)],di 0]) hop hcl rfl (os:=[]) rfl (ZC (-1)),rfl,rfl,rfl,rfl,⟨WD hT _ 0 rfl⟩⟩
noncomputable abbrev Ag2:Func:= Tryz.f327
noncomputable def AeQ:Code:=Ag2.body.getD .skip
noncomputable abbrev Ajp:Func:= Tryz.f329
noncomputable abbrev AjT:Func:= Tryz.f324
theorem Aa1{T:List (List Bool)}{c:Nat}(hT:LM T c)(m:Nat):∀k:Nat,T.length-k=m->
  Rn PP Ag2 0 (db true) σ0 ([.lp (sub AeQ [1,1,0,1,0,0]),.blk 0,.code (sub AeQ [1,1,1])]++[]) (mkE 27 [(0,EV T),(8,EV T),(9,di T.length),(10,di k)]) σ0:=by
 induction m with
 |zero=>
  intro k hm
  refine lv 27 [] (.f .r) (decide ((k:Int)<(T.length:Int))=false/\Q (db true)) ?_
  exact⟨H8 (by omega),rfl⟩
 |succ m ih=>
  intro k hm
  obtain⟨r,hr⟩:∃r,T[k]?=some r:=⟨_,H4 (by omega)⟩
  obtain⟨r0,hr0⟩:∃r,T[0]?=some r:=⟨_,H4 (by omega)⟩
  refine lv 27 [] (.t<|.x (vBl r)<|.f<|.x (vBl r0)<|.f<|.l [ke 0,ke 8,ke 9,ch 10 (di (k+1:Nat))]) (decide ((k:Int)<(T.length:Int))=true/\0<=(k:Int)/\(map vBl T)[Int.toNat (k:Int)]?=some (vBl r)/\decide ((length (Ark r):Int)>12)=false/\iz 0<=0/\(map vBl T)[Int.toNat 0]?=some (vBl r0)/\((length (Ark r):Int) !=(length (Ark r0):Int))=false/\di (wrap i64 ((k:Int)+1))=di (↑(k+1):Int)/\I0 Ag2 0 (db true) σ0 [kl AeQ Akw,Aza 0,kc AeQ [1,1,1]] (mkE 27 [(0,D.v (Aof T)),(8,D.v (Aof T)),(9,di (T.length:Int)),(10,di (↑(k+1):Int))]) σ0) ?_
  have hrw:=hT.rows
  have hcl:=hT.cols
  have h1:=hT.eq r (HA hr)
  have h2:=hT.eq r0 (HA hr0)
  exact⟨H6 (by omega),by omega,Aq hr,H8 (by rw[H3];omega),HV _,Aq (i:=0) hr0,by rw[H3,H3,h1,h2];simp,Ad (by omega),⟨ih (k+1) (by omega)⟩⟩
theorem Aa0{T:List (List Bool)}{c:Nat}(hT:LM T c):Aa PP 327 [EV T] σ0 (db true) σ0:=by
 refine sv Ag2 27 [] (.f<|.l [ke 0,ke 8,ch 9 (di T.length),ch 10 (di (0:Nat))]) (decide ((length (map vBl T):Int)>12)=false/\di (length (map vBl T):Int)=di (T.length:Int)/\di 0=di (↑0:Int)/\I0 Ag2 σ0.H.length (db true) σ0 [kl AeQ Akw,Aza 0,kc AeQ [1,1,1]] (mkE 27 [(0,EV T),(8,EV T),(9,di (T.length:Int)),(10,di (↑0:Int))]) σ0) ?_
 have hrw:=hT.rows
 exact⟨H8 (by rw[H3];omega),by rw[H3],rfl,⟨Aa1 hT _ 0 rfl⟩⟩
theorem Aa3{T:List (List Bool)}{c:Nat}(hT:LM T c)(h0:T=[]->c=0):Aa PP 329 [EV T] σ0 (di c) σ0:=by
 cases T with
 |nil=>
  rw[h0 rfl]
  refine sv Ajp 10 [] (.k .r) (di 0=di (↑0:Int)) ?_
  rfl
 |cons r T=>
  refine sv Ajp 10 [] (.f<|.x (vBl r) .r) (((length (map vBl (r::T)):Int)==0)=false/\iz 0<=0/\Q (some (vBl r))/\di (length (Ark r):Int)=di (c:Int)) ?_
  exact⟨by simp;omega,HV _,rfl,by rw[H3,hT.eq r (by simp)]⟩
theorem Aa2{T:List (List Bool)}{c:Nat}(hT:LM T c)(h0:T=[]->c=0):∃n:Int,Aa PP 324 [EV T] σ0 (.tup [di n,db true]) σ0:=by
 have hV:=Aa0 hT
 have hC:=Aa3 hT h0
 have hcl:=hT.cols
 have h:∃n:Int,Aa PP 328 [EV T,di 0,.v (vBl (replicate c false))] σ0 (di n) σ0:=by
  by_cases hc:c=0
  ·subst hc;exact⟨0,Aax hT⟩
  ·exact Aay hT hc
 obtain⟨n,h⟩:=h
 refine⟨n,?_⟩
 refine sv AjT 12 [] (.c (db true)<|.k<|.c (di c)<|.h (.q 3 4)<|.h (.fl 0 10 ((Anv c).map .bool))<|.c (di n)<|.r) (F0 327 [D.v (Aof T)] (db true)/\F0 329 [D.v (Aof T)] (di (c:Int))/\Q (c:Int)/\0<=(c:Int)/\(1:Int)*(c:Int)<=281474976710656/\(c:Int)<=9223372036854775807/\replicate (Int.toNat (c:Int)) (db false)=map D.v (map Azk (Anv c))/\Int.toNat (c:Int)=length (map Azk (Anv c))/\F0 328 [D.v (Aof T),di 0,D.v (Azf (map Azk (Anv c)))] (di n)/\Q (Azn [di n,db true])) ?_
 exact⟨hV,hC,rfl,by omega,by omega,by omega,by rw[IB];simp,by simp,h,rfl⟩
def Q5(t:Typ)(q:Val->Val->Bool):Prop:=∀a b,Am t a=true->Am t b=true->Aa PP 316 [dT t,dV a,dV b] σ0 (db (q a b)) σ0
noncomputable abbrev Yx:Func:= Tryz.f316
noncomputable def AbG:Code:=Yx.body.getD .skip
theorem Ael:Q5 .nat (fun a b=>decide (a.n<=b.n)):=fun a b _ _=>by
 refine sv Yx 87 [3,4,5] (.k .r) (Q (db (decide (a.n<=Val.n b)))) ?_
 rfl
theorem LD(n:Int):Q5 (.lab n) (fun a b=>a.n==b.n):=fun a b _ _=>by
 refine sv Yx 87 [3,4,5] (.k<|.k .r) (Q (db (a.n==Val.n b))) ?_
 rfl
def Ou:List (Val->Val->Bool)->List Val->List Val->Bool
 |q::qs,x::xs,y::ys=>q x y&&Ou qs xs ys
 |_,_,_=>true
noncomputable abbrev Amn:=fun a₀=>(Azh [vi (Typ.kd a₀),vi (Typ.sz a₀),vIs (Typ.rk a₀),Azf (map eT (Typ.ps a₀))])
noncomputable abbrev Aqx:=[kl AbG [1,0,1,0,1,1,1,1,1,0,0,1,0,0],Aza 1,kc AbG [1,0,1,0,1,1,1,1,1,0,1],Aza 0,kc AbG [1,1]]
theorem XR{l:List Typ}{qs:List (Val->Val->Bool)}(hl:l.length<=1000){a b:Val}(ha:a.kids.length=l.length)(hb:b.kids.length=l.length)
  (h:∀(i:Nat) (t:Typ) (x y:Val),l[i]?=some t->a.kids[i]?=some x->b.kids[i]?=some y->∃q:Val->Val->Bool,qs[i]?=some q/\Aa PP 316 [dT t,dV x,dV y] σ0 (db (q x y)) σ0) (m:Nat):∀k:Nat,l.length-k=m->
  Rn PP Yx 0 (db (Ou (qs.drop k) (a.kids.drop k) (b.kids.drop k))) σ0 ([.lp (sub AbG [1,0,1,0,1,1,1,1,1,0,0,1,0,0]),.blk 1,.code (sub AbG [1,0,1,0,1,1,1,1,1,0,1]),.blk 0,.code (sub AbG [1,1])]++[]) (mkE 87 [(4,.v (.ref (Af a))),(5,.v (.ref (Af b))),(28,.v (.list (l.map eT))),(29,di l.length),(30,di k)]) σ0:=by
 induction m with
 |zero=>
  intro k hm
  rw[show Ou (qs.drop k) (a.kids.drop k) (b.kids.drop k)=true by rw[List.drop_eq_nil_of_le («as» :=a.kids) (by omega)];cases qs.drop k<;>rfl]
  refine lv 87 [3,4,5] (.f .r) (decide ((k:Int)<(l.length:Int))=false/\Q (db true)) ?_
  exact⟨H8 (by omega),rfl⟩
 |succ m ih=>
  intro k hm
  obtain⟨t,ht⟩:∃r,l[k]?=some r:=⟨_,H4 (by omega)⟩
  obtain⟨x,hx⟩:∃r,a.kids[k]?=some r:=⟨_,H4 (by omega)⟩
  obtain⟨y,hy⟩:∃r,b.kids[k]?=some r:=⟨_,H4 (by omega)⟩
  obtain⟨q,hq,hs⟩:=h k t x y ht hx hy
  have e:Ou (qs.drop k) (a.kids.drop k) (b.kids.drop k)=(q x y&&Ou (qs.drop (k+1)) (a.kids.drop (k+1)) (b.kids.drop (k+1))):=by rw[drop_cons hq,drop_cons hx,drop_cons hy];rfl
  rw[e]
  have hih:=ih (k+1) (by omega)
  generalize Ou (qs.drop (k+1)) (a.kids.drop (k+1)) (b.kids.drop (k+1))=r at*
  cases hqq:q x y with
  |false=>
   rw[hqq] at hs
   refine lv 87 [3,4,5] (.t<|.x (vT t)<|.x (Af x)<|.x (Af y)<|.c (db false)<|.k .r) (decide ((k:Int)<(l.length:Int))=true/\0<=(k:Int)/\(map eT l)[Int.toNat (k:Int)]?=some (vT t)/\0<=(k:Int)/\(Alj a.kids)[Int.toNat (k:Int)]?=some (Af x)/\0<=(k:Int)/\(Alj b.kids)[Int.toNat (k:Int)]?=some (Af y)/\F0 316 [D.v (Amn t),dV x,dV y] (db false)/\(True/\True)/\db false=db (false&&r)) ?_
   exact⟨H6 (by omega),by omega,J7 ht,by omega,As hx,by omega,As hy,hs,⟨trivial,trivial⟩,rfl⟩
  |true=>
   rw[hqq] at hs
   rw[Ib]
   refine lv 87 [3,4,5] (.t<|.x (vT t)<|.x (Af x)<|.x (Af y)<|.c (db true)<|.k<|.lo [ke 4,ke 5,ke 28,ke 29,ch 30 (di (k+1:Nat))] σ0) (decide ((k:Int)<(l.length:Int))=true/\0<=(k:Int)/\(map eT l)[Int.toNat (k:Int)]?=some (vT t)/\0<=(k:Int)/\(Alj a.kids)[Int.toNat (k:Int)]?=some (Af x)/\0<=(k:Int)/\(Alj b.kids)[Int.toNat (k:Int)]?=some (Af y)/\F0 316 [D.v (Amn t),dV x,dV y] (db true)/\(True/\True)/\di (wrap i64 ((k:Int)+1))=di (↑(k+1):Int)/\okH 0 [] []=true/\I0 Yx 0 (db r) σ0 Aqx (mkE 87 [(4,D.v (Apv a)),(5,D.v (Apv b)),(28,D.v (Azf (map eT l))),(29,di (l.length:Int)),(30,di (↑(k+1):Int))]) σ0) ?_
   exact⟨H6 (by omega),by omega,J7 ht,by omega,As hx,by omega,As hy,hs,⟨trivial,trivial⟩,Ad (by omega),rfl,⟨hih⟩⟩
theorem MW:∀{l:List Typ} {vs:List Val} {i:Nat} {t:Typ} {v:Val},AW l vs=true->l[i]?=some t->vs[i]?=some v->Am t v=true
 |[],_,i,t,v,_,h,_=>by simp at h
 |_::_,[],i,t,v,_,_,h=>by simp at h
 |t0::l,v0::vs,0,t,v,h,h1,h2=>by
  simp only[AW,H5] at h
  simp only[I5,Ia] at h1 h2
  subst h1;subst h2;exact h.1
 |t0::l,v0::vs,i+1,t,v,h,h1,h2=>by
  simp only[AW,H5] at h
  exact MW h.2 (by simpa using h1) (by simpa using h2)
theorem ND(l:List Typ)(hl:l.length<=1000)(qs:List (Val->Val->Bool))(h:∀(i:Nat) (t:Typ),l[i]?=some t->∃q:Val->Val->Bool,qs[i]?=some q/\Q5 t q):Q5 (.prod l) (fun a b=>Ou qs a.kids b.kids):=fun a b ha hb=>by
 simp only[Am,H5,Ie] at ha hb
 have:=XR hl (qs:=qs) (a:=a) (b:=b) (by omega) (by omega) (fun i t x y ht hx hy=>by
  obtain⟨q,h1,h2⟩:=h i t ht
  exact⟨q,h1,h2 x y (MW ha.2.2 ht hx) (MW hb.2.2 ht hy)⟩) _ 0 rfl
 refine sv Yx 87 [3,4,5] (.k<|.k<|.k<|.l [ke 4,ke 5,ch 28 (.v (.list (l.map eT))),ch 29 (di l.length),ch 30 (di (0:Nat))]) (D.v (Azf (Al6 l))=D.v (Azf (map eT l))/\di (length (Al6 l):Int)=di (l.length:Int)/\di 0=di (↑0:Int)/\I0 Yx σ0.H.length (db ((fun a b=>Ou qs a.kids b.kids) a b)) σ0 Aqx (mkE 87 [(4,D.v (Apv a)),(5,D.v (Apv b)),(28,D.v (Azf (map eT l))),(29,di (l.length:Int)),(30,di (↑0:Int))]) σ0) ?_
 exact⟨rfl,by rw[H3];rfl,rfl,⟨this⟩⟩
noncomputable abbrev AgH:Func:= Tryz.f317
noncomputable def AeX:Code:=AgH.body.getD .skip
noncomputable abbrev AiB:Func:= Tryz.f323
def Xp(q:Val->Val->Bool):List Val->List Val->Bool
 |[],_=>true
 |x::a,b=>if decide (ixM (q x) b 0<0)=true then false else Xp q a (b.drop ((ixM (q x) b 0).toNat+1))
theorem Ac2{α:Type}(p:α->Bool):∀(l:List α) (k:Nat),ixM p l k= -1∨((k:Int)<=ixM p l k/\ixM p l k<k+l.length)
 |[],k=>.inl rfl
 |x::l,k=>by
  rw[ixM]
  split
  ·exact .inr ⟨HV _,by simp only[H9];omega⟩
  ·rcases Ac2 p l (k+1) with h|⟨h1,h2⟩
   ·exact .inl h
   ·exact .inr ⟨by omega,by simp only[H9];omega⟩
theorem Xq{t:Typ}{x y:Val}{b:Bool}(h:Aa PP 316 [dT t,dV x,dV y] σ0 (db b) σ0):Aa PP 323 [dV y,.v (.ref (vT t)),.v (.ref (Af x))] σ0 (db b) σ0:=by
 refine sv AiB 9 [3] (.c (db b) .r) (F0 316 [D.v (vT t),dV x,dV y] (db b)/\Q (db b)) ?_
 exact⟨h,rfl⟩
noncomputable abbrev Aoy:=fun a₀ b₀ c₀ d₀=>F0 68 [dVs a₀,D.v (Azl 323 [] [Azo (vT b₀),Azo (Af c₀)])] (di d₀)
theorem Abj{t:Typ}{q:Val->Val->Bool}(a:List Val)(ha:a.length<=1000)(m:Nat):∀(k:Nat) (b:List Val),b.length<=1000->(∀x∈a,∀y∈b,Aa PP 316 [dT t,dV x,dV y] σ0 (db (q x y)) σ0)->a.length-k=m->
  Rn PP AgH 0 (db (Xp q (a.drop k) b)) σ0 ([.lp (sub AeX [1,0,1,0,0]),.blk 0,.code (sub AeX [1,1])]++[]) (mkE 26 [(2,dVs b),(3,.v (.ref (vT t))),(10,dVs a),(11,di a.length),(12,di k)]) σ0:=by
 induction m with
 |zero=>
  intro k b hbl hq hm
  rw[HO (by omega)]
  refine lv 26 [3] (.f .r) (decide ((k:Int)<(a.length:Int))=false/\db true=db (Xp q [] b)) ?_
  exact⟨H8 (by omega),rfl⟩
 |succ m ih=>
  intro k b hbl hq hm
  obtain⟨x,hx⟩:∃r,a[k]?=some r:=⟨_,H4 (by omega)⟩
  have hix:=Nq 323 [] [.ref (vT t),.ref (Af x)] (q x) b (by omega) (fun y hy=>Xq (hq x (HA hx) y hy))
  have hor:=Ac2 (q x) b 0
  rw[drop_cons hx,Xp]
  generalize ixM (q x) b 0=i at*
  by_cases h0:decide (i<0)=true
  ·rw[HP h0]
   refine lv 26 [3] (.t<|.x (Af x)<|.h (.q 4 1)<|.h (.fa 0 [8])<|.c (di i)<|.t .r) (decide ((k:Int)<(a.length:Int))=true/\0<=(k:Int)/\(map eV a)[Int.toNat (k:Int)]?=some (Af x)/\Aoy b t x i/\decide (i<0)=true/\Q (db false)) ?_
   exact⟨H6 (by omega),by omega,As hx,hix,h0,rfl⟩
  ·rw[HL h0]
   have hf:=HG h0
   have hi0:0<=i:=by have:=Im hf;omega
   have hw:wrap i64 (i+1)=i+1:=Al (by omega) (by omega)
   have hih:=ih (k+1) (b.drop (i.toNat+1)) (by rw[I9];omega) (fun x hx y hy=>hq x hx y (Iu hy)) (by omega)
   refine lv 26 [3] (.t<|.x (Af x)<|.h (.q 4 1)<|.h (.fa 0 [8])<|.c (di i)<|.f<|.lo [ch 2 (dVs (b.drop (i.toNat+1))),ke 3,ke 10,ke 11,ch 12 (di (k+1:Nat))] σ0) (decide ((k:Int)<(a.length:Int))=true/\0<=(k:Int)/\(map eV a)[Int.toNat (k:Int)]?=some (Af x)/\Aoy b t x i/\decide (i<0)=false/\(∀(x:V),x∈map eV b->V.size x=2)/\0<=(fun x=>x.snd) (i64,wrap i64 (i+1))/\(fun x=>x.snd) (i64,wrap i64 (i+1))<=(length (map eV b):Int)/\D.v (Azf (List.drop (Int.toNat ((fun x=>x.snd) (i64,wrap i64 (i+1)))) (take (length (map eV b)) (map eV b))))=dVs (List.drop (Int.toNat i+1) b)/\di (wrap i64 ((k:Int)+1))=di (↑(k+1):Int)/\okH 0 [] []=true/\I0 AgH 0 (db (Xp q (List.drop (k+1) a) (List.drop (Int.toNat i+1) b))) σ0 [kl AeX [1,0,1,0,0],Aza 0,kc AeX [1,1]] (mkE 26 [(2,dVs (List.drop (Int.toNat i+1) b)),(3,D.v (Azo (vT t))),(10,dVs a),(11,di (a.length:Int)),(12,di (↑(k+1):Int))]) σ0) ?_
   rw[hw]
   refine⟨H6 (by omega),by omega,As hx,hix,hf,fun y hy=>by obtain⟨z,_,rfl⟩:=Il.1 hy;rw[Bz];rfl,by show(0:Int)<=i+1;omega,by rw[H3];show i+1<=(b.length:Int);omega,?_,Ad (by omega),rfl,⟨hih⟩⟩
   rw[List.take_length]
   show D.v (V.list (List.drop (Int.toNat (i+1)) (b.map eV)))=_
   rw[show Int.toNat (i+1)=i.toNat+1 by omega, ←List.map_drop]
theorem Abi{t:Typ}{q:Val->Val->Bool}(a b:List Val)(ha:a.length<=1000)(hb:b.length<=1000)(h:∀x∈a,∀y∈b,Aa PP 316 [dT t,dV x,dV y] σ0 (db (q x y)) σ0):Aa PP 317 [dT t,dVs a,dVs b] σ0 (db (Xp q a b)) σ0:=by
 have:=Abj a ha _ 0 b hb h rfl
 refine sv AgH 26 [3] (.l [ke 2,ke 3,ch 10 (dVs a),ch 11 (di a.length),ch 12 (di (0:Nat))]) (Q (dVs a)/\di (length (map eV a):Int)=di (a.length:Int)/\di 0=di (↑0:Int)/\I0 AgH σ0.H.length (db (Xp q a b)) σ0 [kl AeX [1,0,1,0,0],Aza 0,kc AeX [1,1]] (mkE 26 [(2,dVs b),(3,D.v (Azo (vT t))),(10,dVs a),(11,di (a.length:Int)),(12,di (↑0:Int))]) σ0) ?_
 exact⟨rfl,by rw[H3],rfl,⟨this⟩⟩
theorem AbK{t:Typ}{q:Val->Val->Bool}(h:Q5 t q):Q5 (.word t) (fun a b=>Xp q a.kids b.kids):=fun a b ha hb=>by
 simp only[Am,H5,Ie,Ip,HE] at ha hb
 have:=Abi (t:=t) (q:=q) a.kids b.kids (by omega) (by omega) (fun x hx y hy=>h x y (ha.2.2 x hx) (hb.2.2 y hy))
 rw[dT,KG]
 refine sv Yx 87 [3,4,5] (.k<|.k<|.k<|.k<|.x (vT t)<|.c (db (Xp q a.kids b.kids))<|.r) (iz 0<=0/\Q (some (vT t))/\F0 317 [D.v (vT t),dVs a.kids,dVs b.kids] (db (Xp q a.kids b.kids))/\Q (db (Xp q a.kids b.kids))) ?_
 exact⟨HV _,rfl,this,rfl⟩
noncomputable abbrev AaX:Func:= Tryz.f318
noncomputable def FM:Code:=AaX.body.getD .skip
abbrev Fq(done:List (List Bool))(cur:D)(r:Nat):List D:=done.map (fun l=>.v (vBl l))++cur::replicate r (.v .nils)
abbrev stD(done:List (List Bool))(cur:List Bool)(r:Nat):St:=⟨[some (Fq done (.acc 1 (cur.map .bool)) r)],[(1,1,cur.map .bool)]⟩
abbrev stE(done:List (List Bool))(r:Nat):St:=⟨[some (done.map (fun l=>.v (vBl l))++replicate r (.v .nils))],[]⟩
theorem Z8(done:List (List Bool))(c:D)(r:Nat):(Fq done c r)[0+Int.toNat ((done.length:Nat):Int)*1]?=some c:=by
 rw[show 0+Int.toNat ((done.length:Nat):Int)*1=done.length by omega,Fq,HN (by simp)];simp
theorem Z6(done:List (List Bool))(c c':D)(r:Nat):(Fq done c r).set (0+Int.toNat ((done.length:Nat):Int)*1) c'=Fq done c' r:=by
 rw[show 0+Int.toNat ((done.length:Nat):Int)*1=done.length by omega,Fq,List.set_append_right _ _ (by simp)];simp
theorem Z7(done:List (List Bool))(c:D)(r:Nat):(Fq done c r).length=done.length+r+1:=by simp[Fq];omega
theorem pls_map'{l:List (List Bool)}:D.pls (l.map fun l=>.v (vBl l))=true:=by
 induction l with
 |nil=>rfl
 |cons x l ih=>rw[HU];simp only[D.pls,ih,Bool.and_true];rfl
theorem Ks(r:Nat):D.pls (replicate r (.v .nils))=true:=by
 induction r with
 |zero=>rfl
 |succ r ih=>rw[Ix];simp only[D.pls,ih,Bool.and_true];rfl
theorem AfS(done:List (List Bool))(l:List V)(r n:Nat):D.okNs n [1] (Fq done (.acc 1 l) r)=true:=by
 exact GT (AO pls_map') (by simp[D.okNs,D.okN,AO (Ks r)])
theorem AfR(done:List (List Bool))(r n:Nat)(ts:List Nat):D.okNs n ts (done.map (fun l=>.v (vBl l))++replicate r (.v .nils))=true:=by
 exact GT (AO pls_map') (AO (Ks r))
theorem Ahb(done:List (List Bool))(l:List Bool)(r:Nat)(e:List D)(he:D.okNs 1 [] e=true):Cv e (stD done l r) e (stE (done++[l]) r):=by
 have h1:=El (σ:=stD done l r) (q:=0) (cs:=Fq done (.acc 1 (l.map .bool)) r) (cs':=Fq done (.v (vBl l)) r) rfl (fun g us hr=>by
  obtain⟨u,v,rfl,h1,h2⟩:=GM hr
  simp only[Ac] at h2
  obtain⟨x,y,rfl,h3,h4⟩:=h2
  exact Ap h1 (by simp only[Ac];exact⟨x,y,rfl,KW h3,h4⟩)) (fun h c hc=>by
  rcases Iq.1 hc with hc|hc
  ·exact h c (Iq.2 (.inl hc))
  ·rcases Ij.1 hc with rfl|hc
   ·rfl
   ·exact h c (Iq.2 (.inr (List.mem_cons_of_mem _ hc)))) e
 refine K9 h1 ?_
 have h2:=AdY (H:=[some (Fq done (.v (vBl l)) r)]) (own:=[(1,1,l.map .bool)]) e he (by
  simp only[okH,Bool.and_true]
  exact GT (AO pls_map') (by simp[D.okNs,D.okN,AO (Ks r)]))
 have e2:Fq done (.v (vBl l)) r=(done++[l]).map (fun l=>.v (vBl l))++replicate r (.v .nils):=by simp[Fq]
 rw[e2] at h2⊢
 exact h2
section
variable {t : Typ} {q : Val -> Val -> Bool} {a b : List Val} (ha : a.length <= 12) (hb : b.length <= 12) (h : ∀ x ∈ a, ∀ y ∈ b, Aa PP 316 [dT t, dV x, dV y] σ0 (db (q x y)) σ0) {d : D}
include ha hb h
noncomputable abbrev Ap7:=[kl FM [1,1,0,1,0,0,1,1,0,0,1,1,0,0],Aza 2,Aza 1,kc FM [1,1,0,1,0,0,1,1,1],kl FM Akw,Aza 0,kc FM [1,1,1]]
theorem AgY{x:Val}(hx:x∈a)(done:List (List Bool))(r:Nat)(hd:done.length+r+1=a.length)
  (hout:Rn PP AaX 0 d σ0 ([.lp (sub FM [1,1,0,1,0,0]),.blk 0,.code (sub FM [1,1,1])]++[]) (mkE 57 [(1,dVs a),(2,dVs b),(3,.v (.ref (vT t))),(7,.arr 0 0 a.length),(17,dVs a),(18,di a.length),(19,di (done.length+1:Nat))]) (stE (done++[b.map (q x)]) r)) (m:Nat):∀j:Nat,b.length-j=m->j<=b.length->
  Rn PP AaX 0 d σ0 ([.lp (sub FM [1,1,0,1,0,0,1,1,0,0,1,1,0,0]),.blk 2,.blk 1,.code (sub FM [1,1,0,1,0,0,1,1,1]),.lp (sub FM [1,1,0,1,0,0]),.blk 0,.code (sub FM [1,1,1])]++[]) (mkE 57 [(1,dVs a),(2,dVs b),(3,.v (.ref (vT t))),(7,.arr 0 0 a.length),(8,di done.length),(9,.v (.ref (Af x))),(17,dVs a),(18,di a.length),(19,di done.length),(24,dVs b),(25,di b.length),(26,di j)]) (stD done ((b.take j).map (q x)) r):=by
 induction m with
 |zero=>
  intro j hm hj
  rw[HW (by omega)]
  refine lv 57 [3] (.f<|.lo [ke 1,ke 2,ke 3,ke 7,ke 17,ke 18,ch 19 (di (done.length+1:Nat))] (stD done (b.map (q x)) r)) (decide ((j:Int)<(b.length:Int))=false/\di (wrap i64 ((done.length:Int)+1))=di (↑(length done+1):Int)/\okH 1 [1] [some (Fq done (D.acc 1 (map V.bool (map (q x) b))) r)]=true/\Q [some (Fq done (D.acc 1 (map V.bool (map (q x) b))) r)]/\Q [(1,1,map V.bool (map (q x) b))]/\I0 AaX 0 d σ0 [kl FM [1,1,0,1,0,0],KI.blk 0,kc FM [1,1,1]] (mkE 57 [(1,dVs a),(2,dVs b),(3,D.v (V.ref (vT t))),(7,D.arr 0 0 a.length),(17,dVs a),(18,di (a.length:Int)),(19,di (↑(length done+1):Int))]) (stD done (map (q x) b) r)) ?_
  refine⟨H8 (by omega),Ad (by omega),by simp only[okH,Bool.and_true];exact AfS _ _ _ _,rfl,rfl,⟨?_⟩⟩
  exact Vx (Ahb done (b.map (q x)) r _ (by simp[mkE,D.okNs,D.okN])) hout
 |succ m ih=>
  intro j hm hj
  obtain⟨y,hy⟩:∃r,b[j]?=some r:=⟨_,H4 (by omega)⟩
  refine lv 57 [3] (.t<|.x (Af y)<|.h (.q 7 3)<|.m (.acc 1 (((b.take j).map (q x)).map .bool))<|.c (db (q x y))<|.w<|.w<|.lo [ke 1,ke 2,ke 3,ke 7,ke 8,ke 9,ke 17,ke 18,ke 19,ke 24,ke 25,ch 26 (di (j+1:Nat))] (stD done ((b.take (j+1)).map (q x)) r)) (decide ((j:Int)<(b.length:Int))=true/\0<=(j:Int)/\(map eV b)[Int.toNat (j:Int)]?=some (Af y)/\0<=(done.length:Int)/\(done.length:Int)<(a.length:Int)/\(Fq done (D.acc 1 (map V.bool (map (q x) (take j b)))) r)[0+Int.toNat (done.length:Int)*1]?=some (D.acc 1 (map V.bool (map (q x) (take j b))))/\F0 316 [D.v (vT t),dV x,dV y] (db (q x y))/\Q (map V.bool (map (q x) (take j b)))/\Ar (length (map V.bool (map (q x) (take j b)))+length (V.bool (q x y)::nV)) 1/\(∀(y_1:V),y_1∈ [V.bool (q x y)]->V.size y_1=1)/\0<=(done.length:Int)/\(done.length:Int)<(a.length:Int)/\0+Int.toNat (done.length:Int)*1<length (Fq done (D.acc 1 (map V.bool (map (q x) (take j b)))) r)/\(True/\True/\True)/\di (wrap i64 ((j:Int)+1))=di (↑(j+1):Int)/\okH 1 [1] [some (List.set (Fq done (D.acc 1 (map V.bool (map (q x) (take j b)))) r) (0+Int.toNat (done.length:Int)*1) (D.acc 1 (map V.bool (map (q x) (take j b))++[V.bool (q x y)])))]=true/\[some (List.set (Fq done (D.acc 1 (map V.bool (map (q x) (take j b)))) r) (0+Int.toNat (done.length:Int)*1) (D.acc 1 (map V.bool (map (q x) (take j b))++V.bool (q x y)::nV)))]=[some (Fq done (D.acc 1 (map V.bool (map (q x) (take (j+1) b)))) r)]/\[(1,1,map V.bool (map (q x) (take j b))++V.bool (q x y)::nV)]=[(1,1,map V.bool (map (q x) (take (j+1) b)))]/\I0 AaX 0 d σ0 [kl FM [1,1,0,1,0,0,1,1,0,0,1,1,0,0],KI.blk 2,KI.blk 1,kc FM [1,1,0,1,0,0,1,1,1],kl FM [1,1,0,1,0,0],KI.blk 0,kc FM [1,1,1]] (mkE 57 [(1,dVs a),(2,dVs b),(3,D.v (V.ref (vT t))),(7,D.arr 0 0 a.length),(8,di (done.length:Int)),(9,D.v (V.ref (Af x))),(17,dVs a),(18,di (a.length:Int)),(19,di (done.length:Int)),(24,dVs b),(25,di (b.length:Int)),(26,di (↑(j+1):Int))]) (stD done (map (q x) (take (j+1) b)) r)) ?_
  have e1:map V.bool (map (q x) (take (j+1) b))=map V.bool (map (q x) (take j b))++[V.bool (q x y)]:=by rw[IF,hy];simp
  have hl:=Z7 done (.acc 1 (((b.take j).map (q x)).map .bool)) r
  rw[Z6,e1]
  refine⟨H6 (by omega),by omega,As hy,by omega,by omega,Z8 _ _ _,h x hx y (HA hy),rfl,⟨?_,?_⟩,fun z hz=>by rw[HK.1 hz];rfl,by omega,by omega,by omega,⟨trivial,trivial,trivial⟩,Ad (by omega),by simp only[okH,Bool.and_true];exact AfS _ _ _ _,rfl,rfl,⟨?_⟩⟩
  ·simp only[H3,HY,H9,HD];omega
  ·simp only[H3,HY,H9,HD];omega
  ·exact ih (j+1) (by omega) (by omega)
theorem AdX(n:Int)(hM:Aa PP 324 [EV (a.map fun x=>b.map (q x))] σ0 (.tup [di n,db true]) σ0)(m:Nat):∀k:Nat,a.length-k=m->k<=a.length->
  Rn PP AaX 0 (db (n==a.length)) σ0 ([.lp (sub FM [1,1,0,1,0,0]),.blk 0,.code (sub FM [1,1,1])]++[]) (mkE 57 [(1,dVs a),(2,dVs b),(3,.v (.ref (vT t))),(7,.arr 0 0 a.length),(17,dVs a),(18,di a.length),(19,di k)]) (stE ((a.take k).map fun x=>b.map (q x)) (a.length-k)):=by
 induction m with
 |zero=>
  intro k hm hk
  rw[HW (by omega),hm]
  refine lv 57 [3] (.f<|.h (.q 11 1)<|.h (.fl 0 46 ((a.map fun x=>b.map (q x)).map vBl))<|.c (.tup [di n,db true])<|.k .r) (decide ((k:Int)<(a.length:Int))=false/\map (fun l=>D.v (vBl l)) (map (fun x=>map (q x) b) a)++[]=map D.v (map vBl (map (fun x=>map (q x) b) a))/\length a=length (map vBl (map (fun x=>map (q x) b) a))/\F0 324 [D.v (Azf (map vBl (map (fun x=>map (q x) b) a)))] (Azn [di n,db true])/\db (n==(length (map eV a):Int))=db (n==(a.length:Int))) ?_
  exact⟨H8 (by omega),by rw[Is,map_map,map_map,map_map];rfl,by rw[H3,H3],hM,by rw[H3]⟩
 |succ m ih=>
  intro k hm hk
  obtain⟨x,hx⟩:∃r,a[k]?=some r:=⟨_,H4 (by omega)⟩
  refine lv 57 [3] (.t<|.x (Af x)<|.h (.q 5 0)<|.h (.fa 1 [9])<|.lo [ke 1,ke 2,ke 3,ke 7,ke 8,ke 9,ke 17,ke 18,ke 19,ch 24 (dVs b),ch 25 (di b.length),ch 26 (di (0:Nat))] (stE ((a.take k).map fun x=>b.map (q x)) (a.length-k))) (decide ((k:Int)<(a.length:Int))=true/\0<=(k:Int)/\(map eV a)[Int.toNat (k:Int)]?=some (Af x)/\dVs b=dVs b/\di (length (map eV b):Int)=di (b.length:Int)/\di 0=di (↑0:Int)/\okH 1 [] [some (map (fun l=>D.v (vBl l)) (map (fun x=>map (q x) b) (take k a))++replicate (length a-k) (dn))]=true/\Q [some (map (fun l=>D.v (vBl l)) (map (fun x=>map (q x) b) (take k a))++replicate (length a-k) (dn))]/\I0 AaX 0 (db (n==(a.length:Int))) σ0 Ap7 (mkE 57 [(1,dVs a),(2,dVs b),(3,D.v (Azo (vT t))),(7,Azi 0 0 a.length),(8,di (k:Int)),(9,D.v (Apv x)),(17,dVs a),(18,di (a.length:Int)),(19,di (k:Int)),(24,dVs b),(25,di (b.length:Int)),(26,di (↑0:Int))]) (stE (map (fun x=>map (q x) b) (take k a)) (length a-k))) ?_
  have hlk:((a.take k).map fun x=>b.map (q x)).length=k:=by rw[H3,HY];omega
  have hr:a.length-k=(a.length- (k+1))+1:=by omega
  have hin:=AgY ha hb h (HA hx) ((a.take k).map fun x=>b.map (q x)) (a.length- (k+1)) (by omega) (by
   have e:((a.take k).map fun x=>b.map (q x))++[b.map (q x)]=(a.take (k+1)).map fun x=>b.map (q x):=by rw[IF,hx];simp
   rw[e,hlk];exact ih (k+1) (by omega) (by omega)) _ 0 rfl (by omega)
  rw[hlk] at hin
  refine⟨H6 (by omega),by omega,As hx,rfl,by rw[H3],rfl,by simp only[okH,Bool.and_true];exact AfR _ _ _ _,rfl,⟨?_⟩⟩
  refine Vx ?_ hin
  rw[hr]
  have hcl:=RQ (env:=mkE 57 [(1,D.v (vVs a)),(2,D.v (vVs b)),(3,D.v (V.ref (vT t))),(7,D.arr 0 0 a.length),(8,di k),(9,D.v (V.ref (Af x))),(17,D.v (vVs a)),(18,di a.length),(19,di k),(24,dVs b),(25,di b.length),(26,di ((0:Nat):Int))]) (σ:=stE ((a.take k).map fun x=>b.map (q x)) (a.length- (k+1)+1)) 0 k 1 1 (cs:=((a.take k).map fun x=>b.map (q x)).map (fun l=>.v (vBl l))++replicate (a.length- (k+1)+1) (.v .nils)) rfl (by rw[HN (by rw[H3,hlk];omega),H3,hlk,Nat.sub_self];rfl) (fun x hx=>by simp at hx) (by decide)
  rw[List.set_append_right _ _ (by rw[H3,hlk];omega),H3,hlk,Nat.sub_self] at hcl
  exact hcl
end
theorem Abm{t:Typ}{q:Val->Val->Bool}(a b:List Val)(ha:a.length<=12)(hb:b.length<=12)(h:∀x∈a,∀y∈b,Aa PP 316 [dT t,dV x,dV y] σ0 (db (q x y)) σ0):∃r:Bool,Aa PP 318 [dT t,dVs a,dVs b] σ0 (db r) σ0:=by
 obtain⟨n,hM⟩:=Aa2 (T:=a.map fun x=>b.map (q x)) (c:=if a=[] then 0 else b.length) ⟨by rw[H3];exact ha,by split<;>omega,fun r hr=>by
  obtain⟨x,hx,rfl⟩:=Il.1 hr
  rw[HL (fun e=>by rw[e] at hx;simp at hx),H3]⟩ (fun e=>by rw[HP (List.map_eq_nil_iff.1 e)])
 refine⟨n==(a.length:Int),?_⟩
 have:=AdX ha hb h n hM _ 0 rfl (by omega)
 refine sv AaX 57 [3] (.lo [ke 1,ke 2,ke 3,ke 7,ch 17 (dVs a),ch 18 (di a.length),ch 19 (di (0:Nat))] (stE [] a.length)) (Q (length (map eV a):Int)/\0<=(length (map eV a):Int)/\(24:Int)*(length (map eV a):Int)<=281474976710656/\(length (map eV a):Int)<=9223372036854775807/\Q (dVs a)/\di (length (map eV a):Int)=di (a.length:Int)/\di 0=di (↑0:Int)/\okH 1 [] [some (replicate (Int.toNat (length (map eV a):Int)) (dn))]=true/\[some (replicate (Int.toNat (length (map eV a):Int)) (dn))]=[some ([]++replicate a.length (dn))]/\I0 AaX σ0.H.length (db (n==(a.length:Int))) σ0 [kl FM Akw,Aza 0,kc FM [1,1,1]] (mkE 57 [(1,dVs a),(2,dVs b),(3,D.v (Azo (vT t))),(7,Azi 0 0 (Int.toNat (length (map eV a):Int))),(17,dVs a),(18,di (a.length:Int)),(19,di (↑0:Int))]) (stE [] a.length)) ?_
 rw[H3,IB]
 exact⟨rfl,by omega,by omega,by omega,rfl,rfl,rfl,by simp only[okH,Bool.and_true];exact AO (Ks _),rfl,⟨this⟩⟩
theorem Aen{t:Typ}{q:Val->Val->Bool}(h:Q5 t q):∃q',Q5 (.bag t) q':=by
 have hex:∀a b,∃r,Am (.bag t) a=true->Am (.bag t) b=true->Aa PP 316 [dT (.bag t),dV a,dV b] σ0 (db r) σ0:=fun a b=>by
  by_cases hab:Am (.bag t) a=true/\Am (.bag t) b=true
  ·obtain⟨ha,hb⟩:=hab
   have ha':=ha
   have hb':=hb
   simp only[Am,H5,Ie,Ip,HE] at ha' hb'
   obtain⟨r,hr⟩:=Abm (t:=t) (q:=q) a.kids b.kids (by omega) (by omega) (fun x hx y hy=>h x y (ha'.1.2.2 x hx) (hb'.1.2.2 y hy))
   refine⟨r,fun _ _=>?_⟩
   rw[dT,NU]
   refine sv Yx 87 [3,4,5] (.k<|.k<|.k<|.k<|.k<|.x (vT t)<|.c (db r)<|.r) (iz 0<=0/\Q (some (vT t))/\F0 318 [D.v (vT t),dVs a.kids,dVs b.kids] (db r)/\Q (db r)) ?_
   exact⟨HV _,rfl,hr,rfl⟩
  ·exact⟨false,fun h1 h2=>absurd ⟨h1,h2⟩ hab⟩
 exact⟨fun a b=>Classical.choose (hex a b),fun a b h1 h2=>Classical.choose_spec (hex a b) h1 h2⟩
noncomputable abbrev Ag1:Func:= Tryz.f322
noncomputable def AeP:Code:=Ag1.body.getD .skip
theorem Aaq(l:List Val)(hl:l.length<=1000)(m:Nat):∀k:Nat,l.length-k=m->
  Rn PP Ag1 0 (dIs (l.map Val.n)) σ0 ([.lp (sub AeP [1,1,0,1,0,0]),.blk 0,.code (sub AeP [1,1,1])]++[]) (mkE 19 [(3,.acc 1 (((l.take k).map Val.n).map vi)),(6,dVs l),(7,di l.length),(8,di k)]) ⟨[],[(1,1,((l.take k).map Val.n).map vi)]⟩:=by
 induction m with
 |zero=>
  intro k hm
  rw[HW (by omega)]
  refine lv 19 [] (.f .r) (decide ((k:Int)<(l.length:Int))=false/\D.v (Azf (map vi (map Val.n l)))=dIs (map Val.n l)) ?_
  exact⟨H8 (by omega),rfl⟩
 |succ m ih=>
  intro k hm
  obtain⟨x,hx⟩:∃r,l[k]?=some r:=⟨_,H4 (by omega)⟩
  have e:((l.take (k+1)).map Val.n).map vi=((l.take k).map Val.n).map vi++[vi x.n]:=by rw[IF,hx];simp
  have hih:=ih (k+1) (by omega)
  rw[e] at hih
  refine lv 19 [] (.t<|.x (Af x)<|.w<|.lo [ch 3 (.acc 1 (((l.take k).map Val.n).map vi++[vi x.n])),ke 6,ke 7,ch 8 (di (k+1:Nat))] ⟨[],[(1,1,((l.take k).map Val.n).map vi++[vi x.n])]⟩) (decide ((k:Int)<(l.length:Int))=true/\0<=(k:Int)/\(map eV l)[Int.toNat (k:Int)]?=some (Af x)/\Q (map vi (Aoz k l))/\Ar (length (map vi (Aoz k l))+length (vi x.n::nV)) 8/\(∀(y:V),y∈ [vi x.n]->V.size y=1)/\Q (Azc 1 (map vi (Aoz k l)++[vi x.n]))/\di (wrap i64 ((k:Int)+1))=di (↑(k+1):Int)/\okH 0 [1] []=true/\Q [(1,1,map vi (Aoz k l)++vi x.n::nV)]/\I0 Ag1 0 (dIs (map Val.n l)) σ0 [kl AeP Akw,Aza 0,kc AeP [1,1,1]] (mkE 19 [(3,Azc 1 (map vi (Aoz k l)++[vi x.n])),(6,dVs l),(Apx l.length),(8,di (↑(k+1):Int))]) (Azd [] [(1,1,map vi (Aoz k l)++[vi x.n])])) ?_
  refine⟨H6 (by omega),by omega,As hx,rfl,⟨?_,?_⟩,fun y hy=>by rw[HK.1 hy];rfl,rfl,Ad (by omega),rfl,rfl,⟨hih⟩⟩
  ·simp only[H3,HY,H9,HD];omega
  ·simp only[H3,HY,H9,HD];omega
theorem Ru(l:List Val)(hl:l.length<=1000):Aa PP 322 [dVs l] σ0 (dIs (l.map Val.n)) σ0:=by
 have:=Aaq l hl _ 0 rfl
 refine sv Ag1 19 [] (.h (.q 2 0)<|.h (.nw 3 1 1)<|.ls [ch 3 (.acc 1 []),ch 6 (dVs l),ch 7 (di l.length),ch 8 (di (0:Nat))] ⟨[],[(1,1,[])]⟩) (Q Anz/\Q (dVs l)/\di (length (map eV l):Int)=di (l.length:Int)/\di 0=di (↑0:Int)/\Q [(1,1,nV)]/\I0 Ag1 σ0.H.length (dIs (map Val.n l)) σ0 [kl AeP Akw,Aza 0,kc AeP [1,1,1]] (mkE 19 [(3,Azc 1 []),(6,dVs l),(Apx l.length),(8,di (↑0:Int))]) Ard) ?_
 exact⟨rfl,rfl,by rw[H3],rfl,rfl,⟨this⟩⟩
noncomputable abbrev Aiy:Func:= Tryz.f342
noncomputable abbrev Aix:Func:= Tryz.f348
def rkI(rk:List Int)(x:Int):Int:=rk.getD x.toNat 0
theorem AfC{rk:List Int}{x:Int}(h:0<=x/\x<rk.length):rk[x.toNat]?=some (rkI rk x):=by
 rw[rkI,HC,H4 (by omega)];rfl
theorem VW(rk b:List Int)(x y:Int)(p:Nat)(hx:0<=x/\x<rk.length)(hy:b[p]?=some y)(hyr:0<=y/\y<rk.length):Aa PP 348 [di x,.v (.ref (vIs rk)),.v (.ref (vIs b)),.v (.ref (vi p))] σ0 (db (decide (rkI rk x>rkI rk y))) σ0:=by
 refine sv Aix 18 [] (.x (vi (rkI rk x))<|.x (vi y)<|.x (vi (rkI rk y)) .r) (0<=x/\(map vi rk)[Int.toNat x]?=some (vi (rkI rk x))/\0<=(p:Int)/\(map vi b)[Int.toNat (p:Int)]?=some (vi y)/\0<=y/\(map vi rk)[Int.toNat y]?=some (vi (rkI rk y))/\Q (db (decide (rkI rk x>rkI rk y)))) ?_
 exact⟨hx.1,by rw[Ik,AfC hx];rfl,by omega,Aq hy,hyr.1,by rw[Ik,AfC hyr];rfl,rfl⟩
def AhG(rk b:List Int)(from_ p:Nat)(y:Int):Bool:= !(((b.take p).drop from_).any fun x=>decide (rkI rk x>rkI rk y))
theorem VX(rk b:List Int)(from_ p:Nat)(y:Int)(hf:from_<=p)(hb:b.length<=1000)(hbr:∀x∈b,0<=x/\x<rk.length)(hy:b[p]?=some y):Aa PP 342 [dIs rk,dIs b,di from_,di p] σ0 (db (AhG rk b from_ p y)) σ0:=by
 refine sv Aiy 16 [4,5,7] (.c (db (((b.take p).drop from_).any fun x=>decide (rkI rk x>rkI rk y))) .r) ((∀(x:V),x∈map vi b->V.size x=1)/\0<=(fun x=>x.snd) (Anx from_)/\(fun x=>x.snd) (Anx from_)<=(fun x=>x.snd) (Anx p)/\(fun x=>x.snd) (Anx p)<=(length (map vi b):Int)/\F0 125 [D.v (Azf (List.drop (Int.toNat ((fun x=>x.snd) (Anx from_))) (take (Int.toNat ((fun x=>x.snd) (Anx p))) (map vi b)))),D.v (Azl 348 [] [Azo (vIs rk),Azo (vIs b),Azo (vi (p:Int))])] (db (List.any (List.drop from_ (take p b)) fun x=>decide (rkI rk x>rkI rk y)))/\(db !List.any (List.drop from_ (take p b)) fun x=>decide (rkI rk x>rkI rk y))=db (AhG rk b from_ p y)) ?_
 have hpl:=(H7.1 hy).1
 refine⟨Ec b,by show(0:Int)<=from_;omega,by show(from_:Int)<=p;omega,by rw[H3];show(p:Int)<=b.length;omega,?_,rfl⟩
 have:=Dk 348 [] [.ref (vIs rk),.ref (vIs b),.ref (vi p)] (fun x=>decide (rkI rk x>rkI rk y)) ((b.take p).drop from_) (by rw[I9,HY];omega) (fun x hx=>VW rk b x y p (hbr x (IK (Iu hx))) hy (hbr y (HA hy)))
 rw[List.map_drop,map_take] at this
 exact this
noncomputable abbrev Ac7:Func:= Tryz.f333
noncomputable def Y1:Code:=Ac7.body.getD .skip
def pL(rk b:List Int)(x:Int)(g:Nat->Bool)(f:Nat):Nat->Nat->Bool
 |0,_=>false
 |n+1,p=>(b[p]?==some x&&(AhG rk b f p x&&g (p+1)))||pL rk b x g f n (p+1)
def pS(rk b:List Int):List Int->Nat->Bool
 |[],f=>(f:Int)==b.length
 |x::a,f=>pL rk b x (pS rk b a) f (b.length-f) f
noncomputable abbrev Aq5:=[kl Y1 Akw,Aza 0,kc Y1 [1,1,1]]
theorem ZL{rk b:List Int}(hb:b.length<=1000)(hbr:∀x∈b,0<=x/\x<rk.length){x:Int}{a A:List Int}(hA:A=x::a)(ha:a.length<=1000)(ih:∀f:Nat,f<=b.length->∃l:List Int,l.length<=a.length/\Aa PP 333 [dIs rk,dIs a,dIs b,di f] σ0 (.tup [dIs l,db (pS rk b a f)]) σ0)(f:Nat)(m:Nat):∀p:Nat,b.length-p=m->f<=p->
  ∃l:List Int,l.length<=a.length+1/\Rn PP Ac7 0 (.tup [dIs l,db (pL rk b x (pS rk b a) f m p)]) σ0 ([.lp (sub Y1 [1,1,0,1,0,0]),.blk 0,.code (sub Y1 [1,1,1])]++[]) (mkE 58 [(0,dIs rk),(1,dIs A),(2,dIs b),(3,di f),(10,di p)]) σ0:=by
 induction m with
 |zero=>
  intro p hm hp
  refine⟨[],by simp,?_⟩
  rw[pL]
  refine lv 58 [] (.f .r) (decide ((p:Int)<(length (map vi b):Int))=false/\Azn [D.v (Azf []),db false]=Azn [dIs [],db false]) ?_
  exact⟨H8 (by rw[H3];omega),rfl⟩
 |succ m ihm=>
  intro p hm hp
  obtain⟨y,hy⟩:∃r,b[p]?=some r:=⟨_,H4 (by omega)⟩
  have hA0:(A.map vi)[Int.toNat 0]?=some (vi x):=by rw[hA];rfl
  have hA1:1<=((A.map vi).length:Int):=by rw[hA];simp only[H3,H9];omega
  have hAd:((A.map vi).take (A.map vi).length).drop (Int.toNat (1:Int))=a.map vi:=by rw[List.take_length,hA];rfl
  have hlt:decide ((p:Int)<((b.map vi).length:Int))=true:=H6 (by rw[H3];omega)
  have hbe:∀z:Int,(z !=z)=false:=fun z=>by simp
  have hw:wrap i64 ((p:Int)+1)=((p+1:Nat):Int):=by rw[Al (by omega) (by omega)];omega
  obtain⟨l2,h2l,h2⟩:=ihm (p+1) (by omega) (by omega)
  rw[pL]
  by_cases h1:y=x
  ·subst h1
   have hc:=VX rk b f p y hp hb hbr hy
   cases hcv:AhG rk b f p y with
   |false=>
    rw[hcv] at hc
    refine⟨l2,h2l,?_⟩
    rw[hy,HZ,IY,Bool.false_or]
    refine lv 58 [] (.t<|.x (vi y)<|.x (vi y)<|.f<|.c (db false)<|.k<|.l [ke 0,ke 1,ke 2,ke 3,ch 10 (di (p+1:Nat))]) (decide ((p:Int)<(length (map vi b):Int))=true/\0<=(p:Int)/\(map vi b)[Int.toNat (p:Int)]?=some (vi y)/\iz 0<=0/\(map vi A)[Int.toNat 0]?=some (vi y)/\(y !=y)=false/\F0 342 [dIs rk,dIs b,di (f:Int),di (p:Int)] (db false)/\di (wrap i64 ((p:Int)+1))=di (↑(p+1):Int)/\I0 Ac7 0 (Azn [dIs l2,db (pL rk b y (pS rk b a) f m (p+1))]) σ0 Aq5 (mkE 58 [(0,dIs rk),(1,dIs A),(2,dIs b),(3,di (f:Int)),(10,di (↑(p+1):Int))]) Akz) ?_
    exact⟨hlt,by omega,Aq hy,HV _,hA0,hbe y,hc,Ad (by omega),⟨h2⟩⟩
   |true=>
    rw[hcv] at hc
    obtain⟨l1,h1l,h3⟩:=ih (p+1) (by omega)
    cases hs:pS rk b a (p+1) with
    |false=>
     rw[hs] at h3
     refine⟨l2,h2l,?_⟩
     rw[hy,IY,IY,Bool.false_or]
     refine lv 58 [] (.t<|.x (vi y)<|.x (vi y)<|.f<|.c (db true)<|.k<|.c (.tup [dIs l1,db false])<|.k<|.l [ke 0,ke 1,ke 2,ke 3,ch 10 (di (p+1:Nat))]) (decide ((p:Int)<(length (map vi b):Int))=true/\0<=(p:Int)/\(map vi b)[Int.toNat (p:Int)]?=some (vi y)/\iz 0<=0/\(map vi A)[Int.toNat 0]?=some (vi y)/\(y !=y)=false/\F0 342 [dIs rk,dIs b,di (f:Int),di (p:Int)] (db true)/\(∀(x:V),x∈map vi A->V.size x=1)/\0<=(1:Int)/\(1:Int)<=(length (map vi A):Int)/\F0 333 [dIs rk,D.v (Azf (List.drop (Int.toNat ((1:Int))) (take (length (map vi A)) (map vi A)))),dIs b,di (wrap i64 ((p:Int)+1))] (Azn [dIs l1,db false])/\di (wrap i64 ((p:Int)+1))=di (↑(p+1):Int)/\I0 Ac7 0 (Azn [dIs l2,db (pL rk b y (pS rk b a) f m (p+1))]) σ0 Aq5 (mkE 58 [(0,dIs rk),(1,dIs A),(2,dIs b),(3,di (f:Int)),(10,di (↑(p+1):Int))]) Akz) ?_
     refine⟨hlt,by omega,Aq hy,HV _,hA0,hbe y,hc,Ec A,by decide,hA1,?_,Ad (by omega),⟨h2⟩⟩
     rw[hw,hAd];exact h3
    |true=>
     rw[hs] at h3
     refine⟨(p:Int)::l1,by simp;omega,?_⟩
     rw[hy,Ib,beq_self_eq_true,Ib,Bool.true_or]
     refine lv 58 [] (.t<|.x (vi y)<|.x (vi y)<|.f<|.c (db true)<|.k<|.c (.tup [dIs l1,db true])<|.k<|.a 1<|.w<|.r) (decide ((p:Int)<(length (map vi b):Int))=true/\0<=(p:Int)/\(map vi b)[Int.toNat (p:Int)]?=some (vi y)/\iz 0<=0/\(map vi A)[Int.toNat 0]?=some (vi y)/\(y !=y)=false/\F0 342 [dIs rk,dIs b,di (f:Int),di (p:Int)] (db true)/\(∀(x:V),x∈map vi A->V.size x=1)/\0<=(1:Int)/\(1:Int)<=(length (map vi A):Int)/\F0 333 [dIs rk,D.v (Azf (List.drop (Int.toNat ((1:Int))) (take (length (map vi A)) (map vi A)))),dIs b,di (wrap i64 ((p:Int)+1))] (Azn [dIs l1,db true])/\Q (vi (p:Int)::nV)/\Ar (length (V.int i64 (p:Int)::nV)+length (map vi l1)) 8/\(∀(y:V),y∈map vi l1->V.size y=1)/\Azn [D.v (Azf (vi (p:Int)::[]++(map vi l1))),db true]=Azn [dIs ((p:Int)::l1),db true]) ?_
     refine⟨hlt,by omega,Aq hy,HV _,hA0,hbe y,hc,Ec A,by decide,hA1,?_,rfl,⟨?_,?_⟩,Ec l1,rfl⟩
     ·rw[hw,hAd];exact h3
     ·simp only[H3,H9,HD];omega
     ·simp only[H3,H9,HD];omega
  ·refine⟨l2,h2l,?_⟩
   rw[hy,show(some y==some x)=false from Ii.2 (by simpa using h1),HZ,Bool.false_or]
   refine lv 58 [] (.t<|.x (vi y)<|.x (vi x)<|.t<|.k<|.l [ke 0,ke 1,ke 2,ke 3,ch 10 (di (p+1:Nat))]) (decide ((p:Int)<(length (map vi b):Int))=true/\0<=(p:Int)/\(map vi b)[Int.toNat (p:Int)]?=some (vi y)/\iz 0<=0/\(map vi A)[Int.toNat 0]?=some (vi x)/\(y !=x)=true/\di (wrap i64 ((p:Int)+1))=di (↑(p+1):Int)/\I0 Ac7 0 (Azn [dIs l2,db (pL rk b x (pS rk b a) f m (p+1))]) σ0 Aq5 (mkE 58 [(0,dIs rk),(1,dIs A),(2,dIs b),(3,di (f:Int)),(10,di (↑(p+1):Int))]) Akz) ?_
   exact⟨hlt,by omega,Aq hy,HV _,hA0,by simpa using h1,Ad (by omega),⟨h2⟩⟩
theorem Re{rk b:List Int}(hb:b.length<=1000)(hbr:∀x∈b,0<=x/\x<rk.length):∀(a:List Int),a.length<=1000->∀f:Nat,f<=b.length->∃l:List Int,l.length<=a.length/\Aa PP 333 [dIs rk,dIs a,dIs b,di f] σ0 (.tup [dIs l,db (pS rk b a f)]) σ0
 |[],_,f,hf=>by
  refine⟨[],HB _,?_⟩
  refine sv Ac7 58 [] (.k .r) (Azn [D.v (Azf []),db ((f:Int)==(length (map vi b):Int))]=Azn [dIs [],db (pS rk b [] f)]) ?_
  rw[H3];rfl
 |x::a,ha,f,hf=>by
  have ha:a.length+1<=1000:=ha
  obtain⟨A,hA⟩:∃A,A=x::a:=⟨_,rfl⟩
  obtain⟨l,hl,h⟩:=ZL hb hbr hA (by omega) (fun f hf=>Re hb hbr a (by omega) f hf) f _ f rfl (HB _)
  refine⟨l,hl,?_⟩
  have hAl:((A.map vi).length:Int)≠0:=by rw[hA];simp only[H3,H9];omega
  rw[pS, ←hA]
  refine sv Ac7 58 [] (.f<|.l [ke 0,ke 1,ke 2,ke 3,ch 10 (di f)]) (((length (map vi A):Int)==0)=false/\Q (di (f:Int))/\I0 Ac7 σ0.H.length (Azn [dIs l,db (pL rk b x (pS rk b a) f (length b-f) f)]) σ0 Aq5 (mkE 58 [(0,dIs rk),(1,dIs A),(2,dIs b),(3,di (f:Int)),(Apc f)]) σ0) ?_
  exact⟨Ii.2 hAl,rfl,⟨h⟩⟩
noncomputable abbrev AjO:Func:= Tryz.f326
noncomputable abbrev AjN:Func:= Tryz.f321
def F7(rk a b:List Int):Bool:=pS rk b a 0
theorem ZQ{rk a b:List Int}(hr:rk.length<=1000)(ha:TZ rk a=true)(hb:TZ rk b=true):∃l:List Int,Aa PP 326 [dIs rk,dIs a,dIs b] σ0 (.tup [dIs l,db (F7 rk a b)]) σ0:=by
 have h1:=Gk ha
 have h2:=Gk hb
 have v1:=MK rk a hr (by omega)
 have v2:=MK rk b hr (by omega)
 rw[ha] at v1
 rw[hb] at v2
 obtain⟨l,_,h⟩:=Re (by omega) h2.2 a (by omega) 0 (by omega)
 refine⟨l,?_⟩
 refine sv AjO 24 [] (.c (db true)<|.k<|.c (db true)<|.k<|.c (.tup [dIs l,db (F7 rk a b)]) .r) (Aq9 rk a/\Aq9 rk b/\F0 333 [dIs rk,dIs a,dIs b,di 0] (Azn [dIs l,db (F7 rk a b)])/\Azn [dIs l,db (F7 rk a b)]=Azn [dIs l,db (F7 rk a b)]) ?_
 exact⟨v1,v2,h,rfl⟩
theorem ZP{rk a b:List Int}(hr:rk.length<=1000)(ha:TZ rk a=true)(hb:TZ rk b=true):Aa PP 321 [dIs rk,dIs a,dIs b] σ0 (db (F7 rk a b)) σ0:=by
 obtain⟨l,h⟩:=ZQ hr ha hb
 refine sv AjN 17 [] (.c (.tup [dIs l,db (F7 rk a b)]) .r) (F0 326 [dIs rk,dIs a,dIs b] (Azn [dIs l,db (F7 rk a b)])/\Q (db (F7 rk a b))) ?_
 exact⟨h,rfl⟩
theorem AaB{n:Int}{v:Val}(h:Cd n v=true):0<=v.n/\v.n<n:=by
 unfold Cd at h
 simp only[H5,HE] at h
 omega
theorem AbN(n:Int)(r:List Int)(hr:Adx r=true)(hn:n=r.length):Q5 (.prio n r) (fun a b=>F7 r (a.kids.map Val.n) (b.kids.map Val.n)):=fun a b ha hb=>by
 simp only[Am,H5,Ie,Ip,HE] at ha hb
 have hrl:r.length<=1000:=by
  unfold Adx at hr
  simp only[H5,HE] at hr
  omega
 have hv:∀v:Val,(v.kids.length:Int)<=12->(∀k∈v.kids,Cd n k=true)->TZ r (v.kids.map Val.n)=true:=fun v h1 h2=>by
  unfold TZ
  rw[hr,Ib,H5,Iv]
  refine⟨H6 (by rw[H3];omega),List.any_eq_false.2 fun x hx=>?_⟩
  obtain⟨k,hk,rfl⟩:=Il.1 hx
  have:=AaB (h2 k hk)
  simp;omega
 have h1:=Ru a.kids (by omega)
 have h2:=Ru b.kids (by omega)
 have h3:=ZP hrl (hv a ha.2.1 ha.2.2) (hv b hb.2.1 hb.2.2)
 refine sv Yx 87 [3,4,5] (.k<|.k<|.k<|.k<|.k<|.k<|.c (dIs (a.kids.map Val.n))<|.c (dIs (b.kids.map Val.n))<|.c (db (F7 r (a.kids.map Val.n) (b.kids.map Val.n))) .r) (F0 322 [dVs a.kids] (dIs (map Val.n a.kids))/\F0 322 [dVs b.kids] (dIs (map Val.n b.kids))/\F0 321 [D.v (vIs (Typ.rk (Aqq n r))),D.v (vIs (map Val.n a.kids)),D.v (vIs (map Val.n b.kids))] (db (F7 r (map Val.n a.kids) (map Val.n b.kids)))/\Q (db (F7 r (map Val.n a.kids) (map Val.n b.kids)))) ?_
 exact⟨h1,h2,h3,rfl⟩
noncomputable abbrev Akd:Func:= Tryz.f315
noncomputable abbrev Aio:Func:= Tryz.f314
theorem AbH{t:Typ}{q:Val->Val->Bool}(h:Q5 t q)(a b:Val)(ha:Am t a=true)(hb:Am t b=true):Aa PP 315 [dT t,dV a,dV b] σ0 (db (q a b)) σ0:=by
 refine sv Akd 11 [3,4,5] (.c (db (q a b)) .r) (F0 316 [D.v (vT t),dV a,dV b] (db (q a b))/\Q (db (q a b))) ?_
 exact⟨h a b ha hb,rfl⟩
theorem Ob{m:Mod}{t:Typ}{q:Val->Val->Bool}(hT:Aa PP 256 [Ag m] σ0 (.tup [dT t,di 0]) σ0)(ht:C0 8 t=true)(h:Q5 t q)(a b:Val)(ha:Aj t a=true)(hb:Aj t b=true):Aa PP 314 [Ag m,dV a,dV b] σ0 (.tup [db (q a b),di 0]) σ0:=by
 have ha':=ha
 have hb':=hb
 simp only[Aj,H5,HE] at ha' hb'
 have v1:=EH t ht a (by omega)
 have v2:=EH t ht b (by omega)
 rw[ha] at v1
 rw[hb] at v2
 have h3:=AbH h a b ha'.2 hb'.2
 refine sv Aio 34 [3,4,5] (.c (.tup [dT t,di 0])<|.k<|.c (db true)<|.k<|.c (db true)<|.k<|.c (db (q a b)) .r) (F0 256 [Ag m] (Azn [dT t,di 0])/\F0 140 [D.v (Amn t),dV a] (db true)/\F0 140 [D.v (Amn t),dV b] (db true)/\F0 315 [D.v (Amn t),dV a,dV b] (db (q a b))/\Q (Azn [db (q a b),di 0])) ?_
 exact⟨hT,v1,v2,h3,rfl⟩
noncomputable abbrev Ai3:Func:= Tryz.f256
theorem OC{m:Mod}{t:Typ}(h1:Aa PP 52 [Ag m] σ0 (di 0) σ0)(h2:Aa PP 141 [Ag m] σ0 (dT t) σ0):Aa PP 256 [Ag m] σ0 (.tup [dT t,di 0]) σ0:=by
 refine sv Ai3 13 [1] (.c (di 0)<|.k<|.c (dT t) .r) (Ak1 m/\F0 141 [Ag m] (dT t)/\Azn [D.v (Azh [vi (Typ.kd t),vi (Typ.sz t),Azf (map vi (Typ.rk t)),Azf (map eT (Typ.ps t))]),di 0]=Azn [dT t,di 0]) ?_
 exact⟨h1,h2,rfl⟩
theorem Ln:∀(l:List Typ) (vs:List Val) (k:Nat) (t:Typ) (v:Val),AW l vs=true->l[k]?=some t->vs[k]?=some v->Am t v=true
 |[],_,_,_,_,_,h,_=>by simp at h
 |_::_,[],_,_,_,_,_,h=>by simp at h
 |s::l,x::vs,0,t,v,h,h1,h2=>by
  simp only[AW,H5] at h
  simp at h1 h2
  subst h1;subst h2;exact h.1
 |s::l,x::vs,k+1,t,v,h,h1,h2=>by
  simp only[AW,H5] at h
  exact Ln l vs k t v h.2 (by simpa using h1) (by simpa using h2)
theorem J3{l:List Typ}{c:Val}(h:Aj (.prod l) c=true):c.size<=128/\c.kids.length=l.length/\AW l c.kids=true:=by
 simp only[Aj,Am,H5,HE,Ie] at h
 obtain⟨h1,h2,h3,h4⟩:=h
 exact⟨by omega,by omega,h4⟩
theorem Wx{l:List Typ}{c:Val}(h:Am (.prod l) c=true):c.kids.length=l.length/\AW l c.kids=true:=by
 simp only[Am,H5,Ie] at h
 exact⟨by omega,h.2.2⟩
theorem TG{m:Mod}(hk:m.kind=2∨m.kind=3)(c:Val)(h:Aj (AI m) c=true):ChC m c:=by
 rw[AI] at h
 obtain⟨h1,h2,h3⟩:=J3 h
 refine⟨h1,by rw[h2];simp;omega,fun k x hx=>?_⟩
 have hkl:=(H7.1 hx).1
 have ht:(Typ.lab m.states.length::replicate m.places.length (BH m))[1+k]?=some (BH m):=by
  rw[show 1+k=k+1 by omega,Jm,List.getElem?_replicate]
  rw[HP]
  simp at h2;omega
 have ho:=Ln _ _ _ _ _ h3 ht hx
 rcases hk with hk|hk
 ·rw[show BH m=.word (.lab m.letters.length) by simp[BH,hk]] at ho
  simp only[Am,H5,HE] at ho
  have:=ho.2.1
  omega
 ·rw[show BH m=.prio m.letters.length m.ranks by simp[BH,hk]] at ho
  simp only[Am,H5,HE] at ho
  have:=ho.2.1
  omega
theorem XT{m:Mod}(c:Val)(h:Aj (AR m) c=true):TmC c:=by
 rw[AR] at h
 obtain⟨h1,h2,h3⟩:=J3 h
 have hb:∀b,c.kids[1]?=some b->Am (.bag (.prod [.lab m.places.length,.lab (m.age+2)])) b=true:=fun b hb=>Ln _ _ 1 _ _ h3 rfl hb
 refine⟨h1,h2,fun b hx=>?_,fun b v hx hv=>?_⟩
 ·have ho:=hb b hx
  simp only[Am,H5] at ho
  have:=HF ho.1.2.1
  omega
 ·have ho:=hb b hx
  rw[Am] at ho
  simp only[H5,Ip] at ho
  exact(Wx (ho.1.2.2 v hv)).1
theorem FO.chm{K:Int}{m:Mod}(hK:K=2∨K=3)(h:FO K m):ChM m (AI m):=by
 have hk:m.kind=2∨m.kind=3:=by rw[h.kind];exact hK
 have hpl:1<=m.places.length/\m.places.length<=2:=by rcases h.places with e|e<;>rw[e]<;>decide
 refine⟨(h.ok hK).int,FH m (h.ok hK),hk,⟨by have:=h.count;omega,hpl.2⟩,fun r hr=>?_,TG hk⟩
 obtain⟨i,hi⟩:=getElem?_of_mem hr
 have:=(h.rules i r hi).act
 omega
theorem BR.tmm{m:Mod}(h:BR m):TmM m (AR m):=by
 refine⟨h.int,Jw m h,h.kind,by have:=h.count;omega,fun r hr=>?_,XT⟩
 obtain⟨i,hi⟩:=getElem?_of_mem hr
 have hr2:=h.rules i r hi
 refine⟨?_,?_⟩
 ·rcases hr2.takes with e|⟨_,_,_,_,_,e⟩<;>rw[e]<;>simp
 ·rcases hr2.makes with e|⟨_,_,e⟩<;>rw[e]<;>simp
theorem F3{t:Typ}{c:Val}(h:Aj t c=true):c.size<=128:=by
 simp only[Aj,H5,HE] at h
 omega
structure Fw(m:Mod)(C:Val->Prop)(S:Val->List Stp×Int):Prop where
 walks:Aa PP 22 [Ag m] σ0 (di 0) σ0
 start:C m.start
 size:∀v,C v->v.size<=1000
 all:∀v,C v->Aa PP 92 [Ag m,dV v] σ0 (dSP (S v)) σ0
 len:∀v,C v->(S v).1.length<=256
 next:∀v,C v->∀s∈ (S v).1,C s.2
abbrev cX(m:Mod)(most:Int)(F S:D):List D:=[di m.kind,.v (vSs m.states),.v (vSs m.places),.v (vSs m.letters),.v (vIs m.ranks),di m.levels,di m.age,.v (CJ m.rules),di m.start.n,dVs m.start.kids,di most,F,S]
abbrev ow1(st:List (List Stp)):List (Nat×Nat×List V):=[(1,1,st.map Ay)]
abbrev stX(m:Mod)(most:Int)(l:List Val)(st:List (List Stp)):St:=⟨[some (cX m most (.gro 1 l.length 2) (.acc 1 (st.map Ay))),some (Ab (l.map eV))],ow1 st⟩
theorem okX(m:Mod)(most:Int)(l:List Val)(st:List V)(n:Nat)(ts:List Nat)(h1:ts.contains 1=true)(h2:1<n):okH n ts [some (cX m most (.gro 1 l.length 2) (.acc 1 st)),some (Ab (l.map eV))]=true:=by
 have h1:1∈ts:=by simpa using h1
 simp[okH,D.okNs,D.okN,Ai,h1,h2]
def BF(S:Val->List Stp×Int):List Val->List (List Stp)->List (List Stp)×Int
 |[],st=>(st,0)
 |c::l,st=>if ((S c).2 !=0)=true then(st,(S c).2) else BF S l (st++[(S c).1])
noncomputable abbrev Xb:Func:= Tryz.f54
noncomputable def TO:Code:=Xb.body.getD .skip
noncomputable abbrev Ak9:=fun a₀=>(Azc 1 (map Ay a₀))
noncomputable abbrev Akq:=fun a₀ b₀ c₀ d₀ e₀=>[some (cX a₀ b₀ (Azm 1 c₀ 2) (Azc 1 (map Ay d₀))),some (Ab (map eV e₀))]
noncomputable abbrev Ape:=fun a₀ b₀ c₀ d₀=>(cX a₀ b₀ (Azm 1 c₀ 2) (Ak9 d₀))
noncomputable abbrev Apy:=fun a₀=>(1,1,map Ay a₀)
theorem WJ{m:Mod}{C:Val->Prop}{S:Val->List Stp×Int}(hm:Fw m C S)(most:Int)(l:List Val)(hl:l.length<=256)(hC:∀v∈l,C v)(k0:Nat)(hk0:k0<l.length)(N:Nat):∀(j:Nat) (st:List (List Stp)),l.length-k0-j=N->st.length=k0+j->
  Rn PP Xb 2 (di (BF S (l.drop (k0+j)) st).2) (stX m most l (BF S (l.drop (k0+j)) st).1) ([.lp (sub TO [1,0,1,0,0]),.blk 0,.code (sub TO [1,1])]++[]) (mkE 45 [(0,.ptr 0 0),(16,.arr 1 (k0*2) (l.length-k0)),(17,di ((l.length-k0:Nat):Int)),(18,di j)]) (stX m most l st):=by
 induction N with
 |zero=>
  intro j st hn hs
  rw[HO (by omega)]
  simp only[BF]
  refine lv 45 [] (.f .ro) (decide ((j:Int)<(↑(length l-k0):Int))=false/\okH 2 [1] [some (cX m most (Azm 1 l.length 2) (Azc 1 (map Ay st))),some (Ab (map eV l))]=true/\Q [some (cX m most (Azm 1 l.length 2) (Azc 1 (map Ay st))),some (Ab (map eV l))]/\Q [(1,1,map Ay st)]/\Q (di 0)) ?_
  exact⟨H8 (by omega),okX _ _ _ _ _ _ rfl (by decide),rfl,rfl,rfl⟩
 |succ N ih=>
  intro j st hn hs
  obtain⟨c,hc⟩:∃c,l[k0+j]?=some c:=⟨_,H4 (by omega)⟩
  have e3:l.drop (k0+j)=c::l.drop (k0+j+1):=by rw[HJ (by omega)];congr 1;rw[H4 (by omega)] at hc;simpa using hc
  have hcc:=hC c (HA hc)
  have hall:=hm.all c hcc
  have hfl:=BA l
  have hat:=K4 hc
  have e0:k0*2+Int.toNat (j:Int)*2=(k0+j)*2:=by omega
  rw[e3,BF]
  generalize S c=p at*
  by_cases h2:(p.2 !=0)=true
  ·rw[HP h2]
   refine lv 45 [] (.t<|.m (dV c)<|.c (dSP p)<|.t .ro) (decide ((j:Int)<(↑(length l-k0):Int))=true/\0<=(j:Int)/\(j:Int)<(↑(length l-k0):Int)/\k0*2+Int.toNat (j:Int)*2+2<=length (Ab (map eV l))/\take 2 (List.drop (k0*2+Int.toNat (j:Int)*2) (Ab (map eV l)))=[di c.n,dVs c.kids]/\F0 92 [Ag m,dV c] (dSP p)/\(True/\True/\True)/\(p.snd !=0)=true/\okH 2 [1] [some (cX m most (Azm 1 l.length 2) (Azc 1 (map Ay st))),some (Ab (map eV l))]=true/\[some (cX m most (Azm 1 l.length 2) (Azc 1 (map Ay st))),some (Ab (map eV l))]=[some (cX m most (Azm 1 l.length 2) (Azc 1 (map Ay (st,p.snd).fst))),some (Ab (map eV l))]/\[(1,1,map Ay st)]=[(1,1,map Ay (st,p.snd).fst)]/\di p.snd=di (st,p.snd).snd) ?_
   exact⟨H6 (by omega),by omega,by omega,by omega,by rw[e0];exact hat,hall,⟨trivial,trivial,trivial⟩,h2,okX _ _ _ _ _ _ rfl (by decide),rfl,rfl,rfl⟩
  ·rw[HL h2]
   refine lv 45 [] (.t<|.m (dV c)<|.c (dSP p)<|.f<|.lo [ke 0,ke 16,ke 17,ch 18 (di (j+1:Nat))] (stX m most l (st++[p.1]))) (decide ((j:Int)<(↑(length l-k0):Int))=true/\0<=(j:Int)/\(j:Int)<(↑(length l-k0):Int)/\k0*2+Int.toNat (j:Int)*2+2<=length (Ab (map eV l))/\take 2 (List.drop (k0*2+Int.toNat (j:Int)*2) (Ab (map eV l)))=[di c.n,dVs c.kids]/\F0 92 [Ag m,dV c] (dSP p)/\(True/\True/\True)/\(p.snd !=0)=false/\Q (map Ay st)/\Ar (length (map Ay st)+length (Ay p.fst::nV)) 24/\di (wrap i64 ((j:Int)+1))=di (↑(j+1):Int)/\okH 2 [1] [some [di m.kind,D.v (vSs m.states),D.v (vSs m.places),D.v (vSs m.letters),dIs m.ranks,di m.levels,di m.age,D.v (CJ m.rules),di m.start.n,dVs m.start.kids,di most,Azm 1 l.length 2,Azc 1 (map Ay st++[Ay p.fst])],some (Ab (map eV l))]=true/\[some [di m.kind,D.v (vSs m.states),D.v (vSs m.places),D.v (vSs m.letters),dIs m.ranks,di m.levels,di m.age,D.v (CJ m.rules),di m.start.n,dVs m.start.kids,di most,Azm 1 l.length 2,Azc 1 (map Ay st++Ay p.fst::nV)],some (Ab (map eV l))]=[some (cX m most (Azm 1 l.length 2) (Azc 1 (map Ay (st++[p.fst])))),some (Ab (map eV l))]/\[(1,1,map Ay st++Ay p.fst::nV)]=[(1,1,map Ay (st++[p.fst]))]/\I0 Xb 2 (di (BF S (List.drop (k0+j+1) l) (st++[p.fst])).snd) (stX m most l (BF S (List.drop (k0+j+1) l) (st++[p.fst])).fst) [kl TO [1,0,1,0,0],Aza 0,kc TO [1,1]] (mkE 45 [(0,Azb 0 0),(16,Azi 1 (k0*2) (length l-k0)),(17,di (↑(length l-k0):Int)),(18,di (↑(j+1):Int))]) (stX m most l (st++[p.fst]))) ?_
   have e4:(st++[p.1]).map Ay=st.map Ay++[Ay p.1]:=by rw[IJ];rfl
   refine⟨H6 (by omega),by omega,by omega,by omega,by rw[e0];exact hat,hall,⟨trivial,trivial,trivial⟩,HG h2,rfl,⟨?_,?_⟩,Ad (by omega),okX _ _ _ _ _ _ rfl (by decide),by rw[e4],by rw[e4],⟨ih (j+1) _ (by omega) (by simp;omega)⟩⟩
   ·simp only[H3,H9,HD];omega
   ·simp only[H3,H9,HD];omega
theorem OD{m:Mod}{C:Val->Prop}{S:Val->List Stp×Int}(hm:Fw m C S)(most:Int)(l:List Val)(hl:l.length<=256)(hC:∀v∈l,C v)(st:List (List Stp))(hs:st.length<l.length):
  Aa PP 54 [.ptr 0 0] (stX m most l st) (di (BF S (l.drop st.length) st).2) (stX m most l (BF S (l.drop st.length) st).1):=by
 refine sv Xb 45 [] (.lo [ke 0,ke 16,ke 17,ch 18 (di (0:Nat))] (stX m most l st)) (0<=(length (map Ay st):Int)/\(length (map Ay st):Int)<(l.length:Int)/\(True/\True/\True)/\di 0=di (↑0:Int)/\okH 2 [1] (Akq m most l.length st l)=true/\Q (Akq m most l.length st l)/\Q [(Apy st)]/\I0 Xb (length (stX m most l st).H) (di (BF S (List.drop st.length l) st).snd) (stX m most l (BF S (List.drop st.length l) st).fst) [kl TO [1,0,1,0,0],Aza 0,kc TO [1,1]] (mkE 45 [Ald,(16,Azi 1 (0+Int.toNat (length (map Ay st):Int)*2) (length l-Int.toNat (length (map Ay st):Int))),(17,di (↑(length l-Int.toNat (length (map Ay st):Int)):Int)),(18,di (↑0:Int))]) (stX m most l st)) ?_
 refine⟨by omega,by rw[H3];omega,⟨trivial,trivial,trivial⟩,rfl,okX _ _ _ _ _ _ rfl (by decide),rfl,rfl,⟨?_⟩⟩
 have:=WJ hm most l hl hC st.length hs _ 0 st rfl rfl
 rw[show(st.map Ay).length=st.length from H3 ..]
 simpa using this
def Ue(found:List Val):List Stp->List Val->List Val
 |[],out=>out
 |s::l,out=>if decide (Ew found s.2<0)=true then(if decide (Ew out s.2<0)=true then Ue found l (out++[s.2]) else Ue found l out) else Ue found l out
def G8(found:List Val):List (List Stp)->List Val->List Val
 |[],out=>out
 |l::ls,out=>G8 found ls (Ue found l out)
theorem GP(found:List Val):∀(l:List Stp) (out:List Val),(Ue found l out).length<=out.length+l.length
 |[],out=>HB _
 |s::l,out=>by
  rw[Ue,H9]
  split
  ·split
   ·have:=GP found l (out++[s.2]);simp at this;omega
   ·have:=GP found l out;omega
  ·have:=GP found l out;omega
theorem O0{C:Val->Prop}(found:List Val):∀(l:List Stp) (out:List Val),(∀s∈l,C s.2)->(∀v∈out,C v)->∀v∈Ue found l out,C v
 |[],out,_,h=>h
 |s::l,out,h1,h=>by
  have hl:∀s∈l,C s.2:=fun s h=>h1 s (by simp[h])
  rw[Ue]
  split
  ·split
   ·exact O0 found l _ hl fun v hv=>by
     rcases Iq.1 hv with hv|hv
     ·exact h v hv
     ·rw[HK.1 hv];exact h1 s (by simp)
   ·exact O0 found l out hl h
  ·exact O0 found l out hl h
theorem AdI{H:List (Option (List D))}{q sz:Nat}{l:List Val}(h:H[q]?=some (some (Ab (l.map eV)))):F9 (fun o=>(H[o]?).join) 1 (.gro q l.length sz) (vVs l):=by
 refine .inr (.inr ⟨q,0,2,Ab (l.map eV),l.map eV,.inr ⟨sz,by rw[H3],rfl⟩,rfl,by decide,C7 l,by show(H[q]?).join=_;rw[h];rfl,fun j y hj=>⟨?_,.v y,?_,.v y,.same,rfl⟩⟩)
 ·obtain⟨x,hx,hv⟩:=List.mem_flatMap.1 (HA hj)
  obtain⟨v,_,rfl⟩:=Il.1 hx
  rw[Bz] at hv
  simp only[V.cellsV,Ij,IU,or_false] at hv
  rcases hv with rfl|rfl<;>rfl
 ·rw[Io,Ab,Ik,hj];rfl
theorem Ad5{H:List (Option (List D))}{own:List (Nat×Nat×List V)}{q sz:Nat}{l:List Val}(h:H[q]?=some (some (Ab (l.map eV))))(hl:l.length<=1000000)(hs:∀v∈l,v.size<=1000000)(v:Val){o:Oper}{c:Call}{fo:Operand}(ho:o.op=.call c)(hc:c.callee=.value fo):
  Ah PP o [.v (.fn 93 [] []),.gro q l.length sz,dV v] ⟨H,own⟩ (di (Ew l v)) ⟨H,own⟩:=by
 refine Aai (σ:=⟨H,own⟩) ho hc (fs:=[]) (cs:=[]) (xs:=[vVs l,Af v]) (d0:=di (Ew l v)) (.cons (AdI h) (.cons (n:=0) ⟨dV v,.same,rfl⟩ .nil)) rfl ?_
 exact Od l hl hs v
noncomputable abbrev WZ:Func:= Tryz.f55
noncomputable def D8:Code:=WZ.body.getD .skip
abbrev stY(m:Mod)(most:Int)(l:List Val)(st:List (List Stp))(out:List Val):St:=⟨[some (cX m most (.gro 1 l.length 2) (.acc 1 (st.map Ay))),some (Ab (l.map eV))],(2,2,out.map eV)::ow1 st⟩
noncomputable abbrev Al9:=[kl D8 [1,1,0,1,0,0,1,1,0,0,1,1,0,0],Aza 2,Aza 1,kc D8 [1,1,0,1,0,0,1,1,1],kl D8 Akw,Aza 0,kc D8 [1,1,1]]
noncomputable abbrev Aqh:=fun a₀=>[ke 0,ke 5,ke 15,ke 16,ke 17,ke 21,ke 22,ch 23 (di (a₀+1:Nat))]
noncomputable abbrev Aql:=fun a₀ b₀=>[D.v (Azl 93 [] []),Azm 1 a₀ 2,dV b₀]
noncomputable abbrev Arl:=fun a₀=>(2,2,map eV a₀)
theorem AfK{m:Mod}{C:Val->Prop}(hz:∀v,C v->v.size<=1000)(most:Int)(l:List Val)(hl:l.length<=256)(hC:∀v∈l,C v)(st ls:List (List Stp))(d:D)(σ':St)(i:Nat)(hi:i<=1000)(sl:List Stp)(hsl:sl.length<=256)(hsC:∀s∈sl,C s.2)
  (out1:List Val) (hout:Rn PP WZ 2 d σ' ([.lp (sub D8 [1,1,0,1,0,0]),.blk 0,.code (sub D8 [1,1,1])]++[]) (mkE 50 [(0,.ptr 0 0),(5,.acc 2 (out1.map eV)),(15,.v (.list (ls.map Ay))),(16,di ls.length),(17,di (i+1:Nat))]) (stY m most l st out1)) (N:Nat):∀(k:Nat) (out:List Val),sl.length-k=N->out.length+(sl.length-k)<=70000->(∀v∈out,C v)->Ue l (sl.drop k) out=out1->
  Rn PP WZ 2 d σ' ([.lp (sub D8 [1,1,0,1,0,0,1,1,0,0,1,1,0,0]),.blk 2,.blk 1,.code (sub D8 [1,1,0,1,0,0,1,1,1]),.lp (sub D8 [1,1,0,1,0,0]),.blk 0,.code (sub D8 [1,1,1])]++[]) (mkE 50 [(0,.ptr 0 0),(5,.acc 2 (out.map eV)),(15,.v (.list (ls.map Ay))),(16,di ls.length),(17,di i),(21,.v (Ay sl)),(22,di sl.length),(23,di k)]) (stY m most l st out):=by
 induction N with
 |zero=>
  intro k out hn ho hoC he
  refine lv 50 [] (.f<|.lo [ke 0,ke 5,ke 15,ke 16,ch 17 (di (i+1:Nat))] (stY m most l st out1)) (decide ((k:Int)<(sl.length:Int))=false/\di (wrap i64 ((i:Int)+1))=di (↑(i+1):Int)/\okH 2 [2,1] (Akq m most l.length st l)=true/\Q (Akq m most l.length st l)/\[(Arl out),(Apy st)]=(Arl out1)::ow1 st/\I0 WZ 2 d σ' [kl D8 Akw,Aza 0,kc D8 [1,1,1]] (mkE 50 [Ald,(5,Azc 2 (Alj out)),(15,D.v (Azf (map Ay ls))),(16,di (ls.length:Int)),(17,di (↑(i+1):Int))]) (stY m most l st out1)) ?_
  rw[HO (by omega)] at he
  have he:out=out1:=he
  subst he
  exact⟨H8 (by omega),Ad (by omega),okX _ _ _ _ _ _ rfl (by decide),rfl,rfl,⟨hout⟩⟩
 |succ N ih=>
  intro k out hn ho hoC he
  obtain⟨s,hs⟩:∃s,sl[k]?=some s:=⟨_,H4 (by omega)⟩
  have e3:sl.drop k=s::sl.drop (k+1):=by rw[HJ (by omega)];congr 1;rw[H4 (by omega)] at hs;simpa using hs
  have hcs:=hsC s (HA hs)
  have hi1:=fun(H:List (Option (List D))) (own:List (Nat×Nat×List V)) (h:H[1]?=some (some (Ab (l.map eV)))) (o:Oper) (c:Call) (fo:Operand) (ho:o.op=.call c) (hc:c.callee=.value fo)=>Ad5 (own:=own) (sz:=2) h (by omega) (fun v hv=>by have:=hz v (hC v hv);omega) s.2 ho hc
  have hi2:=Od out (by omega) (fun v hv=>by have:=hz v (hoC v hv);omega) s.2
  have e4:(out++[s.2]).map eV=out.map eV++[Af s.2]:=(BB ..).symm
  rw[e3,Ue] at he
  by_cases h1:decide (Ew l s.2<0)=true
  ·by_cases h2:decide (Ew out s.2<0)=true
   ·refine lv 50 [] (.t<|.x (vSt s)<|.h (.oc (di (Ew l s.2)) ⟨[some (cX m most (.gro 1 l.length 2) (.acc 1 (st.map Ay))),some (Ab (l.map eV)),some [di s.1,di s.2.n,dVs s.2.kids]],(2,2,out.map eV)::ow1 st⟩)<|.t<|.c (di (Ew out s.2))<|.t<|.lo (Aqh k) (stY m most l st (out++[s.2]))) (decide ((k:Int)<(sl.length:Int))=true/\0<=(k:Int)/\(map vSt sl)[Int.toNat (k:Int)]?=some (vSt s)/\(N0 (Aql l.length s.snd) (Azd [some (Ape m most l.length st),some (Akr l),some [di s.fst,di s.snd.n,dVs s.snd.kids]] ((Arl out)::ow1 st)) (di (Ew l s.snd)) (Azd [some (Ape m most l.length st),some (Akr l),some [di s.fst,di s.snd.n,dVs s.snd.kids]] ((Arl out)::ow1 st)))/\decide (Ew l s.snd<0)=true/\F0 93 [D.v (Azf (Alj out)),dV s.snd] (di (Ew out s.snd))/\(True/\True/\(some (Ana s.snd.n s.snd.kids)=some (Ana s.snd.n s.snd.kids)/\True)/\True)/\decide (Ew out s.snd<0)=true/\Q (Alj out)/\Ar (length (Alj out)+length (Azh (V.int i64 s.snd.n::vVs s.snd.kids::nV)::nV)) 32/\di (wrap i64 ((k:Int)+1))=di (↑(k+1):Int)/\okH 2 [2,1] (Akq m most l.length st l)=true/\Q (Akq m most l.length st l)/\[(2,2,map eV out++Azh (vi s.snd.n::vVs s.snd.kids::nV)::nV),(Apy st)]=(2,2,map eV (out++[s.snd]))::ow1 st/\I0 WZ 2 d σ' Al9 (mkE 50 [Ald,(5,Azc 2 (map eV out++[Azh [vi s.snd.n,vVs s.snd.kids]])),(15,D.v (Azf (map Ay ls))),(16,di (ls.length:Int)),(17,di (i:Int)),(21,D.v (Ay sl)),(22,di (sl.length:Int)),(23,di (↑(k+1):Int))]) (stY m most l st (out++[s.snd]))) ?_
    rw[HP h1,HP h2] at he
    have hih:=ih (k+1) (out++[s.2]) (by omega) (by simp;omega) (fun v hv=>by
     rcases Iq.1 hv with hv|hv
     ·exact hoC v hv
     ·rw[HK.1 hv];exact hcs) he
    refine⟨H6 (by omega),by omega,Aq hs,fun o c fo ho hc=>hi1 _ _ rfl o c fo ho hc,h1,hi2,⟨trivial,trivial,⟨rfl,trivial⟩,trivial⟩,h2,rfl,⟨?_,?_⟩,Ad (by omega),okX _ _ _ _ _ _ rfl (by decide),rfl,by rw[e4],⟨by rw[e4] at hih;exact hih⟩⟩
    ·simp only[H3,H9,HD];omega
    ·simp only[H3,H9,HD];omega
   ·refine lv 50 [] (.t<|.x (vSt s)<|.h (.oc (di (Ew l s.2)) ⟨[some (cX m most (.gro 1 l.length 2) (.acc 1 (st.map Ay))),some (Ab (l.map eV)),some [di s.1,di s.2.n,dVs s.2.kids]],(2,2,out.map eV)::ow1 st⟩)<|.t<|.c (di (Ew out s.2))<|.f<|.lo (Aqh k) (stY m most l st out)) (decide ((k:Int)<(sl.length:Int))=true/\0<=(k:Int)/\(map vSt sl)[Int.toNat (k:Int)]?=some (vSt s)/\(N0 (Aql l.length s.snd) (Azd [some (Ape m most l.length st),some (Akr l),some [di s.fst,di s.snd.n,dVs s.snd.kids]] ((Arl out)::ow1 st)) (di (Ew l s.snd)) (Azd [some (Ape m most l.length st),some (Akr l),some [di s.fst,di s.snd.n,dVs s.snd.kids]] ((Arl out)::ow1 st)))/\decide (Ew l s.snd<0)=true/\F0 93 [D.v (Azf (Alj out)),dV s.snd] (di (Ew out s.snd))/\(True/\True/\(some (Ana s.snd.n s.snd.kids)=some (Ana s.snd.n s.snd.kids)/\True)/\True)/\decide (Ew out s.snd<0)=false/\di (wrap i64 ((k:Int)+1))=di (↑(k+1):Int)/\okH 2 [2,1] (Akq m most l.length st l)=true/\Q (Akq m most l.length st l)/\[(Arl out),(Apy st)]=(Arl out)::ow1 st/\I0 WZ 2 d σ' Al9 (mkE 50 [Ald,(5,Azc 2 (Alj out)),(15,D.v (Azf (map Ay ls))),(16,di (ls.length:Int)),(17,di (i:Int)),(21,D.v (Ay sl)),(22,di (sl.length:Int)),(23,di (↑(k+1):Int))]) (stY m most l st out)) ?_
    rw[HP h1,HL h2] at he
    exact⟨H6 (by omega),by omega,Aq hs,fun o c fo ho hc=>hi1 _ _ rfl o c fo ho hc,h1,hi2,⟨trivial,trivial,⟨rfl,trivial⟩,trivial⟩,HG h2,Ad (by omega),okX _ _ _ _ _ _ rfl (by decide),rfl,rfl,⟨ih (k+1) out (by omega) (by omega) hoC he⟩⟩
  ·refine lv 50 [] (.t<|.x (vSt s)<|.h (.oc (di (Ew l s.2)) ⟨[some (cX m most (.gro 1 l.length 2) (.acc 1 (st.map Ay))),some (Ab (l.map eV)),some [di s.1,di s.2.n,dVs s.2.kids]],(2,2,out.map eV)::ow1 st⟩)<|.f<|.lo (Aqh k) (stY m most l st out)) (decide ((k:Int)<(sl.length:Int))=true/\0<=(k:Int)/\(map vSt sl)[Int.toNat (k:Int)]?=some (vSt s)/\(N0 (Aql l.length s.snd) (Azd [some (Ape m most l.length st),some (Akr l),some [di s.fst,di s.snd.n,dVs s.snd.kids]] ((Arl out)::ow1 st)) (di (Ew l s.snd)) (Azd [some (Ape m most l.length st),some (Akr l),some [di s.fst,di s.snd.n,dVs s.snd.kids]] ((Arl out)::ow1 st)))/\decide (Ew l s.snd<0)=false/\(True/\True/\True)/\di (wrap i64 ((k:Int)+1))=di (↑(k+1):Int)/\okH 2 [2,1] (Akq m most l.length st l)=true/\Q (Akq m most l.length st l)/\[(Arl out),(Apy st)]=(Arl out)::ow1 st/\I0 WZ 2 d σ' Al9 (mkE 50 [Ald,(5,Azc 2 (Alj out)),(15,D.v (Azf (map Ay ls))),(16,di (ls.length:Int)),(17,di (i:Int)),(21,D.v (Ay sl)),(22,di (sl.length:Int)),(23,di (↑(k+1):Int))]) (stY m most l st out)) ?_
   rw[HL h1] at he
   exact⟨H6 (by omega),by omega,Aq hs,fun o c fo ho hc=>hi1 _ _ rfl o c fo ho hc,HG h1,⟨trivial,trivial,trivial⟩,Ad (by omega),okX _ _ _ _ _ _ rfl (by decide),rfl,rfl,⟨ih (k+1) out (by omega) (by omega) hoC he⟩⟩
theorem ZX{m:Mod}{C:Val->Prop}(hz:∀v,C v->v.size<=1000)(most:Int)(l:List Val)(hl:l.length<=256)(hC:∀v∈l,C v)(st ls:List (List Stp))(hls:ls.length<=256)(hs:∀x∈ls,x.length<=256/\∀s∈x,C s.2)(N:Nat):∀(i:Nat) (out:List Val),ls.length-i=N->out.length<=i*256->(∀v∈out,C v)->
  Rn PP WZ 2 (dVs (G8 l (ls.drop i) out)) (stX m most l st) ([.lp (sub D8 [1,1,0,1,0,0]),.blk 0,.code (sub D8 [1,1,1])]++[]) (mkE 50 [(0,.ptr 0 0),(5,.acc 2 (out.map eV)),(15,.v (.list (ls.map Ay))),(16,di ls.length),(17,di i)]) (stY m most l st out):=by
 induction N with
 |zero=>
  intro i out hn ho hoC
  refine lv 50 [] (.f<|.ro) (decide ((i:Int)<(ls.length:Int))=false/\okH 2 [1] (Akq m most l.length st l)=true/\Q (Akq m most l.length st l)/\Q [(Apy st)]/\D.v (Azf (Alj out))=dVs (G8 l (List.drop i ls) out)) ?_
  rw[HO (by omega)]
  exact⟨H8 (by omega),okX _ _ _ _ _ _ rfl (by decide),rfl,rfl,rfl⟩
 |succ N ih=>
  intro i out hn ho hoC
  obtain⟨sl,hsl⟩:∃s,ls[i]?=some s:=⟨_,H4 (by omega)⟩
  refine lv 50 [] (.t<|.x (Ay sl)<|.lo [ke 0,ke 5,ke 15,ke 16,ke 17,ch 21 (.v (Ay sl)),ch 22 (di sl.length),ch 23 (di (0:Nat))] (stY m most l st out)) (decide ((i:Int)<(ls.length:Int))=true/\0<=(i:Int)/\(map Ay ls)[Int.toNat (i:Int)]?=some (Ay sl)/\Q (D.v (Ay sl))/\di (length (map vSt sl):Int)=di (sl.length:Int)/\di 0=di (↑0:Int)/\okH 2 [2,1] (Akq m most l.length st l)=true/\Q (Akq m most l.length st l)/\[(Arl out),(Apy st)]=(Arl out)::ow1 st/\I0 WZ 2 (dVs (G8 l (List.drop i ls) out)) (stX m most l st) Al9 (mkE 50 [Ald,(5,Azc 2 (Alj out)),(15,D.v (Azf (map Ay ls))),(16,di (ls.length:Int)),(17,di (i:Int)),(21,D.v (Ay sl)),(22,di (sl.length:Int)),(23,di (↑0:Int))]) (stY m most l st out)) ?_
  have e3:ls.drop i=sl::ls.drop (i+1):=by rw[HJ (by omega)];congr 1;rw[H4 (by omega)] at hsl;simpa using hsl
  obtain⟨h1,h2⟩:=hs sl (HA hsl)
  have hln:=GP l sl out
  rw[e3,G8]
  have hih:=ih (i+1) (Ue l sl out) (by omega) (by omega) (O0 l sl out h2 hoC)
  exact⟨H6 (by omega),by omega,Aq hsl,rfl,by rw[H3],rfl,okX _ _ _ _ _ _ rfl (by decide),rfl,rfl,⟨AfK hz most l hl hC st ls _ _ i (by omega) sl h1 h2 _ hih _ 0 out rfl (by omega) hoC rfl⟩⟩
theorem Rm{m:Mod}{C:Val->Prop}(hz:∀v,C v->v.size<=1000)(most:Int)(l:List Val)(hl:l.length<=256)(hC:∀v∈l,C v)(st:List (List Stp))(frm:Nat)(hf:frm<=st.length)(hls:st.length<=256)(hs:∀x∈st,x.length<=256/\∀s∈x,C s.2):
  Aa PP 55 [.ptr 0 0,di frm] (stX m most l st) (dVs (G8 l (st.drop frm) [])) (stX m most l st):=by
 refine sv WZ 50 [] (.h (.q 2 0)<|.h (.nw 5 2 2)<|.lo [ke 0,ke 5,ch 15 (.v (.list ((st.drop frm).map Ay))),ch 16 (di (st.drop frm).length),ch 17 (di (0:Nat))] (stY m most l st [])) ((∀(x:V),x∈map Ay st->V.size x=1)/\0<=(fun x=>x.snd) (Anx frm)/\(fun x=>x.snd) (Anx frm)<=(length (map Ay st):Int)/\D.v (Azf (List.drop (Int.toNat ((fun x=>x.snd) (Anx frm))) (take (length (map Ay st)) (map Ay st))))=D.v (Azf (map Ay (List.drop frm st)))/\di (length (List.drop (Int.toNat ((fun x=>x.snd) (Anx frm))) (take (length (map Ay st)) (map Ay st))):Int)=di (length (List.drop frm st):Int)/\di 0=di (↑0:Int)/\okH 2 [2,1] (Akq m most l.length st l)=true/\Q (Akq m most l.length st l)/\[(2,2,nV),(Apy st)]=(2,2,nV)::ow1 st/\I0 WZ (length (stX m most l st).H) (dVs (G8 l (List.drop frm st) [])) (stX m most l st) [kl D8 Akw,Aza 0,kc D8 [1,1,1]] (mkE 50 [Ald,(5,Azc 2 []),(15,D.v (Azf (map Ay (List.drop frm st)))),(16,di (length (List.drop frm st):Int)),(17,di (↑0:Int))]) (stY m most l st [])) ?_
 have hd:(st.map Ay).drop frm=(st.drop frm).map Ay:=List.map_drop.symm
 refine⟨fun x hx=>by obtain⟨_,_,rfl⟩:=Il.1 hx;rfl,by show(0:Int)<=frm;omega,by rw[H3];show(frm:Int)<=_;omega,?_,?_,rfl,okX _ _ _ _ _ _ rfl (by decide),rfl,rfl,⟨?_⟩⟩
 ·rw[List.take_length];exact HR (fun l=>D.v (.list l)) hd
 ·rw[List.take_length];exact HR (fun l:List V=>di (l.length:Int)) (hd.trans rfl)|>.trans (by rw[H3])
 ·have:=ZX (m:=m) hz most l hl hC st (st.drop frm) (by rw[I9];omega) (fun x hx=>hs x (Iu hx)) _ 0 [] rfl (by simp) (by simp)
  simpa using this
theorem R6:∀{ks:List Val},(∀k∈ks,k.kids=[])->ks=(ks.map Val.n).map fun x=>Val.mk x []
 |[],_=>rfl
 |k::ks,h=>by
  have h1:=h k (by simp)
  rw[HU,HU, ←R6 fun x hx=>h x (by simp[hx])]
  cases k with|mk n l=>simp only[Val.kids] at h1;subst h1;rfl
theorem OB:∀(n:Nat) (vs:List Val),vs.length=n->AW (replicate n .nat) vs=true->∀v∈vs,(0<=v.n/\v.n<=1048576)/\v.kids=[]
 |0,[],_,_,v,hv=>by simp at hv
 |n+1,[],hl,_,_,_=>by simp at hl
 |0,_::_,hl,_,_,_=>by simp at hl
 |n+1,x::vs,hl,h,v,hv=>by
  rw[Ix] at h
  simp only[AW,H5] at h
  rcases Ij.1 hv with rfl|hv
  ·have h1:=h.1
   simp only[Am,H5,HE,Ie] at h1
   exact⟨⟨h1.1,h1.2.1⟩,List.length_eq_zero_iff.1 (by omega)⟩
  ·exact OB n vs (by simpa using hl) h.2 v hv
theorem Qq{m:Mod}(hk:m.kind=1){c:Val}(h:Aj (AI m) c=true):BS m c:=by
 have hn:c.n=0:=by
  simp only[Aj,AI,Am,H5,Ie] at h
  exact h.2.1
 rw[AI,show BH m=.nat by simp[BH,hk]] at h
 obtain⟨_,h2,h3⟩:=J3 h
 cases c with
 |mk n ks=>
  simp only[Val.n] at hn
  subst hn
  simp only[Val.kids] at h2 h3
  cases ks with
  |nil=>simp at h2
  |cons x vs=>
   simp only[AW,H5] at h3
   have hl:vs.length=m.places.length:=by simpa using h2
   have hx:=FA (show Cd m.states.length x=true by simpa only[Am] using h3.1)
   have hv:=OB _ vs hl h3.2
   have e:Val.mk 0 (x::vs)=C5 x.n (vs.map Val.n):=by
    rw[C5]
    congr 1
    have:=R6 (ks:=vs) fun k hk=>(hv k hk).2
    rw[←this]
    congr 1
    exact hx.1
   rw[e]
   exact XH m x.n ⟨hx.2.1,hx.2.2⟩ _ (by rw[H3,hl]) fun y hy=>by
    obtain⟨v,hv1,rfl⟩:=Il.1 hy
    exact(hv v hv1).1
theorem Q2.ctm{m:Mod}(h:Q2 m):CtM m:=⟨h.ok,h.kind,Qq h.kind h.ok.start⟩
abbrev Ade(m:Mod):Typ:=if m.kind=5 then AR m else AI m
def apA(m:Mod)(c:Val)(i:Int):List Val×Int:=if m.kind=1 then apT m c i else if m.kind=5 then XV m (AR m) c i else apC m (AI m) c i
def C2(m:Mod)(c:Val):List Stp×Int:=D9 (apA m c) (m.rules.length+1) (-1) []
abbrev F1(m:Mod)(v:Val):Prop:=Aj (Ade m) v=true
theorem FO.chr{K:Int}{m:Mod}(hK:K=2∨K=3)(h:FO K m):∀r∈m.rules,ChR m r:=fun r hr=>by
 obtain⟨i,hi⟩:=getElem?_of_mem hr
 have h1:=h.rules i r hi
 have hp:1<=m.places.length:=by rcases h.places with e|e<;>rw[e]<;>decide
 refine⟨h1.to,?_,fun ha=>?_⟩
 ·rcases h1.act with⟨_,e,_⟩|⟨_,e,_⟩<;>omega
 ·rcases h1.act with⟨e,_,_⟩|⟨_,_,e⟩<;>omega
theorem Fg.kinds{m:Mod}(h:Fg m):(CtM m/\m.kind=1)∨(∃K,(K=2∨K=3)/\FO K m/\m.kind=K)∨(BR m/\m.kind=5):=by
 cases h with
 |cM h=>exact .inl ⟨h.ctm,h.kind⟩
 |c h=>exact .inl ⟨h.ctm,h.kind⟩
 |l2 h=>exact .inr (.inl ⟨2,.inl rfl,h,h.kind⟩)
 |l3 h=>exact .inr (.inl ⟨3,.inr rfl,h,h.kind⟩)
 |tm h=>exact .inr (.inr ⟨h,h.kind⟩)
theorem KJ{m:Mod}(h:m.kind≠5):Ade m=AI m:=HL h
theorem QJ{m:Mod}(h:m.kind=5):Ade m=AR m:=HP h
theorem Aja{m:Mod}(h:m.kind=1):apA m=apT m:=by funext c i;rw[apA,HP h]
theorem AiZ{m:Mod}(h:m.kind=5):apA m=XV m (AR m):=by funext c i;rw[apA,HL (by omega),HP h]
theorem AiY{m:Mod}{K:Int}(hK:K=2∨K=3)(h:m.kind=K):apA m=apC m (AI m):=by funext c i;rw[apA,HL (by omega),HL (by omega)]
theorem Fg.int{m:Mod}(h:Fg m):Fx m (Ade m):=by
 rcases h.kinds with⟨h,hk⟩|⟨K,hK,h,hk⟩|⟨h,hk⟩
 ·rw[KJ (by omega)];exact h.ok.int
 ·rw[KJ (by omega)];exact(h.ok hK).int
 ·rw[QJ hk];exact h.int
theorem FO.rks{K:Int}{m:Mod}(h:FO K m):m.ranks.length<=1000:=by
 have h1:=h.ranks
 have h2:m.letters.length<=2:=by rcases h.letters with e|e<;>rw[e]<;>simp
 split at h1
 ·omega
 ·rw[h1];simp
theorem Fg.steps{m:Mod}(h:Fg m):Fw m (F1 m) (C2 m):=by
 have hI:=h.int
 rcases h.kinds with⟨h,hk⟩|⟨K,hK,h,hk⟩|⟨h,hk⟩
 ·have eT:=KJ (m:=m) (by omega)
  have eA:=Aja hk
  have hC:∀v,F1 m v->BS m v:=fun v hv=>Qq hk (by rw[←eT];exact hv)
  have hS:∀v,C2 m v=CO m v:=fun v=>by rw[C2,eA];rfl
  have hp:=h.places
  exact⟨hI.walks,by rw[F1,eT];exact h.ok.start,fun v hv=>by have:=(hC v hv).sizeM h;omega,fun v hv=>by rw[hS];exact LS m h v (hC v hv),fun v hv=>by rw[hS];have:=(Ht h (hC v hv)).2.1;omega,fun v hv s hs=>by
   rw[hS] at hs
   rw[F1,eT]
   exact((Ht h (hC v hv)).2.2 s hs).ok.validM h⟩
 ·have eT:=KJ (m:=m) (by omega)
  have eA:=AiY hK hk
  have hst:=(h.chm hK).st h.rks
  have hpl:m.places.length<=2:=by rcases h.places with e|e<;>rw[e]<;>decide
  have hS:∀v,Aj (AI m) v=true->C2 m v=Oh m (AI m) (apC m (AI m)) v:=fun v hv=>by rw[C2,eA,Oh,HP hv]
  refine⟨hI.walks,by rw[F1,eT];exact(h.ok hK).start,fun v hv=>by have:=F3 hv;omega,fun v hv=>?_,fun v hv=>?_,fun v hv s hs=>?_⟩
  all_goals
   have hv':=hv
   rw[F1,eT] at hv'
   have h1:=Af7 hst v (by have:=F3 hv;omega)
  ·rw[hS v hv'];exact h1.2
  ·rw[hS v hv'];exact h1.1.1
  ·rw[F1,eT]
   rw[C2,eA] at hs
   exact(Sl (ap:=apC m (AI m) v) (Q:=fun s=>Aj (AI m) s.2=true) (fun i v' hv2=>(XX (by omega) hpl (h.chr hK) hv' i).2 v' hv2) _ _) s hs
 ·have eT:=QJ hk
  have eA:=AiZ hk
  have hst:=h.tmm.st
  have hag:=h.age
  have hS:∀v,Aj (AR m) v=true->C2 m v=Oh m (AR m) (XV m (AR m)) v:=fun v hv=>by rw[C2,eA,Oh,HP hv]
  refine⟨hI.walks,by rw[F1,eT];exact h.start_ok,fun v hv=>by have:=F3 hv;omega,fun v hv=>?_,fun v hv=>?_,fun v hv s hs=>?_⟩
  all_goals
   have hv':=hv
   rw[F1,eT] at hv'
   have h1:=Af7 hst v (by have:=F3 hv;omega)
  ·rw[hS v hv'];exact h1.2
  ·rw[hS v hv'];exact h1.1.1
  ·rw[F1,eT]
   rw[C2,eA] at hs
   exact(Sl (ap:=XV m (AR m) v) (Q:=fun s=>Aj (AR m) s.2=true) (fun i v' hv2=>(TT (by omega) hv' i).2 v' hv2) _ _) s hs
theorem Aem{m:Mod}(h:m.ok):∃q,Q5 (BH m) q:=by
 rcases h.kind with hk|hk|hk
 ·rw[show BH m=.nat by simp[BH,hk]];exact⟨_,Ael⟩
 ·rw[show BH m=.word (.lab m.letters.length) by simp[BH,hk]];exact⟨_,AbK (LD _)⟩
 ·rw[show BH m=.prio m.letters.length m.ranks by simp[BH,hk]]
  have hr:=h.ranked
  have hz:=h.sz
  rw[BO,HL (by rw[hk];decide)] at hr
  simp only[H5,Ie,Ip] at hr
  have h1:=hz.2.2.2.2.2.2.2 (by omega)
  refine⟨_,AbN _ _ ?_ (by omega)⟩
  simp only[Adx,H5,HE,Iv]
  refine⟨by omega,by omega,List.any_eq_false.2 fun x hx=>?_⟩
  have:=BV (hr.2 x hx)
  simp;omega
theorem AbM{m:Mod}(h:m.ok):∃q,Q5 (AI m) q:=by
 obtain⟨q,hq⟩:=Aem h
 have hp:=h.sz
 refine⟨_,ND _ (by simp;omega) ((fun a b=>a.n==b.n)::replicate m.places.length q) fun i t ht=>?_⟩
 cases i with
 |zero=>simp only[I5,Ia] at ht;subst ht;exact⟨_,rfl,LD _⟩
 |succ i=>
  rw[Jm,List.getElem?_replicate] at ht
  split at ht
  ·rename_i hi
   simp only[Ia] at ht;subst ht;exact⟨q,by rw[Jm,List.getElem?_replicate,HP hi],hq⟩
  ·simp at ht
theorem AbL(m:Mod):∃q,Q5 (AR m) q:=by
 have h1:Q5 (.prod [.lab m.places.length,.lab (m.age+2)]) _:=ND _ (by simp) [fun a b=>a.n==b.n,fun a b=>a.n==b.n] fun i t ht=>by
  match i,ht with
  |0,ht=>simp only[I5,Ia] at ht;subst ht;exact⟨_,rfl,LD _⟩
  |1,ht=>simp only[Jm,I5,Ia] at ht;subst ht;exact⟨_,rfl,LD _⟩
  |i+2,ht=>simp at ht
 obtain⟨q,h2⟩:=Aen h1
 refine⟨_,ND _ (by simp) [fun a b=>a.n==b.n,q] fun i t ht=>?_⟩
 match i,ht with
 |0,ht=>simp only[I5,Ia] at ht;subst ht;exact⟨_,rfl,LD _⟩
 |1,ht=>simp only[Jm,I5,Ia] at ht;subst ht;exact⟨_,rfl,h2⟩
 |i+2,ht=>simp at ht
theorem Fg.leq{m:Mod}(h:Fg m):∃q:Val->Val->Bool,∀a b,F1 m a->F1 m b->Aa PP 314 [Ag m,dV a,dV b] σ0 (.tup [db (q a b),di 0]) σ0:=by
 have hM:m.ok->m.kind≠5->∃q:Val->Val->Bool,∀a b,F1 m a->F1 m b->Aa PP 314 [Ag m,dV a,dV b] σ0 (.tup [db (q a b),di 0]) σ0:=fun ho hk=>by
  obtain⟨q,hq⟩:=AbM ho
  have hz:=ho.sz
  exact⟨q,fun a b ha hb=>by
   rw[F1,KJ hk] at ha hb
   exact Ob (OC (FH m ho) (Jy m (by omega) (by omega) ho.kind)) ho.good hq a b ha hb⟩
 rcases h.kinds with⟨h,hk⟩|⟨K,hK,h,hk⟩|⟨h,hk⟩
 ·exact hM h.ok (by omega)
 ·exact hM (h.ok hK) (by omega)
 ·obtain⟨q,hq⟩:=AbL m
  exact⟨q,fun a b ha hb=>by
   rw[F1,QJ hk] at ha hb
   exact Ob (OC (Jw m h) (GG m hk (by have:=h.age;omega))) h.good hq a b ha hb⟩
theorem Ace.cfgA{m:Mod}{c:Val}(h:Fg m)(hc:Ace m c):F1 m c:=by
 have hP:=h.small.2.1
 have hp:m.places.length<=2:=by rcases hP with e|e<;>rw[e]<;>decide
 cases hc with
 |ctr hk s ys hs hy hb hc=>
  rw[F1,KJ (by omega),hc]
  rcases h.kinds with⟨h,_⟩|⟨K,hK,h,hk2⟩|⟨h,hk2⟩
  ·exact(XH m s hs ys hy fun y hy=>by have:=hb y hy;omega).validM h
  ·omega
  ·omega
 |chan hk s ys hs hy hb hc=>rw[F1,KJ (by omega),hc];exact Mo m hk hp s hs ys hy hb
 |bag hk s ts hs hb hc=>rw[F1,QJ hk,hc];exact Pk m s hs ts hb
structure Qst where
 kind:Int
 place:Int
 target:Val
abbrev vQ(q:Qst):V:=.agg [vi q.kind,vi q.place,vi q.target.n,vVs q.target.kids]
abbrev dQ(q:Qst):D:=.v (vQ q)
abbrev zeroV:Val:=.mk 0 []
def EP(m:Mod)(t:Typ)(q:Qst):Bool:=
 if q.kind<1∨q.kind>=7 then false
 else if q.kind<=2 then Aj t q.target&&(q.place==0)
 else if q.kind=3 then Ev m&&((Au q.target zeroV==0)&&(q.place==0))
 else if q.kind=4 then Ev m&&((Au q.target zeroV==0)&&(decide (0<=q.place)&&decide (q.place<m.places.length)))
 else(Au q.target zeroV==0)&&(q.place==0)
noncomputable abbrev Agw:Func:= Tryz.f67
theorem SR(m:Mod)(t:Typ)(hm:Fx m t)(p:Int)(v:Val)(hv:v.size<=1000000):Aa PP 67 [Ag m,dQ ⟨1,p,v⟩] σ0 (db (EP m t ⟨1,p,v⟩)) σ0:=by
 refine sv Agw 65 [2,3] (.c (db (Aj t v))<|.b .r .r) (0<=(Qst.mk 1 p v).kind/\(Qst.mk 1 p v).kind<(↑7:Int)/\F0 118 [Ag m,D.v (Azh [vi (Val.n (Qst.mk 1 p v).target),vVs (Val.kids (Qst.mk 1 p v).target)])] (db (Aj t v))/\((!Aj t v)=true->db false=db (EP m t (Qst.mk 1 p v)))/\((!Aj t v)=false->db ((Qst.mk 1 p v).place==0)=db (EP m t (Qst.mk 1 p v)))) ?_
 refine⟨by show(0:Int)<=1;decide,by show(1:Int)<7;decide,hm.valid v hv,fun h=>?_,fun h=>?_⟩
 all_goals (simp_all [EP]<;>omega)
theorem SQ(m:Mod)(t:Typ)(hm:Fx m t)(p:Int)(v:Val)(hv:v.size<=1000000):Aa PP 67 [Ag m,dQ ⟨2,p,v⟩] σ0 (db (EP m t ⟨2,p,v⟩)) σ0:=by
 refine sv Agw 65 [2,3] (.c (db (Aj t v))<|.b .r .r) (0<=(Qst.mk 2 p v).kind/\(Qst.mk 2 p v).kind<(↑7:Int)/\F0 118 [Ag m,D.v (Azh [vi (Val.n (Qst.mk 2 p v).target),vVs (Val.kids (Qst.mk 2 p v).target)])] (db (Aj t v))/\((!Aj t v)=true->db false=db (EP m t (Qst.mk 2 p v)))/\((!Aj t v)=false->db ((Qst.mk 2 p v).place==0)=db (EP m t (Qst.mk 2 p v)))) ?_
 refine⟨by show(0:Int)<=2;decide,by show(2:Int)<7;decide,hm.valid v hv,fun h=>?_,fun h=>?_⟩
 all_goals (simp_all [EP]<;>omega)
noncomputable abbrev Agx:Func:= Tryz.f32
theorem VH(m:Mod)(t:Typ)(hm:Fx m t)(q:Qst)(b:Bool)(h:Aa PP 67 [Ag m,dQ q] σ0 (db b) σ0):Aa PP 32 [Ag m,dQ q] σ0 (di (if b then 0 else 48)) σ0:=by
 cases b with
 |true=>
  refine sv Agx 15 [2,3] (.c (di 0)<|.k<|.c (db true)<|.k .r) (F0 22 [Ag m] (di 0)/\F0 67 [Ag m,D.v (vQ q)] (db true)/\di 0=di (if true=true then 0 else 48)) ?_
  exact⟨hm.walks,h,rfl⟩
 |false=>
  refine sv Agx 15 [2,3] (.c (di 0)<|.k<|.c (db false)<|.k .r) (F0 22 [Ag m] (di 0)/\F0 67 [Ag m,D.v (vQ q)] (db false)/\di 48=di (if false=true then 0 else 48)) ?_
  exact⟨hm.walks,h,rfl⟩
theorem Fg.chk15{m:Mod}(h:Fg m):Aa PP 18 [Ag m] σ0 (di 0) σ0:=by
 rcases h.kinds with⟨h,hk⟩|⟨K,hK,h,hk⟩|⟨h,hk⟩
 ·exact JI m h.ok
 ·exact JI m (h.ok hK)
 ·exact Ahk m h
theorem Fg.count{m:Mod}(h:Fg m):m.rules.length<=12:=by
 rcases h.kinds with⟨h,hk⟩|⟨K,hK,h,hk⟩|⟨h,hk⟩
 ·have:=h.ok.sz;omega
 ·have:=h.count;omega
 ·have:=h.count;omega
noncomputable abbrev Tt:Func:= Tryz.f30
noncomputable def TN:Code:=Tt.body.getD .skip
def plR(m:Mod):Int:=if Ev m=true then 0 else 15
theorem VU(m:Mod)(hk:m.kind=1)(hr:m.rules.length<=12)(n:Nat):∀k:Nat,m.rules.length-k=n->(∀r∈m.rules.take k,r.move=[])->
  Rn PP Tt 0 (di (plR m)) σ0 ([.lp (sub TN [1,1,1,0,1,0,0]),.blk 0,.code (sub TN [1,1,1,1])]++[]) (mkE 28 [(1,.v (.ref (A8 m))),(4,di k)]) σ0:=by
 induction n with
 |zero=>
  intro k hn h
  rw[HW (by omega)] at h
  rw[plR,HP (by rw[Ev,hk];simpa using h)]
  refine lv 28 [1] (.f .r) (decide ((k:Int)<(length (Aps m.rules):Int))=false/\Q (di 0)) ?_
  exact⟨H8 (by rw[H3];omega),rfl⟩
 |succ n ih=>
  intro k hn h
  obtain⟨r,hx⟩:∃r,m.rules[k]?=some r:=⟨_,H4 (by omega)⟩
  by_cases hm:r.move=[]
  ·have hih:=ih (k+1) (by omega) (fun x hx2=>by
    rw[IF,hx,Option.toList_some,Iq,HK] at hx2
    rcases hx2 with hx2|rfl
    ·exact h x hx2
    ·exact hm)
   generalize plR m=e at*
   refine lv 28 [1] (.t<|.x (Ak r)<|.f<|.l [ke 1,ch 4 (di (k+1:Nat))]) (decide ((k:Int)<(length (Aps m.rules):Int))=true/\0<=(k:Int)/\(Aps m.rules)[Int.toNat (k:Int)]?=some (Ak r)/\decide ((length (Anw r.move):Int)>0)=false/\di (wrap i64 ((k:Int)+1))=di (↑(k+1):Int)/\I0 Tt 0 (di e) σ0 [kl TN Ak2,Aza 0,kc TN [1,1,1,1]] (mkE 28 [(Aot m),(4,di (↑(k+1):Int))]) σ0) ?_
   exact⟨H6 (by rw[H3];omega),by omega,Aq hx,by rw[hm];rfl,Ad (by omega),⟨hih⟩⟩
  ·rw[plR,HL (fun h2=>hm (by
    rw[Ev,H5,Ip] at h2
    simpa using h2.2 r (HA hx)))]
   refine lv 28 [1] (.t<|.x (Ak r)<|.t .r) (decide ((k:Int)<(length (Aps m.rules):Int))=true/\0<=(k:Int)/\(Aps m.rules)[Int.toNat (k:Int)]?=some (Ak r)/\decide ((length (Anw r.move):Int)>0)=true/\Q (di 15)) ?_
   have hml:=List.length_pos_iff.2 hm
   exact⟨H6 (by rw[H3];omega),by omega,Aq hx,H6 (by rw[H3];omega),rfl⟩
theorem VT{m:Mod}(h:Fg m):Aa PP 30 [Ag m] σ0 (di (plR m)) σ0:=by
 have hc:=h.chk15
 by_cases hk:m.kind=1
 ·have:=VU m hk h.count _ 0 rfl (by simp)
  generalize plR m=e at*
  refine sv Tt 28 [1] (.c (di 0)<|.k<|.f<|.l [ke 1,ch 4 (di (0:Nat))]) (F0 18 [Ag m] (di 0)/\(m.kind !=1)=false/\di 0=di (↑0:Int)/\I0 Tt σ0.H.length (di e) σ0 [kl TN Ak2,Aza 0,kc TN [1,1,1,1]] (mkE 28 [(Aot m),(4,di (↑0:Int))]) σ0) ?_
  exact⟨hc,by rw[hk];rfl,rfl,⟨this⟩⟩
 ·rw[plR,HL (fun h2=>by rw[Ev,H5] at h2;exact hk (by simpa using h2.1))]
  refine sv Tt 28 [1] (.c (di 0)<|.k<|.t .r) (F0 18 [Ag m] (di 0)/\(m.kind !=1)=true/\Q (di 15)) ?_
  exact⟨hc,bne_iff_ne.2 hk,rfl⟩
noncomputable abbrev DR:Func:= Tryz.f14
noncomputable abbrev Aln:=fun a₀ b₀ c₀ d₀ e₀=>Aa PP 31 [Azb 0 0,Ag a₀] (dz b₀ c₀) (dV d₀) (dz b₀ e₀)
noncomputable abbrev Amv:=fun a₀=>F0 30 [Ag a₀] (di 15)
noncomputable abbrev Amw:=fun a₀=>F0 30 [Ag a₀] (di 0)
noncomputable abbrev Aol:=[Azb 0 0,di 6]
theorem AbS(m:Mod)(hm:Fg m)(l:List UInt8)(hl:l.length<=200)(a:Nat)(ha:a<=l.length):
  ∃(q:Qst) (a':Nat),a'<=l.length/\(q.kind=1∨q.kind=2->q.place=0/\Ace m q.target)/\Aa PP 14 [.ptr 0 0,Ag m] (dz l a) (dQ q) (dz l a'):=by
 obtain⟨hst,hP,hle,hag⟩:=hm.small
 have hpl:1<=m.places.length/\m.places.length<=2:=by rcases hP with e|e<;>rw[e]<;>decide
 obtain⟨r,a1,r1,r2,r3,r4⟩:=Ax l hl a ha 6 (by decide) (by decide)
 have hp28:=VT hm
 have hcf:∃(c:Val) (a2:Nat),Ace m c/\a2<=l.length/\Aa PP 31 [.ptr 0 0,Ag m] (dz l a1) (dV c) (dz l a2):=hm.cfg_ex l hl a1 r3
 obtain⟨c,a2,c1,c2,c3⟩:=hcf
 obtain⟨p,a3,p1,p2,p3,p4⟩:=Ax l hl a1 r3 m.places.length (by omega) (by omega)
 have p4:Aa PP 8 [.ptr 0 0,di ((m.places.map V.str).length:Int)] (dz l a1) (di p) (dz l a3):=by rw[H3];exact p4
 obtain⟨e,he,hpe⟩:∃e,(e=0∨e=15)/\Aa PP 30 [Ag m] σ0 (di e) σ0:=⟨_,by unfold plR;split<;>simp,hp28⟩
 have nk:∀(k:Int) (q:Prop),k≠1->k≠2->(k=1∨k=2->q):=fun k q h1 h2 h=>by rcases h with h|h<;>contradiction
 rcases(show r=0∨r=1∨r=2∨r=3∨r=4∨r=5 by omega) with rfl|rfl|rfl|rfl|rfl|rfl
 ·rcases he with rfl|rfl
  ·refine⟨⟨1,0,c⟩,a2,c2,fun _=>⟨rfl,c1⟩,?_⟩
   refine sv DR 43 [3] (.c1 (cDz l a1) (di 0)<|.x (vi 1)<|.c (di 0)<|.c1 (cDz l a2) (dV c) .r) (Aa PP 8 Aol (dz l a) (di 0) (dz l a1)/\iz 0<=0/\Q (some (vi 1))/\Amw m/\Aln m l a1 c a2/\Q (Am4 l a2)/\D.v (Azh [vi 1,vi 0,vi c.n,Azf (Alj c.kids)])=dQ (Qst.mk 1 0 c)) ?_
   exact⟨r4,by decide,rfl,hpe,c3,rfl,rfl⟩
  ·refine⟨⟨1,0,c⟩,a2,c2,fun _=>⟨rfl,c1⟩,?_⟩
   refine sv DR 43 [3] (.c1 (cDz l a1) (di 0)<|.x (vi 1)<|.c (di 15)<|.c1 (cDz l a2) (dV c) .r) (Aa PP 8 Aol (dz l a) (di 0) (dz l a1)/\iz 0<=0/\Q (some (vi 1))/\Amv m/\Aln m l a1 c a2/\Q (Am4 l a2)/\D.v (Azh [vi 1,vi 0,vi c.n,Azf (Alj c.kids)])=dQ (Qst.mk 1 0 c)) ?_
   exact⟨r4,by decide,rfl,hpe,c3,rfl,rfl⟩
 ·rcases he with rfl|rfl
  ·refine⟨⟨2,0,c⟩,a2,c2,fun _=>⟨rfl,c1⟩,?_⟩
   refine sv DR 43 [3] (.c1 (cDz l a1) (di 1)<|.x (vi 2)<|.c (di 0)<|.c1 (cDz l a2) (dV c) .r) (Aa PP 8 Aol (dz l a) (di 1) (dz l a1)/\iz 0<=1/\Q (some (vi 2))/\Amw m/\Aln m l a1 c a2/\Q (Am4 l a2)/\D.v (Azh [vi 2,vi 0,vi c.n,Azf (Alj c.kids)])=dQ (Qst.mk 2 0 c)) ?_
   exact⟨r4,by decide,rfl,hpe,c3,rfl,rfl⟩
  ·refine⟨⟨2,0,c⟩,a2,c2,fun _=>⟨rfl,c1⟩,?_⟩
   refine sv DR 43 [3] (.c1 (cDz l a1) (di 1)<|.x (vi 2)<|.c (di 15)<|.c1 (cDz l a2) (dV c) .r) (Aa PP 8 Aol (dz l a) (di 1) (dz l a1)/\iz 0<=1/\Q (some (vi 2))/\Amv m/\Aln m l a1 c a2/\Q (Am4 l a2)/\D.v (Azh [vi 2,vi 0,vi c.n,Azf (Alj c.kids)])=dQ (Qst.mk 2 0 c)) ?_
   exact⟨r4,by decide,rfl,hpe,c3,rfl,rfl⟩
 ·rcases he with rfl|rfl
  ·refine⟨⟨5,0,.mk 0 []⟩,a1,r3,nk _ _ (by decide) (by decide),?_⟩
   refine sv DR 43 [3] (.c1 (cDz l a1) (di 2)<|.x (vi 5)<|.c (di 0) .r) (Aa PP 8 Aol (dz l a) (di 2) (dz l a1)/\iz 0<=2/\Q (some (vi 5))/\Amw m/\Q (Am4 l a1)/\D.v (Azh [vi 5,vi 0,vi 0,Azf []])=dQ (Qst.mk 5 0 (Val.mk 0 []))) ?_
   exact⟨r4,by decide,rfl,hpe,rfl,rfl⟩
  ·refine⟨⟨5,0,.mk 0 []⟩,a1,r3,nk _ _ (by decide) (by decide),?_⟩
   refine sv DR 43 [3] (.c1 (cDz l a1) (di 2)<|.x (vi 5)<|.c (di 15) .r) (Aa PP 8 Aol (dz l a) (di 2) (dz l a1)/\iz 0<=2/\Q (some (vi 5))/\Amv m/\Q (Am4 l a1)/\D.v (Azh [vi 5,vi 0,vi 0,Azf []])=dQ (Qst.mk 5 0 (Val.mk 0 []))) ?_
   exact⟨r4,by decide,rfl,hpe,rfl,rfl⟩
 ·rcases he with rfl|rfl
  ·refine⟨⟨6,0,.mk 0 []⟩,a1,r3,nk _ _ (by decide) (by decide),?_⟩
   refine sv DR 43 [3] (.c1 (cDz l a1) (di 3)<|.x (vi 6)<|.c (di 0) .r) (Aa PP 8 Aol (dz l a) (di 3) (dz l a1)/\iz 0<=3/\Q (some (vi 6))/\Amw m/\Q (Am4 l a1)/\D.v (Azh [vi 6,vi 0,vi 0,Azf []])=dQ (Qst.mk 6 0 (Val.mk 0 []))) ?_
   exact⟨r4,by decide,rfl,hpe,rfl,rfl⟩
  ·refine⟨⟨6,0,.mk 0 []⟩,a1,r3,nk _ _ (by decide) (by decide),?_⟩
   refine sv DR 43 [3] (.c1 (cDz l a1) (di 3)<|.x (vi 6)<|.c (di 15) .r) (Aa PP 8 Aol (dz l a) (di 3) (dz l a1)/\iz 0<=3/\Q (some (vi 6))/\Amv m/\Q (Am4 l a1)/\D.v (Azh [vi 6,vi 0,vi 0,Azf []])=dQ (Qst.mk 6 0 (Val.mk 0 []))) ?_
   exact⟨r4,by decide,rfl,hpe,rfl,rfl⟩
 ·rcases he with rfl|rfl
  ·refine⟨⟨3,0,.mk 0 []⟩,a1,r3,nk _ _ (by decide) (by decide),?_⟩
   refine sv DR 43 [3] (.c1 (cDz l a1) (di 4)<|.x (vi 3)<|.c (di 0) .r) (Aa PP 8 Aol (dz l a) (di 4) (dz l a1)/\iz 0<=4/\Q (some (vi 3))/\Amw m/\Q (Am4 l a1)/\D.v (Azh [vi 3,vi 0,vi 0,Azf []])=dQ (Qst.mk 3 0 (Val.mk 0 []))) ?_
   exact⟨r4,by decide,rfl,hpe,rfl,rfl⟩
  ·refine⟨⟨1,0,c⟩,a2,c2,fun _=>⟨rfl,c1⟩,?_⟩
   refine sv DR 43 [3] (.c1 (cDz l a1) (di 4)<|.x (vi 3)<|.c (di 15)<|.c1 (cDz l a2) (dV c) .r) (Aa PP 8 Aol (dz l a) (di 4) (dz l a1)/\iz 0<=4/\Q (some (vi 3))/\Amv m/\Aln m l a1 c a2/\Q (Am4 l a2)/\D.v (Azh [vi 1,vi 0,vi c.n,Azf (Alj c.kids)])=dQ (Qst.mk 1 0 c)) ?_
   exact⟨r4,by decide,rfl,hpe,c3,rfl,rfl⟩
 ·rcases he with rfl|rfl
  ·refine⟨⟨4,p,.mk 0 []⟩,a3,p3,nk 4 _ (by decide) (by decide),?_⟩
   refine sv DR 43 [3] (.c1 (cDz l a1) (di 5)<|.x (vi 4)<|.c (di 0)<|.c1 (cDz l a3) (di p) .r) (Aa PP 8 Aol (dz l a) (di 5) (dz l a1)/\iz 0<=5/\Q (some (vi 4))/\Amw m/\Alb m.places l a1 p a3/\Q (Am4 l a3)/\D.v (Azh [vi 4,vi p,vi 0,Azf []])=dQ (Qst.mk 4 p (Val.mk 0 []))) ?_
   exact⟨r4,by decide,rfl,hpe,p4,rfl,rfl⟩
  ·refine⟨⟨1,0,c⟩,a2,c2,fun _=>⟨rfl,c1⟩,?_⟩
   refine sv DR 43 [3] (.c1 (cDz l a1) (di 5)<|.x (vi 4)<|.c (di 15)<|.c1 (cDz l a2) (dV c) .r) (Aa PP 8 Aol (dz l a) (di 5) (dz l a1)/\iz 0<=5/\Q (some (vi 4))/\Amv m/\Aln m l a1 c a2/\Q (Am4 l a2)/\D.v (Azh [vi 1,vi 0,vi c.n,Azf (Alj c.kids)])=dQ (Qst.mk 1 0 c)) ?_
   exact⟨r4,by decide,rfl,hpe,c3,rfl,rfl⟩
structure ExR where
 found:List Val
 steps:List (List Stp)
 whole:Bool
 err:Int
def BU(S:Val->List Stp×Int)(most:Int):Nat->List Val->List (List Stp)->Nat->ExR
 |d,l,st,frm=>
  if ((BF S (l.drop st.length) st).2 !=0)=true then⟨l,(BF S (l.drop st.length) st).1,false,(BF S (l.drop st.length) st).2⟩
  else if (((G8 l ((BF S (l.drop st.length) st).1.drop frm) []).length:Int)==0)=true then⟨l,(BF S (l.drop st.length) st).1,true,0⟩
  else match d with
   |0=>⟨l,(BF S (l.drop st.length) st).1,false,0⟩
   |d+1=>if decide (((l.length+(G8 l ((BF S (l.drop st.length) st).1.drop frm) []).length:Nat):Int)>most)=true then⟨l,(BF S (l.drop st.length) st).1,false,1⟩
    else BU S most d (l++G8 l ((BF S (l.drop st.length) st).1.drop frm) []) (BF S (l.drop st.length) st).1 l.length
theorem K1{m:Mod}{C:Val->Prop}{S:Val->List Stp×Int}(hm:Fw m C S):∀(l:List Val) (st:List (List Stp)),(∀v∈l,C v)->(∀x∈st,x.length<=256/\∀s∈x,C s.2)->(∀x∈ (BF S l st).1,x.length<=256/\∀s∈x,C s.2)/\((BF S l st).2=0->(BF S l st).1=st++l.map fun v=>(S v).1)
 |[],st,_,h=>⟨h,fun _=>by simp[BF]⟩
 |c::l,st,hC,h=>by
  rw[BF]
  split
  ·rename_i h2
   exact⟨h,fun h3=>by rw[h3] at h2;simp at h2⟩
  ·have hc:=hC c (by simp)
   obtain⟨g1,g2⟩:=K1 hm l (st++[(S c).1]) (fun v hv=>hC v (by simp[hv])) (fun x hx=>by
    rcases Iq.1 hx with hx|hx
    ·exact h x hx
    ·rw[HK.1 hx];exact⟨hm.len c hc,hm.next c hc⟩)
   exact⟨g1,fun h3=>by rw[g2 h3];simp⟩
theorem Rp{C:Val->Prop}(found:List Val):∀(ls:List (List Stp)) (out:List Val),(∀x∈ls,∀s∈x,C s.2)->(∀v∈out,C v)->∀v∈G8 found ls out,C v
 |[],out,_,h=>h
 |l::ls,out,h1,h=>Rp found ls _ (fun x hx=>h1 x (by simp[hx])) (O0 found l out (h1 l (by simp)) h)
theorem MM(found:List Val):∀(ls:List (List Stp)) (out:List Val),(∀x∈ls,x.length<=256)->(G8 found ls out).length<=out.length+ls.length*256
 |[],out,_=>by simp[G8]
 |l::ls,out,h=>by
  have h1:=GP found l out
  have h2:=MM found ls (Ue found l out) fun x hx=>h x (by simp[hx])
  have h3:=h l (by simp)
  rw[G8,H9]
  omega
def ShE(m:Mod)(most:Int)(σ':St):Prop:=(∃l st,σ'=stX m most l st)∨∃(l:List Val) (st:List (List Stp)),σ'=⟨[some (cX m most (.gro 2 l.length 2) (.acc 1 (st.map Ay))),none,some (Ab (l.map eV))],ow1 st⟩
theorem ShE.len{m:Mod}{most:Int}{σ':St}(h:ShE m most σ'):1<=σ'.H.length:=by
 rcases h with⟨l,st,rfl⟩|⟨l,st,rfl⟩
 ·exact Nat.le_add_left 1 1
 ·exact Nat.le_add_left 1 2
noncomputable abbrev DF:Func:= Tryz.f23
noncomputable def A6:Code:=DF.body.getD .skip
noncomputable abbrev Ak4:=[kc A6 [1,1,1,0,0,0,0,0,1],kc A6 [1,1,1,0,0,0,0,1],Aza 1,kc A6 [1,1,1,0,0,1],kl A6 [1,1,1,0,0],Aza 0]
noncomputable abbrev Alq:=(A0 (sub A6 [1,1,1,0,0,0,0,0,0]))
noncomputable abbrev Amf:=[kc A6 [1,1,1,0,0,0,0,1,1],Aza 1,kc A6 [1,1,1,0,0,1],kl A6 [1,1,1,0,0],Aza 0]
noncomputable abbrev Am0:=fun a₀ b₀=>[db (ExR.mk a₀ b₀ true 0).whole,di (ExR.mk a₀ b₀ true 0).err]
noncomputable abbrev Amq:=fun a₀ b₀ c₀ d₀ e₀=>[some (cX a₀ b₀ (Azm 2 (length c₀+length d₀) 2) (Ak9 e₀)),none,some (Ab (map eV (c₀++d₀)))]
noncomputable abbrev Amr:=(A0 (sub A6 [1,1,1,0,0,0,0,1,0]))
noncomputable abbrev An6:=fun (a₀:Nat) (b₀:Nat)=>(mkE 64 [Ald,(1,di (↑(a₀+1):Int)),(6,di (b₀:Int)),(21,Azb 0 0)])
noncomputable abbrev Aom:=fun (a₀:Nat) (b₀:Nat)=>(mkE 64 [Ald,(1,di (↑(a₀+1):Int)),(6,di (b₀:Int)),(26,Azb 0 0),(27,di (b₀:Int))])
noncomputable abbrev Aou:=fun a₀ b₀ c₀=>[db (ExR.mk a₀ b₀ false c₀).whole,di (ExR.mk a₀ b₀ false c₀).err]
noncomputable abbrev Ao9:=(List.drop 1 Alq.toList)
noncomputable abbrev Apu:=[ke 0,ke 1,ke 6,ke 21]
noncomputable abbrev Aqj:=fun (a₀:Nat)=>(mkE 64 [Ald,(1,di (↑0:Int)),(6,di (a₀:Int)),(21,Azb 0 0)])
noncomputable abbrev Aqy:=fun a₀ b₀=>[db (ExR.mk a₀ b₀ false 1).whole,di (ExR.mk a₀ b₀ false 1).err]
noncomputable abbrev Aqz:=fun a₀ b₀=>[db (ExR.mk a₀ b₀ false 0).whole,di (ExR.mk a₀ b₀ false 0).err]
theorem Xl{m:Mod}{C:Val->Prop}{S:Val->List Stp×Int}(hm:Fw m C S)(most:Int)(hmost:most<=256)(d:Nat):d<=1000->∀(l:List Val) (st:List (List Stp)) (frm:Nat),l.length<=most->(∀v∈l,C v)->st.length=frm->frm<l.length->(∀x∈st,x.length<=256/\∀s∈x,C s.2)->
  ∃σ',((BU S most d l st frm).err=0->σ'=stX m most (BU S most d l st frm).found (BU S most d l st frm).steps)/\ShE m most σ'/\
  Rn PP DF 1 (.tup [db (BU S most d l st frm).whole,di (BU S most d l st frm).err]) σ' ([.lp (sub A6 [1,1,1,0,0]),.blk 0]++[]) (mkE 64 [(0,.ptr 0 0),(1,di d),(6,di frm)]) (stX m most l st):=by
 induction d with
 |zero=>
  intro hd l st frm hl hC hs hf hst
  have hlk:=OD hm most l (by omega) hC st (by omega)
  obtain⟨g1,g2⟩:=K1 hm (l.drop st.length) st (fun v hv=>hC v (Iu hv)) hst
  rw[BU]
  generalize BF S (l.drop st.length) st=p at*
  obtain⟨st',e⟩:=p
  dsimp only at hlk g1 g2⊢
  by_cases he:(e !=0)=true
  ·rw[HP he]
   refine⟨stX m most l st',fun h=>absurd h (by simpa using he),Or.inl ⟨_,_,rfl⟩,?_⟩
   refine lv 64 [] (.h (.q 4 1)<|.h (.s [ke 0,ke 1,ke 6,ke 21]) .z) (Nv.It (AT (CN 1) PP (fun env σ1=>Aw PP DF env σ1 (Azn [db (ExR.mk l st' false e).whole,di (ExR.mk l st' false e).err]) (stX m most l st')) [kc A6 [1,1,1,0,0,0,0,0,1],kc A6 [1,1,1,0,0,0,0,1],Aza 1,kc A6 [1,1,1,0,0,1],kl A6 [1,1,1,0,0],Aza 0] (A0 (sub A6 [1,1,1,0,0,0,0,0,0])) (List.drop 1 (A0 (sub A6 [1,1,1,0,0,0,0,0,0])).toList) (mkE 64 [(0,Azb 0 0),(1,di (↑0:Int)),(6,di (frm:Int)),(21,Azb 0 0)]) (stX m most l st))) ?_
   refine⟨?_⟩
   refine BX 22 54 [.ptr 0 0] (di e) (stX m most l st') (by rfl) (by kernel_rfl) (by kernel_rfl) (by kernel_rfl) rfl (by rfl) hlk ?_
   refine C4 mixed 64 [] 4 2 (.t .ro) ?_
   refine via (by kernel_rfl:((e !=0)=true/\okH 2 [1] [some (cX m most (Azm 1 l.length 2) (Azc 1 (map Ay st'))),some (Ab (map eV l))]=true/\Q [some (cX m most (Azm 1 l.length 2) (Azc 1 (map Ay st'))),some (Ab (map eV l))]/\Q [(1,1,map Ay st')]/\Azn [db false,di e]=Azn [db (ExR.mk l st' false e).whole,di (ExR.mk l st' false e).err])=_) ?_
   exact⟨he,okX _ _ _ _ _ _ rfl (by decide),rfl,rfl,rfl⟩
  ·rw[HL he]
   have he0:e=0:=by simpa using he
   have hf1:=HG he
   have hl':st'.length=l.length:=by rw[g2 he0,HI,H3,I9];omega
   have hot:=Rm (m:=m) hm.size most l (by omega) hC st' frm (by omega) (by omega) g1
   have hnC:=Rp l (st'.drop frm) [] (fun x hx=>(g1 x (Iu hx)).2) (by simp)
   have hnl:=MM l (st'.drop frm) [] (fun x hx=>(g1 x (Iu hx)).1)
   generalize G8 l (st'.drop frm) []=nx at*
   by_cases hn:((nx.length:Int)==0)=true
   ·rw[HP hn]
    refine⟨stX m most l st',fun _=>rfl,Or.inl ⟨_,_,rfl⟩,?_⟩
    refine lv 64 [] (.h (.q 4 1)<|.h (.s [ke 0,ke 1,ke 6,ke 21]) .z) (Nv.It (AT (CN 1) PP (fun env σ1=>Aw PP DF env σ1 (Azn [db (ExR.mk l st' true 0).whole,di (ExR.mk l st' true 0).err]) (stX m most l st')) [kc A6 [1,1,1,0,0,0,0,0,1],kc A6 [1,1,1,0,0,0,0,1],Aza 1,kc A6 [1,1,1,0,0,1],kl A6 [1,1,1,0,0],Aza 0] (A0 (sub A6 [1,1,1,0,0,0,0,0,0])) (List.drop 1 (A0 (sub A6 [1,1,1,0,0,0,0,0,0])).toList) (mkE 64 [(0,Azb 0 0),(1,di (↑0:Int)),(6,di (frm:Int)),(21,Azb 0 0)]) (stX m most l st))) ?_
    refine⟨?_⟩
    refine BX 22 54 [.ptr 0 0] (di e) (stX m most l st') (by rfl) (by kernel_rfl) (by kernel_rfl) (by kernel_rfl) rfl (by rfl) hlk ?_
    refine C4 mixed 64 [] 4 2 (.f<|.h (.q 7 2)<|.h (.s [ke 0,ke 1,ke 6,ke 26,ke 27]) .z) ?_
    refine via (by kernel_rfl:((e !=0)=false/\Nv.It (AT (CN 1) PP (fun env σ1=>Aw PP DF env σ1 (Azn [db (ExR.mk l st' true 0).whole,di (ExR.mk l st' true 0).err]) (stX m most l st')) [kc A6 [1,1,1,0,0,0,0,1,1],Aza 1,kc A6 [1,1,1,0,0,1],kl A6 [1,1,1,0,0],Aza 0] (A0 (sub A6 [1,1,1,0,0,0,0,1,0])) (List.drop 2 (A0 (sub A6 [1,1,1,0,0,0,0,1,0])).toList) (mkE 64 [(0,Azb 0 0),(1,di 0),(6,di (frm:Int)),(26,Azb 0 0),(27,di (frm:Int))]) (stX m most l st')))=_) ?_
    refine⟨hf1,⟨?_⟩⟩
    refine BX 28 55 [.ptr 0 0,di frm] (dVs nx) (stX m most l st') (by rfl) (by kernel_rfl) (by kernel_rfl) (by kernel_rfl) rfl (by rfl) hot ?_
    refine C4 mixed 64 [] 7 3 (.t<|.t .ro) ?_
    refine via (by kernel_rfl:(((length (map eV nx):Int)==0)=true/\Q true/\okH 2 [1] [some (cX m most (Azm 1 l.length 2) (Azc 1 (map Ay st'))),some (Ab (map eV l))]=true/\Q [some (cX m most (Azm 1 l.length 2) (Azc 1 (map Ay st'))),some (Ab (map eV l))]/\Q [(1,1,map Ay st')]/\Azn [db ((length (map eV nx):Int)==0),di 0]=Azn [db (ExR.mk l st' true 0).whole,di (ExR.mk l st' true 0).err])=_) ?_
    exact⟨by rw[H3];exact hn,rfl,okX _ _ _ _ _ _ rfl (by decide),rfl,rfl,by rw[H3,hn]⟩
   ·rw[HL hn]
    refine⟨stX m most l st',fun _=>rfl,Or.inl ⟨_,_,rfl⟩,?_⟩
    refine lv 64 [] (.h (.q 4 1)<|.h (.s [ke 0,ke 1,ke 6,ke 21]) .z) (Nv.It (AT (CN 1) PP (fun env σ1=>Aw PP DF env σ1 (Azn [db (ExR.mk l st' false 0).whole,di (ExR.mk l st' false 0).err]) (stX m most l st')) [kc A6 [1,1,1,0,0,0,0,0,1],kc A6 [1,1,1,0,0,0,0,1],Aza 1,kc A6 [1,1,1,0,0,1],kl A6 [1,1,1,0,0],Aza 0] (A0 (sub A6 [1,1,1,0,0,0,0,0,0])) (List.drop 1 (A0 (sub A6 [1,1,1,0,0,0,0,0,0])).toList) (mkE 64 [(0,Azb 0 0),(1,di (↑0:Int)),(6,di (frm:Int)),(21,Azb 0 0)]) (stX m most l st))) ?_
    refine⟨?_⟩
    refine BX 22 54 [.ptr 0 0] (di e) (stX m most l st') (by rfl) (by kernel_rfl) (by kernel_rfl) (by kernel_rfl) rfl (by rfl) hlk ?_
    refine C4 mixed 64 [] 4 2 (.f<|.h (.q 7 2)<|.h (.s [ke 0,ke 1,ke 6,ke 26,ke 27]) .z) ?_
    refine via (by kernel_rfl:((e !=0)=false/\Nv.It (AT (CN 1) PP (fun env σ1=>Aw PP DF env σ1 (Azn [db (ExR.mk l st' false 0).whole,di (ExR.mk l st' false 0).err]) (stX m most l st')) [kc A6 [1,1,1,0,0,0,0,1,1],Aza 1,kc A6 [1,1,1,0,0,1],kl A6 [1,1,1,0,0],Aza 0] (A0 (sub A6 [1,1,1,0,0,0,0,1,0])) (List.drop 2 (A0 (sub A6 [1,1,1,0,0,0,0,1,0])).toList) (mkE 64 [(0,Azb 0 0),(1,di 0),(6,di (frm:Int)),(26,Azb 0 0),(27,di (frm:Int))]) (stX m most l st')))=_) ?_
    refine⟨hf1,⟨?_⟩⟩
    refine BX 28 55 [.ptr 0 0,di frm] (dVs nx) (stX m most l st') (by rfl) (by kernel_rfl) (by kernel_rfl) (by kernel_rfl) rfl (by rfl) hot ?_
    refine C4 mixed 64 [] 7 3 (.f<|.t .ro) ?_
    refine via (by kernel_rfl:(((length (map eV nx):Int)==0)=false/\(0==0)=true/\okH 2 [1] [some (cX m most (Azm 1 l.length 2) (Azc 1 (map Ay st'))),some (Ab (map eV l))]=true/\Q [some (cX m most (Azm 1 l.length 2) (Azc 1 (map Ay st'))),some (Ab (map eV l))]/\Q [(1,1,map Ay st')]/\Azn [db ((length (map eV nx):Int)==0),di 0]=Azn [db (ExR.mk l st' false 0).whole,di (ExR.mk l st' false 0).err])=_) ?_
    exact⟨by rw[H3];exact HG hn,rfl,okX _ _ _ _ _ _ rfl (by decide),rfl,rfl,by rw[H3,HG hn]⟩
 |succ N ih=>
  intro hd l st frm hl hC hs hf hst
  have hlk:=OD hm most l (by omega) hC st (by omega)
  obtain⟨g1,g2⟩:=K1 hm (l.drop st.length) st (fun v hv=>hC v (Iu hv)) hst
  rw[BU]
  generalize BF S (l.drop st.length) st=p at*
  obtain⟨st',e⟩:=p
  dsimp only at hlk g1 g2⊢
  by_cases he:(e !=0)=true
  ·rw[HP he]
   refine⟨stX m most l st',fun h=>absurd h (by simpa using he),Or.inl ⟨_,_,rfl⟩,?_⟩
   refine lv 64 [] (.h (.q 4 1)<|.h (.s [ke 0,ke 1,ke 6,ke 21]) .z) (Nv.It (AT (CN 1) PP (fun env σ1=>Aw PP DF env σ1 (Azn [db (ExR.mk l st' false e).whole,di (ExR.mk l st' false e).err]) (stX m most l st')) [kc A6 [1,1,1,0,0,0,0,0,1],kc A6 [1,1,1,0,0,0,0,1],Aza 1,kc A6 [1,1,1,0,0,1],kl A6 [1,1,1,0,0],Aza 0] (A0 (sub A6 [1,1,1,0,0,0,0,0,0])) (List.drop 1 (A0 (sub A6 [1,1,1,0,0,0,0,0,0])).toList) (mkE 64 [(0,Azb 0 0),(1,di (↑(N+1):Int)),(6,di (frm:Int)),(21,Azb 0 0)]) (stX m most l st))) ?_
   refine⟨?_⟩
   refine BX 22 54 [.ptr 0 0] (di e) (stX m most l st') (by rfl) (by kernel_rfl) (by kernel_rfl) (by kernel_rfl) rfl (by rfl) hlk ?_
   refine C4 mixed 64 [] 4 2 (.t .ro) ?_
   refine via (by kernel_rfl:((e !=0)=true/\okH 2 [1] [some (cX m most (Azm 1 l.length 2) (Azc 1 (map Ay st'))),some (Ab (map eV l))]=true/\Q [some (cX m most (Azm 1 l.length 2) (Azc 1 (map Ay st'))),some (Ab (map eV l))]/\Q [(1,1,map Ay st')]/\Azn [db false,di e]=Azn [db (ExR.mk l st' false e).whole,di (ExR.mk l st' false e).err])=_) ?_
   exact⟨he,okX _ _ _ _ _ _ rfl (by decide),rfl,rfl,rfl⟩
  ·rw[HL he]
   have he0:e=0:=by simpa using he
   have hf1:=HG he
   have hl':st'.length=l.length:=by rw[g2 he0,HI,H3,I9];omega
   have hot:=Rm (m:=m) hm.size most l (by omega) hC st' frm (by omega) (by omega) g1
   have hnC:=Rp l (st'.drop frm) [] (fun x hx=>(g1 x (Iu hx)).2) (by simp)
   have hnl:=MM l (st'.drop frm) [] (fun x hx=>(g1 x (Iu hx)).1)
   generalize G8 l (st'.drop frm) []=nx at*
   by_cases hn:((nx.length:Int)==0)=true
   ·rw[HP hn]
    refine⟨stX m most l st',fun _=>rfl,Or.inl ⟨_,_,rfl⟩,?_⟩
    refine lv 64 [] (.h (.q 4 1)<|.h (.s [ke 0,ke 1,ke 6,ke 21]) .z) (Nv.It (AT (CN 1) PP (fun env σ1=>Aw PP DF env σ1 (Azn [db (ExR.mk l st' true 0).whole,di (ExR.mk l st' true 0).err]) (stX m most l st')) [kc A6 [1,1,1,0,0,0,0,0,1],kc A6 [1,1,1,0,0,0,0,1],Aza 1,kc A6 [1,1,1,0,0,1],kl A6 [1,1,1,0,0],Aza 0] (A0 (sub A6 [1,1,1,0,0,0,0,0,0])) (List.drop 1 (A0 (sub A6 [1,1,1,0,0,0,0,0,0])).toList) (mkE 64 [(0,Azb 0 0),(1,di (↑(N+1):Int)),(6,di (frm:Int)),(21,Azb 0 0)]) (stX m most l st))) ?_
    refine⟨?_⟩
    refine BX 22 54 [.ptr 0 0] (di e) (stX m most l st') (by rfl) (by kernel_rfl) (by kernel_rfl) (by kernel_rfl) rfl (by rfl) hlk ?_
    refine C4 mixed 64 [] 4 2 (.f<|.h (.q 7 2)<|.h (.s [ke 0,ke 1,ke 6,ke 26,ke 27]) .z) ?_
    refine via (by kernel_rfl:((e !=0)=false/\Nv.It (AT (CN 1) PP (fun env σ1=>Aw PP DF env σ1 (Azn [db (ExR.mk l st' true 0).whole,di (ExR.mk l st' true 0).err]) (stX m most l st')) [kc A6 [1,1,1,0,0,0,0,1,1],Aza 1,kc A6 [1,1,1,0,0,1],kl A6 [1,1,1,0,0],Aza 0] (A0 (sub A6 [1,1,1,0,0,0,0,1,0])) (List.drop 2 (A0 (sub A6 [1,1,1,0,0,0,0,1,0])).toList) (mkE 64 [(0,Azb 0 0),(1,di (↑(N+1):Int)),(6,di (frm:Int)),(26,Azb 0 0),(27,di (frm:Int))]) (stX m most l st')))=_) ?_
    refine⟨hf1,⟨?_⟩⟩
    refine BX 28 55 [.ptr 0 0,di frm] (dVs nx) (stX m most l st') (by rfl) (by kernel_rfl) (by kernel_rfl) (by kernel_rfl) rfl (by rfl) hot ?_
    refine C4 mixed 64 [] 7 3 (.t<|.t .ro) ?_
    refine via (by kernel_rfl:(((length (map eV nx):Int)==0)=true/\Q true/\okH 2 [1] [some (cX m most (Azm 1 l.length 2) (Azc 1 (map Ay st'))),some (Ab (map eV l))]=true/\Q [some (cX m most (Azm 1 l.length 2) (Azc 1 (map Ay st'))),some (Ab (map eV l))]/\Q [(1,1,map Ay st')]/\Azn [db ((length (map eV nx):Int)==0),di 0]=Azn [db (ExR.mk l st' true 0).whole,di (ExR.mk l st' true 0).err])=_) ?_
    exact⟨by rw[H3];exact hn,rfl,okX _ _ _ _ _ _ rfl (by decide),rfl,rfl,by rw[H3,hn]⟩
   ·rw[HL hn]
    have hdl:(st'.drop frm).length<=256:=by rw[I9];omega
    have hnl:nx.length<=65536:=by simp at hnl;omega
    have hall:=FU (AbT nx (by omega) (fun v hv=>by have:=hm.size v (hnC v hv);omega))
    have hd0:(((N+1:Nat):Int)==0)=false:=by simp;omega
    have hdm:di (i64.wrap (((N+1:Nat):Int)-1))=di N:=by rw[Al (by omega) (by omega)];exact HR di (by omega)
    have hne:nx.map eV≠ []:=fun h=>hn (by rw[List.map_eq_nil_iff.1 h];rfl)
    have hlk2:Ar (l.length+(nx.map eV).length) 32:=⟨by rw[H3];omega,by rw[H3];omega⟩
    have hok2:∀n:Nat,okH 3 [1] [some (cX m most (.gro 2 n 2) (.acc 1 (st'.map Ay))),none,some (Ab (l.map eV)++Ab (nx.map eV))]=true:=fun n=>by
     simp[okH,D.okNs,D.okN,GT,Ai]
    by_cases hb:decide (((l.length+nx.length:Nat):Int)>most)=true
    ·rw[HP hb]
     refine⟨⟨[some (cX m most (.gro 2 (l.length+nx.length) 2) (.acc 1 (st'.map Ay))),none,some (Ab ((l++nx).map eV))],ow1 st'⟩,fun h=>absurd (show(1:Int)=0 from h) (by decide),Or.inr ⟨l++nx,st',by rw[HI]⟩,?_⟩
     refine lv 64 [] (.h (.q 4 1)<|.h (.s [ke 0,ke 1,ke 6,ke 21]) .z) (Nv.It (AT (CN 1) PP (fun env σ1=>Aw PP DF env σ1 (Azn [db (ExR.mk l st' false 1).whole,di (ExR.mk l st' false 1).err]) (Azd [some (cX m most (Azm 2 (length l+length nx) 2) (Azc 1 (map Ay st'))),none,some (Ab (map eV (l++nx)))] (ow1 st'))) [kc A6 [1,1,1,0,0,0,0,0,1],kc A6 [1,1,1,0,0,0,0,1],Aza 1,kc A6 [1,1,1,0,0,1],kl A6 [1,1,1,0,0],Aza 0] (A0 (sub A6 [1,1,1,0,0,0,0,0,0])) (List.drop 1 (A0 (sub A6 [1,1,1,0,0,0,0,0,0])).toList) (mkE 64 [(0,Azb 0 0),(1,di (↑(N+1):Int)),(6,di (frm:Int)),(21,Azb 0 0)]) (stX m most l st))) ?_
     refine⟨?_⟩
     refine BX 22 54 [.ptr 0 0] (di e) (stX m most l st') (by rfl) (by kernel_rfl) (by kernel_rfl) (by kernel_rfl) rfl (by rfl) hlk ?_
     refine C4 mixed 64 [] 4 2 (.f<|.h (.q 7 2)<|.h (.s [ke 0,ke 1,ke 6,ke 26,ke 27]) .z) ?_
     refine via (by kernel_rfl:((e !=0)=false/\Nv.It (AT (CN 1) PP (fun env σ1=>Aw PP DF env σ1 (Azn [db (ExR.mk l st' false 1).whole,di (ExR.mk l st' false 1).err]) (Azd [some (cX m most (Azm 2 (length l+length nx) 2) (Azc 1 (map Ay st'))),none,some (Ab (map eV (l++nx)))] (ow1 st'))) [kc A6 [1,1,1,0,0,0,0,1,1],Aza 1,kc A6 [1,1,1,0,0,1],kl A6 [1,1,1,0,0],Aza 0] (A0 (sub A6 [1,1,1,0,0,0,0,1,0])) (List.drop 2 (A0 (sub A6 [1,1,1,0,0,0,0,1,0])).toList) (mkE 64 [(0,Azb 0 0),(1,di (↑(N+1):Int)),(6,di (frm:Int)),(26,Azb 0 0),(27,di (frm:Int))]) (stX m most l st')))=_) ?_
     refine⟨hf1,⟨?_⟩⟩
     refine BX 28 55 [.ptr 0 0,di frm] (dVs nx) (stX m most l st') (by rfl) (by kernel_rfl) (by kernel_rfl) (by kernel_rfl) rfl (by rfl) hot ?_
     refine C4 mixed 64 [] 7 3 (.f<|.f<|.c (dVs nx)<|.t .ro) ?_
     refine via (by kernel_rfl:(((length (map eV nx):Int)==0)=false/\((↑(N+1):Int)==0)=false/\F0 56 [dVs nx] (dVs nx)/\length (Ab (map eV l))=length l*2/\map eV nx≠ []/\(∀(y:V),y∈map eV nx->V.size y=2)/\Ar (length l+length (map eV nx)) 32/\(True/\True)/\(True/\True/\True)/\decide ((↑(length l+length (map eV nx)):Int)>most)=true/\okH 3 [1] [some [di m.kind,D.v (vSs m.states),D.v (vSs m.places),D.v (vSs m.letters),dIs m.ranks,di m.levels,di m.age,D.v (CJ m.rules),di m.start.n,dVs m.start.kids,di most,Azm 2 (length l+length (map eV nx)) 2,Azc 1 (map Ay st')],none,some (Ab (map eV l)++Ab (map eV nx))]=true/\[some [di m.kind,D.v (vSs m.states),D.v (vSs m.places),D.v (vSs m.letters),dIs m.ranks,di m.levels,di m.age,D.v (CJ m.rules),di m.start.n,dVs m.start.kids,di most,Azm 2 (length l+length (map eV nx)) 2,Azc 1 (map Ay st')],none,some (Ab (map eV l)++Ab (map eV nx))]=[some (cX m most (Azm 2 (length l+length nx) 2) (Azc 1 (map Ay st'))),none,some (Ab (map eV (l++nx)))]/\Q [(1,1,map Ay st')]/\Azn [db false,di 1]=Azn [db (ExR.mk l st' false 1).whole,di (ExR.mk l st' false 1).err])=_) ?_
     exact⟨by rw[H3];exact HG hn,hd0,hall,BA l,hne,C7 nx,hlk2,⟨trivial,trivial⟩,⟨trivial,trivial,trivial⟩,by rw[H3];exact hb,hok2 _,by rw[EN,H3],rfl,rfl⟩
    ·rw[HL hb]
     have hnl2:((l.length+nx.length:Nat):Int)<=most:=by have:=Im (HG hb);omega
     obtain⟨σ',k1,k2,k3⟩:=ih (by omega) (l++nx) st' l.length (by rw[HI];exact hnl2) (fun v hv=>by
      rcases Iq.1 hv with hv|hv
      ·exact hC v hv
      ·exact hnC v hv) hl' (by
       have:0<nx.length:=List.length_pos_iff.2 fun h=>hne (by rw[h];rfl)
       rw[HI];omega) g1
     refine⟨σ',k1,k2,?_⟩
     have k4:Rn PP DF 1 (.tup [db (BU S most N (l++nx) st' l.length).whole,di (BU S most N (l++nx) st' l.length).err]) σ' ([.lp (sub A6 [1,1,1,0,0]),.blk 0]++[]) (mkE 64 [(0,.ptr 0 0),(1,di N),(6,di l.length)]) ⟨[some (cX m most (.gro 2 (l.length+nx.length) 2) (.acc 1 (st'.map Ay))),none,some (Ab ((l++nx).map eV))],ow1 st'⟩:=by
      refine Ee (σ:=⟨[some (cX m most (.gro 2 (l.length+nx.length) 2) (.acc 1 (st'.map Ay))),none,some (Ab ((l++nx).map eV))],ow1 st'⟩) (H':=(stX m most (l++nx) st').H) (m:=1) (fun E0 E h=>h.2) (fun i=>if i=0 then 0 else i+1) (by simp) (fun i hi=>by cases i with|zero=>rfl|succ i=>omega) (fun i j _ _ h=>by revert h;show(if i=0 then 0 else i+1)=(if j=0 then 0 else j+1)->i=j;split<;>split<;>omega) (fun i cs hi=>?_) ?_ ?_ k3
      ·match i,hi with
       |0,hi=>
        simp only[I5,Ia] at hi
        subst hi
        refine⟨?_,?_⟩
        ·simp[D.rens,D.ren]
        ·simp[D.okNs,D.okN]
       |1,hi=>
        simp only[Jm,I5,Ia] at hi
        subst hi
        refine⟨?_,Ai _ _ _⟩
        rw[AV (A3 _)]
        rfl
       |i+2,hi=>simp at hi
      ·rfl
      ·rfl
     refine lv 64 [] (.h (.q 4 1)<|.h (.s [ke 0,ke 1,ke 6,ke 21]) .z) (Nv.It (AT (CN 1) PP (fun env σ1=>Aw PP DF env σ1 (Azn [db (BU S most N (l++nx) st' l.length).whole,di (BU S most N (l++nx) st' l.length).err]) σ') [kc A6 [1,1,1,0,0,0,0,0,1],kc A6 [1,1,1,0,0,0,0,1],Aza 1,kc A6 [1,1,1,0,0,1],kl A6 [1,1,1,0,0],Aza 0] (A0 (sub A6 [1,1,1,0,0,0,0,0,0])) (List.drop 1 (A0 (sub A6 [1,1,1,0,0,0,0,0,0])).toList) (mkE 64 [(0,Azb 0 0),(1,di (↑(N+1):Int)),(6,di (frm:Int)),(21,Azb 0 0)]) (stX m most l st))) ?_
     refine⟨?_⟩
     refine BX 22 54 [.ptr 0 0] (di e) (stX m most l st') (by rfl) (by kernel_rfl) (by kernel_rfl) (by kernel_rfl) rfl (by rfl) hlk ?_
     refine C4 mixed 64 [] 4 2 (.f<|.h (.q 7 2)<|.h (.s [ke 0,ke 1,ke 6,ke 26,ke 27]) .z) ?_
     refine via (by kernel_rfl:((e !=0)=false/\Nv.It (AT (CN 1) PP (fun env σ1=>Aw PP DF env σ1 (Azn [db (BU S most N (l++nx) st' l.length).whole,di (BU S most N (l++nx) st' l.length).err]) σ') [kc A6 [1,1,1,0,0,0,0,1,1],Aza 1,kc A6 [1,1,1,0,0,1],kl A6 [1,1,1,0,0],Aza 0] (A0 (sub A6 [1,1,1,0,0,0,0,1,0])) (List.drop 2 (A0 (sub A6 [1,1,1,0,0,0,0,1,0])).toList) (mkE 64 [(0,Azb 0 0),(1,di (↑(N+1):Int)),(6,di (frm:Int)),(26,Azb 0 0),(27,di (frm:Int))]) (stX m most l st')))=_) ?_
     refine⟨hf1,⟨?_⟩⟩
     refine BX 28 55 [.ptr 0 0,di frm] (dVs nx) (stX m most l st') (by rfl) (by kernel_rfl) (by kernel_rfl) (by kernel_rfl) rfl (by rfl) hot ?_
     refine C4 mixed 64 [] 7 3 (.f<|.f<|.c (dVs nx)<|.f<|.lo [ke 0,ch 1 (di N),ch 6 (di l.length)] ⟨[some (cX m most (.gro 2 (l.length+nx.length) 2) (.acc 1 (st'.map Ay))),none,some (Ab ((l++nx).map eV))],ow1 st'⟩) ?_
     refine via (by kernel_rfl:(((length (map eV nx):Int)==0)=false/\((↑(N+1):Int)==0)=false/\F0 56 [dVs nx] (dVs nx)/\length (Ab (map eV l))=length l*2/\map eV nx≠ []/\(∀(y:V),y∈map eV nx->V.size y=2)/\Ar (length l+length (map eV nx)) 32/\(True/\True)/\(True/\True/\True)/\decide ((↑(length l+length (map eV nx)):Int)>most)=false/\di (wrap i64 ((↑(N+1):Int)-1))=di (N:Int)/\Q (di (l.length:Int))/\okH 3 [1] [some [di m.kind,D.v (vSs m.states),D.v (vSs m.places),D.v (vSs m.letters),dIs m.ranks,di m.levels,di m.age,D.v (CJ m.rules),di m.start.n,dVs m.start.kids,di most,Azm 2 (length l+length (map eV nx)) 2,Azc 1 (map Ay st')],none,some (Ab (map eV l)++Ab (map eV nx))]=true/\[some [di m.kind,D.v (vSs m.states),D.v (vSs m.places),D.v (vSs m.letters),dIs m.ranks,di m.levels,di m.age,D.v (CJ m.rules),di m.start.n,dVs m.start.kids,di most,Azm 2 (length l+length (map eV nx)) 2,Azc 1 (map Ay st')],none,some (Ab (map eV l)++Ab (map eV nx))]=[some (cX m most (Azm 2 (length l+length nx) 2) (Azc 1 (map Ay st'))),none,some (Ab (map eV (l++nx)))]/\Q [(1,1,map Ay st')]/\I0 DF 1 (Azn [db (BU S most N (l++nx) st' l.length).whole,di (BU S most N (l++nx) st' l.length).err]) σ' [kl A6 [1,1,1,0,0],Aza 0] (mkE 64 [(0,Azb 0 0),(1,di (N:Int)),(6,di (l.length:Int))]) (Azd [some (cX m most (Azm 2 (length l+length nx) 2) (Azc 1 (map Ay st'))),none,some (Ab (map eV (l++nx)))] (ow1 st')))=_) ?_
     exact⟨by rw[H3];exact HG hn,hd0,hall,BA l,hne,C7 nx,hlk2,⟨trivial,trivial⟩,⟨trivial,trivial,trivial⟩,by rw[H3];exact HG hb,hdm,rfl,hok2 _,by rw[EN,H3],rfl,⟨k4⟩⟩
theorem Abd{o:Oper}{σ:St}{t:Nat}(ho:o.op=.buildSlice 29 1 #[(0,.tmp t)])(x:Val):Ah PP o [dV x] σ (.gro σ.H.length 1 2) ⟨σ.H++[some (Ab [Af x])],σ.own⟩:=
 GQ ho (by rfl) rfl slV rfl (ds:=[dV x]) (xs:=[Af x]) rfl (fun z hz=>by rw[HK.1 hz];rfl) (by decide) (by decide) (by decide)
theorem Xj{m:Mod}{C:Val->Prop}{S:Val->List Stp×Int}(hm:Fw m C S)(most:Int)(hmost:1<=most/\most<=256)(d:Nat)(hd:d<=16):
  ∃σ',((BU S most d [m.start] [] 0).err=0->σ'=stX m most (BU S most d [m.start] [] 0).found (BU S most d [m.start] [] 0).steps)/\ShE m most σ'/\
  Aa PP 23 [.ptr 0 0,di d] ⟨[some (cX m most (.v .nils) (.v .nils))],[]⟩ (.tup [db (BU S most d [m.start] [] 0).whole,di (BU S most d [m.start] [] 0).err]) σ':=by
 obtain⟨σ',k1,k2,k3⟩:=Xl hm most hmost.2 d (by omega) [m.start] [] 0 (by simp;omega) (fun v hv=>by rw[HK.1 hv];exact hm.start) rfl (by simp) (by simp)
 refine⟨σ',k1,k2,?_⟩
 generalize BU S most d [m.start] [] 0=r at*
 have hsz:=hm.size _ hm.start
 have how:=Rl _ m.start (HB _) (by omega)
 refine Vp mixed DF A6 (by kernel_rfl) (by kernel_rfl) (by kernel_rfl) (Nat.ble_eq_true_of_le k2.len) 64 (by kernel_rfl) [] (.c (dV m.start)<|.h (.o (.gro 1 1 2) ⟨[some (cX m most (.v .nils) (.v .nils)),some (Ab [Af m.start])],[]⟩)<|.h (.q 2 0)<|.h (.cl 0 12 1 1)<|.lo [ke 0,ke 1,ch 6 (di (0:Nat))] (stX m most [m.start] [])) ?_
 refine via (by kernel_rfl:(F0 53 [dV m.start] (dV m.start)/\Ah PP (Oper.mk (some 16) (Op.buildSlice 29 1 #[(0,Operand.tmp 15)]) 29 "audit.go:57" #[Edge.mk 6 Ground.data] none) [dV m.start] (Azd [some (cX m most (dn) (dn))] []) (Azm 1 1 2) (Azd [some (cX m most (dn) (dn)),some (Ana m.start.n m.start.kids)] [])/\di 0=di (↑0:Int)/\okH 2 [1] [some [di m.kind,D.v (vSs m.states),D.v (vSs m.places),D.v (vSs m.letters),dIs m.ranks,di m.levels,di m.age,D.v (CJ m.rules),di m.start.n,dVs m.start.kids,di most,Azm 1 1 2,Azc 1 []],some (Ana m.start.n m.start.kids)]=true/\[some [di m.kind,D.v (vSs m.states),D.v (vSs m.places),D.v (vSs m.letters),dIs m.ranks,di m.levels,di m.age,D.v (CJ m.rules),di m.start.n,dVs m.start.kids,di most,Azm 1 1 2,Azc 1 nV],some (Ana m.start.n m.start.kids)]=[some (cX m most (Azm 1 (length [m.start]) 2) (Azc 1 (map Ay []))),some (Ab (eV m.start::nV))]/\Q [(1,1,nV)]/\I0 DF (length (Azd [some (cX m most (dn) (dn))] []).H) (Azn [db r.whole,di r.err]) σ' [kl A6 [1,1,1,0,0],Aza 0] (mkE 64 [Ald,(1,di (d:Int)),(6,di (↑0:Int))]) (stX m most [m.start] []))=_) ?_
 refine⟨how,?_,rfl,by simp[okH,D.okNs,D.okN],?_,rfl,⟨k3⟩⟩
 ·exact Abd rfl m.start
 ·rw[Bz];rfl
theorem AcE{m:Mod}{C:Val->Prop}{S:Val->List Stp×Int}(hm:Fw m C S)(most:Int)(d:Nat):∀(l:List Val) (st:List (List Stp)) (frm:Nat),l.length<=most->(∀v∈l,C v)->(∀x∈st,x.length<=256/\∀s∈x,C s.2)->(BU S most d l st frm).found.length<=most/\∀v∈ (BU S most d l st frm).found,C v:=by
 induction d with
 |zero=>
  intro l st frm hl hC hst
  rw[BU]
  split
  ·exact⟨hl,hC⟩
  ·split
   ·exact⟨hl,hC⟩
   ·exact⟨hl,hC⟩
 |succ d ih=>
  intro l st frm hl hC hst
  obtain⟨g1,g2⟩:=K1 hm (l.drop st.length) st (fun v hv=>hC v (Iu hv)) hst
  have hnC:=Rp l ((BF S (l.drop st.length) st).1.drop frm) [] (fun x hx=>(g1 x (Iu hx)).2) (by simp)
  rw[BU]
  split
  ·exact⟨hl,hC⟩
  ·split
   ·exact⟨hl,hC⟩
   ·split
    ·exact⟨hl,hC⟩
    ·rename_i h3
     refine ih _ _ _ ?_ (fun v hv=>?_) g1
     ·have:=Im (HG h3)
      rw[HI];omega
     ·rcases Iq.1 hv with hv|hv
      ·exact hC v hv
      ·exact hnC v hv
noncomputable abbrev Ly:Func:= Tryz.f9
noncomputable def Gx:Code:=Ly.body.getD .skip
def A7(S:Val->List Stp×Int)(most:Int)(d:Nat)(v:Val):List Val×Bool×Int:=
 if ((BU S most d [v] [] 0).err !=0)=true then([],false,(BU S most d [v] [] 0).err) else(sortV (BU S most d [v] [] 0).found,(BU S most d [v] [] 0).whole,0)
noncomputable abbrev Ap9:=(A0 (sub Gx [1,1,1,1,0]))
noncomputable abbrev Aq8:=fun (a₀:Nat)=>(mkE 55 [(10,Azb 0 0),(37,Azb 0 0),(38,di (a₀:Int))])
theorem JB{m:Mod}{C:Val->Prop}{S:Val->List Stp×Int}(hm:Fw m C S)(most:Int)(hmost:1<=most/\most<=256)(d:Nat)(hd:d<=16):
  Aa PP 9 [Ag m,di d,di most] σ0 (.tup [dVs (A7 S most d m.start).1,db (A7 S most d m.start).2.1,di (A7 S most d m.start).2.2]) σ0:=by
 obtain⟨σ',k1,k2,k3⟩:=Xj hm most hmost d hd
 obtain⟨c1,c2⟩:=AcE hm most d [m.start] [] 0 (by simp;omega) (fun v hv=>by rw[HK.1 hv];exact hm.start) (by simp)
 unfold A7
 generalize BU S most d [m.start] [] 0=r at*
 have hW:=hm.walks
 have d1:decide ((d:Int)<0)=false:=H8 (by omega)
 have d2:decide ((d:Int)>16)=false:=H8 (by omega)
 have d3:decide (most<1)=false:=H8 (by omega)
 have d4:decide (most>256)=false:=H8 (by omega)
 by_cases he:(r.err !=0)=true
 ·rw[HP he]
  show Aa PP _ _ _ (.tup [dVs [],db false,di r.err]) σ0
  rcases k2 with⟨l,st,rfl⟩|⟨l,st,rfl⟩
  ·refine sv Ly 55 [3] (.c (di 0)<|.f<|.f<|.f<|.f<|.f<|.h .rn<|.h (.q 7 2)<|.h (.s [ke 10,ke 37,ke 38]) .z) (F0 22 [Ag m] (di 0)/\(0 !=0)=false/\decide ((d:Int)<0)=false/\decide ((d:Int)>16)=false/\decide (most<1)=false/\decide (most>256)=false/\Nv.It (AT (CN σ0.H.length) PP (fun env σ1=>Aw PP Ly env σ1 (Azn [dVs [],db false,di r.err]) σ0) [kc Gx [1,1,1,1,1]] Ap9 (List.drop 2 Ap9.toList) (Aq8 d) (Azd [some [di m.kind,D.v (vSs m.states),D.v (vSs m.places),D.v (vSs m.letters),dIs m.ranks,di m.levels,di m.age,D.v (CJ m.rules),di m.start.n,dVs m.start.kids,di most,dn,dn]] []))) ?_
   refine⟨hW,rfl,d1,d2,d3,d4,⟨?_⟩⟩
   refine BX 39 23 [.ptr 0 0,di d] (.tup [db r.whole,di r.err]) (stX m most l st) (by rfl) (by kernel_rfl) (by kernel_rfl) (by kernel_rfl) rfl (by rfl) k3 ?_
   refine C4 mixed 55 [3] 7 3 (.t .r) ?_
   refine via (by kernel_rfl:((r.err !=0)=true/\Azn [D.v (Azf []),db false,di r.err]=Azn [dVs [],db false,di r.err])=_) ?_
   exact⟨he,rfl⟩
  ·refine sv Ly 55 [3] (.c (di 0)<|.f<|.f<|.f<|.f<|.f<|.h .rn<|.h (.q 7 2)<|.h (.s [ke 10,ke 37,ke 38]) .z) (F0 22 [Ag m] (di 0)/\(0 !=0)=false/\decide ((d:Int)<0)=false/\decide ((d:Int)>16)=false/\decide (most<1)=false/\decide (most>256)=false/\Nv.It (AT (CN σ0.H.length) PP (fun env σ1=>Aw PP Ly env σ1 (Azn [dVs [],db false,di r.err]) σ0) [kc Gx [1,1,1,1,1]] Ap9 (List.drop 2 Ap9.toList) (Aq8 d) (Azd [some [di m.kind,D.v (vSs m.states),D.v (vSs m.places),D.v (vSs m.letters),dIs m.ranks,di m.levels,di m.age,D.v (CJ m.rules),di m.start.n,dVs m.start.kids,di most,dn,dn]] []))) ?_
   refine⟨hW,rfl,d1,d2,d3,d4,⟨?_⟩⟩
   refine BX 39 23 [.ptr 0 0,di d] (.tup [db r.whole,di r.err]) ⟨[some (cX m most (.gro 2 l.length 2) (.acc 1 (st.map Ay))),none,some (Ab (l.map eV))],ow1 st⟩ (by rfl) (by kernel_rfl) (by kernel_rfl) (by kernel_rfl) rfl (by rfl) k3 ?_
   refine C4 mixed 55 [3] 7 3 (.t .r) ?_
   refine via (by kernel_rfl:((r.err !=0)=true/\Azn [D.v (Azf []),db false,di r.err]=Azn [dVs [],db false,di r.err])=_) ?_
   exact⟨he,rfl⟩
 ·rw[HL he]
  have:=k1 (by simpa using he)
  subst this
  have hf1:=HG he
  generalize r.found=l at*
  generalize r.steps=st at*
  have hsl:(sortV l).length=l.length:=(AH _).length_eq
  show Aa PP _ _ _ (.tup [dVs (sortV l),db r.whole,di 0]) σ0
  refine sv Ly 55 [3] (.c (di 0)<|.f<|.f<|.f<|.f<|.f<|.h .rn<|.h (.q 7 2)<|.h (.s [ke 10,ke 37,ke 38]) .z) (F0 22 [Ag m] (di 0)/\(0 !=0)=false/\decide ((d:Int)<0)=false/\decide ((d:Int)>16)=false/\decide (most<1)=false/\decide (most>256)=false/\Nv.It (AT (CN σ0.H.length) PP (fun env σ1=>Aw PP Ly env σ1 (Azn [dVs (sortV l),db r.whole,di 0]) σ0) [kc Gx [1,1,1,1,1]] Ap9 (List.drop 2 Ap9.toList) (Aq8 d) (Azd [some [di m.kind,D.v (vSs m.states),D.v (vSs m.places),D.v (vSs m.letters),dIs m.ranks,di m.levels,di m.age,D.v (CJ m.rules),di m.start.n,dVs m.start.kids,di most,dn,dn]] []))) ?_
  refine⟨hW,rfl,d1,d2,d3,d4,⟨?_⟩⟩
  refine BX 39 23 [.ptr 0 0,di d] (.tup [db r.whole,di r.err]) (stX m most l st) (by rfl) (by kernel_rfl) (by kernel_rfl) (by kernel_rfl) rfl (by rfl) k3 ?_
  refine C4 mixed 55 [3] 7 3 (.f<|.h (.q 10 4)<|.h (.ga 48)<|.h (.oc (.tup []) ⟨[some (cX m most (.gro 1 l.length 2) (.acc 1 (st.map Ay))),some (Ab ((sortV l).map eV))],ow1 st⟩)<|.h (.q 11 0)<|.h (.cs ⟨[some (cX m most (dVs (sortV l)) (.acc 1 (st.map Ay))),none],ow1 st⟩)<|.r) ?_
  refine via (by kernel_rfl:((r.err !=0)=false/\(N0 [D.v Am1,Azi 1 0 l.length,D.v Alv] (stX m most l st) (Azn []) (Azd [some (Ape m most l.length st),some (Ab (map eV (sortV l)))] (ow1 st)))/\(∀(e:List D) (E:Ent) (g:Gh) (a:Act) (w:World),FI E g (Azd [some (Ape m most l.length st),some (Ab (map eV (sortV l)))] [(Apy st)]) e a w->∃g',FI E g' (Azd [some (cX m most (dVs (sortV l)) (Ak9 st)),none] (ow1 st)) e a w)/\Azn [D.v (vVs (sortV l)),db r.whole,di 0]=Azn [dVs (sortV l),db r.whole,di 0])=_) ?_
  refine⟨hf1,fun o cl fo hop hc=>?_,fun e=>?_,rfl⟩
  ·have:=MR (dc:=[.arr 0 0 l.length,dfn 25]) (σ:=stX m most l st) (q:=1) (fs:=[]) (cs:=[]) (ds:=[.arr 1 0 l.length,dfn 25]) hop hc rfl (A3 _) (A3 _) (.arr (.pl rfl .nil)) rfl (FV l (by omega) fun v hv=>by have:=hm.size v (c2 v hv);omega)
   simpa[stX] using this
  ·exact JD (σ:=⟨[some (cX m most (.gro 1 l.length 2) (.acc 1 (st.map Ay))),some (Ab ((sortV l).map eV))],ow1 st⟩) (p:=0) (q:=1) (i:=11) (sz:=2) (cs:=cX m most (.gro 1 l.length 2) (.acc 1 (st.map Ay))) (xs:=(sortV l).map eV) (by decide) rfl rfl (by decide) (by rw[H3,hsl];rfl) (C7 _) e
noncomputable abbrev Ajl:Func:= Tryz.f36
abbrev vCv(t:Val):V:=.ifc 124 (.agg [vi t.n,vVs t.kids])
abbrev vRc(t:Val):V:=.ifc 125 (.agg [vi t.n,vVs t.kids])
theorem AiN:PP.underlying 124=some (.struct (PP.fieldsOf 124)):=by kernel_rfl
theorem Aic:PP.underlying 125=some (.struct (PP.fieldsOf 125)):=by kernel_rfl
theorem Akh:∀v w,(Go.method (PP.types.size+Made.depth) 124 v "coverability/audit.shows").run PP w=.ok (313,v) w:=fun v w=>by kernel_rfl
theorem Aj7:∀v w,(Go.method (PP.types.size+Made.depth) 125 v "coverability/audit.shows").run PP w=.ok (352,v) w:=fun v w=>by kernel_rfl
theorem Uu(p:Int)(t:Val):Aa PP 36 [dQ ⟨1,p,t⟩] σ0 (.v (vCv t)) σ0:=by
 refine sv Ajl 21 [1] (.k<|.h (.q 3 3)<|.h (.p (.v (vCv t))) .r) ((∀(τ:St),Ah PP (Oper.mk (some 10) (Op.makeInterface 124 (Operand.tmp 9)) 83 "audit.go:120" #[Edge.mk 2 Ground.data] none) [D.v (Azh [vi (Val.n (Qst.mk 1 p t).target),vVs (Val.kids (Qst.mk 1 p t).target)])] τ (D.v (vCv t)) τ)/\Q (D.v (vCv t))) ?_
 exact⟨fun τ=>Rq rfl AiN (fun ms h=>by cases h) _,rfl⟩
theorem Ut(p:Int)(t:Val):Aa PP 36 [dQ ⟨2,p,t⟩] σ0 (.v (vRc t)) σ0:=by
 refine sv Ajl 21 [1] (.k<|.k<|.h (.q 5 3)<|.h (.p (.v (vRc t))) .r) ((∀(τ:St),Ah PP (Oper.mk (some 16) (Op.makeInterface 125 (Operand.tmp 15)) 83 "audit.go:122" #[Edge.mk 2 Ground.data] none) [D.v (Azh [vi (Val.n (Qst.mk 2 p t).target),vVs (Val.kids (Qst.mk 2 p t).target)])] τ (D.v (vRc t)) τ)/\Q (D.v (vRc t))) ?_
 exact⟨fun τ=>Rq rfl Aic (fun ms h=>by cases h) _,rfl⟩
noncomputable abbrev Aka:Func:= Tryz.f313
noncomputable abbrev AjM:Func:= Tryz.f352
theorem Abo{m:Mod}{t c:Val}{b:Bool}(h:Aa PP 314 [Ag m,dV t,dV c] σ0 (.tup [db b,di 0]) σ0):Aa PP 313 [dV t,Ag m,dV c] σ0 (db b) σ0:=by
 refine sv Aka 18 [3,4,5] (.c (.tup [db b,di 0]) .r) (F0 314 [Ag m,dV t,dV c] (Azn [db b,di 0])/\Q (db b)) ?_
 exact⟨h,rfl⟩
theorem ZH{m:Mod}{t c:Val}(hc:c.size<=1000000):Aa PP 352 [dV t,Ag m,dV c] σ0 (db (Au c t==0)) σ0:=by
 refine sv AjM 11 [3,4,5] (.c (db (Au c t==0)) .r) (F0 119 [dV c,dV t] (db (Au c t==0))/\Q (db (Au c t==0))) ?_
 exact⟨LO c t hc,rfl⟩
noncomputable abbrev AgS:Func:= Tryz.f37
noncomputable abbrev Am7:=(Oper.mk (some 8) (Op.call (Call.mk (Callee.invoke (Operand.tmp 5) "coverability/audit.shows") #[Operand.tmp 6,Operand.tmp 7] #[33,31])) 4 "audit.go:161" #[Edge.mk 0 Ground.data,Edge.mk 1 Ground.data,Edge.mk 2 Ground.data] none)
theorem Yf{m:Mod}{t c:Val}{b:Bool}(h:Aa PP 314 [Ag m,dV t,dV c] σ0 (.tup [db b,di 0]) σ0):Aa PP 37 [dV c,.v (.ref (vCv t)),.v (.ref (A8 m))] σ0 (db b) σ0:=by
 refine sv AgS 9 [3] (.h (.q 1 3)<|.h (.p (db b)) .r) ((∀(τ:St),Ah PP Am7 [D.v (vCv t),Ag m,dV c] τ (db b) τ)/\Q (db b)) ?_
 exact⟨fun τ=>Rs rfl rfl Akh rfl rfl (Abo h),rfl⟩
theorem Ye{m:Mod}{t c:Val}(hc:c.size<=1000000):Aa PP 37 [dV c,.v (.ref (vRc t)),.v (.ref (A8 m))] σ0 (db (Au c t==0)) σ0:=by
 refine sv AgS 9 [3] (.h (.q 1 3)<|.h (.p (db (Au c t==0))) .r) ((∀(τ:St),Ah PP Am7 [D.v (vRc t),Ag m,dV c] τ (db (Au c t==0)) τ)/\Q (db (Au c t==0))) ?_
 exact⟨fun τ=>Rs rfl rfl Aj7 rfl rfl (ZH hc),rfl⟩
noncomputable abbrev Abc:Func:= Tryz.f15
noncomputable def Ff:Code:=Abc.body.getD .skip
def Py(S:Val->List Stp×Int)(v:Val):Nat->List Val×Bool×Int
 |0=>A7 S 256 0 v
 |d+1=>if ((A7 S 256 (d+1) v).2.2 !=0)=true then Py S v d else A7 S 256 (d+1) v
abbrev Acm(y:Bool)(rest:List V):V:=.agg (.bool true:: .bool y::rest)
abbrev dEx(r:List Val×Bool×Int):D:=.tup [dVs r.1,db r.2.1,di r.2.2]
abbrev Ajy(m:Mod)(q:Qst)(rest:List V)(d:Nat)(r:List Val×Bool×Int):List (Nat×D):=[(3,di d),(4,.v (.ref (A8 m))),(5,.v (.ref (vQ q))),(6,.v (.ref (Acm false rest))),(11,dVs r.1),(12,db r.2.1),(13,di r.2.2)]
abbrev Ahy(m:Mod)(q:Qst)(rest:List V)(res:Bool)(d:Nat)(r:List Val×Bool×Int):Prop:=AT (CN 0) PP (fun env σ1=>Aw PP Abc env σ1 (.tup [db res,di 0]) σ0) [.code (sub Ff [1,1,1,1,1,0,1]),.code (sub Ff [1,1,1,1,1,1])] (A0 (sub Ff [1,1,1,1,1,0,0])) (List.drop 0 (A0 (sub Ff [1,1,1,1,1,0,0])).toList) (mkE 91 (Ajy m q rest d r)) σ0
noncomputable abbrev Arj:=[db true,di 0]
theorem Yb(m:Mod)(q:Qst)(rest:List V)(d:Nat)(r:List Val×Bool×Int)(h:(r.2.2 !=0)=true):Ahy m q rest true d r:=by
 refine C4 mixed 91 [4,5,6] 10 0 (.k<|.t .r) ?_
 refine via (by kernel_rfl:((r.snd.snd !=0)=true/\Q (Azn Arj))=_) ?_
 exact⟨h,rfl⟩
theorem Agj:PP.underlying 83=some (.interface (PP.methodsAt 83)):=by kernel_rfl
theorem AdK:∃i,PP.info? 83=some i/\i.zero=some .nilIface:=⟨(PP.info? 83).getD default,by kernel_rfl,by kernel_rfl⟩
theorem AcN{o:Oper}(ho:o.op=.alloc 83):Ah PP o [] σ0 (.ptr 0 0) ⟨[some [.raw .nilIface]],[]⟩:=by
 obtain⟨i,h1,h2⟩:=AdK
 exact Ww (σ:=σ0) ho h1 h2 rfl rfl
noncomputable abbrev Aow:=(Oper.mk (some 78) (Op.binOp BinOp.eql 83 (Operand.tmp 77) (Operand.const Value.nilIface) 83) 4 "audit.go:158" #[Edge.mk 0 Ground.data] none)
theorem Yc(m:Mod)(t:Val)(rest:List V)(d:Nat)(r:List Val×Bool×Int)(h:(r.2.2 !=0)=false)(hl:r.1.length<=1000000)(p:Val->Bool)(hp:∀c∈r.1,Aa PP 314 [Ag m,dV t,dV c] σ0 (.tup [db (p c),di 0]) σ0):Ahy m ⟨1,0,t⟩ rest (!r.1.any p) d r:=by
 have h1:=Uu 0 t
 have h2:=EM 37 [] [.ref (vCv t),.ref (A8 m)] p r.1 hl (fun c hc=>Yf (hp c hc))
 refine C4 mixed 91 [4,5,6] 10 0 (.k<|.f<|.c (.v (vCv t))<|.h (.q 14 2)<|.h (.o (.ptr 0 0) ⟨[some [.raw .nilIface]],[]⟩)<|.h (.q 15 0)<|.h (.f1 0 [14])<|.h (.q 15 1)<|.h (.p (db false))<|.c (db (r.1.any p)) .r) ?_
 refine via (by kernel_rfl:((r.snd.snd !=0)=false/\F0 36 [D.v (vQ (Qst.mk 1 0 t))] (D.v (vCv t))/\Ah PP (Oper.mk (some 14) (Op.alloc 83) 0 "audit.go:157" #[] none) [] σ0 (Azb 0 0) (Azd [some [D.raw Value.nilIface]] [])/\(∀(τ:St),Ah PP Aow [D.v (vCv t),Azj] τ (db false) τ)/\F0 33 [dVs r.fst,D.v (Azl 37 [] [Azo (vCv t),Azo (A8 m)])] (db (List.any r.fst p))/\Q (Azn [db !List.any r.fst p,di 0]))=_) ?_
 exact⟨h,h1,AcN rfl,fun τ=>Rr rfl Agj,h2,rfl⟩
theorem Ya(m:Mod)(t:Val)(rest:List V)(d:Nat)(r:List Val×Bool×Int)(h:(r.2.2 !=0)=false)(hl:r.1.length<=1000000)(hz:∀c∈r.1,c.size<=1000000):Ahy m ⟨2,0,t⟩ rest (!r.1.any fun c=>Au c t==0) d r:=by
 have h1:=Ut 0 t
 have h2:=EM 37 [] [.ref (vRc t),.ref (A8 m)] (fun c=>Au c t==0) r.1 hl (fun c hc=>Ye (hz c hc))
 refine C4 mixed 91 [4,5,6] 10 0 (.k<|.f<|.c (.v (vRc t))<|.h (.q 14 2)<|.h (.o (.ptr 0 0) ⟨[some [.raw .nilIface]],[]⟩)<|.h (.q 15 0)<|.h (.f1 0 [14])<|.h (.q 15 1)<|.h (.p (db false))<|.c (db (r.1.any fun c=>Au c t==0)) .r) ?_
 refine via (by kernel_rfl:((r.snd.snd !=0)=false/\F0 36 [D.v (vQ (Qst.mk 2 0 t))] (D.v (vRc t))/\Ah PP (Oper.mk (some 14) (Op.alloc 83) 0 "audit.go:157" #[] none) [] σ0 (Azb 0 0) (Azd [some [D.raw Value.nilIface]] [])/\(∀(τ:St),Ah PP Aow [D.v (vRc t),Azj] τ (db false) τ)/\F0 33 [dVs r.fst,D.v (Azl 37 [] [Azo (vRc t),Azo (A8 m)])] (db (List.any r.fst fun c=>Au c t==0))/\Q (Azn [db !List.any r.fst fun c=>Au c t==0,di 0]))=_) ?_
 exact⟨h,h1,AcN rfl,fun τ=>Rr rfl Agj,h2,rfl⟩
section
variable {m : Mod} {C : Val -> Prop} {S : Val -> List Stp × Int} (hm : Fw m C S) (q : Qst) (rest : List V) {res : Bool}
include hm
noncomputable abbrev Ao6:=(A0 (sub Ff [1,1,1,1,1,0,0]))
theorem AbW(d:Nat)(hd:d<=16)(hend:∀d',Ahy m q rest res d' (Py S m.start d)):
  Rn PP Abc 0 (.tup [db res,di 0]) σ0 ([.lp (sub Ff [1,1,1,1,0,0,0]),.blk 0,.code (sub Ff [1,1,1,1,1])]++[]) (mkE 91 (Ajy m q rest d (A7 S 256 d m.start))) σ0:=by
 induction d with
 |zero=>
  have he0:=hend 0
  rw[Py] at he0
  generalize A7 S 256 0 m.start=r at*
  obtain⟨l,w,e⟩:=r
  by_cases he:(e !=0)=true
  ·refine lv 91 [4,5,6] (.t<|.k<|.h (.q 10 0)<|.h (.s [ke 3,ke 4,ke 5,ke 6,ke 11,ke 12,ke 13]) .z) (((l,w,e).snd.snd !=0)=true/\Nv.It (AT (CN 0) PP (fun env σ1=>Aw PP Abc env σ1 (Azn [db res,di 0]) σ0) [kc Ff [1,1,1,1,1,0,1],kc Ff [1,1,1,1,1,1]] Ao6 (List.drop 0 Ao6.toList) (mkE 91 [(3,di (↑0:Int)),(4,D.v (Amc m)),(5,D.v (Azo (vQ q))),(6,D.v (Azo (Acm false rest))),(11,D.v (vVs (l,w,e).fst)),(12,db (l,w,e).snd.fst),(13,di (l,w,e).snd.snd)]) σ0)) ?_
   exact⟨he,⟨he0⟩⟩
  ·refine lv 91 [4,5,6] (.f<|.k<|.h (.q 10 0)<|.h (.s [ke 3,ke 4,ke 5,ke 6,ke 11,ke 12,ke 13]) .z) (((l,w,e).snd.snd !=0)=false/\Nv.It (AT (CN 0) PP (fun env σ1=>Aw PP Abc env σ1 (Azn [db res,di 0]) σ0) [kc Ff [1,1,1,1,1,0,1],kc Ff [1,1,1,1,1,1]] Ao6 (List.drop 0 Ao6.toList) (mkE 91 [(3,di (↑0:Int)),(4,D.v (Amc m)),(5,D.v (Azo (vQ q))),(6,D.v (Azo (Acm false rest))),(11,D.v (vVs (l,w,e).fst)),(12,db (l,w,e).snd.fst),(13,di (l,w,e).snd.snd)]) σ0)) ?_
   exact⟨HG he,⟨he0⟩⟩
 |succ d ih=>
  have hx:=JB hm 256 (by decide) d (by omega)
  rw[Py] at hend
  by_cases he:((A7 S 256 (d+1) m.start).2.2 !=0)=true
  ·rw[HP he] at hend
   have hih:=ih (by omega) hend
   generalize A7 S 256 (d+1) m.start=r at*
   generalize A7 S 256 d m.start=r2 at*
   obtain⟨l,w,e⟩:=r
   obtain⟨l2,w2,e2⟩:=r2
   refine lv 91 [4,5,6] (.t<|.t<|.c (dEx (l2,w2,e2))<|.l [ch 3 (di d),ke 4,ke 5,ke 6,ch 11 (dVs l2),ch 12 (db w2),ch 13 (di e2)]) (((l,w,e).snd.snd !=0)=true/\decide ((↑(d+1):Int)>0)=true/\F0 9 [Ag m,di (wrap i64 ((↑(d+1):Int)-1)),di 256] (dEx (l2,w2,e2))/\di (wrap i64 ((↑(d+1):Int)-1))=di (d:Int)/\dVs (l2,w2,e2).fst=dVs l2/\db (l2,w2,e2).snd.fst=db w2/\di (l2,w2,e2).snd.snd=di e2/\I0 Abc 0 (Azn [db res,di 0]) σ0 [kl Ff [1,1,1,1,0,0,0],Aza 0,kc Ff [1,1,1,1,1]] (mkE 91 [(3,di (d:Int)),(4,D.v (Amc m)),(5,D.v (Azo (vQ q))),(6,D.v (Azo (Acm false rest))),(11,dVs l2),(12,db w2),(13,di e2)]) σ0) ?_
   have hw:wrap i64 (((d+1:Nat):Int)-1)=d:=by rw[Al (by omega) (by omega)];omega
   rw[hw]
   exact⟨he,H6 (by omega),hx,rfl,rfl,rfl,rfl,⟨hih⟩⟩
  ·rw[HL he] at hend
   have he0:=hend (d+1)
   generalize A7 S 256 (d+1) m.start=r at*
   obtain⟨l,w,e⟩:=r
   refine lv 91 [4,5,6] (.f<|.k<|.h (.q 10 0)<|.h (.s [ke 3,ke 4,ke 5,ke 6,ke 11,ke 12,ke 13]) .z) (((l,w,e).snd.snd !=0)=false/\Nv.It (AT (CN 0) PP (fun env σ1=>Aw PP Abc env σ1 (Azn [db res,di 0]) σ0) [kc Ff [1,1,1,1,1,0,1],kc Ff [1,1,1,1,1,1]] Ao6 (List.drop 0 Ao6.toList) (mkE 91 [(3,di (↑(d+1):Int)),(4,D.v (Amc m)),(5,D.v (Azo (vQ q))),(6,D.v (Azo (Acm false rest))),(11,D.v (vVs (l,w,e).fst)),(12,db (l,w,e).snd.fst),(13,di (l,w,e).snd.snd)]) σ0)) ?_
   exact⟨HG he,⟨he0⟩⟩
theorem Sm(d:Nat)(hd:d<=16)(hq:q.kind=1∨q.kind=2)(hchk:Aa PP 32 [Ag m,dQ q] σ0 (di 0) σ0)(hend:∀d',Ahy m q rest res d' (Py S m.start d)):
  Aa PP 15 [Ag m,dQ q,.v (Acm false rest),di d] σ0 (.tup [db res,di 0]) σ0:=by
 have hx:=JB hm 256 (by decide) d hd
 have hl:=AbW hm q rest d hd hend
 generalize A7 S 256 d m.start=r at*
 refine sv Abc 91 [4,5,6] (.c (di 0)<|.k<|.f<|.f<|.c (dEx r)<|.l [ke 3,ke 4,ke 5,ke 6,ch 11 (dVs r.1),ch 12 (db r.2.1),ch 13 (di r.2.2)]) (F0 32 [Ag m,D.v (vQ q)] (di 0)/\decide ((d:Int)<0)=false/\decide ((d:Int)>16)=false/\F0 9 [Ag m,di (d:Int),di 256] (dEx r)/\Q (dVs r.fst)/\Q (db r.snd.fst)/\Q (di r.snd.snd)/\I0 Abc σ0.H.length (Azn [db res,di 0]) σ0 [kl Ff [1,1,1,1,0,0,0],Aza 0,kc Ff [1,1,1,1,1]] (mkE 91 [(3,di (d:Int)),(4,D.v (Amc m)),(5,D.v (Azo (vQ q))),(6,D.v (Azo (Acm false rest))),(11,dVs r.fst),(12,db r.snd.fst),(13,di r.snd.snd)]) σ0) ?_
 exact⟨hchk,H8 (by omega),H8 (by omega),hx,rfl,rfl,rfl,⟨hl⟩⟩
end
end Go.Proofs.YtmhjflomgppcnaaGreatDoor
