/-
  A part of the proof.
-/
import Derived.Test.YthmjfmacdlhfjaaGreatZi
namespace Go.Proofs.YthmjfmacdlhfjaaGreat
open Go.Dv Go.Nv
set_option maxRecDepth 20000
open Go.IntKind (u64)
open Go.IntKind renaming wrap → yr, i64 → yq
open List renaming length → I, map → U, drop → W
open Option renaming some → G
open Bool renaming true → J, false → O
open Decidable renaming decide → Y
open Int renaming toNat → Z
open Go.Dv.V renaming list → ai, str → ae, agg → ab, int → aa, ref → bz, fn → bw, nils → bv, bool → bu
open Go.Dv.D renaming v → bt, acc → br, ptr → bq, arr → bo, gro → bm, tup → bl, undef → bk, dagg → bj
open Go.Dv.St renaming mk → bi
open Go.Dv.KI renaming blk → bh
open _root_.ByteArray renaming mk → bg
open Go renaming Operand → x5, Program → x4, TypeId → yz, World → yy, Value → yx, Oper → yw, FuncId → yv, Func → yu, IntKind → yt
abbrev rA:cq:=⟨[114],0,0,[],[],[],0,2,0,[],[],[],[],0⟩
abbrev mA:ba:=⟨2,[[97]],[[99]],[[120]],[],0,0,[rA],c0⟩
theorem ta:mA.ok where
 kind:=.inr (.inl rfl)
 sized:=by decide
 ranked:=by decide
 named:=by decide
 rshort:=fun r hr=>by rw[Ii.1 hr];exact⟨by decide,by decide,by decide,by decide,by decide,by decide,by decide⟩
 right:=fun r hr=>by rw[Ii.1 hr];decide
 start:=by decide
 ssize:=by decide
theorem MT:ip mA (AJ mA)/\kr mA (AJ mA) (fj mA (AJ mA)):=
 Zz ta (.inl rfl) (by decide) fun r hr=>by rw[Ii.1 hr];exact⟨by decide,by decide,fun h=>by simp at h⟩
theorem QJ:Aw (AJ mA) c0=J:=ta.start
theorem tp:Aw (AJ mA) e0=J:=by decide
theorem Y4:∀w,w∈GY mA [0]↔w=[]:=fun w=>by
 refine⟨fun h=>?_,fun h=>?_⟩
 ·have:=(FD h).1
  exact List.length_eq_zero_iff.1 (by simpa using this)
 ·rw[h]
  unfold GY Ft
  rw[Ij (by decide),Io (by decide)]
  exact((DZ _).2 _).2 (by decide)
theorem Y3:sortV (fk mA c0 1)=[e0]:=by
 obtain⟨h1,h2⟩:=OD (m:=mA) (s:=0) (ws:=[[0]]) rfl
 refine Agt TQ h1 (RZ e0) fun v=>?_
 rw[Ii]
 refine(h2 v).trans ⟨?_,fun h=>⟨0,[0],[],rfl,(Y4 _).2 rfl,h⟩⟩
 rintro ⟨k,w,w',hk,hw,rfl⟩
 match k,hk with
 |0,hk=>
  cases hk
  rw[(Y4 _).1 hw];rfl
theorem apq:fj mA (AJ mA) c0 (-1)=([e0],0):=by
 rw[fj,Io (by decide)]
 exact Iq (fun l=>(l,(0:Int))) Y3
theorem u9:fj mA (AJ mA) c0 0=([e0],0):=by
 have h:QS (AJ mA) rA c0=(e0,0):=by
  unfold QS
  rw[Io QJ];rfl
 rw[fj,Ij (by decide)]
 show Cx (QS (AJ mA) rA c0)=_
 rw[h];rfl
theorem Air:F0 11 [Ax mA,dV c0] (fi ([(-1,e0),(0,e0)],0)):=by
 have h:=(tf MT.2.st c0 (by decide)).2
 have e:M7 mA (AJ mA) (fj mA (AJ mA)) c0=([(-1,e0),(0,e0)],0):=by
  rw[M7,Io QJ]
  show CJ (fj mA (AJ mA) c0) 2 (-1) []=_
  rw[CJ,apq]
  show CJ (fj mA (AJ mA) c0) 1 0 [(-1,e0)]=_
  rw[CJ,u9]
  rfl
 rwa[e] at h
theorem Acf:F0 16 [Ax mA,dV c0] (.tup [cx [e0],di 0]):=by
 have h:=OC mA _ MT.1 (by decide) c0 QJ
 rw[show I mA.ay=1 from rfl,Y3] at h
 exact o9 MT.2.st c0 (by decide) QJ _ (se (.inl rfl) h)
theorem AfF:F0 12 [Ax mA,di 0,dV c0] (dm ([e0],0)):=by
 have h:=v6 MT.2.st c0 (by decide) QJ 0 (by decide) (by decide)
 rwa[u9] at h
theorem Aip:F0 17 [Ax mA,dV e0,dV c0] (.tup [db J,di 0]):=
 (Ty ta (.inl rfl) (by decide) QJ e0 (by rw[show I mA.ay=1 from rfl,Y3];exact Ii.2 rfl) tp).1
theorem Aiq:F0 69 [Ax mA,dl [Au c0,Au e0]] (di 0):=by
 have hm:=MT.1
 have h:=Gw 138 [] [.ref (AE mA)] (fun c=> !Aw (AJ mA) c) [c0,e0] (by decide) (fun x hx=>N1 mA (AJ mA) hm.int x (by
  rcases I8.1 hx with rfl|hx
  ·decide
  ·rw[Ii.1 hx];decide))
 rw[show [c0,e0].map eV=[Au c0,Au e0] by rw[Iu,Iu,AR,AR];rfl,show([c0,e0].any fun c=> !Aw (AJ mA) c)=O by rw[List.any_cons,List.any_cons,QJ,tp];rfl] at h
 exact sv HI 24 [2] (.c (di 0)<|.k<|.k<|.k<|.c (db O) .r) (_/\_/\Q (di 0)) ⟨hm.chk,h,rfl⟩
noncomputable abbrev Amc:=Tryz.f18
theorem AfG:F0 18 [Ax mA,dV c0,dV e0] (.tup [cx [e0],di 0]):=by
 have hm:=MT
 have h1:=te hm.2.st c0 (by decide)
 rw[QJ,Io rfl] at h1
 have h2:=hm.1.int.valid e0 (by decide)
 rw[tp] at h2
 have h3:=Adp mA (AJ mA) hm.1 rfl rfl Aiq
 exact sv Amc 39 [3,4,5] (.c (di 0)<|.k<|.c (db J)<|.k<|.k<|.k<|.c (.tup [cx [e0],di 0])<|.r) (_/\_/\_/\Q (bl [cx [e0],di 0])) ⟨h1,h2,h3,rfl⟩
noncomputable abbrev Am4:=Tryz.f6
theorem KC:F0 6 [] (db J):=by
 refine sv Am4 111 [] (.c (fi ([(-1,e0),(0,e0)],0))<|.c (.tup [cx [e0],di 0])<|.c (dm ([e0],0))<|.k<|.h (.xs (Au e0))<|.c (.tup [db J,di 0])<|.h (.xs (Au e0))<|.c (.tup [cx [e0],di 0])<|.k<|.k<|.k<|.k<|.k<|.k<|.k<|.x (dh (-1,e0))<|.k<|.r) (F0 11 [bt (ab [vi 2,ai [ae (bg #[97]).data.toList],ai [ae (bg #[99]).data.toList],ai [ae (bg #[120]).data.toList],ai [],vi 0,vi 0,ai [ab [ae (bg #[114]).data.toList,vi 0,vi 0,ai [],ai [],ai [],vi 0,vi 2,vi 0,ai [],ai [],ai [],ai [],vi 0]],vi 0,ai [ab [vi 0,ai []],ab [vi 0,ai [ab [vi 0,ai []]]]]]),bt (ab [vi 0,ai [ab [vi 0,ai []],ab [vi 0,ai [ab [vi 0,ai []]]]]])] (fi ([(-1,e0),(0,e0)],0))/\F0 16 [bt (ab [vi 2,ai [ae (bg #[97]).data.toList],ai [ae (bg #[99]).data.toList],ai [ae (bg #[120]).data.toList],ai [],vi 0,vi 0,ai [ab [ae (bg #[114]).data.toList,vi 0,vi 0,ai [],ai [],ai [],vi 0,vi 2,vi 0,ai [],ai [],ai [],ai [],vi 0]],vi 0,ai [ab [vi 0,ai []],ab [vi 0,ai [ab [vi 0,ai []]]]]]),bt (ab [vi 0,ai [ab [vi 0,ai []],ab [vi 0,ai [ab [vi 0,ai []]]]]])] (bl [cx [e0],di 0])/\F0 12 [bt (ab [vi 2,ai [ae (bg #[97]).data.toList],ai [ae (bg #[99]).data.toList],ai [ae (bg #[120]).data.toList],ai [],vi 0,vi 0,ai [ab [ae (bg #[114]).data.toList,vi 0,vi 0,ai [],ai [],ai [],vi 0,vi 2,vi 0,ai [],ai [],ai [],ai [],vi 0]],vi 0,ai [ab [vi 0,ai []],ab [vi 0,ai [ab [vi 0,ai []]]]]]),di 0,bt (ab [vi 0,ai [ab [vi 0,ai []],ab [vi 0,ai [ab [vi 0,ai []]]]]])] (dm ([e0],0))/\Q 2/\iz 0<=0/\G (eV e0)=G (Au e0)/\F0 17 [bt (ab [vi 2,ai [ae (bg #[97]).data.toList],ai [ae (bg #[99]).data.toList],ai [ae (bg #[120]).data.toList],ai [],vi 0,vi 0,ai [ab [ae (bg #[114]).data.toList,vi 0,vi 0,ai [],ai [],ai [],vi 0,vi 2,vi 0,ai [],ai [],ai [],ai [],vi 0]],vi 0,ai [ab [vi 0,ai []],ab [vi 0,ai [ab [vi 0,ai []]]]]]),dV e0,bt (ab [vi 0,ai [ab [vi 0,ai []],ab [vi 0,ai [ab [vi 0,ai []]]]]])] (bl [db J,di 0])/\ym/\Q 2/\iz 0<=0/\G (eV e0)=G (Au e0)/\F0 18 [bt (ab [vi 2,ai [ae (bg #[97]).data.toList],ai [ae (bg #[99]).data.toList],ai [ae (bg #[120]).data.toList],ai [],vi 0,vi 0,ai [ab [ae (bg #[114]).data.toList,vi 0,vi 0,ai [],ai [],ai [],vi 0,vi 2,vi 0,ai [],ai [],ai [],ai [],vi 0]],vi 0,ai [ab [vi 0,ai []],ab [vi 0,ai [ab [vi 0,ai []]]]]]),bt (ab [vi 0,ai [ab [vi 0,ai []],ab [vi 0,ai [ab [vi 0,ai []]]]]]),dV e0] (bl [cx [e0],di 0])/\ym/\iz 0<=0/\Q (G (dh (-1,e0)))/\db ((I (U eV [e0]):Int)==1)=db J) ?_
 have ec:bt (ab [vi 0,ai [ab [vi 0,ai []],ab [vi 0,ai [ab [vi 0,ai []]]]]])=dV c0:=by rw[show dV c0=bt (eV c0) by rw[AR]];rfl
 have ek:ai [ab [vi 0,ai []],ab [vi 0,ai [ab [vi 0,ai []]]]]=cc c0.az:=rfl
 rw[ec,ek]
 exact⟨Air,Acf,AfF,rfl,by decide,by rw[AR],Aip,yk,rfl,by decide,by rw[AR],AfG,yk,by decide,rfl,rfl⟩
theorem states_spec(l:List Int):F0 5 [cy l] (db J):=Xc KC l
theorem all_spec(l:List Int):F0 3 [cy l] (db J):=Ajq KC l
theorem quiet_spec(l:List Int):F0 4 [cy l] (db J):=Abv KC l
end Go.Proofs.YthmjfmacdlhfjaaGreat
