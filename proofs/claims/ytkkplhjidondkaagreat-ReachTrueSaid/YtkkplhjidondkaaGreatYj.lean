/-
  A part of the proof.
-/
import Derived.Test.YtkkplhjidondkaaGreatZh
import Derived.Test.YtkkplhjidondkaaGreatZi
namespace Go.Proofs.YtkkplhjidondkaaGreat
open Go.Dv Go.Nv
set_option maxRecDepth 20000
open Go.IntKind (u64)
open Go.IntKind renaming wrap → yu, i64 → yt
open List renaming length → I, map → U, drop → W
open Option renaming some → G
open Bool renaming true → J, false → O
open Decidable renaming decide → Y
open Int renaming toNat → Z
open Go.Dv.V renaming list → ai, str → ae, agg → ab, int → aa, ref → bz, fn → bw, nils → bv, bool → bu
open Go.Dv.D renaming v → bt, acc → br, ptr → bq, arr → bo, gro → bm, tup → bk, undef → bj, dagg → bi
open Go.Dv.St renaming mk → bh
open Go.Dv.KI renaming blk → bf
open _root_.ByteArray renaming mk → bc
open Go renaming Operand → x8, Program → x7, TypeId → x6, World → x5, Value → yz, Oper → yy, FuncId → yx, Func → yw, IntKind → yv
noncomputable abbrev Ajn:=Tryz.f3
theorem true_spec(s:List UInt8):F0 3 [.v (jt s)] (db J):=by
 obtain⟨l,hl⟩:∃l,l=s.take 200:=⟨_,rfl⟩
 have hll:I l<=200:=by grind
 have hnew:=fun(o:yy) (c:Call) (fo:x8) (ho:o.op=.call c) (hc:c.callee=.value fo)=>hl▸Aly s ho hc
 obtain⟨m,a1,hmk,m2,m3⟩:=Anv l hll 0 (Iu _)
 obtain⟨c,run,a2,hr,hrl,a2l,hnr⟩:=Afx m hmk l hll a1 m2 3 (by decide)
 obtain⟨X,hm,hX⟩:=hmk.mdlA (hr.ok hmk)
 have hdc:=Acf hm 60 (by decide)
 have htl:=XK hm hX 60
 have hpv:=Aae m hmk run c c hr (by omega)
 rw[Ie (by grind[D5])] at hpv
 generalize nq m (BW m) X c 60 (BH m) (Aq 0)=p at hdc htl
 obtain⟨v,e⟩:=p
 dsimp only at hdc htl
 by_cases he:(e !=0)=J
 ·refine sv Ajn 51 [] (.c (db J)<|.h (.oc (.ptr 0 0) (dz l 0))<|.c1 (cn l a1) (Ad m)<|.c1 (cn l a2) (.tup [dV c,.v (B1 run)])<|.c (FJ (v,e))<|.c (di 0)<|.k<|.t .r) (F0 5 [] (db J)/\(N0 [bt (bw 6 [] []),bt (jt s)] ba (bq 0 0) (dz l 0))/\Aa PP 7 [bq 0 0] (bh [G (cn l 0)] []) (Ad m) (dz l a1)/\Aa PP 8 [bq 0 0,Ad m,di 3] (dz l a1) (bk [dV c,bt (B1 run)]) (dz l a2)/\F0 9 [Ad m,dV c,di 60] (FJ (v,e))/\F0 10 [Ad m,dV c,bt (B1 run)] (di 0)/\((v,e).snd !=0)=J/\Q (db J)) ?_
  grind[Mf]
 ·have he2:e=0:=by grind
  subst he2
  cases h1:v.decided with
  |false=>
   refine sv Ajn 51 [] (.c (db J)<|.h (.oc (.ptr 0 0) (dz l 0))<|.c1 (cn l a1) (Ad m)<|.c1 (cn l a2) (.tup [dV c,.v (B1 run)])<|.c (FJ (v,0))<|.c (di 0)<|.k<|.k<|.t .r) (F0 5 [] (db J)/\(N0 [bt (bw 6 [] []),bt (jt s)] ba (bq 0 0) (dz l 0))/\Aa PP 7 [bq 0 0] (bh [G (cn l 0)] []) (Ad m) (dz l a1)/\Aa PP 8 [bq 0 0,Ad m,di 3] (dz l a1) (bk [dV c,bt (B1 run)]) (dz l a2)/\F0 9 [Ad m,dV c,di 60] (FJ (v,0))/\F0 10 [Ad m,dV c,bt (B1 run)] (di 0)/\(!(v,0).fst.decided)=J/\Q (db J)) ?_
   grind[Mf]
  |true=>
   obtain⟨g1,g2⟩:=htl.reached hr h1
   exact sv Ajn 51 [] (.c (db J)<|.h (.oc (.ptr 0 0) (dz l 0))<|.c1 (cn l a1) (Ad m)<|.c1 (cn l a2) (.tup [dV c,.v (B1 run)])<|.c (FJ (v,0))<|.c (di 0)<|.k<|.k<|.f<|.t .r) (_/\_/\_/\_/\_/\_/\(!(v,0).fst.decided)=O/\_/\db (Y ((I (U c8 (v,0).fst.run):Int)<=(I (U c8 run):Int)))=db J) ⟨Mf,hnew,m3,hnr,hdc,hpv,by grind,g1,by grind⟩
end Go.Proofs.YtkkplhjidondkaaGreat
