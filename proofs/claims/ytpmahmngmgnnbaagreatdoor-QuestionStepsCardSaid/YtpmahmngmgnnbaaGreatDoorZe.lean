/-
  A part of the proof.
-/
import Derived.Test.YtpmahmngmgnnbaaGreatDoorZd
import Derived.Laws.StructEq
import Derived.ChangeKeysEq
import Derived.Test.YtpmahmngmgnnbaaGreatDoorZc
import Derived.Shelf.Strings.BuilderK
import Derived.Shelf.Strings.Cut
import Derived.Shelf.Strconv.Itoa3
import Derived.WalkKit
import Derived.BigCall
import Derived.Lib.AtoiAll
import Derived.Lib.ItoaMem
import Derived.Lib.ItoaLen
import Derived.Test.YtpmahmngmgnnbaaGreatDoorZa
import Derived.Shelf.Strconv.AtoiAll
import Derived.Sort.Grow
import Derived.WideLaws
namespace Go.Proofs.YtpmahmngmgnnbaaGreatDoor
open Go.Dv Go.Nv
set_option maxRecDepth 20000
open List (length map take)
open Go.IntKind (wrap)
abbrev dl2:List (List UInt8):=[[114],[115]]
def mkT(nm:List UInt8)(f t:Int)(tk:List Tk)(mk:List Int):Rul:=⟨nm,f,t,[],[],[],0,0,0,[],[],tk,mk,0⟩
abbrev cTm(S Pl:List (List UInt8))(ag:Int)(rs:List Rul):List D:=[di 5,.v (vSs S),.v (vSs Pl),.v .nils,.v .nils,di 0,di ag,.acc 2 (rs.map Ah),di 0,.v .nils]
abbrev QO(l:List UInt8)(a:Nat)(S Pl:List (List UInt8))(ag:Int)(rs:List Rul):St:=⟨[some (cDz l a),some zM,some (cTm S Pl ag rs)],[(2,14,rs.map Ah)]⟩
structure Kq(ns np:Nat)(ag:Int)(k:Nat)(r:Rul):Prop where
 name:dl2[k]?=some r.name
 frm:0<=r.frm/\r.frm<ns
 to:0<=r.to/\r.to<ns
 takes:r.takes=[]∨∃p lo hi:Int,(0<=p/\p<np)/\(0<=lo/\lo<=hi/\hi<=ag+1)/\r.takes=[⟨p,lo,hi⟩]
 makes:r.makes=[]∨∃p:Int,(0<=p/\p<np)/\r.makes=[p]
 rest:r=mkT r.name r.frm r.to r.takes r.makes
structure BM(m:Mod):Prop where
 kind:m.kind=5
 states:m.states=[[97]]∨m.states=[[97],[98]]
 places:m.places=[[120]]∨m.places=[[120],[121]]
 letters:m.letters=[]
 ranks:m.ranks=[]
 levels:m.levels=0
 age:0<=m.age/\m.age<=1
 count:m.rules.length<=2
 pos:1<=m.rules.length
 rules:∀k r,m.rules[k]?=some r->Kq m.states.length m.places.length m.age k r
 start:∃ts:List Val,VF m.places.length m.age 2 ts/\m.start=.mk 0 [.mk 0 [],.mk 0 ts]
theorem Od{ns np:Nat}{ag:Int}{rs:List Rul}{k:Nat}{nm:List UInt8}{f t:Int}{tk:List Tk}{mk:List Int}(hnm:dl2[k]?=some nm)(hf:0<=f/\f<ns)(ht:0<=t/\t<ns)(h1:tk=[]∨∃p lo hi:Int,(0<=p/\p<np)/\(0<=lo/\lo<=hi/\hi<=ag+1)/\tk=[⟨p,lo,hi⟩])(h2:mk=[]∨∃p:Int,(0<=p/\p<np)/\mk=[p])(hrs:rs.length=k)(hR:∀i r,rs[i]?=some r->Kq ns np ag i r):∀i r,(rs++[mkT nm f t tk mk])[i]?=some r->Kq ns np ag i r:=fun i r hi=>by
 by_cases hik:i<rs.length
 ·rw[HK hik] at hi;exact hR i r hi
 ·rw[HH (by omega)] at hi
  have h0:i-rs.length=0:=by
   have:=(H0.1 hi).1
   simp at this;omega
  rw[h0] at hi
  simp at hi;subst hi
  have hik2:i=k:=by omega
  subst hik2
  exact⟨hnm,hf,ht,h1,h2,rfl⟩
noncomputable abbrev Wu:Func:= Tryz.f21
noncomputable def PU:Code:=Wu.body.getD .skip
theorem TQ(l:List UInt8)(hl:l.length<=200)(S Pl:List (List UInt8))(ag:Int)(hS:S=[[97]]∨S=[[97],[98]])(hP:Pl=[[120]]∨Pl=[[120],[121]])(hag:0<=ag/\ag<=1)(n:Nat):∀(k a:Nat) (rs:List Rul),2-k=n->a<=l.length->k<=2->rs.length=k->(∀i r,rs[i]?=some r->Kq S.length Pl.length ag i r)->
  ∃(m:Mod) (a':Nat),BM m/\a'<=l.length/\Rn PP Wu 1 (Ad m) (dz l a') ([.lp (sub PU [1,1,0,1,0,0]),.blk 0,.code (sub PU [1,1,1])]++[]) (mkE 94 [(0,.ptr 0 0),(2,.ptr 1 0),(3,.ptr 2 0),(4,di k)]) (QO l a S Pl ag rs):=by
 induction n using Nat.strongRecOn with
 |_ n ih=>
 intro k a rs hn ha hk2 hrs hR
 have hSl:1<=S.length/\S.length<=2:=by rcases hS with rfl|rfl<;>decide
 have hPl:1<=Pl.length/\Pl.length<=2:=by rcases hP with rfl|rfl<;>decide
 have hSm:((S.map V.str).length:Int)=(S.length:Int):=by rw[Hw]
 have hPm:((Pl.map V.str).length:Int)=(Pl.length:Int):=by rw[Hw]
 have wag:wrap IntKind.i64 (ag+2)=ag+2:=Ai (by omega) (by omega)
 obtain⟨r,a1,h1,h2,h3,h4⟩:=Al l hl a ha 2 (by decide) (by decide)
 by_cases hk:(k:Int)<1+r
 ·obtain⟨f,a2,f1,f2,f3,f4⟩:=Al l hl a1 h3 S.length (by omega) (by omega)
  obtain⟨t,a3,t1,t2,t3,t4⟩:=Al l hl a2 f3 S.length (by omega) (by omega)
  obtain⟨nm,hnm⟩:∃nm,dl2[k]?=some nm:=⟨_,Hx (show k<dl2.length by show k<2;omega)⟩
  have hkr:decide ((k:Int)<wrap IntKind.i64 (1+r))=true:=by rw[Ai (by omega) (by omega)];exact Hz hk
  obtain⟨u,a4,u1,u2,u3,u4⟩:=Al l hl a3 t3 2 (by decide) (by decide)
  by_cases hu:(u==0)=true
  ·obtain⟨lo,a5,lo1,lo2,lo3,lo4⟩:=Al l hl a4 u3 (ag+2) (by omega) (by omega)
   obtain⟨p,a6,p1,p2,p3,p4⟩:=Al l hl a5 lo3 Pl.length (by omega) (by omega)
   obtain⟨hi,a7,hi1,hi2,hi3,hi4⟩:=Al l hl a6 p3 (ag+2-lo) (by omega) (by omega)
   obtain⟨x,a8,x1,x2,x3,x4⟩:=Al l hl a7 hi3 2 (by decide) (by decide)
   have wlo:wrap IntKind.i64 (ag+2-lo)=ag+2-lo:=Ai (by omega) (by omega)
   have whi:wrap IntKind.i64 (lo+hi)=lo+hi:=Ai (by omega) (by omega)
   have htk:([⟨p,lo,lo+hi⟩]:List Tk)=[]∨∃p' lo' hi':Int,(0<=p'/\p'<Pl.length)/\(0<=lo'/\lo'<=hi'/\hi'<=ag+1)/\([⟨p,lo,lo+hi⟩]:List Tk)=[⟨p',lo',hi'⟩]:=.inr ⟨p,lo,lo+hi,⟨p1,p2⟩,⟨lo1,by omega,by omega⟩,rfl⟩
   by_cases hx:(x==0)=true
   ·obtain⟨q,a9,q1,q2,q3,q4⟩:=Al l hl a8 x3 Pl.length (by omega) (by omega)
    obtain⟨m,a',m1,m2,m3⟩:=ih (2- (k+1)) (by omega) (k+1) a9 (rs++[mkT nm f t [⟨p,lo,lo+hi⟩] [q]]) rfl q3 (by omega) (by simp[hrs]) (Od hnm ⟨f1,f2⟩ ⟨t1,t2⟩ htk (.inr ⟨q,⟨q1,q2⟩,rfl⟩) hrs hR)
    refine⟨m,a',m1,m2,?_⟩
    refine lv 94 [] (.c1 (cDz l a1) (di r)<|.t<|.h (.dr 15)<|.x (.str nm)<|.c1 (cDz l a2) (di f)<|.c1 (cDz l a3) (di t)<|.c1 (cDz l a4) (di u)<|.t<|.c1 (cDz l a5) (di lo)<|.c1 (cDz l a6) (di p)<|.c1 (cDz l a7) (di hi)<|.c1 (cDz l a8) (di x)<|.t<|.c1 (cDz l a9) (di q)<|.ls [ke 0,ke 2,ke 3,ch 4 (di (k+1:Nat))] (QO l a9 S Pl ag (rs++[mkT nm f t [⟨p,lo,lo+hi⟩] [q]]))) (Aa PP 18 [D.ptr 0 0,di 2] (dz l a) (di r) (dz l a1)/\decide ((k:Int)<wrap IntKind.i64 (1+r))=true/\0<=(k:Int)/\[V.str (ByteArray.mk #[114]).data.toList,V.str (ByteArray.mk #[115]).data.toList][Int.toNat (k:Int)]?=some (V.str nm)/\Aa PP 18 [D.ptr 0 0,di (length (map V.str S):Int)] (dz l a1) (di f) (dz l a2)/\Aa PP 18 [D.ptr 0 0,di (length (map V.str S):Int)] (dz l a1) (di f) (dz l a2)/\Q (di f)/\Aa PP 18 [D.ptr 0 0,di (length (map V.str S):Int)] (dz l a2) (di t) (dz l a3)/\Aa PP 18 [D.ptr 0 0,di (length (map V.str S):Int)] (dz l a2) (di t) (dz l a3)/\Q (di t)/\Q [St.mk [some (cDz l a1),some zM,some (cTm S Pl ag rs),some zRl] [(2,14,map Ah rs)],St.mk [some (cDz l a2),some zM,some (cTm S Pl ag rs),some zRl] [(2,14,map Ah rs)],St.mk [some (cDz l a3),some zM,some (cTm S Pl ag rs),some zRl] [(2,14,map Ah rs)]]/\((Q (some [D.v (vSs S)])/\Q (some [D.v (vSs S)])/\Q (some [D.v (vSs S)])/\Q (some [D.v (vSs S)])/\Q (some [D.v (vSs S)])/\Q (some [D.v (vSs S)])/\Q (some [D.v (vSs S)])/\True)/\(Q (some [D.v (vSs S)])/\Q (some [D.v (vSs S)])/\Q (some [D.v (vSs S)])/\Q (some [D.v (vSs S)])/\Q (some [D.v (vSs S)])/\Q (some [D.v (vSs S)])/\Q (some [D.v (vSs S)])/\True)/\True)/\Aa PP 18 [D.ptr 0 0,di 2] (dz l a3) (di u) (dz l a4)/\(u==0)=true/\Aa PP 18 [D.ptr 0 0,di (wrap IntKind.i64 (ag+2))] (dz l a4) (di lo) (dz l a5)/\Aa PP 18 [D.ptr 0 0,di (length (map V.str Pl):Int)] (dz l a5) (di p) (dz l a6)/\Aa PP 18 [D.ptr 0 0,di (wrap IntKind.i64 (wrap IntKind.i64 (ag+2)-lo))] (dz l a6) (di hi) (dz l a7)/\(True/\(Q (some [di ag])/\True)/\True)/\Aa PP 18 [D.ptr 0 0,di 2] (dz l a7) (di x) (dz l a8)/\(x==0)=true/\Aa PP 18 [D.ptr 0 0,di (length (map V.str Pl):Int)] (dz l a8) (di q) (dz l a9)/\Q (map Ah rs)/\Ax (length (map Ah rs)+length (V.agg (V.str nm::V.int IntKind.i64 f::V.int IntKind.i64 t::V.list nV::V.list nV::V.list nV::V.int IntKind.i64 0::V.int IntKind.i64 0::V.int IntKind.i64 0::V.list nV::V.list nV::V.list (V.agg (V.int IntKind.i64 p::V.int IntKind.i64 lo::V.int IntKind.i64 (wrap IntKind.i64 (lo+hi))::nV)::nV)::V.list (V.int IntKind.i64 q::nV)::V.int IntKind.i64 0::nV)::nV)) 232/\di (wrap IntKind.i64 ((k:Int)+1))=di (↑(k+1):Int)/\[some (cDz l a9),some zM,some [di 5,D.v (vSs S),D.v (vSs Pl),dn,dn,di 0,di ag,D.acc 2 (map Ah rs++V.agg (V.str nm::vi f::vi t::V.list nV::V.list nV::V.list nV::vi 0::vi 0::vi 0::V.list nV::V.list nV::V.list (V.agg (vi p::vi lo::vi (wrap IntKind.i64 (lo+hi))::nV)::nV)::V.list (vi q::nV)::vi 0::nV)::nV),di 0,dn]]=[some (cDz l a9),some zM,some (cTm S Pl ag (rs++[mkT nm f t [Tk.mk p lo (lo+hi)] [q]]))]/\[(2,14,map Ah rs++V.agg (V.str nm::vi f::vi t::V.list nV::V.list nV::V.list nV::vi 0::vi 0::vi 0::V.list nV::V.list nV::V.list (V.agg (vi p::vi lo::vi (wrap IntKind.i64 (lo+hi))::nV)::nV)::V.list (vi q::nV)::vi 0::nV)::nV)]=[(2,14,map Ah (rs++[mkT nm f t [Tk.mk p lo (lo+hi)] [q]]))]/\I0 Wu 1 (Ad m) (dz l a') [kl PU [1,1,0,1,0,0],KI.blk 0,kc PU [1,1,1]] (mkE 94 [(0,D.ptr 0 0),(2,D.ptr 1 0),(3,D.ptr 2 0),(4,di (↑(k+1):Int))]) (QO l a9 S Pl ag (rs++[mkT nm f t [Tk.mk p lo (lo+hi)] [q]]))) ?_
    rw[hSm,hPm,wag,wlo,whi]
    repeat' first|with_reducible refine And.intro ?_ ?_
    all_goals first|exact h4|exact hkr|exact f4|exact t4|exact u4|exact lo4|exact p4|exact hi4|exact hu|exact hx|exact x4|exact q4|  exact BA hnm|exact⟨m3⟩|exact Ae (by omega)|omega|rfl|trivial|skip
    all_goals first|exact HL (fun z=>[some (cDz l a9),some zM,some [di 5,.v (vSs S),.v (vSs Pl),.v .nils,.v .nils,di 0,di ag,.acc 2 z,di 0,.v .nils]]) (AC rs (mkT nm f t [⟨p,lo,lo+hi⟩] [q]))|exact HL (fun z=>[(2,14,z)]) (AC rs (mkT nm f t [⟨p,lo,lo+hi⟩] [q]))|(simp only[Hw,H3,H7];omega)
   ·have hx:(x==0)=false:=by simpa using hx
    obtain⟨m,a',m1,m2,m3⟩:=ih (2- (k+1)) (by omega) (k+1) a8 (rs++[mkT nm f t [⟨p,lo,lo+hi⟩] []]) rfl x3 (by omega) (by simp[hrs]) (Od hnm ⟨f1,f2⟩ ⟨t1,t2⟩ htk (.inl rfl) hrs hR)
    refine⟨m,a',m1,m2,?_⟩
    refine lv 94 [] (.c1 (cDz l a1) (di r)<|.t<|.h (.dr 15)<|.x (.str nm)<|.c1 (cDz l a2) (di f)<|.c1 (cDz l a3) (di t)<|.c1 (cDz l a4) (di u)<|.t<|.c1 (cDz l a5) (di lo)<|.c1 (cDz l a6) (di p)<|.c1 (cDz l a7) (di hi)<|.c1 (cDz l a8) (di x)<|.f<|.ls [ke 0,ke 2,ke 3,ch 4 (di (k+1:Nat))] (QO l a8 S Pl ag (rs++[mkT nm f t [⟨p,lo,lo+hi⟩] []]))) (Aa PP 18 [D.ptr 0 0,di 2] (dz l a) (di r) (dz l a1)/\decide ((k:Int)<wrap IntKind.i64 (1+r))=true/\0<=(k:Int)/\[V.str (ByteArray.mk #[114]).data.toList,V.str (ByteArray.mk #[115]).data.toList][Int.toNat (k:Int)]?=some (V.str nm)/\Aa PP 18 [D.ptr 0 0,di (length (map V.str S):Int)] (dz l a1) (di f) (dz l a2)/\Aa PP 18 [D.ptr 0 0,di (length (map V.str S):Int)] (dz l a1) (di f) (dz l a2)/\Q (di f)/\Aa PP 18 [D.ptr 0 0,di (length (map V.str S):Int)] (dz l a2) (di t) (dz l a3)/\Aa PP 18 [D.ptr 0 0,di (length (map V.str S):Int)] (dz l a2) (di t) (dz l a3)/\Q (di t)/\Q [St.mk [some (cDz l a1),some zM,some (cTm S Pl ag rs),some zRl] [(2,14,map Ah rs)],St.mk [some (cDz l a2),some zM,some (cTm S Pl ag rs),some zRl] [(2,14,map Ah rs)],St.mk [some (cDz l a3),some zM,some (cTm S Pl ag rs),some zRl] [(2,14,map Ah rs)]]/\((Q (some [D.v (vSs S)])/\Q (some [D.v (vSs S)])/\Q (some [D.v (vSs S)])/\Q (some [D.v (vSs S)])/\Q (some [D.v (vSs S)])/\Q (some [D.v (vSs S)])/\Q (some [D.v (vSs S)])/\True)/\(Q (some [D.v (vSs S)])/\Q (some [D.v (vSs S)])/\Q (some [D.v (vSs S)])/\Q (some [D.v (vSs S)])/\Q (some [D.v (vSs S)])/\Q (some [D.v (vSs S)])/\Q (some [D.v (vSs S)])/\True)/\True)/\Aa PP 18 [D.ptr 0 0,di 2] (dz l a3) (di u) (dz l a4)/\(u==0)=true/\Aa PP 18 [D.ptr 0 0,di (wrap IntKind.i64 (ag+2))] (dz l a4) (di lo) (dz l a5)/\Aa PP 18 [D.ptr 0 0,di (length (map V.str Pl):Int)] (dz l a5) (di p) (dz l a6)/\Aa PP 18 [D.ptr 0 0,di (wrap IntKind.i64 (wrap IntKind.i64 (ag+2)-lo))] (dz l a6) (di hi) (dz l a7)/\(True/\(Q (some [di ag])/\True)/\True)/\Aa PP 18 [D.ptr 0 0,di 2] (dz l a7) (di x) (dz l a8)/\(x==0)=false/\Q (map Ah rs)/\Ax (length (map Ah rs)+length (V.agg (V.str nm::V.int IntKind.i64 f::V.int IntKind.i64 t::V.list nV::V.list nV::V.list nV::V.int IntKind.i64 0::V.int IntKind.i64 0::V.int IntKind.i64 0::V.list nV::V.list nV::V.list (V.agg (V.int IntKind.i64 p::V.int IntKind.i64 lo::V.int IntKind.i64 (wrap IntKind.i64 (lo+hi))::nV)::nV)::V.list nV::V.int IntKind.i64 0::nV)::nV)) 232/\di (wrap IntKind.i64 ((k:Int)+1))=di (↑(k+1):Int)/\[some (cDz l a8),some zM,some [di 5,D.v (vSs S),D.v (vSs Pl),dn,dn,di 0,di ag,D.acc 2 (map Ah rs++V.agg (V.str nm::vi f::vi t::V.list nV::V.list nV::V.list nV::vi 0::vi 0::vi 0::V.list nV::V.list nV::V.list (V.agg (vi p::vi lo::vi (wrap IntKind.i64 (lo+hi))::nV)::nV)::V.list nV::vi 0::nV)::nV),di 0,dn]]=[some (cDz l a8),some zM,some (cTm S Pl ag (rs++[mkT nm f t [Tk.mk p lo (lo+hi)] []]))]/\[(2,14,map Ah rs++V.agg (V.str nm::vi f::vi t::V.list nV::V.list nV::V.list nV::vi 0::vi 0::vi 0::V.list nV::V.list nV::V.list (V.agg (vi p::vi lo::vi (wrap IntKind.i64 (lo+hi))::nV)::nV)::V.list nV::vi 0::nV)::nV)]=[(2,14,map Ah (rs++[mkT nm f t [Tk.mk p lo (lo+hi)] []]))]/\I0 Wu 1 (Ad m) (dz l a') [kl PU [1,1,0,1,0,0],KI.blk 0,kc PU [1,1,1]] (mkE 94 [(0,D.ptr 0 0),(2,D.ptr 1 0),(3,D.ptr 2 0),(4,di (↑(k+1):Int))]) (QO l a8 S Pl ag (rs++[mkT nm f t [Tk.mk p lo (lo+hi)] []]))) ?_
    rw[hSm,hPm,wag,wlo,whi]
    repeat' first|with_reducible refine And.intro ?_ ?_
    all_goals first|exact h4|exact hkr|exact f4|exact t4|exact u4|exact lo4|exact p4|exact hi4|exact hu|exact hx|exact x4|  exact BA hnm|exact⟨m3⟩|exact Ae (by omega)|omega|rfl|trivial|skip
    all_goals first|exact HL (fun z=>[some (cDz l a8),some zM,some [di 5,.v (vSs S),.v (vSs Pl),.v .nils,.v .nils,di 0,di ag,.acc 2 z,di 0,.v .nils]]) (AC rs (mkT nm f t [⟨p,lo,lo+hi⟩] []))|exact HL (fun z=>[(2,14,z)]) (AC rs (mkT nm f t [⟨p,lo,lo+hi⟩] []))|(simp only[Hw,H3,H7];omega)
  ·have hu:(u==0)=false:=by simpa using hu
   obtain⟨x,a8,x1,x2,x3,x4⟩:=Al l hl a4 u3 2 (by decide) (by decide)
   by_cases hx:(x==0)=true
   ·obtain⟨q,a9,q1,q2,q3,q4⟩:=Al l hl a8 x3 Pl.length (by omega) (by omega)
    obtain⟨m,a',m1,m2,m3⟩:=ih (2- (k+1)) (by omega) (k+1) a9 (rs++[mkT nm f t [] [q]]) rfl q3 (by omega) (by simp[hrs]) (Od hnm ⟨f1,f2⟩ ⟨t1,t2⟩ (.inl rfl) (.inr ⟨q,⟨q1,q2⟩,rfl⟩) hrs hR)
    refine⟨m,a',m1,m2,?_⟩
    refine lv 94 [] (.c1 (cDz l a1) (di r)<|.t<|.h (.dr 15)<|.x (.str nm)<|.c1 (cDz l a2) (di f)<|.c1 (cDz l a3) (di t)<|.c1 (cDz l a4) (di u)<|.f<|.c1 (cDz l a8) (di x)<|.t<|.c1 (cDz l a9) (di q)<|.ls [ke 0,ke 2,ke 3,ch 4 (di (k+1:Nat))] (QO l a9 S Pl ag (rs++[mkT nm f t [] [q]]))) (Aa PP 18 [D.ptr 0 0,di 2] (dz l a) (di r) (dz l a1)/\decide ((k:Int)<wrap IntKind.i64 (1+r))=true/\0<=(k:Int)/\[V.str (ByteArray.mk #[114]).data.toList,V.str (ByteArray.mk #[115]).data.toList][Int.toNat (k:Int)]?=some (V.str nm)/\Aa PP 18 [D.ptr 0 0,di (length (map V.str S):Int)] (dz l a1) (di f) (dz l a2)/\Aa PP 18 [D.ptr 0 0,di (length (map V.str S):Int)] (dz l a1) (di f) (dz l a2)/\Q (di f)/\Aa PP 18 [D.ptr 0 0,di (length (map V.str S):Int)] (dz l a2) (di t) (dz l a3)/\Aa PP 18 [D.ptr 0 0,di (length (map V.str S):Int)] (dz l a2) (di t) (dz l a3)/\Q (di t)/\Q [St.mk [some (cDz l a1),some zM,some (cTm S Pl ag rs),some zRl] [(2,14,map Ah rs)],St.mk [some (cDz l a2),some zM,some (cTm S Pl ag rs),some zRl] [(2,14,map Ah rs)],St.mk [some (cDz l a3),some zM,some (cTm S Pl ag rs),some zRl] [(2,14,map Ah rs)]]/\((Q (some [D.v (vSs S)])/\Q (some [D.v (vSs S)])/\Q (some [D.v (vSs S)])/\Q (some [D.v (vSs S)])/\Q (some [D.v (vSs S)])/\Q (some [D.v (vSs S)])/\Q (some [D.v (vSs S)])/\True)/\(Q (some [D.v (vSs S)])/\Q (some [D.v (vSs S)])/\Q (some [D.v (vSs S)])/\Q (some [D.v (vSs S)])/\Q (some [D.v (vSs S)])/\Q (some [D.v (vSs S)])/\Q (some [D.v (vSs S)])/\True)/\True)/\Aa PP 18 [D.ptr 0 0,di 2] (dz l a3) (di u) (dz l a4)/\(u==0)=false/\Aa PP 18 [D.ptr 0 0,di 2] (dz l a4) (di x) (dz l a8)/\(x==0)=true/\Aa PP 18 [D.ptr 0 0,di (length (map V.str Pl):Int)] (dz l a8) (di q) (dz l a9)/\Q (map Ah rs)/\Ax (length (map Ah rs)+length (V.agg (V.str nm::V.int IntKind.i64 f::V.int IntKind.i64 t::V.list nV::V.list nV::V.list nV::V.int IntKind.i64 0::V.int IntKind.i64 0::V.int IntKind.i64 0::V.list nV::V.list nV::V.list nV::V.list (V.int IntKind.i64 q::nV)::V.int IntKind.i64 0::nV)::nV)) 232/\di (wrap IntKind.i64 ((k:Int)+1))=di (↑(k+1):Int)/\[some (cDz l a9),some zM,some [di 5,D.v (vSs S),D.v (vSs Pl),dn,dn,di 0,di ag,D.acc 2 (map Ah rs++V.agg (V.str nm::vi f::vi t::V.list nV::V.list nV::V.list nV::vi 0::vi 0::vi 0::V.list nV::V.list nV::V.list nV::V.list (vi q::nV)::vi 0::nV)::nV),di 0,dn]]=[some (cDz l a9),some zM,some (cTm S Pl ag (rs++[mkT nm f t [] [q]]))]/\[(2,14,map Ah rs++V.agg (V.str nm::vi f::vi t::V.list nV::V.list nV::V.list nV::vi 0::vi 0::vi 0::V.list nV::V.list nV::V.list nV::V.list (vi q::nV)::vi 0::nV)::nV)]=[(2,14,map Ah (rs++[mkT nm f t [] [q]]))]/\I0 Wu 1 (Ad m) (dz l a') [kl PU [1,1,0,1,0,0],KI.blk 0,kc PU [1,1,1]] (mkE 94 [(0,D.ptr 0 0),(2,D.ptr 1 0),(3,D.ptr 2 0),(4,di (↑(k+1):Int))]) (QO l a9 S Pl ag (rs++[mkT nm f t [] [q]]))) ?_
    rw[hSm,hPm]
    repeat' first|with_reducible refine And.intro ?_ ?_
    all_goals first|exact h4|exact hkr|exact f4|exact t4|exact u4|exact hu|exact hx|exact x4|exact q4|  exact BA hnm|exact⟨m3⟩|exact Ae (by omega)|omega|rfl|trivial|skip
    all_goals first|exact HL (fun z=>[some (cDz l a9),some zM,some [di 5,.v (vSs S),.v (vSs Pl),.v .nils,.v .nils,di 0,di ag,.acc 2 z,di 0,.v .nils]]) (AC rs (mkT nm f t [] [q]))|exact HL (fun z=>[(2,14,z)]) (AC rs (mkT nm f t [] [q]))|(simp only[Hw,H3,H7];omega)
   ·have hx:(x==0)=false:=by simpa using hx
    obtain⟨m,a',m1,m2,m3⟩:=ih (2- (k+1)) (by omega) (k+1) a8 (rs++[mkT nm f t [] []]) rfl x3 (by omega) (by simp[hrs]) (Od hnm ⟨f1,f2⟩ ⟨t1,t2⟩ (.inl rfl) (.inl rfl) hrs hR)
    refine⟨m,a',m1,m2,?_⟩
    refine lv 94 [] (.c1 (cDz l a1) (di r)<|.t<|.h (.dr 15)<|.x (.str nm)<|.c1 (cDz l a2) (di f)<|.c1 (cDz l a3) (di t)<|.c1 (cDz l a4) (di u)<|.f<|.c1 (cDz l a8) (di x)<|.f<|.ls [ke 0,ke 2,ke 3,ch 4 (di (k+1:Nat))] (QO l a8 S Pl ag (rs++[mkT nm f t [] []]))) (Aa PP 18 [D.ptr 0 0,di 2] (dz l a) (di r) (dz l a1)/\decide ((k:Int)<wrap IntKind.i64 (1+r))=true/\0<=(k:Int)/\[V.str (ByteArray.mk #[114]).data.toList,V.str (ByteArray.mk #[115]).data.toList][Int.toNat (k:Int)]?=some (V.str nm)/\Aa PP 18 [D.ptr 0 0,di (length (map V.str S):Int)] (dz l a1) (di f) (dz l a2)/\Aa PP 18 [D.ptr 0 0,di (length (map V.str S):Int)] (dz l a1) (di f) (dz l a2)/\Q (di f)/\Aa PP 18 [D.ptr 0 0,di (length (map V.str S):Int)] (dz l a2) (di t) (dz l a3)/\Aa PP 18 [D.ptr 0 0,di (length (map V.str S):Int)] (dz l a2) (di t) (dz l a3)/\Q (di t)/\Q [St.mk [some (cDz l a1),some zM,some (cTm S Pl ag rs),some zRl] [(2,14,map Ah rs)],St.mk [some (cDz l a2),some zM,some (cTm S Pl ag rs),some zRl] [(2,14,map Ah rs)],St.mk [some (cDz l a3),some zM,some (cTm S Pl ag rs),some zRl] [(2,14,map Ah rs)]]/\((Q (some [D.v (vSs S)])/\Q (some [D.v (vSs S)])/\Q (some [D.v (vSs S)])/\Q (some [D.v (vSs S)])/\Q (some [D.v (vSs S)])/\Q (some [D.v (vSs S)])/\Q (some [D.v (vSs S)])/\True)/\(Q (some [D.v (vSs S)])/\Q (some [D.v (vSs S)])/\Q (some [D.v (vSs S)])/\Q (some [D.v (vSs S)])/\Q (some [D.v (vSs S)])/\Q (some [D.v (vSs S)])/\Q (some [D.v (vSs S)])/\True)/\True)/\Aa PP 18 [D.ptr 0 0,di 2] (dz l a3) (di u) (dz l a4)/\(u==0)=false/\Aa PP 18 [D.ptr 0 0,di 2] (dz l a4) (di x) (dz l a8)/\(x==0)=false/\Q (map Ah rs)/\Ax (length (map Ah rs)+length (V.agg (V.str nm::V.int IntKind.i64 f::V.int IntKind.i64 t::V.list nV::V.list nV::V.list nV::V.int IntKind.i64 0::V.int IntKind.i64 0::V.int IntKind.i64 0::V.list nV::V.list nV::V.list nV::V.list nV::V.int IntKind.i64 0::nV)::nV)) 232/\di (wrap IntKind.i64 ((k:Int)+1))=di (↑(k+1):Int)/\[some (cDz l a8),some zM,some [di 5,D.v (vSs S),D.v (vSs Pl),dn,dn,di 0,di ag,D.acc 2 (map Ah rs++V.agg (V.str nm::vi f::vi t::V.list nV::V.list nV::V.list nV::vi 0::vi 0::vi 0::V.list nV::V.list nV::V.list nV::V.list nV::vi 0::nV)::nV),di 0,dn]]=[some (cDz l a8),some zM,some (cTm S Pl ag (rs++[mkT nm f t [] []]))]/\[(2,14,map Ah rs++V.agg (V.str nm::vi f::vi t::V.list nV::V.list nV::V.list nV::vi 0::vi 0::vi 0::V.list nV::V.list nV::V.list nV::V.list nV::vi 0::nV)::nV)]=[(2,14,map Ah (rs++[mkT nm f t [] []]))]/\I0 Wu 1 (Ad m) (dz l a') [kl PU [1,1,0,1,0,0],KI.blk 0,kc PU [1,1,1]] (mkE 94 [(0,D.ptr 0 0),(2,D.ptr 1 0),(3,D.ptr 2 0),(4,di (↑(k+1):Int))]) (QO l a8 S Pl ag (rs++[mkT nm f t [] []]))) ?_
    rw[hSm]
    repeat' first|with_reducible refine And.intro ?_ ?_
    all_goals first|exact h4|exact hkr|exact f4|exact t4|exact u4|exact hu|exact hx|exact x4|  exact BA hnm|exact⟨m3⟩|exact Ae (by omega)|omega|rfl|trivial|skip
    all_goals first|exact HL (fun z=>[some (cDz l a8),some zM,some [di 5,.v (vSs S),.v (vSs Pl),.v .nils,.v .nils,di 0,di ag,.acc 2 z,di 0,.v .nils]]) (AC rs (mkT nm f t [] []))|exact HL (fun z=>[(2,14,z)]) (AC rs (mkT nm f t [] []))|(simp only[Hw,H3,H7];omega)
 ·obtain⟨m0',hm0⟩:∃m0':Mod,m0'=⟨5,S,Pl,[],[],0,ag,rs,.mk 0 []⟩:=⟨_,rfl⟩
  obtain⟨s,ts,a2,s1,s2,s3,s4⟩:=Ya l hl m0' (by rw[hm0];show 1<=S.length/\S.length<=3;omega) (by rw[hm0];exact hPl) (by rw[hm0];show 0<=ag/\ag<=3;omega) a1 h3
  refine⟨⟨5,S,Pl,[],[],0,ag,rs,.mk 0 [.mk 0 [],.mk 0 ts]⟩,a2,⟨rfl,hS,hP,rfl,rfl,rfl,hag,by show rs.length<=2;omega,by show 1<=rs.length;omega,hR,ts,by rw[hm0] at s2;exact s2,rfl⟩,s3,?_⟩
  refine lv 94 [] (.c1 (cDz l a1) (di r)<|.f<|.h (.oc (.dagg [di 0,.arr 3 0 2]) ⟨[some (cDz l a2),some zM,some (cTm S Pl ag rs),some [di s,dVs [],di 0,dVs ts]],[(2,14,rs.map Ah)]⟩)<|.h .ww<|.m (.arr 3 0 2)<|.h (.q 14 0)<|.h (.cs ⟨[some (cDz l a2),some zM,some [di 5,.v (vSs S),.v (vSs Pl),.v .nils,.v .nils,di 0,di ag,.acc 2 (rs.map Ah),di 0,.v (.list [Ag (.mk 0 []),Ag (.mk 0 ts)])],none],[(2,14,rs.map Ah)]⟩) .r) (Aa PP 18 [D.ptr 0 0,di 2] (dz l a) (di r) (dz l a1)/\decide ((k:Int)<wrap IntKind.i64 (1+r))=false/\(∀(o:Oper) (c:Call) (fo:Operand),o.op=Op.call c->c.callee=Callee.value fo->Ap PP o [D.v (V.fn 39 [] []),D.ptr 0 0,D.v (V.agg [vi 5,vSs S,vSs Pl,V.nils,V.nils,vi 0,vi ag,V.list (map Ah rs),vi 0,V.nils]),di 2] (St.mk [some (cDz l a1),some zM,some (cTm S Pl ag rs)] [(2,14,map Ah rs)]) (D.dagg [di 0,D.arr 3 0 2]) (St.mk [some (cDz l a2),some zM,some (cTm S Pl ag rs),some [di s,dVs [],di 0,dVs ts]] [(2,14,map Ah rs)]))/\10<=10/\Q (some (D.arr 3 0 2))/\iz 0<=0/\0<(↑2:Int)/\(∀(e:List D) (E:Ent) (g:Gh) (a:Act) (w:World),FI E g (St.mk [some (cDz l a2),some zM,some (take (Nat.add 0 8) (cTm S Pl ag rs)++B9 (D.dagg [di 0,D.arr 3 0 2])++List.drop (Nat.add 0 8+2) (cTm S Pl ag rs)),some [evN [(0,D.ptr 0 0).snd,D.undef,(2,D.ptr 1 0).snd,(3,D.ptr 2 0).snd,(4,di (k:Int)).snd,D.undef,D.undef,D.undef,D.undef,D.undef,D.undef,D.undef,D.undef,D.undef,D.undef,D.undef,D.undef,D.undef,D.undef,D.undef,(4,di (k:Int)).snd,(0,D.ptr 0 0).snd,di r,D.v (V.int IntKind.i64 (wrap IntKind.i64 (1+r))),D.v (V.bool false),D.undef,D.undef,D.undef,D.undef,D.undef,D.undef,D.undef,D.undef,D.undef,D.undef,D.undef,D.undef,D.undef,D.undef,D.undef,D.undef,D.undef,D.undef,D.undef,D.undef,D.undef,D.undef,D.undef,D.undef,D.undef,D.undef,D.undef,D.undef,D.undef,D.undef,D.undef,D.undef,D.undef,D.undef,D.undef,D.undef,D.undef,D.undef,D.undef,D.undef,D.undef,D.undef,D.undef,D.undef,D.undef,D.undef,D.undef,D.undef,D.undef,D.undef,D.undef,D.undef,D.undef,D.undef,D.undef,D.undef,D.undef,D.undef,D.undef,(0,D.ptr 0 0).snd,D.v (V.agg [V.int IntKind.i64 5,vSs S,vSs Pl,V.nils,V.nils,V.int IntKind.i64 0,V.int IntKind.i64 ag,V.list (map Ah rs),V.int IntKind.i64 0,V.nils]),D.dagg [di 0,D.arr 3 0 2],D.ptr 2 (Nat.add 0 8),D.ptr 2 (Nat.add 0 8),D.ptr 2 (Nat.add (Nat.add 0 8) 1),D.arr 3 0 2,D.ptr 3 (0+Int.toNat 0*2),D.ptr 3 (Nat.add (0+Int.toNat 0*2) 0),D.undef] (Operand.const (Value.int IntKind.i64 0)),dVs [],di 0,dVs ts]] [(2,14,map Ah rs)]) e a w->∃g',FI E g' (St.mk [some (cDz l a2),some zM,some [di 5,D.v (vSs S),D.v (vSs Pl),dn,dn,di 0,di ag,D.acc 2 (map Ah rs),di 0,D.v (V.list [Ag (Val.mk 0 []),Ag (Val.mk 0 ts)])],none] [(2,14,map Ah rs)]) e a w)/\Q [some (cDz l a2)]/\D.v (V.agg [vi 5,V.list (map V.str S),V.list (map V.str Pl),V.list [],V.list [],vi 0,vi ag,V.list (map Ah rs),vi 0,V.list [Ag (Val.mk 0 []),Ag (Val.mk 0 ts)]])=Ad (Mod.mk 5 S Pl [] [] 0 ag rs (Val.mk 0 [Val.mk 0 [],Val.mk 0 ts]))) ?_
  refine⟨h4,H1 (by rw[Ai (by omega) (by omega)];exact hk),fun o c fo ho hc=>?_,by decide,rfl,by decide,by decide,?_,rfl,?_⟩
  ·refine AM (ds':=[.v (.fn 39 [] []),.ptr 0 0,Ad m0',di 2]) (fun g us h=>by rw[hm0];exact D6 (ts:=[]) (kn:=false) h) ?_
   have h:=NT (σ:=⟨[some (cDz l a1),some zM,some (cTm S Pl ag rs)],[(2,14,rs.map Ah)]⟩) ho hc (fD:=.v (.fn 39 [] [])) rfl (ds:=[.ptr 0 0,Ad m0',di 2]) [0] id s4 (.cons (.ren (dc:=.ptr 0 0) rfl) (.cons (.ren (dc:=Ad m0') rfl) (.cons (.ren (dc:=di 2) rfl) .nil)))
    (.cons rfl (.cons (.ren (dc:=.v (vBs l)) rfl) (.cons (.ren (dc:=di a1) rfl) .nil)) (by rfl) .nil) (by simp) rfl (by simp) (by simp) (by simp[D.okN,D.okNs]) (by simp[okH,D.okNs,D.okN])
   simp[Yi,EL,FW,D.ren,D.rens,rho] at h
   exact h
  ·intro e
   exact J1 (σ:=⟨[some (cDz l a2),some zM,some [di 5,.v (vSs S),.v (vSs Pl),.v .nils,.v .nils,di 0,di ag,.acc 2 (rs.map Ah),di 0,.arr 3 0 2],some (B5 [Ag (.mk 0 []),Ag (.mk 0 ts)])],[(2,14,rs.map Ah)]⟩) (p:=2) (q:=3) (i:=9) (sz:=2) (cs:=[di 5,.v (vSs S),.v (vSs Pl),.v .nils,.v .nils,di 0,di ag,.acc 2 (rs.map Ah),di 0,.arr 3 0 2]) (xs:=[Ag (.mk 0 []),Ag (.mk 0 ts)]) (by decide) rfl rfl (by decide) rfl (fun x hx=>by simp at hx;rcases hx with rfl|rfl<;>rfl) e
  ·show D.v (V.agg [vi 5,vSs S,vSs Pl,vSs [],vIs [],vi 0,vi ag,EV rs,vi 0,V.list [Ag (.mk 0 []),Ag (.mk 0 ts)]])=_
   rw[←Cb, ←Cb];rfl
theorem YD(l:List UInt8)(hl:l.length<=200)(a:Nat)(ha:a<=l.length):
  ∃(m:Mod) (a':Nat),BM m/\a'<=l.length/\Aa PP 21 [.ptr 0 0] (dz l a) (Ad m) (dz l a'):=by
 obtain⟨r1,a1,p1,p2,p3,p4⟩:=Al l hl a ha 2 (by decide) (by decide)
 obtain⟨r2,a2,q1,q2,q3,q4⟩:=Al l hl a1 p3 2 (by decide) (by decide)
 obtain⟨ag,a3,u1,u2,u3,u4⟩:=Al l hl a2 q3 2 (by decide) (by decide)
 obtain⟨n1,rfl⟩:∃n:Nat,r1=n:=⟨r1.toNat,by omega⟩
 obtain⟨n2,rfl⟩:∃n:Nat,r2=n:=⟨r2.toNat,by omega⟩
 obtain⟨S,hS⟩:∃S,S=([[97],[98]]:List (List UInt8)).take (1+n1):=⟨_,rfl⟩
 obtain⟨Pl,hPl⟩:∃S,S=([[120],[121]]:List (List UInt8)).take (1+n2):=⟨_,rfl⟩
 have hSx:S=[[97]]∨S=[[97],[98]]:=by
  rcases(show n1=0∨n1=1 by omega) with rfl|rfl
  ·exact .inl hS
  ·exact .inr hS
 have hPx:Pl=[[120]]∨Pl=[[120],[121]]:=by
  rcases(show n2=0∨n2=1 by omega) with rfl|rfl
  ·exact .inl hPl
  ·exact .inr hPl
 obtain⟨m,a',m1,m2,m3⟩:=TQ l hl S Pl ag hSx hPx ⟨u1,by omega⟩ _ 0 a3 [] rfl u3 (by omega) rfl (by simp)
 refine⟨m,a',m1,m2,?_⟩
 refine sv Wu 94 [] (.h (.dr 13)<|.c1 (cDz l a1) (di n1)<|.c1 (cDz l a2) (di n2)<|.c1 (cDz l a3) (di ag)<|.h .rn<|.h (.q 2 0)<|.h (.cl 2 7 2 14)<|.ls [ke 0,ke 2,ke 3,ch 4 (di (0:Nat))] (QO l a3 S Pl ag [])) (Aa PP 18 [D.ptr 0 0,di 2] (dz l a) (di (n1:Int)) (dz l a1)/\Aa PP 18 [D.ptr 0 0,di 2] (dz l a) (di (n1:Int)) (dz l a1)/\Q (di (n1:Int))/\(∀(x:V),x∈ [V.str (ByteArray.mk #[97]).data.toList,V.str (ByteArray.mk #[98]).data.toList]->V.size x=1)/\0<=(fun x=>x.snd) (IntKind.i64,wrap IntKind.i64 (1+(n1:Int)))/\(fun x=>x.snd) (IntKind.i64,wrap IntKind.i64 (1+(n1:Int)))<=(↑(length [V.str (ByteArray.mk #[97]).data.toList,V.str (ByteArray.mk #[98]).data.toList]):Int)/\Aa PP 18 [D.ptr 0 0,di 2] (dz l a1) (di (n2:Int)) (dz l a2)/\Aa PP 18 [D.ptr 0 0,di 2] (dz l a1) (di (n2:Int)) (dz l a2)/\Q (di (n2:Int))/\(∀(x:V),x∈ [V.str (ByteArray.mk #[120]).data.toList,V.str (ByteArray.mk #[121]).data.toList]->V.size x=1)/\0<=(fun x=>x.snd) (IntKind.i64,wrap IntKind.i64 (1+(n2:Int)))/\(fun x=>x.snd) (IntKind.i64,wrap IntKind.i64 (1+(n2:Int)))<=(↑(length [V.str (ByteArray.mk #[120]).data.toList,V.str (ByteArray.mk #[121]).data.toList]):Int)/\Aa PP 18 [D.ptr 0 0,di 2] (dz l a2) (di ag) (dz l a3)/\Aa PP 18 [D.ptr 0 0,di 2] (dz l a2) (di ag) (dz l a3)/\Q (di ag)/\Q [St.mk [some (cDz l a),some zMl,some zMl] [],St.mk [some (cDz l a1),some zMl,some zMl] [],St.mk [some (cDz l a2),some zMl,some zMl] [],St.mk [some (cDz l a3),some zMl,some zMl] []]/\True/\di 0=di (↑0:Int)/\[some (cDz l a3),some zMl,some [di 5,D.v (V.list (List.drop 0 (take (Int.toNat ((fun x=>x.snd) (IntKind.i64,wrap IntKind.i64 (1+(n1:Int))))) (V.str (ByteArray.mk #[97]).data.toList::V.str (ByteArray.mk #[98]).data.toList::nV)))),D.v (V.list (List.drop 0 (take (Int.toNat ((fun x=>x.snd) (IntKind.i64,wrap IntKind.i64 (1+(n2:Int))))) (V.str (ByteArray.mk #[120]).data.toList::V.str (ByteArray.mk #[121]).data.toList::nV)))),dn,dn,di 0,di ag,D.acc 2 nV,di 0,dn]]=[some (cDz l a3),some zM,some (cTm S Pl ag [])]/\Q [(2,14,nV)]/\I0 Wu (length (dz l a).H) (Ad m) (dz l a') [kl PU [1,1,0,1,0,0],KI.blk 0,kc PU [1,1,1]] (mkE 94 [(0,D.ptr 0 0),(2,D.ptr 1 0),(3,D.ptr 2 0),(4,di (↑0:Int))]) (QO l a3 S Pl ag [])) ?_
 have w1:wrap IntKind.i64 (1+(n1:Int))=1+n1:=Ai (by omega) (by omega)
 have w2:wrap IntKind.i64 (1+(n2:Int))=1+n2:=Ai (by omega) (by omega)
 have z1:∀x∈ [V.str [97],V.str [98]],x.size=1:=by simp[V.size]
 have z2:∀x∈ [V.str [120],V.str [121]],x.size=1:=by simp[V.size]
 have k1:V.list (List.drop 0 (take (1+(n1:Int)).toNat [V.str [97],V.str [98]]))=vSs S:=by
  rw[hS,IP,show(1+(n1:Int)).toNat=1+n1 by omega]
  rcases(show n1=0∨n1=1 by omega) with rfl|rfl<;>rfl
 have k2:V.list (List.drop 0 (take (1+(n2:Int)).toNat [V.str [120],V.str [121]]))=vSs Pl:=by
  rw[hPl,IP,show(1+(n2:Int)).toNat=1+n2 by omega]
  rcases(show n2=0∨n2=1 by omega) with rfl|rfl<;>rfl
 rw[w1,w2]
 refine⟨p4,p4,rfl,z1,by show 0<=1+(n1:Int);omega,by show 1+(n1:Int)<=2;omega,q4,q4,rfl,z2,by show 0<=1+(n2:Int);omega,by show 1+(n2:Int)<=2;omega,u4,u4,rfl,rfl,trivial,rfl,?_,rfl,⟨m3⟩⟩
 show [some (cDz l a3),some zM,some [di 5,.v (V.list (List.drop 0 (take (1+(n1:Int)).toNat [V.str [97],V.str [98]]))),.v (V.list (List.drop 0 (take (1+(n2:Int)).toNat [V.str [120],V.str [121]]))),.v .nils,.v .nils,di 0,di ag,.acc 2 [],di 0,.v .nils]]=_
 rw[k1,k2];rfl
def Sz(P:Program)(t:TypeId):Bool:=match P.underlying t with
 |some (.int .i64)=>true
 |_=>false
theorem KJ{P:Program}{t:TypeId}(h:Sz P t=true):P.underlying t=some (.int .i64):=by
 unfold Sz at h
 split at h
 ·assumption
 ·simp at h
def Hm(P:Program)(t:TypeId):Bool:=match (P.fieldsOf t).toList with
 |[f,g,h]=>f.name !="_"&&g.name !="_"&&h.name !="_"&&f.offset==0&&g.offset==1&&h.offset==2&&P.plainKey f.type&&P.plainKey g.type&&P.plainKey h.type&&Sz P f.type&&Sz P g.type&&Sz P h.type
 |_=>false
theorem Xd{P:Program}{t:TypeId}(h2:Hm P t=true)(ht:P.underlying t=some (.struct (P.fieldsOf t)))(hp:P.stoodInHeld t=false)(d:Nat)(a b c:Int)(w:World):
  (Op.equalIn (d+2) t (.agg #[.int .i64 a,.int .i64 b,.int .i64 c]) (.agg #[.int .i64 a,.int .i64 b,.int .i64 c])).run P w=.ok true w:=by
 rw[run_equalIn_struct w (d+1) t _ _ ht hp]
 unfold Hm at h2
 split at h2
 ·rename_i f g h hfs
  rw[hfs]
  simp only[Hy,bne_iff_ne,HX] at h2
  obtain⟨⟨⟨⟨⟨⟨⟨⟨⟨⟨⟨n1,n2⟩,n3⟩,o1⟩,o2⟩,o3⟩,p1⟩,p2⟩,p3⟩,u1⟩,u2⟩,u3⟩:=h2
  have e1:∀w,(part f.type #[.int .i64 a,.int .i64 b,.int .i64 c] f.offset).run P w=.ok (.int .i64 a) w:=fun w=>run_part_plain w p1 (by rw[o1];rfl)
  have e3:∀w,(part g.type #[.int .i64 a,.int .i64 b,.int .i64 c] g.offset).run P w=.ok (.int .i64 b) w:=fun w=>run_part_plain w p2 (by rw[o2];rfl)
  have e5:∀w,(part h.type #[.int .i64 a,.int .i64 b,.int .i64 c] h.offset).run P w=.ok (.int .i64 c) w:=fun w=>run_part_plain w p3 (by rw[o3];rfl)
  simp only[Op.eqFields,ne_eq,n1,n2,n3,not_false_eq_true,I6,Sem.run_bind,e1,Result.andThen_ok,run_equalIn_int _ d _ .i64 .i64 _ _ (KJ u1)]
  have u2':=fun w=>run_equalIn_int (P:=P) w d g.type .i64 .i64 b b (KJ u2)
  have u3':=fun w=>run_equalIn_int (P:=P) w d h.type .i64 .i64 c c (KJ u3)
  simp[Sem.run_ite,e3,u2',e5,u3']
 ·simp at h2
abbrev tTk:TypeId:=75
theorem TO:Hm PP tTk=true:=by kernel_rfl
theorem Aaj:PP.underlying tTk=some (.struct (PP.fieldsOf tTk)):=by kernel_rfl
theorem WZ:PP.stoodInHeld tTk=false:=by kernel_rfl
theorem TP:PP.eqGuardType PP.depth tTk=false:=by kernel_rfl
theorem YC:Nq PP tTk 3:=by unfold Nq;kernel_rfl
theorem U2{o:Oper}{σ:St}{ty:TypeId}{x y:Operand}(ho:o.op=.binOp .neq tTk x y ty)(a:Tk):Ap PP o [.v (vTk a),.v (vTk a)] σ (db false) σ:=by
 refine Ar fun E g ρ w hw hds=>?_
 simp only[ho,Op.operands,Am] at hds
 obtain⟨u,v,e,h1,h2'⟩:=hds
 simp only[HO,Iu,HB,HZ] at e
 obtain⟨e1,e2⟩:=e
 simp only[Ac,BR] at h1 h2'
 obtain⟨ws,h1,rfl⟩:=h1
 obtain⟨vs,h3,rfl⟩:=h2'
 have hw1:ws=[.int .i64 a.1,.int .i64 a.2,.int .i64 a.3]:=by
  simp only[repA,repC,HB,HZ] at h1
  obtain⟨u,us,rfl,_,rfl,u2,us2,rfl,_,rfl,u3,us3,rfl,_,rfl,rfl⟩:=h1;rfl
 have hw2:vs=[.int .i64 a.1,.int .i64 a.2,.int .i64 a.3]:=by
  simp only[repA,repC,HB,HZ] at h3
  obtain⟨u,us,rfl,_,rfl,u2,us2,rfl,_,rfl,u3,us3,rfl,_,rfl,rfl⟩:=h3;rfl
 subst hw1 hw2
 refine⟨.bool false,?_,by simp[Ac]⟩
 have hr:=Xd TO Aaj WZ 9998 a.1 a.2 a.3 w
 simp[execOp,ho,e1,e2,run_eqGuard_agg w .neq tTk x y _ _ TP,run_neq_struct,hr]
theorem XP(a:Tk):Aa PP 141 [.v (D8 [a]),.v (D8 [a])] σ0 (db true) σ0:=by
 refine sv Abn 26 [] (.n<|.x (vTk a)<|.x (vTk a)<|.h (.p (.v (vTk a)))<|.h (.p (db false))<|.n<|.r) (iz 0<=0/\Q (some (vTk a))/\iz 0<=0/\Q (some (vTk a))/\(∀(τ:St),Ap PP (Oper.mk (some 23) (Op.load 75 (Operand.tmp 22)) 75 "slices.go:25" #[Edge.mk 6 Ground.data] none) [D.v (V.ref (vTk a))] τ (D.v (vTk a)) τ)/\(∀(τ:St),Ap PP (Oper.mk (some 24) (Op.binOp BinOp.neq 75 (Operand.tmp 19) (Operand.tmp 23) 75) 4 "slices.go:25" #[Edge.mk 3 Ground.data,Edge.mk 7 Ground.data] none) [D.v (vTk a),D.v (vTk a)] τ (db false) τ)/\Q (db true)) ?_
 exact⟨by decide,rfl,by decide,rfl,fun τ=>LH rfl YC,fun τ=>U2 rfl a,rfl⟩
theorem Vr(l:List Tk)(h:l.length<=1):Aa PP 141 [.v (D8 l),.v (D8 l)] σ0 (db true) σ0:=by
 match l,h with
 |[],_=>exact S9 []
 |[a],_=>exact XP a
noncomputable abbrev Abk:Func:= Tryz.f135
theorem TV(l:List Int)(h:l.length<=1):Aa PP 135 [dIs l] σ0 (db true) σ0:=by
 match l,h with
 |[],_=>
  refine sv Abk 21 [] (.n<|.r) (Q (db true)) ?_
  rfl
 |[a],_=>
  refine sv Abk 21 [] (.n<|.r) (Q (db true)) ?_
  rfl
noncomputable abbrev AbH:Func:= Tryz.f136
theorem VE(n:Nat)(hn:n<=1000000)(x:Int):Aa PP 136 [di x,.v (.ref (vi n))] σ0 (db (An x 0 (n-1))) σ0:=by
 refine sv AbH 7 [] (.c (db (An x 0 (n-1))) .r) (F0 102 [di x,di (n:Int)] (db (An x 0 ((n:Int)-1)))/\Q (db (An x 0 ((n:Int)-1)))) ?_
 exact⟨B4 x n hn,rfl⟩
noncomputable abbrev AbG:Func:= Tryz.f138
theorem ZT(m:Mod)(hm:m.places.length<=1000000)(hag:0<=m.age/\m.age<=1000)(t:Tk)(h1:0<=t.place/\t.place<m.places.length)(h2:0<=t.low/\t.low<=t.high/\t.high<=m.age+1):Aa PP 138 [.v (vTk t),.v (.ref (vi m.places.length)),.v (.ref (Az m))] σ0 (db false) σ0:=by
 refine sv AbG 30 [3] (.c (db true)<|.k<|.f<|.f<|.r) (F0 102 [di t.place,di (m.places.length:Int)] (db true)/\decide (t.low<0)=false/\decide (t.low>t.high)=false/\db (decide (t.high>wrap IntKind.i64 (m.age+1)))=db false) ?_
 have h:=B4 t.place m.places.length hm
 rw[show An t.place 0 ((m.places.length:Int)-1)=true by simp[An];omega] at h
 refine⟨h,H1 (by omega),H1 (by omega),?_⟩
 rw[Ai (by omega) (by omega),H1 (by omega)]
noncomputable abbrev Z4:Func:= Tryz.f163
noncomputable abbrev Z8:Func:= Tryz.f137
theorem Px(F:FuncId)(cs:List V)(l:List Tk)(h:l.length<=1)(hp:∀x∈l,Aa PP F ((([]:List V)++[vTk x]++cs).map .v) σ0 (db false) σ0):Aa PP 137 [.v (D8 l),.v (.fn F [] cs)] σ0 (db false) σ0:=by
 have hi:Aa PP 163 [.v (D8 l),.v (.fn F [] cs)] σ0 (di (-1)) σ0:=by
  match l,h with
  |[],_=>
   refine sv Z4 19 [] (.n<|.r) (Q (di (-1))) ?_
   rfl
  |[a],_=>
   refine sv Z4 19 [] (.n<|.x (vTk a)<|.c (db false)<|.n<|.r) (iz 0<=0/\Q (some (vTk a))/\F0 F (D.v (vTk a)::map D.v ([]++cs)) (db false)/\Q (di (-1))) ?_
   exact⟨by decide,rfl,by simpa using hp a (by simp),rfl⟩
 refine sv Z8 9 [] (.c (di (-1)) .r) (F0 163 [D.v (D8 l),D.v (V.fn F [] cs)] (di (-1))/\db (decide (-1>=0))=db false) ?_
 exact⟨hi,rfl⟩
noncomputable abbrev AbF:Func:= Tryz.f107
theorem ZS(m:Mod)(hm:m.places.length<=1000000)(hag:0<=m.age/\m.age<=1000)(r:Rul)(h1:r.takes.length<=1)(h2:r.makes.length<=1)(h3:∀t∈r.takes,(0<=t.place/\t.place<m.places.length)/\(0<=t.low/\t.low<=t.high/\t.high<=m.age+1))(h4:∀x∈r.makes,0<=x/\x<m.places.length):Aa PP 107 [Ad m,BN r] σ0 (db true) σ0:=by
 refine sv AbF 37 [2,3] (.h (.q 2 0)<|.h (.f1 0 [5])<|.t<|.t<|.c (db true)<|.k<|.c (db true)<|.k<|.c (db false)<|.r) (decide ((length (map vTk r.takes):Int)<=3)=true/\decide ((length (map vi r.makes):Int)<=3)=true/\F0 135 [dIs r.makes] (db true)/\F0 108 [dIs r.makes,D.v (V.fn 136 [] [V.ref (vi (length (map V.str m.places):Int))])] (db true)/\F0 137 [D.v (D8 r.takes),D.v (V.fn 138 [] [V.ref (vi (length (map V.str m.places):Int)),V.ref (Az m)])] (db false)/\(db !false)=db true) ?_
 refine⟨Hz (by rw[Hw];omega),Hz (by rw[Hw];omega),TV _ h2,?_,?_,rfl⟩
 ·rw[Hw]
  have h:=Eu 136 [] [.ref (vi m.places.length)] (fun x=>An x 0 ((m.places.length:Int)-1)) r.makes (by omega) (fun x _=>VE m.places.length hm x)
  rwa[show(r.makes.all fun x=>An x 0 ((m.places.length:Int)-1))=true from by
   rw[Ii];intro x hx;have:=h4 x hx;simp[An];omega] at h
 ·rw[Hw]
  exact Px _ _ r.takes h1 fun x hx=>ZT m hm hag x (h3 x hx).1 (h3 x hx).2
theorem Uc(nm:List UInt8)(f t:Int)(tk:List Tk)(mk:List Int)(h1:tk.length<=1)(h2:mk.length<=1):Aa PP 110 [BN (mkT nm f t tk mk),BN (mkT nm f t tk mk)] σ0 (db true) σ0:=by
 refine sv Zs 101 [2,3] (.t<|.t<|.t<|.c (db true)<|.k<|.c (db true)<|.k<|.c (db true)<|.k<|.k<|.k<|.k<|.c (db true)<|.k<|.c (db true)<|.k<|.c (db true)<|.k<|.c (db true)<|.k<|.r) (((mkT nm f t tk mk).name==(mkT nm f t tk mk).name)=true/\((mkT nm f t tk mk).frm==(mkT nm f t tk mk).frm)=true/\((mkT nm f t tk mk).to==(mkT nm f t tk mk).to)=true/\F0 140 [D.v (vIs (mkT nm f t tk mk).need),D.v (vIs (mkT nm f t tk mk).need)] (db true)/\F0 140 [D.v (vIs (mkT nm f t tk mk).give),D.v (vIs (mkT nm f t tk mk).give)] (db true)/\F0 140 [D.v (vIs (mkT nm f t tk mk).move),D.v (vIs (mkT nm f t tk mk).move)] (db true)/\F0 140 [D.v (vIs (mkT nm f t tk mk).path),D.v (vIs (mkT nm f t tk mk).path)] (db true)/\F0 140 [D.v (vIs (mkT nm f t tk mk).next),D.v (vIs (mkT nm f t tk mk).next)] (db true)/\F0 141 [D.v (D8 (mkT nm f t tk mk).takes),D.v (D8 (mkT nm f t tk mk).takes)] (db true)/\F0 140 [D.v (vIs (mkT nm f t tk mk).makes),D.v (vIs (mkT nm f t tk mk).makes)] (db true)/\db ((mkT nm f t tk mk).second==(mkT nm f t tk mk).second)=db true) ?_
 have e:∀l:List Int,l.length<=1000000->Aa PP 140 [.v (vIs l),.v (vIs l)] σ0 (db true) σ0:=fun l hl=>by simpa using DH l l hl
 have n0:=e [] (by decide)
 exact⟨by simp,by simp,by simp,n0,n0,n0,n0,n0,Vr tk h1,e mk (by omega),by simp⟩
theorem Rg(m:Mod)(hm:m.places.length<=1000000)(hst:m.states.length<=1000000)(hk:m.kind=5)(hag:0<=m.age/\m.age<=1000)(nm:List UInt8)(f t:Int)(tk:List Tk)(mk:List Int)(hf:0<=f/\f<m.states.length)(ht:0<=t/\t<m.states.length)(h1:tk.length<=1)(h2:mk.length<=1)(h3:∀t∈tk,(0<=t.place/\t.place<m.places.length)/\(0<=t.low/\t.low<=t.high/\t.high<=m.age+1))(h4:∀x∈mk,0<=x/\x<m.places.length):Aa PP 72 [Ad m,BN (mkT nm f t tk mk)] σ0 (db true) σ0:=by
 refine sv Mc 142 [2,3] (.c (db true)<|.k<|.c (db true)<|.k<|.k<|.f<|.f<|.f<|.f<|.t<|.c (db true)<|.k<|.c (db true) .r) (F0 102 [di (mkT nm f t tk mk).to,di (length (map V.str m.states):Int)] (db true)/\F0 102 [di (mkT nm f t tk mk).frm,di (length (map V.str m.states):Int)] (db true)/\(m.kind==1)=false/\(m.kind==2)=false/\(m.kind==3)=false/\(m.kind==4)=false/\(m.kind==5)=true/\F0 107 [Ad m,D.v (Ah (mkT nm f t tk mk))] (db true)/\F0 110 [D.v (Ah (mkT nm f t tk mk)),D.v (V.agg [V.str (mkT nm f t tk mk).name,vi (mkT nm f t tk mk).frm,vi (mkT nm f t tk mk).to,V.list [],V.list [],V.list [],vi 0,vi 0,vi 0,V.list [],V.list [],D8 (mkT nm f t tk mk).takes,vIs (mkT nm f t tk mk).makes,vi 0])] (db true)/\Q (db true)) ?_
 have hx:∀x:Int,0<=x->x<m.states.length->Aa PP 102 [di x,di ((m.states.map V.str).length:Int)] σ0 (db true) σ0:=fun x h0 h1=>by
  rw[Hw]
  have h:=B4 x m.states.length hst
  rwa[show An x 0 ((m.states.length:Int)-1)=true by simp[An];omega] at h
 exact⟨hx t ht.1 ht.2,hx f hf.1 hf.2,by rw[hk];rfl,by rw[hk];rfl,by rw[hk];rfl,by rw[hk];rfl,by rw[hk];rfl,ZS m hm hag (mkT nm f t tk mk) h1 h2 h3 h4,Uc nm f t tk mk h1 h2,rfl⟩
def BG(m:Mod):Typ:=.prod [.lab m.states.length,.bag (.prod [.lab m.places.length,.lab (m.age+2)])]
theorem Jj(m:Mod)(hk:m.kind=5)(hag:0<=m.age/\m.age<=1000):Aa PP 76 [Ad m] σ0 (dT (BG m)) σ0:=by
 refine sv Ei 70 [1] (.c (dT (.lab m.states.length))<|.a 1<|.f<|.t<|.c (dT (.lab m.places.length))<|.c (dT (.lab (m.age+2)))<|.c (dT (.bag (.prod [.lab m.places.length,.lab (m.age+2)])))<|.r) (F0 113 [di (length (map V.str m.states):Int)] (dT (Typ.lab (m.states.length:Int)))/\(m.kind==4)=false/\(m.kind==5)=true/\F0 113 [di (length (map V.str m.places):Int)] (dT (Typ.lab (m.places.length:Int)))/\F0 113 [di (wrap IntKind.i64 (m.age+2))] (dT (Typ.lab (m.age+2)))/\F0 115 [di 5,D.v (V.agg [vi 3,vi 0,V.list [],V.list [vT (Typ.lab (m.places.length:Int)),vT (Typ.lab (m.age+2))]])] (dT (Typ.bag (Typ.prod [Typ.lab (m.places.length:Int),Typ.lab (m.age+2)])))/\Q (vT (Typ.lab (m.states.length:Int))::nV)/\Ax 2 64/\D.v (V.agg [vi 3,vi 0,V.list [],V.list [vT (Typ.lab (m.states.length:Int)),vT (Typ.bag (Typ.prod [Typ.lab (m.places.length:Int),Typ.lab (m.age+2)]))]])=dT (BG m)) ?_
 exact⟨by rw[Hw];exact Df _,by rw[hk];rfl,by rw[hk];rfl,by rw[Hw];exact Df _,by rw[Ai (by omega) (by omega)];exact Df _,Sl (.prod [.lab m.places.length,.lab (m.age+2)]),rfl,⟨by decide,by decide⟩,rfl⟩
theorem Aay(m:Mod)(hst:1<=m.states.length/\m.states.length<=16)(hpl:1<=m.places.length/\m.places.length<=16)(hag:0<=m.age/\m.age<=3):AS 8 (BG m)=true:=by
 simp only[BG,AS,H3,H7,List.all_cons,List.all_nil,Bool.and_true,Hy,Io,Ia,IF,H8]
 omega
theorem YB(np age:Int)(t:Val)(h:WC np age t):Ao (.prod [.lab np,.lab (age+2)]) t=true:=by
 obtain⟨p,g,h1,h2,rfl⟩:=h
 simp only[Ao,Val.n,Val.kids,BV,Ca,Hy,H8,HX]
 refine⟨?_,?_,⟨?_,?_,?_⟩,⟨?_,?_,?_⟩,?_⟩
 all_goals first|exact Hz h1.1|exact Hz h1.2|exact Hz h2.1|exact Hz h2.2|rfl|trivial
theorem N8(l:List Val)(h:∀i x y,l[i]?=some x->l[i+1]?=some y->Aq x y<0):∀k,k<l.length->PO l k=true
 |0,_=>rfl
 |k+1,hk=>by
  have h1:l[k]?=some l[k]:=Hx (by omega)
  have h2:l[k+1]?=some l[k+1]:=Hx hk
  have h3:=h k _ _ h1 h2
  have h4:=(Ey.swap _ _ trivial trivial).1 h3
  rw[PO,H6,H6,h1,h2,HF (by show ¬Aq l[k+1] l[k]<0;omega)]
  exact N8 l h k (by omega)
theorem Tb(m:Mod)(s:Int)(hs:0<=s/\s<m.states.length)(ts:List Val)(h:VF m.places.length m.age 2 ts):Ak (BG m) (.mk 0 [.mk s [],.mk 0 ts])=true:=by
 have hsz:=MC ts h.tok
 have hl:=h.len
 have hsr:PQ ts=true:=by
  unfold PQ
  cases ts with
  |nil=>rfl
  |cons t ts=>exact N8 _ h.asc _ (by simp)
 rw[Ak,Hz (by simp only[Val.size,Val.sizes];omega),HV,BG]
 simp only[Ao,Val.n,Val.kids,BV,Ca,Hy,H8,HX,Ii]
 refine⟨?_,?_,⟨?_,?_,?_⟩,⟨⟨?_,?_,?_⟩,?_⟩,?_⟩
 all_goals first|exact Hz hs.1|exact Hz hs.2|exact hsr|(intro t ht;obtain⟨p,g,h1,h2,rfl⟩:=h.tok t ht;have:=YB _ _ _ ⟨p,g,h1,h2,rfl⟩;simp only[Ao,Hy] at this;exact⟨rfl,rfl,this.2.2⟩)|rfl|trivial|exact Hz (by omega)
structure Cx(m:Mod)(t:Typ):Prop where
 walks:Aa PP 27 [Ad m] σ0 (di 0) σ0
 plain:Aa PP 46 [Ad m] σ0 (db (B1 m)) σ0
 valid:∀v:Val,v.size<=1000000->Aa PP 47 [Ad m,dV v] σ0 (db (Ak t v)) σ0
 places:m.places.length<=1000000
theorem Mod.ok.int{m:Mod}(h:m.ok):Cx m (AL m):=by
 obtain⟨h1,h2,h3,h4,h5,h6,h7,h8⟩:=h.sz
 exact⟨T0 m h,N9 m (by omega),fun v hv=>Sj m h v hv,by omega⟩
def Abr(r:Rul)(N:Nat):Prop:=r.move=[]∨r.move.length=N/\∀t∈r.move, -1<=t/\t<N
noncomputable abbrev Vo:Func:= Tryz.f24
structure CtM(m:Mod):Prop where
 ok:m.ok
 kind:m.kind=1
 start:Ee m m.start
structure AbP(m:Mod)(r:Rul):Prop where
 frm:0<=r.frm/\r.frm<m.states.length
 to:0<=r.to/\r.to<m.states.length
 needL:r.need.length=m.places.length
 giveL:r.give.length=m.places.length
 need:∀x∈r.need,0<=x/\x<=16
 give:∀x∈r.give,0<=x/\x<=16
 move:Abr r m.places.length
theorem CtM.rule{m:Mod}(h:CtM m){r:Rul}(hr:r∈m.rules):AbP m r:=by
 have h1:=h.ok.right r hr
 rw[Dl,HJ h.kind] at h1
 simp only[CR,AY,Cw,Hy,Bool.or_eq_true,Ii,HX] at h1
 obtain⟨h2,h3,⟨h4,h5,h6,h7⟩,h8,_⟩:=h1
 have h2:=BC h2
 have h3:=BC h3
 refine⟨⟨h3.1,by omega⟩,⟨h2.1,by omega⟩,by omega,by omega,fun x hx=>BC (h6 x hx),fun x hx=>BC (h7 x hx),?_⟩
 rcases h8 with h8|⟨h8,h9⟩
 ·exact .inl (List.length_eq_zero_iff.1 (by omega))
 ·exact .inr ⟨by omega,fun t ht=>by have:=BC (h9 t ht);omega⟩
theorem CtM.places{m:Mod}(h:CtM m):1<=m.places.length/\m.places.length<=6/\1<=m.states.length/\m.states.length<=8/\m.rules.length<=12:=by
 obtain⟨h1,h2,h3,h4,h5,_⟩:=h.ok.sz
 omega
def mkV(nm:List UInt8)(f t:Int)(nd gv mv:List Int):Rul:=⟨nm,f,t,nd,gv,mv,0,0,0,[],[],[],[],0⟩
structure My(ns np:Nat)(k:Nat)(r:Rul):Prop where
 name:dl3[k]?=some r.name
 frm:0<=r.frm/\r.frm<ns
 to:0<=r.to/\r.to<ns
 need:r.need.length=np/\∀x∈r.need,0<=x/\x<=2
 give:r.give.length=np/\∀x∈r.give,0<=x/\x<=2
 move:Abr r np
 rest:r=mkV r.name r.frm r.to r.need r.give r.move
structure Tl(m:Mod):Prop where
 kind:m.kind=1
 states:m.states=[[97]]∨m.states=[[97],[98]]
 places:m.places=[[120]]∨m.places=[[120],[121]]
 letters:m.letters=[]
 ranks:m.ranks=[]
 levels:m.levels=0
 age:m.age=0
 count:m.rules.length<=3
 pos:1<=m.rules.length
 rules:∀k r,m.rules[k]?=some r->My m.states.length m.places.length k r
 start:∃ys:List Int,ys.length=m.places.length/\(∀x∈ys,0<=x/\x<=3)/\m.start=El 0 ys
theorem Sm{ns np:Nat}{rs:List Rul}{k:Nat}{nm:List UInt8}{f t:Int}{nd gv mv:List Int}(hnm:dl3[k]?=some nm)(hf:0<=f/\f<ns)(ht:0<=t/\t<ns)(hn:nd.length=np/\∀x∈nd,0<=x/\x<=2)(hg:gv.length=np/\∀x∈gv,0<=x/\x<=2)(hm:mv=[]∨mv.length=np/\∀t∈mv, -1<=t/\t<np)(hrs:rs.length=k)(hR:∀i r,rs[i]?=some r->My ns np i r):∀i r,(rs++[mkV nm f t nd gv mv])[i]?=some r->My ns np i r:=fun i r hi=>by
 by_cases hik:i<rs.length
 ·rw[HK hik] at hi;exact hR i r hi
 ·rw[HH (by omega)] at hi
  have h1:i-rs.length=0:=by
   have:=(H0.1 hi).1
   simp at this;omega
  rw[h1] at hi
  simp at hi;subst hi
  have hik2:i=k:=by omega
  subst hik2
  exact⟨hnm,hf,ht,hn,hg,hm,rfl⟩
theorem SJ{H:List (Option (List D))}{own:List (Nat×Nat×List V)}{q tag:Nat}{nm:List UInt8}{f t:Int}{nd gv xs:List Int}(hq:H[q]?=some (some [.v (.str nm),di f,di t,.v (vIs nd),.v (vIs gv),.acc tag (xs.map vi),di 0,di 0,di 0,.v .nils,.v .nils,.v .nils,.v .nils,di 0]))(e:List D):Cv e ⟨H,own⟩ e ⟨H.set q (some (cR (mkV nm f t nd gv xs))),own⟩:=
 GP (σ:=⟨H,own⟩) (q:=q) hq (fun g us hr=>by
  have:=D6 (ts:=[]) (kn:=false) hr
  exact this) (fun _ x hx=>by
  simp only[cR,Ib,IM,or_false] at hx
  rcases hx with rfl|rfl|rfl|rfl|rfl|rfl|rfl|rfl|rfl|rfl|rfl|rfl|rfl|rfl<;>rfl) e
theorem SM(l:List UInt8)(hl:l.length<=200)(S Pl:List (List UInt8))(hS:S=[[97]]∨S=[[97],[98]])(hP:Pl=[[120]]∨Pl=[[120],[121]])(n:Nat):∀(k a:Nat) (rs:List Rul),3-k=n->a<=l.length->k<=3->rs.length=k->(∀i r,rs[i]?=some r->My S.length Pl.length i r)->
  ∃(m:Mod) (a':Nat),Tl m/\a'<=l.length/\Rn PP S7 1 (Ad m) (dz l a') ([.lp (sub FN [1,1,1,0,1,0,0]),.blk 0,.code (sub FN [1,1,1,1])]++[]) (mkE 85 [(0,.ptr 0 0),(1,db true),(4,.ptr 1 0),(5,.ptr 2 0),(6,di Pl.length),(7,di k)]) (stC l a S Pl rs):=by
 induction n using Nat.strongRecOn with
 |_ n ih=>
 intro k a rs hn ha hk3 hrs hR
 have hSl:1<=S.length/\S.length<=2:=by rcases hS with rfl|rfl<;>decide
 have hPl:1<=Pl.length/\Pl.length<=2:=by rcases hP with rfl|rfl<;>decide
 obtain⟨r,a1,h1,h2,h3,h4⟩:=Al l hl a ha 3 (by decide) (by decide)
 by_cases hk:(k:Int)<1+r
 ·obtain⟨f,a2,f1,f2,f3,f4⟩:=Al l hl a1 h3 S.length (by omega) (by omega)
  obtain⟨t,a3,t1,t2,t3,t4⟩:=Al l hl a2 f3 S.length (by omega) (by omega)
  obtain⟨nd,a4,n1,n2,n3,n4⟩:=Ea l hl a3 t3 Pl.length (by omega) 2 (by decide) (by decide)
  obtain⟨gv,a5,g1,g2,g3,g4⟩:=Ea l hl a4 n1 Pl.length (by omega) 2 (by decide) (by decide)
  obtain⟨nm,hnm⟩:∃nm,dl3[k]?=some nm:=⟨_,Hx (show k<dl3.length by show k<3;omega)⟩
  obtain⟨w,a6,w1,w2,w3,w4⟩:=Al l hl a5 g1 2 (by decide) (by decide)
  have hkr:decide ((k:Int)<wrap IntKind.i64 (1+r))=true:=by rw[Ai (by omega) (by omega)];exact Hz hk
  have hSm:((S.map V.str).length:Int)=(S.length:Int):=by rw[Hw]
  by_cases hw:(w==0)=true
  ·rcases hP with hP|hP
   ·obtain⟨v1,a7,v11,v12,v13,v14⟩:=Al l hl a6 w3 2 (by decide) (by decide)
    obtain⟨m,a',m1,m2,m3⟩:=ih (3- (k+1)) (by omega) (k+1) a7 (rs++[mkV nm f t nd gv [v1-1]]) rfl v13 (by omega) (by simp[hrs]) (Sm hnm ⟨f1,f2⟩ ⟨t1,t2⟩ ⟨n2,n3⟩ ⟨g2,g3⟩ (.inr ⟨by rw[hP];rfl,fun t ht=>by rw[HE.1 ht,hP];show-1<=v1-1/\v1-1<((1:Nat):Int);omega⟩) hrs hR)
    refine⟨m,a',m1,m2,?_⟩
    subst hP
    refine lv 85 [] (.c1 (cDz l a1) (di r)<|.t<|.h (.dr 21)<|.x (.str nm)<|.c1 (cDz l a2) (di f)<|.c1 (cDz l a3) (di t)<|.c1 (cDz l a4) (dIs nd)<|.c1 (cDz l a5) (dIs gv)<|.h .rn<|.c1 (cDz l a6) (di w)<|.t<|.h (.q 8 0)<|.h (.cl 3 5 3 1)<|.n<|.m (.acc 3 [])<|.c1 (cDz l a7) (di v1)<|.n<|.f<|.h (.q 12 2)<|.h (.cs ⟨[some (cDz l a7),some zM,some (cM S [[120]] rs),some (cR (mkV nm f t nd gv [v1-1]))],[(3,1,[vi (v1-1)]),(2,14,rs.map Ah)]⟩)<|.ls [ke 0,ke 1,ke 4,ke 5,ke 6,ch 7 (di (k+1:Nat))] (stC l a7 S [[120]] (rs++[mkV nm f t nd gv [v1-1]]))) (Aa PP 18 [D.ptr 0 0,di 3] (dz l a) (di r) (dz l a1)/\decide ((k:Int)<wrap IntKind.i64 (1+r))=true/\0<=(k:Int)/\[V.str (ByteArray.mk #[114]).data.toList,V.str (ByteArray.mk #[115]).data.toList,V.str (ByteArray.mk #[116]).data.toList][Int.toNat (k:Int)]?=some (V.str nm)/\Aa PP 18 [D.ptr 0 0,di (length (map V.str S):Int)] (dz l a1) (di f) (dz l a2)/\Aa PP 18 [D.ptr 0 0,di (length (map V.str S):Int)] (dz l a1) (di f) (dz l a2)/\Q (di f)/\Aa PP 18 [D.ptr 0 0,di (length (map V.str S):Int)] (dz l a2) (di t) (dz l a3)/\Aa PP 18 [D.ptr 0 0,di (length (map V.str S):Int)] (dz l a2) (di t) (dz l a3)/\Q (di t)/\Aa PP 36 [D.ptr 0 0,di (↑(length [[120]]):Int),di 2] (dz l a3) (dIs nd) (dz l a4)/\Aa PP 36 [D.ptr 0 0,di (↑(length [[120]]):Int),di 2] (dz l a3) (dIs nd) (dz l a4)/\Q (dIs nd)/\Aa PP 36 [D.ptr 0 0,di (↑(length [[120]]):Int),di 2] (dz l a4) (dIs gv) (dz l a5)/\Aa PP 36 [D.ptr 0 0,di (↑(length [[120]]):Int),di 2] (dz l a4) (dIs gv) (dz l a5)/\Q (dIs gv)/\Q [St.mk [some (cDz l a1),some zM,some (cM S [[120]] rs),some zRl] [(2,14,map Ah rs)],St.mk [some (cDz l a2),some zM,some (cM S [[120]] rs),some zRl] [(2,14,map Ah rs)],St.mk [some (cDz l a3),some zM,some (cM S [[120]] rs),some zRl] [(2,14,map Ah rs)],St.mk [some (cDz l a4),some zM,some (cM S [[120]] rs),some zRl] [(2,14,map Ah rs)],St.mk [some (cDz l a5),some zM,some (cM S [[120]] rs),some zRl] [(2,14,map Ah rs)]]/\((Q (some [D.v (vSs S)])/\Q (some [D.v (vSs S)])/\Q (some [D.v (vSs S)])/\Q (some [D.v (vSs S)])/\Q (some [D.v (vSs S)])/\Q (some [D.v (vSs S)])/\Q (some [D.v (vSs S)])/\Q (some [D.v (vSs S)])/\Q (some [D.v (vSs S)])/\Q (some [D.v (vSs S)])/\Q (some [D.v (vSs S)])/\True)/\(Q (some [D.v (vSs S)])/\Q (some [D.v (vSs S)])/\Q (some [D.v (vSs S)])/\Q (some [D.v (vSs S)])/\Q (some [D.v (vSs S)])/\Q (some [D.v (vSs S)])/\Q (some [D.v (vSs S)])/\Q (some [D.v (vSs S)])/\Q (some [D.v (vSs S)])/\Q (some [D.v (vSs S)])/\Q (some [D.v (vSs S)])/\True)/\True)/\Aa PP 18 [D.ptr 0 0,di 2] (dz l a5) (di w) (dz l a6)/\(w==0)=true/\Q (some (D.acc 3 []))/\Aa PP 18 [D.ptr 0 0,di (wrap IntKind.i64 ((↑(length [[120]]):Int)+1))] (dz l a6) (di v1) (dz l a7)/\Q nV/\Ax 1 8/\((Q (some [D.acc 3 []])/\True)/\True)/\decide (wrap IntKind.i64 (0+1)<(↑(length [[120]]):Int))=false/\(∀(e:List D) (E:Ent) (g:Gh) (a:Act) (w:World),FI E g (St.mk [some (cDz l a7),some zM,some (cM S [[120]] rs),some [D.v (V.str nm),D.v (V.int IntKind.i64 f),D.v (V.int IntKind.i64 t),dIs nd,dIs gv,D.acc 3 ([]++[V.int IntKind.i64 (wrap IntKind.i64 (v1-1))]),D.v (V.int IntKind.i64 0),D.v (V.int IntKind.i64 0),D.v (V.int IntKind.i64 0),dn,dn,dn,dn,D.v (V.int IntKind.i64 0)]] [(3,1,[]++[V.int IntKind.i64 (wrap IntKind.i64 (v1-1))]),(2,14,map Ah rs)]) e a w->∃g',FI E g' (St.mk [some (cDz l a7),some zM,some (cM S [[120]] rs),some (cR (mkV nm f t nd gv [v1-1]))] [(3,1,[vi (v1-1)]),(2,14,map Ah rs)]) e a w)/\Q (map Ah rs)/\Ax (length (map Ah rs)+length (V.agg (V.str (mkV nm f t nd gv [v1-1]).name::V.int IntKind.i64 (mkV nm f t nd gv [v1-1]).frm::V.int IntKind.i64 (mkV nm f t nd gv [v1-1]).to::vIs (mkV nm f t nd gv [v1-1]).need::vIs (mkV nm f t nd gv [v1-1]).give::vIs (mkV nm f t nd gv [v1-1]).move::V.int IntKind.i64 (mkV nm f t nd gv [v1-1]).chan::V.int IntKind.i64 (mkV nm f t nd gv [v1-1]).act::V.int IntKind.i64 (mkV nm f t nd gv [v1-1]).letter::vIs (mkV nm f t nd gv [v1-1]).path::vIs (mkV nm f t nd gv [v1-1]).next::D8 (mkV nm f t nd gv [v1-1]).takes::vIs (mkV nm f t nd gv [v1-1]).makes::V.int IntKind.i64 (mkV nm f t nd gv [v1-1]).second::nV)::nV)) 232/\di (wrap IntKind.i64 ((k:Int)+1))=di (↑(k+1):Int)/\[some (cDz l a7),some zM,some [di 1,D.v (vSs S),D.v (vSs [[120]]),dn,dn,di 0,di 0,D.acc 2 (map Ah rs++V.agg (V.str (mkV nm f t nd gv [v1-1]).name::vi (mkV nm f t nd gv [v1-1]).frm::vi (mkV nm f t nd gv [v1-1]).to::vIs (mkV nm f t nd gv [v1-1]).need::vIs (mkV nm f t nd gv [v1-1]).give::vIs (mkV nm f t nd gv [v1-1]).move::vi (mkV nm f t nd gv [v1-1]).chan::vi (mkV nm f t nd gv [v1-1]).act::vi (mkV nm f t nd gv [v1-1]).letter::vIs (mkV nm f t nd gv [v1-1]).path::vIs (mkV nm f t nd gv [v1-1]).next::D8 (mkV nm f t nd gv [v1-1]).takes::vIs (mkV nm f t nd gv [v1-1]).makes::vi (mkV nm f t nd gv [v1-1]).second::nV)::nV),di 0,dn]]=[some (cDz l a7),some zM,some (cM S [[120]] (rs++[mkV nm f t nd gv [v1-1]]))]/\[(2,14,map Ah rs++V.agg (V.str (mkV nm f t nd gv [v1-1]).name::vi (mkV nm f t nd gv [v1-1]).frm::vi (mkV nm f t nd gv [v1-1]).to::vIs (mkV nm f t nd gv [v1-1]).need::vIs (mkV nm f t nd gv [v1-1]).give::vIs (mkV nm f t nd gv [v1-1]).move::vi (mkV nm f t nd gv [v1-1]).chan::vi (mkV nm f t nd gv [v1-1]).act::vi (mkV nm f t nd gv [v1-1]).letter::vIs (mkV nm f t nd gv [v1-1]).path::vIs (mkV nm f t nd gv [v1-1]).next::D8 (mkV nm f t nd gv [v1-1]).takes::vIs (mkV nm f t nd gv [v1-1]).makes::vi (mkV nm f t nd gv [v1-1]).second::nV)::nV)]=[(2,14,map Ah (rs++[mkV nm f t nd gv [v1-1]]))]/\I0 S7 1 (Ad m) (dz l a') [kl FN [1,1,1,0,1,0,0],KI.blk 0,kc FN [1,1,1,1]] (mkE 85 [(0,D.ptr 0 0),(1,db true),(4,D.ptr 1 0),(5,D.ptr 2 0),(6,di (↑(length [[120]]):Int)),(7,di (↑(k+1):Int))]) (stC l a7 S [[120]] (rs++[mkV nm f t nd gv [v1-1]]))) ?_
    rw[hSm,Ai (n:=v1-1) (by omega) (by omega)]
    repeat' first|with_reducible refine And.intro ?_ ?_
    all_goals first|exact h4|exact hkr|exact f4|exact t4|exact n4|exact g4|exact w4|exact hw|exact v14|exact BA hnm|exact⟨m3⟩|exact Ae (by omega)|omega|rfl|trivial|skip
    all_goals first|exact HL (fun z=>[some (cDz l a7),some zM,some [di 1,.v (vSs S),.v (vSs [[120]]),.v .nils,.v .nils,di 0,di 0,.acc 2 z,di 0,.v .nils]]) (AC rs (mkV nm f t nd gv [v1-1]))|exact HL (fun z=>[(2,14,z)]) (AC rs (mkV nm f t nd gv [v1-1]))|(simp only[Hw,H3,H7];omega)|exact(fun e=>SJ (H:=[some (cDz l a7),some zM,some (cM S [[120]] rs),some [.v (.str nm),di f,di t,.v (vIs nd),.v (vIs gv),.acc 3 ([v1-1].map vi),di 0,di 0,di 0,.v .nils,.v .nils,.v .nils,.v .nils,di 0]]) (own:=[(3,1,[v1-1].map vi),(2,14,rs.map Ah)]) (q:=3) (tag:=3) (nm:=nm) (f:=f) (t:=t) (nd:=nd) (gv:=gv) (xs:=[v1-1]) rfl e)
   ·obtain⟨v1,a7,v11,v12,v13,v14⟩:=Al l hl a6 w3 3 (by decide) (by decide)
    obtain⟨v2,a8,v21,v22,v23,v24⟩:=Al l hl a7 v13 3 (by decide) (by decide)
    obtain⟨m,a',m1,m2,m3⟩:=ih (3- (k+1)) (by omega) (k+1) a8 (rs++[mkV nm f t nd gv [v1-1,v2-1]]) rfl v23 (by omega) (by simp[hrs]) (Sm hnm ⟨f1,f2⟩ ⟨t1,t2⟩ ⟨n2,n3⟩ ⟨g2,g3⟩ (.inr ⟨by rw[hP];rfl,fun t ht=>by
     rw[hP];show-1<=t/\t<((2:Nat):Int)
     simp only[Ib,IM,or_false] at ht
     omega⟩) hrs hR)
    refine⟨m,a',m1,m2,?_⟩
    subst hP
    refine lv 85 [] (.c1 (cDz l a1) (di r)<|.t<|.h (.dr 21)<|.x (.str nm)<|.c1 (cDz l a2) (di f)<|.c1 (cDz l a3) (di t)<|.c1 (cDz l a4) (dIs nd)<|.c1 (cDz l a5) (dIs gv)<|.h .rn<|.c1 (cDz l a6) (di w)<|.t<|.h (.q 8 0)<|.h (.cl 3 5 3 1)<|.n<|.m (.acc 3 [])<|.c1 (cDz l a7) (di v1)<|.n<|.t<|.m (.acc 3 [vi (v1-1)])<|.c1 (cDz l a8) (di v2)<|.n<|.f<|.h (.q 12 2)<|.h (.cs ⟨[some (cDz l a8),some zM,some (cM S [[120],[121]] rs),some (cR (mkV nm f t nd gv [v1-1,v2-1]))],[(3,1,[vi (v1-1),vi (v2-1)]),(2,14,rs.map Ah)]⟩)<|.ls [ke 0,ke 1,ke 4,ke 5,ke 6,ch 7 (di (k+1:Nat))] (stC l a8 S [[120],[121]] (rs++[mkV nm f t nd gv [v1-1,v2-1]]))) (Aa PP 18 [D.ptr 0 0,di 3] (dz l a) (di r) (dz l a1)/\decide ((k:Int)<wrap IntKind.i64 (1+r))=true/\0<=(k:Int)/\[V.str (ByteArray.mk #[114]).data.toList,V.str (ByteArray.mk #[115]).data.toList,V.str (ByteArray.mk #[116]).data.toList][Int.toNat (k:Int)]?=some (V.str nm)/\Aa PP 18 [D.ptr 0 0,di (length (map V.str S):Int)] (dz l a1) (di f) (dz l a2)/\Aa PP 18 [D.ptr 0 0,di (length (map V.str S):Int)] (dz l a1) (di f) (dz l a2)/\Q (di f)/\Aa PP 18 [D.ptr 0 0,di (length (map V.str S):Int)] (dz l a2) (di t) (dz l a3)/\Aa PP 18 [D.ptr 0 0,di (length (map V.str S):Int)] (dz l a2) (di t) (dz l a3)/\Q (di t)/\Aa PP 36 [D.ptr 0 0,di (↑(length [[120],[121]]):Int),di 2] (dz l a3) (dIs nd) (dz l a4)/\Aa PP 36 [D.ptr 0 0,di (↑(length [[120],[121]]):Int),di 2] (dz l a3) (dIs nd) (dz l a4)/\Q (dIs nd)/\Aa PP 36 [D.ptr 0 0,di (↑(length [[120],[121]]):Int),di 2] (dz l a4) (dIs gv) (dz l a5)/\Aa PP 36 [D.ptr 0 0,di (↑(length [[120],[121]]):Int),di 2] (dz l a4) (dIs gv) (dz l a5)/\Q (dIs gv)/\Q [St.mk [some (cDz l a1),some zM,some (cM S [[120],[121]] rs),some zRl] [(2,14,map Ah rs)],St.mk [some (cDz l a2),some zM,some (cM S [[120],[121]] rs),some zRl] [(2,14,map Ah rs)],St.mk [some (cDz l a3),some zM,some (cM S [[120],[121]] rs),some zRl] [(2,14,map Ah rs)],St.mk [some (cDz l a4),some zM,some (cM S [[120],[121]] rs),some zRl] [(2,14,map Ah rs)],St.mk [some (cDz l a5),some zM,some (cM S [[120],[121]] rs),some zRl] [(2,14,map Ah rs)]]/\((Q (some [D.v (vSs S)])/\Q (some [D.v (vSs S)])/\Q (some [D.v (vSs S)])/\Q (some [D.v (vSs S)])/\Q (some [D.v (vSs S)])/\Q (some [D.v (vSs S)])/\Q (some [D.v (vSs S)])/\Q (some [D.v (vSs S)])/\Q (some [D.v (vSs S)])/\Q (some [D.v (vSs S)])/\Q (some [D.v (vSs S)])/\True)/\(Q (some [D.v (vSs S)])/\Q (some [D.v (vSs S)])/\Q (some [D.v (vSs S)])/\Q (some [D.v (vSs S)])/\Q (some [D.v (vSs S)])/\Q (some [D.v (vSs S)])/\Q (some [D.v (vSs S)])/\Q (some [D.v (vSs S)])/\Q (some [D.v (vSs S)])/\Q (some [D.v (vSs S)])/\Q (some [D.v (vSs S)])/\True)/\True)/\Aa PP 18 [D.ptr 0 0,di 2] (dz l a5) (di w) (dz l a6)/\(w==0)=true/\Q (some (D.acc 3 []))/\Aa PP 18 [D.ptr 0 0,di (wrap IntKind.i64 ((↑(length [[120],[121]]):Int)+1))] (dz l a6) (di v1) (dz l a7)/\Q nV/\Ax 1 8/\((Q (some [D.acc 3 []])/\True)/\True)/\decide (wrap IntKind.i64 (0+1)<(↑(length [[120],[121]]):Int))=true/\some (D.acc 3 [vi (wrap IntKind.i64 (v1-1))])=some (D.acc 3 [vi (v1-1)])/\Aa PP 18 [D.ptr 0 0,di (wrap IntKind.i64 ((↑(length [[120],[121]]):Int)+1))] (dz l a7) (di v2) (dz l a8)/\vi (wrap IntKind.i64 (v1-1))::nV=vi (v1-1)::nV/\Ax 2 8/\((Q (some [D.acc 3 [vi (wrap IntKind.i64 (v1-1))]])/\True)/\True)/\decide (wrap IntKind.i64 (wrap IntKind.i64 (0+1)+1)<(↑(length [[120],[121]]):Int))=false/\(∀(e:List D) (E:Ent) (g:Gh) (a:Act) (w:World),FI E g (St.mk [some (cDz l a8),some zM,some (cM S [[120],[121]] rs),some [D.v (V.str nm),D.v (V.int IntKind.i64 f),D.v (V.int IntKind.i64 t),dIs nd,dIs gv,D.acc 3 ([vi (v1-1)]++[V.int IntKind.i64 (wrap IntKind.i64 (v2-1))]),D.v (V.int IntKind.i64 0),D.v (V.int IntKind.i64 0),D.v (V.int IntKind.i64 0),dn,dn,dn,dn,D.v (V.int IntKind.i64 0)]] [(3,1,[vi (v1-1)]++[V.int IntKind.i64 (wrap IntKind.i64 (v2-1))]),(2,14,map Ah rs)]) e a w->∃g',FI E g' (St.mk [some (cDz l a8),some zM,some (cM S [[120],[121]] rs),some (cR (mkV nm f t nd gv [v1-1,v2-1]))] [(3,1,[vi (v1-1),vi (v2-1)]),(2,14,map Ah rs)]) e a w)/\Q (map Ah rs)/\Ax (length (map Ah rs)+length (V.agg (V.str (mkV nm f t nd gv [v1-1,v2-1]).name::V.int IntKind.i64 (mkV nm f t nd gv [v1-1,v2-1]).frm::V.int IntKind.i64 (mkV nm f t nd gv [v1-1,v2-1]).to::vIs (mkV nm f t nd gv [v1-1,v2-1]).need::vIs (mkV nm f t nd gv [v1-1,v2-1]).give::vIs (mkV nm f t nd gv [v1-1,v2-1]).move::V.int IntKind.i64 (mkV nm f t nd gv [v1-1,v2-1]).chan::V.int IntKind.i64 (mkV nm f t nd gv [v1-1,v2-1]).act::V.int IntKind.i64 (mkV nm f t nd gv [v1-1,v2-1]).letter::vIs (mkV nm f t nd gv [v1-1,v2-1]).path::vIs (mkV nm f t nd gv [v1-1,v2-1]).next::D8 (mkV nm f t nd gv [v1-1,v2-1]).takes::vIs (mkV nm f t nd gv [v1-1,v2-1]).makes::V.int IntKind.i64 (mkV nm f t nd gv [v1-1,v2-1]).second::nV)::nV)) 232/\di (wrap IntKind.i64 ((k:Int)+1))=di (↑(k+1):Int)/\[some (cDz l a8),some zM,some [di 1,D.v (vSs S),D.v (vSs [[120],[121]]),dn,dn,di 0,di 0,D.acc 2 (map Ah rs++V.agg (V.str (mkV nm f t nd gv [v1-1,v2-1]).name::vi (mkV nm f t nd gv [v1-1,v2-1]).frm::vi (mkV nm f t nd gv [v1-1,v2-1]).to::vIs (mkV nm f t nd gv [v1-1,v2-1]).need::vIs (mkV nm f t nd gv [v1-1,v2-1]).give::vIs (mkV nm f t nd gv [v1-1,v2-1]).move::vi (mkV nm f t nd gv [v1-1,v2-1]).chan::vi (mkV nm f t nd gv [v1-1,v2-1]).act::vi (mkV nm f t nd gv [v1-1,v2-1]).letter::vIs (mkV nm f t nd gv [v1-1,v2-1]).path::vIs (mkV nm f t nd gv [v1-1,v2-1]).next::D8 (mkV nm f t nd gv [v1-1,v2-1]).takes::vIs (mkV nm f t nd gv [v1-1,v2-1]).makes::vi (mkV nm f t nd gv [v1-1,v2-1]).second::nV)::nV),di 0,dn]]=[some (cDz l a8),some zM,some (cM S [[120],[121]] (rs++[mkV nm f t nd gv [v1-1,v2-1]]))]/\[(2,14,map Ah rs++V.agg (V.str (mkV nm f t nd gv [v1-1,v2-1]).name::vi (mkV nm f t nd gv [v1-1,v2-1]).frm::vi (mkV nm f t nd gv [v1-1,v2-1]).to::vIs (mkV nm f t nd gv [v1-1,v2-1]).need::vIs (mkV nm f t nd gv [v1-1,v2-1]).give::vIs (mkV nm f t nd gv [v1-1,v2-1]).move::vi (mkV nm f t nd gv [v1-1,v2-1]).chan::vi (mkV nm f t nd gv [v1-1,v2-1]).act::vi (mkV nm f t nd gv [v1-1,v2-1]).letter::vIs (mkV nm f t nd gv [v1-1,v2-1]).path::vIs (mkV nm f t nd gv [v1-1,v2-1]).next::D8 (mkV nm f t nd gv [v1-1,v2-1]).takes::vIs (mkV nm f t nd gv [v1-1,v2-1]).makes::vi (mkV nm f t nd gv [v1-1,v2-1]).second::nV)::nV)]=[(2,14,map Ah (rs++[mkV nm f t nd gv [v1-1,v2-1]]))]/\I0 S7 1 (Ad m) (dz l a') [kl FN [1,1,1,0,1,0,0],KI.blk 0,kc FN [1,1,1,1]] (mkE 85 [(0,D.ptr 0 0),(1,db true),(4,D.ptr 1 0),(5,D.ptr 2 0),(6,di (↑(length [[120],[121]]):Int)),(7,di (↑(k+1):Int))]) (stC l a8 S [[120],[121]] (rs++[mkV nm f t nd gv [v1-1,v2-1]]))) ?_
    rw[hSm,Ai (n:=v1-1) (by omega) (by omega),Ai (n:=v2-1) (by omega) (by omega)]
    repeat' first|with_reducible refine And.intro ?_ ?_
    all_goals first|exact h4|exact hkr|exact f4|exact t4|exact n4|exact g4|exact w4|exact hw|exact v14|exact v24|exact BA hnm|exact⟨m3⟩|exact Ae (by omega)|omega|rfl|trivial|skip
    all_goals first|exact HL (fun z=>[some (cDz l a8),some zM,some [di 1,.v (vSs S),.v (vSs [[120],[121]]),.v .nils,.v .nils,di 0,di 0,.acc 2 z,di 0,.v .nils]]) (AC rs (mkV nm f t nd gv [v1-1,v2-1]))|exact HL (fun z=>[(2,14,z)]) (AC rs (mkV nm f t nd gv [v1-1,v2-1]))|(simp only[Hw,H3,H7];omega)|exact(fun e=>SJ (H:=[some (cDz l a8),some zM,some (cM S [[120],[121]] rs),some [.v (.str nm),di f,di t,.v (vIs nd),.v (vIs gv),.acc 3 ([v1-1,v2-1].map vi),di 0,di 0,di 0,.v .nils,.v .nils,.v .nils,.v .nils,di 0]]) (own:=[(3,1,[v1-1,v2-1].map vi),(2,14,rs.map Ah)]) (q:=3) (tag:=3) (nm:=nm) (f:=f) (t:=t) (nd:=nd) (gv:=gv) (xs:=[v1-1,v2-1]) rfl e)
  ·obtain⟨m,a',m1,m2,m3⟩:=ih (3- (k+1)) (by omega) (k+1) a6 (rs++[mkV nm f t nd gv []]) rfl w3 (by omega) (by simp[hrs]) (Sm hnm ⟨f1,f2⟩ ⟨t1,t2⟩ ⟨n2,n3⟩ ⟨g2,g3⟩ (.inl rfl) hrs hR)
   refine⟨m,a',m1,m2,?_⟩
   refine lv 85 [] (.c1 (cDz l a1) (di r)<|.t<|.h (.dr 21)<|.x (.str nm)<|.c1 (cDz l a2) (di f)<|.c1 (cDz l a3) (di t)<|.c1 (cDz l a4) (dIs nd)<|.c1 (cDz l a5) (dIs gv)<|.c1 (cDz l a6) (di w)<|.f<|.ls [ke 0,ke 1,ke 4,ke 5,ke 6,ch 7 (di (k+1:Nat))] (stC l a6 S Pl (rs++[mkV nm f t nd gv []]))) (Aa PP 18 [D.ptr 0 0,di 3] (dz l a) (di r) (dz l a1)/\decide ((k:Int)<wrap IntKind.i64 (1+r))=true/\0<=(k:Int)/\[V.str (ByteArray.mk #[114]).data.toList,V.str (ByteArray.mk #[115]).data.toList,V.str (ByteArray.mk #[116]).data.toList][Int.toNat (k:Int)]?=some (V.str nm)/\Aa PP 18 [D.ptr 0 0,di (length (map V.str S):Int)] (dz l a1) (di f) (dz l a2)/\Aa PP 18 [D.ptr 0 0,di (length (map V.str S):Int)] (dz l a1) (di f) (dz l a2)/\Q (di f)/\Aa PP 18 [D.ptr 0 0,di (length (map V.str S):Int)] (dz l a2) (di t) (dz l a3)/\Aa PP 18 [D.ptr 0 0,di (length (map V.str S):Int)] (dz l a2) (di t) (dz l a3)/\Q (di t)/\Aa PP 36 [D.ptr 0 0,di (Pl.length:Int),di 2] (dz l a3) (dIs nd) (dz l a4)/\Aa PP 36 [D.ptr 0 0,di (Pl.length:Int),di 2] (dz l a3) (dIs nd) (dz l a4)/\Q (dIs nd)/\Aa PP 36 [D.ptr 0 0,di (Pl.length:Int),di 2] (dz l a4) (dIs gv) (dz l a5)/\Aa PP 36 [D.ptr 0 0,di (Pl.length:Int),di 2] (dz l a4) (dIs gv) (dz l a5)/\Q (dIs gv)/\Q [St.mk [some (cDz l a1),some zM,some (cM S Pl rs),some zRl] [(2,14,map Ah rs)],St.mk [some (cDz l a2),some zM,some (cM S Pl rs),some zRl] [(2,14,map Ah rs)],St.mk [some (cDz l a3),some zM,some (cM S Pl rs),some zRl] [(2,14,map Ah rs)],St.mk [some (cDz l a4),some zM,some (cM S Pl rs),some zRl] [(2,14,map Ah rs)],St.mk [some (cDz l a5),some zM,some (cM S Pl rs),some zRl] [(2,14,map Ah rs)]]/\((Q (some [D.v (vSs S)])/\Q (some [D.v (vSs S)])/\Q (some [D.v (vSs S)])/\Q (some [D.v (vSs S)])/\Q (some [D.v (vSs S)])/\Q (some [D.v (vSs S)])/\Q (some [D.v (vSs S)])/\Q (some [D.v (vSs S)])/\Q (some [D.v (vSs S)])/\Q (some [D.v (vSs S)])/\Q (some [D.v (vSs S)])/\True)/\(Q (some [D.v (vSs S)])/\Q (some [D.v (vSs S)])/\Q (some [D.v (vSs S)])/\Q (some [D.v (vSs S)])/\Q (some [D.v (vSs S)])/\Q (some [D.v (vSs S)])/\Q (some [D.v (vSs S)])/\Q (some [D.v (vSs S)])/\Q (some [D.v (vSs S)])/\Q (some [D.v (vSs S)])/\Q (some [D.v (vSs S)])/\True)/\True)/\Aa PP 18 [D.ptr 0 0,di 2] (dz l a5) (di w) (dz l a6)/\(w==0)=false/\Q (map Ah rs)/\Ax (length (map Ah rs)+length (V.agg (V.str nm::V.int IntKind.i64 f::V.int IntKind.i64 t::vIs nd::vIs gv::V.list nV::V.int IntKind.i64 0::V.int IntKind.i64 0::V.int IntKind.i64 0::V.list nV::V.list nV::V.list nV::V.list nV::V.int IntKind.i64 0::nV)::nV)) 232/\di (wrap IntKind.i64 ((k:Int)+1))=di (↑(k+1):Int)/\[some (cDz l a6),some zM,some [di 1,D.v (vSs S),D.v (vSs Pl),dn,dn,di 0,di 0,D.acc 2 (map Ah rs++V.agg (V.str nm::vi f::vi t::vIs nd::vIs gv::V.list nV::vi 0::vi 0::vi 0::V.list nV::V.list nV::V.list nV::V.list nV::vi 0::nV)::nV),di 0,dn]]=[some (cDz l a6),some zM,some (cM S Pl (rs++[mkV nm f t nd gv []]))]/\[(2,14,map Ah rs++V.agg (V.str nm::vi f::vi t::vIs nd::vIs gv::V.list nV::vi 0::vi 0::vi 0::V.list nV::V.list nV::V.list nV::V.list nV::vi 0::nV)::nV)]=[(2,14,map Ah (rs++[mkV nm f t nd gv []]))]/\I0 S7 1 (Ad m) (dz l a') [kl FN [1,1,1,0,1,0,0],KI.blk 0,kc FN [1,1,1,1]] (mkE 85 [(0,D.ptr 0 0),(1,db true),(4,D.ptr 1 0),(5,D.ptr 2 0),(6,di (Pl.length:Int)),(7,di (↑(k+1):Int))]) (stC l a6 S Pl (rs++[mkV nm f t nd gv []]))) ?_
   rw[hSm]
   repeat' first|with_reducible refine And.intro ?_ ?_
   all_goals first|exact h4|exact hkr|exact f4|exact t4|exact n4|exact g4|exact w4|exact HA hw|exact BA hnm|exact⟨m3⟩|exact Ae (by omega)|omega|rfl|trivial|skip
   all_goals first|exact HL (fun z=>[some (cDz l a6),some zM,some [di 1,.v (vSs S),.v (vSs Pl),.v .nils,.v .nils,di 0,di 0,.acc 2 z,di 0,.v .nils]]) (AC rs (mkV nm f t nd gv []))|exact HL (fun z=>[(2,14,z)]) (AC rs (mkV nm f t nd gv []))|(simp only[Hw,H3,H7];omega)
 ·obtain⟨ys,a2,y1,y2,y3,y4⟩:=Ea l hl a1 h3 Pl.length (by omega) 3 (by decide) (by decide)
  obtain⟨c,hc⟩:∃c,c=El 0 ys:=⟨_,rfl⟩
  refine⟨⟨1,S,Pl,[],[],0,0,rs,c⟩,a2,⟨rfl,hS,hP,rfl,rfl,rfl,rfl,by show rs.length<=3;omega,by show 1<=rs.length;omega,hR,ys,y2,y3,hc⟩,y1,?_⟩
  refine lv 85 [] (.c1 (cDz l a1) (di r)<|.f<|.c1 (cDz l a2) (dIs ys)<|.c (dV c) .r) (Aa PP 18 [D.ptr 0 0,di 3] (dz l a) (di r) (dz l a1)/\decide ((k:Int)<wrap IntKind.i64 (1+r))=false/\Aa PP 36 [D.ptr 0 0,di (Pl.length:Int),di 3] (dz l a1) (dIs ys) (dz l a2)/\F0 37 [di 0,dIs ys] (dV c)/\Q [some (cDz l a2)]/\D.v (V.agg [vi 1,V.list (map V.str S),V.list (map V.str Pl),V.list [],V.list [],vi 0,vi 0,V.list (map Ah rs),vi c.n,V.list (map eV c.kids)])=Ad (Mod.mk 1 S Pl [] [] 0 0 rs c)) ?_
  refine⟨h4,?_,y4,hc▸Gj ys (by omega) 0,rfl,rfl⟩
  rw[Ai (by omega) (by omega)];exact H1 hk
theorem XV(l:List UInt8)(hl:l.length<=200)(a:Nat)(ha:a<=l.length):
  ∃(m:Mod) (a':Nat),Tl m/\a'<=l.length/\Aa PP 19 [.ptr 0 0,db true] (dz l a) (Ad m) (dz l a'):=by
 obtain⟨r1,a1,h1,h2,h3,h4⟩:=Al l hl a ha 2 (by decide) (by decide)
 obtain⟨r2,a2,h5,h6,h7,h8⟩:=Al l hl a1 h3 2 (by decide) (by decide)
 obtain⟨S,hS,hS2⟩:∃S:List (List UInt8),(S=[[97]]∨S=[[97],[98]])/\(r1=0/\S=[[97]]∨r1=1/\S=[[97],[98]]):=by
  rcases(show r1=0∨r1=1 by omega) with h|h
  ·exact⟨_,.inl rfl,.inl ⟨h,rfl⟩⟩
  ·exact⟨_,.inr rfl,.inr ⟨h,rfl⟩⟩
 obtain⟨Pl,hP,hP2⟩:∃S:List (List UInt8),(S=[[120]]∨S=[[120],[121]])/\(r2=0/\S=[[120]]∨r2=1/\S=[[120],[121]]):=by
  rcases(show r2=0∨r2=1 by omega) with h|h
  ·exact⟨_,.inl rfl,.inl ⟨h,rfl⟩⟩
  ·exact⟨_,.inr rfl,.inr ⟨h,rfl⟩⟩
 obtain⟨m,a',m1,m2,m3⟩:=SM l hl S Pl hS hP _ 0 a2 [] rfl h7 (by omega) rfl (fun i r h=>by simp at h)
 refine⟨m,a',m1,m2,?_⟩
 refine sv S7 85 [] (.h (.dr 11)<|.c1 (cDz l a1) (di r1)<|.c1 (cDz l a2) (di r2)<|.h .rn<|.h (.q 3 0)<|.h (.cl 2 7 2 14)<|.ls [ke 0,ke 1,ke 4,ke 5,ch 6 (di Pl.length),ch 7 (di (0:Nat))] (stC l a2 S Pl [])) (Aa PP 18 [D.ptr 0 0,di 2] (dz l a) (di r1) (dz l a1)/\Aa PP 18 [D.ptr 0 0,di 2] (dz l a) (di r1) (dz l a1)/\Q (di r1)/\(∀(x:V),x∈ [V.str (ByteArray.mk #[97]).data.toList,V.str (ByteArray.mk #[98]).data.toList]->V.size x=1)/\0<=(fun x=>x.snd) (IntKind.i64,wrap IntKind.i64 (1+r1))/\(fun x=>x.snd) (IntKind.i64,wrap IntKind.i64 (1+r1))<=(↑(length [V.str (ByteArray.mk #[97]).data.toList,V.str (ByteArray.mk #[98]).data.toList]):Int)/\Aa PP 18 [D.ptr 0 0,di 2] (dz l a1) (di r2) (dz l a2)/\Aa PP 18 [D.ptr 0 0,di 2] (dz l a1) (di r2) (dz l a2)/\Q (di r2)/\(∀(x:V),x∈ [V.str (ByteArray.mk #[120]).data.toList,V.str (ByteArray.mk #[121]).data.toList]->V.size x=1)/\0<=(fun x=>x.snd) (IntKind.i64,wrap IntKind.i64 (1+r2))/\(fun x=>x.snd) (IntKind.i64,wrap IntKind.i64 (1+r2))<=(↑(length [V.str (ByteArray.mk #[120]).data.toList,V.str (ByteArray.mk #[121]).data.toList]):Int)/\Q [St.mk [some (cDz l a),some zMl,some zMl] [],St.mk [some (cDz l a1),some zMl,some zMl] [],St.mk [some (cDz l a2),some zMl,some zMl] []]/\True/\di (length (List.drop 0 (take (Int.toNat ((fun x=>x.snd) (IntKind.i64,wrap IntKind.i64 (1+r2)))) (V.str (ByteArray.mk #[120]).data.toList::V.str (ByteArray.mk #[121]).data.toList::nV))):Int)=di (Pl.length:Int)/\di 0=di (↑0:Int)/\[some (cDz l a2),some zMl,some [di 1,D.v (V.list (List.drop 0 (take (Int.toNat ((fun x=>x.snd) (IntKind.i64,wrap IntKind.i64 (1+r1)))) (V.str (ByteArray.mk #[97]).data.toList::V.str (ByteArray.mk #[98]).data.toList::nV)))),D.v (V.list (List.drop 0 (take (Int.toNat ((fun x=>x.snd) (IntKind.i64,wrap IntKind.i64 (1+r2)))) (V.str (ByteArray.mk #[120]).data.toList::V.str (ByteArray.mk #[121]).data.toList::nV)))),dn,dn,di 0,di 0,D.acc 2 nV,di 0,dn]]=[some (cDz l a2),some zM,some (cM S Pl [])]/\Q [(2,14,nV)]/\I0 S7 (length (dz l a).H) (Ad m) (dz l a') [kl FN [1,1,1,0,1,0,0],KI.blk 0,kc FN [1,1,1,1]] (mkE 85 [(0,D.ptr 0 0),(1,db true),(4,D.ptr 1 0),(5,D.ptr 2 0),(6,di (Pl.length:Int)),(7,di (↑0:Int))]) (stC l a2 S Pl [])) ?_
 refine⟨h4,h4,rfl,by simp[V.size],?_,?_,h8,h8,rfl,by simp[V.size],?_,?_,rfl,trivial,?_,rfl,?_,rfl,⟨m3⟩⟩
 ·show 0<=IntKind.i64.wrap (1+r1);rw[Ai (by omega) (by omega)];omega
 ·show IntKind.i64.wrap (1+r1)<=2;rw[Ai (by omega) (by omega)];omega
 ·show 0<=IntKind.i64.wrap (1+r2);rw[Ai (by omega) (by omega)];omega
 ·show IntKind.i64.wrap (1+r2)<=2;rw[Ai (by omega) (by omega)];omega
 ·rcases hP2 with⟨rfl,rfl⟩|⟨rfl,rfl⟩<;>rfl
 ·rcases hS2 with⟨rfl,rfl⟩|⟨rfl,rfl⟩<;>rcases hP2 with⟨rfl,rfl⟩|⟨rfl,rfl⟩<;>rfl
theorem My.short{ns np k:Nat}{r:Rul}(h:My ns np k r)(hnp:np<=2):r.short:=by
 have h1:=h.need.1
 have h2:=h.give.1
 have h3:r.move.length<=2:=by
  rcases h.move with e|e
  ·rw[e];decide
  ·rw[e.1];exact hnp
 rw[h.rest]
 exact⟨by show r.need.length<=_;omega,by show r.give.length<=_;omega,by show r.move.length<=_;omega,HW _,HW _,HW _,HW _⟩
theorem UN{rs:List Rul}(h3:rs.length<=3){ns np:Nat}(h:∀k r,rs[k]?=some r->My ns np k r):rs.map Rul.name=dl3.take rs.length:=by
 apply List.ext_getElem?
 intro i
 by_cases hi:i<rs.length
 ·have hx:rs[i]?=some rs[i]:=Hx hi
  rw[Ic,hx,List.getElem?_take_of_lt hi,(h i _ hx).name];rfl
 ·rw[Ik (by simp;omega),Ik (by simp;omega)]
theorem Tl.ok{m:Mod}(h:Tl m):m.ok:=by
 have hst:1<=m.states.length/\m.states.length<=2:=by rcases h.states with e|e<;>rw[e]<;>decide
 have hpl:1<=m.places.length/\m.places.length<=2:=by rcases h.places with e|e<;>rw[e]<;>decide
 have hb:∀{x a b:Int},a<=x->x<=b->An x a b=true:=fun h1 h2=>by simp[An,h1,h2]
 have hget:∀r∈m.rules,My m.states.length m.places.length (m.rules.idxOf r) r:=fun r hr=>by
  have hi:=List.idxOf_lt_length_of_mem hr
  exact h.rules _ r (by rw[Hx hi,List.getElem_idxOf])
 have hc:=h.count
 refine⟨.inl h.kind,?_,?_,?_,?_,?_,?_,?_⟩
 ·simp only[B3,Fo,HJ h.kind,Hy,H8,h.letters,h.levels,h.age]
  exact⟨hb (by omega) (by omega),by omega,hb (by omega) (by omega),by decide,by decide,by decide⟩
 ·rw[AN,HJ (by rw[h.kind];rfl),h.ranks];rfl
 ·have hn:=UN h.count h.rules
  rw[Cu,Dp,hn,Bz,h.letters]
  have:m.rules.length=0∨m.rules.length=1∨m.rules.length=2∨m.rules.length=3:=by omega
  rcases h.states with e|e<;>rcases h.places with e'|e'<;>rcases this with e2|e2|e2|e2<;>rw[e,e',e2]<;>decide
 ·intro r hr
  have hm:=hget r hr
  exact hm.short (by omega)
 ·intro r hr
  have hm:=hget r hr
  obtain⟨f1,f2⟩:=hm.frm
  obtain⟨t1,t2⟩:=hm.to
  obtain⟨n1,n2⟩:=hm.need
  obtain⟨g1,g2⟩:=hm.give
  have hmv:r.move=[]∨r.move.length=m.places.length/\∀t∈r.move, -1<=t/\t<m.places.length:=hm.move
  have hr:=hm.rest
  generalize r.name=nm at hr
  generalize r.frm=f at*
  generalize r.to=t at*
  generalize r.need=nd at*
  generalize r.give=gv at*
  generalize r.move=mv at*
  subst hr
  rw[Dl,HJ h.kind]
  simp only[CR,AY,B0,LM,mkV,Hy,Ii,HX,H8,HZ,true_and,H7]
  refine⟨hb (by omega) (by omega),hb (by omega) (by omega),⟨by omega,by omega,fun x hx=>hb (n2 x hx).1 (by have:=(n2 x hx).2;omega),fun x hx=>hb (g2 x hx).1 (by have:=(g2 x hx).2;omega)⟩,?_⟩
  have hmb:Cw m (mkV nm f t nd gv mv)=true:=by
   rcases hmv with e|⟨e1,e2⟩
   ·simp[Cw,mkV,e]
   ·simp only[Cw,mkV,Bool.or_eq_true,Hy,Ii,HX]
    exact .inr ⟨by omega,fun x hx=>hb (e2 x hx).1 (by have:=(e2 x hx).2;omega)⟩
  exact hmb
 ·obtain⟨ys,y1,y2,y3⟩:=h.start
  rw[y3]
  exact J3 m h.kind (by omega) 0 ⟨by omega,by omega⟩ ys y1 fun x hx=>by have:=y2 x hx;omega
 ·obtain⟨ys,y1,y2,y3⟩:=h.start
  rw[y3,Ez];omega
theorem UO{rs:List Rul}(h3:rs.length<=2){ns np:Nat}{ag:Int}(h:∀k r,rs[k]?=some r->Kq ns np ag k r):rs.map Rul.name=dl2.take rs.length:=by
 apply List.ext_getElem?
 intro i
 by_cases hi:i<rs.length
 ·have hx:rs[i]?=some rs[i]:=Hx hi
  rw[Ic,hx,List.getElem?_take_of_lt hi,(h i _ hx).name];rfl
 ·rw[Ik (by simp;omega),Ik (by simp;omega)]
structure C8(m:Mod):Prop where
 kind:m.kind=5
 states:m.states=[[97]]∨m.states=[[97],[98]]
 places:m.places=[[120]]∨m.places=[[120],[121]]
 letters:m.letters=[]
 ranks:m.ranks=[]
 levels:m.levels=0
 age:0<=m.age/\m.age<=1
 count:m.rules.length<=2
 named:Cu m=true
structure DO(m:Mod):Prop where
 n:C8 m
 rules:∀k r,m.rules[k]?=some r->Kq m.states.length m.places.length m.age k r
theorem BM.n{m:Mod}(h:BM m):C8 m:=⟨h.kind,h.states,h.places,h.letters,h.ranks,h.levels,h.age,h.count,by
 have hn:=UO h.count h.rules
 have hc:=h.count
 rw[Cu,Dp,hn,Bz,h.letters]
 have:m.rules.length=0∨m.rules.length=1∨m.rules.length=2:=by omega
 rcases h.states with e|e<;>rcases h.places with e'|e'<;>rcases this with e2|e2|e2<;>rw[e,e',e2]<;>decide+kernel⟩
theorem BM.s{m:Mod}(h:BM m):DO m:=⟨h.n,h.rules⟩
instance {m:Mod}:Coe (BM m) (C8 m):=⟨BM.n⟩
instance {m:Mod}:Coe (DO m) (C8 m):=⟨DO.n⟩
instance {m:Mod}:Coe (BM m) (DO m):=⟨BM.s⟩
theorem C8.sz{m:Mod}(h:C8 m):(1<=m.states.length/\m.states.length<=2)/\(1<=m.places.length/\m.places.length<=2):=
 ⟨by rcases h.states with e|e<;>rw[e]<;>decide,by rcases h.places with e|e<;>rw[e]<;>decide⟩
theorem BM.sz{m:Mod}(h:BM m):(1<=m.states.length/\m.states.length<=2)/\(1<=m.places.length/\m.places.length<=2):=h.n.sz
theorem DO.right{m:Mod}(h:DO m)(r:Rul)(hr:r∈m.rules):Aa PP 72 [Ad m,BN r] σ0 (db true) σ0:=by
 obtain⟨hst,hpl⟩:=h.n.sz
 have hag:=h.n.age
 have hi:=List.idxOf_lt_length_of_mem hr
 have hm:=h.rules _ r (by rw[Hx hi,List.getElem_idxOf])
 rw[hm.rest]
 refine Rg m (by omega) (by omega) h.n.kind (by omega) _ _ _ _ _ hm.frm hm.to ?_ ?_ ?_ ?_
 ·rcases hm.takes with e|⟨p,lo,hi,_,_,e⟩<;>rw[e]<;>simp
 ·rcases hm.makes with e|⟨p,_,e⟩<;>rw[e]<;>simp
 ·rcases hm.takes with e|⟨p,lo,hi,h1,h2,e⟩
  ·rw[e];simp
  ·rw[e];intro t ht;rw[HE.1 ht];exact⟨h1,h2⟩
 ·rcases hm.makes with e|⟨p,h1,e⟩
  ·rw[e];simp
  ·rw[e];intro t ht;rw[HE.1 ht];exact h1
theorem BM.right{m:Mod}(h:BM m)(r:Rul)(hr:r∈m.rules):Aa PP 72 [Ad m,BN r] σ0 (db true) σ0:=h.s.right r hr
theorem PD(m:Mod)(hm:DO m)(r:Rul)(hr:r∈m.rules):Aa PP 71 [BN r,.v (.ref (Az m))] σ0 (db false) σ0:=by
 refine sv Vp 8 [2] (.c (db true) .r) (F0 72 [Ad m,BN r] (db true)/\(db !true)=db false) ?_
 exact⟨hm.right r hr,rfl⟩
theorem C8.good{m:Mod}(h:C8 m):AS 8 (BG m)=true:=Aay m (by have:=h.sz;omega) (by have:=h.sz;omega) (by have:=h.age;omega)
theorem BM.good{m:Mod}(h:BM m):AS 8 (BG m)=true:=h.n.good
theorem BM.start_ok{m:Mod}(h:BM m):Ak (BG m) m.start=true:=by
 obtain⟨ts,h1,h2⟩:=h.start
 have:=h.sz
 rw[h2];exact Tb m 0 ⟨by omega,by omega⟩ ts h1
theorem Ov(m:Mod)(hm:DO m):Aa PP 45 [Ad m] σ0 (di (if Ak (BG m) m.start then 0 else 17)) σ0:=by
 obtain⟨hst,hpl⟩:=hm.n.sz
 have hag:=hm.n.age
 have hc:=hm.n.count
 have hb:∀{x a b:Int},a<=x->x<=b->An x a b=true:=fun h1 h2=>by simp[An,h1,h2]
 have:=GT m true true true true false (Ak (BG m) m.start) (by rw[hm.n.kind];rfl) (fun _=>?_) (fun _=>?_) (fun _=>?_) (fun _=>?_) (fun _=>W6 m _ _ (by rw[hm.n.kind];rfl) (Jj m hm.n.kind (by omega)) (G4 _ hm.n.good _))
 ·exact this
 ·have:=CQ Yk m (by rw[hm.n.kind];exact Aar)
  rwa[show B3 Yk m=true by
   simp only[B3,Hy,H8,hm.n.letters,hm.n.levels]
   exact⟨hb (by omega) (by omega),by omega,hb (by omega) (by omega),by decide,by decide,hb (by omega) (by omega)⟩] at this
 ·have:=De m (by rw[hm.n.ranks];decide)
  rwa[show AN m=true by rw[AN,HJ (by rw[hm.n.kind];rfl),hm.n.ranks];rfl] at this
 ·have:=Fm m (by simp only[Bz,IK,List.flatten_nil,HC,H7,hm.n.letters];omega)
  rwa[hm.n.named] at this
 ·have:=FE 71 [] [.ref (Az m)] (fun _=>false) m.rules (by omega) (fun r hr=>PD m hm r hr)
  rw[show m.rules.any (fun _=>false)=false by simp] at this
  exact this
theorem Mn(m:Mod)(hm:BM m):Aa PP 45 [Ad m] σ0 (di 0) σ0:=by
 have:=Ov m hm
 rwa[hm.start_ok,HJ rfl] at this
theorem LN(m:Mod)(hm:BM m)(v:Val):Aa PP 47 [Ad m,dV v] σ0 (db (Ak (BG m) v)) σ0:=by
 refine sv Zz 14 [2,3] (.c (di 0)<|.c (dT (BG m))<|.c (db (Ak (BG m) v)) .r) (F0 45 [Ad m] (di 0)/\F0 76 [Ad m] (dT (BG m))/\F0 75 [D.v (vT (BG m)),dV v] (db (Ak (BG m) v))/\Q (db (Ak (BG m) v))) ?_
 exact⟨Mn m hm,Jj m hm.kind (by have:=hm.age;omega),G4 _ hm.good v,rfl⟩
theorem Pq(m:Mod)(hm:BM m)(v:Val)(_:v.size<=1000000):Aa PP 47 [Ad m,dV v] σ0 (db (Ak (BG m) v)) σ0:=LN m hm v
theorem PX(m:Mod)(hm:BM m):Aa PP 27 [Ad m] σ0 (di 0) σ0:=by
 refine sv Aab 12 [1] (.c (di 0)<|.k<|.f .r) (F0 45 [Ad m] (di 0)/\(m.kind==6)=false/\Q (di 0)) ?_
 exact⟨Mn m hm,by rw[hm.kind];rfl,rfl⟩
theorem BM.int{m:Mod}(h:BM m):Cx m (BG m):=⟨PX m h,N9 m (by have:=h.count;omega),fun v hv=>Pq m h v hv,by have:=h.sz;omega⟩
inductive DR (m:Mod):Prop where
 |cM (h:Tl m)
 |l2 (h:PM 2 m)
 |l3 (h:PM 3 m)
 |tm (h:BM m)
 |c (h:Tm m)
theorem DR.small{m:Mod}(h:DR m):(1<=m.states.length/\m.states.length<=3)/\(m.places=[[120]]∨m.places=[[120],[121]])/\m.letters.length<=2/\m.age<=3:=by
 have two:∀S:List (List UInt8),(S=[[97]]∨S=[[97],[98]])->1<=S.length/\S.length<=3:=fun S e=>by rcases e with e|e<;>rw[e]<;>decide
 cases h with
 |cM h=>exact⟨two _ h.states,h.places,by rw[h.letters];decide,by rw[h.age];decide⟩
 |c h=>exact⟨two _ h.states,h.places,by rw[h.letters];decide,by rw[h.age];decide⟩
 |tm h=>exact⟨two _ h.states,h.places,by rw[h.letters];decide,by have:=h.age;omega⟩
 |l2 h=>exact⟨by obtain⟨n,h1,h2,e⟩:=h.states;rw[e,HS];simp only[H3,H7];omega,h.places,by rcases h.letters with e|e<;>rw[e]<;>decide,by rw[h.age];decide⟩
 |l3 h=>exact⟨by obtain⟨n,h1,h2,e⟩:=h.states;rw[e,HS];simp only[H3,H7];omega,h.places,by rcases h.letters with e|e<;>rw[e]<;>decide,by rw[h.age];decide⟩
noncomputable abbrev ZE:Func:= Tryz.f6
theorem WA(l:List UInt8)(hl:l.length<=200)(a:Nat)(ha:a<=l.length):
  ∃(m:Mod) (a':Nat),DR m/\a'<=l.length/\Aa PP 6 [.ptr 0 0] (dz l a) (Ad m) (dz l a'):=by
 obtain⟨r,a1,p1,p2,p3,p4⟩:=Al l hl a ha 5 (by decide) (by decide)
 rcases(show r=0∨r=1∨r=2∨r=3∨r=4 by omega) with rfl|rfl|rfl|rfl|rfl
 ·obtain⟨m,a2,h1,h2,h3⟩:=XV l hl a1 p3
  refine⟨m,a2,.cM h1,h2,?_⟩
  refine sv ZE 23 [] (.c1 (cDz l a1) (di 0)<|.c1 (cDz l a2) (Ad m) .r) (Aa PP 18 [D.ptr 0 0,di 5] (dz l a) (di 0) (dz l a1)/\Aa PP 19 [D.ptr 0 0,db true] (dz l a1) (Ad m) (dz l a2)/\Q [some (cDz l a2)]/\D.v (V.agg [vi m.kind,V.list (map V.str m.states),V.list (map V.str m.places),V.list (map V.str m.letters),V.list (map vi m.ranks),vi m.levels,vi m.age,V.list (map Ah m.rules),vi m.start.n,V.list (map eV m.start.kids)])=Ad m) ?_
  trivial
 ·obtain⟨m,a2,h1,h2,h3⟩:=W2 l hl a1 p3 2 (.inl rfl)
  refine⟨m,a2,.l2 h1,h2,?_⟩
  refine sv ZE 23 [] (.c1 (cDz l a1) (di 1)<|.c1 (cDz l a2) (Ad m) .r) (Aa PP 18 [D.ptr 0 0,di 5] (dz l a) (di 1) (dz l a1)/\Aa PP 20 [D.ptr 0 0,di 2] (dz l a1) (Ad m) (dz l a2)/\Q [some (cDz l a2)]/\D.v (V.agg [vi m.kind,V.list (map V.str m.states),V.list (map V.str m.places),V.list (map V.str m.letters),V.list (map vi m.ranks),vi m.levels,vi m.age,V.list (map Ah m.rules),vi m.start.n,V.list (map eV m.start.kids)])=Ad m) ?_
  trivial
 ·obtain⟨m,a2,h1,h2,h3⟩:=W2 l hl a1 p3 3 (.inr rfl)
  refine⟨m,a2,.l3 h1,h2,?_⟩
  refine sv ZE 23 [] (.c1 (cDz l a1) (di 2)<|.c1 (cDz l a2) (Ad m) .r) (Aa PP 18 [D.ptr 0 0,di 5] (dz l a) (di 2) (dz l a1)/\Aa PP 20 [D.ptr 0 0,di 3] (dz l a1) (Ad m) (dz l a2)/\Q [some (cDz l a2)]/\D.v (V.agg [vi m.kind,V.list (map V.str m.states),V.list (map V.str m.places),V.list (map V.str m.letters),V.list (map vi m.ranks),vi m.levels,vi m.age,V.list (map Ah m.rules),vi m.start.n,V.list (map eV m.start.kids)])=Ad m) ?_
  trivial
 ·obtain⟨m,a2,h1,h2,h3⟩:=YD l hl a1 p3
  refine⟨m,a2,.tm h1,h2,?_⟩
  refine sv ZE 23 [] (.c1 (cDz l a1) (di 3)<|.c1 (cDz l a2) (Ad m) .r) (Aa PP 18 [D.ptr 0 0,di 5] (dz l a) (di 3) (dz l a1)/\Aa PP 21 [D.ptr 0 0] (dz l a1) (Ad m) (dz l a2)/\Q [some (cDz l a2)]/\D.v (V.agg [vi m.kind,V.list (map V.str m.states),V.list (map V.str m.places),V.list (map V.str m.letters),V.list (map vi m.ranks),vi m.levels,vi m.age,V.list (map Ah m.rules),vi m.start.n,V.list (map eV m.start.kids)])=Ad m) ?_
  trivial
 ·obtain⟨m,a2,h1,h2,h3⟩:=ZM l hl a1 p3
  refine⟨m,a2,.c h1,h2,?_⟩
  refine sv ZE 23 [] (.c1 (cDz l a1) (di 4)<|.c1 (cDz l a2) (Ad m) .r) (Aa PP 18 [D.ptr 0 0,di 5] (dz l a) (di 4) (dz l a1)/\Aa PP 19 [D.ptr 0 0,db false] (dz l a1) (Ad m) (dz l a2)/\Q [some (cDz l a2)]/\D.v (V.agg [vi m.kind,V.list (map V.str m.states),V.list (map V.str m.places),V.list (map V.str m.letters),V.list (map vi m.ranks),vi m.levels,vi m.age,V.list (map Ah m.rules),vi m.start.n,V.list (map eV m.start.kids)])=Ad m) ?_
  trivial
def rB:Rul:=⟨[114], -1,0,[0],[1],[],0,0,0,[],[],[],[], -1⟩
def mB:Mod:=⟨6,[[97]],[[120]],[],[],0,0,[rB],.mk 0 []⟩
noncomputable abbrev AbE:Func:= Tryz.f22
theorem V8:Aa PP 22 [] σ0 (Ad mB) σ0:=by
 refine sv AbE 8 [] .r (D.v (V.agg [vi 6,V.list [V.str (ByteArray.mk #[97]).data.toList],V.list [V.str (ByteArray.mk #[120]).data.toList],V.list [],V.list [],vi 0,vi 0,V.list [V.agg [V.str (ByteArray.mk #[114]).data.toList,vi (-1),vi 0,V.list [vi 0],V.list [vi 1],V.list [],vi 0,vi 0,vi 0,V.list [],V.list [],V.list [],V.list [],vi (-1)]],vi 0,V.list []])=Ad mB) ?_
 trivial
theorem Ss(a b:Val):Aq a b<=0↔¬Aq b a<0:=by
 have:=Ey.swap b a trivial trivial
 omega
theorem Sr{a b c:Val}(h1:Aq a b<=0)(h2:Aq b c<=0):Aq a c<=0:=by
 by_cases e1:Aq a b=0
 ·rw[FJ.1 e1];exact h2
 ·by_cases e2:Aq b c=0
  ·rw[←FJ.1 e2];exact h1
  ·have:=Ey.trans a b c trivial trivial trivial (by omega) (by omega)
   omega
theorem N7(l:List Val):∀k:Nat,k<l.length->(PO l k=true↔∀i,i<k->Aq (l.getD i default) (l.getD (i+1) default)<=0)
 |0,_=>⟨fun _ i h=>absurd h (Nat.not_lt_zero i),fun _=>rfl⟩
 |k+1,hk=>by
  have ih:=N7 l k (by omega)
  rw[PO]
  split
  ·rename_i h
   refine⟨fun h=>by simp at h,fun h2=>?_⟩
   have:=(Ss _ _).1 (h2 k (by omega))
   exact absurd h this
  ·rename_i h
   rw[ih]
   refine⟨fun h2 i hi=>?_,fun h2 i hi=>h2 i (by omega)⟩
   by_cases e:i=k
   ·subst e;exact(Ss _ _).2 h
   ·exact h2 i (by omega)
theorem Hs:∀(l:List Val),(∀i,i+1<l.length->Aq (l.getD i default) (l.getD (i+1) default)<=0)->l.Pairwise fun a b=>Aq a b<=0
 |[],_=>.nil
 |[_],_=>List.pairwise_singleton _ _
 |x::y::l,h=>by
  have ih:=Hs (y::l) fun i hi=>h (i+1) (by simp at hi⊢;omega)
  have h0:Aq x y<=0:=h 0 (by simp)
  refine List.pairwise_cons.2 ⟨fun z hz=>?_,ih⟩
  rcases Ib.1 hz with rfl|hz
  ·exact h0
  ·exact Sr h0 ((List.pairwise_cons.1 ih).1 z hz)
theorem TU(l:List Val):PQ l=true↔l.Pairwise fun a b=>Aq a b<=0:=by
 unfold PQ
 cases l with
 |nil=>exact⟨fun _=>.nil,fun _=>rfl⟩
 |cons x l=>
  rw[N7 _ _ (by simp)]
  constructor
  ·exact fun h=>Hs _ fun i hi=>h i (by simp at hi⊢;omega)
  ·intro h i hi
   have hi:i<l.length:=by simpa using hi
   have h1:i<(x::l).length:=by simp;omega
   have h2:i+1<(x::l).length:=by simp;omega
   have:=List.pairwise_iff_getElem.1 h i (i+1) h1 h2 (by omega)
   rw[H6,H6,Hx h1,Hx h2]
   exact this
theorem Wi(m:Mod)(hm:C8 m):Aa PP 49 [Ad m] σ0 (db true) σ0:=by
 have h1:∀a b x,An x a b=true->Aa PP 48 [di x,di a,di b] σ0 (db true) σ0:=fun a b x h=>h▸A6 x a b
 have hb:∀{x a b:Int},a<=x->x<=b->An x a b=true:=fun h1 h2=>by simp[An,h1,h2]
 obtain⟨hst,hpl⟩:=hm.sz
 have hag:=hm.age
 have hc:=hm.count
 have hle:=hm.letters
 have hlv:=hm.levels
 have hk:=hm.kind
 clear hm
 obtain⟨kind,states,places,letters,ranks,levels,age,rules,start⟩:=m
 dsimp only at*
 subst hk
 subst hle
 subst hlv
 refine sv Ej 81 [1] (.c (db true)<|.c (db true)<|.k<|.f<|.c (db true)<|.c (db true)<|.c (db true) .r) (F0 48 [di (length (map V.str (Mod.mk 5 states places [] ranks 0 age rules start).states):Int),di 1,di 8] (db true)/\F0 48 [di (length (map V.str (Mod.mk 5 states places [] ranks 0 age rules start).places):Int),di 1,di 6] (db true)/\decide ((length (map Ah (Mod.mk 5 states places [] ranks 0 age rules start).rules):Int)>12)=false/\F0 48 [di (length (map V.str (Mod.mk 5 states places [] ranks 0 age rules start).letters):Int),di 0,di 0] (db true)/\F0 48 [di (Mod.mk 5 states places [] ranks 0 age rules start).levels,di 0,di 0] (db true)/\F0 48 [di (Mod.mk 5 states places [] ranks 0 age rules start).age,di 0,di 3] (db true)/\Q (db true)) ?_
 have b1:An (states.length:Int) 1 8=true:=hb (by omega) (by omega)
 have b2:An (places.length:Int) 1 6=true:=hb (by omega) (by omega)
 have b3:decide ((rules.length:Int)>12)=false:=H1 (by omega)
 have b4:An age 0 3=true:=hb (by omega) (by omega)
 exact⟨by rw[Hw];exact h1 _ _ _ b1,by rw[Hw];exact h1 _ _ _ b2,by rw[Hw];exact b3,h1 _ _ _ rfl,h1 _ _ _ rfl,h1 _ _ _ b4,rfl⟩
theorem VV(m:Mod)(hm:C8 m):Aa PP 50 [Ad m] σ0 (db true) σ0:=by
 refine sv Ft 32 [1] (.t .r) ((m.kind !=3)=true/\db ((length (map vi m.ranks):Int)==0)=db true) ?_
 exact⟨by rw[hm.kind];rfl,by rw[hm.ranks];rfl⟩
theorem Wm(m:Mod)(hm:C8 m):Aa PP 51 [Ad m] σ0 (db true) σ0:=by
 obtain⟨hst,hpl⟩:=hm.sz
 have hc:=hm.count
 exact KE m (by simp only[Dp,Bz,IK,List.flatten_nil,HC,Hw,H7,hm.letters];omega) (by omega) hm.named
noncomputable abbrev ZA:Func:= Tryz.f80
theorem Vk(l:List Int)(hl:l.length<=3)(b:Int)(h:∀x∈l,0<=x/\x<=b):Aa PP 80 [dIs l,di 3,di b] σ0 (db true) σ0:=by
 have:=C5 l (by omega) l.length 0 b rfl (fun x hx=>by simp[An,h x hx])
 refine sv ZA 18 [] (.t<|.c (db true) .r) (decide ((length (map vi l):Int)<=3)=true/\F0 79 [dIs l,di (length (map vi l):Int),di 0,di b] (db true)/\Q (db true)) ?_
 exact⟨Hz (by rw[Hw];omega),by rw[Hw];exact this,rfl⟩
noncomputable abbrev Wt:Func:= Tryz.f81
theorem TM(m:Mod)(hp:1<=m.places.length/\m.places.length<=1000)(ha:0<=m.age/\m.age<=1000)(r:Rul)(h1:r.takes=[]∨∃p lo hi:Int,(0<=p/\p<m.places.length)/\(0<=lo/\lo<=hi/\hi<=m.age+1)/\r.takes=[⟨p,lo,hi⟩])(h2:r.makes=[]∨∃p:Int,(0<=p/\p<m.places.length)/\r.makes=[p]):Aa PP 81 [Ad m,BN r] σ0 (db true) σ0:=by
 have hw:IntKind.i64.wrap (((m.places.map V.str).length:Int)-1)=(m.places.length:Int)-1:=Cg _ _ (by omega)
 have hwa:IntKind.i64.wrap (m.age+1)=m.age+1:=Ai (by omega) (by omega)
 have hm1:r.makes.length<=1:=by rcases h2 with e|⟨_,_,e⟩<;>rw[e]<;>simp
 have hfew:=Vk r.makes (by omega) ((m.places.length:Int)-1) (fun x hx=>by
  rcases h2 with e|⟨p,hp,e⟩
  ·rw[e] at hx;simp at hx
  ·rw[e] at hx;rw[HE.1 hx];omega)
 have hml:¬(1:Int)<((r.makes.map vi).length:Int):=by rw[Hw];omega
 rcases h1 with e|⟨p,lo,hi,⟨p1,p2⟩,⟨l1,l2,l3⟩,e⟩
 ·refine sv Wt 81 [2,3] (.f<|.c (db true)<|.k<|.n<|.f<|.n<|.f .r) (decide ((length (map vTk r.takes):Int)>3)=false/\F0 80 [dIs r.makes,di 3,di (wrap IntKind.i64 ((length (map V.str m.places):Int)-1))] (db true)/\decide (0<(length (map vTk r.takes):Int))=false/\decide (1<(length (map vi r.makes):Int))=false/\Q (db true)) ?_
  rw[hw]
  exact⟨by rw[e];rfl,hfew,by rw[e];rfl,H1 hml,rfl⟩
 ·have hbt:Aa PP 48 [di p,di 0,di ((m.places.length:Int)-1)] σ0 (db true) σ0:=by
   have:=A6 p 0 ((m.places.length:Int)-1)
   rwa[show An p 0 ((m.places.length:Int)-1)=true by simp[An];omega] at this
  refine sv Wt 81 [2,3] (.f<|.c (db true)<|.k<|.n<|.t<|.x (vTk ⟨p,lo,hi⟩)<|.c (db true)<|.k<|.f<|.f<|.f<|.n<|.f<|.n<|.f .r) (decide ((length (map vTk r.takes):Int)>3)=false/\F0 80 [dIs r.makes,di 3,di (wrap IntKind.i64 ((length (map V.str m.places):Int)-1))] (db true)/\decide (0<(length (map vTk r.takes):Int))=true/\iz 0<=0/\(map vTk r.takes)[Int.toNat 0]?=some (vTk (Tk.mk p lo hi))/\F0 48 [di (Tk.mk p lo hi).place,di 0,di (wrap IntKind.i64 ((length (map V.str m.places):Int)-1))] (db true)/\decide ((Tk.mk p lo hi).low<0)=false/\decide ((Tk.mk p lo hi).low>(Tk.mk p lo hi).high)=false/\decide ((Tk.mk p lo hi).high>wrap IntKind.i64 (m.age+1))=false/\decide (wrap IntKind.i64 (0+1)<(length (map vTk r.takes):Int))=false/\decide (1<(length (map vi r.makes):Int))=false/\Q (db true)) ?_
  rw[hw,hwa]
  exact⟨by rw[e];rfl,hfew,by rw[e];rfl,HP _,by rw[e];rfl,hbt,H1 (by show ¬lo<0;omega),H1 (by show ¬lo>hi;omega),H1 (by show ¬hi>m.age+1;omega),by rw[e];rfl,H1 hml,rfl⟩
theorem Aak(m:Mod)(hm:DO m)(r:Rul)(hr:r∈m.rules):Aa PP 52 [Ad m,BN r] σ0 (db true) σ0:=by
 have h1:∀a b x,An x a b=true->Aa PP 48 [di x,di a,di b] σ0 (db true) σ0:=fun a b x h=>h▸A6 x a b
 have hb:∀{x a b:Int},a<=x->x<=b->An x a b=true:=fun h1 h2=>by simp[An,h1,h2]
 obtain⟨i,hi⟩:=List.getElem?_of_mem hr
 have hR:=hm.rules i r hi
 obtain⟨hst,hpl⟩:=hm.n.sz
 have ht:=TM m (by omega) (by have:=hm.n.age;omega) r hR.takes hR.makes
 have hf:=hR.frm
 have hto:=hR.to
 have hw:IntKind.i64.wrap (((m.states.map V.str).length:Int)-1)=(m.states.length:Int)-1:=Cg _ _ (by omega)
 have hre:=hR.rest
 have hk:=hm.n.kind
 clear hm hr hi hR
 generalize r.name=nm at*
 generalize r.frm=f at*
 generalize r.to=t at*
 generalize r.takes=tk at*
 generalize r.makes=mk at*
 subst hre
 obtain⟨kind,states,places,letters,ranks,levels,age,rules,start⟩:=m
 dsimp only at*
 subst hk
 refine sv Nk 234 [2,3] (.c (db true)<|.c (db true)<|.c (db true) .r) (F0 48 [di (mkT nm f t tk mk).frm,di 0,di (wrap IntKind.i64 ((length (map V.str (Mod.mk 5 states places letters ranks levels age rules start).states):Int)-1))] (db true)/\F0 48 [di (mkT nm f t tk mk).to,di 0,di (wrap IntKind.i64 ((length (map V.str (Mod.mk 5 states places letters ranks levels age rules start).states):Int)-1))] (db true)/\F0 81 [D.v (Az (Mod.mk 5 states places letters ranks levels age rules start)),D.v (Ah (mkT nm f t tk mk))] (db true)/\db ((mkT nm f t tk mk).second==0)=db true) ?_
 rw[hw]
 have b1:An f 0 ((states.length:Int)-1)=true:=hb hf.1 (by omega)
 have b2:An t 0 ((states.length:Int)-1)=true:=hb hto.1 (by omega)
 exact⟨h1 _ _ _ b1,h1 _ _ _ b2,ht,rfl⟩
theorem YA(m:Mod)(hk:m.kind=5)(hag:0<=m.age/\m.age<=1000):Aa PP 54 [Ad m] σ0 (dT (BG m)) σ0:=by
 obtain⟨kind,states,places,letters,ranks,levels,age,rules,start⟩:=m
 dsimp only at*
 subst hk
 refine sv Tq 96 [1] (.a 1<|.h .g .r) (Q (V.agg (vi 2::vi (length (map V.str (Mod.mk 5 states places letters ranks levels age rules start).states):Int)::V.list nV::V.list nV::nV)::nV)/\Ax 2 64/\D.v (V.agg [vi 3,vi 0,V.list [],V.list [V.agg [vi 2,vi (length (map V.str (Mod.mk 5 states places letters ranks levels age rules start).states):Int),V.list [],V.list []],V.agg [vi 5,vi 0,V.list [],V.list [V.agg [vi 3,vi 0,V.list [],V.list [V.agg [vi 2,vi (length (map V.str (Mod.mk 5 states places letters ranks levels age rules start).places):Int),V.list [],V.list []],V.agg [vi 2,vi (wrap IntKind.i64 ((Mod.mk 5 states places letters ranks levels age rules start).age+2)),V.list [],V.list []]]]]]]])=dT (BG (Mod.mk 5 states places letters ranks levels age rules start))) ?_
 refine⟨rfl,⟨by decide,by decide⟩,?_⟩
 show D.v (V.agg [vi 3,vi 0,V.list [],V.list [V.agg [vi 2,vi ((states.map V.str).length:Int),V.list [],V.list []],V.agg [vi 5,vi 0,V.list [],V.list [V.agg [vi 3,vi 0,V.list [],V.list [V.agg [vi 2,vi ((places.map V.str).length:Int),V.list [],V.list []],V.agg [vi 2,vi (wrap IntKind.i64 (age+2)),V.list [],V.list []]]]]]]])=_
 rw[Hw,Hw,Ai (n:=age+2) (by omega) (by omega)]
 show _=D.v (vT (.prod [.lab states.length,.bag (.prod [.lab places.length,.lab (age+2)])]))
 rfl
theorem T3(d:Nat)(t:Typ)(hd:d<=100)(h:Aa PP 118 [dT t,di d] σ0 (db true) σ0):Aa PP 118 [dT (.bag t),di ((d+1:Nat):Int)] σ0 (db true) σ0:=by
 rw[dT,Nt]
 refine sv FR 132 [2] (.f<|.x (vT t)<|.c (db true) .r) (((↑(d+1):Int)==0)=false/\iz 0<=0/\Q (some (vT t))/\F0 118 [D.v (vT t),di (wrap IntKind.i64 ((↑(d+1):Int)-1))] (db true)/\Q (db true)) ?_
 have hz:(((d+1:Nat):Int)==0)=false:=Ia.2 (by omega)
 rw[show IntKind.i64.wrap (((d+1:Nat):Int)-1)=d by rw[Ai (by omega) (by omega)];omega]
 exact⟨hz,by decide,rfl,h,rfl⟩
theorem PZ(m:Mod)(hm:C8 m):Aa PP 118 [dT (BG m),di 8] σ0 (db true) σ0:=by
 obtain⟨hst,hpl⟩:=hm.sz
 have hag:=hm.age
 refine Hh 7 _ (by decide) rfl rfl fun t ht=>?_
 simp only[Ib,IM,or_false] at ht
 rcases ht with rfl|rfl
 ·exact EU 6 _ (by omega) (by omega)
 ·refine T3 6 _ (by decide) (Hh 5 _ (by decide) rfl rfl fun t ht=>?_)
  simp only[Ib,IM,or_false] at ht
  rcases ht with rfl|rfl
  ·exact EU 4 _ (by omega) (by omega)
  ·exact EU 4 _ (by omega) (by omega)
theorem ZO(m:Mod)(hm:C8 m):Aa PP 83 [dT (BG m)] σ0 (di 0) σ0:=by
 refine sv Wz 6 [1] (.c (db true) .r) (F0 118 [D.v (vT (BG m)),di 8] (db true)/\Q (di 0)) ?_
 exact⟨PZ m hm,rfl⟩
def W7(t:Typ)(l:List Val):Nat->Nat->Bool
 |0,_=>true
 |n+1,k=>(Ao t (l.getD k default)&& !(decide (k>0)&&decide (Aq (l.getD (k-1) default) (l.getD k default)>0)))&&W7 t l n (k+1)
theorem Po(t:Typ)(v:Val)(hv:v.kids.length<=12)(hz:v.size<=1000000)(h:∀k∈v.kids,Aa PP 84 [dT t,dV k] σ0 (db (Ao t k)) σ0)(n:Nat):∀k:Nat,v.kids.length-k=n->
  Rn PP CC 0 (db (W7 t v.kids n k)) σ0 ([.lp (sub BL [1,1,1,0,1,0,0]),.blk 3,.code (sub BL [1,1,1,1])]++[]) (mkE 169 [(2,.v (.ref (vTy 5 0 [] [vT t]))),(3,.v (.ref (Ag v))),(6,di k)]) σ0:=by
 induction n with
 |zero=>
  intro k hn
  refine lv 169 [2,3] (.f .r) (decide ((k:Int)<(length (map eV v.kids):Int))=false/\db true=db (W7 t v.kids 0 k)) ?_
  exact⟨H1 (by rw[Hw];omega),rfl⟩
 |succ n ih=>
  intro k hn
  obtain⟨x,hx⟩:∃r,v.kids[k]?=some r:=⟨_,Hx (by omega)⟩
  have hlt:decide ((k:Int)<((v.kids.map eV).length:Int))=true:=Hz (by rw[Hw];omega)
  have hxd:v.kids.getD k default=x:=by rw[H6,hx];rfl
  have ho:=h x (H4 hx)
  rw[W7,hxd]
  have hih:=ih (k+1) (by omega)
  generalize W7 t v.kids n (k+1)=b at*
  cases hb:Ao t x with
  |false=>
   rw[hb] at ho
   refine lv 169 [2,3] (.t<|.x (vT t)<|.x (Ag x)<|.c (db false)<|.k<|.k .r) (decide ((k:Int)<(length (map eV v.kids):Int))=true/\iz 0<=0/\Q (some (vT t))/\0<=(k:Int)/\(map eV v.kids)[Int.toNat (k:Int)]?=some (Ag x)/\F0 84 [D.v (vT t),dV x] (db false)/\db false=db (false&& !(decide (k>0)&&decide (Aq (List.getD v.kids (k-1) default) x>0))&&b)) ?_
   exact⟨hlt,by decide,rfl,by omega,AB hx,ho,by rw[HT,HT]⟩
  |true=>
   rw[hb] at ho
   cases k with
   |zero=>
    refine lv 169 [2,3] (.t<|.x (vT t)<|.x (Ag x)<|.c (db true)<|.k<|.k<|.k<|.l [ke 2,ke 3,ch 6 (di ((0:Nat)+1:Nat))]) (decide ((↑0:Int)<(length (map eV v.kids):Int))=true/\iz 0<=0/\Q (some (vT t))/\0<=(↑0:Int)/\(map eV v.kids)[Int.toNat (↑0:Int)]?=some (Ag x)/\F0 84 [D.v (vT t),dV x] (db true)/\di (wrap IntKind.i64 ((↑0:Int)+1))=di (↑(0+1):Int)/\I0 CC 0 (db (true&& !(decide (0>0)&&decide (Aq (List.getD v.kids (0-1) default) x>0))&&b)) σ0 [kl BL [1,1,1,0,1,0,0],KI.blk 3,kc BL [1,1,1,1]] (mkE 169 [(2,D.v (V.ref (vTy 5 0 [] [vT t]))),(3,D.v (V.ref (Ag v))),(6,di (↑(0+1):Int))]) (St.mk [] [])) ?_
    exact⟨hlt,by decide,rfl,by omega,AB hx,ho,rfl,⟨by simpa using hih⟩⟩
   |succ k=>
    obtain⟨y,hy⟩:∃r,v.kids[k]?=some r:=⟨_,Hx (by omega)⟩
    have hyd:v.kids.getD k default=y:=by rw[H6,hy];rfl
    rw[show k+1-1=k by omega,hyd]
    have hyz:=Val.size_mem (H4 hy)
    have hvz:=Val.size_eq v
    have hcm:=EG _ y x (H5 _) (by omega)
    have hw1:wrap IntKind.i64 (((k+1:Nat):Int)-1)=(k:Int):=by rw[Ai (by omega) (by omega)];omega
    have hg:decide (((k+1:Nat):Int)>0)=true:=Hz (by omega)
    by_cases hc:Aq y x>0
    ·refine lv 169 [2,3] (.t<|.x (vT t)<|.x (Ag x)<|.c (db true)<|.k<|.k<|.t<|.x (Ag y)<|.x (Ag x)<|.c (di (Aq y x))<|.t .r) (decide ((↑(k+1):Int)<(length (map eV v.kids):Int))=true/\iz 0<=0/\Q (some (vT t))/\0<=(↑(k+1):Int)/\(map eV v.kids)[Int.toNat (↑(k+1):Int)]?=some (Ag x)/\F0 84 [D.v (vT t),dV x] (db true)/\decide ((↑(k+1):Int)>0)=true/\0<=wrap IntKind.i64 ((↑(k+1):Int)-1)/\(map eV v.kids)[Int.toNat (wrap IntKind.i64 ((↑(k+1):Int)-1))]?=some (Ag y)/\0<=(↑(k+1):Int)/\(map eV v.kids)[Int.toNat (↑(k+1):Int)]?=some (Ag x)/\F0 56 [dV y,dV x] (di (Aq y x))/\decide (Aq y x>0)=true/\db false=db (true&& !(decide (k+1>0)&&decide (Aq y x>0))&&b)) ?_
     rw[hw1]
     exact⟨hlt,by decide,rfl,by omega,AB hx,ho,hg,by omega,AB hy,by omega,AB hx,hcm,Hz hc,by rw[Hz hc];simp⟩
    ·refine lv 169 [2,3] (.t<|.x (vT t)<|.x (Ag x)<|.c (db true)<|.k<|.k<|.t<|.x (Ag y)<|.x (Ag x)<|.c (di (Aq y x))<|.f<|.l [ke 2,ke 3,ch 6 (di (k+1+1:Nat))]) (decide ((↑(k+1):Int)<(length (map eV v.kids):Int))=true/\iz 0<=0/\Q (some (vT t))/\0<=(↑(k+1):Int)/\(map eV v.kids)[Int.toNat (↑(k+1):Int)]?=some (Ag x)/\F0 84 [D.v (vT t),dV x] (db true)/\decide ((↑(k+1):Int)>0)=true/\0<=wrap IntKind.i64 ((↑(k+1):Int)-1)/\(map eV v.kids)[Int.toNat (wrap IntKind.i64 ((↑(k+1):Int)-1))]?=some (Ag y)/\0<=(↑(k+1):Int)/\(map eV v.kids)[Int.toNat (↑(k+1):Int)]?=some (Ag x)/\F0 56 [dV y,dV x] (di (Aq y x))/\decide (Aq y x>0)=false/\di (wrap IntKind.i64 ((↑(k+1):Int)+1))=di (↑(k+1+1):Int)/\I0 CC 0 (db (true&& !(decide (k+1>0)&&decide (Aq y x>0))&&b)) σ0 [kl BL [1,1,1,0,1,0,0],KI.blk 3,kc BL [1,1,1,1]] (mkE 169 [(2,D.v (V.ref (vTy 5 0 [] [vT t]))),(3,D.v (V.ref (Ag v))),(6,di (↑(k+1+1):Int))]) (St.mk [] [])) ?_
     rw[hw1]
     exact⟨hlt,by decide,rfl,by omega,AB hx,ho,hg,by omega,AB hy,by omega,AB hx,hcm,H1 hc,Ae (by omega),⟨by rw[H1 hc];simpa using hih⟩⟩
theorem VB(t:Typ)(l:List Val)(n:Nat):∀k:Nat,l.length-k=n->k<=l.length->(W7 t l n k=true↔(∀i,k<=i->i<l.length->Ao t (l.getD i default)=true)/\∀i,k<=i->0<i->i<l.length->Aq (l.getD (i-1) default) (l.getD i default)<=0):=by
 induction n with
 |zero=>
  intro k hn hk
  exact⟨fun _=>⟨fun i h1 h2=>by omega,fun i h1 _ h2=>by omega⟩,fun _=>rfl⟩
 |succ n ih=>
  intro k hn hk
  rw[W7,Hy,Hy,ih (k+1) (by omega) (by omega)]
  simp only[Io,Bool.and_eq_false_iff,IF]
  constructor
  ·rintro ⟨⟨h1,h2⟩,h3,h4⟩
   refine⟨fun i hi1 hi2=>?_,fun i hi1 h0 hi2=>?_⟩
   ·by_cases e:i=k
    ·rw[e];exact h1
    ·exact h3 i (by omega) hi2
   ·by_cases e:i=k
    ·subst e;rcases h2 with h2|h2<;>omega
    ·exact h4 i (by omega) h0 hi2
  ·rintro ⟨h1,h2⟩
   refine⟨⟨h1 k (H5 _) (by omega),?_⟩,fun i hi1 hi2=>h1 i (by omega) hi2,fun i hi1 h0 hi2=>h2 i (by omega) h0 hi2⟩
   by_cases h0:k>0
   ·right;have:=h2 k (H5 _) h0 (by omega);omega
   ·left;exact h0
theorem Yc(t:Typ)(l:List Val):W7 t l l.length 0=(l.all (fun k=>Ao t k)&&PQ l):=by
 rw[Bool.eq_iff_iff,VB t l l.length 0 (Nat.sub_zero _) (HW _),Hy,Ii,TU]
 constructor
 ·rintro ⟨h1,h2⟩
  refine⟨fun x hx=>?_,Hs l fun i hi=>?_⟩
  ·obtain⟨i,hi⟩:=List.getElem?_of_mem hx
   have:=h1 i (HW _) (H0.1 hi).1
   rwa[H6,hi] at this
  ·have:=h2 (i+1) (HW _) (by omega) hi
   rwa[show i+1-1=i by omega] at this
 ·rintro ⟨h1,h2⟩
  refine⟨fun i _ hi=>?_,fun i _ h0 hi=>?_⟩
  ·rw[H6,Hx hi]
   exact h1 _ (List.getElem_mem hi)
  ·have:=List.pairwise_iff_getElem.1 h2 (i-1) i (by omega) hi (by omega)
   rw[H6,H6,Hx hi,Hx (show i-1<l.length by omega)]
   exact this
theorem UJ(t:Typ)(v:Val)(hz:v.size<=1000000)(h:∀k∈v.kids,Aa PP 84 [dT t,dV k] σ0 (db (Ao t k)) σ0):Aa PP 84 [dT (.bag t),dV v] σ0 (db (Ao (.bag t) v)) σ0:=by
 rw[dT,Nt]
 refine sv CC 169 [2,3] (.k<|.k<|.k<|.k<|.b .r (.b .r (.l [ke 2,ke 3,ch 6 (di (0:Nat))]))) (((v.n !=0)=true->db false=db (Ao (Typ.bag t) v))/\((v.n !=0)=false->(decide ((length (map eV v.kids):Int)>12)=true->db false=db (Ao (Typ.bag t) v))/\(decide ((length (map eV v.kids):Int)>12)=false->di 0=di (↑0:Int)/\I0 CC σ0.H.length (db (Ao (Typ.bag t) v)) σ0 [kl BL [1,1,1,0,1,0,0],KI.blk 3,kc BL [1,1,1,1]] (mkE 169 [(2,D.v (V.ref (vTy 5 0 [] [vT t]))),(3,D.v (V.ref (Ag v))),(6,di (↑0:Int))]) σ0))) ?_
 refine⟨fun h1=>?_,fun h1=>⟨fun h2=>?_,fun h2=>⟨rfl,⟨?_⟩⟩⟩⟩
 ·have h1:(v.n==0)=false:=by simpa using h1
  simp only[Ao,h1,HT]
 ·have h2:¬((v.kids.length:Int)<=12):=by simpa using h2
  simp only[Ao,H1 h2,HT,IR]
 ·have h1:(v.n==0)=true:=by simpa using h1
  have h2:(v.kids.length:Int)<=12:=by simpa using h2
  simp only[Ao,h1,Hz h2,HV]
  rw[←Yc]
  exact Po t v (by omega) hz h _ 0 rfl
theorem Sa(m:Mod)(v:Val)(hv:v.size<=1000000):Aa PP 84 [dT (BG m),dV v] σ0 (db (Ao (BG m) v)) σ0:=
 Hv _ v hv fun t ht k hk=>by
  have hks:=Val.size_mem hk
  have hvs:=v.size_eq
  simp only[Ib,IM,or_false] at ht
  rcases ht with rfl|rfl
  ·exact G7 _ k
  ·refine UJ _ k (by omega) fun x hx=>Hv _ x (by have:=Val.size_mem hx;have:=k.size_eq;omega) fun t ht y _=>?_
   simp only[Ib,IM,or_false] at ht
   rcases ht with rfl|rfl<;>exact G7 _ y
theorem J9(m:Mod)(hm:C8 m)(v:Val):Aa PP 53 [dT (BG m),dV v] σ0 (db (Ak (BG m) v)) σ0:=by
 refine sv Wr 18 [2,3] (.c (di 0)<|.c (di (min (v.size:Int) 129))<|.b (.c (db (Ao (BG m) v)) .r) .r) (F0 83 [D.v (vT (BG m))] (di 0)/\F0 43 [dV v,di 128] (di (min (↑(Val.size v):Int) 129))/\(decide (min (↑(Val.size v):Int) 129<=128)=true->F0 84 [D.v (vT (BG m)),dV v] (db (Ao (BG m) v))/\db (Ao (BG m) v)=db (Ak (BG m) v))/\(decide (min (↑(Val.size v):Int) 129<=128)=false->db false=db (Ak (BG m) v))) ?_
 refine⟨ZO m hm,FV _ v (H5 _) 128 (by decide) (by decide),fun h1=>?_,fun h1=>?_⟩
 ·have h1:=H9 h1
  have h2:(v.size:Int)<=128:=by rw[Iw] at h1;split at h1<;>omega
  exact⟨Sa m v (by omega),by rw[Ak,Hz h2,HV]⟩
 ·have h1:=Ig h1
  rw[Ak,H1 (show ¬(v.size:Int)<=128 by rw[Iw] at h1;split at h1<;>omega),HT]
theorem Ka(m:Mod)(hm:DO m):Aa PP 29 [Ad m] σ0 (di (if Ak (BG m) m.start then 0 else 17)) σ0:=
 KU m _ (by rw[hm.n.kind];rfl) (Wi m hm) (VV m hm) (Wm m hm) (JZ m _ _ (by have:=hm.n.count;omega) (by rw[hm.n.kind];rfl) (fun r hr=>Aak m hm r hr) (YA m hm.n.kind (by have:=hm.n.age;omega)) (J9 m hm m.start) _ 0 rfl)
theorem W4(m:Mod)(hm:BM m):Aa PP 29 [Ad m] σ0 (di 0) σ0:=by
 have:=Ka m hm
 rwa[hm.start_ok,HJ rfl] at this
theorem O5(m:Mod)(hm:BM m)(v:Val):Aa PP 30 [Ad m,dV v] σ0 (db (Ak (BG m) v)) σ0:=by
 refine sv Ws 14 [2,3] (.c (di 0)<|.c (dT (BG m))<|.c (db (Ak (BG m) v)) .r) (F0 29 [Ad m] (di 0)/\F0 54 [Ad m] (dT (BG m))/\F0 53 [D.v (vT (BG m)),dV v] (db (Ak (BG m) v))/\Q (db (Ak (BG m) v))) ?_
 exact⟨W4 m hm,YA m hm.kind (by have:=hm.age;omega),J9 m hm v,rfl⟩
noncomputable abbrev Aa5:Func:= Tryz.f109
theorem Rh(x:Int):Aa PP 109 [di x] σ0 (db (x==0)) σ0:=by
 refine sv Aa5 5 [] .r (Q (db (x==0))) ?_
 trivial
theorem NP:rB.short:=⟨by decide,by decide,by decide,by decide,by decide,by decide,by decide⟩
theorem YO:Aa PP 72 [Ad mB,BN rB] σ0 (db true) σ0:=by
 have h1:=B4 0 1 (by decide)
 have h2:=B4 (-1) 1 (by decide)
 have h3:=Ow mB rB NP
 have h4:=Eu 109 [] [] (fun x=>x==0) [0] (by decide) (fun x _=>Rh x)
 have h5:=Ho rB rB NP rfl
 rw[show AY mB rB=true from by decide] at h3
 rw[show B0 rB rB=true from by decide] at h5
 refine sv Mc 142 [2,3] (.c (db true)<|.c (db false)<|.c (db true)<|.c (db true)<|.c (db true) .r) (F0 102 [di rB.to,di (length (map V.str mB.states):Int)] (db true)/\F0 102 [di rB.frm,di (length (map V.str mB.states):Int)] (db false)/\F0 103 [Ad mB,BN rB] (db true)/\F0 108 [dIs rB.need,D.v (V.fn 109 [] [])] (db true)/\F0 110 [BN rB,D.v (V.agg [V.str rB.name,vi rB.frm,vi rB.to,vIs rB.need,vIs rB.give,V.list [],vi 0,vi 0,vi 0,V.list [],V.list [],V.list [],V.list [],vi rB.second])] (db true)/\Q (db true)) ?_
 trivial
theorem AaW:Aa PP 71 [BN rB,.v (.ref (Az mB))] σ0 (db false) σ0:=by
 refine sv Vp 8 [2] (.c (db true) .r) (F0 72 [Ad mB,BN rB] (db true)/\(db !true)=db false) ?_
 exact⟨YO,rfl⟩
theorem AbM:Aa PP 73 [Ad mB] σ0 (db true) σ0:=by
 refine sv Abp 22 [1] .r (db ((length (map eV mB.start.kids):Int)==0)=db true) ?_
 trivial
theorem Aby:Aa PP 95 [di 6] σ0 (Gg XB) σ0:=by
 refine sv fOf 29 [] .r (D.v (V.agg [vi 1,vi 6,vi 0,vi 0,vi 0,vi 0,vi 0,vi 0])=Gg XB) ?_
 rfl
theorem AbK:Aa PP 45 [Ad mB] σ0 (di 0) σ0:=by
 have h1:=Cs 6 1 6
 have h2:=CQ XB mB Aby
 have h3:=De mB (by decide)
 have h4:=Fm mB (by decide)
 have h5:=FE 71 [] [.ref (Az mB)] (fun _=>false) mB.rules (by decide) (fun r hr=>by rw[HE.1 hr];exact AaW)
 rw[show B3 XB mB=true from by decide] at h2
 rw[show AN mB=true from by decide] at h3
 rw[show Cu mB=true from by decide+kernel] at h4
 refine sv Abo 29 [1] (.c (db true)<|.c (db true)<|.c (db true)<|.c (db true)<|.c (db false)<|.c (db true) .r) (F0 66 [di mB.kind,di 1,di 6] (db true)/\F0 67 [Ad mB] (db true)/\F0 68 [Ad mB] (db true)/\F0 69 [Ad mB] (db true)/\F0 70 [D.v (EV mB.rules),D.v (V.fn 71 [] [V.ref (Az mB)])] (db false)/\F0 73 [Ad mB] (db true)/\Q (di 0)) ?_
 exact⟨h1,h2,h3,h4,h5,AbM,rfl⟩
theorem Abu:Aa PP 27 [Ad mB] σ0 (di 15) σ0:=by
 refine sv Aab 12 [1] (.c (di 0)<|.k<|.r) (F0 45 [Ad mB] (di 0)/\Q (di 15)) ?_
 exact⟨AbK,rfl⟩
structure Qst where
 kind:Int
 place:Int
 target:Val
abbrev vQ(q:Qst):V:=.agg [vi q.kind,vi q.place,vi q.target.n,vVs q.target.kids]
abbrev dQ(q:Qst):D:=.v (vQ q)
abbrev zeroV:Val:=.mk 0 []
def Af(m:Mod)(t:Typ)(q:Qst):Bool:=
 if q.kind<1∨q.kind>=7 then false
 else if q.kind<=2 then Ak t q.target&&(q.place==0)
 else if q.kind=3 then B1 m&&((Aq q.target zeroV==0)&&(q.place==0))
 else if q.kind=4 then B1 m&&((Aq q.target zeroV==0)&&(decide (0<=q.place)&&decide (q.place<m.places.length)))
 else(Aq q.target zeroV==0)&&(q.place==0)
noncomputable abbrev GH:Func:= Tryz.f28
theorem Ue(v:Val)(hv:v.fit):Aa PP 32 [dV v,dV zeroV] σ0 (db (Aq v zeroV==0)) σ0:=Lr v zeroV hv
theorem FX(m:Mod)(t:Typ)(hm:Cx m t)(p:Int)(v:Val)(hv:v.fit):Aa PP 28 [Ad m,dQ ⟨4,p,v⟩] σ0 (db (Af m t ⟨4,p,v⟩)) σ0:=by
 refine sv GH 65 [2,3] (.c (db (B1 m))<|.b .r<|.c (db (Aq v zeroV==0))<|.b .r<|.k<|.b .r .r) (0<=(Qst.mk 4 p v).kind/\(Qst.mk 4 p v).kind<(↑7:Int)/\F0 46 [Ad m] (db (B1 m))/\((!B1 m)=true->db false=db (Af m t (Qst.mk 4 p v)))/\((!B1 m)=false->F0 32 [D.v (V.agg [vi (Val.n (Qst.mk 4 p v).target),vVs (Val.kids (Qst.mk 4 p v).target)]),D.v (V.agg [vi 0,V.list []])] (db (Aq v zeroV==0))/\((!Aq v zeroV==0)=true->db false=db (Af m t (Qst.mk 4 p v)))/\((!Aq v zeroV==0)=false->(decide ((Qst.mk 4 p v).place>=0)=true->db (decide ((Qst.mk 4 p v).place<(length (map V.str m.places):Int)))=db (Af m t (Qst.mk 4 p v)))/\(decide ((Qst.mk 4 p v).place>=0)=false->db false=db (Af m t (Qst.mk 4 p v)))))) ?_
 refine⟨by show(0:Int)<=4;decide,by show(4:Int)<7;decide,hm.plain,fun h=>?_,fun h=>⟨Ue v hv,fun h2=>?_,fun h2=>⟨fun h3=>?_,fun h3=>?_⟩⟩⟩
 all_goals (simp_all [Af]<;>omega)
theorem G2(m:Mod)(t:Typ)(hm:Cx m t)(p:Int)(v:Val)(hv:v.fit):Aa PP 28 [Ad m,dQ ⟨3,p,v⟩] σ0 (db (Af m t ⟨3,p,v⟩)) σ0:=by
 refine sv GH 65 [2,3] (.c (db (B1 m))<|.b .r<|.c (db (Aq v zeroV==0))<|.b .r .r) (0<=(Qst.mk 3 p v).kind/\(Qst.mk 3 p v).kind<(↑7:Int)/\F0 46 [Ad m] (db (B1 m))/\((!B1 m)=true->db false=db (Af m t (Qst.mk 3 p v)))/\((!B1 m)=false->F0 32 [D.v (V.agg [vi (Val.n (Qst.mk 3 p v).target),vVs (Val.kids (Qst.mk 3 p v).target)]),D.v (V.agg [vi 0,V.list []])] (db (Aq v zeroV==0))/\((!Aq v zeroV==0)=true->db false=db (Af m t (Qst.mk 3 p v)))/\((!Aq v zeroV==0)=false->db ((Qst.mk 3 p v).place==0)=db (Af m t (Qst.mk 3 p v))))) ?_
 refine⟨by show(0:Int)<=3;decide,by show(3:Int)<7;decide,hm.plain,fun h=>?_,fun h=>⟨Ue v hv,fun h2=>?_,fun h2=>?_⟩⟩
 all_goals (simp_all [Af]<;>omega)
theorem FY(m:Mod)(t:Typ)(p:Int)(v:Val)(hv:Aa PP 47 [Ad m,dV v] σ0 (db (Ak t v)) σ0):Aa PP 28 [Ad m,dQ ⟨1,p,v⟩] σ0 (db (Af m t ⟨1,p,v⟩)) σ0:=by
 refine sv GH 65 [2,3] (.c (db (Ak t v))<|.b .r .r) (0<=(Qst.mk 1 p v).kind/\(Qst.mk 1 p v).kind<(↑7:Int)/\F0 47 [Ad m,D.v (V.agg [vi (Val.n (Qst.mk 1 p v).target),vVs (Val.kids (Qst.mk 1 p v).target)])] (db (Ak t v))/\((!Ak t v)=true->db false=db (Af m t (Qst.mk 1 p v)))/\((!Ak t v)=false->db ((Qst.mk 1 p v).place==0)=db (Af m t (Qst.mk 1 p v)))) ?_
 refine⟨by show(0:Int)<=1;decide,by show(1:Int)<7;decide,hv,fun h=>?_,fun h=>?_⟩
 all_goals (simp_all [Af]<;>omega)
theorem JI(m:Mod)(t:Typ)(p:Int)(v:Val)(hv:Aa PP 47 [Ad m,dV v] σ0 (db (Ak t v)) σ0):Aa PP 28 [Ad m,dQ ⟨2,p,v⟩] σ0 (db (Af m t ⟨2,p,v⟩)) σ0:=by
 refine sv GH 65 [2,3] (.c (db (Ak t v))<|.b .r .r) (0<=(Qst.mk 2 p v).kind/\(Qst.mk 2 p v).kind<(↑7:Int)/\F0 47 [Ad m,D.v (V.agg [vi (Val.n (Qst.mk 2 p v).target),vVs (Val.kids (Qst.mk 2 p v).target)])] (db (Ak t v))/\((!Ak t v)=true->db false=db (Af m t (Qst.mk 2 p v)))/\((!Ak t v)=false->db ((Qst.mk 2 p v).place==0)=db (Af m t (Qst.mk 2 p v)))) ?_
 refine⟨by show(0:Int)<=2;decide,by show(2:Int)<7;decide,hv,fun h=>?_,fun h=>?_⟩
 all_goals (simp_all [Af]<;>omega)
theorem L9(m:Mod)(t:Typ)(p:Int)(v:Val)(hv:v.fit):Aa PP 28 [Ad m,dQ ⟨5,p,v⟩] σ0 (db (Af m t ⟨5,p,v⟩)) σ0:=by
 refine sv GH 65 [2,3] (.c (db (Aq v zeroV==0))<|.b .r .r) (0<=(Qst.mk 5 p v).kind/\(Qst.mk 5 p v).kind<(↑7:Int)/\F0 32 [D.v (V.agg [vi (Val.n (Qst.mk 5 p v).target),vVs (Val.kids (Qst.mk 5 p v).target)]),D.v (V.agg [vi 0,V.list []])] (db (Aq v zeroV==0))/\((!Aq v zeroV==0)=true->db false=db (Af m t (Qst.mk 5 p v)))/\((!Aq v zeroV==0)=false->db ((Qst.mk 5 p v).place==0)=db (Af m t (Qst.mk 5 p v)))) ?_
 refine⟨by show(0:Int)<=5;decide,by show(5:Int)<7;decide,Ue v hv,fun h=>?_,fun h=>?_⟩
 all_goals (simp_all [Af]<;>omega)
theorem L8(m:Mod)(t:Typ)(p:Int)(v:Val)(hv:v.fit):Aa PP 28 [Ad m,dQ ⟨6,p,v⟩] σ0 (db (Af m t ⟨6,p,v⟩)) σ0:=by
 refine sv GH 65 [2,3] (.c (db (Aq v zeroV==0))<|.b .r .r) (0<=(Qst.mk 6 p v).kind/\(Qst.mk 6 p v).kind<(↑7:Int)/\F0 32 [D.v (V.agg [vi (Val.n (Qst.mk 6 p v).target),vVs (Val.kids (Qst.mk 6 p v).target)]),D.v (V.agg [vi 0,V.list []])] (db (Aq v zeroV==0))/\((!Aq v zeroV==0)=true->db false=db (Af m t (Qst.mk 6 p v)))/\((!Aq v zeroV==0)=false->db ((Qst.mk 6 p v).place==0)=db (Af m t (Qst.mk 6 p v)))) ?_
 refine⟨by show(0:Int)<=6;decide,by show(6:Int)<7;decide,Ue v hv,fun h=>?_,fun h=>?_⟩
 all_goals (simp_all [Af]<;>omega)
theorem NQ(m:Mod)(p:Int)(v:Val)(k:Int)(hk:k<1∨k>=7):Aa PP 28 [Ad m,dQ ⟨k,p,v⟩] σ0 (db false) σ0:=by
 by_cases h1:decide (k<1)=true
 ·refine sv GH 65 [2,3] (.t<|.k<|.r) (decide ((Qst.mk k p v).kind<1)=true/\Q (db false)) ?_
  exact⟨h1,rfl⟩
 ·have h2:decide (k>=7)=true:=by
   have:¬k<1:=by simpa using h1
   exact Hz (by omega)
  refine sv GH 65 [2,3] (.f<|.t<|.r) (decide ((Qst.mk k p v).kind<1)=false/\decide ((Qst.mk k p v).kind>=7)=true/\Q (db false)) ?_
  exact⟨by simpa using h1,h2,rfl⟩
noncomputable abbrev XK:Func:= Tryz.f11
theorem FC(m:Mod)(t:Typ)(hm:Cx m t)(q:Qst)(b:Bool)(h:Aa PP 28 [Ad m,dQ q] σ0 (db b) σ0):Aa PP 11 [Ad m,dQ q] σ0 (di (if b then 0 else 48)) σ0:=by
 cases b with
 |true=>
  refine sv XK 15 [2,3] (.c (di 0)<|.k<|.c (db true)<|.k .r) (F0 27 [Ad m] (di 0)/\F0 28 [Ad m,D.v (vQ q)] (db true)/\di 0=di (if true=true then 0 else 48)) ?_
  exact⟨hm.walks,h,rfl⟩
 |false=>
  refine sv XK 15 [2,3] (.c (di 0)<|.k<|.c (db false)<|.k .r) (F0 27 [Ad m] (di 0)/\F0 28 [Ad m,D.v (vQ q)] (db false)/\di 48=di (if false=true then 0 else 48)) ?_
  exact⟨hm.walks,h,rfl⟩
end Go.Proofs.YtpmahmngmgnnbaaGreatDoor

namespace Go.Proofs
open Go.Shelf Go.RowKit
open Go.IntKind (wrap)
def Tryz.lays166_ren:Go.Shelf.Ren:=⟨fun|166=>62|240=>93|276=>124|n=>n,fun|0=>0|3=>3|4=>4|9=>9|20=> 20 |37=>22|5=>5|70=>78|72=>80|75=>100|80=>82|164=>140|n=>n,fun|n=>n⟩
theorem Tryz.lays166:Go.Proofs.Lays.n166 Tryz.prog Tryz.lays166_ren:={
 mixed:=by kernel_rfl
 f166:= Tryz.func62.trans (HL some (by kernel_rfl))
 f240:= Tryz.func93.trans (HL some (by kernel_rfl))
 f276:= Tryz.func124.trans (HL some (by kernel_rfl))
 t0:= Tryz.underlying0
 a0:= Tryz.isAgg0
 z0:= Tryz.sizeOf0
 v0:= Tryz.zeroValue0
 t3:= Tryz.underlying3
 a3:= Tryz.isAgg3
 z3:= Tryz.sizeOf3
 v3:= Tryz.zeroValue3
 t4:= Tryz.underlying4
 a4:= Tryz.isAgg4
 z4:= Tryz.sizeOf4
 v4:= Tryz.zeroValue4
 t9:= Tryz.underlying9
 a9:= Tryz.isAgg9
 z9:= Tryz.sizeOf9
 v9:= Tryz.zeroValue9
 t20:= Tryz.underlying20
 a20:= Tryz.isAgg20
 z20:= Tryz.sizeOf20
 v20:= Tryz.zeroValue20
 t37:= Tryz.underlying22
 a37:= Tryz.isAgg22
 z37:= Tryz.sizeOf22
 v37:= Tryz.zeroValue22
 t70:= Tryz.underlying78
 a70:= Tryz.isAgg78
 z70:= Tryz.sizeOf78
 v70:= Tryz.zeroValue78
 t72:= Tryz.underlying80
 a72:= Tryz.isAgg80
 z72:= Tryz.sizeOf80
 v72:= Tryz.zeroValue80
 t75:= Tryz.underlying100
 a75:= Tryz.isAgg100
 z75:= Tryz.sizeOf100
 v75:= Tryz.zeroValue100
 t164:= Tryz.underlying140
 a164:= Tryz.isAgg140
 z164:= Tryz.sizeOf140
 v164:= Tryz.zeroValue140 }
def Tryz.lays167_ren:Go.Shelf.Ren:=⟨fun|167=>64|240=>93|276=>124|n=>n,fun|0=>0|4=>4|5=>5|9=>9|20=> 20 |37=>22|70=>78|72=>80|75=>100|80=>82|164=>140|n=>n,fun|n=>n⟩
theorem Tryz.lays167:Go.Proofs.Lays.n167 Tryz.prog Tryz.lays167_ren:={
 mixed:=by kernel_rfl
 f167:= Tryz.func64.trans (HL some (by kernel_rfl))
 f240:= Tryz.func93.trans (HL some (by kernel_rfl))
 f276:= Tryz.func124.trans (HL some (by kernel_rfl))
 t0:= Tryz.underlying0
 a0:= Tryz.isAgg0
 z0:= Tryz.sizeOf0
 v0:= Tryz.zeroValue0
 t4:= Tryz.underlying4
 a4:= Tryz.isAgg4
 z4:= Tryz.sizeOf4
 v4:= Tryz.zeroValue4
 t5:= Tryz.underlying5
 a5:= Tryz.isAgg5
 z5:= Tryz.sizeOf5
 v5:= Tryz.zeroValue5
 t9:= Tryz.underlying9
 a9:= Tryz.isAgg9
 z9:= Tryz.sizeOf9
 v9:= Tryz.zeroValue9
 t20:= Tryz.underlying20
 a20:= Tryz.isAgg20
 z20:= Tryz.sizeOf20
 v20:= Tryz.zeroValue20
 t37:= Tryz.underlying22
 a37:= Tryz.isAgg22
 z37:= Tryz.sizeOf22
 v37:= Tryz.zeroValue22
 t70:= Tryz.underlying78
 a70:= Tryz.isAgg78
 z70:= Tryz.sizeOf78
 v70:= Tryz.zeroValue78
 t72:= Tryz.underlying80
 a72:= Tryz.isAgg80
 z72:= Tryz.sizeOf80
 v72:= Tryz.zeroValue80
 t75:= Tryz.underlying100
 a75:= Tryz.isAgg100
 z75:= Tryz.sizeOf100
 v75:= Tryz.zeroValue100
 t164:= Tryz.underlying140
 a164:= Tryz.isAgg140
 z164:= Tryz.sizeOf140
 v164:= Tryz.zeroValue140 }
def Tryz.lays169_ren:Go.Shelf.Ren:=⟨fun|169=>42|n=>n,fun|0=>0|3=>3|9=>9|37=>22|5=>5|70=>78|72=>80|127=>105|n=>n,fun|n=>n⟩
theorem Tryz.lays169:Go.Proofs.Lays.n169 Tryz.prog Tryz.lays169_ren:={
 mixed:=by kernel_rfl
 f169:= Tryz.func42.trans (HL some (by kernel_rfl))
 t0:= Tryz.underlying0
 a0:= Tryz.isAgg0
 z0:= Tryz.sizeOf0
 v0:= Tryz.zeroValue0
 t3:= Tryz.underlying3
 a3:= Tryz.isAgg3
 z3:= Tryz.sizeOf3
 v3:= Tryz.zeroValue3
 t9:= Tryz.underlying9
 a9:= Tryz.isAgg9
 z9:= Tryz.sizeOf9
 v9:= Tryz.zeroValue9
 t37:= Tryz.underlying22
 a37:= Tryz.isAgg22
 z37:= Tryz.sizeOf22
 v37:= Tryz.zeroValue22
 t70:= Tryz.underlying78
 a70:= Tryz.isAgg78
 z70:= Tryz.sizeOf78
 v70:= Tryz.zeroValue78
 t72:= Tryz.underlying80
 a72:= Tryz.isAgg80
 z72:= Tryz.sizeOf80
 v72:= Tryz.zeroValue80
 t127:= Tryz.underlying105
 a127:= Tryz.isAgg105
 z127:= Tryz.sizeOf105
 v127:= Tryz.zeroValue105 }
theorem Tryz.bx166:Builder.Extra Tryz.prog Tryz.lays166_ren:={ sizeBuilder:=by kernel_rfl,liesBuilder:=by kernel_rfl,t5:= Tryz.underlying5,a5:= Tryz.isAgg5,z5:= Tryz.sizeOf5,v5:= Tryz.zeroValue5,infoByte:=by kernel_rfl,cellsByte:=by kernel_rfl,sizeByte:=by kernel_rfl,neB5:=by decide }
theorem Tryz.bx167:Builder.Extra Tryz.prog Tryz.lays167_ren:={ sizeBuilder:=by kernel_rfl,liesBuilder:=by kernel_rfl,t5:= Tryz.underlying5,a5:= Tryz.isAgg5,z5:= Tryz.sizeOf5,v5:= Tryz.zeroValue5,infoByte:=by kernel_rfl,cellsByte:=by kernel_rfl,sizeByte:=by kernel_rfl,neB5:=by decide }
theorem Tryz.bx169:Builder.Extra Tryz.prog Tryz.lays169_ren:={ sizeBuilder:=by kernel_rfl,liesBuilder:=by kernel_rfl,t5:= Tryz.underlying5,a5:= Tryz.isAgg5,z5:= Tryz.sizeOf5,v5:= Tryz.zeroValue5,infoByte:=by kernel_rfl,cellsByte:=by kernel_rfl,sizeByte:=by kernel_rfl,neB5:=by decide }
section
variable (B b : Nat) (l : List UInt8) (w : World)
abbrev IsB:Prop:=Lib.IsBuilderF 80 5 B b (Lib.byteCells l) w
theorem Abt(s:List UInt8)(h:IsB B b l w)(hlen:l.length+s.length<=140737488355328)(hBw:B<=w.heap.size):
  Calls Tryz.prog 62 #[.pointer (some ⟨b,0,none⟩),.string ⟨s.toArray⟩] w fun e w'=>e=.returned (.tuple #[.int .i64 s.length,.nilIface])/\IsB B b (l++s) w'/\Below B w w'/\Lib.OthersKept 5 (some b) w w':=by
 have hs:ByteArray.size ⟨s.toArray⟩=s.length:=by simp[ByteArray.size]
 refine(Any.Builder_WriteString_k Tryz.lays166 Tryz.bx166 B b (Lib.byteCells l) ⟨s.toArray⟩ w h (by rw[Lib.byteCells_length,hs];exact hlen) hBw).mono ?_
 rintro e w' ⟨rfl,h1,h2,h3⟩
 refine⟨by rw[hs],.inr ?_,h2,h3⟩
 rw[Lib.byteCells_append]
 exact h1
theorem Y6(c:UInt8)(h:IsB B b l w)(hlen:l.length+1<=140737488355328)(hBw:B<=w.heap.size):
  Calls Tryz.prog 64 #[.pointer (some ⟨b,0,none⟩),.int .u8 c.toNat] w fun e w'=>e=.returned .nilIface/\IsB B b (l++[c]) w'/\Below B w w'/\Lib.OthersKept 5 (some b) w w':=by
 refine(Any.Builder_WriteByte_k Tryz.lays167 Tryz.bx167 B b (Lib.byteCells l) c.toNat w h (by rw[Lib.byteCells_length];exact hlen) hBw).mono ?_
 rintro e w' ⟨rfl,h1,h2,h3⟩
 refine⟨rfl,.inr ?_,h2,h3⟩
 rw[Lib.byteCells_append]
 exact h1
theorem AbL(h:IsB B b l w)(hBw:B<=w.heap.size):
  Calls Tryz.prog 42 #[.pointer (some ⟨b,0,none⟩)] w fun e w'=>e=.returned (.string ⟨l.toArray⟩)/\Below B w w':=by
 refine(Any.Builder_String_any_k Tryz.lays169 Tryz.bx169 B b l w h hBw).mono ?_
 rintro e w' ⟨rfl,_,h2,_⟩
 exact⟨rfl,h2⟩
end
end Go.Proofs

namespace Go.Proofs.YtpmahmngmgnnbaaGreatDoor
open Go.Dv Go.Nv
set_option maxRecDepth 20000
open List (length take)
open Go.IntKind (wrap)
theorem RQ{P:Program}{o:Oper}{σ:St}{c:Call}{fo:Operand}(ho:o.op=.call c)(hc:c.callee=.value fo){f:FuncId}{fn:Func}{e:Array Value->Sem Value}(hf:P.funcs[f]?=some fn)(hname:(fn.name=="runtime.NumGoroutine")=false)
  (hb:fn.body.isNone=true) (hn:Extern.findNext fn=none) (he:Extern.find fn=some e) {ds:List D} {d:D} (hrun:∀g us w,Ab g ds us->∃u,(e us.toArray).run P w=.ok u w/\Ac g d u):Ap P o (.v (.fn f [] [])::ds) σ d σ:=by
 intro E g a w K Q hw hds hK
 obtain⟨us,vs,ws,h1,hargs,h2,h3,h4⟩:=CZ ho hc hds
 simp only[Iu,Ab] at h2 h3
 subst h2 h3
 obtain⟨u,hu,hd⟩:=hrun g ws w h4
 have hargs':c.args.map a.eval=ws.toArray:=by apply Iz;simpa using hargs
 have hcall:=run_callFunc_extern (P:=P) hf hname hb hn he (#[]++ws.toArray++ #[]) w
 have e2:(#[]++ws.toArray++ #[]:Array Value)=ws.toArray:=by simp
 unfold Oper.wp execOp
 simp only[ho,resolve,hc,h1,hargs',Deferred.ofValue,Sem.run_bind,Sem.run_pure,Result.andThen_ok,invoke]
 rw[hcall,e2,hu]
 exact hK g w u hw g.le_refl hd
noncomputable abbrev AaE:Func:= Tryz.f150
theorem Sy(s:List UInt8):Aa PP 150 [ds s,.v (.int .u8 32)] σ0 (di (Lib.indexByte s 32)) σ0:=by
 refine sv AaE 8 [] (.h (.oc (di (Lib.indexByte s 32)) σ0) .r) ((∀(o:Oper) (c:Call) (fo:Operand),o.op=Op.call c->c.callee=Callee.value fo->Ap PP o [D.v (V.fn 170 [] []),D.v (V.str s),D.v (V.int IntKind.u8 32)] σ0 (di (Lib.indexByte s 32)) σ0)/\Q (di (Lib.indexByte s 32))) ?_
 refine⟨fun o c fo ho hc=>?_,rfl⟩
 refine RQ ho hc Tryz.func170 (by kernel_rfl) (by kernel_rfl) (by kernel_rfl) (e:=Extern.BytealgIndexByte.indexByte) (by kernel_rfl) fun g us w h=>?_
 obtain⟨u,v,rfl,h1,h2⟩:=Am.1 h
 simp only[Ac,AI,As] at h1 h2
 subst h1 h2
 refine⟨.int .i64 (Lib.indexByte s 32),?_,by simp only[Ac,As]⟩
 exact Lib.run_indexByteString ⟨s.toArray⟩ 32 w
def b32:UInt8:=32
noncomputable abbrev fIx:Func:= Tryz.f121
theorem XD(s:List UInt8):Aa PP 121 [ds s,ds [32]] σ0 (di (Lib.indexByte s 32)) σ0:=by
 refine sv fIx 143 [] (.f<|.b .r (.t<|.y b32<|.c (di (Lib.indexByte s 32)) .r)) (((↑(length [32]):Int)==0)=false/\(([32]==s)=true->di 0=di (Lib.indexByte s 32))/\(([32]==s)=false->((↑(length [32]):Int)==1)=true/\iz 0<=0/\[32][Int.toNat 0]?=some b32/\F0 150 [D.v (V.str s),D.v (V.int IntKind.u8 (↑(UInt8.toNat b32):Int))] (di (Lib.indexByte s 32))/\Q (di (Lib.indexByte s 32)))) ?_
 have e1:Lib.indexByte [32] 32=0:=by simp[Lib.indexByte]
 have e2:V.int IntKind.u8 ((b32.toNat:Nat):Int)=V.int .u8 32:=by kernel_rfl
 refine⟨by decide,fun h=>?_,fun _=>⟨by decide,by decide,rfl,?_,rfl⟩⟩
 ·have h:[32]=s:=by simpa using h
  rw[←h,e1]
 ·rw[e2];exact Sy s
noncomputable abbrev Aa3:Func:= Tryz.f90
noncomputable abbrev AbC:Func:= Tryz.f57
def Cd(s:List UInt8):List UInt8×List UInt8×Bool:=if 0<=Lib.indexByte s 32 then(s.take (Lib.indexByte s 32).toNat,s.drop ((Lib.indexByte s 32).toNat+1),true) else(s,[],false)
theorem Zp(s:List UInt8)(c:UInt8): -1<=Lib.indexByte s c/\(Lib.indexByte s c<s.length∨Lib.indexByte s c= -1):=by
 induction s with
 |nil=>exact⟨HP _,.inr rfl⟩
 |cons b s ih=>
  simp only[Lib.indexByte]
  split
  ·exact⟨by omega,.inl (by simp only[H3];omega)⟩
  ·split
   ·exact⟨HP _,.inr rfl⟩
   ·rename_i h1 h2
    have h3:Lib.indexByte s c≠ -1:=by simpa using h2
    rcases ih with⟨h4,h5|h5⟩
    ·exact⟨by omega,.inl (by simp only[H3];omega)⟩
    ·exact absurd h5 h3
theorem QU(s:List UInt8)(hs:s.length<=1000000):Aa PP 90 [ds s,ds [32]] σ0 (.tup [ds (Cd s).1,ds (Cd s).2.1,db (Cd s).2.2]) σ0:=by
 obtain⟨h1,h2⟩:=Zp s 32
 have hi:=XD s
 generalize hx:Lib.indexByte s 32=x at h1 h2 hi
 refine sv Aa3 23 [] (.c (di x)<|.b .r .r) (F0 121 [D.v (V.str s),D.v (V.str [32])] (di x)/\(decide (x>=0)=true->0<=(fun x=>x.snd) (IntKind.i64,x)/\(fun x=>x.snd) (IntKind.i64,x)<=(s.length:Int)/\0<=(fun x=>x.snd) (IntKind.i64,wrap IntKind.i64 (x+(↑(length [32]):Int)))/\(fun x=>x.snd) (IntKind.i64,wrap IntKind.i64 (x+(↑(length [32]):Int)))<=(s.length:Int)/\D.tup [D.v (V.str (List.drop 0 (take (Int.toNat ((fun x=>x.snd) (IntKind.i64,x))) s))),D.v (V.str (List.drop (Int.toNat ((fun x=>x.snd) (IntKind.i64,wrap IntKind.i64 (x+(↑(length [32]):Int))))) (take s.length s))),db true]=D.tup [D.v (V.str (Cd s).fst),D.v (V.str (Cd s).snd.fst),db (Cd s).snd.snd])/\(decide (x>=0)=false->D.tup [D.v (V.str s),D.v (V.str (ByteArray.mk #[]).data.toList),db false]=D.tup [D.v (V.str (Cd s).fst),D.v (V.str (Cd s).snd.fst),db (Cd s).snd.snd])) ?_
 refine⟨hi,fun h=>?_,fun h=>?_⟩
 ·have h:0<=x:=H9 h
  have h3:x<s.length:=by rcases h2 with h2|h2<;>omega
  rw[show((([32]:List Nat).length:Nat):Int)=1 from rfl,Ai (n:=x+1) (by omega) (by omega)]
  refine⟨h,by show x<=_;omega,by show 0<=x+1;omega,by show x+1<=_;omega,?_⟩
  rw[Cd,hx,HJ h,HQ (H5 _),IP]
  show D.tup [_,D.v (V.str (List.drop (x+1).toNat s)),_]=_
  rw[show(x+1).toNat=x.toNat+1 by omega]
 ·have h:¬x>=0:=Ig h
  rw[Cd,hx,HF (by omega)]
theorem GQ(s:List UInt8)(hs:s.length<=1000000):Aa PP 57 [ds s,ds [32]] σ0 (.tup [ds (Cd s).1,ds (Cd s).2.1,db (Cd s).2.2]) σ0:=by
 refine sv AbC 13 [] (.c (.tup [ds (Cd s).1,ds (Cd s).2.1,db (Cd s).2.2]) .r) (F0 90 [D.v (V.str s),D.v (V.str [32])] (D.tup [D.v (V.str (Cd s).fst),D.v (V.str (Cd s).snd.fst),db (Cd s).snd.snd])/\Q (D.tup [D.v (V.str (Cd s).fst),D.v (V.str (Cd s).snd.fst),db (Cd s).snd.snd])) ?_
 exact⟨QU s hs,rfl⟩
abbrev cRd(s:List UInt8)(at_ n:Nat)(bad:Bool):List D:=[ds s,di at_,di n,db bad]
abbrev rd(s:List UInt8)(at_ n:Nat)(bad:Bool):St:=⟨[some (cRd s at_ n bad)],[]⟩
noncomputable abbrev fTk:Func:= Tryz.f122
theorem N4(s:List UInt8)(hs:s.length<=1000000)(at_ n:Nat)(bad:Bool)(c:UInt8)(h:s[at_]?=some c):Aa PP 122 [.ptr 0 0,.v (vb c)] (rd s at_ n bad) (db true) (rd s (at_+1) n bad):=by
 refine sv fTk 38 [] (.t<|.y c<|.t .r) (decide ((at_:Int)<(s.length:Int))=true/\0<=(at_:Int)/\s[Int.toNat (at_:Int)]?=some c/\(True/\True/\True/\True/\True)/\((↑(UInt8.toNat c):Int)==(↑(UInt8.toNat c):Int))=true/\[some [D.v (V.str s),di (wrap IntKind.i64 ((at_:Int)+1)),di (n:Int),db bad]]=[some (cRd s (at_+1) n bad)]/\db ((↑(UInt8.toNat c):Int)==(↑(UInt8.toNat c):Int))=db true) ?_
 have hlt:=(H0.1 h).1
 refine⟨Hz (by omega),by omega,by simpa using h,⟨trivial,trivial,trivial,trivial,trivial⟩,by simp,?_,by simp⟩
 rw[Ae (by omega)]
theorem Ky(s:List UInt8)(hs:s.length<=1000000)(at_ n:Nat)(bad:Bool)(c x:UInt8)(h:s[at_]?=some x)(hx:x≠c):Aa PP 122 [.ptr 0 0,.v (vb c)] (rd s at_ n bad) (db false) (rd s at_ n bad):=by
 refine sv fTk 38 [] (.t<|.y x<|.f .r) (decide ((at_:Int)<(s.length:Int))=true/\0<=(at_:Int)/\s[Int.toNat (at_:Int)]?=some x/\(True/\True/\True/\True/\True)/\((↑(UInt8.toNat x):Int)==(↑(UInt8.toNat c):Int))=false/\Q [some (cRd s at_ n bad)]/\db ((↑(UInt8.toNat x):Int)==(↑(UInt8.toNat c):Int))=db false) ?_
 have hlt:=(H0.1 h).1
 have hne:(((x.toNat:Nat):Int)==((c.toNat:Nat):Int))=false:=by
  rw[Ia]
  intro e
  exact hx (UInt8.toNat_inj.1 (by omega))
 exact⟨Hz (by omega),by omega,by simpa using h,⟨trivial,trivial,trivial,trivial,trivial⟩,hne,rfl,by rw[hne]⟩
theorem VQ(s:List UInt8)(hs:s.length<=1000000)(at_ n:Nat)(bad:Bool)(c:UInt8)(h:s.length<=at_):Aa PP 122 [.ptr 0 0,.v (vb c)] (rd s at_ n bad) (db false) (rd s at_ n bad):=by
 refine sv fTk 38 [] (.f<|.k .r) (decide ((at_:Int)<(s.length:Int))=false/\(True/\True/\True)/\Q [some (cRd s at_ n bad)]/\Q (db false)) ?_
 exact⟨H1 (by omega),⟨trivial,trivial,trivial⟩,rfl,rfl⟩
end Go.Proofs.YtpmahmngmgnnbaaGreatDoor

namespace Go.Proofs.YtpmahmngmgnnbaaGreatDoor
open Go
open Go.IntKind (wrap)
def dgV(a:Nat)(l:List UInt8):Nat:=l.foldl (fun a c=>a*10+(c.toNat-48)) a
theorem SG:∀(l:List UInt8) (a:Nat),a<=dgV a l
 |[],a=>H5 _
 |c::l,a=>by
  have:=SG l (a*10+(c.toNat-48))
  simp only[dgV,IA] at this⊢;omega
theorem XS(a:Nat)(l m:List UInt8):dgV a (l++m)=dgV (dgV a l) m:=List.foldl_append
theorem d48{i:Nat}(h:i<10):(UInt8.ofNat (48+i)).toNat=48+i:=by
 simp only[UInt8.toNat_ofNat'];omega
theorem KP(u:Nat):dgV 0 (Lib.decDigits u)=u:=by
 induction u using Nat.strongRecOn with
 |_ u ih=>
  rw[Lib.decDigits]
  split
  ·rename_i h
   simp only[dgV,IA,List.foldl_nil,d48 h];omega
  ·rename_i h
   rw[XS,ih (u/10) (by omega)]
   simp only[dgV,IA,List.foldl_nil,d48 (show u%10<10 by omega)];omega
theorem Nm(u:Nat):∀c∈Lib.decDigits u,48<=c.toNat/\c.toNat<=57:=by
 induction u using Nat.strongRecOn with
 |_ u ih=>
  rw[Lib.decDigits]
  split
  ·rename_i h
   intro c hc
   rw[HE.1 hc,d48 h];omega
  ·rename_i h
   intro c hc
   rcases Ij.1 hc with hc|hc
   ·exact ih (u/10) (by omega) c hc
   ·rw[HE.1 hc,d48 (show u%10<10 by omega)];omega
theorem dec_inj'{i j:Nat}(h:Lib.decDigits i=Lib.decDigits j):i=j:=by
 have:=HL (dgV 0) h
 rwa[KP,KP] at this
theorem KR(i:Nat):1<=(Lib.decDigits i).length:=by rw[Lib.decDigits_length];exact Lib.nDigits_pos i
theorem R6:∀(l:List UInt8) (a:Nat),(∀c∈l,48<=c.toNat/\c.toNat<=57)->dgV a l<18446744073709551616->Lib.parseUint10 a l=.ok (dgV a l)
 |[],a,_,_=>rfl
 |c::l,a,h,hv=>by
  have hc:=h c (by simp)
  have h1:=SG l (a*10+(c.toNat-48))
  have h2:dgV a (c::l)=dgV (a*10+(c.toNat-48)) l:=rfl
  have ih:=R6 l (a*10+(c.toNat-48)) (fun x hx=>h x (by simp[hx])) (by omega)
  rw[h2] at hv⊢
  unfold Lib.parseUint10
  rw[HJ hc,HF (by omega),HF (by omega)];exact ih
theorem atoi_dec(i:Nat)(hi:i<9223372036854775808):Lib.atoiAll (Lib.decDigits i)=.ok (i:Int):=by
 have h1:=Nm i
 have h2:=KR i
 have h3:=KP i
 generalize Lib.decDigits i=l at*
 cases l with
 |nil=>simp at h2
 |cons c r=>
  have hc:=h1 c (by simp)
  have h4:=R6 (c::r) 0 h1 (by omega)
  have e:Lib.parseMag (c::r)=.ok i:=by rw[Lib.parseMag,HF (by simp),h4,h3]
  unfold Lib.atoiAll
  simp only
  rw[HF (show ¬(c.toNat=43∨c.toNat=45) by omega),e]
  simp only
  rw[HF (by omega),HF (by omega),HF (by omega)]
end Go.Proofs.YtpmahmngmgnnbaaGreatDoor

namespace Go.Proofs
open Go.Shelf Go.RowKit
open Go.IntKind (wrap)
def Tryz.lays172_ren:Go.Shelf.Ren:=⟨fun|129=>178|171=>63|172=>123|205=>187|243=>94|244=>154|245=>155|246=>125|247=>172|279=>173|280=>174|281=>175|282=>176|283=>156|284=>157|285=>158|286=>159|287=>185|316=>186|317=>177|318=>179|319=>180|320=>181|321=>191|322=>192|337=>188|338=>189|n=>n,fun|0=>0|2=>2|3=>3|4=>4|5=>5|9=>9|20=> 20 |21=>21|37=>22|46=>158|51=>170|53=>120|75=>100|80=>82|76=>101|85=>174|127=>105|143=>192|145=>194|167=>173|168=>176|210=>188|171=>160|173=>163|175=>184|212=>180|213=>181|232=>195|233=>196|n=>n,fun|15=> 3 |16=> 4 |17=> 2 |18=> 5 |19=> 6 |n=>n⟩
theorem Tryz.lays172:Go.Proofs.LaysC.n172 Tryz.prog Tryz.lays172_ren:={
 mixed:=by kernel_rfl
 f129:= Tryz.func178.trans (HL some (by kernel_rfl))
 f171:= Tryz.func63.trans (HL some (by kernel_rfl))
 f172:= Tryz.func123.trans (HL some (by kernel_rfl))
 f205:= Tryz.func187.trans (HL some (by kernel_rfl))
 f243:= Tryz.func94.trans (HL some (by kernel_rfl))
 f244:= Tryz.func154.trans (HL some (by kernel_rfl))
 f245:= Tryz.func155.trans (HL some (by kernel_rfl))
 f246:= Tryz.func125.trans (HL some (by kernel_rfl))
 f247:= Tryz.func172.trans (HL some (by kernel_rfl))
 f279:= Tryz.func173.trans (HL some (by kernel_rfl))
 f280:= Tryz.func174.trans (HL some (by kernel_rfl))
 f281:= Tryz.func175.trans (HL some (by kernel_rfl))
 f282:= Tryz.func176.trans (HL some (by kernel_rfl))
 f283:= Tryz.func156.trans (HL some (by kernel_rfl))
 f284:= Tryz.func157.trans (HL some (by kernel_rfl))
 f285:= Tryz.func158.trans (HL some (by kernel_rfl))
 f286:= Tryz.func159.trans (HL some (by kernel_rfl))
 f287:= Tryz.func185.trans (HL some (by kernel_rfl))
 f316:= Tryz.func186.trans (HL some (by kernel_rfl))
 f317:= Tryz.func177.trans (HL some (by kernel_rfl))
 f318:= Tryz.func179.trans (HL some (by kernel_rfl))
 f319:= Tryz.func180.trans (HL some (by kernel_rfl))
 f320:= Tryz.func181.trans (HL some (by kernel_rfl))
 f321:= Tryz.func191.trans (HL some (by kernel_rfl))
 f322:= Tryz.func192.trans (HL some (by kernel_rfl))
 f337:= Tryz.func188.trans (HL some (by kernel_rfl))
 f338:= Tryz.func189.trans (HL some (by kernel_rfl))
 t0:= Tryz.underlying0
 a0:= Tryz.isAgg0
 z0:= Tryz.sizeOf0
 v0:= Tryz.zeroValue0
 t2:= Tryz.underlying2
 a2:= Tryz.isAgg2
 z2:= Tryz.sizeOf2
 v2:= Tryz.zeroValue2
 t3:= Tryz.underlying3
 a3:= Tryz.isAgg3
 z3:= Tryz.sizeOf3
 v3:= Tryz.zeroValue3
 t4:= Tryz.underlying4
 a4:= Tryz.isAgg4
 z4:= Tryz.sizeOf4
 v4:= Tryz.zeroValue4
 t5:= Tryz.underlying5
 a5:= Tryz.isAgg5
 z5:= Tryz.sizeOf5
 v5:= Tryz.zeroValue5
 t9:= Tryz.underlying9
 a9:= Tryz.isAgg9
 z9:= Tryz.sizeOf9
 v9:= Tryz.zeroValue9
 t20:= Tryz.underlying20
 a20:= Tryz.isAgg20
 z20:= Tryz.sizeOf20
 v20:= Tryz.zeroValue20
 t21:= Tryz.underlying21
 a21:= Tryz.isAgg21
 z21:= Tryz.sizeOf21
 v21:= Tryz.zeroValue21
 t37:= Tryz.underlying22
 a37:= Tryz.isAgg22
 z37:= Tryz.sizeOf22
 v37:= Tryz.zeroValue22
 t46:= Tryz.underlying158
 a46:= Tryz.isAgg158
 z46:= Tryz.sizeOf158
 v46:= Tryz.zeroValue158
 t51:= Tryz.underlying170
 a51:= Tryz.isAgg170
 z51:= Tryz.sizeOf170
 v51:= Tryz.zeroValue170
 t53:= Tryz.underlying120
 a53:= Tryz.isAgg120
 z53:= Tryz.sizeOf120
 v53:= Tryz.zeroValue120
 t75:= Tryz.underlying100
 a75:= Tryz.isAgg100
 z75:= Tryz.sizeOf100
 v75:= Tryz.zeroValue100
 t76:= Tryz.underlying101
 a76:= Tryz.isAgg101
 z76:= Tryz.sizeOf101
 v76:= Tryz.zeroValue101
 t85:= Tryz.underlying174
 a85:= Tryz.isAgg174
 z85:= Tryz.sizeOf174
 v85:= Tryz.zeroValue174
 t127:= Tryz.underlying105
 a127:= Tryz.isAgg105
 z127:= Tryz.sizeOf105
 v127:= Tryz.zeroValue105
 t143:= Tryz.underlying192
 a143:= Tryz.isAgg192
 z143:= Tryz.sizeOf192
 v143:= Tryz.zeroValue192
 t145:= Tryz.underlying194
 a145:= Tryz.isAgg194
 z145:= Tryz.sizeOf194
 v145:= Tryz.zeroValue194
 t167:= Tryz.underlying173
 a167:= Tryz.isAgg173
 z167:= Tryz.sizeOf173
 v167:= Tryz.zeroValue173
 t168:= Tryz.underlying176
 a168:= Tryz.isAgg176
 z168:= Tryz.sizeOf176
 v168:= Tryz.zeroValue176
 t171:= Tryz.underlying160
 a171:= Tryz.isAgg160
 z171:= Tryz.sizeOf160
 v171:= Tryz.zeroValue160
 t173:= Tryz.underlying163
 a173:= Tryz.isAgg163
 z173:= Tryz.sizeOf163
 v173:= Tryz.zeroValue163
 t175:= Tryz.underlying184
 a175:= Tryz.isAgg184
 z175:= Tryz.sizeOf184
 v175:= Tryz.zeroValue184
 t210:= Tryz.underlying188
 a210:= Tryz.isAgg188
 z210:= Tryz.sizeOf188
 v210:= Tryz.zeroValue188
 t212:= Tryz.underlying180
 a212:= Tryz.isAgg180
 z212:= Tryz.sizeOf180
 v212:= Tryz.zeroValue180
 t213:= Tryz.underlying181
 a213:= Tryz.isAgg181
 z213:= Tryz.sizeOf181
 t232:= Tryz.underlying195
 a232:= Tryz.isAgg195
 z232:= Tryz.sizeOf195
 v232:= Tryz.zeroValue195
 t233:= Tryz.underlying196
 a233:= Tryz.isAgg196
 z233:= Tryz.sizeOf196
 v233:= Tryz.zeroValue196
 g15:=by kernel_rfl
 g16:=by kernel_rfl
 g17:=by kernel_rfl
 g18:=by kernel_rfl
 g19:=by kernel_rfl
 t80:= Tryz.underlying82
 a80:= Tryz.isAgg82
 z80:= Tryz.sizeOf82
 v80:= Tryz.zeroValue82
 i0:=by kernel_rfl
 i2:=by kernel_rfl
 i3:=by kernel_rfl
 i4:=by kernel_rfl
 i5:=by kernel_rfl
 i9:=by kernel_rfl
 i20:=by kernel_rfl
 i21:=by kernel_rfl
 i37:=by kernel_rfl
 i46:=by kernel_rfl
 i51:=by kernel_rfl
 i53:=by kernel_rfl
 i75:=by kernel_rfl
 i76:=by kernel_rfl
 i80:=by kernel_rfl
 i85:=by kernel_rfl
 i127:=by kernel_rfl
 i143:=by kernel_rfl
 i145:=by kernel_rfl
 i167:=by kernel_rfl
 i168:=by kernel_rfl
 i171:=by kernel_rfl
 i173:=by kernel_rfl
 i175:=by kernel_rfl
 i210:=by kernel_rfl
 i212:=by kernel_rfl
 i232:=by kernel_rfl
 i233:=by kernel_rfl
 m15:=by kernel_rfl
 m16:=by kernel_rfl
 m17:=by kernel_rfl
 m18:=by kernel_rfl
 m19:=by kernel_rfl
 c0:=by kernel_rfl
 c2:=by kernel_rfl
 c3:=by kernel_rfl
 c4:=by kernel_rfl
 c5:=by kernel_rfl
 c9:=by kernel_rfl
 c20:=by kernel_rfl
 c21:=by kernel_rfl
 c37:=by kernel_rfl
 c46:=by kernel_rfl
 c51:=by kernel_rfl
 c53:=by kernel_rfl
 c75:=by kernel_rfl
 c76:=by kernel_rfl
 c80:=by kernel_rfl
 c85:=by kernel_rfl
 c127:=by kernel_rfl
 c143:=by kernel_rfl
 c145:=by kernel_rfl
 c167:=by kernel_rfl
 c168:=by kernel_rfl
 c171:=by kernel_rfl
 c173:=by kernel_rfl
 c175:=by kernel_rfl
 c210:=by kernel_rfl
 c212:=by kernel_rfl
 c213:=by kernel_rfl
 c232:=by kernel_rfl
 c233:=by kernel_rfl }
theorem Abb(i:Nat)(hi:i<9223372036854775808)(w:World):Calls Tryz.prog 123 #[.string ⟨(Lib.decDigits i).toArray⟩] w fun e w'=>e=.returned (.tuple #[.int .i64 i,.nilIface])/\Below w.heap.size w w':=by
 have h:= YtpmahmngmgnnbaaGreatDoor.atoi_dec i hi
 refine(Any.strconv_Atoi_ok Tryz.lays172 ⟨(Lib.decDigits i).toArray⟩ ?_ i h w).mono ?_
 ·have h1:=Lib.decDigits_length i
  have h2:ByteArray.size ⟨(Lib.decDigits i).toArray⟩=(Lib.decDigits i).length:=by simp[ByteArray.size]
  have h3:=Lib.nDigits_le20 i (by omega)
  rw[h2];omega
 ·rintro e w' ⟨rfl,rfl|⟨t,rfl⟩⟩
  ·exact⟨rfl,Below.refl _ _⟩
  ·refine⟨rfl,?_⟩
   exact Lib.bytesWorld_below _ _ _
end Go.Proofs

namespace Go.Proofs.YtpmahmngmgnnbaaGreatDoor
open Go.Dv Go.Nv Go.RowKit
set_option maxRecDepth 100000
open Go.IntKind (wrap)
mutual
def Ay:Val->List UInt8
 |.mk n l=>Lib.decDigits n.toNat++(A3 true l++(if l.isEmpty then[] else[41]))
def A3:Bool->List Val->List UInt8
 |_,[]=>[]
 |f,v::l=>(if f then 40 else 32)::(Ay v++A3 false l)
end
mutual
def smB:Val->Bool
 |.mk n l=>decide (0<=n)&&(decide (n<9223372036854775808)&&Dc l)
def Dc:List Val->Bool
 |[]=>true
 |v::l=>smB v&&Dc l
end
structure KnB(M:Mem)(B:Nat)(w:World):Prop where
 lt:∀b o v,M b o=some v->b<B
 at_:∀b o v,M b o=some v->w.cell? ⟨b,o,none⟩=some v
theorem KnB.on{M:Mem}{B:Nat}{w w':World}(h:KnB M B w)(hb:Below B w w'):KnB M B w':=⟨h.lt,fun b o v hm=>(hb.cell (h.lt b o v hm)).trans (h.at_ b o v hm)⟩
theorem Wq{B b:Nat}{l:List UInt8}{w:World}(h:IsB B b l w):B<=b/\b<w.heap.size:=by
 have:∀p,Lib.BuilderAtF 80 5 B b p (Lib.byteCells l) w->B<=b/\b<w.heap.size:=fun p h=>by
  obtain⟨h1,v,h2,_⟩:=h
  exact⟨h1,(Ir.1 h2).1⟩
 rcases h with h|h<;>exact this _ h
theorem LR{B b:Nat}{l:List UInt8}{w:World}(h:IsB B b l w)(o:Obj):IsB B b l (w.alloc o):=by
 have:∀p,Lib.BuilderAtF 80 5 B b p (Lib.byteCells l) w->Lib.BuilderAtF 80 5 B b p (Lib.byteCells l) (w.alloc o):=fun p h=>by
  obtain⟨h1,v,h2,h3,h4⟩:=h
  refine⟨h1,v,(Go.Lib.alloc_old w o b (Ir.1 h2).1).trans h2,⟨h3.1,?_⟩,h4⟩
  rcases h3.2 with h|⟨g,cap,cur,fz,rfl,a1,a2,a3⟩
  ·exact .inl h
  ·exact .inr ⟨g,cap,cur,fz,rfl,a1,(Go.Lib.alloc_old w o g (Ir.1 a2).1).trans a2,a3⟩
 rcases h with h|h
 ·exact .inl (this _ h)
 ·exact .inr (this _ h)
theorem TY{l:List Val}(h:Dc l=true):∀v∈l,smB v=true:=by
 induction l with
 |nil=>simp
 |cons x l ih=>
  simp only[Dc,Hy] at h
  intro v hv
  rcases Ib.1 hv with rfl|hv
  ·exact h.1
  ·exact ih h.2 v hv
theorem Lt:∀(l:List Val) (k:Nat) (h:k<l.length),Val.sizes (l.take k)+l[k].size<=Val.sizes l
 |v::l,0,h=>by simp[Val.sizes]
 |v::l,k+1,h=>by
  have:=Lt l k (by simpa using h)
  simp only[List.take_succ_cons,Val.sizes,List.getElem_cons_succ];omega
theorem AbJ(v:Val):(eV v).size=2:=by rw[Cb];rfl
theorem Nr{g:Gh}{w w':World}(h:WRep g ⟨[],[]⟩ w)(hb:Below w.heap.size w w'):WI ⟨g,w,⟨[],[]⟩⟩ g ⟨[],[]⟩ w' where
 rep:={ n:=h.n,mem:=fun b o v hm=>(hb.cell (p:=⟨b,o,none⟩) (h.mem_lt hm)).trans (h.mem b o v hm),obj:=fun i cs hi=>by simp at hi,inj:=fun i j cs ds hi=>by simp at hi,own:=fun k sz xs hx=>by simp at hx,tags:=by simp,sep:=fun x hx=>by simp at hx,ownObj:=fun x hx=>by simp at hx,fresh:=h.fresh,gl:=h.gl,gw:=h.gw.keep fun b hlt=>hb.block b hlt }
 M:=Mem.le_refl _
 size:=hb.size
 keep:=fun b hlt _=>⟨hb.block b hlt,fun _=>rfl⟩
 os:=hb.os
 tape:=hb.tape
 output:=hb.output
 nE:=H5 _
 βE:=fun _ _=>rfl
 κE:=fun _ _=>rfl
 objs:=fun i cs hi=>by simp at hi
 owns:=fun x hx=>by simp at hx
 drawn:=fun h=>h.elim
theorem FU{f:FuncId}{ds:List D}{d:D}(hc:Lb PP f)(h:∀(g:Gh) (w:World) (args:List Value),WRep g ⟨[],[]⟩ w->Ab g ds args->Calls PP f args.toArray w fun e w'=>∃u,e=.returned u/\Ac g d u/\Below w.heap.size w w'):Aa PP f ds σ0 d σ0:=by
 refine⟨hc,fun g w args hw ha=>(h g w args hw ha).mono ?_⟩
 rintro e w' ⟨u,rfl,h1,h2⟩
 exact⟨u,g,rfl,Nr hw h2,h1⟩
theorem V9{g:Gh}{w w':World}{g':Gh}{σ':St}(h:WI ⟨g,w,⟨[],[]⟩⟩ g' σ' w'):Below w.heap.size w w':=⟨h.os,h.tape,h.output,h.size,fun b hb=>(h.keep b hb Fl).1⟩
end Go.Proofs.YtpmahmngmgnnbaaGreatDoor

namespace Go.Proofs
open Go.Shelf Go.RowKit Go.Dv
open Go.IntKind (wrap)
def Tryz.laysM171_ren:Go.Shelf.Ren:=⟨fun|129=>178|171=>63|243=>94|246=>125|283=>156|284=>157|285=>158|286=>159|317=>177|318=>179|319=>180|320=>181|337=>188|338=>189|n=>n,fun|0=>0|2=>2|3=>3|4=>4|5=>5|9=>9|20=> 20 |37=>22|46=>158|51=>170|53=>120|171=>160|173=>163|212=>180|213=>181|232=>195|233=>196|n=>n,fun|17=> 2 |18=> 5 |19=> 6 |n=>n⟩
theorem Tryz.laysM171:Go.Proofs.LaysM.n171 Tryz.prog Tryz.laysM171_ren:={
 mixed:=by kernel_rfl
 f129:= Tryz.func178.trans (HL some (by kernel_rfl))
 f171:= Tryz.func63.trans (HL some (by kernel_rfl))
 f243:= Tryz.func94.trans (HL some (by kernel_rfl))
 f246:= Tryz.func125.trans (HL some (by kernel_rfl))
 f283:= Tryz.func156.trans (HL some (by kernel_rfl))
 f284:= Tryz.func157.trans (HL some (by kernel_rfl))
 f285:= Tryz.func158.trans (HL some (by kernel_rfl))
 f286:= Tryz.func159.trans (HL some (by kernel_rfl))
 f317:= Tryz.func177.trans (HL some (by kernel_rfl))
 f318:= Tryz.func179.trans (HL some (by kernel_rfl))
 f319:= Tryz.func180.trans (HL some (by kernel_rfl))
 f320:= Tryz.func181.trans (HL some (by kernel_rfl))
 f337:= Tryz.func188.trans (HL some (by kernel_rfl))
 f338:= Tryz.func189.trans (HL some (by kernel_rfl))
 t0:= Tryz.underlying0
 a0:= Tryz.isAgg0
 z0:= Tryz.sizeOf0
 v0:= Tryz.zeroValue0
 t2:= Tryz.underlying2
 a2:= Tryz.isAgg2
 z2:= Tryz.sizeOf2
 v2:= Tryz.zeroValue2
 t3:= Tryz.underlying3
 a3:= Tryz.isAgg3
 z3:= Tryz.sizeOf3
 v3:= Tryz.zeroValue3
 t4:= Tryz.underlying4
 a4:= Tryz.isAgg4
 z4:= Tryz.sizeOf4
 v4:= Tryz.zeroValue4
 t5:= Tryz.underlying5
 a5:= Tryz.isAgg5
 z5:= Tryz.sizeOf5
 v5:= Tryz.zeroValue5
 t9:= Tryz.underlying9
 a9:= Tryz.isAgg9
 z9:= Tryz.sizeOf9
 v9:= Tryz.zeroValue9
 t20:= Tryz.underlying20
 a20:= Tryz.isAgg20
 z20:= Tryz.sizeOf20
 v20:= Tryz.zeroValue20
 t37:= Tryz.underlying22
 a37:= Tryz.isAgg22
 z37:= Tryz.sizeOf22
 v37:= Tryz.zeroValue22
 t46:= Tryz.underlying158
 a46:= Tryz.isAgg158
 z46:= Tryz.sizeOf158
 v46:= Tryz.zeroValue158
 t51:= Tryz.underlying170
 a51:= Tryz.isAgg170
 z51:= Tryz.sizeOf170
 v51:= Tryz.zeroValue170
 t53:= Tryz.underlying120
 a53:= Tryz.isAgg120
 z53:= Tryz.sizeOf120
 v53:= Tryz.zeroValue120
 t171:= Tryz.underlying160
 a171:= Tryz.isAgg160
 z171:= Tryz.sizeOf160
 v171:= Tryz.zeroValue160
 t173:= Tryz.underlying163
 a173:= Tryz.isAgg163
 z173:= Tryz.sizeOf163
 v173:= Tryz.zeroValue163
 t212:= Tryz.underlying180
 a212:= Tryz.isAgg180
 z212:= Tryz.sizeOf180
 v212:= Tryz.zeroValue180
 t213:= Tryz.underlying181
 a213:= Tryz.isAgg181
 z213:= Tryz.sizeOf181
 t232:= Tryz.underlying195
 a232:= Tryz.isAgg195
 z232:= Tryz.sizeOf195
 v232:= Tryz.zeroValue195
 t233:= Tryz.underlying196
 a233:= Tryz.isAgg196
 z233:= Tryz.sizeOf196
 v233:= Tryz.zeroValue196
 g17:=by kernel_rfl
 g18:=by kernel_rfl
 g19:=by kernel_rfl
 i0:=by kernel_rfl
 i2:=by kernel_rfl
 i3:=by kernel_rfl
 i4:=by kernel_rfl
 i5:=by kernel_rfl
 i9:=by kernel_rfl
 i20:=by kernel_rfl
 i37:=by kernel_rfl
 i46:=by kernel_rfl
 i51:=by kernel_rfl
 i53:=by kernel_rfl
 i171:=by kernel_rfl
 i173:=by kernel_rfl
 i212:=by kernel_rfl
 i232:=by kernel_rfl
 i233:=by kernel_rfl
 m17:=by kernel_rfl
 m18:=by kernel_rfl
 m19:=by kernel_rfl }
end Go.Proofs
namespace Go.Proofs.YtpmahmngmgnnbaaGreatDoor
open Go.Dv Go.Nv Go.RowKit
set_option maxRecDepth 100000
open Go.IntKind (wrap)
theorem YE{g:Gh}{σ:St}{w:World}(h:WRep g σ w):Lib.TabIs PP w "internal/strconv.uint64pow10" .u64 Lib.pow10Tab:=by
 obtain⟨us,h1,h2⟩:=h.gl.known (2,WL) (by simp[Y1])
 obtain⟨cs,e,x,h3,h4⟩:=h.gw (2,20) (by simp[E1])
 have hus:us=Lib.pow10Tab.map fun z=>Value.int .u64 z:=by
  simp only[WL,repC,repA] at h2
  obtain⟨_,_,rfl,_,e0,_,_,rfl,_,e1,_,_,rfl,_,e2,_,_,rfl,_,e3,_,_,rfl,_,e4,_,_,rfl,_,e5,_,_,rfl,_,e6,_,_,rfl,_,e7,_,_,rfl,_,e8,_,_,rfl,_,e9,_,_,rfl,_,e10,_,_,rfl,_,e11,_,_,rfl,_,e12,_,_,rfl,_,e13,_,_,rfl,_,e14,_,_,rfl,_,e15,_,_,rfl,_,e16,_,_,rfl,_,e17,_,_,rfl,_,e18,_,_,rfl,_,e19,rfl⟩:=h2
  simp only[HB,HZ] at e0 e1 e2 e3 e4 e5 e6 e7 e8 e9 e10 e11 e12 e13 e14 e15 e16 e17 e18 e19
  rw[e0,e1,e2,e3,e4,e5,e6,e7,e8,e9,e10,e11,e12,e13,e14,e15,e16,e17,e18,e19]
  rfl
 have hul:us.length=20:=by rw[hus,Hw,Lib.pow10Tab_length]
 have hcs:cs=us.toArray:=by
  apply Array.ext
  ·rw[h4];simp[hul]
  ·intro i hi1 hi2
   have hj:us[i]?=some us[i]:=Hx (by simpa using hi2)
   have:=h.mem _ _ _ (h1 i _ hj)
   rw[Lib.cell_of_heap h3] at this
   have h5:cs[i]?=some us[i]:=by simpa using this
   rw[Array.getElem?_eq_getElem hi1] at h5
   simpa using h5
 show World.var? PP w "internal/strconv.uint64pow10"=_
 unfold World.var?
 rw[show PP.globalNamed "internal/strconv.uint64pow10"=some 2 by kernel_rfl]
 simp only[Option.bind_some,h3]
 rw[hcs,hus]
structure Y0(B:Nat)(w:World):Prop where
 lt: 2 <B
 is:Lib.TabIs PP w "internal/strconv.uint64pow10" .u64 Lib.pow10Tab
theorem Y0.on{B:Nat}{w w':World}(h:Y0 B w)(hb:Below B w w'):Y0 B w':=⟨h.lt,by
 have h1:=h.is
 unfold Lib.TabIs World.var? at h1⊢
 rw[show PP.globalNamed "internal/strconv.uint64pow10"=some 2 by kernel_rfl] at h1⊢
 simp only[Option.bind_some] at h1⊢
 rw[hb.block _ h.lt];exact h1⟩
theorem Py(w:World)(k:Nat)(os:Array Obj):Below w.heap.size w (Sort.grow (w.drewN k) os):=
 ⟨rfl,rfl,rfl,by rw[Sort.size_grow];exact Nat.le_add_right _ _,fun b hb=>Sort.heap_grow_old (w.drewN k) os hb⟩
theorem Aax(n:Int)(h0: -9223372036854775808<=n/\n<=9223372036854775807)(w:World)(ht:Lib.TabIs PP w "internal/strconv.uint64pow10" .u64 Lib.pow10Tab):
  Calls Tryz.prog 63 #[.int .i64 n] w fun e w'=>e=.returned (.string ⟨(Lib.itoa n).toArray⟩)/\Below w.heap.size w w':=by
 refine(Any.strconv_Itoa Tryz.laysM171 n h0.1 h0.2 w ht).mono ?_
 rintro e w' ⟨rfl,k,os,rfl⟩
 exact⟨rfl,Py w k os⟩
theorem XG{B b:Nat}{l:List UInt8}{w w':World}(h:IsB B b l w)(ho:∀x,x<w.heap.size->w'.heap[x]?=w.heap[x]?):IsB B b l w':=by
 have:∀p,Lib.BuilderAtF 80 5 B b p (Lib.byteCells l) w->Lib.BuilderAtF 80 5 B b p (Lib.byteCells l) w':=fun p h=>by
  obtain⟨h1,v,h2,h3,h4⟩:=h
  refine⟨h1,v,(ho b (Ir.1 h2).1).trans h2,⟨h3.1,?_⟩,h4⟩
  rcases h3.2 with h|⟨g,cap,cur,fz,rfl,a1,a2,a3⟩
  ·exact .inl h
  ·exact .inr ⟨g,cap,cur,fz,rfl,a1,(ho g (Ir.1 a2).1).trans a2,a3⟩
 rcases h with h|h
 ·exact .inl (this _ h)
 ·exact .inr (this _ h)
mutual
def Au:Val->List UInt8
 |.mk n l=>Lib.itoa n++(AR true l++(if l.isEmpty then[] else[41]))
def AR:Bool->List Val->List UInt8
 |_,[]=>[]
 |f,v::l=>(if f then 40 else 32)::(Au v++AR false l)
end
mutual
def rgB:Val->Bool
 |.mk n l=>decide (-9223372036854775808<=n)&&(decide (n<=9223372036854775807)&&CT l)
def CT:List Val->Bool
 |[]=>true
 |v::l=>rgB v&&CT l
end
theorem EY(f:Bool)(v:Val):∀l:List Val,AR f (l++[v])=AR f l++(if f&&l.isEmpty then 40 else 32)::Au v
 |[]=>by cases f<;>simp[AR]
 |x::l=>by
  have h:=EY false v l
  simp only[IW,AR,h,List.isEmpty_cons,IR,HT,I4,IV,if_false]
theorem K2{l:List Val}(h:CT l=true):∀v∈l,rgB v=true:=by
 induction l with
 |nil=>simp
 |cons x l ih=>
  simp only[CT,Hy] at h
  intro v hv
  rcases Ib.1 hv with rfl|hv
  ·exact h.1
  ·exact ih h.2 v hv
mutual
theorem Cp:∀v:Val,rgB v=true->(Au v).length+2<=25*v.size
 |.mk n l,h=>by
  simp only[rgB,Hy,H8] at h
  have h1:=FT l h.2.2 true
  have h2:=Lib.itoa_length_le n h.1 h.2.1
  simp only[Au,HC,Val.size]
  split<;>simp<;>omega
theorem FT:∀l:List Val,CT l=true->∀f,(AR f l).length<=25*Val.sizes l
 |[],_,f=>by simp[AR]
 |v::l,h,f=>by
  simp only[CT,Hy] at h
  have h1:=Cp v h.1
  have h2:=FT l h.2 false
  simp only[AR,H3,HC,Val.sizes];omega
end
theorem EX:∀l:List Val,CT l=true->∀f k,(AR f (l.take k)).length<=25*Val.sizes (l.take k)
 |[],_,f,k=>by simp[AR]
 |v::l,h,f,0=>by simp[AR]
 |v::l,h,f,k+1=>by
  simp only[CT,Hy] at h
  have h1:=Cp v h.1
  have h2:=EX l h.2 false k
  simp only[List.take_succ_cons,AR,H3,HC,Val.sizes];omega
theorem WE(M:Mem)(N:Nat):∀v:Val,v.size<=N->rgB v=true->∀(l:List UInt8) (B b:Nat) (w:World) (n:Int) (a:Option Addr) (len cap:Nat),IsB B b l w->B<=w.heap.size->KnB M B w->Y0 B w->
  repC M (eV v) [.int .i64 n,.slice a len cap]->l.length+60*v.size<=1000000->
  Calls Tryz.prog 41 #[.pointer (some ⟨b,0,none⟩),.agg #[.int .i64 n,.slice a len cap]] w fun e w'=>e=.returned (.tuple #[])/\IsB B b (l++Au v) w'/\Below B w w'/\Lib.OthersKept 5 (some b) w w':=by
 induction N with
 |zero=>intro v hv;have:=v.size_pos;omega
 |succ N ih=>
  intro v hv hs l B b w n a len cap hB hBw hK hT hr hlen
  cases v with
  |mk n0 ks=>
  rw[Cb] at hr
  simp only[repC,repA,Val.n,Val.kids] at hr
  obtain⟨_,_,e1,_,e2,_,_,e3,_,⟨a',cap',e4,hcap,hsl⟩,e5⟩:=hr
  cases e1
  cases e3
  obtain rfl:n=n0:=by simpa using e2
  rw[Hw] at e4 hcap
  obtain⟨rfl,rfl,rfl⟩:a=a'/\len=ks.length/\cap=cap':=by simpa using e4
  have hsk:CT ks=true/\ -9223372036854775808<=n/\n<=9223372036854775807:=by simp only[rgB,Hy,H8] at hs;exact⟨hs.2.2,hs.1,hs.2.1⟩
  obtain⟨hks,hn0⟩:=hsk
  have hdl:(Lib.itoa n).length<=21:=Lib.itoa_length_le n hn0.1 hn0.2
  have hTi:=Lib.hid hT
  have hn0:=Lib.hid hn0
  clear hs e2 e4 hT
  have hbl:=Wq hB
  have hsz:Hid ((Val.mk n ks).size=Val.sizes ks+1):=by show _=_;simp only[Val.size];omega
  have hkm:ks.length<=1000000:=by have:=hsz.out;have:=Val.length_le ks;omega
  have hsl:=Lib.hid hsl
  have hv:=Lib.hid hv
  clear hcap
  go_enter Tryz.func41, Tryz.ntmps41
  go_wp2_with (go_at_call 63;refine(Aax n hn0.out _ ((hTi.out.on ((Below.refl B w).alloc hBw _)).is)).mono ?_;rintro e w1 ⟨rfl,hb1⟩;refine Hid.out ?_)
  refine Lib.hid ?_
  have hBw1:Hid (Below B w w1):=((Below.refl B w).alloc hBw _).trans (hb1.mono (by simp;omega))
  have hB1:Hid (IsB B b l w1):=XG (LR hB _) fun x hx=>hb1.block x hx
  have hO1:Hid (Lib.OthersKept 5 (some b) w w1):=fun k o h1 _ _=>by
   have hlt:=(Ir.1 h1).1
   exact(hb1.block k (by simp;omega)).trans ((Go.Lib.alloc_old w _ k hlt).trans h1)
  have hpc:=Lib.hid ((hb1.block w.heap.size (by simp)).trans (heap_alloc_new w _))
  have hz1:Hid (w.heap.size<w1.heap.size/\B<=w1.heap.size):=by have:=hb1.size;simp at this;exact⟨by omega,by omega⟩
  clear hb1
  go_wp2_with (go_at_call 62;refine(Abt B b l _ (Lib.itoa n) hB1.out (by omega) hz1.out.2).mono ?_;rintro e w2 ⟨rfl,hB2,hb2,ho2⟩;refine Hid.out ?_)
  refine Lib.hid ?_
  have hk2:=ho2 w.heap.size _ hpc.out (by simp;omega) (by simp)
  have c1:w2.cell? ⟨w.heap.size,1,none⟩=some (.slice a ks.length cap):=by rw[Lib.cell_of_heap hk2];rfl
  go_wp2
  go_loopw [14] (fun v wr=>∃k:Nat,k<=ks.length/\v=.int .i64 k/\IsB B b (l++Lib.itoa n++AR true (ks.take k)) wr/\Below B w2 wr/\Lib.OthersKept 5 (some b) w2 wr) (fun v _=>ks.length- (intOf v).toNat)
  case atStart=>exact⟨0,HW _,rfl,by simpa[AR] using hB2,Below.refl _ _,Lib.OthersKept.refl _ _ _⟩
  case round=>
   obtain⟨k,hkl,rfl,hBr,hbr,hor⟩:=hrel
   by_cases hk:k<ks.length
   ·rcases hsl.out with h|⟨bk,off,sz,us,rfl,_,hin,hre⟩
    ·have h0:ks=[]:=by simpa using h
     rw[h0] at hk;simp at hk
    have hx:(ks.map eV)[k]?=some (eV ks[k]):=by simp[hk]
    obtain⟨u1,hr1,hl1,hg1⟩:=G0 hre hx
    have h2:=DX hr1
    rw[AbJ] at h2
    obtain rfl:sz=2:=by omega
    obtain⟨n1,a1,len1,cap1,rfl⟩:∃n1 a1 len1 cap1,u1=[Value.int .i64 n1,.slice a1 len1 cap1]:=by
     have hr2:=hr1
     rw[Cb] at hr2
     simp only[repC,repA] at hr2
     obtain⟨_,_,e1,_,e2,_,_,e3,_,⟨a',cap',e4,_⟩,e5⟩:=hr2
     simp only[HB,HZ] at e2 e4
     exact⟨_,_,_,_,by rw[e1,e3,e5,e2,e4]⟩
    have g0:=hin _ _ (hg1 0 _ rfl)
    have g1:=hin _ _ (hg1 1 _ rfl)
    have hKr:=((hK.on hBw1.out).on hb2).on hbr
    have ca:wr.cell? ⟨bk,off+k*2,none⟩=some (.int .i64 n1):=hKr.at_ _ _ _ g0
    have cb:wr.cell? ⟨bk,off+k*2+1,none⟩=some (.slice a1 len1 cap1):=hKr.at_ _ _ _ g1
    clear hKr g0 g1
    clear hl1 hg1 h2 hx hre hin
    have hlk:Hid ((l++Lib.itoa n++AR true (ks.take k)).length<=l.length+21+25*Val.sizes (ks.take k)/\Val.sizes (ks.take k)+ks[k].size<=Val.sizes ks):=by
     have h1:=EX ks hks true k
     have h2:=Lt ks k hk
     exact⟨by simp only[HC];omega,h2⟩
    have hwr:B<=wr.heap.size/\b<wr.heap.size:=⟨by have:=hbr.size;have:=hb2.size;have:=hz1.out;omega,(Wq hBr).2⟩
    go_wp2_with (go_at_call 64;refine(Y6 B b _ _ _ (LR hBr _) (by have:=hlk.out;have:=hsz.out;omega) (by simp;omega)).mono ?_;rintro e w3 ⟨rfl,hB3,hb3,ho3⟩;refine Hid.out ?_)
    refine Lib.hid ?_
    have hk3:=ho3 wr.heap.size _ (heap_alloc_new wr _) (by simp;omega) (by simp)
    have d0:w3.cell? ⟨wr.heap.size,0,none⟩=some (.int .i64 n1):=by rw[Lib.cell_of_heap hk3];rfl
    have d1:w3.cell? ⟨wr.heap.size,1,none⟩=some (.slice a1 len1 cap1):=by rw[Lib.cell_of_heap hk3];rfl
    have hB3:=Lib.hid hB3
    have hKr3:=Lib.hid (((((hK.on hBw1.out).on hb2).on hbr).on ((Below.refl B wr).alloc hwr.1 _)).on hb3)
    have hTr3:=Lib.hid (((((hTi.out.on hBw1.out).on hb2).on hbr).on ((Below.refl B wr).alloc hwr.1 _)).on hb3)
    have hmem:Hid (ks[k].size<=Val.sizes ks/\rgB ks[k]=true/\ks[k].size<=N):=by
     have h1:=Val.size_mem (List.getElem_mem hk)
     have h2:=hsz.out
     exact⟨h1,K2 hks _ (List.getElem_mem hk),by have:=hv.out;omega⟩
    clear hk3
    go_wp2_with (go_at_call 41;refine(ih ks[k] hmem.out.2.2 hmem.out.2.1 _ B b w3 n1 a1 len1 cap1 hB3.out (by have:=hb3.size;simp at this;omega) hKr3.out hTr3.out hr1 (by have:=hlk.out;have:=hsz.out;have:=hmem.out;simp only[HC,H3,H7] at*;omega)).mono ?_;rintro e w4 ⟨rfl,hB4,hb4,ho4⟩;refine Hid.out ?_)
    refine Lib.hid ?_
    go_wp2
    go_roundw
    case rel=>
     refine⟨k+1,by omega,by go_num,?_,((hbr.trans ((Below.refl B wr).alloc hwr.1 _)).trans hb3).trans hb4,((hor.trans ((Lib.OthersKept.refl _ _ wr).alloc _)).trans ho3).trans ho4⟩
     rw[List.take_succ_eq_append_getElem hk,EY]
     have hch:∀(j:Nat) (h:((min (k:Int) 1)).toNat<({ data:= #[40,32]}:ByteArray).size),({ data:= #[40,32]}:ByteArray)[((min (k:Int) 1)).toNat]'h=(if (true&&(ks.take k).isEmpty)=true then 40 else 32):=fun _ h=>by
      rcases Nat.eq_zero_or_pos k with rfl|hp
      ·simp;rfl
      ·have h1:(min (k:Int) 1).toNat=1:=by omega
       have h2:(ks.take k).isEmpty=false:=by
        cases ks with
        |nil=>simp at hk
        |cons x r=>cases k with
         |zero=>omega
         |succ k=>rfl
       simp only[h1,h2];rfl
     rw[hch 0] at hB4
     simpa only[I4,List.singleton_append,IW,List.nil_append] using hB4
    case measure=>simp[intOf];omega
   ·have hk:k=ks.length:=by omega
    subst hk
    rw[List.take_length] at hBr
    have hk5:=hor w.heap.size _ hk2 (by simp;omega) (by simp)
    have e1:wr.cell? ⟨w.heap.size,1,none⟩=some (.slice a ks.length cap):=by rw[Lib.cell_of_heap hk5];rfl
    have hbw:B<=wr.heap.size:=by have:=hbr.size;have:=hb2.size;have:=hz1.out;omega
    have htx:Hid (Au (.mk n ks)=Lib.itoa n++(AR true ks++(if ks.isEmpty then[] else[41]))):=rfl
    have hfin:Hid (Below B w wr/\Lib.OthersKept 5 (some b) w wr):=⟨(hBw1.out.trans hb2).trans hbr,(hO1.out.trans ho2).trans hor⟩
    have hlk:Hid ((l++Lib.itoa n++AR true ks).length+1<=140737488355328):=by
     have h1:=FT ks hks true
     have h2:=hsz.out
     show _<=_
     simp only[HC];omega
    clear hk5
    by_cases he:0<ks.length
    ·go_wp2_with (go_at_call 64;refine(Y6 B b _ _ 41 hBr hlk.out hbw).mono ?_;rintro e w3 ⟨rfl,hB3,hb3,ho3⟩;refine Hid.out ?_)
     refine Lib.hid ?_
     go_wp2
     go_end0
     have h1:ks.isEmpty=false:=by cases ks<;>simp at he⊢
     refine⟨rfl,?_,hfin.out.1.trans hb3,hfin.out.2.trans ho3⟩
     rw[htx.out,h1]
     simpa only[I4,IV,if_false] using hB3
    ·go_wp2
     go_end0
     have h1:ks.isEmpty=true:=by cases ks<;>simp at he⊢
     refine⟨rfl,?_,hfin.out.1,hfin.out.2⟩
     rw[htx.out,h1]
     simpa only[I4,I6,Il] using hBr
theorem DY(v:Val)(hv:rgB v=true)(hs:v.size<=128):Aa PP 25 [dV v] σ0 (.tup [ds (Au v),di 0]) σ0:=by
 refine FU ⟨_, Tryz.func25,by kernel_rfl,by kernel_rfl⟩ fun g w args hw ha=>?_
 obtain⟨u0,rfl,h0⟩:=Av.1 ha
 have hr:repC g.M (eV v) u0.cells.toList:=by
  rw[Cb];simp only[Ac] at h0;exact E8 h0
 obtain⟨n1,a1,len1,cap1,rfl⟩:∃n1 a1 len1 cap1,u0=.agg #[Value.int .i64 n1,.slice a1 len1 cap1]:=by
  simp only[Ac,BR] at h0
  obtain⟨ws,h1,rfl⟩:=h0
  simp only[repC,repA] at h1
  obtain⟨_,_,rfl,_,e2,_,_,rfl,_,⟨a',cap',e4,_⟩,rfl⟩:=h1
  simp only[HB,HZ] at e2 e4
  exact⟨_,_,_,_,by rw[e2,e4]⟩
 have hr:repC g.M (eV v) [.int .i64 n1,.slice a1 len1 cap1]:=hr
 have hK:KnB g.M w.heap.size w:=⟨fun b o x h=>hw.mem_lt h,hw.mem⟩
 have hT0:Y0 w.heap.size w:=⟨hw.gw.lt (p:=(2,20)) (by simp[E1]),YE hw⟩
 have hsz:∀w1:World,WRep g ⟨[],[]⟩ w1->Calls PP 40 #[.agg #[Value.int .i64 n1,.slice a1 len1 cap1]] w1 fun e w'=>e=.returned (.int .i64 v.size)/\Below w1.heap.size w1 w':=fun w1 hw1=>by
  refine((JL v).2 g w1 [.agg #[Value.int .i64 n1,.slice a1 len1 cap1]] hw1 ha).mono ?_
  rintro e w' ⟨u,g',rfl,h1,h2⟩
  rw[show min (v.size:Int) 129=v.size by omega] at h2
  simp only[Ac,As] at h2
  exact⟨by rw[h2],V9 h1⟩
 have hw1:=Lib.hid (Nr hw ((Below.refl _ w).alloc (H5 _) (.cells #[.int .i64 n1,.slice a1 len1 cap1] 25))).rep
 have hL:(Au v).length<=3200:=by have:=Cp v hv;omega
 clear h0 ha hw
 go_enter Tryz.func25, Tryz.ntmps25
 go_wp2_with (go_at_call 40;refine(hsz _ hw1.out).mono ?_;rintro e w1 ⟨rfl,hb1⟩;refine Hid.out ?_)
 refine Lib.hid ?_
 have hbox:=hb1.block w.heap.size (by simp)
 rw[heap_alloc_new] at hbox
 have hlt:w.heap.size<w1.heap.size:=by have:=hb1.size;simp at this;omega
 have hb1:=Lib.hid hb1
 have c0:∀o,(w1.alloc o).cell? ⟨w.heap.size,0,none⟩=some (.int .i64 n1):=fun o=>by rw[Lib.cell_of_heap ((Go.Lib.alloc_old w1 o _ hlt).trans hbox)];rfl
 have c1:∀o,(w1.alloc o).cell? ⟨w.heap.size,1,none⟩=some (.slice a1 len1 cap1):=fun o=>by rw[Lib.cell_of_heap ((Go.Lib.alloc_old w1 o _ hlt).trans hbox)];rfl
 have hfr:Hid (IsB w1.heap.size w1.heap.size [] (w1.alloc (.cells #[.pointer none,.slice none 0 0] 80))):=Lib.IsBuilderF.of (Lib.fresh_isBuilder 80 5 w1)
 have hb2:∀o,Below w.heap.size w (w1.alloc o):=fun o=>(((Below.refl _ w).alloc (H5 _) _).trans (hb1.out.mono (by simp))).alloc (by omega) o
 have hb3:∀o,Below w1.heap.size w1 (w1.alloc o):=fun o=>(Below.refl _ w1).alloc (H5 _) o
 have hKw:Hid (∀o,KnB g.M w1.heap.size (w1.alloc o)):=fun o=>⟨fun b x y h=>Nat.lt_trans (hK.lt b x y h) hlt,fun b x y h=>((hb2 o).cell (p:=⟨b,x,none⟩) (hK.lt b x y h)).trans (hK.at_ b x y h)⟩
 have hTw:Hid (∀o,Y0 w1.heap.size (w1.alloc o)):=fun o=>⟨Nat.lt_trans hT0.lt hlt,(hT0.on (hb2 o)).is⟩
 have hb2:=Lib.hid hb2
 clear hbox hb3 hw1 hsz hT0
 have hs:=Lib.hid hs
 go_wp2_with (go_at_call 41;refine(WE g.M 128 v hs.out hv [] w1.heap.size w1.heap.size _ n1 a1 len1 cap1 hfr.out (by simp) (hKw.out _) (hTw.out _) hr (by have:=hs.out;simp;omega)).mono ?_;rintro e w2 ⟨rfl,hB2,hb4,_⟩;refine Hid.out ?_)
 refine Lib.hid ?_
 go_wp2_with (go_at_call 42;refine(AbL w1.heap.size w1.heap.size _ w2 hB2 (by have:=hb4.size;simp at this;omega)).mono ?_;rintro e w3 ⟨rfl,hb5⟩;refine Hid.out ?_)
 refine Lib.hid ?_
 go_wp2
 go_ret2
 refine⟨_,rfl,?_,((hb2.out _).trans (hb4.mono (Nat.le_of_lt hlt))).trans (hb5.mono (Nat.le_of_lt hlt))⟩
 simp only[Ac,List.nil_append]
 exact⟨_,rfl,Am.2 ⟨_,_,rfl,by simp only[Ac,AI];rfl,by simp only[Ac,As];rfl⟩⟩
mutual
theorem CE:∀v:Val,smB v=true->Au v=Ay v
 |.mk n l,h=>by
  simp only[smB,Hy,H8] at h
  have h1:=Lq l h.2.2 true
  have h2:Lib.itoa n=Lib.decDigits n.toNat:=by unfold Lib.itoa;rw[HF (by omega)]
  simp only[Au,Ay,h1,h2]
theorem Lq:∀l:List Val,Dc l=true->∀f,AR f l=A3 f l
 |[],_,f=>rfl
 |v::l,h,f=>by
  simp only[Dc,Hy] at h
  simp only[AR,A3,CE v h.1,Lq l h.2 false]
end
mutual
theorem TZ:∀v:Val,smB v=true->rgB v=true
 |.mk n l,h=>by
  simp only[smB,Hy,H8] at h
  simp only[rgB,Hy,H8]
  exact⟨by omega,by omega,VR l h.2.2⟩
theorem VR:∀l:List Val,Dc l=true->CT l=true
 |[],_=>rfl
 |v::l,h=>by
  simp only[Dc,Hy] at h
  simp only[CT,Hy]
  exact⟨TZ v h.1,VR l h.2⟩
end
theorem F6(v:Val)(h:smB v=true):(Ay v).length+2<=25*v.size:=by rw[←CE v h];exact Cp v (TZ v h)
theorem JK(v:Val)(hv:smB v=true)(hs:v.size<=128):Aa PP 25 [dV v] σ0 (.tup [ds (Ay v),di 0]) σ0:=by
 rw[←CE v hv];exact DY v (TZ v hv) hs
end Go.Proofs.YtpmahmngmgnnbaaGreatDoor

namespace Go.Proofs.YtpmahmngmgnnbaaGreatDoor
open Go.Dv Go.Nv
set_option maxRecDepth 20000
open List (drop_take take)
open Go.IntKind (wrap)
theorem SF(i:Nat):∀c∈Lib.decDigits i,48<=c.toNat/\c.toNat<=57:=Nm i
theorem Y7:V.int .u8 40=vb 40:=by kernel_rfl
theorem Abg:V.int .u8 45=vb 45:=by kernel_rfl
theorem T4:V.int .u8 32=vb 32:=by kernel_rfl
theorem Aae:V.int .u8 41=vb 41:=by kernel_rfl
def b40:UInt8:=40
theorem J5(i:Nat)(hi:i<9223372036854775808):Aa PP 123 [ds (Lib.decDigits i)] σ0 (.tup [di i,.raw .nilIface]) σ0:=by
 refine FU ⟨_, Tryz.func123,by kernel_rfl,by kernel_rfl⟩ fun g w args hw ha=>?_
 obtain⟨u0,rfl,h0⟩:=Av.1 ha
 simp only[Ac,AI] at h0
 subst h0
 refine(Abb i hi w).mono ?_
 rintro e w' ⟨rfl,hb⟩
 refine⟨_,rfl,?_,hb⟩
 simp only[Ac]
 exact⟨_,rfl,Am.2 ⟨_,_,rfl,by simp only[Ac,As],by simp only[Ac]⟩⟩
theorem Et{P:Program}{o:Oper}{σ:St}{t ty:TypeId}{x:Operand}(ho:o.op=.binOp .neq t x (.const .nilIface) ty)(hi:P.underlying t=some (.interface (P.methodsAt t))):Ap P o [.raw .nilIface,.undef] σ (db false) σ:=by
 intro E g a w K Q hw hds hK
 simp only[ho,Op.operands] at hds
 obtain⟨u,v,e,h1,_⟩:=Am.1 hds
 simp only[HO,Iu,HB,HZ] at e
 obtain⟨e1,e2⟩:=e
 simp only[Ac] at h1
 subst h1
 have e3:a.eval (.const .nilIface)=.nilIface:=rfl
 unfold Oper.wp
 have:(execOp a.eval o).run P w=.ok (.value (.bool false)) w:=by
  simp[execOp,ho,e1,e3,eqGuard,binOp,run_equal_nil_nil w t hi]
 rw[this]
 exact hK g w _ hw g.le_refl (by simp[Ac])
noncomputable abbrev D0:Func:= Tryz.f91
noncomputable def Ce:Code:=D0.body.getD .skip
abbrev D9(s:List UInt8)(at_ n:Nat):St:=⟨[some (cRd s at_ n false),some [di 0,.v .nils]],[]⟩
theorem JA(s:List UInt8)(hs:s.length<=1000000)(p n:Nat)(v:Val)(q n':Nat)(tl:List UInt8):∀(dg:List UInt8) (at_:Nat),(∀c∈dg,48<=c.toNat/\c.toNat<=57)->s.drop at_=dg++tl->
  Rn PP D0 1 (dV v) (rd s q n' false) ([.lp (sub Ce [1,1,1,0,0,0]),.blk 0,.code (sub Ce [1,1,1,1])]++[]) (mkE 125 [(0,.ptr 0 0),(2,.ptr 1 0),(3,di p)]) (D9 s (at_+dg.length) n)->
  Rn PP D0 1 (dV v) (rd s q n' false) ([.lp (sub Ce [1,1,1,0,0,0]),.blk 0,.code (sub Ce [1,1,1,1])]++[]) (mkE 125 [(0,.ptr 0 0),(2,.ptr 1 0),(3,di p)]) (D9 s at_ n)
 |[],at_,_,_,h=>h
 |c::dg,at_,hd,hdr,h=>by
  have ih:=JA s hs p n v q n' tl dg (at_+1) (fun x hx=>hd x (by simp[hx])) (by rw[←List.drop_drop,hdr];rfl) (by
   rw[H3] at h
   rwa[show at_+1+dg.length=at_+(dg.length+1) by omega])
  have hc:=hd c (by simp)
  have hx:s[at_]?=some c:=by
   have:=HL (·[0]?) hdr
   simpa using this
  have hlt:=(H0.1 hx).1
  refine lv 125 [] (.t<|.y c<|.t<|.y c<|.t<|.ls [ke 0,ke 2,ke 3] (D9 s (at_+1) n)) (decide ((at_:Int)<(s.length:Int))=true/\0<=(at_:Int)/\s[Int.toNat (at_:Int)]?=some c/\decide ((↑(UInt8.toNat c):Int)>=48)=true/\0<=(at_:Int)/\s[Int.toNat (at_:Int)]?=some c/\(True/\True/\True/\True/\True/\True/\True)/\decide ((↑(UInt8.toNat c):Int)<=57)=true/\[some [D.v (V.str s),di (wrap IntKind.i64 ((at_:Int)+1)),di (n:Int),db false],some [di 0,dn]]=[some (cRd s (at_+1) n false),some [di 0,dn]]/\I0 D0 1 (dV v) (rd s q n' false) [kl Ce [1,1,1,0,0,0],KI.blk 0,kc Ce [1,1,1,1]] (mkE 125 [(0,D.ptr 0 0),(2,D.ptr 1 0),(3,di (p:Int))]) (D9 s (at_+1) n)) ?_
  rw[Ae (by omega)]
  exact⟨Hz (by omega),by omega,hx,Hz (by omega),by omega,hx,⟨trivial,trivial,trivial,trivial,trivial,trivial,trivial⟩,Hz (by omega),rfl,⟨ih⟩⟩
theorem T9(s:List UInt8)(hs:s.length<=1000000)(p i n:Nat)(hi:i<9223372036854775808)(hn:n+1<=128)(hp:p+(Lib.decDigits i).length<=s.length)(hsl:(s.drop p).take (Lib.decDigits i).length=Lib.decDigits i)(hnx:∀y,s[p+(Lib.decDigits i).length]?=some y->y.toNat<48/\y≠40):
  Rn PP D0 1 (dV (.mk i [])) (rd s (p+(Lib.decDigits i).length) (n+1) false) ([.lp (sub Ce [1,1,1,0,0,0]),.blk 0,.code (sub Ce [1,1,1,1])]++[]) (mkE 125 [(0,.ptr 0 0),(2,.ptr 1 0),(3,di p)]) (D9 s (p+(Lib.decDigits i).length) n):=by
 obtain⟨q,hq⟩:∃q,q=p+(Lib.decDigits i).length:=⟨_,rfl⟩
 rw[←hq] at hp hnx⊢
 have hq2:q-p=(Lib.decDigits i).length:=by omega
 by_cases hlt:q<s.length
 ·have hx:s[q]?=some s[q]:=Hx hlt
  obtain⟨y1,y2⟩:=hnx _ hx
  generalize s[q]=y at hx y1 y2
  refine lv 125 [] (.t<|.y y<|.f<|.k<|.c (.tup [di i,.raw .nilIface])<|.h (.q 7 1)<|.h (.o (db false) (St.mk [some (cRd s q (n+1) false),some [di 0,.v .nils]] []))<|.k<|.f<|.c1 (cRd s q (n+1) false) (db false)<|.k .r) (decide ((q:Int)<(s.length:Int))=true/\0<=(q:Int)/\s[Int.toNat (q:Int)]?=some y/\decide ((↑(UInt8.toNat y):Int)>=48)=false/\(True/\True/\True/\True/\True)/\0<=(fun x=>x.snd) (IntKind.i64,(p:Int))/\(fun x=>x.snd) (IntKind.i64,(p:Int))<=(fun x=>x.snd) (IntKind.i64,(q:Int))/\(fun x=>x.snd) (IntKind.i64,(q:Int))<=(s.length:Int)/\F0 123 [D.v (V.str (List.drop (Int.toNat ((fun x=>x.snd) (IntKind.i64,(p:Int)))) (take (Int.toNat ((fun x=>x.snd) (IntKind.i64,(q:Int)))) s)))] (D.tup [di (i:Int),D.raw Value.nilIface])/\(True/\True/\True)/\Ap PP (Oper.mk (some 77) (Op.binOp BinOp.neq 100 (Operand.tmp 76) (Operand.const Value.nilIface) 100) 4 "order.go:306" #[Edge.mk 0 Ground.data] none) [D.raw Value.nilIface,D.undef] (St.mk [some [D.v (V.str s),di (q:Int),di (wrap IntKind.i64 ((n:Int)+1)),db false],some [di 0,dn]] []) (db false) (St.mk [some (cRd s q (n+1) false),some [di 0,dn]] [])/\decide ((↑(n+1):Int)>128)=false/\Aa PP 122 [D.ptr 0 0,D.v (V.int IntKind.u8 40)] (St.mk [some (cRd s q (n+1) false)] []) (db false) (St.mk [some (cRd s q (n+1) false)] [])/\Q [some (cRd s q (n+1) false)]/\D.v (V.agg [vi (i:Int),V.list []])=dV (Val.mk (i:Int) [])) ?_
  rw[Y7,Ae (by omega),drop_take,show((q:Nat):Int).toNat=q from rfl,show((p:Nat):Int).toNat=p from rfl]
  rw[hq2,hsl]
  exact⟨Hz (by omega),by omega,hx,H1 (by omega),⟨trivial,trivial,trivial,trivial,trivial⟩,by show(0:Int)<=p;omega,by show(p:Int)<=q;omega,by show(q:Int)<=_;omega,J5 i hi,⟨trivial,trivial,trivial⟩,Et rfl (by kernel_rfl),H1 (by omega),Ky s (by omega) q (n+1) false 40 y hx y2,rfl,rfl⟩
 ·refine lv 125 [] (.f<|.k<|.k<|.c (.tup [di i,.raw .nilIface])<|.h (.q 7 1)<|.h (.o (db false) (St.mk [some (cRd s q (n+1) false),some [di 0,.v .nils]] []))<|.k<|.f<|.c1 (cRd s q (n+1) false) (db false)<|.k .r) (decide ((q:Int)<(s.length:Int))=false/\(True/\True/\True)/\0<=(fun x=>x.snd) (IntKind.i64,(p:Int))/\(fun x=>x.snd) (IntKind.i64,(p:Int))<=(fun x=>x.snd) (IntKind.i64,(q:Int))/\(fun x=>x.snd) (IntKind.i64,(q:Int))<=(s.length:Int)/\F0 123 [D.v (V.str (List.drop (Int.toNat ((fun x=>x.snd) (IntKind.i64,(p:Int)))) (take (Int.toNat ((fun x=>x.snd) (IntKind.i64,(q:Int)))) s)))] (D.tup [di (i:Int),D.raw Value.nilIface])/\(True/\True/\True)/\Ap PP (Oper.mk (some 77) (Op.binOp BinOp.neq 100 (Operand.tmp 76) (Operand.const Value.nilIface) 100) 4 "order.go:306" #[Edge.mk 0 Ground.data] none) [D.raw Value.nilIface,D.undef] (St.mk [some [D.v (V.str s),di (q:Int),di (wrap IntKind.i64 ((n:Int)+1)),db false],some [di 0,dn]] []) (db false) (St.mk [some (cRd s q (n+1) false),some [di 0,dn]] [])/\decide ((↑(n+1):Int)>128)=false/\Aa PP 122 [D.ptr 0 0,D.v (V.int IntKind.u8 40)] (St.mk [some (cRd s q (n+1) false)] []) (db false) (St.mk [some (cRd s q (n+1) false)] [])/\Q [some (cRd s q (n+1) false)]/\D.v (V.agg [vi (i:Int),V.list []])=dV (Val.mk (i:Int) [])) ?_
  rw[Y7,Ae (by omega),drop_take,show((q:Nat):Int).toNat=q from rfl,show((p:Nat):Int).toNat=p from rfl]
  rw[hq2,hsl]
  exact⟨H1 (by omega),⟨trivial,trivial,trivial⟩,by show(0:Int)<=p;omega,by show(p:Int)<=q;omega,by show(q:Int)<=_;omega,J5 i hi,⟨trivial,trivial,trivial⟩,Et rfl (by kernel_rfl),H1 (by omega),VQ s (by omega) q (n+1) false 40 (by omega),rfl,rfl⟩
end Go.Proofs.YtpmahmngmgnnbaaGreatDoor
