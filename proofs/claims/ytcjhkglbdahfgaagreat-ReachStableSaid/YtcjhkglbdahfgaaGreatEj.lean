/-
  A part of the proof.
-/
import Derived.Test.YtcjhkglbdahfgaaGreatEi
import Derived.Laws.StructEq
import Derived.ChangeKeysEq
import Derived.Test.YtcjhkglbdahfgaaGreatEd
import Derived.Test.YtcjhkglbdahfgaaGreatEf
import Derived.Shelf.SlSortCmp.Whole1
import Derived.Test.YtcjhkglbdahfgaaGreatEh
namespace Go.Proofs.YtcjhkglbdahfgaaGreat
open Go.Dv Go.Nv
set_option maxRecDepth 20000
open List (all_eq_true append_assoc append_nil cons_append drop_eq_getElem_cons drop_of_length_le drop_zero ext_getElem? flatMap_cons flatten flatten_cons foldl_cons getD_eq_getElem?_getD getElem?_append_left getElem?_append_right getElem?_drop getElem?_eq_getElem getElem?_eq_none getElem?_map getElem?_set getElem?_take getElem?_toArray length length_append length_cons length_drop length_map length_nil length_pos_iff length_set length_take map map_append map_cons map_map map_nil mem_append mem_cons mem_map mem_of_getElem? mem_of_mem_drop mem_of_mem_take mem_or_eq_of_mem_set mem_singleton nil_append not_mem_nil replicate replicate_succ set_cons_succ set_cons_zero size_toArray take take_add_one take_append_drop take_left take_of_length_le take_succ_cons zipWith)
open Go.IntKind (wrap i64 u64)
abbrev dl2:List (List UInt8):=[[114],[115]]
def mkT(nm:List UInt8)(f t:Int)(tk:List Tk)(mk:List Int):Rul:=⟨nm,f,t,[],[],[],0,0,0,[],[],tk,mk,0⟩
abbrev cTm(S Pl:List (List UInt8))(ag:Int)(rs:List Rul):List D:=[di 5,.v (vSs S),.v (vSs Pl),.v .nils,.v .nils,di 0,di ag,.acc 2 (rs.map Ak),di 0,.v .nils]
abbrev stTm(l:List UInt8)(a:Nat)(S Pl:List (List UInt8))(ag:Int)(rs:List Rul):St:=⟨[some (cDz l a),some zM,some (cTm S Pl ag rs)],[(2,14,rs.map Ak)]⟩
structure MadeTR(ns np:Nat)(ag:Int)(k:Nat)(r:Rul):Prop where
 name:dl2[k]?=some r.name
 frm:0<=r.frm/\r.frm<ns
 to:0<=r.to/\r.to<ns
 takes:r.takes=[]∨∃p lo hi:Int,(0<=p/\p<np)/\(0<=lo/\lo<=hi/\hi<=ag+1)/\r.takes=[⟨p,lo,hi⟩]
 makes:r.makes=[]∨∃p:Int,(0<=p/\p<np)/\r.makes=[p]
 rest:r=mkT r.name r.frm r.to r.takes r.makes
structure CG(m:Mod):Prop where
 kind:m.kind=5
 states:m.states=[[97]]∨m.states=[[97],[98]]
 places:m.places=[[120]]∨m.places=[[120],[121]]
 letters:m.letters=[]
 ranks:m.ranks=[]
 levels:m.levels=0
 age:0<=m.age/\m.age<=1
 count:m.rules.length<=2
 rules:∀k r,m.rules[k]?=some r->MadeTR m.states.length m.places.length m.age k r
 start:∃ts:List Val,TokL m.places.length m.age 2 ts/\m.start=.mk 0 [.mk 0 [],.mk 0 ts]
theorem mkT_at{ns np:Nat}{ag:Int}{rs:List Rul}{k:Nat}{nm:List UInt8}{f t:Int}{tk:List Tk}{mk:List Int}(hnm:dl2[k]?=some nm)(hf:0<=f/\f<ns)(ht:0<=t/\t<ns)(h1:tk=[]∨∃p lo hi:Int,(0<=p/\p<np)/\(0<=lo/\lo<=hi/\hi<=ag+1)/\tk=[⟨p,lo,hi⟩])(h2:mk=[]∨∃p:Int,(0<=p/\p<np)/\mk=[p])(hrs:rs.length=k)(hR:∀i r,rs[i]?=some r->MadeTR ns np ag i r):∀i r,(rs++[mkT nm f t tk mk])[i]?=some r->MadeTR ns np ag i r:=fun i r hi=>by
 by_cases hik:i<rs.length
 ·rw[getElem?_append_left hik] at hi;exact hR i r hi
 ·rw[getElem?_append_right (by omega)] at hi
  have h0:i-rs.length=0:=by
   have:=(List.getElem?_eq_some_iff.1 hi).1
   simp at this;omega
  rw[h0] at hi
  simp at hi;subst hi
  have hik2:i=k:=by omega
  subst hik2
  exact⟨hnm,hf,ht,h1,h2,rfl⟩
noncomputable abbrev fTim:Func:= Tryz.f13
noncomputable def cTim:Code:=fTim.body.getD .skip
theorem tim_loop(l:List UInt8)(hl:l.length<=200)(S Pl:List (List UInt8))(ag:Int)(hS:S=[[97]]∨S=[[97],[98]])(hP:Pl=[[120]]∨Pl=[[120],[121]])(hag:0<=ag/\ag<=1)(n:Nat):∀(k a:Nat) (rs:List Rul),2-k=n->a<=l.length->k<=2->rs.length=k->(∀i r,rs[i]?=some r->MadeTR S.length Pl.length ag i r)->
  ∃(m:Mod) (a':Nat),CG m/\a'<=l.length/\Rn PP fTim 1 (Ah m) (dz l a') ([.lp (sub cTim [1,1,0,1,0,0]),.blk 0,.code (sub cTim [1,1,1])]++[]) (mkE 94 [(0,.ptr 0 0),(2,.ptr 1 0),(3,.ptr 2 0),(4,di k)]) (stTm l a S Pl ag rs):=by
 induction n using Nat.strongRecOn with
 |_ n ih=>
 intro k a rs hn ha hk2 hrs hR
 have hSl:1<=S.length/\S.length<=2:=by rcases hS with rfl|rfl<;>decide
 have hPl:1<=Pl.length/\Pl.length<=2:=by rcases hP with rfl|rfl<;>decide
 have hSm:((S.map V.str).length:Int)=(S.length:Int):=by rw[length_map]
 have hPm:((Pl.map V.str).length:Int)=(Pl.length:Int):=by rw[length_map]
 have wag:wrap i64 (ag+2)=ag+2:=Aj (by omega) (by omega)
 obtain⟨r,a1,h1,h2,h3,h4⟩:=Aw l hl a ha 2 (by decide) (by decide)
 by_cases hk:(k:Int)<1+r
 ·obtain⟨f,a2,f1,f2,f3,f4⟩:=Aw l hl a1 h3 S.length (by omega) (by omega)
  obtain⟨t,a3,t1,t2,t3,t4⟩:=Aw l hl a2 f3 S.length (by omega) (by omega)
  obtain⟨nm,hnm⟩:∃nm,dl2[k]?=some nm:=⟨_,getElem?_eq_getElem (show k<dl2.length by show k<2;omega)⟩
  have hkr:decide ((k:Int)<wrap i64 (1+r))=true:=by rw[Aj (by omega) (by omega)];exact decide_eq_true hk
  obtain⟨u,a4,u1,u2,u3,u4⟩:=Aw l hl a3 t3 2 (by decide) (by decide)
  by_cases hu:(u==0)=true
  ·obtain⟨lo,a5,lo1,lo2,lo3,lo4⟩:=Aw l hl a4 u3 (ag+2) (by omega) (by omega)
   obtain⟨p,a6,p1,p2,p3,p4⟩:=Aw l hl a5 lo3 Pl.length (by omega) (by omega)
   obtain⟨hi,a7,hi1,hi2,hi3,hi4⟩:=Aw l hl a6 p3 (ag+2-lo) (by omega) (by omega)
   obtain⟨x,a8,x1,x2,x3,x4⟩:=Aw l hl a7 hi3 2 (by decide) (by decide)
   have wlo:wrap i64 (ag+2-lo)=ag+2-lo:=Aj (by omega) (by omega)
   have whi:wrap i64 (lo+hi)=lo+hi:=Aj (by omega) (by omega)
   have htk:([⟨p,lo,lo+hi⟩]:List Tk)=[]∨∃p' lo' hi':Int,(0<=p'/\p'<Pl.length)/\(0<=lo'/\lo'<=hi'/\hi'<=ag+1)/\([⟨p,lo,lo+hi⟩]:List Tk)=[⟨p',lo',hi'⟩]:=.inr ⟨p,lo,lo+hi,⟨p1,p2⟩,⟨lo1,by omega,by omega⟩,rfl⟩
   by_cases hx:(x==0)=true
   ·obtain⟨q,a9,q1,q2,q3,q4⟩:=Aw l hl a8 x3 Pl.length (by omega) (by omega)
    obtain⟨m,a',m1,m2,m3⟩:=ih (2- (k+1)) (by omega) (k+1) a9 (rs++[mkT nm f t [⟨p,lo,lo+hi⟩] [q]]) rfl q3 (by omega) (by simp[hrs]) (mkT_at hnm ⟨f1,f2⟩ ⟨t1,t2⟩ htk (.inr ⟨q,⟨q1,q2⟩,rfl⟩) hrs hR)
    refine⟨m,a',m1,m2,?_⟩
    refine lv 94 [] (.c1 (cDz l a1) (di r)<|.t<|.h (.dr 15)<|.x (.str nm)<|.c1 (cDz l a2) (di f)<|.c1 (cDz l a3) (di t)<|.c1 (cDz l a4) (di u)<|.t<|.c1 (cDz l a5) (di lo)<|.c1 (cDz l a6) (di p)<|.c1 (cDz l a7) (di hi)<|.c1 (cDz l a8) (di x)<|.t<|.c1 (cDz l a9) (di q)<|.ls [ke 0,ke 2,ke 3,ch 4 (di (k+1:Nat))] (stTm l a9 S Pl ag (rs++[mkT nm f t [⟨p,lo,lo+hi⟩] [q]]))) (Ab PP 8 [D.ptr 0 0,di 2] (dz l a) (di r) (dz l a1)/\decide ((k:Int)<wrap i64 (1+r))=true/\0<=(k:Int)/\[V.str (ByteArray.mk #[114]).data.toList,V.str (ByteArray.mk #[115]).data.toList][Int.toNat (k:Int)]?=some (V.str nm)/\Ab PP 8 [D.ptr 0 0,di (length (map V.str S):Int)] (dz l a1) (di f) (dz l a2)/\Ab PP 8 [D.ptr 0 0,di (length (map V.str S):Int)] (dz l a1) (di f) (dz l a2)/\Q (di f)/\Ab PP 8 [D.ptr 0 0,di (length (map V.str S):Int)] (dz l a2) (di t) (dz l a3)/\Ab PP 8 [D.ptr 0 0,di (length (map V.str S):Int)] (dz l a2) (di t) (dz l a3)/\Q (di t)/\Q [St.mk [some (cDz l a1),some zM,some (cTm S Pl ag rs),some zRl] [(2,14,map Ak rs)],St.mk [some (cDz l a2),some zM,some (cTm S Pl ag rs),some zRl] [(2,14,map Ak rs)],St.mk [some (cDz l a3),some zM,some (cTm S Pl ag rs),some zRl] [(2,14,map Ak rs)]]/\((Q (some [D.v (vSs S)])/\Q (some [D.v (vSs S)])/\Q (some [D.v (vSs S)])/\Q (some [D.v (vSs S)])/\Q (some [D.v (vSs S)])/\Q (some [D.v (vSs S)])/\Q (some [D.v (vSs S)])/\True)/\(Q (some [D.v (vSs S)])/\Q (some [D.v (vSs S)])/\Q (some [D.v (vSs S)])/\Q (some [D.v (vSs S)])/\Q (some [D.v (vSs S)])/\Q (some [D.v (vSs S)])/\Q (some [D.v (vSs S)])/\True)/\True)/\Ab PP 8 [D.ptr 0 0,di 2] (dz l a3) (di u) (dz l a4)/\(u==0)=true/\Ab PP 8 [D.ptr 0 0,di (wrap i64 (ag+2))] (dz l a4) (di lo) (dz l a5)/\Ab PP 8 [D.ptr 0 0,di (length (map V.str Pl):Int)] (dz l a5) (di p) (dz l a6)/\Ab PP 8 [D.ptr 0 0,di (wrap i64 (wrap i64 (ag+2)-lo))] (dz l a6) (di hi) (dz l a7)/\(True/\(Q (some [di ag])/\True)/\True)/\Ab PP 8 [D.ptr 0 0,di 2] (dz l a7) (di x) (dz l a8)/\(x==0)=true/\Ab PP 8 [D.ptr 0 0,di (length (map V.str Pl):Int)] (dz l a8) (di q) (dz l a9)/\Q (map Ak rs)/\Ar (length (map Ak rs)+length (V.agg (V.str nm::V.int i64 f::V.int i64 t::V.list nV::V.list nV::V.list nV::V.int i64 0::V.int i64 0::V.int i64 0::V.list nV::V.list nV::V.list (V.agg (V.int i64 p::V.int i64 lo::V.int i64 (wrap i64 (lo+hi))::nV)::nV)::V.list (V.int i64 q::nV)::V.int i64 0::nV)::nV)) 232/\di (wrap i64 ((k:Int)+1))=di (↑(k+1):Int)/\[some (cDz l a9),some zM,some [di 5,D.v (vSs S),D.v (vSs Pl),dn,dn,di 0,di ag,D.acc 2 (map Ak rs++V.agg (V.str nm::vi f::vi t::V.list nV::V.list nV::V.list nV::vi 0::vi 0::vi 0::V.list nV::V.list nV::V.list (V.agg (vi p::vi lo::vi (wrap i64 (lo+hi))::nV)::nV)::V.list (vi q::nV)::vi 0::nV)::nV),di 0,dn]]=[some (cDz l a9),some zM,some (cTm S Pl ag (rs++[mkT nm f t [Tk.mk p lo (lo+hi)] [q]]))]/\[(2,14,map Ak rs++V.agg (V.str nm::vi f::vi t::V.list nV::V.list nV::V.list nV::vi 0::vi 0::vi 0::V.list nV::V.list nV::V.list (V.agg (vi p::vi lo::vi (wrap i64 (lo+hi))::nV)::nV)::V.list (vi q::nV)::vi 0::nV)::nV)]=[(2,14,map Ak (rs++[mkT nm f t [Tk.mk p lo (lo+hi)] [q]]))]/\I0 fTim 1 (Ah m) (dz l a') [kl cTim [1,1,0,1,0,0],KI.blk 0,kc cTim [1,1,1]] (mkE 94 [(0,D.ptr 0 0),(2,D.ptr 1 0),(3,D.ptr 2 0),(4,di (↑(k+1):Int))]) (stTm l a9 S Pl ag (rs++[mkT nm f t [Tk.mk p lo (lo+hi)] [q]]))) ?_
    rw[hSm,hPm,wag,wlo,whi]
    repeat' first|with_reducible refine And.intro ?_ ?_
    all_goals first|exact h4|exact hkr|exact f4|exact t4|exact u4|exact lo4|exact p4|exact hi4|exact hu|exact hx|exact x4|exact q4|  exact Dp hnm|exact⟨m3⟩|exact Af (by omega)|omega|rfl|trivial|skip
    all_goals first|exact congrArg (fun z=>[some (cDz l a9),some zM,some [di 5,.v (vSs S),.v (vSs Pl),.v .nils,.v .nils,di 0,di ag,.acc 2 z,di 0,.v .nils]]) (AJ rs (mkT nm f t [⟨p,lo,lo+hi⟩] [q]))|exact congrArg (fun z=>[(2,14,z)]) (AJ rs (mkT nm f t [⟨p,lo,lo+hi⟩] [q]))|(simp only[length_map,length_cons,length_nil];omega)
   ·have hx:(x==0)=false:=by simpa using hx
    obtain⟨m,a',m1,m2,m3⟩:=ih (2- (k+1)) (by omega) (k+1) a8 (rs++[mkT nm f t [⟨p,lo,lo+hi⟩] []]) rfl x3 (by omega) (by simp[hrs]) (mkT_at hnm ⟨f1,f2⟩ ⟨t1,t2⟩ htk (.inl rfl) hrs hR)
    refine⟨m,a',m1,m2,?_⟩
    refine lv 94 [] (.c1 (cDz l a1) (di r)<|.t<|.h (.dr 15)<|.x (.str nm)<|.c1 (cDz l a2) (di f)<|.c1 (cDz l a3) (di t)<|.c1 (cDz l a4) (di u)<|.t<|.c1 (cDz l a5) (di lo)<|.c1 (cDz l a6) (di p)<|.c1 (cDz l a7) (di hi)<|.c1 (cDz l a8) (di x)<|.f<|.ls [ke 0,ke 2,ke 3,ch 4 (di (k+1:Nat))] (stTm l a8 S Pl ag (rs++[mkT nm f t [⟨p,lo,lo+hi⟩] []]))) (Ab PP 8 [D.ptr 0 0,di 2] (dz l a) (di r) (dz l a1)/\decide ((k:Int)<wrap i64 (1+r))=true/\0<=(k:Int)/\[V.str (ByteArray.mk #[114]).data.toList,V.str (ByteArray.mk #[115]).data.toList][Int.toNat (k:Int)]?=some (V.str nm)/\Ab PP 8 [D.ptr 0 0,di (length (map V.str S):Int)] (dz l a1) (di f) (dz l a2)/\Ab PP 8 [D.ptr 0 0,di (length (map V.str S):Int)] (dz l a1) (di f) (dz l a2)/\Q (di f)/\Ab PP 8 [D.ptr 0 0,di (length (map V.str S):Int)] (dz l a2) (di t) (dz l a3)/\Ab PP 8 [D.ptr 0 0,di (length (map V.str S):Int)] (dz l a2) (di t) (dz l a3)/\Q (di t)/\Q [St.mk [some (cDz l a1),some zM,some (cTm S Pl ag rs),some zRl] [(2,14,map Ak rs)],St.mk [some (cDz l a2),some zM,some (cTm S Pl ag rs),some zRl] [(2,14,map Ak rs)],St.mk [some (cDz l a3),some zM,some (cTm S Pl ag rs),some zRl] [(2,14,map Ak rs)]]/\((Q (some [D.v (vSs S)])/\Q (some [D.v (vSs S)])/\Q (some [D.v (vSs S)])/\Q (some [D.v (vSs S)])/\Q (some [D.v (vSs S)])/\Q (some [D.v (vSs S)])/\Q (some [D.v (vSs S)])/\True)/\(Q (some [D.v (vSs S)])/\Q (some [D.v (vSs S)])/\Q (some [D.v (vSs S)])/\Q (some [D.v (vSs S)])/\Q (some [D.v (vSs S)])/\Q (some [D.v (vSs S)])/\Q (some [D.v (vSs S)])/\True)/\True)/\Ab PP 8 [D.ptr 0 0,di 2] (dz l a3) (di u) (dz l a4)/\(u==0)=true/\Ab PP 8 [D.ptr 0 0,di (wrap i64 (ag+2))] (dz l a4) (di lo) (dz l a5)/\Ab PP 8 [D.ptr 0 0,di (length (map V.str Pl):Int)] (dz l a5) (di p) (dz l a6)/\Ab PP 8 [D.ptr 0 0,di (wrap i64 (wrap i64 (ag+2)-lo))] (dz l a6) (di hi) (dz l a7)/\(True/\(Q (some [di ag])/\True)/\True)/\Ab PP 8 [D.ptr 0 0,di 2] (dz l a7) (di x) (dz l a8)/\(x==0)=false/\Q (map Ak rs)/\Ar (length (map Ak rs)+length (V.agg (V.str nm::V.int i64 f::V.int i64 t::V.list nV::V.list nV::V.list nV::V.int i64 0::V.int i64 0::V.int i64 0::V.list nV::V.list nV::V.list (V.agg (V.int i64 p::V.int i64 lo::V.int i64 (wrap i64 (lo+hi))::nV)::nV)::V.list nV::V.int i64 0::nV)::nV)) 232/\di (wrap i64 ((k:Int)+1))=di (↑(k+1):Int)/\[some (cDz l a8),some zM,some [di 5,D.v (vSs S),D.v (vSs Pl),dn,dn,di 0,di ag,D.acc 2 (map Ak rs++V.agg (V.str nm::vi f::vi t::V.list nV::V.list nV::V.list nV::vi 0::vi 0::vi 0::V.list nV::V.list nV::V.list (V.agg (vi p::vi lo::vi (wrap i64 (lo+hi))::nV)::nV)::V.list nV::vi 0::nV)::nV),di 0,dn]]=[some (cDz l a8),some zM,some (cTm S Pl ag (rs++[mkT nm f t [Tk.mk p lo (lo+hi)] []]))]/\[(2,14,map Ak rs++V.agg (V.str nm::vi f::vi t::V.list nV::V.list nV::V.list nV::vi 0::vi 0::vi 0::V.list nV::V.list nV::V.list (V.agg (vi p::vi lo::vi (wrap i64 (lo+hi))::nV)::nV)::V.list nV::vi 0::nV)::nV)]=[(2,14,map Ak (rs++[mkT nm f t [Tk.mk p lo (lo+hi)] []]))]/\I0 fTim 1 (Ah m) (dz l a') [kl cTim [1,1,0,1,0,0],KI.blk 0,kc cTim [1,1,1]] (mkE 94 [(0,D.ptr 0 0),(2,D.ptr 1 0),(3,D.ptr 2 0),(4,di (↑(k+1):Int))]) (stTm l a8 S Pl ag (rs++[mkT nm f t [Tk.mk p lo (lo+hi)] []]))) ?_
    rw[hSm,hPm,wag,wlo,whi]
    repeat' first|with_reducible refine And.intro ?_ ?_
    all_goals first|exact h4|exact hkr|exact f4|exact t4|exact u4|exact lo4|exact p4|exact hi4|exact hu|exact hx|exact x4|  exact Dp hnm|exact⟨m3⟩|exact Af (by omega)|omega|rfl|trivial|skip
    all_goals first|exact congrArg (fun z=>[some (cDz l a8),some zM,some [di 5,.v (vSs S),.v (vSs Pl),.v .nils,.v .nils,di 0,di ag,.acc 2 z,di 0,.v .nils]]) (AJ rs (mkT nm f t [⟨p,lo,lo+hi⟩] []))|exact congrArg (fun z=>[(2,14,z)]) (AJ rs (mkT nm f t [⟨p,lo,lo+hi⟩] []))|(simp only[length_map,length_cons,length_nil];omega)
  ·have hu:(u==0)=false:=by simpa using hu
   obtain⟨x,a8,x1,x2,x3,x4⟩:=Aw l hl a4 u3 2 (by decide) (by decide)
   by_cases hx:(x==0)=true
   ·obtain⟨q,a9,q1,q2,q3,q4⟩:=Aw l hl a8 x3 Pl.length (by omega) (by omega)
    obtain⟨m,a',m1,m2,m3⟩:=ih (2- (k+1)) (by omega) (k+1) a9 (rs++[mkT nm f t [] [q]]) rfl q3 (by omega) (by simp[hrs]) (mkT_at hnm ⟨f1,f2⟩ ⟨t1,t2⟩ (.inl rfl) (.inr ⟨q,⟨q1,q2⟩,rfl⟩) hrs hR)
    refine⟨m,a',m1,m2,?_⟩
    refine lv 94 [] (.c1 (cDz l a1) (di r)<|.t<|.h (.dr 15)<|.x (.str nm)<|.c1 (cDz l a2) (di f)<|.c1 (cDz l a3) (di t)<|.c1 (cDz l a4) (di u)<|.f<|.c1 (cDz l a8) (di x)<|.t<|.c1 (cDz l a9) (di q)<|.ls [ke 0,ke 2,ke 3,ch 4 (di (k+1:Nat))] (stTm l a9 S Pl ag (rs++[mkT nm f t [] [q]]))) (Ab PP 8 [D.ptr 0 0,di 2] (dz l a) (di r) (dz l a1)/\decide ((k:Int)<wrap i64 (1+r))=true/\0<=(k:Int)/\[V.str (ByteArray.mk #[114]).data.toList,V.str (ByteArray.mk #[115]).data.toList][Int.toNat (k:Int)]?=some (V.str nm)/\Ab PP 8 [D.ptr 0 0,di (length (map V.str S):Int)] (dz l a1) (di f) (dz l a2)/\Ab PP 8 [D.ptr 0 0,di (length (map V.str S):Int)] (dz l a1) (di f) (dz l a2)/\Q (di f)/\Ab PP 8 [D.ptr 0 0,di (length (map V.str S):Int)] (dz l a2) (di t) (dz l a3)/\Ab PP 8 [D.ptr 0 0,di (length (map V.str S):Int)] (dz l a2) (di t) (dz l a3)/\Q (di t)/\Q [St.mk [some (cDz l a1),some zM,some (cTm S Pl ag rs),some zRl] [(2,14,map Ak rs)],St.mk [some (cDz l a2),some zM,some (cTm S Pl ag rs),some zRl] [(2,14,map Ak rs)],St.mk [some (cDz l a3),some zM,some (cTm S Pl ag rs),some zRl] [(2,14,map Ak rs)]]/\((Q (some [D.v (vSs S)])/\Q (some [D.v (vSs S)])/\Q (some [D.v (vSs S)])/\Q (some [D.v (vSs S)])/\Q (some [D.v (vSs S)])/\Q (some [D.v (vSs S)])/\Q (some [D.v (vSs S)])/\True)/\(Q (some [D.v (vSs S)])/\Q (some [D.v (vSs S)])/\Q (some [D.v (vSs S)])/\Q (some [D.v (vSs S)])/\Q (some [D.v (vSs S)])/\Q (some [D.v (vSs S)])/\Q (some [D.v (vSs S)])/\True)/\True)/\Ab PP 8 [D.ptr 0 0,di 2] (dz l a3) (di u) (dz l a4)/\(u==0)=false/\Ab PP 8 [D.ptr 0 0,di 2] (dz l a4) (di x) (dz l a8)/\(x==0)=true/\Ab PP 8 [D.ptr 0 0,di (length (map V.str Pl):Int)] (dz l a8) (di q) (dz l a9)/\Q (map Ak rs)/\Ar (length (map Ak rs)+length (V.agg (V.str nm::V.int i64 f::V.int i64 t::V.list nV::V.list nV::V.list nV::V.int i64 0::V.int i64 0::V.int i64 0::V.list nV::V.list nV::V.list nV::V.list (V.int i64 q::nV)::V.int i64 0::nV)::nV)) 232/\di (wrap i64 ((k:Int)+1))=di (↑(k+1):Int)/\[some (cDz l a9),some zM,some [di 5,D.v (vSs S),D.v (vSs Pl),dn,dn,di 0,di ag,D.acc 2 (map Ak rs++V.agg (V.str nm::vi f::vi t::V.list nV::V.list nV::V.list nV::vi 0::vi 0::vi 0::V.list nV::V.list nV::V.list nV::V.list (vi q::nV)::vi 0::nV)::nV),di 0,dn]]=[some (cDz l a9),some zM,some (cTm S Pl ag (rs++[mkT nm f t [] [q]]))]/\[(2,14,map Ak rs++V.agg (V.str nm::vi f::vi t::V.list nV::V.list nV::V.list nV::vi 0::vi 0::vi 0::V.list nV::V.list nV::V.list nV::V.list (vi q::nV)::vi 0::nV)::nV)]=[(2,14,map Ak (rs++[mkT nm f t [] [q]]))]/\I0 fTim 1 (Ah m) (dz l a') [kl cTim [1,1,0,1,0,0],KI.blk 0,kc cTim [1,1,1]] (mkE 94 [(0,D.ptr 0 0),(2,D.ptr 1 0),(3,D.ptr 2 0),(4,di (↑(k+1):Int))]) (stTm l a9 S Pl ag (rs++[mkT nm f t [] [q]]))) ?_
    rw[hSm,hPm]
    repeat' first|with_reducible refine And.intro ?_ ?_
    all_goals first|exact h4|exact hkr|exact f4|exact t4|exact u4|exact hu|exact hx|exact x4|exact q4|  exact Dp hnm|exact⟨m3⟩|exact Af (by omega)|omega|rfl|trivial|skip
    all_goals first|exact congrArg (fun z=>[some (cDz l a9),some zM,some [di 5,.v (vSs S),.v (vSs Pl),.v .nils,.v .nils,di 0,di ag,.acc 2 z,di 0,.v .nils]]) (AJ rs (mkT nm f t [] [q]))|exact congrArg (fun z=>[(2,14,z)]) (AJ rs (mkT nm f t [] [q]))|(simp only[length_map,length_cons,length_nil];omega)
   ·have hx:(x==0)=false:=by simpa using hx
    obtain⟨m,a',m1,m2,m3⟩:=ih (2- (k+1)) (by omega) (k+1) a8 (rs++[mkT nm f t [] []]) rfl x3 (by omega) (by simp[hrs]) (mkT_at hnm ⟨f1,f2⟩ ⟨t1,t2⟩ (.inl rfl) (.inl rfl) hrs hR)
    refine⟨m,a',m1,m2,?_⟩
    refine lv 94 [] (.c1 (cDz l a1) (di r)<|.t<|.h (.dr 15)<|.x (.str nm)<|.c1 (cDz l a2) (di f)<|.c1 (cDz l a3) (di t)<|.c1 (cDz l a4) (di u)<|.f<|.c1 (cDz l a8) (di x)<|.f<|.ls [ke 0,ke 2,ke 3,ch 4 (di (k+1:Nat))] (stTm l a8 S Pl ag (rs++[mkT nm f t [] []]))) (Ab PP 8 [D.ptr 0 0,di 2] (dz l a) (di r) (dz l a1)/\decide ((k:Int)<wrap i64 (1+r))=true/\0<=(k:Int)/\[V.str (ByteArray.mk #[114]).data.toList,V.str (ByteArray.mk #[115]).data.toList][Int.toNat (k:Int)]?=some (V.str nm)/\Ab PP 8 [D.ptr 0 0,di (length (map V.str S):Int)] (dz l a1) (di f) (dz l a2)/\Ab PP 8 [D.ptr 0 0,di (length (map V.str S):Int)] (dz l a1) (di f) (dz l a2)/\Q (di f)/\Ab PP 8 [D.ptr 0 0,di (length (map V.str S):Int)] (dz l a2) (di t) (dz l a3)/\Ab PP 8 [D.ptr 0 0,di (length (map V.str S):Int)] (dz l a2) (di t) (dz l a3)/\Q (di t)/\Q [St.mk [some (cDz l a1),some zM,some (cTm S Pl ag rs),some zRl] [(2,14,map Ak rs)],St.mk [some (cDz l a2),some zM,some (cTm S Pl ag rs),some zRl] [(2,14,map Ak rs)],St.mk [some (cDz l a3),some zM,some (cTm S Pl ag rs),some zRl] [(2,14,map Ak rs)]]/\((Q (some [D.v (vSs S)])/\Q (some [D.v (vSs S)])/\Q (some [D.v (vSs S)])/\Q (some [D.v (vSs S)])/\Q (some [D.v (vSs S)])/\Q (some [D.v (vSs S)])/\Q (some [D.v (vSs S)])/\True)/\(Q (some [D.v (vSs S)])/\Q (some [D.v (vSs S)])/\Q (some [D.v (vSs S)])/\Q (some [D.v (vSs S)])/\Q (some [D.v (vSs S)])/\Q (some [D.v (vSs S)])/\Q (some [D.v (vSs S)])/\True)/\True)/\Ab PP 8 [D.ptr 0 0,di 2] (dz l a3) (di u) (dz l a4)/\(u==0)=false/\Ab PP 8 [D.ptr 0 0,di 2] (dz l a4) (di x) (dz l a8)/\(x==0)=false/\Q (map Ak rs)/\Ar (length (map Ak rs)+length (V.agg (V.str nm::V.int i64 f::V.int i64 t::V.list nV::V.list nV::V.list nV::V.int i64 0::V.int i64 0::V.int i64 0::V.list nV::V.list nV::V.list nV::V.list nV::V.int i64 0::nV)::nV)) 232/\di (wrap i64 ((k:Int)+1))=di (↑(k+1):Int)/\[some (cDz l a8),some zM,some [di 5,D.v (vSs S),D.v (vSs Pl),dn,dn,di 0,di ag,D.acc 2 (map Ak rs++V.agg (V.str nm::vi f::vi t::V.list nV::V.list nV::V.list nV::vi 0::vi 0::vi 0::V.list nV::V.list nV::V.list nV::V.list nV::vi 0::nV)::nV),di 0,dn]]=[some (cDz l a8),some zM,some (cTm S Pl ag (rs++[mkT nm f t [] []]))]/\[(2,14,map Ak rs++V.agg (V.str nm::vi f::vi t::V.list nV::V.list nV::V.list nV::vi 0::vi 0::vi 0::V.list nV::V.list nV::V.list nV::V.list nV::vi 0::nV)::nV)]=[(2,14,map Ak (rs++[mkT nm f t [] []]))]/\I0 fTim 1 (Ah m) (dz l a') [kl cTim [1,1,0,1,0,0],KI.blk 0,kc cTim [1,1,1]] (mkE 94 [(0,D.ptr 0 0),(2,D.ptr 1 0),(3,D.ptr 2 0),(4,di (↑(k+1):Int))]) (stTm l a8 S Pl ag (rs++[mkT nm f t [] []]))) ?_
    rw[hSm]
    repeat' first|with_reducible refine And.intro ?_ ?_
    all_goals first|exact h4|exact hkr|exact f4|exact t4|exact u4|exact hu|exact hx|exact x4|  exact Dp hnm|exact⟨m3⟩|exact Af (by omega)|omega|rfl|trivial|skip
    all_goals first|exact congrArg (fun z=>[some (cDz l a8),some zM,some [di 5,.v (vSs S),.v (vSs Pl),.v .nils,.v .nils,di 0,di ag,.acc 2 z,di 0,.v .nils]]) (AJ rs (mkT nm f t [] []))|exact congrArg (fun z=>[(2,14,z)]) (AJ rs (mkT nm f t [] []))|(simp only[length_map,length_cons,length_nil];omega)
 ·obtain⟨m0',hm0⟩:∃m0':Mod,m0'=⟨5,S,Pl,[],[],0,ag,rs,.mk 0 []⟩:=⟨_,rfl⟩
  obtain⟨s,ts,a2,s1,s2,s3,s4⟩:=bag_exO l hl m0' (by rw[hm0];show 1<=S.length/\S.length<=3;omega) (by rw[hm0];exact hPl) (by rw[hm0];show 0<=ag/\ag<=3;omega) a1 h3
  refine⟨⟨5,S,Pl,[],[],0,ag,rs,.mk 0 [.mk 0 [],.mk 0 ts]⟩,a2,⟨rfl,hS,hP,rfl,rfl,rfl,hag,by show rs.length<=2;omega,hR,ts,by rw[hm0] at s2;exact s2,rfl⟩,s3,?_⟩
  refine lv 94 [] (.c1 (cDz l a1) (di r)<|.f<|.h (.oc (.dagg [di 0,.arr 3 0 2]) ⟨[some (cDz l a2),some zM,some (cTm S Pl ag rs),some [di s,dVs [],di 0,dVs ts]],[(2,14,rs.map Ak)]⟩)<|.h .ww<|.m (.arr 3 0 2)<|.h (.q 14 0)<|.h (.cs ⟨[some (cDz l a2),some zM,some [di 5,.v (vSs S),.v (vSs Pl),.v .nils,.v .nils,di 0,di ag,.acc 2 (rs.map Ak),di 0,.v (.list [Ad (.mk 0 []),Ad (.mk 0 ts)])],none],[(2,14,rs.map Ak)]⟩) .r) (Ab PP 8 [D.ptr 0 0,di 2] (dz l a) (di r) (dz l a1)/\decide ((k:Int)<wrap i64 (1+r))=false/\(∀(o:Oper) (c:Call) (fo:Operand),o.op=Op.call c->c.callee=Callee.value fo->Ai PP o [D.v (V.fn 17 [] []),D.ptr 0 0,D.v (V.agg [vi 5,vSs S,vSs Pl,V.nils,V.nils,vi 0,vi ag,V.list (map Ak rs),vi 0,V.nils]),di 2] (St.mk [some (cDz l a1),some zM,some (cTm S Pl ag rs)] [(2,14,map Ak rs)]) (D.dagg [di 0,D.arr 3 0 2]) (St.mk [some (cDz l a2),some zM,some (cTm S Pl ag rs),some [di s,dVs [],di 0,dVs ts]] [(2,14,map Ak rs)]))/\10<=10/\Q (some (D.arr 3 0 2))/\iz 0<=0/\0<(↑2:Int)/\(∀(e:List D) (E:Ent) (g:Gh) (a:Act) (w:World),FI E g (St.mk [some (cDz l a2),some zM,some (take (Nat.add 0 8) (cTm S Pl ag rs)++B6 (D.dagg [di 0,D.arr 3 0 2])++List.drop (Nat.add 0 8+2) (cTm S Pl ag rs)),some [evN [(0,D.ptr 0 0).snd,D.undef,(2,D.ptr 1 0).snd,(3,D.ptr 2 0).snd,(4,di (k:Int)).snd,D.undef,D.undef,D.undef,D.undef,D.undef,D.undef,D.undef,D.undef,D.undef,D.undef,D.undef,D.undef,D.undef,D.undef,D.undef,(4,di (k:Int)).snd,(0,D.ptr 0 0).snd,di r,D.v (V.int i64 (wrap i64 (1+r))),D.v (V.bool false),D.undef,D.undef,D.undef,D.undef,D.undef,D.undef,D.undef,D.undef,D.undef,D.undef,D.undef,D.undef,D.undef,D.undef,D.undef,D.undef,D.undef,D.undef,D.undef,D.undef,D.undef,D.undef,D.undef,D.undef,D.undef,D.undef,D.undef,D.undef,D.undef,D.undef,D.undef,D.undef,D.undef,D.undef,D.undef,D.undef,D.undef,D.undef,D.undef,D.undef,D.undef,D.undef,D.undef,D.undef,D.undef,D.undef,D.undef,D.undef,D.undef,D.undef,D.undef,D.undef,D.undef,D.undef,D.undef,D.undef,D.undef,D.undef,D.undef,(0,D.ptr 0 0).snd,D.v (V.agg [V.int i64 5,vSs S,vSs Pl,V.nils,V.nils,V.int i64 0,V.int i64 ag,V.list (map Ak rs),V.int i64 0,V.nils]),D.dagg [di 0,D.arr 3 0 2],D.ptr 2 (Nat.add 0 8),D.ptr 2 (Nat.add 0 8),D.ptr 2 (Nat.add (Nat.add 0 8) 1),D.arr 3 0 2,D.ptr 3 (0+Int.toNat 0*2),D.ptr 3 (Nat.add (0+Int.toNat 0*2) 0),D.undef] (Operand.const (Value.int i64 0)),dVs [],di 0,dVs ts]] [(2,14,map Ak rs)]) e a w->∃g',FI E g' (St.mk [some (cDz l a2),some zM,some [di 5,D.v (vSs S),D.v (vSs Pl),dn,dn,di 0,di ag,D.acc 2 (map Ak rs),di 0,D.v (V.list [Ad (Val.mk 0 []),Ad (Val.mk 0 ts)])],none] [(2,14,map Ak rs)]) e a w)/\Q [some (cDz l a2)]/\D.v (V.agg [vi 5,V.list (map V.str S),V.list (map V.str Pl),V.list [],V.list [],vi 0,vi ag,V.list (map Ak rs),vi 0,V.list [Ad (Val.mk 0 []),Ad (Val.mk 0 ts)]])=Ah (Mod.mk 5 S Pl [] [] 0 ag rs (Val.mk 0 [Val.mk 0 [],Val.mk 0 ts]))) ?_
  refine⟨h4,decide_eq_false (by rw[Aj (by omega) (by omega)];exact hk),fun o c fo ho hc=>?_,by decide,rfl,by decide,by decide,?_,rfl,?_⟩
  ·refine BQ (ds':=[.v (.fn 17 [] []),.ptr 0 0,Ah m0',di 2]) (fun g us h=>by rw[hm0];exact DO (ts:=[]) (kn:=false) h) ?_
   have h:=Cr (σ:=⟨[some (cDz l a1),some zM,some (cTm S Pl ag rs)],[(2,14,rs.map Ak)]⟩) ho hc (fD:=.v (.fn 17 [] [])) rfl (ds:=[.ptr 0 0,Ah m0',di 2]) [0] id s4 (.cons (.ren (dc:=.ptr 0 0) rfl) (.cons (.ren (dc:=Ah m0') rfl) (.cons (.ren (dc:=di 2) rfl) .nil)))
    (.cons rfl (.cons (.ren (dc:=.v (vBs l)) rfl) (.cons (.ren (dc:=di a1) rfl) .nil)) (by rfl) .nil) (by simp) rfl (by simp) (by simp) (by simp[D.okN,D.okNs]) (by simp[okH,D.okNs,D.okN])
   simp[F1,Cy,EE,D.ren,D.rens,rho] at h
   exact h
  ·intro e
   exact GO (σ:=⟨[some (cDz l a2),some zM,some [di 5,.v (vSs S),.v (vSs Pl),.v .nils,.v .nils,di 0,di ag,.acc 2 (rs.map Ak),di 0,.arr 3 0 2],some (Aa [Ad (.mk 0 []),Ad (.mk 0 ts)])],[(2,14,rs.map Ak)]⟩) (p:=2) (q:=3) (i:=9) (sz:=2) (cs:=[di 5,.v (vSs S),.v (vSs Pl),.v .nils,.v .nils,di 0,di ag,.acc 2 (rs.map Ak),di 0,.arr 3 0 2]) (xs:=[Ad (.mk 0 []),Ad (.mk 0 ts)]) (by decide) rfl rfl (by decide) rfl (fun x hx=>by simp at hx;rcases hx with rfl|rfl<;>rfl) e
  ·show D.v (V.agg [vi 5,vSs S,vSs Pl,vSs [],vIs [],vi 0,vi ag,AY rs,vi 0,V.list [Ad (.mk 0 []),Ad (.mk 0 ts)]])=_
   rw[←AN, ←AN];rfl
theorem tim_ex(l:List UInt8)(hl:l.length<=200)(a:Nat)(ha:a<=l.length):
  ∃(m:Mod) (a':Nat),CG m/\a'<=l.length/\Ab PP 13 [.ptr 0 0] (dz l a) (Ah m) (dz l a'):=by
 obtain⟨r1,a1,p1,p2,p3,p4⟩:=Aw l hl a ha 2 (by decide) (by decide)
 obtain⟨r2,a2,q1,q2,q3,q4⟩:=Aw l hl a1 p3 2 (by decide) (by decide)
 obtain⟨ag,a3,u1,u2,u3,u4⟩:=Aw l hl a2 q3 2 (by decide) (by decide)
 obtain⟨n1,rfl⟩:∃n:Nat,r1=n:=⟨r1.toNat,by omega⟩
 obtain⟨n2,rfl⟩:∃n:Nat,r2=n:=⟨r2.toNat,by omega⟩
 obtain⟨S,hS⟩:∃S,S=([[97],[98]]:List (List UInt8)).take (1+n1):=⟨_,rfl⟩
 obtain⟨Pl,hPl⟩:∃S,S=([[120],[121]]:List (List UInt8)).take (1+n2):=⟨_,rfl⟩
 have hSx:S=[[97]]∨S=[[97],[98]]:=by
  rcases(show n1=0∨n1=1 by omega) with rfl|rfl
  ·exact .inl hS
  ·exact .inr hS
 have hPx:Pl=[[120]]∨Pl=[[120],[121]]:=by
  rcases(show n2=0∨n2=1 by omega) with rfl|rfl
  ·exact .inl hPl
  ·exact .inr hPl
 obtain⟨m,a',m1,m2,m3⟩:=tim_loop l hl S Pl ag hSx hPx ⟨u1,by omega⟩ _ 0 a3 [] rfl u3 (by omega) rfl (by simp)
 refine⟨m,a',m1,m2,?_⟩
 refine sv fTim 94 [] (.h (.dr 13)<|.c1 (cDz l a1) (di n1)<|.c1 (cDz l a2) (di n2)<|.c1 (cDz l a3) (di ag)<|.h .rn<|.h (.q 2 0)<|.h (.cl 2 7 2 14)<|.ls [ke 0,ke 2,ke 3,ch 4 (di (0:Nat))] (stTm l a3 S Pl ag [])) (Ab PP 8 [D.ptr 0 0,di 2] (dz l a) (di (n1:Int)) (dz l a1)/\Ab PP 8 [D.ptr 0 0,di 2] (dz l a) (di (n1:Int)) (dz l a1)/\Q (di (n1:Int))/\(∀(x:V),x∈ [V.str (ByteArray.mk #[97]).data.toList,V.str (ByteArray.mk #[98]).data.toList]->V.size x=1)/\0<=(fun x=>x.snd) (i64,wrap i64 (1+(n1:Int)))/\(fun x=>x.snd) (i64,wrap i64 (1+(n1:Int)))<=(↑(length [V.str (ByteArray.mk #[97]).data.toList,V.str (ByteArray.mk #[98]).data.toList]):Int)/\Ab PP 8 [D.ptr 0 0,di 2] (dz l a1) (di (n2:Int)) (dz l a2)/\Ab PP 8 [D.ptr 0 0,di 2] (dz l a1) (di (n2:Int)) (dz l a2)/\Q (di (n2:Int))/\(∀(x:V),x∈ [V.str (ByteArray.mk #[120]).data.toList,V.str (ByteArray.mk #[121]).data.toList]->V.size x=1)/\0<=(fun x=>x.snd) (i64,wrap i64 (1+(n2:Int)))/\(fun x=>x.snd) (i64,wrap i64 (1+(n2:Int)))<=(↑(length [V.str (ByteArray.mk #[120]).data.toList,V.str (ByteArray.mk #[121]).data.toList]):Int)/\Ab PP 8 [D.ptr 0 0,di 2] (dz l a2) (di ag) (dz l a3)/\Ab PP 8 [D.ptr 0 0,di 2] (dz l a2) (di ag) (dz l a3)/\Q (di ag)/\Q [St.mk [some (cDz l a),some zMl,some zMl] [],St.mk [some (cDz l a1),some zMl,some zMl] [],St.mk [some (cDz l a2),some zMl,some zMl] [],St.mk [some (cDz l a3),some zMl,some zMl] []]/\True/\di 0=di (↑0:Int)/\[some (cDz l a3),some zMl,some [di 5,D.v (V.list (List.drop 0 (take (Int.toNat ((fun x=>x.snd) (i64,wrap i64 (1+(n1:Int))))) (V.str (ByteArray.mk #[97]).data.toList::V.str (ByteArray.mk #[98]).data.toList::nV)))),D.v (V.list (List.drop 0 (take (Int.toNat ((fun x=>x.snd) (i64,wrap i64 (1+(n2:Int))))) (V.str (ByteArray.mk #[120]).data.toList::V.str (ByteArray.mk #[121]).data.toList::nV)))),dn,dn,di 0,di ag,D.acc 2 nV,di 0,dn]]=[some (cDz l a3),some zM,some (cTm S Pl ag [])]/\Q [(2,14,nV)]/\I0 fTim (length (dz l a).H) (Ah m) (dz l a') [kl cTim [1,1,0,1,0,0],KI.blk 0,kc cTim [1,1,1]] (mkE 94 [(0,D.ptr 0 0),(2,D.ptr 1 0),(3,D.ptr 2 0),(4,di (↑0:Int))]) (stTm l a3 S Pl ag [])) ?_
 have w1:wrap i64 (1+(n1:Int))=1+n1:=Aj (by omega) (by omega)
 have w2:wrap i64 (1+(n2:Int))=1+n2:=Aj (by omega) (by omega)
 have z1:∀x∈ [V.str [97],V.str [98]],x.size=1:=by simp[V.size]
 have z2:∀x∈ [V.str [120],V.str [121]],x.size=1:=by simp[V.size]
 have k1:V.list (List.drop 0 (take (1+(n1:Int)).toNat [V.str [97],V.str [98]]))=vSs S:=by
  rw[hS,drop_zero,show(1+(n1:Int)).toNat=1+n1 by omega]
  rcases(show n1=0∨n1=1 by omega) with rfl|rfl<;>rfl
 have k2:V.list (List.drop 0 (take (1+(n2:Int)).toNat [V.str [120],V.str [121]]))=vSs Pl:=by
  rw[hPl,drop_zero,show(1+(n2:Int)).toNat=1+n2 by omega]
  rcases(show n2=0∨n2=1 by omega) with rfl|rfl<;>rfl
 rw[w1,w2]
 refine⟨p4,p4,rfl,z1,by show 0<=1+(n1:Int);omega,by show 1+(n1:Int)<=2;omega,q4,q4,rfl,z2,by show 0<=1+(n2:Int);omega,by show 1+(n2:Int)<=2;omega,u4,u4,rfl,rfl,trivial,rfl,?_,rfl,⟨m3⟩⟩
 show [some (cDz l a3),some zM,some [di 5,.v (V.list (List.drop 0 (take (1+(n1:Int)).toNat [V.str [97],V.str [98]]))),.v (V.list (List.drop 0 (take (1+(n2:Int)).toNat [V.str [120],V.str [121]]))),.v .nils,.v .nils,di 0,di ag,.acc 2 [],di 0,.v .nils]]=_
 rw[k1,k2];rfl
def isI64(P:Program)(t:TypeId):Bool:=match P.underlying t with
 |some (.int .i64)=>true
 |_=>false
theorem isI64_eq{P:Program}{t:TypeId}(h:isI64 P t=true):P.underlying t=some (.int .i64):=by
 unfold isI64 at h
 split at h
 ·assumption
 ·simp at h
def threeInts(P:Program)(t:TypeId):Bool:=match (P.fieldsOf t).toList with
 |[f,g,h]=>f.name !="_"&&g.name !="_"&&h.name !="_"&&f.offset==0&&g.offset==1&&h.offset==2&&P.plainKey f.type&&P.plainKey g.type&&P.plainKey h.type&&isI64 P f.type&&isI64 P g.type&&isI64 P h.type
 |_=>false
theorem run_eq3{P:Program}{t:TypeId}(h2:threeInts P t=true)(ht:P.underlying t=some (.struct (P.fieldsOf t)))(hp:P.stoodInHeld t=false)(d:Nat)(a b c:Int)(w:World):
  (Op.equalIn (d+2) t (.agg #[.int .i64 a,.int .i64 b,.int .i64 c]) (.agg #[.int .i64 a,.int .i64 b,.int .i64 c])).run P w=.ok true w:=by
 rw[run_equalIn_struct w (d+1) t _ _ ht hp]
 unfold threeInts at h2
 split at h2
 ·rename_i f g h hfs
  rw[hfs]
  simp only[Bool.and_eq_true,bne_iff_ne,beq_iff_eq] at h2
  obtain⟨⟨⟨⟨⟨⟨⟨⟨⟨⟨⟨n1,n2⟩,n3⟩,o1⟩,o2⟩,o3⟩,p1⟩,p2⟩,p3⟩,u1⟩,u2⟩,u3⟩:=h2
  have e1:∀w,(part f.type #[.int .i64 a,.int .i64 b,.int .i64 c] f.offset).run P w=.ok (.int .i64 a) w:=fun w=>run_part_plain w p1 (by rw[o1];rfl)
  have e3:∀w,(part g.type #[.int .i64 a,.int .i64 b,.int .i64 c] g.offset).run P w=.ok (.int .i64 b) w:=fun w=>run_part_plain w p2 (by rw[o2];rfl)
  have e5:∀w,(part h.type #[.int .i64 a,.int .i64 b,.int .i64 c] h.offset).run P w=.ok (.int .i64 c) w:=fun w=>run_part_plain w p3 (by rw[o3];rfl)
  simp only[Op.eqFields,ne_eq,n1,n2,n3,not_false_eq_true,if_true,Sem.run_bind,e1,Result.andThen_ok,run_equalIn_int _ d _ .i64 .i64 _ _ (isI64_eq u1)]
  have u2':=fun w=>run_equalIn_int (P:=P) w d g.type .i64 .i64 b b (isI64_eq u2)
  have u3':=fun w=>run_equalIn_int (P:=P) w d h.type .i64 .i64 c c (isI64_eq u3)
  simp[Sem.run_ite,e3,u2',e5,u3']
 ·simp at h2
abbrev tTk:TypeId:=68
theorem tk_three:threeInts PP tTk=true:=by kernel_rfl
theorem tk_st:PP.underlying tTk=some (.struct (PP.fieldsOf tTk)):=by kernel_rfl
theorem tk_held:PP.stoodInHeld tTk=false:=by kernel_rfl
theorem tk_guard:PP.eqGuardType PP.depth tTk=false:=by kernel_rfl
theorem tk_agg:AggTy PP tTk 3:=by unfold AggTy;kernel_rfl
theorem op_neqTk{o:Oper}{σ:St}{ty:TypeId}{x y:Operand}(ho:o.op=.binOp .neq tTk x y ty)(a:Tk):Ai PP o [.v (vTk a),.v (vTk a)] σ (db false) σ:=by
 refine Ax fun E g ρ w hw hds=>?_
 simp only[ho,Op.operands,Ap] at hds
 obtain⟨u,v,e,h1,h2'⟩:=hds
 simp only[map_cons,map_nil,List.cons.injEq,and_true] at e
 obtain⟨e1,e2⟩:=e
 simp only[Ae,BZ] at h1 h2'
 obtain⟨ws,h1,rfl⟩:=h1
 obtain⟨vs,h3,rfl⟩:=h2'
 have hw1:ws=[.int .i64 a.1,.int .i64 a.2,.int .i64 a.3]:=by
  simp only[repA,repC,List.cons.injEq,and_true] at h1
  obtain⟨u,us,rfl,_,rfl,u2,us2,rfl,_,rfl,u3,us3,rfl,_,rfl,rfl⟩:=h1;rfl
 have hw2:vs=[.int .i64 a.1,.int .i64 a.2,.int .i64 a.3]:=by
  simp only[repA,repC,List.cons.injEq,and_true] at h3
  obtain⟨u,us,rfl,_,rfl,u2,us2,rfl,_,rfl,u3,us3,rfl,_,rfl,rfl⟩:=h3;rfl
 subst hw1 hw2
 refine⟨.bool false,?_,by simp[Ae]⟩
 have hr:=run_eq3 tk_three tk_st tk_held 9998 a.1 a.2 a.3 w
 simp[execOp,ho,e1,e2,run_eqGuard_agg w .neq tTk x y _ _ tk_guard,run_neq_struct,hr]
theorem eqT_one(a:Tk):Ab PP 188 [.v (AA [a]),.v (AA [a])] σ0 (db true) σ0:=by
 refine sv fEqT 26 [] (.n<|.x (vTk a)<|.x (vTk a)<|.h (.p (.v (vTk a)))<|.h (.p (db false))<|.n<|.r) (iz 0<=0/\Q (some (vTk a))/\iz 0<=0/\Q (some (vTk a))/\(∀(τ:St),Ai PP (Oper.mk (some 23) (Op.load 68 (Operand.tmp 22)) 68 "slices.go:25" #[Edge.mk 6 Ground.data] none) [D.v (V.ref (vTk a))] τ (D.v (vTk a)) τ)/\(∀(τ:St),Ai PP (Oper.mk (some 24) (Op.binOp BinOp.neq 68 (Operand.tmp 19) (Operand.tmp 23) 68) 4 "slices.go:25" #[Edge.mk 3 Ground.data,Edge.mk 7 Ground.data] none) [D.v (vTk a),D.v (vTk a)] τ (db false) τ)/\Q (db true)) ?_
 exact⟨by decide,rfl,by decide,rfl,fun τ=>op_loadRA rfl tk_agg,fun τ=>op_neqTk rfl a,rfl⟩
theorem eqT_same(l:List Tk)(h:l.length<=1):Ab PP 188 [.v (AA l),.v (AA l)] σ0 (db true) σ0:=by
 match l,h with
 |[],_=>exact eqT_nil []
 |[a],_=>exact eqT_one a
noncomputable abbrev fSrI:Func:= Tryz.f183
theorem srI_spec(l:List Int)(h:l.length<=1):Ab PP 183 [dIs l] σ0 (db true) σ0:=by
 match l,h with
 |[],_=>
  refine sv fSrI 21 [] (.n<|.r) (Q (db true)) ?_
  rfl
 |[a],_=>
  refine sv fSrI 21 [] (.n<|.r) (Q (db true)) ?_
  rfl
noncomputable abbrev fAg1:Func:= Tryz.f184
theorem ag1_spec(n:Nat)(hn:n<=1000000)(x:Int):Ab PP 184 [di x,.v (.ref (vi n))] σ0 (db (A3 x 0 (n-1))) σ0:=by
 refine sv fAg1 7 [] (.c (db (A3 x 0 (n-1))) .r) (F0 131 [di x,di (n:Int)] (db (A3 x 0 ((n:Int)-1)))/\Q (db (A3 x 0 ((n:Int)-1)))) ?_
 exact⟨C6 x n hn,rfl⟩
noncomputable abbrev fAg2:Func:= Tryz.f186
theorem ag2_ok(m:Mod)(hm:m.places.length<=1000000)(hag:0<=m.age/\m.age<=1000)(t:Tk)(h1:0<=t.place/\t.place<m.places.length)(h2:0<=t.low/\t.low<=t.high/\t.high<=m.age+1):Ab PP 186 [.v (vTk t),.v (.ref (vi m.places.length)),.v (.ref (AE m))] σ0 (db false) σ0:=by
 refine sv fAg2 30 [3] (.c (db true)<|.k<|.f<|.f<|.r) (F0 131 [di t.place,di (m.places.length:Int)] (db true)/\decide (t.low<0)=false/\decide (t.low>t.high)=false/\db (decide (t.high>wrap i64 (m.age+1)))=db false) ?_
 have h:=C6 t.place m.places.length hm
 rw[show A3 t.place 0 ((m.places.length:Int)-1)=true by simp[A3];omega] at h
 refine⟨h,decide_eq_false (by omega),decide_eq_false (by omega),?_⟩
 rw[Aj (by omega) (by omega),decide_eq_false (by omega)]
noncomputable abbrev fIxTk:Func:= Tryz.f210
noncomputable abbrev fHasTk:Func:= Tryz.f185
theorem hasTk_spec(F:FuncId)(cs:List V)(l:List Tk)(h:l.length<=1)(hp:∀x∈l,Ab PP F ((([]:List V)++[vTk x]++cs).map .v) σ0 (db false) σ0):Ab PP 185 [.v (AA l),.v (.fn F [] cs)] σ0 (db false) σ0:=by
 have hi:Ab PP 210 [.v (AA l),.v (.fn F [] cs)] σ0 (di (-1)) σ0:=by
  match l,h with
  |[],_=>
   refine sv fIxTk 19 [] (.n<|.r) (Q (di (-1))) ?_
   rfl
  |[a],_=>
   refine sv fIxTk 19 [] (.n<|.x (vTk a)<|.c (db false)<|.n<|.r) (iz 0<=0/\Q (some (vTk a))/\F0 F (D.v (vTk a)::map D.v ([]++cs)) (db false)/\Q (di (-1))) ?_
   exact⟨by decide,rfl,by simpa using hp a (by simp),rfl⟩
 refine sv fHasTk 9 [] (.c (di (-1)) .r) (F0 210 [D.v (AA l),D.v (V.fn F [] cs)] (di (-1))/\db (decide (-1>=0))=db false) ?_
 exact⟨hi,rfl⟩
noncomputable abbrev fAgs:Func:= Tryz.f136
theorem ags_ok(m:Mod)(hm:m.places.length<=1000000)(hag:0<=m.age/\m.age<=1000)(r:Rul)(h1:r.takes.length<=1)(h2:r.makes.length<=1)(h3:∀t∈r.takes,(0<=t.place/\t.place<m.places.length)/\(0<=t.low/\t.low<=t.high/\t.high<=m.age+1))(h4:∀x∈r.makes,0<=x/\x<m.places.length):Ab PP 136 [Ah m,BK r] σ0 (db true) σ0:=by
 refine sv fAgs 37 [2,3] (.h (.q 2 0)<|.h (.f1 0 [5])<|.t<|.t<|.c (db true)<|.k<|.c (db true)<|.k<|.c (db false)<|.r) (decide ((length (map vTk r.takes):Int)<=3)=true/\decide ((length (map vi r.makes):Int)<=3)=true/\F0 183 [dIs r.makes] (db true)/\F0 137 [dIs r.makes,D.v (V.fn 184 [] [V.ref (vi (length (map V.str m.places):Int))])] (db true)/\F0 185 [D.v (AA r.takes),D.v (V.fn 186 [] [V.ref (vi (length (map V.str m.places):Int)),V.ref (AE m)])] (db false)/\(db !false)=db true) ?_
 refine⟨decide_eq_true (by rw[length_map];omega),decide_eq_true (by rw[length_map];omega),srI_spec _ h2,?_,?_,rfl⟩
 ·rw[length_map]
  have h:=Hi 184 [] [.ref (vi m.places.length)] (fun x=>A3 x 0 ((m.places.length:Int)-1)) r.makes (by omega) (fun x _=>ag1_spec m.places.length hm x)
  rwa[show(r.makes.all fun x=>A3 x 0 ((m.places.length:Int)-1))=true from by
   rw[all_eq_true];intro x hx;have:=h4 x hx;simp[A3];omega] at h
 ·rw[length_map]
  exact hasTk_spec _ _ r.takes h1 fun x hx=>ag2_ok m hm hag x (h3 x hx).1 (h3 x hx).2
theorem sameT_ok(nm:List UInt8)(f t:Int)(tk:List Tk)(mk:List Int)(h1:tk.length<=1)(h2:mk.length<=1):Ab PP 139 [BK (mkT nm f t tk mk),BK (mkT nm f t tk mk)] σ0 (db true) σ0:=by
 refine sv fSame 101 [2,3] (.t<|.t<|.t<|.c (db true)<|.k<|.c (db true)<|.k<|.c (db true)<|.k<|.k<|.k<|.k<|.c (db true)<|.k<|.c (db true)<|.k<|.c (db true)<|.k<|.c (db true)<|.k<|.r) (((mkT nm f t tk mk).name==(mkT nm f t tk mk).name)=true/\((mkT nm f t tk mk).frm==(mkT nm f t tk mk).frm)=true/\((mkT nm f t tk mk).to==(mkT nm f t tk mk).to)=true/\F0 36 [D.v (vIs (mkT nm f t tk mk).need),D.v (vIs (mkT nm f t tk mk).need)] (db true)/\F0 36 [D.v (vIs (mkT nm f t tk mk).give),D.v (vIs (mkT nm f t tk mk).give)] (db true)/\F0 36 [D.v (vIs (mkT nm f t tk mk).move),D.v (vIs (mkT nm f t tk mk).move)] (db true)/\F0 36 [D.v (vIs (mkT nm f t tk mk).path),D.v (vIs (mkT nm f t tk mk).path)] (db true)/\F0 36 [D.v (vIs (mkT nm f t tk mk).next),D.v (vIs (mkT nm f t tk mk).next)] (db true)/\F0 188 [D.v (AA (mkT nm f t tk mk).takes),D.v (AA (mkT nm f t tk mk).takes)] (db true)/\F0 36 [D.v (vIs (mkT nm f t tk mk).makes),D.v (vIs (mkT nm f t tk mk).makes)] (db true)/\db ((mkT nm f t tk mk).second==(mkT nm f t tk mk).second)=db true) ?_
 have e:∀l:List Int,l.length<=1000000->Ab PP 36 [.v (vIs l),.v (vIs l)] σ0 (db true) σ0:=fun l hl=>by simpa using C7 l l hl
 have n0:=e [] (by decide)
 exact⟨by simp,by simp,by simp,n0,n0,n0,n0,n0,eqT_same tk h1,e mk (by omega),by simp⟩
theorem rightT_ok(m:Mod)(hm:m.places.length<=1000000)(hst:m.states.length<=1000000)(hk:m.kind=5)(hag:0<=m.age/\m.age<=1000)(nm:List UInt8)(f t:Int)(tk:List Tk)(mk:List Int)(hf:0<=f/\f<m.states.length)(ht:0<=t/\t<m.states.length)(h1:tk.length<=1)(h2:mk.length<=1)(h3:∀t∈tk,(0<=t.place/\t.place<m.places.length)/\(0<=t.low/\t.low<=t.high/\t.high<=m.age+1))(h4:∀x∈mk,0<=x/\x<m.places.length):Ab PP 97 [Ah m,BK (mkT nm f t tk mk)] σ0 (db true) σ0:=by
 refine sv fRight 142 [2,3] (.c (db true)<|.k<|.c (db true)<|.k<|.k<|.f<|.f<|.f<|.f<|.t<|.c (db true)<|.k<|.c (db true) .r) (F0 131 [di (mkT nm f t tk mk).to,di (length (map V.str m.states):Int)] (db true)/\F0 131 [di (mkT nm f t tk mk).frm,di (length (map V.str m.states):Int)] (db true)/\(m.kind==1)=false/\(m.kind==2)=false/\(m.kind==3)=false/\(m.kind==4)=false/\(m.kind==5)=true/\F0 136 [Ah m,D.v (Ak (mkT nm f t tk mk))] (db true)/\F0 139 [D.v (Ak (mkT nm f t tk mk)),D.v (V.agg [V.str (mkT nm f t tk mk).name,vi (mkT nm f t tk mk).frm,vi (mkT nm f t tk mk).to,V.list [],V.list [],V.list [],vi 0,vi 0,vi 0,V.list [],V.list [],AA (mkT nm f t tk mk).takes,vIs (mkT nm f t tk mk).makes,vi 0])] (db true)/\Q (db true)) ?_
 have hx:∀x:Int,0<=x->x<m.states.length->Ab PP 131 [di x,di ((m.states.map V.str).length:Int)] σ0 (db true) σ0:=fun x h0 h1=>by
  rw[length_map]
  have h:=C6 x m.states.length hst
  rwa[show A3 x 0 ((m.states.length:Int)-1)=true by simp[A3];omega] at h
 exact⟨hx t ht.1 ht.2,hx f hf.1 hf.2,by rw[hk];rfl,by rw[hk];rfl,by rw[hk];rfl,by rw[hk];rfl,by rw[hk];rfl,ags_ok m hm hag (mkT nm f t tk mk) h1 h2 h3 h4,sameT_ok nm f t tk mk h1 h2,rfl⟩
def E8(m:Mod):Typ:=.prod [.lab m.states.length,.bag (.prod [.lab m.places.length,.lab (m.age+2)])]
theorem typedT_spec(m:Mod)(hk:m.kind=5)(hag:0<=m.age/\m.age<=1000):Ab PP 61 [Ah m] σ0 (dT (E8 m)) σ0:=by
 refine sv F3 70 [1] (.c (dT (.lab m.states.length))<|.a 1<|.f<|.t<|.c (dT (.lab m.places.length))<|.c (dT (.lab (m.age+2)))<|.c (dT (.bag (.prod [.lab m.places.length,.lab (m.age+2)])))<|.r) (F0 102 [di (length (map V.str m.states):Int)] (dT (Typ.lab (m.states.length:Int)))/\(m.kind==4)=false/\(m.kind==5)=true/\F0 102 [di (length (map V.str m.places):Int)] (dT (Typ.lab (m.places.length:Int)))/\F0 102 [di (wrap i64 (m.age+2))] (dT (Typ.lab (m.age+2)))/\F0 104 [di 5,D.v (V.agg [vi 3,vi 0,V.list [],V.list [vT (Typ.lab (m.places.length:Int)),vT (Typ.lab (m.age+2))]])] (dT (Typ.bag (Typ.prod [Typ.lab (m.places.length:Int),Typ.lab (m.age+2)])))/\Q (vT (Typ.lab (m.states.length:Int))::nV)/\Ar 2 64/\D.v (V.agg [vi 3,vi 0,V.list [],V.list [vT (Typ.lab (m.states.length:Int)),vT (Typ.bag (Typ.prod [Typ.lab (m.places.length:Int),Typ.lab (m.age+2)]))]])=dT (E8 m)) ?_
 exact⟨by rw[length_map];exact DU _,by rw[hk];rfl,by rw[hk];rfl,by rw[length_map];exact DU _,by rw[Aj (by omega) (by omega)];exact DU _,mlist_bag (.prod [.lab m.places.length,.lab (m.age+2)]),rfl,⟨by decide,by decide⟩,rfl⟩
theorem goodT(m:Mod)(hst:1<=m.states.length/\m.states.length<=16)(hpl:1<=m.places.length/\m.places.length<=16)(hag:0<=m.age/\m.age<=3):Dd 8 (E8 m)=true:=by
 simp only[E8,Dd,length_cons,length_nil,List.all_cons,List.all_nil,Bool.and_true,Bool.and_eq_true,Bool.not_eq_true',beq_eq_false_iff_ne,decide_eq_false_iff_not,decide_eq_true_eq]
 omega
theorem tokOne(np age:Int)(t:Val)(h:TokV np age t):AG (.prod [.lab np,.lab (age+2)]) t=true:=by
 obtain⟨p,g,h1,h2,rfl⟩:=h
 simp only[AG,Val.n,Val.kids,CF,Es,Bool.and_eq_true,decide_eq_true_eq,beq_iff_eq]
 refine⟨?_,?_,⟨?_,?_,?_⟩,⟨?_,?_,?_⟩,?_⟩
 all_goals first|exact decide_eq_true h1.1|exact decide_eq_true h1.2|exact decide_eq_true h2.1|exact decide_eq_true h2.2|rfl|trivial
theorem srtM_asc(l:List Val)(h:∀i x y,l[i]?=some x->l[i+1]?=some y->Av x y<0):∀k,k<l.length->srtM l k=true
 |0,_=>rfl
 |k+1,hk=>by
  have h1:l[k]?=some l[k]:=getElem?_eq_getElem (by omega)
  have h2:l[k+1]?=some l[k+1]:=getElem?_eq_getElem hk
  have h3:=h k _ _ h1 h2
  have h4:=(B4.swap _ _ trivial trivial).1 h3
  rw[srtM,getD_eq_getElem?_getD,getD_eq_getElem?_getD,h1,h2,if_neg (by show ¬Av l[k+1] l[k]<0;omega)]
  exact srtM_asc l h k (by omega)
theorem bag_valid(m:Mod)(s:Int)(hs:0<=s/\s<m.states.length)(ts:List Val)(h:TokL m.places.length m.age 2 ts):Au (E8 m) (.mk 0 [.mk s [],.mk 0 ts])=true:=by
 have hsz:=toks_sz ts h.tok
 have hl:=h.len
 have hsr:srtB ts=true:=by
  unfold srtB
  cases ts with
  |nil=>rfl
  |cons t ts=>exact srtM_asc _ h.asc _ (by simp)
 rw[Au,decide_eq_true (by simp only[Val.size,Val.sizes];omega),Bool.true_and,E8]
 simp only[AG,Val.n,Val.kids,CF,Es,Bool.and_eq_true,decide_eq_true_eq,beq_iff_eq,all_eq_true]
 refine⟨?_,?_,⟨?_,?_,?_⟩,⟨⟨?_,?_,?_⟩,?_⟩,?_⟩
 all_goals first|exact decide_eq_true hs.1|exact decide_eq_true hs.2|exact hsr|(intro t ht;obtain⟨p,g,h1,h2,rfl⟩:=h.tok t ht;have:=tokOne _ _ _ ⟨p,g,h1,h2,rfl⟩;simp only[AG,Bool.and_eq_true] at this;exact⟨rfl,rfl,this.2.2⟩)|rfl|trivial|exact decide_eq_true (by omega)
theorem mapNameT{rs:List Rul}(h3:rs.length<=2){ns np:Nat}{ag:Int}(h:∀k r,rs[k]?=some r->MadeTR ns np ag k r):rs.map Rul.name=dl2.take rs.length:=by
 apply ext_getElem?
 intro i
 by_cases hi:i<rs.length
 ·have hx:rs[i]?=some rs[i]:=getElem?_eq_getElem hi
  rw[getElem?_map,hx,List.getElem?_take_of_lt hi,(h i _ hx).name];rfl
 ·rw[getElem?_eq_none (by simp;omega),getElem?_eq_none (by simp;omega)]
theorem CG.sz{m:Mod}(h:CG m):(1<=m.states.length/\m.states.length<=2)/\(1<=m.places.length/\m.places.length<=2):=
 ⟨by rcases h.states with e|e<;>rw[e]<;>decide,by rcases h.places with e|e<;>rw[e]<;>decide⟩
theorem CG.right{m:Mod}(h:CG m)(r:Rul)(hr:r∈m.rules):Ab PP 97 [Ah m,BK r] σ0 (db true) σ0:=by
 obtain⟨hst,hpl⟩:=h.sz
 have hag:=h.age
 have hi:=List.idxOf_lt_length_of_mem hr
 have hm:=h.rules _ r (by rw[getElem?_eq_getElem hi,List.getElem_idxOf])
 rw[hm.rest]
 refine rightT_ok m (by omega) (by omega) h.kind (by omega) _ _ _ _ _ hm.frm hm.to ?_ ?_ ?_ ?_
 ·rcases hm.takes with e|⟨p,lo,hi,_,_,e⟩<;>rw[e]<;>simp
 ·rcases hm.makes with e|⟨p,_,e⟩<;>rw[e]<;>simp
 ·rcases hm.takes with e|⟨p,lo,hi,h1,h2,e⟩
  ·rw[e];simp
  ·rw[e];intro t ht;rw[mem_singleton.1 ht];exact⟨h1,h2⟩
 ·rcases hm.makes with e|⟨p,h1,e⟩
  ·rw[e];simp
  ·rw[e];intro t ht;rw[mem_singleton.1 ht];exact h1
theorem chk1T_spec(m:Mod)(hm:CG m)(r:Rul)(hr:r∈m.rules):Ab PP 96 [BK r,.v (.ref (AE m))] σ0 (db false) σ0:=by
 refine sv fChk1 8 [2] (.c (db true) .r) (F0 97 [Ah m,BK r] (db true)/\(db !true)=db false) ?_
 exact⟨hm.right r hr,rfl⟩
theorem CG.good{m:Mod}(h:CG m):Dd 8 (E8 m)=true:=goodT m (by have:=h.sz;omega) (by have:=h.sz;omega) (by have:=h.age;omega)
theorem CG.start_ok{m:Mod}(h:CG m):Au (E8 m) m.start=true:=by
 obtain⟨ts,h1,h2⟩:=h.start
 have:=h.sz
 rw[h2];exact bag_valid m 0 ⟨by omega,by omega⟩ ts h1
theorem CG.ssz{m:Mod}(h:CG m):m.start.size<=1000000:=by
 have:=h.start_ok
 simp only[Au,Bool.and_eq_true,decide_eq_true_eq] at this
 omega
theorem begT_spec(m:Mod)(hm:CG m):Ab PP 98 [Ah m] σ0 (db true) σ0:=by
 refine sv fBeg 22 [1] (.f<|.c (dT (E8 m))<|.c (db true) .r) ((m.kind==6)=false/\F0 61 [Ah m] (dT (E8 m))/\F0 60 [D.v (vT (E8 m)),dV m.start] (db true)/\Q (db true)) ?_
 refine⟨by rw[hm.kind];rfl,typedT_spec m hm.kind (by have:=hm.age;omega),?_,rfl⟩
 have:=He (E8 m) hm.good m.start hm.ssz
 rw[hm.start_ok] at this
 exact this
theorem chkT_spec(m:Mod)(hm:CG m):Ab PP 59 [Ah m] σ0 (di 0) σ0:=by
 refine sv fChk 29 [1] (.c (db true)<|.c (db true)<|.c (db true)<|.c (db true)<|.c (db false)<|.c (db true) .r) (F0 92 [di m.kind,di 1,di 6] (db true)/\F0 93 [Ah m] (db true)/\F0 94 [Ah m] (db true)/\F0 95 [Ah m] (db true)/\F0 80 [D.v (AY m.rules),D.v (V.fn 96 [] [V.ref (AE m)])] (db false)/\F0 98 [Ah m] (db true)/\Q (di 0)) ?_
 obtain⟨hst,hpl⟩:=hm.sz
 have hag:=hm.age
 have hc:=hm.count
 have hb:∀{x a b:Int},a<=x->x<=b->A3 x a b=true:=fun h1 h2=>by simp[A3,h1,h2]
 refine⟨?_,?_,?_,?_,?_,begT_spec m hm,rfl⟩
 ·have:=CD m.kind 1 6
  rwa[show A3 m.kind 1 6=true by rw[hm.kind];rfl] at this
 ·have:=sized_spec lim5 m (by rw[hm.kind];exact of_5)
  rwa[show CH lim5 m=true by
   simp only[CH,Bool.and_eq_true,decide_eq_true_eq,hm.letters,hm.levels]
   exact⟨hb (by omega) (by omega),by omega,hb (by omega) (by omega),by decide,by decide,hb (by omega) (by omega)⟩] at this
 ·have:=ranked_spec m (by rw[hm.ranks];decide)
  rwa[show Cp m=true by rw[Cp,if_pos (by rw[hm.kind];rfl),hm.ranks];rfl] at this
 ·have:=nam_spec m (by simp only[CK,flatten_cons,List.flatten_nil,length_append,length_nil,hm.letters];omega)
  rwa[show Ge m=true by
   have hn:=mapNameT hm.count hm.rules
   rw[Ge,namesM,hn,CK,hm.letters]
   have:m.rules.length=0∨m.rules.length=1∨m.rules.length=2:=by omega
   rcases hm.states with e|e<;>rcases hm.places with e'|e'<;>rcases this with e2|e2|e2<;>rw[e,e',e2]<;>decide+kernel] at this
 ·have:=hasR_spec 96 [] [.ref (AE m)] (fun _=>false) m.rules (by omega) (fun r hr=>chk1T_spec m hm r hr)
  rw[show m.rules.any (fun _=>false)=false by simp] at this
  exact this
theorem mvalT_spec(m:Mod)(hm:CG m)(v:Val)(hv:v.size<=1000000):Ab PP 42 [Ah m,dV v] σ0 (db (Au (E8 m) v)) σ0:=by
 refine sv fMVal 14 [2,3] (.c (di 0)<|.c (dT (E8 m))<|.c (db (Au (E8 m) v)) .r) (F0 59 [Ah m] (di 0)/\F0 61 [Ah m] (dT (E8 m))/\F0 60 [D.v (vT (E8 m)),dV v] (db (Au (E8 m) v))/\Q (db (Au (E8 m) v))) ?_
 exact⟨chkT_spec m hm,typedT_spec m hm.kind (by have:=hm.age;omega),He _ hm.good v hv,rfl⟩
theorem wlkT_spec(m:Mod)(hm:CG m):Ab PP 41 [Ah m] σ0 (di 0) σ0:=by
 refine sv fWlk 12 [1] (.c (di 0)<|.k<|.f .r) (F0 59 [Ah m] (di 0)/\(m.kind==6)=false/\Q (di 0)) ?_
 exact⟨chkT_spec m hm,by rw[hm.kind];rfl,rfl⟩
theorem CG.int{m:Mod}(h:CG m):FL m (E8 m):=⟨wlkT_spec m h,spl_spec m (by have:=h.count;omega),fun v hv=>mvalT_spec m h v hv,by have:=h.sz;omega⟩
inductive AnyM (m:Mod):Prop where
 |cM (h:MadeM m)
 |l2 (h:MadeL 2 m)
 |l3 (h:MadeL 3 m)
 |tm (h:CG m)
 |c (h:MadeC m)
noncomputable abbrev fAny:Func:= Tryz.f6
theorem any_ex(l:List UInt8)(hl:l.length<=200)(a:Nat)(ha:a<=l.length):
  ∃(m:Mod) (a':Nat),AnyM m/\a'<=l.length/\Ab PP 6 [.ptr 0 0] (dz l a) (Ah m) (dz l a'):=by
 obtain⟨r,a1,p1,p2,p3,p4⟩:=Aw l hl a ha 5 (by decide) (by decide)
 rcases(show r=0∨r=1∨r=2∨r=3∨r=4 by omega) with rfl|rfl|rfl|rfl|rfl
 ·obtain⟨m,a2,h1,h2,h3⟩:=ctrT_ex l hl a1 p3
  refine⟨m,a2,.cM h1,h2,?_⟩
  refine sv fAny 23 [] (.c1 (cDz l a1) (di 0)<|.c1 (cDz l a2) (Ah m) .r) (Ab PP 8 [D.ptr 0 0,di 5] (dz l a) (di 0) (dz l a1)/\Ab PP 11 [D.ptr 0 0,db true] (dz l a1) (Ah m) (dz l a2)/\Q [some (cDz l a2)]/\D.v (V.agg [vi m.kind,V.list (map V.str m.states),V.list (map V.str m.places),V.list (map V.str m.letters),V.list (map vi m.ranks),vi m.levels,vi m.age,V.list (map Ak m.rules),vi m.start.n,V.list (map eV m.start.kids)])=Ah m) ?_
  trivial
 ·obtain⟨m,a2,h1,h2,h3⟩:=chn_ex l hl a1 p3 2 (.inl rfl)
  refine⟨m,a2,.l2 h1,h2,?_⟩
  refine sv fAny 23 [] (.c1 (cDz l a1) (di 1)<|.c1 (cDz l a2) (Ah m) .r) (Ab PP 8 [D.ptr 0 0,di 5] (dz l a) (di 1) (dz l a1)/\Ab PP 12 [D.ptr 0 0,di 2] (dz l a1) (Ah m) (dz l a2)/\Q [some (cDz l a2)]/\D.v (V.agg [vi m.kind,V.list (map V.str m.states),V.list (map V.str m.places),V.list (map V.str m.letters),V.list (map vi m.ranks),vi m.levels,vi m.age,V.list (map Ak m.rules),vi m.start.n,V.list (map eV m.start.kids)])=Ah m) ?_
  trivial
 ·obtain⟨m,a2,h1,h2,h3⟩:=chn_ex l hl a1 p3 3 (.inr rfl)
  refine⟨m,a2,.l3 h1,h2,?_⟩
  refine sv fAny 23 [] (.c1 (cDz l a1) (di 2)<|.c1 (cDz l a2) (Ah m) .r) (Ab PP 8 [D.ptr 0 0,di 5] (dz l a) (di 2) (dz l a1)/\Ab PP 12 [D.ptr 0 0,di 3] (dz l a1) (Ah m) (dz l a2)/\Q [some (cDz l a2)]/\D.v (V.agg [vi m.kind,V.list (map V.str m.states),V.list (map V.str m.places),V.list (map V.str m.letters),V.list (map vi m.ranks),vi m.levels,vi m.age,V.list (map Ak m.rules),vi m.start.n,V.list (map eV m.start.kids)])=Ah m) ?_
  trivial
 ·obtain⟨m,a2,h1,h2,h3⟩:=tim_ex l hl a1 p3
  refine⟨m,a2,.tm h1,h2,?_⟩
  refine sv fAny 23 [] (.c1 (cDz l a1) (di 3)<|.c1 (cDz l a2) (Ah m) .r) (Ab PP 8 [D.ptr 0 0,di 5] (dz l a) (di 3) (dz l a1)/\Ab PP 13 [D.ptr 0 0] (dz l a1) (Ah m) (dz l a2)/\Q [some (cDz l a2)]/\D.v (V.agg [vi m.kind,V.list (map V.str m.states),V.list (map V.str m.places),V.list (map V.str m.letters),V.list (map vi m.ranks),vi m.levels,vi m.age,V.list (map Ak m.rules),vi m.start.n,V.list (map eV m.start.kids)])=Ah m) ?_
  trivial
 ·obtain⟨m,a2,h1,h2,h3⟩:=ctr_ex l hl a1 p3
  refine⟨m,a2,.c h1,h2,?_⟩
  refine sv fAny 23 [] (.c1 (cDz l a1) (di 4)<|.c1 (cDz l a2) (Ah m) .r) (Ab PP 8 [D.ptr 0 0,di 5] (dz l a) (di 4) (dz l a1)/\Ab PP 11 [D.ptr 0 0,db false] (dz l a1) (Ah m) (dz l a2)/\Q [some (cDz l a2)]/\D.v (V.agg [vi m.kind,V.list (map V.str m.states),V.list (map V.str m.places),V.list (map V.str m.letters),V.list (map vi m.ranks),vi m.levels,vi m.age,V.list (map Ak m.rules),vi m.start.n,V.list (map eV m.start.kids)])=Ah m) ?_
  trivial
inductive CfgM (m:Mod) (c:Val):Prop where
 |ctr (hk:m.kind=1) (s:Int) (ys:List Int) (hs:0<=s/\s<m.states.length) (hy:ys.length=m.places.length) (h:∀y∈ys,0<=y/\y<=3) (hc:c=Cf s ys)
 |chan (hk:m.kind=2∨m.kind=3) (s:Int) (ys:List Val) (hs:0<=s/\s<m.states.length) (hy:ys.length=m.places.length) (h:∀y∈ys,EO m.letters.length y) (hc:c=.mk 0 (.mk s []::ys))
 |bag (hk:m.kind=5) (s:Int) (ts:List Val) (hs:0<=s/\s<m.states.length) (h:TokL m.places.length m.age 2 ts) (hc:c=.mk 0 [.mk s [],.mk 0 ts])
theorem cfg1_ex(m:Mod)(hk:m.kind=1)(hst:1<=m.states.length/\m.states.length<=3)(hp:1<=m.places.length/\m.places.length<=2)(l:List UInt8)(hl:l.length<=200)(a:Nat)(ha:a<=l.length):
  ∃(c:Val) (a':Nat),CfgM m c/\a'<=l.length/\Ab PP 7 [.ptr 0 0,Ah m] (dz l a) (dV c) (dz l a'):=by
 obtain⟨s,a1,s1,s2,s3,s4⟩:=Aw l hl a ha m.states.length (by omega) (by omega)
 obtain⟨ys,a2,y1,y2,y3,y4⟩:=Fh l hl a1 s3 m.places.length (by omega) 3 (by decide) (by decide)
 obtain⟨c,hc⟩:∃c,c=Cf s ys:=⟨_,rfl⟩
 refine⟨c,a2,.ctr hk s ys ⟨s1,s2⟩ y2 y3 hc,y1,?_⟩
 refine sv fDCfg 47 [3] (.t<|.c1 (cDz l a1) (di s)<|.c1 (cDz l a2) (dIs ys)<|.c (dV c) .r) ((m.kind==1)=true/\Ab PP 8 [D.ptr 0 0,di (length (map V.str m.states):Int)] (dz l a) (di s) (dz l a1)/\Ab PP 15 [D.ptr 0 0,di (length (map V.str m.places):Int),di 3] (dz l a1) (dIs ys) (dz l a2)/\F0 14 [di s,dIs ys] (dV c)/\Q [some (cDz l a2)]/\D.v (V.agg [vi c.n,V.list (map eV c.kids)])=dV c) ?_
 refine⟨by rw[hk];rfl,by rw[length_map];exact s4,by rw[length_map];exact y4,hc▸cfg28_spec ys (by omega) s,rfl,rfl⟩
theorem bld_one{o:Oper}(ho:o.op=.build 31 #[(0,.tmp 27)])(s:Int)(τ:St):Ai PP o [di s] τ (.v (Ad (.mk s []))) τ:=
 op_build ho (z:=[vi 0,.list []]) (places:=[(0,1),(1,1)]) (by kernel_rfl) (xs:=[(0,vi s)]) rfl rfl
theorem cfg2_ex(m:Mod)(hk:m.kind=2∨m.kind=3)(hst:1<=m.states.length/\m.states.length<=3)(hp:1<=m.places.length/\m.places.length<=2)(hle:1<=m.letters.length/\m.letters.length<=2)(l:List UInt8)(hl:l.length<=200)(a:Nat)(ha:a<=l.length):
  ∃(c:Val) (a':Nat),CfgM m c/\a'<=l.length/\Ab PP 7 [.ptr 0 0,Ah m] (dz l a) (dV c) (dz l a'):=by
 obtain⟨s,a1,s1,s2,s3,s4⟩:=Aw l hl a ha m.states.length (by omega) (by omega)
 obtain⟨ys,a2,y1,y2,y3,y4⟩:=wds_ex l hl a1 s3 m.places.length (by omega) m.letters.length (by omega) (by omega)
 obtain⟨c,hc⟩:∃c:Val,c=.mk 0 (.mk s []::ys):=⟨_,rfl⟩
 refine⟨c,a2,.chan hk s ys ⟨s1,s2⟩ y2 y3 hc,y1,?_⟩
 have hpk:Ab PP 8 [D.ptr 0 0,di (↑(length (map V.str m.states)):Int)] (St.mk [some (cDz l a)] []) (di s) (St.mk [some (cDz l a1)] []):=by rw[length_map];exact s4
 have hwd:Ab PP 16 [D.ptr 0 0,di (↑(length (map V.str m.places)):Int),di (↑(length (map V.str m.letters)):Int),di 2] (St.mk [some (cDz l a1)] []) (dVs ys) (St.mk [some (cDz l a2)] []):=by rw[length_map,length_map];exact y4
 have hsl:∀(o:Oper) (H:List (Option (List D))),o.op=.buildSlice 29 1 #[(0,.tmp 28)]->Ai PP o [.v (Ad (.mk s []))] ⟨H,[]⟩ (.acc 1 [Ad (.mk s [])]) ⟨H,[(1,2,[Ad (.mk s [])])]⟩:=fun o H ho=>GF (σ:=⟨H,[]⟩) ho (by rfl) rfl slV rfl (ds:=[.v (Ad (.mk s []))]) (xs:=[Ad (.mk s [])]) rfl (fun z hz=>by rw[mem_singleton.1 hz];rfl) (by decide) (by decide) (by decide) 1 (by simp)
 rcases hk with hk|hk
 ·refine sv fDCfg 47 [3] (.f<|.t<|.k<|.h (.dr 6)<|.h (.cs ⟨[],[(1,2,[Ad (.mk s [])])]⟩)<|.c1 (cDz l a1) (di s)<|.h (.p (.v (Ad (.mk s []))))<|.h (.o (.acc 1 [Ad (.mk s [])]) σ0)<|.c1 (cDz l a2) (dVs ys)<|.w .r) ((m.kind==1)=false/\(m.kind==2)=true/\Ab PP 8 [D.ptr 0 0,di (length (map V.str m.states):Int)] (dz l a) (di s) (dz l a1)/\Ab PP 8 [D.ptr 0 0,di (length (map V.str m.states):Int)] (dz l a) (di s) (dz l a1)/\Q (di s)/\(∀(τ:St),Ai PP (Oper.mk (some 28) (Op.build 31 #[(0,Operand.tmp 27)]) 31 "play.go:165" #[Edge.mk 4 Ground.data] none) [di s] τ (D.v (Ad (Val.mk s []))) τ)/\Q [St.mk [some (cDz l a),some [di 0,dn]] [(1,2,Ad (Val.mk s [])::nV)],St.mk [some (cDz l a1),some [di 0,dn]] [(1,2,Ad (Val.mk s [])::nV)]]/\(Ai PP (Oper.mk (some 29) (Op.buildSlice 29 1 #[(0,Operand.tmp 28)]) 29 "play.go:165" #[Edge.mk 5 Ground.data] none) [D.v (Ad (Val.mk s []))] (St.mk [some (cDz l a),some [di 0,dn]] []) (D.acc 1 [Ad (Val.mk s [])]) (St.mk [some (cDz l a),some [di 0,dn]] [(1,2,[Ad (Val.mk s [])])])/\Ai PP (Oper.mk (some 29) (Op.buildSlice 29 1 #[(0,Operand.tmp 28)]) 29 "play.go:165" #[Edge.mk 5 Ground.data] none) [D.v (Ad (Val.mk s []))] (St.mk [some (cDz l a1),some [di 0,dn]] []) (D.acc 1 [Ad (Val.mk s [])]) (St.mk [some (cDz l a1),some [di 0,dn]] [(1,2,[Ad (Val.mk s [])])])/\True)/\Ab PP 16 [D.ptr 0 0,di (length (map V.str m.places):Int),di (length (map V.str m.letters):Int),di 2] (dz l a1) (dVs ys) (dz l a2)/\Ab PP 16 [D.ptr 0 0,di (length (map V.str m.places):Int),di (length (map V.str m.letters):Int),di 2] (dz l a1) (dVs ys) (dz l a2)/\Q (dVs ys)/\(Q (St.mk [some (cDz l a2),some [di 0,dn]] [(1,2,[Ad (Val.mk s [])])])/\Ai PP (Oper.mk (some 29) (Op.buildSlice 29 1 #[(0,Operand.tmp 28)]) 29 "play.go:165" #[Edge.mk 5 Ground.data] none) [D.v (Ad (Val.mk s []))] (St.mk [some (cDz l a2),some [di 0,dn]] []) (D.acc 1 [Ad (Val.mk s [])]) (St.mk [some (cDz l a2),some [di 0,dn]] [(1,2,[Ad (Val.mk s [])])]))/\Q (Ad (Val.mk s [])::nV)/\Ar (length (Ad (Val.mk s [])::nV)+length (map eV ys)) 32/\(∀(y:V),y∈map eV ys->V.size y=2)/\True/\Q [some (cDz l a2)]/\D.v (V.agg [vi 0,V.list (Ad (Val.mk s [])::[]++(map eV ys))])=dV c) ?_
  refine⟨by rw[hk];rfl,by rw[hk];rfl,hpk,hpk,rfl,fun τ=>bld_one rfl s τ,rfl,⟨hsl _ _ rfl,hsl _ _ rfl,trivial⟩,hwd,hwd,rfl,⟨rfl,hsl _ _ rfl⟩,rfl,?_,fun y hy=>?_,trivial,rfl,?_⟩
  ·simp only[length_cons,length_nil,length_map,y2];exact⟨by omega,by omega⟩
  ·obtain⟨z,_,rfl⟩:=mem_map.1 hy
   cases z;rfl
  ·subst hc
   rw[←AN];rfl
 ·refine sv fDCfg 47 [3] (.f<|.f<|.t<|.h (.dr 6)<|.h (.cs ⟨[],[(1,2,[Ad (.mk s [])])]⟩)<|.c1 (cDz l a1) (di s)<|.h (.p (.v (Ad (.mk s []))))<|.h (.o (.acc 1 [Ad (.mk s [])]) σ0)<|.c1 (cDz l a2) (dVs ys)<|.w .r) ((m.kind==1)=false/\(m.kind==2)=false/\(m.kind==3)=true/\Ab PP 8 [D.ptr 0 0,di (length (map V.str m.states):Int)] (dz l a) (di s) (dz l a1)/\Ab PP 8 [D.ptr 0 0,di (length (map V.str m.states):Int)] (dz l a) (di s) (dz l a1)/\Q (di s)/\(∀(τ:St),Ai PP (Oper.mk (some 28) (Op.build 31 #[(0,Operand.tmp 27)]) 31 "play.go:165" #[Edge.mk 4 Ground.data] none) [di s] τ (D.v (Ad (Val.mk s []))) τ)/\Q [St.mk [some (cDz l a),some [di 0,dn]] [(1,2,Ad (Val.mk s [])::nV)],St.mk [some (cDz l a1),some [di 0,dn]] [(1,2,Ad (Val.mk s [])::nV)]]/\(Ai PP (Oper.mk (some 29) (Op.buildSlice 29 1 #[(0,Operand.tmp 28)]) 29 "play.go:165" #[Edge.mk 5 Ground.data] none) [D.v (Ad (Val.mk s []))] (St.mk [some (cDz l a),some [di 0,dn]] []) (D.acc 1 [Ad (Val.mk s [])]) (St.mk [some (cDz l a),some [di 0,dn]] [(1,2,[Ad (Val.mk s [])])])/\Ai PP (Oper.mk (some 29) (Op.buildSlice 29 1 #[(0,Operand.tmp 28)]) 29 "play.go:165" #[Edge.mk 5 Ground.data] none) [D.v (Ad (Val.mk s []))] (St.mk [some (cDz l a1),some [di 0,dn]] []) (D.acc 1 [Ad (Val.mk s [])]) (St.mk [some (cDz l a1),some [di 0,dn]] [(1,2,[Ad (Val.mk s [])])])/\True)/\Ab PP 16 [D.ptr 0 0,di (length (map V.str m.places):Int),di (length (map V.str m.letters):Int),di 2] (dz l a1) (dVs ys) (dz l a2)/\Ab PP 16 [D.ptr 0 0,di (length (map V.str m.places):Int),di (length (map V.str m.letters):Int),di 2] (dz l a1) (dVs ys) (dz l a2)/\Q (dVs ys)/\(Q (St.mk [some (cDz l a2),some [di 0,dn]] [(1,2,[Ad (Val.mk s [])])])/\Ai PP (Oper.mk (some 29) (Op.buildSlice 29 1 #[(0,Operand.tmp 28)]) 29 "play.go:165" #[Edge.mk 5 Ground.data] none) [D.v (Ad (Val.mk s []))] (St.mk [some (cDz l a2),some [di 0,dn]] []) (D.acc 1 [Ad (Val.mk s [])]) (St.mk [some (cDz l a2),some [di 0,dn]] [(1,2,[Ad (Val.mk s [])])]))/\Q (Ad (Val.mk s [])::nV)/\Ar (length (Ad (Val.mk s [])::nV)+length (map eV ys)) 32/\(∀(y:V),y∈map eV ys->V.size y=2)/\True/\Q [some (cDz l a2)]/\D.v (V.agg [vi 0,V.list (Ad (Val.mk s [])::[]++(map eV ys))])=dV c) ?_
  refine⟨by rw[hk];rfl,by rw[hk];rfl,by rw[hk];rfl,hpk,hpk,rfl,fun τ=>bld_one rfl s τ,rfl,⟨hsl _ _ rfl,hsl _ _ rfl,trivial⟩,hwd,hwd,rfl,⟨rfl,hsl _ _ rfl⟩,rfl,?_,fun y hy=>?_,trivial,rfl,?_⟩
  ·simp only[length_cons,length_nil,length_map,y2];exact⟨by omega,by omega⟩
  ·obtain⟨z,_,rfl⟩:=mem_map.1 hy
   cases z;rfl
  ·subst hc
   rw[←AN];rfl
theorem cfg5_ex(m:Mod)(hk:m.kind=5)(hst:1<=m.states.length/\m.states.length<=3)(hp:1<=m.places.length/\m.places.length<=2)(hag:0<=m.age/\m.age<=3)(l:List UInt8)(hl:l.length<=200)(a:Nat)(ha:a<=l.length):
  ∃(c:Val) (a':Nat),CfgM m c/\a'<=l.length/\Ab PP 7 [.ptr 0 0,Ah m] (dz l a) (dV c) (dz l a'):=by
 obtain⟨s,ts,a1,h1,h2,h3,h4⟩:=bag_ex l hl m hst hp hag a ha
 obtain⟨c,hc⟩:∃c:Val,c=.mk 0 [.mk s [],.mk 0 ts]:=⟨_,rfl⟩
 rw[←hc] at h4
 refine⟨c,a1,.bag hk s ts h1 h2 hc,h3,?_⟩
 refine sv fDCfg 47 [3] (.f<|.f<|.f<|.t<|.c1 (cDz l a1) (dV c) .r) ((m.kind==1)=false/\(m.kind==2)=false/\(m.kind==3)=false/\(m.kind==5)=true/\Ab PP 17 [D.ptr 0 0,Ah m,di 2] (dz l a) (dV c) (dz l a1)/\Q [some (cDz l a1)]/\D.v (V.agg [vi c.n,V.list (map eV c.kids)])=dV c) ?_
 exact⟨by rw[hk];rfl,by rw[hk];rfl,by rw[hk];rfl,by rw[hk];rfl,h4,rfl,rfl⟩
theorem AnyM.cfg_ex{m:Mod}(h:AnyM m)(l:List UInt8)(hl:l.length<=200)(a:Nat)(ha:a<=l.length):
  ∃(c:Val) (a':Nat),CfgM m c/\a'<=l.length/\Ab PP 7 [.ptr 0 0,Ah m] (dz l a) (dV c) (dz l a'):=by
 have hP:m.places=[[120]]∨m.places=[[120],[121]]:=by
  cases h with
  |cM h=>exact h.places
  |l2 h=>exact h.places
  |l3 h=>exact h.places
  |tm h=>exact h.places
  |c h=>exact h.places
 have hpl:1<=m.places.length/\m.places.length<=2:=by rcases hP with e|e<;>rw[e]<;>decide
 have two:∀S:List (List UInt8),(S=[[97]]∨S=[[97],[98]])->1<=S.length/\S.length<=3:=fun S e=>by rcases e with e|e<;>rw[e]<;>decide
 cases h with
 |cM h=>exact cfg1_ex m h.kind (two _ h.states) hpl l hl a ha
 |c h=>exact cfg1_ex m h.kind (two _ h.states) hpl l hl a ha
 |tm h=>exact cfg5_ex m h.kind (two _ h.states) hpl (by have:=h.age;omega) l hl a ha
 |l2 h=>exact cfg2_ex m (.inl h.kind) (by obtain⟨n,h1,h2,e⟩:=h.states;rw[e,length_take];simp only[length_cons,length_nil];omega) hpl (by rcases h.letters with e|e<;>rw[e]<;>decide) l hl a ha
 |l3 h=>exact cfg2_ex m (.inr h.kind) (by obtain⟨n,h1,h2,e⟩:=h.states;rw[e,length_take];simp only[length_cons,length_nil];omega) hpl (by rcases h.letters with e|e<;>rw[e]<;>decide) l hl a ha
end Go.Proofs.YtcjhkglbdahfgaaGreat

namespace Go.Proofs
open Go.Shelf
open List (all_eq_true append_assoc append_nil cons_append drop_eq_getElem_cons drop_of_length_le drop_zero ext_getElem? flatMap_cons flatten flatten_cons foldl_cons getD_eq_getElem?_getD getElem?_append_left getElem?_append_right getElem?_drop getElem?_eq_getElem getElem?_eq_none getElem?_map getElem?_set getElem?_take getElem?_toArray length length_append length_cons length_drop length_map length_nil length_pos_iff length_set length_take map map_append map_cons map_map map_nil mem_append mem_cons mem_map mem_of_getElem? mem_of_mem_drop mem_of_mem_take mem_or_eq_of_mem_set mem_singleton nil_append not_mem_nil replicate replicate_succ set_cons_succ set_cons_zero size_toArray take take_add_one take_append_drop take_left take_of_length_le take_succ_cons zipWith)
open Go.IntKind (wrap i64 u64)
def Tryz.sortW_ren:Go.Shelf.Ren:=⟨fun|6=>222|15=>50|14=>229|28=>75|29=>76|20=>232|21=>233|22=>234|23=>235|24=>236|25=>237|26=>238|27=>239|46=>240|47=>113|48=>114|49=>241|50=>242|57=>243|n=>n,fun|22=>226|24=>27|25=>139|3=>3|39=>98|0=>0|53=>128|55=>130|4=>4|46=>121|45=>120|50=>125|5=>5|9=>9|66=>155|70=>159|76=>207|77=>208|n=>n,fun|n=>n⟩
theorem Tryz.sortW:Go.Proofs.SlLaysF.n6 Tryz.prog Tryz.sortW_ren:={
 mixed:=by kernel_rfl
 f6:=⟨Tryz.f222.name,by decide,Tryz.func222.trans (congrArg some (by kernel_rfl))⟩
 f14:=⟨Tryz.f229.name,by decide,Tryz.func229.trans (congrArg some (by kernel_rfl))⟩
 f15:=Tryz.func50.trans (congrArg some (by kernel_rfl))
 f20:=⟨Tryz.f232.name,by decide,Tryz.func232.trans (congrArg some (by kernel_rfl))⟩
 f21:=⟨Tryz.f233.name,by decide,Tryz.func233.trans (congrArg some (by kernel_rfl))⟩
 f22:=⟨Tryz.f234.name,by decide,Tryz.func234.trans (congrArg some (by kernel_rfl))⟩
 f23:=⟨Tryz.f235.name,by decide,Tryz.func235.trans (congrArg some (by kernel_rfl))⟩
 f24:=⟨Tryz.f236.name,by decide,Tryz.func236.trans (congrArg some (by kernel_rfl))⟩
 f25:=⟨Tryz.f237.name,by decide,Tryz.func237.trans (congrArg some (by kernel_rfl))⟩
 f26:=⟨Tryz.f238.name,by decide,Tryz.func238.trans (congrArg some (by kernel_rfl))⟩
 f27:=⟨Tryz.f239.name,by decide,Tryz.func239.trans (congrArg some (by kernel_rfl))⟩
 f28:=Tryz.func75.trans (congrArg some (by kernel_rfl))
 f29:=Tryz.func76.trans (congrArg some (by kernel_rfl))
 f46:=⟨Tryz.f240.name,by decide,Tryz.func240.trans (congrArg some (by kernel_rfl))⟩
 f47:=Tryz.func113.trans (congrArg some (by kernel_rfl))
 f48:=Tryz.func114.trans (congrArg some (by kernel_rfl))
 f49:=⟨Tryz.f241.name,by decide,Tryz.func241.trans (congrArg some (by kernel_rfl))⟩
 f50:=⟨Tryz.f242.name,by decide,Tryz.func242.trans (congrArg some (by kernel_rfl))⟩
 f57:=⟨Tryz.f243.name,by decide,Tryz.func243.trans (congrArg some (by kernel_rfl))⟩
 t0:=Tryz.underlying0
 a0:=Tryz.isAgg0
 z0:=Tryz.sizeOf0
 v0:=Tryz.zeroValue0
 t3:=Tryz.underlying3
 a3:=Tryz.isAgg3
 z3:=Tryz.sizeOf3
 v3:=Tryz.zeroValue3
 t4:=Tryz.underlying4
 a4:=Tryz.isAgg4
 z4:=Tryz.sizeOf4
 v4:=Tryz.zeroValue4
 t5:=Tryz.underlying5
 a5:=Tryz.isAgg5
 z5:=Tryz.sizeOf5
 v5:=Tryz.zeroValue5
 t9:=Tryz.underlying9
 a9:=Tryz.isAgg9
 z9:=Tryz.sizeOf9
 v9:=Tryz.zeroValue9
 t22:=Tryz.underlying226
 a22:=Tryz.isAgg226
 z22:=Tryz.sizeOf226
 v22:=Tryz.zeroValue226
 a24:=Tryz.isAgg27
 z24:=Tryz.sizeOf27
 t25:=Tryz.underlying139
 a25:=Tryz.isAgg139
 z25:=Tryz.sizeOf139
 v25:=Tryz.zeroValue139
 t39:=Tryz.underlying98
 a39:=Tryz.isAgg98
 z39:=Tryz.sizeOf98
 v39:=Tryz.zeroValue98
 t45:=Tryz.underlying120
 a45:=Tryz.isAgg120
 z45:=Tryz.sizeOf120
 v45:=Tryz.zeroValue120
 t46:=Tryz.underlying121
 a46:=Tryz.isAgg121
 z46:=Tryz.sizeOf121
 v46:=Tryz.zeroValue121
 t50:=Tryz.underlying125
 a50:=Tryz.isAgg125
 z50:=Tryz.sizeOf125
 v50:=Tryz.zeroValue125
 t53:=Tryz.underlying128
 a53:=Tryz.isAgg128
 z53:=Tryz.sizeOf128
 v53:=Tryz.zeroValue128
 t55:=Tryz.underlying130
 a55:=Tryz.isAgg130
 z55:=Tryz.sizeOf130
 v55:=Tryz.zeroValue130
 t66:=Tryz.underlying155
 a66:=Tryz.isAgg155
 z66:=Tryz.sizeOf155
 v66:=Tryz.zeroValue155
 t70:=Tryz.underlying159
 a70:=Tryz.isAgg159
 z70:=Tryz.sizeOf159
 v70:=Tryz.zeroValue159
 t76:=Tryz.underlying207
 a76:=Tryz.isAgg207
 z76:=Tryz.sizeOf207
 v76:=Tryz.zeroValue207
 t77:=Tryz.underlying208
 a77:=Tryz.isAgg208
 z77:=Tryz.sizeOf208
 v77:=Tryz.zeroValue208 }
end Go.Proofs
namespace Go.Proofs.YtcjhkglbdahfgaaGreat
open Go.Dv Go.Nv Go.Shelf Go.RowKit Go.Lib Go.Sort
set_option maxRecDepth 20000
open List (all_eq_true append_assoc append_nil cons_append drop_eq_getElem_cons drop_of_length_le drop_zero ext_getElem? flatMap_cons flatten flatten_cons foldl_cons getD_eq_getElem?_getD getElem?_append_left getElem?_append_right getElem?_drop getElem?_eq_getElem getElem?_eq_none getElem?_map getElem?_set getElem?_take getElem?_toArray length length_append length_cons length_drop length_map length_nil length_pos_iff length_set length_take map map_append map_cons map_map map_nil mem_append mem_cons mem_map mem_of_getElem? mem_of_mem_drop mem_of_mem_take mem_or_eq_of_mem_set mem_singleton nil_append not_mem_nil replicate replicate_succ set_cons_succ set_cons_zero size_toArray take take_add_one take_append_drop take_left take_of_length_le take_succ_cons zipWith)
open Go.IntKind (wrap i64 u64)
abbrev wdV(w:List Int):Val:=.mk 0 (w.map lf)
def cmpW(a b:List Int):Int:=Av (wdV a) (wdV b)
theorem wdV_inj{a b:List Int}(h:wdV a=wdV b):a=b:=by
 have h:=congrArg (fun v:Val=>v.kids.map Val.n) h
 simpa only[map_lf,Val.kids] using h
abbrev CelW(M:Mem):={p:List Int×Value//p.1.length<=1000000/\repV M (vIs p.1) p.2}
instance (M:Mem):Inhabited (CelW M):=⟨⟨([],.slice none 0 0),by decide,Cj _⟩⟩
def G0{M:Mem}(x:CelW M):Value:=x.1.2
def cfW{M:Mem}(x y:CelW M):Int:=cmpW x.1.1 y.1.1
theorem swoW{M:Mem}:SWO (ltOf (cfW (M:=M))) where
 irrefl x:=by simp only[ltOf,cfW,cmpW,B4.refl _ trivial];decide
 trans x y z h1 h2:=by
  have h1:Av (wdV x.1.1) (wdV y.1.1)<0:=of_decide_eq_true h1
  have h2:Av (wdV y.1.1) (wdV z.1.1)<0:=of_decide_eq_true h2
  exact decide_eq_true (B4.trans (wdV x.1.1) (wdV y.1.1) (wdV z.1.1) trivial trivial trivial h1 h2)
 ntrans x y z h1 h2:=by
  have h1:¬cmpW x.1.1 y.1.1<0:=of_decide_eq_false h1
  have h2:¬cmpW y.1.1 z.1.1<0:=of_decide_eq_false h2
  refine decide_eq_false fun h3=>?_
  have h3:cmpW x.1.1 z.1.1<0:=h3
  have h1':Av (wdV y.1.1) (wdV x.1.1)<=0:=(leV_iff _ _).2 h1
  have h2':Av (wdV z.1.1) (wdV y.1.1)<=0:=(leV_iff _ _).2 h2
  exact(leV_iff _ _).1 (leV_trans h2' h1') h3
theorem cells_ofW{g:Gh}{l:List (List Int)}(hl:∀v∈l,v.length<=1000000){us:List Value}(h:Ac g (Aa (l.map vIs)) us):∃ps:List (CelW g.M),ps.map (fun p=>p.1.1)=l/\us=ps.map G0:=by
 induction l generalizing us with
 |nil=>exact⟨[],rfl,by simpa[Aa,Ac] using h⟩
 |cons v l ih=>
  have h':Ac g (.v (vIs v)::Aa (l.map vIs)) us:=h
  simp only[Ac] at h'
  obtain⟨u,us',rfl,h1,h2⟩:=h'
  obtain⟨ps,h5,h6⟩:=ih (fun v hv=>hl v (by simp[hv])) h2
  simp only[Ae] at h1
  exact⟨⟨(v,u),hl v (by simp),h1⟩::ps,by simp[h5],by simp[h6,G0]⟩
theorem cells_repW{g:Gh}(ps:List (CelW g.M)):Ac g (Aa ((ps.map fun p=>p.1.1).map vIs)) (ps.map G0)/\∀c∈Aa ((ps.map fun p=>p.1.1).map vIs),c.one=true:=by
 induction ps with
 |nil=>exact⟨by simp[Aa,Ac],by simp[Aa]⟩
 |cons p ps ih=>
  constructor
  ·show Ac g (.v (vIs p.1.1)::Aa ((ps.map fun p=>p.1.1).map vIs)) (G0 p::ps.map G0)
   simp only[Ac]
   exact⟨_,_,rfl,by simp only[Ae];exact p.2.2,ih.1⟩
  ·intro c hc
   have hc:c∈D.v (vIs p.1.1)::Aa ((ps.map fun p=>p.1.1).map vIs):=hc
   rcases mem_cons.1 hc with rfl|hc
   ·rfl
   ·exact ih.2 c hc
def sortW(l:List (List Int)):List (List Int):=l.mergeSort fun a b=>decide (cmpW a b<=0)
theorem CO(l:List (List Int)):(sortW l).Perm l:=List.mergeSort_perm l _
theorem sortW_eq{l k:List (List Int)}(hp:k.Perm l)(hs:k.Pairwise fun a b=>decide (cmpW a b<=0)=true):k=sortW l:=by
 have hso:(sortW l).Pairwise fun a b=>decide (cmpW a b<=0)=true:=List.pairwise_mergeSort (le:=fun a b=>decide (cmpW a b<=0)) (fun a b c h1 h2=>decide_eq_true (leV_trans (of_decide_eq_true h1) (of_decide_eq_true h2))) (fun a b=>by
  simp only[Bool.or_eq_true,decide_eq_true_eq];exact leV_total (wdV a) (wdV b)) l
 refine List.Perm.eq_of_pairwise (fun a b _ _ h1 h2=>?_) hs hso (hp.trans (CO l).symm)
 have h1:Av (wdV a) (wdV b)<=0:=of_decide_eq_true h1
 have h2:Av (wdV b) (wdV a)<=0:=of_decide_eq_true h2
 have:=B4.swap (wdV b) (wdV a) trivial trivial
 have:=B4.swap (wdV a) (wdV b) trivial trivial
 exact wdV_inj (cmpV_eq.1 (by omega))
abbrev CmpWd:Prop:=∀a b:List Int,a.length<=1000000->b.length<=1000000->Ab PP 223 [dIs a,dIs b] σ0 (di (cmpW a b)) σ0
theorem cmp_laysW(hC:CmpWd){g:Gh}{w:World}{σ:St}(hw:WRep g σ w){blk:Nat}(hM:∀o,g.M blk o=none)(n:Nat):CmpLays1 PP 223 #[] (G0 (M:=g.M)) cfW blk 0 n w:=by
 intro m os dk _ x y
 obtain⟨W,hW⟩:∃W,W=sortWorld G0 w blk 0 m dk os:=⟨_,rfl⟩
 rw[←hW]
 have hmem:∀b o v,g.M b o=some v->W.cell? ⟨b,o,none⟩=some v:=by
  intro b o v h
  have hne:b≠blk:=fun e=>by rw[e,hM] at h;simp at h
  have hc:=hw.mem b o v h
  have hlt:b<w.heap.size:=hw.mem_lt h
  rw[hW,sortWorld,cell?_grow _ _ _ (by rw[Go.Sort.size_putRow];exact hlt),cell?_putRow_other _ _ _ _ _ _ (.inl hne)]
  exact hc
 have hrep:WRep { M:=g.M,β:=g.β,n:=0,ι:=fun _ _=>none,κ:=g.κ } ⟨[],[]⟩ W:=
  { n:=rfl,mem:=hmem,obj:=fun i cs hi=>by simp at hi,inj:=fun i j cs ds hi=>by simp at hi,own:=fun k sz xs hx=>by simp at hx,tags:=by simp,sep:=fun x hx=>by simp at hx,ownObj:=fun x hx=>by simp at hx,fresh:=fun _ _ _=>rfl,gl:=hw.gl,gw:=fun p hp=>by simp[FM] at hp }
 have arg:∀z:CelW g.M,Ae { M:=g.M,β:=g.β,n:=0,ι:=fun _ _=>none,κ:=g.κ } (dIs z.1.1) (G0 z):=by
  intro z
  simp only[Ae]
  exact z.2.2
 have hs:=(hC x.1.1 y.1.1 x.2.1 y.2.1).2 _ W [G0 x,G0 y] hrep (Ap.2 ⟨_,_,rfl,arg x,arg y⟩)
 refine Calls.mono hs ?_
 rintro e w' ⟨u,g',rfl,hwi,hd⟩
 simp only[Ae,A1] at hd
 exact⟨by rw[hd];rfl,grow_of hwi⟩
theorem sortW_spec(hC:CmpWd)(l:List (List Int))(hl:l.length<=100000)(hs:∀v∈l,v.length<=1000000):
  Ab PP 222 [.arr 0 0 l.length,dfn 223] ⟨[some (Aa (l.map vIs))],[]⟩ (.tup []) ⟨[some (Aa ((sortW l).map vIs))],[]⟩:=by
 refine⟨⟨_, Tryz.func222,by kernel_rfl,by kernel_rfl⟩,fun g w args hw hargs=>?_⟩
 obtain⟨u0,u1,rfl,h0,h1⟩:=Ap.1 hargs
 simp only[Ae] at h0 h1
 obtain⟨hn,cap,hcap,rfl⟩:=h0
 obtain⟨us1,vs1,rfl,hu1,hv1⟩:=FV.1 h1
 simp only[EC] at hu1 hv1
 subst hu1;subst hv1
 obtain⟨us,rest,et,hb,hr,hone,hM,hκ⟩:=hw.obj 0 _ rfl
 obtain⟨ps,hp1,hp2⟩:=cells_ofW hs hr
 have hpl:ps.length=l.length:=by rw[←hp1,length_map]
 have hul:us.length=l.length:=by rw[hp2,length_map,hpl]
 have hH:Holds G0 w (g.β 0) 0 ps.toArray:=by
  intro j hj
  have hj':j<ps.length:=by simpa using hj
  refine⟨?_,by simp[World.frozen?,hb]⟩
  have hg:(us++rest)[j]?=some (G0 ps[j]):=by rw[getElem?_append_left (by omega),hp2,getElem?_map,getElem?_eq_getElem hj'];rfl
  rw[getElem!_pos ps.toArray j hj]
  simp only[World.cell?,hb,Nat.zero_add,id]
  simpa using hg
 have hblk:g.β 0<w.heap.size:=Fq hb
 have eg:∀args w,(callFunc 223 args).run PP w=.ok (.enter 223 args) w:=enters_of Tryz.func223 (by kernel_rfl) rfl
 have hcon:=Any.slices_SortFunc Tryz.sortW (G0 (M:=g.M)) (fun x=>C9 (x:=vIs x.1.1) rfl x.2.2) cfW swoW 223 #[] (g.β 0) 0 cap ps.toArray w eg (cmp_laysW hC hw hM _) hH hblk (by simp;omega)
 change Calls PP 222 _ _ _ at hcon
 rw[show ps.toArray.size=l.length by simp[hpl]] at hcon
 refine Calls.mono hcon ?_
 rintro e w' ⟨rfl,d',n,os,hperm,hsorted,rfl⟩
 obtain⟨hsz,_,hperm⟩:=hperm
 have hdl:d'.toList.map (fun p=>p.1.1)=sortW l:=by
  refine sortW_eq ?_ ?_
  ·rw[←hp1]
   have h2:d'.toList.Perm ps:=by simpa[Array.extract_eq_self_of_le,hsz,hpl] using hperm
   exact h2.map _
  ·rw[List.pairwise_iff_getElem]
   intro i j hi hj hij
   have hi':i<d'.size:=by simpa using hi
   have hj':j<d'.size:=by simpa using hj
   have h3:=hsorted i j (Nat.zero_le _) hij (by simp only[size_toArray] at hsz;omega)
   simp only[ltOf,cfW,decide_eq_false_iff_not,getElem!_pos d' i hi',getElem!_pos d' j hj'] at h3
   simp only[List.getElem_map,Array.getElem_toList,decide_eq_true_eq]
   exact(leV_iff _ _).2 h3
 have hd2:d'.size=l.length:=by rw[hsz];simp[hpl]
 have hFl:(d'.toList.map G0).length=us.length:=by rw[length_map,Array.length_toList,hd2,hul]
 have hcs:=cells_repW d'.toList
 rw[hdl] at hcs
 have hb2:(putRow G0 (Sort.ahead w n) (g.β 0) 0 d').heap[g.β 0]?=some (.cells ((d'.toList.map G0)++rest).toArray et (0,0)):=by
  simp only[putRow,mapBlock,Sort.ahead,Array.getElem?_modify,hb,onCells,if_true,Option.map_some]
  congr 2
  apply Array.ext_getElem?
  intro t
  simp only[putCells,Array.getElem?_mapIdx,Nat.sub_zero,Nat.zero_le,true_and,Nat.zero_add,id,getElem?_toArray,size_toArray]
  by_cases ht:t<us.length
  ·have htF:t<d'.size:=by omega
   rw[getElem?_append_left ht,getElem?_append_left (by omega),getElem?_eq_getElem ht,Option.map_some,if_pos htF,getElem?_map,Array.getElem?_toList,getElem!_pos d' t htF,Array.getElem?_eq_getElem htF];rfl
  ·have htF:¬t<d'.size:=by omega
   rw[getElem?_append_right (by omega),getElem?_append_right (by omega),hFl]
   simp only[if_neg htF,Option.map_id']
 have h2:=(WI.start hw).setObj (cs':=Aa ((sortW l).map vIs)) (q:=0) (w':=putRow G0 (Sort.ahead w n) (g.β 0) 0 d') rfl hb2 (by rw[←hκ,length_append,length_append,hFl]) hcs.1 hcs.2 (fun b hb'=>by
  simp only[putRow,mapBlock,Sort.ahead,Array.getElem?_modify]
  rw[if_neg (fun h=>hb' h.symm)]) (by rw[Go.Sort.size_putRow];rfl) rfl rfl rfl (drawn:=.of (Nat.le_add_right _ _))
 have h3:=h2.grow (w':=sortWorld G0 w (g.β 0) 0 n d' os) (M':=g.M) (Mem.le_refl _) (fun b hb'=>⟨heap_grow_old _ _ hb',fun _=>rfl⟩) (fun b o v h=>by
  rw[sortWorld,cell?_grow _ _ _ (h2.rep.mem_lt h)];exact h2.rep.mem b o v h) (by rw[sortWorld,size_grow];exact Nat.le_add_right _ _) rfl rfl rfl
 exact⟨_,g,rfl,h3,by simp only[Ae];exact⟨[],rfl,by simp[Ac]⟩⟩
end Go.Proofs.YtcjhkglbdahfgaaGreat

namespace Go.Proofs.YtcjhkglbdahfgaaGreat
open Go.Dv Go.Nv
set_option maxRecDepth 20000
open List (all_eq_true append_assoc append_nil cons_append drop_eq_getElem_cons drop_of_length_le drop_zero ext_getElem? flatMap_cons flatten flatten_cons foldl_cons getD_eq_getElem?_getD getElem?_append_left getElem?_append_right getElem?_drop getElem?_eq_getElem getElem?_eq_none getElem?_map getElem?_set getElem?_take getElem?_toArray length length_append length_cons length_drop length_map length_nil length_pos_iff length_set length_take map map_append map_cons map_map map_nil mem_append mem_cons mem_map mem_of_getElem? mem_of_mem_drop mem_of_mem_take mem_or_eq_of_mem_set mem_singleton nil_append not_mem_nil replicate replicate_succ set_cons_succ set_cons_zero size_toArray take take_add_one take_append_drop take_left take_of_length_le take_succ_cons zipWith)
open Go.IntKind (wrap i64 u64)
abbrev vPr(p:Int×Int):V:=.agg [vi p.1,vi p.2]
abbrev BT(l:List (Int×Int)):V:=.list (l.map vPr)
abbrev AB(l:List (Int×Int)):D:=.v (BT l)
theorem sizes_vPr(l:List (Int×Int)):∀y∈l.map vPr,y.size=2:=fun y hy=>by obtain⟨p,_,rfl⟩:=mem_map.1 hy;rfl
noncomputable abbrev fGrI:Func:= Tryz.f228
theorem grI_spec(n:Nat)(hn:n<=1000000):Ab PP 228 [.v .nils,di n] σ0 (.acc 1 []) ⟨[],[(1,1,[])]⟩:=by
 have h1:i64.wrap (0-0)=0:=by decide
 by_cases h:n=0
 ·subst h
  refine sv fGrI 27 [] (.f<|.f<|.h (.q 6 0)<|.h (.nw 0 1 1) .r) (decide ((↑0:Int)<0)=false/\decide (wrap i64 ((↑0:Int)-wrap i64 (0-0))>0)=false/\Q [(1,1,nV)]/\Q (D.acc 1 [])) ?_
  exact⟨by decide,by decide,rfl,rfl⟩
 ·refine sv fGrI 27 [] (.f<|.t<|.a 1 .r) (decide ((n:Int)<0)=false/\decide (wrap i64 ((n:Int)-wrap i64 (0-0))>0)=true/\iz 0=0/\0<wrap i64 ((n:Int)-wrap i64 (0-0))/\Ar (Int.toNat (wrap i64 ((n:Int)-wrap i64 (0-0)))) 8/\iz 0=0/\Q [(1,1,nV)]/\Q (D.acc 1 [])) ?_
  have h2:i64.wrap ((n:Int)-i64.wrap (0-0))=n:=by rw[h1,Aj (by omega) (by omega)];omega
  rw[h2]
  refine⟨by simp,by simp;omega,by simp,by omega,⟨by simp;omega,by simp;omega⟩,by simp,rfl,rfl⟩
noncomputable abbrev fCoI:Func:= Tryz.f221
noncomputable def cCoI:Code:=fCoI.body.getD .skip
abbrev G5(ls:List (List (Int))):List V:=ls.map fun l=>.list (l.map vi)
theorem coI_loop2(ls:List (List (Int)))(hl:ls.length<=1000)(ht:ls.flatten.length<=1000000)(n:Nat):∀k:Nat,ls.length-k=n->
  Rn PP fCoI 0 (dl (ls.flatten.map vi)) σ0 ([.lp (sub cCoI [1,1,1,1,0,1,0,0]),.blk 2,.code (sub cCoI [1,1,1,1,1])]++[]) (mkE 36 [(0,dl (G5 ls)),(6,.acc 1 ((ls.take k).flatten.map vi)),(25,dl (G5 ls)),(26,di ls.length),(27,di k)]) ⟨[],[(1,1,(ls.take k).flatten.map vi)]⟩:=by
 induction n using Nat.strongRecOn with
 |_ n ih=>
 intro k hn
 refine lv 36 [] (.b (.e fun x:List (Int)=>.x (.list (x.map vi))<|.w<|.ls [ke 0,ch 6 (.acc 1 ((ls.take (k+1)).flatten.map vi)),ke 25,ke 26,ch 27 (di (k+1:Nat))] ⟨[],[(1,1,(ls.take (k+1)).flatten.map vi)]⟩) .r) ((decide ((k:Int)<(ls.length:Int))=true->∃a,0<=(k:Int)/\(G5 ls)[Int.toNat (k:Int)]?=some (V.list (map vi a))/\map vi (flatten (take k ls))=map vi (flatten (take k ls))/\Ar (length (map vi (flatten (take k ls)))+length (map vi a)) 8/\(∀(y:V),y∈map vi a->V.size y=1)/\D.acc 1 (map vi (flatten (take k ls))++map vi a)=D.acc 1 (map vi (flatten (take (k+1) ls)))/\di (wrap i64 ((k:Int)+1))=di (↑(k+1):Int)/\[(1,1,map vi (flatten (take k ls))++map vi a)]=[(1,1,map vi (flatten (take (k+1) ls)))]/\Nv.It (A2 (CN 0) PP (fun env σ1=>A8 PP fCoI env σ1 (dl (map vi (flatten ls))) σ0) [kl cCoI [1,1,1,1,0,1,0,0],KI.blk 2,kc cCoI [1,1,1,1,1]] (mkE 36 [(0,D.v (V.list (G5 ls))),(6,D.acc 1 (map vi (flatten (take (k+1) ls)))),(25,D.v (V.list (G5 ls))),(26,di (ls.length:Int)),(27,di (↑(k+1):Int))]) (St.mk [] [(1,1,map vi (flatten (take (k+1) ls)))])))/\(decide ((k:Int)<(ls.length:Int))=false->D.v (V.list (map vi (flatten (take k ls))))=dl (map vi (flatten ls)))) ?_
 refine⟨fun h=>?_,fun h=>?_⟩
 ·have hk:k<ls.length:=by simpa using h
  have hx:ls[k]?=some ls[k]:=getElem?_eq_getElem hk
  have hf:=De hk
  have hle:=Ft ls (k+1)
  have hih:=ih (ls.length- (k+1)) (by omega) (k+1) rfl
  rw[hf] at hle hih⊢
  generalize ls[k]=x at hx hle hih⊢
  simp only[length_append] at hle
  refine⟨x,by omega,by simp[hx],rfl,lenOK2 (by omega) (by decide),sizes_vi x,by simp,Af (by omega),by simp,⟨hih⟩⟩
 ·have hk:ls.length<=k:=by simpa using h
  rw[take_of_length_le hk]
theorem coI_loop1(ls:List (List (Int)))(hl:ls.length<=1000)(ht:ls.flatten.length<=1000000)(n:Nat):∀k:Nat,ls.length-k=n->
  Rn PP fCoI 0 (dl (ls.flatten.map vi)) σ0 ([.lp (sub cCoI [1,1,0,1,0,0]),.blk 0,.code (sub cCoI [1,1,1])]++[]) (mkE 36 [(0,dl (G5 ls)),(3,di ((ls.take k).flatten.length:Nat)),(9,dl (G5 ls)),(10,di ls.length),(11,di k)]) σ0:=by
 induction n using Nat.strongRecOn with
 |_ n ih=>
 intro k hn
 refine lv 36 [] (.b (.e fun x:List (Int)=>.x (.list (x.map vi))<|.f<|.l [ke 0,ch 3 (di ((ls.take (k+1)).flatten.length:Nat)),ke 9,ke 10,ch 11 (di (k+1:Nat))]) (.h (.ckn 1 1 1 [])<|.ls [ke 0,ch 6 (.acc 1 ((ls.take 0).flatten.map vi)),ke 25,ch 26 (di ls.length),ch 27 (di (0:Nat))] ⟨[],[(1,1,(ls.take 0).flatten.map vi)]⟩)) ((decide ((k:Int)<(ls.length:Int))=true->∃a,0<=(k:Int)/\(G5 ls)[Int.toNat (k:Int)]?=some (V.list (map vi a))/\decide (wrap i64 ((length (flatten (take k ls)):Int)+(length (map vi a):Int))<0)=false/\di (wrap i64 ((length (flatten (take k ls)):Int)+(length (map vi a):Int)))=di (length (flatten (take (k+1) ls)):Int)/\di (wrap i64 ((k:Int)+1))=di (↑(k+1):Int)/\Nv.It (A2 (CN 0) PP (fun env σ1=>A8 PP fCoI env σ1 (dl (map vi (flatten ls))) σ0) [kl cCoI [1,1,0,1,0,0],KI.blk 0,kc cCoI [1,1,1]] (mkE 36 [(0,D.v (V.list (G5 ls))),(3,di (length (flatten (take (k+1) ls)):Int)),(9,D.v (V.list (G5 ls))),(10,di (ls.length:Int)),(11,di (↑(k+1):Int))]) σ0))/\(decide ((k:Int)<(ls.length:Int))=false->Ab PP 228 [dn,di (length (flatten (take k ls)):Int)] (St.mk [] []) (D.acc 1 []) (St.mk [] [(1,1,[])])/\Q (D.acc 1 [])/\di (length (G5 ls):Int)=di (ls.length:Int)/\di 0=di (↑0:Int)/\Q [(1,1,nV)]/\I0 fCoI 0 (dl (map vi (flatten ls))) σ0 [kl cCoI [1,1,1,1,0,1,0,0],KI.blk 2,kc cCoI [1,1,1,1,1]] (mkE 36 [(0,D.v (V.list (G5 ls))),(6,D.acc 1 []),(25,D.v (V.list (G5 ls))),(26,di (ls.length:Int)),(27,di (↑0:Int))]) (St.mk [] [(1,1,[])]))) ?_
 refine⟨fun h=>?_,fun h=>?_⟩
 ·have hk:k<ls.length:=by simpa using h
  have hx:ls[k]?=some ls[k]:=getElem?_eq_getElem hk
  have hf:=congrArg length (De hk)
  rw[length_append] at hf
  have hle:=Ft ls (k+1)
  generalize ls[k]=x at hx hf⊢
  have h2:i64.wrap ((((ls.take k).flatten.length:Nat):Int)+((x.map vi).length:Int))=(((ls.take (k+1)).flatten.length:Nat):Int):=by rw[Aj (by simp only[length_map];omega) (by simp only[length_map];omega),hf];simp
  refine⟨x,by omega,by simp[hx],by rw[h2];simp,by rw[h2],Af (by omega),⟨?_⟩⟩
  exact ih (ls.length- (k+1)) (by omega) (k+1) rfl
 ·have hk:ls.length<=k:=by simpa using h
  rw[take_of_length_le hk]
  refine⟨grI_spec ls.flatten.length ht,rfl,by simp,rfl,rfl,⟨?_⟩⟩
  exact coI_loop2 ls hl ht _ 0 rfl
theorem coI_spec(ls:List (List (Int)))(hl:ls.length<=1000)(ht:ls.flatten.length<=1000000):Ab PP 221 [dl (G5 ls)] σ0 (dl (ls.flatten.map vi)) σ0:=by
 refine sv fCoI 36 [] (.l [ke 0,ch 3 (di ((ls.take 0).flatten.length:Nat)),ke 9,ch 10 (di ls.length),ch 11 (di (0:Nat))]) (di 0=di (length (flatten (take 0 ls)):Int)/\di (length (G5 ls):Int)=di (ls.length:Int)/\di 0=di (↑0:Int)/\I0 fCoI σ0.H.length (dl (map vi (flatten ls))) σ0 [kl cCoI [1,1,0,1,0,0],KI.blk 0,kc cCoI [1,1,1]] (mkE 36 [(0,dl (G5 ls)),(3,di (length (flatten (take 0 ls)):Int)),(9,dl (G5 ls)),(10,di (ls.length:Int)),(11,di (↑0:Int))]) σ0) ?_
 refine⟨rfl,by simp,rfl,⟨?_⟩⟩
 exact coI_loop1 ls hl ht _ 0 rfl
noncomputable abbrev fGrPr:Func:= Tryz.f205
theorem grPr_spec(n:Nat)(hn:n<=1000000):Ab PP 205 [.v .nils,di n] σ0 (.acc 1 []) ⟨[],[(1,2,[])]⟩:=by
 have h1:i64.wrap (0-0)=0:=by decide
 by_cases h:n=0
 ·subst h
  refine sv fGrPr 27 [] (.f<|.f<|.h (.q 6 0)<|.h (.nw 0 1 2) .r) (decide ((↑0:Int)<0)=false/\decide (wrap i64 ((↑0:Int)-wrap i64 (0-0))>0)=false/\Q [(1,2,nV)]/\Q (D.acc 1 [])) ?_
  exact⟨by decide,by decide,rfl,rfl⟩
 ·refine sv fGrPr 27 [] (.f<|.t<|.a 1 .r) (decide ((n:Int)<0)=false/\decide (wrap i64 ((n:Int)-wrap i64 (0-0))>0)=true/\iz 0=0/\0<wrap i64 ((n:Int)-wrap i64 (0-0))/\Ar (Int.toNat (wrap i64 ((n:Int)-wrap i64 (0-0)))) 16/\iz 0=0/\Q [(1,2,nV)]/\Q (D.acc 1 [])) ?_
  have h2:i64.wrap ((n:Int)-i64.wrap (0-0))=n:=by rw[h1,Aj (by omega) (by omega)];omega
  rw[h2]
  refine⟨by simp,by simp;omega,by simp,by omega,⟨by simp;omega,by simp;omega⟩,by simp,rfl,rfl⟩
noncomputable abbrev fCoPr:Func:= Tryz.f164
noncomputable def Gv:Code:=fCoPr.body.getD .skip
abbrev Dw(ls:List (List (Int×Int))):List V:=ls.map fun l=>.list (l.map vPr)
theorem coPr_loop2(ls:List (List (Int×Int)))(hl:ls.length<=1000)(ht:ls.flatten.length<=1000000)(n:Nat):∀k:Nat,ls.length-k=n->
  Rn PP fCoPr 0 (dl (ls.flatten.map vPr)) σ0 ([.lp (sub Gv [1,1,1,1,0,1,0,0]),.blk 2,.code (sub Gv [1,1,1,1,1])]++[]) (mkE 36 [(0,dl (Dw ls)),(6,.acc 1 ((ls.take k).flatten.map vPr)),(25,dl (Dw ls)),(26,di ls.length),(27,di k)]) ⟨[],[(1,2,(ls.take k).flatten.map vPr)]⟩:=by
 induction n using Nat.strongRecOn with
 |_ n ih=>
 intro k hn
 refine lv 36 [] (.b (.e fun x:List (Int×Int)=>.x (.list (x.map vPr))<|.w<|.ls [ke 0,ch 6 (.acc 1 ((ls.take (k+1)).flatten.map vPr)),ke 25,ke 26,ch 27 (di (k+1:Nat))] ⟨[],[(1,2,(ls.take (k+1)).flatten.map vPr)]⟩) .r) ((decide ((k:Int)<(ls.length:Int))=true->∃a,0<=(k:Int)/\(Dw ls)[Int.toNat (k:Int)]?=some (V.list (map vPr a))/\map vPr (flatten (take k ls))=map vPr (flatten (take k ls))/\Ar (length (map vPr (flatten (take k ls)))+length (map vPr a)) 16/\(∀(y:V),y∈map vPr a->V.size y=2)/\D.acc 1 (map vPr (flatten (take k ls))++map vPr a)=D.acc 1 (map vPr (flatten (take (k+1) ls)))/\di (wrap i64 ((k:Int)+1))=di (↑(k+1):Int)/\[(1,2,map vPr (flatten (take k ls))++map vPr a)]=[(1,2,map vPr (flatten (take (k+1) ls)))]/\Nv.It (A2 (CN 0) PP (fun env σ1=>A8 PP fCoPr env σ1 (dl (map vPr (flatten ls))) σ0) [kl Gv [1,1,1,1,0,1,0,0],KI.blk 2,kc Gv [1,1,1,1,1]] (mkE 36 [(0,D.v (V.list (Dw ls))),(6,D.acc 1 (map vPr (flatten (take (k+1) ls)))),(25,D.v (V.list (Dw ls))),(26,di (ls.length:Int)),(27,di (↑(k+1):Int))]) (St.mk [] [(1,2,map vPr (flatten (take (k+1) ls)))])))/\(decide ((k:Int)<(ls.length:Int))=false->D.v (V.list (map vPr (flatten (take k ls))))=dl (map vPr (flatten ls)))) ?_
 refine⟨fun h=>?_,fun h=>?_⟩
 ·have hk:k<ls.length:=by simpa using h
  have hx:ls[k]?=some ls[k]:=getElem?_eq_getElem hk
  have hf:=De hk
  have hle:=Ft ls (k+1)
  have hih:=ih (ls.length- (k+1)) (by omega) (k+1) rfl
  rw[hf] at hle hih⊢
  generalize ls[k]=x at hx hle hih⊢
  simp only[length_append] at hle
  refine⟨x,by omega,by simp[hx],rfl,lenOK2 (by omega) (by decide),sizes_vPr x,by simp,Af (by omega),by simp,⟨hih⟩⟩
 ·have hk:ls.length<=k:=by simpa using h
  rw[take_of_length_le hk]
theorem coPr_loop1(ls:List (List (Int×Int)))(hl:ls.length<=1000)(ht:ls.flatten.length<=1000000)(n:Nat):∀k:Nat,ls.length-k=n->
  Rn PP fCoPr 0 (dl (ls.flatten.map vPr)) σ0 ([.lp (sub Gv [1,1,0,1,0,0]),.blk 0,.code (sub Gv [1,1,1])]++[]) (mkE 36 [(0,dl (Dw ls)),(3,di ((ls.take k).flatten.length:Nat)),(9,dl (Dw ls)),(10,di ls.length),(11,di k)]) σ0:=by
 induction n using Nat.strongRecOn with
 |_ n ih=>
 intro k hn
 refine lv 36 [] (.b (.e fun x:List (Int×Int)=>.x (.list (x.map vPr))<|.f<|.l [ke 0,ch 3 (di ((ls.take (k+1)).flatten.length:Nat)),ke 9,ke 10,ch 11 (di (k+1:Nat))]) (.h (.ckn 1 1 2 [])<|.ls [ke 0,ch 6 (.acc 1 ((ls.take 0).flatten.map vPr)),ke 25,ch 26 (di ls.length),ch 27 (di (0:Nat))] ⟨[],[(1,2,(ls.take 0).flatten.map vPr)]⟩)) ((decide ((k:Int)<(ls.length:Int))=true->∃a,0<=(k:Int)/\(Dw ls)[Int.toNat (k:Int)]?=some (V.list (map vPr a))/\decide (wrap i64 ((length (flatten (take k ls)):Int)+(length (map vPr a):Int))<0)=false/\di (wrap i64 ((length (flatten (take k ls)):Int)+(length (map vPr a):Int)))=di (length (flatten (take (k+1) ls)):Int)/\di (wrap i64 ((k:Int)+1))=di (↑(k+1):Int)/\Nv.It (A2 (CN 0) PP (fun env σ1=>A8 PP fCoPr env σ1 (dl (map vPr (flatten ls))) σ0) [kl Gv [1,1,0,1,0,0],KI.blk 0,kc Gv [1,1,1]] (mkE 36 [(0,D.v (V.list (Dw ls))),(3,di (length (flatten (take (k+1) ls)):Int)),(9,D.v (V.list (Dw ls))),(10,di (ls.length:Int)),(11,di (↑(k+1):Int))]) σ0))/\(decide ((k:Int)<(ls.length:Int))=false->Ab PP 205 [dn,di (length (flatten (take k ls)):Int)] (St.mk [] []) (D.acc 1 []) (St.mk [] [(1,2,[])])/\Q (D.acc 1 [])/\di (length (Dw ls):Int)=di (ls.length:Int)/\di 0=di (↑0:Int)/\Q [(1,2,nV)]/\I0 fCoPr 0 (dl (map vPr (flatten ls))) σ0 [kl Gv [1,1,1,1,0,1,0,0],KI.blk 2,kc Gv [1,1,1,1,1]] (mkE 36 [(0,D.v (V.list (Dw ls))),(6,D.acc 1 []),(25,D.v (V.list (Dw ls))),(26,di (ls.length:Int)),(27,di (↑0:Int))]) (St.mk [] [(1,2,[])]))) ?_
 refine⟨fun h=>?_,fun h=>?_⟩
 ·have hk:k<ls.length:=by simpa using h
  have hx:ls[k]?=some ls[k]:=getElem?_eq_getElem hk
  have hf:=congrArg length (De hk)
  rw[length_append] at hf
  have hle:=Ft ls (k+1)
  generalize ls[k]=x at hx hf⊢
  have h2:i64.wrap ((((ls.take k).flatten.length:Nat):Int)+((x.map vPr).length:Int))=(((ls.take (k+1)).flatten.length:Nat):Int):=by rw[Aj (by simp only[length_map];omega) (by simp only[length_map];omega),hf];simp
  refine⟨x,by omega,by simp[hx],by rw[h2];simp,by rw[h2],Af (by omega),⟨?_⟩⟩
  exact ih (ls.length- (k+1)) (by omega) (k+1) rfl
 ·have hk:ls.length<=k:=by simpa using h
  rw[take_of_length_le hk]
  refine⟨grPr_spec ls.flatten.length ht,rfl,by simp,rfl,rfl,⟨?_⟩⟩
  exact coPr_loop2 ls hl ht _ 0 rfl
theorem coPr_spec(ls:List (List (Int×Int)))(hl:ls.length<=1000)(ht:ls.flatten.length<=1000000):Ab PP 164 [dl (Dw ls)] σ0 (dl (ls.flatten.map vPr)) σ0:=by
 refine sv fCoPr 36 [] (.l [ke 0,ch 3 (di ((ls.take 0).flatten.length:Nat)),ke 9,ch 10 (di ls.length),ch 11 (di (0:Nat))]) (di 0=di (length (flatten (take 0 ls)):Int)/\di (length (Dw ls):Int)=di (ls.length:Int)/\di 0=di (↑0:Int)/\I0 fCoPr σ0.H.length (dl (map vPr (flatten ls))) σ0 [kl Gv [1,1,0,1,0,0],KI.blk 0,kc Gv [1,1,1]] (mkE 36 [(0,dl (Dw ls)),(3,di (length (flatten (take 0 ls)):Int)),(9,dl (Dw ls)),(10,di (ls.length:Int)),(11,di (↑0:Int))]) σ0) ?_
 refine⟨rfl,by simp,rfl,⟨?_⟩⟩
 exact coPr_loop1 ls hl ht _ 0 rfl
noncomputable abbrev fGrV:Func:= Tryz.f227
theorem grV_spec(n:Nat)(hn:n<=1000000):Ab PP 227 [.v .nils,di n] σ0 (.acc 1 []) ⟨[],[(1,2,[])]⟩:=by
 have h1:i64.wrap (0-0)=0:=by decide
 by_cases h:n=0
 ·subst h
  refine sv fGrV 27 [] (.f<|.f<|.h (.q 6 0)<|.h (.nw 0 1 2) .r) (decide ((↑0:Int)<0)=false/\decide (wrap i64 ((↑0:Int)-wrap i64 (0-0))>0)=false/\Q [(1,2,nV)]/\Q (D.acc 1 [])) ?_
  exact⟨by decide,by decide,rfl,rfl⟩
 ·refine sv fGrV 27 [] (.f<|.t<|.a 1 .r) (decide ((n:Int)<0)=false/\decide (wrap i64 ((n:Int)-wrap i64 (0-0))>0)=true/\iz 0=0/\0<wrap i64 ((n:Int)-wrap i64 (0-0))/\Ar (Int.toNat (wrap i64 ((n:Int)-wrap i64 (0-0)))) 32/\iz 0=0/\Q [(1,2,nV)]/\Q (D.acc 1 [])) ?_
  have h2:i64.wrap ((n:Int)-i64.wrap (0-0))=n:=by rw[h1,Aj (by omega) (by omega)];omega
  rw[h2]
  refine⟨by simp,by simp;omega,by simp,by omega,⟨by simp;omega,by simp;omega⟩,by simp,rfl,rfl⟩
noncomputable abbrev fCoV:Func:= Tryz.f218
noncomputable def cCoV:Code:=fCoV.body.getD .skip
abbrev Gx(ls:List (List (Val))):List V:=ls.map fun l=>.list (l.map eV)
theorem coV_loop2(ls:List (List (Val)))(hl:ls.length<=1000)(ht:ls.flatten.length<=1000000)(n:Nat):∀k:Nat,ls.length-k=n->
  Rn PP fCoV 0 (dl (ls.flatten.map eV)) σ0 ([.lp (sub cCoV [1,1,1,1,0,1,0,0]),.blk 2,.code (sub cCoV [1,1,1,1,1])]++[]) (mkE 36 [(0,dl (Gx ls)),(6,.acc 1 ((ls.take k).flatten.map eV)),(25,dl (Gx ls)),(26,di ls.length),(27,di k)]) ⟨[],[(1,2,(ls.take k).flatten.map eV)]⟩:=by
 induction n using Nat.strongRecOn with
 |_ n ih=>
 intro k hn
 refine lv 36 [] (.b (.e fun x:List (Val)=>.x (.list (x.map eV))<|.w<|.ls [ke 0,ch 6 (.acc 1 ((ls.take (k+1)).flatten.map eV)),ke 25,ke 26,ch 27 (di (k+1:Nat))] ⟨[],[(1,2,(ls.take (k+1)).flatten.map eV)]⟩) .r) ((decide ((k:Int)<(ls.length:Int))=true->∃a,0<=(k:Int)/\(Gx ls)[Int.toNat (k:Int)]?=some (V.list (map eV a))/\map eV (flatten (take k ls))=map eV (flatten (take k ls))/\Ar (length (map eV (flatten (take k ls)))+length (map eV a)) 32/\(∀(y:V),y∈map eV a->V.size y=2)/\D.acc 1 (map eV (flatten (take k ls))++map eV a)=D.acc 1 (map eV (flatten (take (k+1) ls)))/\di (wrap i64 ((k:Int)+1))=di (↑(k+1):Int)/\[(1,2,map eV (flatten (take k ls))++map eV a)]=[(1,2,map eV (flatten (take (k+1) ls)))]/\Nv.It (A2 (CN 0) PP (fun env σ1=>A8 PP fCoV env σ1 (dl (map eV (flatten ls))) σ0) [kl cCoV [1,1,1,1,0,1,0,0],KI.blk 2,kc cCoV [1,1,1,1,1]] (mkE 36 [(0,D.v (V.list (Gx ls))),(6,D.acc 1 (map eV (flatten (take (k+1) ls)))),(25,D.v (V.list (Gx ls))),(26,di (ls.length:Int)),(27,di (↑(k+1):Int))]) (St.mk [] [(1,2,map eV (flatten (take (k+1) ls)))])))/\(decide ((k:Int)<(ls.length:Int))=false->D.v (V.list (map eV (flatten (take k ls))))=dl (map eV (flatten ls)))) ?_
 refine⟨fun h=>?_,fun h=>?_⟩
 ·have hk:k<ls.length:=by simpa using h
  have hx:ls[k]?=some ls[k]:=getElem?_eq_getElem hk
  have hf:=De hk
  have hle:=Ft ls (k+1)
  have hih:=ih (ls.length- (k+1)) (by omega) (k+1) rfl
  rw[hf] at hle hih⊢
  generalize ls[k]=x at hx hle hih⊢
  simp only[length_append] at hle
  refine⟨x,by omega,by simp[hx],rfl,lenOK2 (by omega) (by decide),Dl x,by simp,Af (by omega),by simp,⟨hih⟩⟩
 ·have hk:ls.length<=k:=by simpa using h
  rw[take_of_length_le hk]
theorem coV_loop1(ls:List (List (Val)))(hl:ls.length<=1000)(ht:ls.flatten.length<=1000000)(n:Nat):∀k:Nat,ls.length-k=n->
  Rn PP fCoV 0 (dl (ls.flatten.map eV)) σ0 ([.lp (sub cCoV [1,1,0,1,0,0]),.blk 0,.code (sub cCoV [1,1,1])]++[]) (mkE 36 [(0,dl (Gx ls)),(3,di ((ls.take k).flatten.length:Nat)),(9,dl (Gx ls)),(10,di ls.length),(11,di k)]) σ0:=by
 induction n using Nat.strongRecOn with
 |_ n ih=>
 intro k hn
 refine lv 36 [] (.b (.e fun x:List (Val)=>.x (.list (x.map eV))<|.f<|.l [ke 0,ch 3 (di ((ls.take (k+1)).flatten.length:Nat)),ke 9,ke 10,ch 11 (di (k+1:Nat))]) (.h (.ckn 1 1 2 [])<|.ls [ke 0,ch 6 (.acc 1 ((ls.take 0).flatten.map eV)),ke 25,ch 26 (di ls.length),ch 27 (di (0:Nat))] ⟨[],[(1,2,(ls.take 0).flatten.map eV)]⟩)) ((decide ((k:Int)<(ls.length:Int))=true->∃a,0<=(k:Int)/\(Gx ls)[Int.toNat (k:Int)]?=some (V.list (map eV a))/\decide (wrap i64 ((length (flatten (take k ls)):Int)+(length (map eV a):Int))<0)=false/\di (wrap i64 ((length (flatten (take k ls)):Int)+(length (map eV a):Int)))=di (length (flatten (take (k+1) ls)):Int)/\di (wrap i64 ((k:Int)+1))=di (↑(k+1):Int)/\Nv.It (A2 (CN 0) PP (fun env σ1=>A8 PP fCoV env σ1 (dl (map eV (flatten ls))) σ0) [kl cCoV [1,1,0,1,0,0],KI.blk 0,kc cCoV [1,1,1]] (mkE 36 [(0,D.v (V.list (Gx ls))),(3,di (length (flatten (take (k+1) ls)):Int)),(9,D.v (V.list (Gx ls))),(10,di (ls.length:Int)),(11,di (↑(k+1):Int))]) σ0))/\(decide ((k:Int)<(ls.length:Int))=false->Ab PP 227 [dn,di (length (flatten (take k ls)):Int)] (St.mk [] []) (D.acc 1 []) (St.mk [] [(1,2,[])])/\Q (D.acc 1 [])/\di (length (Gx ls):Int)=di (ls.length:Int)/\di 0=di (↑0:Int)/\Q [(1,2,nV)]/\I0 fCoV 0 (dl (map eV (flatten ls))) σ0 [kl cCoV [1,1,1,1,0,1,0,0],KI.blk 2,kc cCoV [1,1,1,1,1]] (mkE 36 [(0,D.v (V.list (Gx ls))),(6,D.acc 1 []),(25,D.v (V.list (Gx ls))),(26,di (ls.length:Int)),(27,di (↑0:Int))]) (St.mk [] [(1,2,[])]))) ?_
 refine⟨fun h=>?_,fun h=>?_⟩
 ·have hk:k<ls.length:=by simpa using h
  have hx:ls[k]?=some ls[k]:=getElem?_eq_getElem hk
  have hf:=congrArg length (De hk)
  rw[length_append] at hf
  have hle:=Ft ls (k+1)
  generalize ls[k]=x at hx hf⊢
  have h2:i64.wrap ((((ls.take k).flatten.length:Nat):Int)+((x.map eV).length:Int))=(((ls.take (k+1)).flatten.length:Nat):Int):=by rw[Aj (by simp only[length_map];omega) (by simp only[length_map];omega),hf];simp
  refine⟨x,by omega,by simp[hx],by rw[h2];simp,by rw[h2],Af (by omega),⟨?_⟩⟩
  exact ih (ls.length- (k+1)) (by omega) (k+1) rfl
 ·have hk:ls.length<=k:=by simpa using h
  rw[take_of_length_le hk]
  refine⟨grV_spec ls.flatten.length ht,rfl,by simp,rfl,rfl,⟨?_⟩⟩
  exact coV_loop2 ls hl ht _ 0 rfl
theorem coV_spec(ls:List (List (Val)))(hl:ls.length<=1000)(ht:ls.flatten.length<=1000000):Ab PP 218 [dl (Gx ls)] σ0 (dl (ls.flatten.map eV)) σ0:=by
 refine sv fCoV 36 [] (.l [ke 0,ch 3 (di ((ls.take 0).flatten.length:Nat)),ke 9,ch 10 (di ls.length),ch 11 (di (0:Nat))]) (di 0=di (length (flatten (take 0 ls)):Int)/\di (length (Gx ls):Int)=di (ls.length:Int)/\di 0=di (↑0:Int)/\I0 fCoV σ0.H.length (dl (map eV (flatten ls))) σ0 [kl cCoV [1,1,0,1,0,0],KI.blk 0,kc cCoV [1,1,1]] (mkE 36 [(0,dl (Gx ls)),(3,di (length (flatten (take 0 ls)):Int)),(9,dl (Gx ls)),(10,di (ls.length:Int)),(11,di (↑0:Int))]) σ0) ?_
 refine⟨rfl,by simp,rfl,⟨?_⟩⟩
 exact coV_loop1 ls hl ht _ 0 rfl
noncomputable abbrev fCmI:Func:= Tryz.f230
noncomputable def cCmI:Code:=fCmI.body.getD .skip
theorem cmI_loop(a b:List Int)(ha:a.length<=1000000)(n:Nat):∀k:Nat,a.length-k=n->k<=b.length->k<=a.length->
  Rn PP fCmI 0 (di (AS AH (a.drop k) (b.drop k))) σ0 ([.lp (sub cCmI [1,0,1,0,0]),.blk 0,.code (sub cCmI [1,1])]++[]) (mkE 36 [(0,dIs a),(1,dIs b),(9,dIs a),(10,di a.length),(11,di k)]) σ0:=by
 induction n using Nat.strongRecOn with
 |_ n ih=>
 intro k hn hkb hka
 refine lv 36 [] (.b (.e fun x:Int=>.x (vi x)<|.b .r<|.e fun y:Int=>.x (vi y)<|.c (di (AH x y))<|.b .r (.ls [ke 0,ke 1,ke 9,ke 10,ch 11 (di (k+1:Nat))] σ0)) (.b .r .r)) ((decide ((k:Int)<(a.length:Int))=true->∃a_2,0<=(k:Int)/\(map vi a)[Int.toNat (k:Int)]?=some (vi a_2)/\(decide ((k:Int)>=(length (map vi b):Int))=true->di 1=di (AS AH (List.drop k a) (List.drop k b)))/\(decide ((k:Int)>=(length (map vi b):Int))=false->∃a_4,0<=(k:Int)/\(map vi b)[Int.toNat (k:Int)]?=some (vi a_4)/\Ab PP 52 [di a_2,di a_4] (St.mk [] []) (di (AH a_2 a_4)) (St.mk [] [])/\((AH a_2 a_4 !=0)=true->di (AH a_2 a_4)=di (AS AH (List.drop k a) (List.drop k b)))/\((AH a_2 a_4 !=0)=false->di (wrap i64 ((k:Int)+1))=di (↑(k+1):Int)/\Nv.It (A2 (CN 0) PP (fun env σ1=>A8 PP fCmI env σ1 (di (AS AH (List.drop k a) (List.drop k b))) σ0) [kl cCmI [1,0,1,0,0],KI.blk 0,kc cCmI [1,1]] (mkE 36 [(0,dIs a),(1,dIs b),(9,dIs a),(10,di (a.length:Int)),(11,di (↑(k+1):Int))]) σ0))))/\(decide ((k:Int)<(a.length:Int))=false->(decide ((length (map vi a):Int)<(length (map vi b):Int))=true->di (-1)=di (AS AH (List.drop k a) (List.drop k b)))/\(decide ((length (map vi a):Int)<(length (map vi b):Int))=false->di 0=di (AS AH (List.drop k a) (List.drop k b))))) ?_
 refine⟨fun h=>?_,fun h=>?_⟩
 ·have hk:k<a.length:=by simpa using h
  have hx:a[k]?=some a[k]:=getElem?_eq_getElem hk
  rw[drop_eq_getElem_cons hk]
  generalize a[k]=x at hx⊢
  refine⟨x,by omega,Ao hx,fun h1=>?_,fun h1=>?_⟩
  ·have:b.drop k=[]:=drop_of_length_le (by simpa using h1)
   rw[this];rfl
  ·have hk2:k<b.length:=by simpa using h1
   have hy:b[k]?=some b[k]:=getElem?_eq_getElem hk2
   rw[drop_eq_getElem_cons hk2]
   generalize b[k]=y at hy⊢
   refine⟨y,by omega,Ao hy,Hs x y,fun h2=>?_,fun h2=>⟨Af (by omega),⟨?_⟩⟩⟩
   ·have:AH x y≠0:=by simpa using h2
    simp[AS,this]
   ·have:AH x y=0:=by simpa using h2
    simp only[AS,this,if_true]
    exact ih (a.length- (k+1)) (by omega) (k+1) rfl hk2 hk
 ·have hk:k=a.length:=by have:a.length<=k:=(by simpa using h);omega
  subst hk
  rw[List.drop_length]
  refine⟨fun h1=>?_,fun h1=>?_⟩
  ·have h1:a.length<b.length:=by simpa using h1
   rw[drop_eq_getElem_cons h1];rfl
  ·have h1:b.length<=a.length:=by simpa using h1
   rw[drop_of_length_le h1];rfl
theorem cmI_spec(a b:List Int)(ha:a.length<=1000000):Ab PP 230 [dIs a,dIs b] σ0 (di (AS AH a b)) σ0:=by
 refine sv fCmI 36 [] (.ls [ke 0,ke 1,ke 9,ch 10 (di a.length),ch 11 (di (0:Nat))] σ0) (di (length (map vi a):Int)=di (a.length:Int)/\di 0=di (↑0:Int)/\I0 fCmI σ0.H.length (di (AS AH a b)) σ0 [kl cCmI [1,0,1,0,0],KI.blk 0,kc cCmI [1,1]] (mkE 36 [(0,dIs a),(1,dIs b),(9,dIs a),(10,di (a.length:Int)),(11,di (↑0:Int))]) σ0) ?_
 refine⟨by rw[length_map],rfl,⟨?_⟩⟩
 exact cmI_loop a b ha _ 0 rfl (by omega) (by omega)
theorem cmpV_lf(x y:Int):Av (lf x) (lf y)=AH x y:=by
 rw[cmpV_or]
 show orM [AH x y,0,0]=_
 simp only[orM,if_true]
 split<;>simp_all
theorem cmpL_lf:∀a b:List Int,AS Av (a.map lf) (b.map lf)=AS AH a b
 |[],[]=>rfl
 |[],_::_=>rfl
 |_::_,[]=>rfl
 |x::a,y::b=>by simp only[map_cons,AS,cmpV_lf,cmpL_lf a b]
noncomputable abbrev fWCm:Func:= Tryz.f223
theorem wcm_spec:CmpWd:=by
 intro a b ha hb
 refine sv fWCm 15 [] (.c (di (AH a.length b.length))<|.c (di (AS AH a b))<|.c (di (cmpW a b)) .r) (F0 52 [di (length (map vi a):Int),di (length (map vi b):Int)] (di (AH (a.length:Int) (b.length:Int)))/\F0 230 [dIs a,dIs b] (di (AS AH a b))/\F0 51 [D.v (V.list [vi (AH (a.length:Int) (b.length:Int)),vi (AS AH a b)])] (di (cmpW a b))/\Q (di (cmpW a b))) ?_
 have h1:cmpW a b=orM [AH a.length b.length,AS AH a b]:=by
  rw[cmpW,cmpV_or]
  show orM [0,AH (a.map lf).length (b.map lf).length,AS Av (a.map lf) (b.map lf)]=_
  rw[cmpL_lf,length_map,length_map]
  rfl
 refine⟨by rw[length_map,length_map];exact Hs _ _,cmI_spec a b ha,?_,rfl⟩
 rw[h1];exact or_spec [_,_] (by simp)
structure DG(v:Vrd):Prop where
 run:v.run.length<=1000/\∀s∈v.run,s.2.size<=1000
 coefs:v.coefs.length<=1000
 vals:v.vals.length<=1000
 closed:v.closed.length<=1000/\∀x∈v.closed,x.size<=1000
structure Mdl(m:Mod)(t:Typ)(c:Val)(C:Val->Prop)(S:Val->List Stp×Int)(X:Hnt->Hnt×Vrd):Prop where
 int:FL m t
 valid:Au t c=true
 tsize:c.size<=1000
 start:C m.start
 size:∀v,C v->v.size<=1000
 all:∀v,C v->Ab PP 46 [Ah m,dV v] σ0 (dSP (S v)) σ0
 len:∀v,C v->(S v).1.length<=256
 next:∀v,C v->∀s∈ (S v).1,C s.2
 excl:∀h:Hnt,0<=h.cand/\h.cand<=1000->Ab PP 33 [.ptr 0 0] (stH h m c) (BV (X h).2) (stH (X h).1 m c)
 cand:∀h:Hnt,(X h).1=h∨(X h).1=EG h
 told:∀h:Hnt,0<=h.cand->DG (X h).2
theorem askdG_spec{m:Mod}{t:Typ}(hm:FL m t)(c:Val)(hc:Au t c=true)(hs:c.size<=1000):Ab PP 24 [Ah m,dV c] σ0 (di 0) σ0:=by
 refine sv fAskd 15 [2,3] (.c (di 0)<|.c (db true) .r) (F0 41 [Ah m] (di 0)/\F0 42 [Ah m,dV c] (db true)/\Q (di 0)) ?_
 have h1:=hm.valid c (by omega)
 rw[hc] at h1
 exact⟨hm.walks,h1,rfl⟩
theorem rstartG_spec{m:Mod}{t:Typ}(hm:FL m t)(hms:m.start.size<=1000)(c:Val)(hc:Au t c=true)(hs:c.size<=1000):Ab PP 18 [Ah m,dV c] σ0 (.tup [DE (AX m),di 0]) σ0:=by
 refine sv fRStart 21 [2,3] (.c (di 0)<|.c (dV m.start) .r) (F0 24 [Ah m,dV c] (di 0)/\F0 25 [dV m.start] (dV m.start)/\D.tup [D.v (V.agg [V.list [Ad m.start],V.list [vi (-1)],V.list [vi (-1)],vi 0,vi 0,vi 0]),di 0]=D.tup [DE (AX m),di 0]) ?_
 refine⟨askdG_spec hm c hc hs,EF _ m.start (Nat.le_refl _) (by omega),?_⟩
 rw[show DE (AX m)=D.v (.agg [.list [eV m.start],.list [vi (-1)],.list [vi (-1)],vi 0,vi 0,vi 0]) from rfl,AN]
def AP(S:Val->List Stp×Int)(c:Val)(h:Hnt):Hnt×Vrd×Int:=if decide (h.next>=(h.found.length:Int))=true then(h,An h.used,0)
 else if ((S (h.found.getD h.next.toNat default)).2 !=0)=true then(h,An 0,(S (h.found.getD h.next.toNat default)).2)
 else BL c h.next ⟨h.found,h.before,h.rules,h.next+1,h.cand,h.used⟩ (S (h.found.getD h.next.toNat default)).1
theorem findG_spec{m:Mod}{t:Typ}{c:Val}{C:Val->Prop}{S:Val->List Stp×Int}{X:Hnt->Hnt×Vrd}(hm:Mdl m t c C S X)(h:Hnt)(hh:Gw h)(hn:0<=h.next)(hn2:h.next<=1000)(hf:∀v∈h.found,C v):Ab PP 29 [.ptr 0 0] ⟨[some (Ek h m c)],owA h⟩ (GN (AP S c h)) (stH (AP S c h).1 m c):=by
 by_cases h1:decide (h.next>=(h.found.length:Int))=true
 ·rw[AP,if_pos h1]
  refine sv Gu 143 [] (.t<|.h (.q 3 0)<|.h (.cs ⟨[some (cPl h m c),some zVr],owA h⟩)<|.c1 (cPl h m c) (BV (An h.used)) .r) (decide (h.next>=(length (map eV h.found):Int))=true/\(∀(e:List D) (E:Ent) (g:Gh) (a:Act) (w:World),FI E g (St.mk [some (Ek h m c),some [D.v (V.bool false),D.v (V.bool false),dn,dn,D.v (V.int i64 0),dn,dn,D.v (V.int i64 0)]] [(3,1,map vi h.rules),(2,1,map vi h.before),(1,2,map eV h.found)]) e a w->∃g',FI E g' (St.mk [some (cPl h m c),some zVr] (owA h)) e a w)/\Ab PP 45 [D.ptr 0 0] (St.mk [some (cPl h m c)] []) (BV (An h.used)) (St.mk [some (cPl h m c)] [])/\[some (cPl h m c)]=[some (cPl (h,An h.used,0).fst m c)]/\D.tup [D.v (V.agg [V.bool (An h.used).decided,V.bool (An h.used).yes,V.list [],V.list [],vi (An h.used).mod,V.list [],V.list [],vi (An h.used).used]),di 0]=GN (h,An h.used,0)) ?_
  exact⟨by rw[length_map];exact h1,fun e=>EK h m c _ _ e,DR h m c,rfl,rfl⟩
 ·have f1:=eq_false_of_ne_true h1
  have hlt:=of_decide_eq_false f1
  obtain⟨v,hv⟩:∃v,h.found[h.next.toNat]?=some v:=⟨_,getElem?_eq_getElem (show h.next.toNat<h.found.length by omega)⟩
  have hvc:=hf v (mem_of_getElem? hv)
  have hall:=hm.all v hvc
  have hst:=hm.len v hvc
  have hnx:=hm.next v hvc
  have e1:h.found.getD h.next.toNat default=v:=by rw[getD_eq_getElem?_getD,hv];rfl
  rw[AP,if_neg h1,e1]
  generalize S v=p at*
  by_cases h2:(p.2 !=0)=true
  ·rw[if_pos h2]
   refine sv Gu 143 [] (.f<|.h (.xs (Ad v))<|.c (dSP p)<|.t<|.h (.q 6 0)<|.h (.cs ⟨[some (cPl h m c),some zVr],owA h⟩) .r) (decide (h.next>=(length (map eV h.found):Int))=false/\Q 2/\0<=h.next/\(map eV h.found)[Int.toNat h.next]?=some (Ad v)/\F0 46 [Ah m,dV v] (dSP p)/\(True/\True/\True)/\(p.snd !=0)=true/\(∀(e:List D) (E:Ent) (g:Gh) (a:Act) (w:World),FI E g (St.mk [some (Ek h m c),some [D.v (V.bool false),D.v (V.bool false),dn,dn,D.v (V.int i64 0),dn,dn,D.v (V.int i64 0)]] [(3,1,map vi h.rules),(2,1,map vi h.before),(1,2,map eV h.found)]) e a w->∃g',FI E g' (St.mk [some (cPl h m c),some zVr] (owA h)) e a w)/\[some (cPl h m c)]=[some (cPl (h,An 0,p.snd).fst m c)]/\D.tup [D.v (V.agg [V.bool false,V.bool false,V.list [],V.list [],vi 0,V.list [],V.list [],vi 0]),di p.snd]=GN (h,An 0,p.snd)) ?_
   exact⟨by rw[length_map];exact f1,rfl,hn,idx_val' hv,hall,⟨trivial,trivial,trivial⟩,h2,fun e=>EK h m c _ _ e,rfl,rfl⟩
  ·rw[if_neg h2]
   obtain⟨h',hh'⟩:∃h':Hnt,h'=⟨h.found,h.before,h.rules,h.next+1,h.cand,h.used⟩:=⟨_,rfl⟩
   rw[←hh']
   refine sv Gu 143 [] (.f<|.h (.xs (Ad v))<|.c (dSP p)<|.f<|.ls [ke 0,ke 2,ke 4,ch 54 (.v (BS p.1)),ch 55 (di p.1.length),ch 56 (di (0:Nat))] (stF h' m c)) (decide (h.next>=(length (map eV h.found):Int))=false/\Q 2/\0<=h.next/\(map eV h.found)[Int.toNat h.next]?=some (Ad v)/\F0 46 [Ah m,dV v] (dSP p)/\(True/\True/\True)/\(p.snd !=0)=false/\Q (D.v (BS p.fst))/\di (length (map vSt p.fst):Int)=di (p.fst.length:Int)/\di 0=di (↑0:Int)/\[some [D.acc 1 (map eV h.found),D.acc 2 (map vi h.before),D.acc 3 (map vi h.rules),di (wrap i64 (h.next+1)),di h.cand,di h.used,di m.kind,D.v (vSs m.states),D.v (vSs m.places),D.v (vSs m.letters),dIs m.ranks,di m.levels,di m.age,D.v (AY m.rules),di m.start.n,dVs m.start.kids,di c.n,dVs c.kids],some [db false,db false,dn,dn,di 0,dn,dn,di 0]]=[some (Ek h' m c),some zVr]/\[(3,1,map vi h.rules),(2,1,map vi h.before),(1,2,map eV h.found)]=[(3,1,map vi h'.rules),(2,1,map vi h'.before),(1,2,map eV h'.found)]/\I0 Gu (length (St.mk [some (Ek h m c)] (owA h)).H) (GN (BL c h.next h' p.fst)) (stH (BL c h.next h' p.fst).fst m c) [kl H8 [1,1,1,1,1,1,0,1,0,0],KI.blk 0,kc H8 [1,1,1,1,1,1,1]] (mkE 143 [(0,D.ptr 0 0),(2,D.ptr 1 0),(4,di h.next),(54,D.v (BS p.fst)),(55,di (p.fst.length:Int)),(56,di (↑0:Int))]) (stF h' m c)) ?_
   have hlen:=hh.len
   have hk':Gw h':=by rw[hh'];exact⟨hh.ne,hh.len,hh.size,hh.bl,hh.rl,hh.back⟩
   have hl:=find_loop m c h.next p.1 hst (fun s hs=>hm.size _ (hnx s hs)) _ 0 h' rfl hk' (by rw[hh'];exact⟨hn,by show h.next<(h.found.length:Int);omega⟩)
   refine⟨by rw[length_map];exact f1,rfl,hn,idx_val' hv,hall,⟨trivial,trivial,trivial⟩,eq_false_of_ne_true h2,rfl,by rw[length_map],rfl,?_,by rw[hh'],⟨by simpa using hl⟩⟩
   rw[hh',Aj (by omega) (by omega)]
structure HnG(C:Val->Prop)(h:Hnt):Prop where
 ok:Gw h
 cfg:∀v∈h.found,C v
theorem findL_okG{C:Val->Prop}(hz:∀v,C v->v.size<=1000)(c:Val)(at':Int):∀(l:List Stp) (h:Hnt),HnG C h->0<=at'/\at'<h.found.length->(∀s∈l,C s.2)->HnG C (BL c at' h l).1/\(BL c at' h l).1.cand=h.cand/\(BL c at' h l).1.used=h.used/\(BL c at' h l).1.next=h.next
 |[],h,hh,_,_=>⟨hh,rfl,rfl,rfl⟩
 |s::l,h,hh,ha,hl=>by
  have hs:=hl s (by simp)
  have hl':∀s∈l,C s.2:=fun s h=>hl s (by simp[h])
  rw[BL]
  split
  ·exact findL_okG hz c at' l h hh ha hl'
  ·split
   ·exact⟨hh,rfl,rfl,rfl⟩
   ·rename_i h2
    have h2:¬(h.found.length:Int)>=128:=by simpa using h2
    have ho:=addH_ok hh.ok (by omega) ha (s:=s) (hz _ hs)
    have hi:HnG C (C0 h at' s):=⟨ho,fun v hv=>by
     rcases mem_append.1 hv with hv|hv
     ·exact hh.cfg v hv
     ·rw[mem_singleton.1 hv];exact hs⟩
    split
    ·exact findL_okG hz c at' l _ hi (by simp only[C0,length_append,length_cons,length_nil];omega) hl'
    ·split
     ·exact⟨hi,rfl,rfl,rfl⟩
     ·exact⟨hi,rfl,rfl,rfl⟩
theorem findG_ok{m:Mod}{t:Typ}{c:Val}{C:Val->Prop}{S:Val->List Stp×Int}{X:Hnt->Hnt×Vrd}(hm:Mdl m t c C S X)(h:Hnt)(hh:HnG C h)(hn:0<=h.next):HnG C (AP S c h).1/\(AP S c h).1.cand=h.cand/\(AP S c h).1.used=h.used/\h.next<=(AP S c h).1.next/\(AP S c h).1.next<=h.next+1:=by
 rw[AP]
 split
 ·exact⟨hh,rfl,rfl,by show h.next<=h.next;omega,by show h.next<=h.next+1;omega⟩
 ·rename_i h1
  have h1:¬h.next>=(h.found.length:Int):=by simpa using h1
  split
  ·exact⟨hh,rfl,rfl,by show h.next<=h.next;omega,by show h.next<=h.next+1;omega⟩
  ·obtain⟨v,hv⟩:∃v,h.found[h.next.toNat]?=some v:=⟨_,getElem?_eq_getElem (show h.next.toNat<h.found.length by omega)⟩
   have hst:=hm.next v (hh.cfg v (mem_of_getElem? hv))
   rw[show h.found.getD h.next.toNat default=v by rw[getD_eq_getElem?_getD,hv];rfl]
   obtain⟨g1,g2,g3,g4⟩:=findL_okG hm.size c h.next (S v).1 ⟨h.found,h.before,h.rules,h.next+1,h.cand,h.used⟩ ⟨⟨hh.ok.ne,hh.ok.len,hh.ok.size,hh.ok.bl,hh.ok.rl,hh.ok.back⟩,hh.cfg⟩ (by show 0<=h.next/\h.next<h.found.length;omega) hst
   exact⟨g1,g2,g3,by rw[g4];show h.next<=h.next+1;omega,by rw[g4];show h.next+1<=h.next+1;omega⟩
def F9(m:Mod)(S:Val->List Stp×Int)(X:Hnt->Hnt×Vrd)(c:Val)(h:Hnt):Hnt×Vrd×Int:=
 if (Av m.start c==0)=true then(Al h,Cz [] (Al h).used,0)
 else if ((AP S c (Al h)).2.2 !=0)=true then(h,An 0,(AP S c (Al h)).2.2)
 else if (AP S c (Al h)).2.1.decided=true then((AP S c (Al h)).1,(AP S c (Al h)).2.1,0)
 else if decide ((AP S c (Al h)).1.next>=((AP S c (Al h)).1.found.length:Int))=true then((AP S c (Al h)).1,DN (sortV (AP S c (Al h)).1.found) (AP S c (Al h)).1.used,0)
 else((X (AP S c (Al h)).1).1,(X (AP S c (Al h)).1).2,0)
theorem stepG_spec{m:Mod}{t:Typ}{c:Val}{C:Val->Prop}{S:Val->List Stp×Int}{X:Hnt->Hnt×Vrd}(hm:Mdl m t c C S X)(h:Hnt)(hh:HnG C h)(hn:0<=h.next/\h.next<=500)(hcd:0<=h.cand/\h.cand<=500)(hu:0<=h.used/\h.used<=100000):Ab PP 19 [Ah m,dV c,DE h] σ0 (ES (F9 m S X c h)) σ0:=by
 have hask:=askdG_spec hm.int c hm.valid hm.tsize
 have hsz:=hm.size _ hm.start
 have hsame:=EA m.start c (by omega)
 rw[F9]
 by_cases h1:(Av m.start c==0)=true
 ·rw[if_pos h1]
  rw[h1] at hsame
  refine sv fStep 107 [3,4,5] (.c (di 0)<|.h (.oc (.dagg (cAc h)) ⟨[some zHn,some zVr],owA h⟩)<|.h .g<|.c (db true)<|.h (.cs ⟨[some zHn,some zVr,some (cPl (Al h) m c)],owA h⟩)<|.c1 (cPl (Al h) m c) (BV (Cz [] (Al h).used)) .r) (F0 24 [Ah m,dV c] (di 0)/\(∀(o:Oper) (c:Call) (fo:Operand),o.op=Op.call c->c.callee=Callee.value fo->Ai PP o [D.v (V.fn 26 [] []),D.v (vHnt h)] (St.mk [some [dn,dn,dn,di 0,di 0,di 0],some [db false,db false,dn,dn,di 0,dn,dn,di 0]] []) (D.dagg (cAc h)) (St.mk [some zHn,some zVr] (owA h)))/\F0 27 [dV m.start,dV c] (db true)/\(∀(e:List D) (E:Ent) (g:Gh) (a:Act) (w:World),FI E g (St.mk [some zHn,some zVr,some [D.acc 1 (map eV h.found),D.acc 2 (map vi h.before),D.acc 3 (map vi h.rules),di h.next,di h.cand,D.v (V.int i64 (wrap i64 (h.used+1))),D.v (vi m.kind),D.v (vSs m.states),D.v (vSs m.places),D.v (vSs m.letters),dIs m.ranks,D.v (vi m.levels),D.v (vi m.age),D.v (AY m.rules),D.v (vi m.start.n),dVs m.start.kids,D.v (vi c.n),dVs c.kids]] [(3,1,map vi h.rules),(2,1,map vi h.before),(1,2,map eV h.found)]) e a w->∃g',FI E g' (St.mk [some zHn,some zVr,some (cPl (Al h) m c)] (owA h)) e a w)/\Ab PP 28 [D.ptr 0 0,dn] (St.mk [some (cPl (Al h) m c)] []) (BV (Cz [] (Al h).used)) (St.mk [some (cPl (Al h) m c)] [])/\((Q (some [dVs (Al h).found,dIs (Al h).before,dIs (Al h).rules,di (Al h).next,di (Al h).cand,di (Al h).used])/\True)/\True)/\D.tup [D.v (V.agg [V.list (map eV (Al h).found),V.list (map vi (Al h).before),V.list (map vi (Al h).rules),vi (Al h).next,vi (Al h).cand,vi (Al h).used]),D.v (V.agg [V.bool (Cz [] (Al h).used).decided,V.bool (Cz [] (Al h).used).yes,V.list [],V.list [],vi (Cz [] (Al h).used).mod,V.list [],V.list [],vi (Cz [] (Al h).used).used]),di 0]=ES (Al h,Cz [] (Al h).used,0)) ?_
  rw[Aj (n:=h.used+1) (by omega) (by omega)]
  exact⟨hask,fun o c fo ho hc2=>op_own h hh.ok ho hc2 _,hsame,fun e=>cv_plainQ (Al h) m c (H:=[some zHn,some zVr,some (Ek (Al h) m c)]) (own:=owA h) (q:=2) rfl e,yes_0 (Al h) m c,(by repeat' first|with_reducible refine And.intro ?_ ?_|rfl|trivial),rfl⟩
 ·rw[if_neg h1]
  rw[eq_false_of_ne_true h1] at hsame
  have hiU:HnG C (Al h):=⟨⟨hh.ok.ne,hh.ok.len,hh.ok.size,hh.ok.bl,hh.ok.rl,hh.ok.back⟩,hh.cfg⟩
  have hfs:=findG_spec hm (Al h) hiU.ok hn.1 (by show h.next<=1000;omega) hh.cfg
  obtain⟨hi2,hc2,hu2,hn2,hn3⟩:=findG_ok hm (Al h) hiU hn.1
  have hrp:Ab PP 26 [DE h] σ0 (DE h) σ0:=by
   have hl:=hh.ok.len
   have hbl:=hh.ok.bl
   have hrl:=hh.ok.rl
   have hne:0<h.found.length:=length_pos_iff.2 hh.ok.ne
   exact rown_pl h (by omega) (fun v hv=>by have:=hh.ok.size v hv;omega) (by omega) (by omega) (length_pos_iff.1 (by omega)) (length_pos_iff.1 (by omega))
  have hcd2:0<=(Al h).cand/\(Al h).cand<=500:=hcd
  refine sv fStep 107 [3,4,5] (.c (di 0)<|.h (.oc (.dagg (cAc h)) ⟨[some zHn,some zVr],owA h⟩)<|.h .g<|.c (db false)<|.h (.q 8 1)<|.h (.s [ke 3,ke 4,ke 5,ke 6,ke 7,ke 8,ke 9,ke 10,ke 49]) .z) (F0 24 [Ah m,dV c] (di 0)/\(∀(o:Oper) (c:Call) (fo:Operand),o.op=Op.call c->c.callee=Callee.value fo->Ai PP o [D.v (V.fn 26 [] []),D.v (vHnt h)] (St.mk [some [dn,dn,dn,di 0,di 0,di 0],some [db false,db false,dn,dn,di 0,dn,dn,di 0]] []) (D.dagg (cAc h)) (St.mk [some zHn,some zVr] (owA h)))/\F0 27 [dV m.start,dV c] (db false)/\Nv.It (BF (CN σ0.H.length) PP (fun env σ1=>A8 PP fStep env σ1 (ES (if ((AP S c (Al h)).snd.snd !=0)=true then(h,An 0,(AP S c (Al h)).snd.snd) else if (AP S c (Al h)).snd.fst.decided=true then((AP S c (Al h)).fst,(AP S c (Al h)).snd.fst,0) else if decide ((AP S c (Al h)).fst.next>=(↑(length (AP S c (Al h)).fst.found):Int))=true then((AP S c (Al h)).fst,DN (sortV (AP S c (Al h)).fst.found) (AP S c (Al h)).fst.used,0) else((X (AP S c (Al h)).fst).fst,(X (AP S c (Al h)).fst).snd,0))) σ0) [kc cStep [1,1,1,1,1,1]] (AD (sub cStep [1,1,1,1,1,0])) (List.drop 1 (AD (sub cStep [1,1,1,1,1,0])).toList) (mkE 107 [(3,D.v (V.ref (AE m))),(4,D.v (V.ref (Ad c))),(5,D.v (V.ref (vHnt h))),(6,D.ptr 0 0),(7,D.ptr 1 0),(8,di 0),(9,di 0),(10,D.ptr 2 0),(49,D.ptr 2 0)]) (St.mk [some zHn,some zVr,some [D.acc 1 (map eV h.found),D.acc 2 (map vi h.before),D.acc 3 (map vi h.rules),di h.next,di h.cand,di (wrap i64 (h.used+1)),di m.kind,D.v (vSs m.states),D.v (vSs m.places),D.v (vSs m.letters),dIs m.ranks,di m.levels,di m.age,D.v (AY m.rules),di m.start.n,dVs m.start.kids,di c.n,dVs c.kids]] [(3,1,map vi h.rules),(2,1,map vi h.before),(1,2,map eV h.found)]))) ?_
  rw[Aj (n:=h.used+1) (by omega) (by omega)]
  refine⟨hask,fun o c fo ho hc2=>op_own h hh.ok ho hc2 _,hsame,⟨?_⟩⟩
  refine ro_callHE (σ:=⟨[some zHn,some zVr,some (Ek (Al h) m c)],owA (Al h)⟩) 50 29 2 [.ptr 2 0] [.ptr 0 0] (cPl (AP S c (Al h)).1 m c) (GN (AP S c (Al h))) rfl (by kernel_rfl) (by kernel_rfl) (by kernel_rfl) rfl rfl (by rfl) (by rfl) (by rfl) (by rfl) ?_ (by rfl) hfs ?_
  ·exact .ptr .nil
  generalize AP S c (Al h)=p at*
  obtain⟨h2,v,e⟩:=p
  dsimp only at hi2 hc2 hu2 hn2 hn3⊢
  by_cases he:(e !=0)=true
  ·rw[if_pos he]
   refine GA mixed 107 [3,4,5] 8 2 (.t<|.c (DE h) .r) ?_
   refine via (by kernel_rfl:(((h2,v,e).snd.snd !=0)=true/\F0 26 [D.v (vHnt h)] (DE h)/\D.tup [D.v (V.agg [V.list (map eV h.found),V.list (map vi h.before),V.list (map vi h.rules),vi h.next,vi h.cand,vi h.used]),D.v (V.agg [V.bool false,V.bool false,V.list [],V.list [],vi 0,V.list [],V.list [],vi 0]),di (h2,v,e).snd.snd]=ES (h,An 0,e))=_) ?_
   exact⟨he,hrp,rfl⟩
  ·rw[if_neg he]
   have hf:=eq_false_of_ne_true he
   by_cases hd:v.decided=true
   ·rw[if_pos hd]
    refine GA mixed 107 [3,4,5] 8 2 (.f<|.t .r) ?_
    refine via (by kernel_rfl:(((h2,v,e).snd.snd !=0)=false/\(h2,v,e).snd.fst.decided=true/\(True/\(Q (some [db (h2,v,e).snd.fst.decided,db (h2,v,e).snd.fst.yes,D.v (BS (h2,v,e).snd.fst.run),D.v (vIs (h2,v,e).snd.fst.coefs),di (h2,v,e).snd.fst.mod,D.v (vIs (h2,v,e).snd.fst.vals),D.v (vVs (h2,v,e).snd.fst.closed),di (h2,v,e).snd.fst.used])/\True)/\True)/\D.tup [D.v (V.agg [V.list (map eV h2.found),V.list (map vi h2.before),V.list (map vi h2.rules),vi h2.next,vi h2.cand,vi h2.used]),D.v (V.agg [V.bool (h2,v,e).snd.fst.decided,V.bool (h2,v,e).snd.fst.yes,V.list (map vSt (h2,v,e).snd.fst.run),V.list (map vi (h2,v,e).snd.fst.coefs),vi (h2,v,e).snd.fst.mod,V.list (map vi (h2,v,e).snd.fst.vals),V.list (map eV (h2,v,e).snd.fst.closed),vi (h2,v,e).snd.fst.used]),di 0]=ES (h2,v,0))=_) ?_
    exact⟨hf,hd,(by repeat' first|with_reducible refine And.intro ?_ ?_|rfl|trivial),rfl⟩
   ·rw[if_neg hd]
    have hd2:=eq_false_of_ne_true hd
    by_cases hx:decide (h2.next>=(h2.found.length:Int))=true
    ·rw[if_pos hx]
     refine GA mixed 107 [3,4,5] 8 2 (.f<|.f<|.t<|.h (.oc (.arr 4 0 h2.found.length) ⟨[some zHn,some zVr,some (cPl h2 m c),some (cV v),some (Aa (h2.found.map eV))],[]⟩)<|.h (.oc (.tup []) ⟨[some zHn,some zVr,some (cPl h2 m c),some (cV v),some (Aa ((sortV h2.found).map eV))],[]⟩)<|.h (.ct 13 (dVs (sortV h2.found)) ⟨[some zHn,some zVr,some (cPl h2 m c),some (cV v),none],[]⟩) .r) ?_
     refine via (by kernel_rfl:(((h2,v,e).snd.snd !=0)=false/\(h2,v,e).snd.fst.decided=false/\(True/\True/\True)/\decide (h2.next>=(length (map eV h2.found):Int))=true/\(∀(o:Oper) (c_1:Call) (fo:Operand),o.op=Op.call c_1->c_1.callee=Callee.value fo->Ai PP o [D.v (V.fn 30 [] []),dVs h2.found] (St.mk [some zHn,some zVr,some (cPl h2 m c),some [db (h2,v,e).snd.fst.decided,db (h2,v,e).snd.fst.yes,D.v (BS (h2,v,e).snd.fst.run),D.v (vIs (h2,v,e).snd.fst.coefs),di (h2,v,e).snd.fst.mod,D.v (vIs (h2,v,e).snd.fst.vals),D.v (vVs (h2,v,e).snd.fst.closed),di (h2,v,e).snd.fst.used]] []) (D.arr 4 0 h2.found.length) (St.mk [some zHn,some zVr,some (cPl h2 m c),some (cV v),some (Aa (map eV h2.found))] []))/\(∀(o:Oper) (c_1:Call) (fo:Operand),o.op=Op.call c_1->c_1.callee=Callee.value fo->Ai PP o [D.v (V.fn 31 [] []),D.arr 4 0 h2.found.length,D.v (V.fn 32 [] [])] (St.mk [some zHn,some zVr,some (cPl h2 m c),some (cV v),some (Aa (map eV h2.found))] []) (D.tup []) (St.mk [some zHn,some zVr,some (cPl h2 m c),some (cV v),some (Aa (map eV (sortV h2.found)))] []))/\(∀(e:List D),e[13]?=some (D.arr 4 0 h2.found.length)->∀(E:Ent) (g:Gh) (a:Act) (w:World),FI E g (St.mk [some zHn,some zVr,some (cPl h2 m c),some (cV v),some (Aa (map eV (sortV h2.found)))] []) e a w->∃g',FI E g' (St.mk [some zHn,some zVr,some (cPl h2 m c),some (cV v),none] []) (List.set e 13 (dVs (sortV h2.found))) a w)/\(True/\(Q (some [di h2.used])/\True)/\True)/\D.tup [D.v (V.agg [V.list (map eV h2.found),V.list (map vi h2.before),V.list (map vi h2.rules),vi h2.next,vi h2.cand,vi h2.used]),D.v (V.agg [V.bool true,V.bool false,V.list [],V.list [],vi 0,V.list [],V.list (map eV (sortV h2.found)),vi h2.used]),di 0]=ES (h2,DN (sortV h2.found) h2.used,0))=_) ?_
     refine⟨hf,hd2,⟨trivial,trivial,trivial⟩,by rw[length_map];exact hx,fun o cl fo ho hc2=>?_,fun o cl fo ho hc2=>?_,fun e he=>cv_flz (σ:=⟨[some zHn,some zVr,some (cPl h2 m c),some (cV v),some (Aa ((sortV h2.found).map eV))],[]⟩) (q:=4) (sz:=2) (by decide) (Dl _) (by rw[length_map,(AL _).length_eq]) rfl he,(by repeat' first|with_reducible refine And.intro ?_ ?_|rfl|trivial),rfl⟩
     ·exact CB (σ:=⟨[some zHn,some zVr,some (cPl h2 m c),some (cV v)],[]⟩) (fs:=[]) (cs:=[]) (ds:=[dVs h2.found]) ho hc2 rfl (As _) (allA_spec h2.found (by have:=hi2.ok.len;omega) (fun v hv=>by have:=hi2.ok.size v hv;omega))
     ·exact GE (dc:=[.arr 0 0 h2.found.length,dfn 32]) (σ:=⟨[some zHn,some zVr,some (cPl h2 m c),some (cV v),some (Aa (h2.found.map eV))],[]⟩) (q:=4) (fs:=[]) (cs:=[]) ho hc2 rfl (As _) (As _) (.arr (.pl rfl .nil)) rfl (EB h2.found (by have:=hi2.ok.len;omega) (fun v hv=>by have:=hi2.ok.size v hv;omega))
    ·rw[if_neg hx]
     refine GA mixed 107 [3,4,5] 8 2 (.f<|.f<|.f<|.c1 (cPl (X h2).1 m c) (BV (X h2).2) .r) ?_
     refine via (by kernel_rfl:(((h2,v,e).snd.snd !=0)=false/\(h2,v,e).snd.fst.decided=false/\(True/\True/\True)/\decide (h2.next>=(length (map eV h2.found):Int))=false/\Ab PP 33 [D.ptr 0 0] (St.mk [some (cPl h2 m c)] []) (BV (X h2).snd) (St.mk [some (cPl (X h2).fst m c)] [])/\(True/\(Q (some [db (X h2).snd.decided,db (X h2).snd.yes,D.v (BS (X h2).snd.run),D.v (vIs (X h2).snd.coefs),di (X h2).snd.mod,D.v (vIs (X h2).snd.vals),D.v (vVs (X h2).snd.closed),di (X h2).snd.used])/\True)/\True)/\D.tup [D.v (V.agg [V.list (map eV (X h2).fst.found),V.list (map vi (X h2).fst.before),V.list (map vi (X h2).fst.rules),vi (X h2).fst.next,vi (X h2).fst.cand,vi (X h2).fst.used]),D.v (V.agg [V.bool (X h2).snd.decided,V.bool (X h2).snd.yes,V.list (map vSt (X h2).snd.run),V.list (map vi (X h2).snd.coefs),vi (X h2).snd.mod,V.list (map vi (X h2).snd.vals),V.list (map eV (X h2).snd.closed),vi (X h2).snd.used]),di 0]=ES ((X h2).fst,(X h2).snd,0))=_) ?_
     exact⟨hf,hd2,⟨trivial,trivial,trivial⟩,by rw[length_map];exact eq_false_of_ne_true hx,hm.excl h2 (by omega),(by repeat' first|with_reducible refine And.intro ?_ ?_|rfl|trivial),rfl⟩
structure HgB(C:Val->Prop)(k:Nat)(h:Hnt):Prop where
 inv:HnG C h
 next:0<=h.next/\h.next<=k
 cand:0<=h.cand/\h.cand<=k
 used:0<=h.used/\h.used<=k
theorem HnG.use{C:Val->Prop}{h:Hnt}(hh:HnG C h):HnG C (Al h):=⟨⟨hh.ok.ne,hh.ok.len,hh.ok.size,hh.ok.bl,hh.ok.rl,hh.ok.back⟩,hh.cfg⟩
theorem stepG_ok{m:Mod}{t:Typ}{c:Val}{C:Val->Prop}{S:Val->List Stp×Int}{X:Hnt->Hnt×Vrd}(hm:Mdl m t c C S X){k:Nat}{h:Hnt}(hb:HgB C k h):HgB C (k+1) (F9 m S X c h).1:=by
 have hn:=hb.next
 have hc:=hb.cand
 have hu:=hb.used
 obtain⟨g1,g2,g3,g4,g5⟩:=findG_ok hm (Al h) hb.inv.use hn.1
 have e1:(Al h).next=h.next:=rfl
 have e2:(Al h).cand=h.cand:=rfl
 have e3:(Al h).used=h.used+1:=rfl
 have hF:HgB C (k+1) (AP S c (Al h)).1:=⟨g1,by omega,by omega,by omega⟩
 rw[F9]
 split
 ·exact⟨hb.inv.use,(by omega:0<=h.next/\h.next<=(k+1:Nat)),(by omega:0<=h.cand/\h.cand<=(k+1:Nat)),(by omega:0<=(Al h).used/\(Al h).used<=(k+1:Nat))⟩
 ·split
  ·exact⟨hb.inv,(by omega:0<=h.next/\h.next<=(k+1:Nat)),(by omega:0<=h.cand/\h.cand<=(k+1:Nat)),(by omega:0<=h.used/\h.used<=(k+1:Nat))⟩
  ·split
   ·exact hF
   ·split
    ·exact hF
    ·rcases hm.cand (AP S c (Al h)).1 with e|e
     ·dsimp only;rw[e];exact hF
     ·dsimp only;rw[e]
      exact⟨⟨⟨g1.ok.ne,g1.ok.len,g1.ok.size,g1.ok.bl,g1.ok.rl,g1.ok.back⟩,g1.cfg⟩,⟨hF.next.1,hF.next.2⟩,(by omega:0<=(AP S c (Al h)).1.cand+1/\(AP S c (Al h)).1.cand+1<=(k+1:Nat)),⟨hF.used.1,hF.used.2⟩⟩
def G1(m:Mod)(S:Val->List Stp×Int)(X:Hnt->Hnt×Vrd)(c:Val):Nat->Hnt->Vrd->Vrd×Int
 |0,_,v=>(v,0)
 |n+1,h,v=>if v.decided=true then(v,0) else if ((F9 m S X c h).2.2 !=0)=true then(An 0,(F9 m S X c h).2.2) else G1 m S X c n (F9 m S X c h).1 (F9 m S X c h).2.1
theorem hntG_ok{m:Mod}{t:Typ}{c:Val}{C:Val->Prop}{S:Val->List Stp×Int}{X:Hnt->Hnt×Vrd}(hm:Mdl m t c C S X):HgB C 0 (AX m) where
 inv:=⟨⟨by simp[AX],by simp[AX],fun v hv=>by rw[mem_singleton.1 hv];exact hm.size _ hm.start,rfl,rfl,fun i b hb=>by
  have h1:=(List.getElem?_eq_some_iff.1 hb).1
  simp[AX] at h1;subst h1
  simp[AX] at hb;omega⟩,fun v hv=>by rw[mem_singleton.1 hv];exact hm.start⟩
 next:=by simp[AX]
 cand:=by simp[AX]
 used:=by simp[AX]
theorem dcdG_loop{m:Mod}{t:Typ}{c:Val}{C:Val->Prop}{S:Val->List Stp×Int}{X:Hnt->Hnt×Vrd}(hm:Mdl m t c C S X)(N:Nat)(hN:N<=400)(n:Nat):∀(k:Nat) (h:Hnt) (v:Vrd),N-k=n->HgB C k h->
  Rn PP fDcd 0 (Di (G1 m S X c n h v)) σ0 ([.lp (sub cDcd [1,1,1,1,0,1,0,0]),.blk 0,.code (sub cDcd [1,1,1,1,1])]++[]) (mkE 45 [(2,di N),(3,.v (.ref (AE m))),(4,.v (.ref (Ad c))),(6,.ptr 0 0),(7,di 0),(8,.ptr 1 0),(10,.ptr 2 0),(11,di k)]) (stD h v):=by
 induction n with
 |zero=>
  intro k h v hn hb
  rw[G1]
  refine lv 45 [3,4] (.f .r) (decide ((k:Int)<(N:Int))=false/\D.tup [D.v (V.agg [V.bool v.decided,V.bool v.yes,V.list (map vSt v.run),V.list (map vi v.coefs),vi v.mod,V.list (map vi v.vals),V.list (map eV v.closed),vi v.used]),di 0]=Di (v,0)) ?_
  exact⟨decide_eq_false (by omega),rfl⟩
 |succ n ih=>
  intro k h v hn hb
  rw[G1]
  by_cases hd:v.decided=true
  ·rw[if_pos hd]
   refine lv 45 [3,4] (.t<|.f .r) (decide ((k:Int)<(N:Int))=true/\(!v.decided)=false/\D.tup [D.v (V.agg [V.bool v.decided,V.bool v.yes,V.list (map vSt v.run),V.list (map vi v.coefs),vi v.mod,V.list (map vi v.vals),V.list (map eV v.closed),vi v.used]),di 0]=Di (v,0)) ?_
   exact⟨decide_eq_true (by omega),by rw[hd];rfl,rfl⟩
  ·rw[if_neg hd]
   have hnd:(!v.decided)=true:=by simpa using hd
   have hst:=stepG_spec hm h hb.inv (by have:=hb.next;omega) (by have:=hb.cand;omega) (by have:=hb.used;omega)
   have hok:=stepG_ok hm hb
   generalize F9 m S X c h=p at*
   by_cases he:(p.2.2 !=0)=true
   ·rw[if_pos he]
    refine lv 45 [3,4] (.t<|.t<|.c (ES p)<|.t .r) (decide ((k:Int)<(N:Int))=true/\(!v.decided)=true/\F0 19 [Ah m,dV c,D.v (V.agg [vVs h.found,vIs h.before,vIs h.rules,vi h.next,vi h.cand,vi h.used])] (ES p)/\(p.snd.snd !=0)=true/\D.tup [D.v (V.agg [V.bool false,V.bool false,V.list [],V.list [],vi 0,V.list [],V.list [],vi 0]),di p.snd.snd]=Di (An 0,p.snd.snd)) ?_
    exact⟨decide_eq_true (by omega),hnd,hst,he,rfl⟩
   ·rw[if_neg he]
    refine lv 45 [3,4] (.t<|.t<|.c (ES p)<|.f<|.lo [ke 2,ke 3,ke 4,ke 6,ke 7,ke 8,ke 10,ch 11 (di (k+1:Nat))] (stD p.1 p.2.1)) (decide ((k:Int)<(N:Int))=true/\(!v.decided)=true/\F0 19 [Ah m,dV c,D.v (V.agg [vVs h.found,vIs h.before,vIs h.rules,vi h.next,vi h.cand,vi h.used])] (ES p)/\(p.snd.snd !=0)=false/\di (wrap i64 ((k:Int)+1))=di (↑(k+1):Int)/\okH 3 [] [some zVr,some [dVs p.fst.found,dIs p.fst.before,dIs p.fst.rules,di p.fst.next,di p.fst.cand,di p.fst.used],some [db p.snd.fst.decided,db p.snd.fst.yes,D.v (BS p.snd.fst.run),dIs p.snd.fst.coefs,di p.snd.fst.mod,dIs p.snd.fst.vals,dVs p.snd.fst.closed,di p.snd.fst.used]]=true/\[some zVr,some [dVs p.fst.found,dIs p.fst.before,dIs p.fst.rules,di p.fst.next,di p.fst.cand,di p.fst.used],some [db p.snd.fst.decided,db p.snd.fst.yes,D.v (BS p.snd.fst.run),dIs p.snd.fst.coefs,di p.snd.fst.mod,dIs p.snd.fst.vals,dVs p.snd.fst.closed,di p.snd.fst.used]]=[some zVr,some (cH p.fst),some (cV p.snd.fst)]/\I0 fDcd 0 (Di (G1 m S X c n p.fst p.snd.fst)) σ0 [kl cDcd [1,1,1,1,0,1,0,0],KI.blk 0,kc cDcd [1,1,1,1,1]] (mkE 45 [(2,di (N:Int)),(3,D.v (V.ref (AE m))),(4,D.v (V.ref (Ad c))),(6,D.ptr 0 0),(7,di 0),(8,D.ptr 1 0),(10,D.ptr 2 0),(11,di (↑(k+1):Int))]) (stD p.fst p.snd.fst)) ?_
    exact⟨decide_eq_true (by omega),hnd,hst,eq_false_of_ne_true he,by rw[Af (by omega)],rfl,rfl,⟨ih (k+1) p.1 p.2.1 (by omega) hok⟩⟩
theorem dcdG_spec{m:Mod}{t:Typ}{c:Val}{C:Val->Prop}{S:Val->List Stp×Int}{X:Hnt->Hnt×Vrd}(hm:Mdl m t c C S X)(N:Nat)(hN:N<=400):Ab PP 9 [Ah m,dV c,di N] σ0 (Di (G1 m S X c N (AX m) (An 0))) σ0:=by
 refine sv fDcd 45 [3,4] (.c (.tup [DE (AX m),di 0])<|.h (.q 5 0)<|.h (.cs (stD (AX m) (An 0)))<|.lo [ke 2,ke 3,ke 4,ke 6,ke 7,ke 8,ke 10,ch 11 (di (0:Nat))] (stD (AX m) (An 0))) (F0 18 [Ah m,dV c] (D.tup [DE (AX m),di 0])/\(∀(e:List D) (E:Ent) (g:Gh) (a:Act) (w:World),FI E g (St.mk [some [D.v (V.bool false),D.v (V.bool false),dn,dn,D.v (V.int i64 0),dn,dn,D.v (V.int i64 0)],some [D.v (vVs (AX m).found),D.v (vIs (AX m).before),D.v (vIs (AX m).rules),D.v (vi (AX m).next),D.v (vi (AX m).cand),D.v (vi (AX m).used)],some [D.v (V.bool false),D.v (V.bool false),dn,dn,D.v (V.int i64 0),dn,dn,D.v (V.int i64 0)]] []) e a w->∃g',FI E g' (stD (AX m) (An 0)) e a w)/\di 0=di (↑0:Int)/\okH 3 [] [some zVr,some (cH (AX m)),some (cV (An 0))]=true/\Q [some zVr,some (cH (AX m)),some (cV (An 0))]/\I0 fDcd σ0.H.length (Di (G1 m S X c N (AX m) (An 0))) σ0 [kl cDcd [1,1,1,1,0,1,0,0],KI.blk 0,kc cDcd [1,1,1,1,1]] (mkE 45 [(2,di (N:Int)),(3,D.v (V.ref (AE m))),(4,D.v (V.ref (Ad c))),(6,D.ptr 0 0),(7,di 0),(8,D.ptr 1 0),(10,D.ptr 2 0),(11,di (↑0:Int))]) (stD (AX m) (An 0))) ?_
 exact⟨rstartG_spec hm.int (hm.size _ hm.start) c hm.valid hm.tsize,fun e=>(cv_zero (H:=[some zVr,some (cH (AX m)),some zVr]) (q:=2) rfl e),rfl,rfl,rfl,⟨dcdG_loop hm N hN N 0 (AX m) (An 0) rfl (hntG_ok hm)⟩⟩
noncomputable abbrev fEqFs:Func:= Tryz.f34
noncomputable def cEqFs:Code:=fEqFs.body.getD .skip
theorem eqfs_loop(F:FuncId)(l:List Stp)(hl:l.length<=1000000)(hp:∀x∈l,Ab PP F [.v (vSt x),.v (vSt x)] σ0 (db true) σ0)(n:Nat):∀k:Nat,l.length-k=n->
  Rn PP fEqFs 0 (db true) σ0 ([.lp (sub cEqFs [1,1,0,1,0,0]),.blk 0,.code (sub cEqFs [1,1,1])]++[]) (mkE 32 [(0,dl (l.map vSt)),(1,dl (l.map vSt)),(2,dfn F),(15,dl (l.map vSt)),(16,di l.length),(17,di k)]) σ0:=by
 induction n with
 |zero=>
  intro k hn
  refine lv 32 [] (.f .r) (decide ((k:Int)<(l.length:Int))=false/\Q (db true)) ?_
  exact⟨decide_eq_false (by omega),rfl⟩
 |succ n ih=>
  intro k hn
  obtain⟨x,hx⟩:∃x,l[k]?=some x:=⟨_,getElem?_eq_getElem (show k<l.length by omega)⟩
  refine lv 32 [] (.t<|.x (vSt x)<|.x (vSt x)<|.c (db true)<|.f<|.ls [ke 0,ke 1,ke 2,ke 15,ke 16,ch 17 (di (k+1:Nat))] σ0) (decide ((k:Int)<(l.length:Int))=true/\0<=(k:Int)/\(map vSt l)[Int.toNat (k:Int)]?=some (vSt x)/\0<=(k:Int)/\(map vSt l)[Int.toNat (k:Int)]?=some (vSt x)/\F0 F [D.v (V.agg [vi x.fst,vi x.snd.n,vVs x.snd.kids]),D.v (V.agg [vi x.fst,vi x.snd.n,vVs x.snd.kids])] (db true)/\(!true)=false/\di (wrap i64 ((k:Int)+1))=di (↑(k+1):Int)/\I0 fEqFs 0 (db true) σ0 [kl cEqFs [1,1,0,1,0,0],KI.blk 0,kc cEqFs [1,1,1]] (mkE 32 [(0,D.v (V.list (map vSt l))),(1,D.v (V.list (map vSt l))),(2,D.v (V.fn F [] [])),(15,D.v (V.list (map vSt l))),(16,di (l.length:Int)),(17,di (↑(k+1):Int))]) σ0) ?_
  exact⟨decide_eq_true (by omega),by omega,Ao hx,by omega,Ao hx,hp x (mem_of_getElem? hx),rfl,Af (by omega),⟨ih (k+1) (by omega)⟩⟩
theorem eqfs_spec(F:FuncId)(l:List Stp)(hl:l.length<=1000000)(hp:∀x∈l,Ab PP F [.v (vSt x),.v (vSt x)] σ0 (db true) σ0):Ab PP 34 [dl (l.map vSt),dl (l.map vSt),dfn F] σ0 (db true) σ0:=by
 refine sv fEqFs 32 [] (.f<|.ls [ke 0,ke 1,ke 2,ke 15,ch 16 (di l.length),ch 17 (di (0:Nat))] σ0) (((length (map vSt l):Int) !=(length (map vSt l):Int))=false/\di (length (map vSt l):Int)=di (l.length:Int)/\di 0=di (↑0:Int)/\I0 fEqFs σ0.H.length (db true) σ0 [kl cEqFs [1,1,0,1,0,0],KI.blk 0,kc cEqFs [1,1,1]] (mkE 32 [(0,dl (map vSt l)),(1,dl (map vSt l)),(2,dfn F),(15,dl (map vSt l)),(16,di (l.length:Int)),(17,di (↑0:Int))]) σ0) ?_
 exact⟨by simp,by rw[length_map],rfl,⟨eqfs_loop F l hl hp _ 0 rfl⟩⟩
noncomputable abbrev fEqFv:Func:= Tryz.f37
noncomputable def cEqFv:Code:=fEqFv.body.getD .skip
theorem eqfv_loop(F:FuncId)(l:List Val)(hl:l.length<=1000000)(hp:∀x∈l,Ab PP F [.v (Ad x),.v (Ad x)] σ0 (db true) σ0)(n:Nat):∀k:Nat,l.length-k=n->
  Rn PP fEqFv 0 (db true) σ0 ([.lp (sub cEqFv [1,1,0,1,0,0]),.blk 0,.code (sub cEqFv [1,1,1])]++[]) (mkE 32 [(0,dl (l.map Ad)),(1,dl (l.map Ad)),(2,dfn F),(15,dl (l.map Ad)),(16,di l.length),(17,di k)]) σ0:=by
 induction n with
 |zero=>
  intro k hn
  refine lv 32 [] (.f .r) (decide ((k:Int)<(l.length:Int))=false/\Q (db true)) ?_
  exact⟨decide_eq_false (by omega),rfl⟩
 |succ n ih=>
  intro k hn
  obtain⟨x,hx⟩:∃x,l[k]?=some x:=⟨_,getElem?_eq_getElem (show k<l.length by omega)⟩
  refine lv 32 [] (.t<|.x (Ad x)<|.x (Ad x)<|.c (db true)<|.f<|.ls [ke 0,ke 1,ke 2,ke 15,ke 16,ch 17 (di (k+1:Nat))] σ0) (decide ((k:Int)<(l.length:Int))=true/\0<=(k:Int)/\(map Ad l)[Int.toNat (k:Int)]?=some (Ad x)/\0<=(k:Int)/\(map Ad l)[Int.toNat (k:Int)]?=some (Ad x)/\F0 F [dV x,dV x] (db true)/\(!true)=false/\di (wrap i64 ((k:Int)+1))=di (↑(k+1):Int)/\I0 fEqFv 0 (db true) σ0 [kl cEqFv [1,1,0,1,0,0],KI.blk 0,kc cEqFv [1,1,1]] (mkE 32 [(0,D.v (V.list (map Ad l))),(1,D.v (V.list (map Ad l))),(2,D.v (V.fn F [] [])),(15,D.v (V.list (map Ad l))),(16,di (l.length:Int)),(17,di (↑(k+1):Int))]) σ0) ?_
  exact⟨decide_eq_true (by omega),by omega,Ao hx,by omega,Ao hx,hp x (mem_of_getElem? hx),rfl,Af (by omega),⟨ih (k+1) (by omega)⟩⟩
theorem eqfv_spec(F:FuncId)(l:List Val)(hl:l.length<=1000000)(hp:∀x∈l,Ab PP F [.v (Ad x),.v (Ad x)] σ0 (db true) σ0):Ab PP 37 [dl (l.map Ad),dl (l.map Ad),dfn F] σ0 (db true) σ0:=by
 refine sv fEqFv 32 [] (.f<|.ls [ke 0,ke 1,ke 2,ke 15,ch 16 (di l.length),ch 17 (di (0:Nat))] σ0) (((length (map Ad l):Int) !=(length (map Ad l):Int))=false/\di (length (map Ad l):Int)=di (l.length:Int)/\di 0=di (↑0:Int)/\I0 fEqFv σ0.H.length (db true) σ0 [kl cEqFv [1,1,0,1,0,0],KI.blk 0,kc cEqFv [1,1,1]] (mkE 32 [(0,dl (map Ad l)),(1,dl (map Ad l)),(2,dfn F),(15,dl (map Ad l)),(16,di (l.length:Int)),(17,di (↑0:Int))]) σ0) ?_
 exact⟨by simp,by rw[length_map],rfl,⟨eqfv_loop F l hl hp _ 0 rfl⟩⟩
theorem same_refl(v:Val)(h:v.size<=1000000):Ab PP 27 [dV v,dV v] σ0 (db true) σ0:=by
 have:=EA v v h
 rw[B4.refl v trivial] at this
 exact this
noncomputable abbrev fSSt1:Func:= Tryz.f35
theorem sst1_spec(s:Stp)(h:s.2.size<=1000000):Ab PP 35 [.v (vSt s),.v (vSt s)] σ0 (db true) σ0:=by
 refine sv fSSt1 17 [2,3] (.t<|.c (db true) .r) ((s.fst==s.fst)=true/\F0 27 [dV s.snd,dV s.snd] (db true)/\Q (db true)) ?_
 exact⟨by simp,same_refl s.2 h,rfl⟩
noncomputable abbrev fSSts:Func:= Tryz.f20
theorem ssts_spec(l:List Stp)(hl:l.length<=1000000)(hs:∀s∈l,s.2.size<=1000000):Ab PP 20 [.v (BS l),.v (BS l)] σ0 (db true) σ0:=by
 refine sv fSSts 8 [] (.c (db true) .r) (F0 34 [D.v (BS l),D.v (BS l),D.v (V.fn 35 [] [])] (db true)/\Q (db true)) ?_
 exact⟨eqfs_spec _ l hl fun s h=>sst1_spec s (hs s h),rfl⟩
noncomputable abbrev fSAv:Func:= Tryz.f22
theorem sav_spec(l:List Val)(hl:l.length<=1000000)(hs:∀s∈l,s.size<=1000000):Ab PP 22 [dVs l,dVs l] σ0 (db true) σ0:=by
 refine sv fSAv 8 [] (.c (db true) .r) (F0 37 [dVs l,dVs l,D.v (V.fn 27 [] [])] (db true)/\Q (db true)) ?_
 have e:l.map eV=l.map Ad:=List.map_congr_left fun v _=>AN v
 have h:=eqfv_spec 27 l hl fun s h=>same_refl s (hs s h)
 rw[←e] at h
 exact⟨h,rfl⟩
noncomputable abbrev fISm:Func:= Tryz.f21
theorem ism_spec(cs vs:List Int)(md:Int)(h1:cs.length<=1000000)(h2:vs.length<=1000000):Ab PP 21 [.v (.agg [vIs cs,vi md,vIs vs]),.v (.agg [vIs cs,vi md,vIs vs])] σ0 (db true) σ0:=by
 refine sv fISm 24 [2,3] (.t<|.c (db true)<|.k<|.c (db true) .r) ((md==md)=true/\F0 36 [dIs cs,dIs cs] (db true)/\F0 36 [dIs vs,dIs vs] (db true)/\Q (db true)) ?_
 have e1:=C7 cs cs h1
 have e2:=C7 vs vs h2
 rw[decide_eq_true rfl] at e1 e2
 exact⟨by simp,e1,e2,rfl⟩
noncomputable abbrev fRSm:Func:= Tryz.f10
theorem rsm_spec(v:Vrd)(h:DG v):Ab PP 10 [BV v,BV v] σ0 (db true) σ0:=by
 refine sv fRSm 45 [2,3] (.t<|.t<|.t<|.c (db true)<|.k<|.c (db true)<|.k<|.c (db true) .r) ((v.decided==v.decided)=true/\(v.yes==v.yes)=true/\(v.used==v.used)=true/\F0 20 [D.v (BS v.run),D.v (BS v.run)] (db true)/\F0 21 [D.v (V.agg [vIs v.coefs,vi v.mod,vIs v.vals]),D.v (V.agg [vIs v.coefs,vi v.mod,vIs v.vals])] (db true)/\F0 22 [dVs v.closed,dVs v.closed] (db true)/\Q (db true)) ?_
 have h1:=h.run
 have h2:=h.coefs
 have h3:=h.vals
 have h4:=h.closed
 exact⟨by simp,by simp,by simp,ssts_spec v.run (by omega) (fun s hs=>by have:=h1.2 s hs;omega),ism_spec v.coefs v.vals v.mod (by omega) (by omega),sav_spec v.closed (by omega) (fun s hs=>by have:=h4.2 s hs;omega),rfl⟩
theorem decG_more(m:Mod)(S:Val->List Stp×Int)(X:Hnt->Hnt×Vrd)(c:Val)(k:Nat):∀(n:Nat) (h:Hnt) (v:Vrd),(G1 m S X c n h v).2=0->(G1 m S X c n h v).1.decided=true->G1 m S X c (n+k) h v=G1 m S X c n h v
 |0,h,v,_,hd=>by
  have hd:v.decided=true:=hd
  cases k with
  |zero=>rfl
  |succ k=>
   rw[Nat.zero_add]
   simp only[G1]
   rw[if_pos hd]
 |n+1,h,v,he,hd=>by
  rw[show n+1+k=(n+k)+1 by omega]
  rw[G1] at he hd⊢
  rw[G1]
  by_cases h1:v.decided=true
  ·rw[if_pos h1,if_pos h1]
  ·rw[if_neg h1] at he hd⊢
   rw[if_neg h1]
   by_cases h2:((F9 m S X c h).2.2 !=0)=true
   ·rw[if_pos h2] at he
    have h2':(F9 m S X c h).2.2≠0:=by simpa using h2
    exact absurd he h2'
   ·rw[if_neg h2] at he hd⊢
    rw[if_neg h2]
    exact decG_more m S X c k n _ _ he hd
theorem DG.open(u:Int):DG (An u):=⟨⟨by simp[An],by simp[An]⟩,by simp[An],by simp[An],⟨by simp[An],by simp[An]⟩⟩
theorem DG.yes{l:List Stp}(h1:l.length<=1000)(h2:∀s∈l,s.2.size<=1000)(u:Int):DG (Cz l u):=⟨⟨h1,h2⟩,by simp[Cz],by simp[Cz],⟨by simp[Cz],by simp[Cz]⟩⟩
theorem swapL_mem{α:Type}{l:List α}{i j:Nat}{x:α}(h:x∈swapL l i j):x∈l:=by
 unfold swapL at h
 split at h
 ·rename_i a b h1 h2
  rcases mem_or_eq_of_mem_set h with h|h
  ·rcases mem_or_eq_of_mem_set h with h|h
   ·exact h
   ·rw[h];exact mem_of_getElem? h2
  ·rw[h];exact mem_of_getElem? h1
 ·exact h
theorem revS_mem{α:Type}{x:α}:∀(n i:Nat) (l:List α),x∈Du n i l->x∈l
 |0,_,_,h=>h
 |n+1,i,l,h=>by
  rw[Du] at h
  split at h
  ·exact swapL_mem (revS_mem n _ _ h)
  ·exact h
theorem wayL_b{h:Hnt}(hs:∀v∈h.found,v.size<=1000):∀(f:Nat) (n:Int),∀s∈D2 h f n,s.2.size<=1000
 |0,_,s,hm=>by simp[D2] at hm
 |f+1,n,s,hm=>by
  rw[D2] at hm
  split at hm
  ·rcases mem_cons.1 hm with rfl|hm
   ·show(h.found.getD n.toNat default).size<=1000
    rw[getD_eq_getElem?_getD]
    cases hx:h.found[n.toNat]? with
    |none=>decide
    |some v=>exact hs v (mem_of_getElem? hx)
   ·exact wayL_b hs f _ s hm
  ·simp at hm
theorem wayM_b{h:Hnt}(hs:∀v∈h.found,v.size<=1000)(n:Int)(u:Int):DG (Cz (wayM h n) u):=by
 refine DG.yes ?_ (fun s hm=>wayL_b hs _ _ s (revS_mem _ _ _ hm)) u
 show(Du _ 0 (D2 h 200 n)).length<=1000
 rw[revS_len]
 have:=wayL_len h 200 n
 omega
theorem findL_b(c:Val)(at':Int):∀(l:List Stp) (h:Hnt),(∀v∈h.found,v.size<=1000)->(∀s∈l,s.2.size<=1000)->DG (BL c at' h l).2.1
 |[],h,_,_=>DG.open _
 |s::l,h,hh,hl=>by
  have hl':∀s∈l,s.2.size<=1000:=fun s h=>hl s (by simp[h])
  have ha:∀v∈ (C0 h at' s).found,v.size<=1000:=fun v hv=>by
   rcases mem_append.1 hv with hv|hv
   ·exact hh v hv
   ·rw[mem_singleton.1 hv];exact hl s (by simp)
  rw[BL]
  split
  ·exact findL_b c at' l h hh hl'
  ·split
   ·exact DG.open _
   ·split
    ·exact findL_b c at' l _ ha hl'
    ·split
     ·exact DG.open _
     ·exact wayM_b ha _ _
section
variable {m : Mod} {t : Typ} {c : Val} {C : Val -> Prop} {S : Val -> List Stp × Int} {X : Hnt -> Hnt × Vrd}
theorem findG_b(hm:Mdl m t c C S X)(h:Hnt)(hh:HnG C h)(hn:0<=h.next):DG (AP S c h).2.1:=by
 rw[AP]
 split
 ·exact DG.open _
 ·rename_i h1
  have h1:¬h.next>=(h.found.length:Int):=by simpa using h1
  split
  ·exact DG.open _
  ·obtain⟨v,hv⟩:∃v,h.found[h.next.toNat]?=some v:=⟨_,getElem?_eq_getElem (show h.next.toNat<h.found.length by omega)⟩
   have hst:=hm.next v (hh.cfg v (mem_of_getElem? hv))
   rw[show h.found.getD h.next.toNat default=v by rw[getD_eq_getElem?_getD,hv];rfl]
   exact findL_b c _ _ _ hh.ok.size (fun s hs=>hm.size _ (hst s hs))
theorem stepG_b(hm:Mdl m t c C S X){k:Nat}{h:Hnt}(hb:HgB C k h):DG (F9 m S X c h).2.1:=by
 obtain⟨g1,g2,g3,g4,g5⟩:=findG_ok hm (Al h) hb.inv.use hb.next.1
 rw[F9]
 split
 ·exact DG.yes (by simp) (by simp) _
 ·split
  ·exact DG.open _
  ·split
   ·exact findG_b hm (Al h) hb.inv.use hb.next.1
   ·split
    ·refine⟨⟨by simp[DN],by simp[DN]⟩,by simp[DN],by simp[DN],?_,?_⟩
     ·show(sortV _).length<=1000
      rw[(AL _).length_eq]
      have:=g1.ok.len;omega
     ·intro x hx
      exact g1.ok.size x ((AL _).mem_iff.1 hx)
    ·exact hm.told _ (by rw[g2];exact hb.cand.1)
theorem decG_b(hm:Mdl m t c C S X):∀(n k:Nat) (h:Hnt) (v:Vrd),HgB C k h->DG v->DG (G1 m S X c n h v).1
 |0,_,_,_,_,hv=>hv
 |n+1,k,h,v,hb,hv=>by
  rw[G1]
  split
  ·exact hv
  ·split
   ·exact DG.open _
   ·exact decG_b hm n (k+1) _ _ (stepG_ok hm hb) (stepG_b hm hb)
end
end Go.Proofs.YtcjhkglbdahfgaaGreat
