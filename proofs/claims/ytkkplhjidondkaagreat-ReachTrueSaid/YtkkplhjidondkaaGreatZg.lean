/-
  A part of the proof.
-/
import Derived.Test.YtkkplhjidondkaaGreatZf
import Derived.Test.YtkkplhjidondkaaGreatZd
namespace Go.Proofs.YtkkplhjidondkaaGreat
open Go.Dv Go.Nv
set_option maxRecDepth 20000
open List (all_cons length_set map map_drop map_set map_take nil_append range_succ replicate take take_add_one take_length)
open Go.IntKind (u64)
open Go.IntKind renaming wrap → yu, i64 → yt
open List renaming length → I, map → U, drop → W
open Option renaming some → G
open Bool renaming true → J, false → O
open Decidable renaming decide → Y
open Int renaming toNat → Z
open Go.Dv.V renaming list → ai, str → ae, agg → ab, int → aa, ref → bz, fn → bw, nils → bv, bool → bu
open Go.Dv.D renaming v → bt, acc → br, ptr → bq, arr → bo, gro → bm, tup → bk, undef → bj, dagg → bi
open Go.Dv.St renaming mk → bh
open Go.Dv.KI renaming blk → bf
open _root_.ByteArray renaming mk → bc
open Go renaming Operand → x8, Program → x7, TypeId → x6, World → x5, Value → yz, Oper → yy, FuncId → yx, Func → yw, IntKind → yv
abbrev sy:x6:=205
theorem Als:PP.underlying sy=G (.array 2 3):=by kernel_rfl
theorem AiF:(PP.info? 3).isSome=J:=by kernel_rfl
theorem AeU:PP.cellsOf 3=1:=by kernel_rfl
theorem UX:PP.plainKey 3=J:=by kernel_rfl
theorem Alr:PP.underlying 3=G (.int .i64):=by kernel_rfl
theorem AeT:PP.eqGuardType PP.depth sy=O:=by kernel_rfl
theorem AeB(d:Nat)(a b x y:Int)(w:x5):
  (Op.equalIn (d+2) sy (.agg #[.int .i64 a,.int .i64 b]) (.agg #[.int .i64 x,.int .i64 y])).run PP w=.ok (a==x&&b==y) w:=by
 obtain⟨i,hi⟩:=Option.isSome_iff_exists.1 AiF
 rw[run_equalIn_array w (d+1) _ _ Als hi,AeU,show List.range 2=[0,1] from rfl]
 have e1:∀(x y:Int) w,(part 3 #[.int .i64 x,.int .i64 y] (0*1)).run PP w=.ok (.int .i64 x) w:=fun x y w=>run_part_plain w UX rfl
 have e2:∀(x y:Int) w,(part 3 #[.int .i64 x,.int .i64 y] (1*1)).run PP w=.ok (.int .i64 y) w:=fun x y w=>run_part_plain w UX rfl
 have e3:=fun(a x:Int) w=>run_equalIn_int (P:=PP) w d 3 .i64 .i64 a x Alr
 simp only[Op.eqItems,Sem.run_bind,e1,e3,Result.andThen_ok]
 cases h1:(a==x)<;>cases h2:(b==y)<;>simp_all
theorem GU{o:yy}{σ:St}{ty:x6}{p q:x8}(ho:o.op=.binOp .neq sy p q ty)(a b x y:Int):Ah PP o [.v (co (a,b)),.v (co (x,y))] σ (db (!(a==x&&b==y))) σ:=by
 refine A5 fun E g ρ w hw hds=>?_
 simp only[ho,Op.operands,Au] at hds
 obtain⟨u,v,e,h1,h2'⟩:=hds
 simp only[Ik,IF,HV,Ix] at e
 obtain⟨e1,e2⟩:=e
 simp only[Ag,CY] at h1 h2'
 obtain⟨ws,h1,rfl⟩:=h1
 obtain⟨vs,h3,rfl⟩:=h2'
 have hw1:ws=[.int .i64 a,.int .i64 b]:=by
  grind[repA,repC]
 have hw2:vs=[.int .i64 x,.int .i64 y]:=by
  grind[repA,repC]
 subst hw1 hw2
 refine⟨.bool (!(a==x&&b==y)),?_,by simp[Ag]⟩
 have hr:=AeB 9998 a b x y w
 simp[execOp,ho,e1,e2,run_eqGuard_agg w .neq sy p q _ _ AeT,run_neq_struct,hr]
abbrev jf(b:Bool):St:=⟨[G [.v .nils],G [db b]],[]⟩
abbrev Cw(m:cz)(r:cf)(ms:List (Int×Int)):D:=.dfn 228 [] (DP m r ms)
noncomputable abbrev CB:=Tryz.f226
noncomputable def DR:=yl CB
theorem Apg(m:cz)(t:cr)(hm:Sf m t)(r:cf)(ms l:List (Int×Int))(hl:I l<=50)(hms:I ms<=50)(b:Bool):Aa PP 226 [A3 l,.v (AD []),Cw m r ms] (jf b) (.tup []) (CQ (b&&Ai t (Ek r.to (l++ms))) [Ek r.to (l++ms)]):=by
 have h2:=AoZ m t hm r ms l hl hms b
 generalize Ai t (Ek r.to (l++ms))=ok at h2⊢
 generalize Ek r.to (l++ms)=v at h2⊢
 refine sv CB 71 [] (.t<|.h (.oc (.tup []) (CQ (b&&ok) [v])) .ro) (((I (U dj []):Int)==0)=J/\(N0 [Cw m r ms,A3 l] (jf b) (bk []) (CQ (b&&ok) [v]))/\cm 3 [] [G [bm 2 1 2],G [db (b&&ok)],G (Ab [eV v])]=J/\Q [G [bm 2 1 2],G [db (b&&ok)],G (Ab (eV v::nV))]/\Q (bk [])) ⟨rfl,fun o cl fo ho hc=>?_,by grind[cm,D.okNs,D.okN,Aj],rfl,rfl⟩
 exact Dt (H:=[[.v .nils],[db b]]) ho hc (fs:=[]) (cs:=DP m r ms) (ds:=[A3 l]) rfl h2 rfl (fun cs hm=>by
  simp at hm;rcases hm with rfl|rfl<;>exact⟨rfl,rfl⟩) rfl (by simp[cm,D.okNs,D.okN,Aj]) (by grind)
theorem Apf(m:cz)(t:cr)(hm:Sf m t)(r:cf)(ms l:List (Int×Int))(hl:I l<=50)(hms:I ms<=50)(xs:List b9)(hx:I xs<=100000)(b:Bool):Aa PP 226 [A3 l,.v (AD []),Cw m r ms] (CQ b xs) (.tup []) (FX (b&&Ai t (Ek r.to (l++ms))) (xs++[Ek r.to (l++ms)])):=by
 have h2:=AoY m t hm r ms l hl hms xs hx b
 generalize Ai t (Ek r.to (l++ms))=ok at h2⊢
 generalize Ek r.to (l++ms)=v at h2⊢
 refine sv CB 71 [] (.t<|.h (.oc (.tup []) (FX (b&&ok) (xs++[v]))) .ro) (((I (U dj []):Int)==0)=J/\(N0 [Cw m r ms,A3 l] (CQ b xs) (bk []) (FX (b&&ok) (xs++[v])))/\cm 4 [] [G [bm 3 (I (xs++[v])) 2],G [db (b&&ok)],none,G (Ab (U eV (xs++[v])))]=J/\Q [G [bm 3 (I (xs++[v])) 2],G [db (b&&ok)],none,G (Ab (U eV (xs++[v])))]/\Q (bk [])) ⟨rfl,fun o cl fo ho hc=>?_,by simp[cm,D.okNs,D.okN,Aj],rfl,rfl⟩
 exact Dt (H:=[[.gro 2 (I xs) 2],[db b],Ab (xs.map eV)]) ho hc (fs:=[]) (cs:=DP m r ms) (ds:=[A3 l]) rfl h2 rfl (fun cs hm=>by
  simp at hm;rcases hm with rfl|rfl|rfl
  ·exact⟨rfl,rfl⟩
  ·exact⟨rfl,rfl⟩
  grind[Aj,CU]) rfl (by simp[cm,D.okNs,D.okN,Aj]) (by grind)
abbrev o9(b:Bool):St:=⟨[G [.v .nils],G [db b],none],[]⟩
def xq(b:Bool):List b9->St
 |[]=>jf b
 |x::xs=>CQ b (x::xs)
def ui(b:Bool):List b9->List b9->St
 |xs,[]=>xq b xs
 |[],y::ys=>CQ b (y::ys)
 |x::xs,y::ys=>FX b (x::xs++y::ys)
theorem Q0{b:Bool}{xs:List b9}(h:xs≠ []):xq b xs=CQ b xs:=by
 cases xs with
 |nil=>grind
 |cons x xs=>rfl
theorem ZJ{b:Bool}{xs:List b9}:ui b xs []=xq b xs:=by rfl
theorem Ael{b:Bool}{ys:List b9}(h:ys≠ []):ui b [] ys=CQ b ys:=by
 cases ys with
 |nil=>grind
 |cons y ys=>rfl
theorem Aiy{b:Bool}{xs ys:List b9}(h:xs≠ [])(h2:ys≠ []):ui b xs ys=FX b (xs++ys):=by
 cases xs with
 |nil=>grind
 |cons x xs=>cases ys with
  |nil=>grind
  |cons y ys=>rfl
theorem BP{l:List (Int×Int)}{k:Nat}{x:Int×Int}(h:l[k]?=G x):(l.map co)[Z (k:Int)]?=G (co x):=by grind
def Ht(tk:Tk)(l:List (Int×Int))(k:Nat):Bool:=match l[k]? with
 |some x=>(x.1==tk.place)&&(decide (x.2>=tk.low)&&(decide (x.2<=tk.high)&&(((k:Int)==0)||(match l[k-1]? with
  |some y=> !(y.1==x.1&&y.2==x.2)
  |none=>true))))
 |none=>false
theorem D0(tk:Tk){l:List (Int×Int)}{k:Nat}{x:Int×Int}(h:l[k]?=G x):Ht tk l k=((x.1==tk.place)&&(decide (x.2>=tk.low)&&(decide (x.2<=tk.high)&&(((k:Int)==0)||(match l[k-1]? with
  |some y=> !(y.1==x.1&&y.2==x.2)
  |none=>true))))):=by
 grind[Ht]
theorem GD(l:List (Int×Int))(hl:I l<=50)(k:Nat)(hk:k<I l):F0 230 [bt (ai [ai (W 0 (take (Z (k:Int)) (l.map co))),ai (W (Z ((k+1:Nat):Int)) (take (I (l.map co)) (l.map co)))])] (A3 (l.take k++l.drop (k+1))):=by
 have h:=Nn [l.take k,l.drop (k+1)] (by simp) (by simp;omega)
 grind[map_take,map_drop]
theorem AI{n:Nat}{qs:List Nat}:∀{dcs ds:List D},D.okNs (I qs) [] dcs=J->ds=D.rens (d8 n qs) id dcs->E2 n qs ds dcs
 |[],ds,_,e=>by
  subst e;exact .nil
 |d::dcs,ds,h,e=>by
  subst e
  simp only[D.okNs,HJ] at h
  exact .cons (.ren h.1) (AI h.2 rfl)
theorem G1{tk:Tk}{ts:List Tk}{L:List V}(h:L=(tk::ts).map dj):ai (W (Z 1) (take (I L) L))=AD ts:=by
 grind
theorem G2{tk:Tk}{ts:List Tk}{L:List V}(h:L=(tk::ts).map dj):∀y∈L,y.size=3:=by grind[V.size]
theorem FA{tk:Tk}{ts:List Tk}{L:List V}(h:L=(tk::ts).map dj):(1:Int)<=((I L:Nat):Int):=by
 grind
theorem AlB{M:Nat}(hM:M<=3){R:List D->St->Prop}{ks:List KI}{e e':List D}(x:Int×Int)(ws:List b9)(b:Bool)(he:D.okNs 4 [] e'=J)(hee:e=D.rens (fun i=>if i<3 then i else i+1) id e')
  (h:A2 (CN M) PP R ks e' (FX b ws)):A2 (CN M) PP R ks e ⟨[G [.gro 4 (I ws) 2],G [db b],none,G [di x.1,di x.2],G (Ab (ws.map eV))],[]⟩:=by
 refine C0 (σ:=⟨[G [.gro 4 (I ws) 2],G [db b],none,G [di x.1,di x.2],G (Ab (ws.map eV))],[]⟩) (e':=e') (H':=(FX b ws).H) (m:=M) (fun _ _ h=>h.2) (fun i=>if i<3 then i else i+1) (show M<=4 by omega) (fun i hi=>Ie (by omega)) (fun i j _ _ h=>?_) (fun i cs hi=>?_) he hee h
 ·grind
 ·match i,hi with
  |0,hi=>have hi:=Ij (Ij (hi:G (G _)=G (G cs)));subst hi;exact⟨rfl,rfl⟩
  |1,hi=>have hi:=Ij (Ij (hi:G (G _)=G (G cs)));subst hi;exact⟨rfl,rfl⟩
  |2,hi=>grind
  |3,hi=>grind[A6,Ay,Aj]
  |i+4,hi=>grind
theorem AlA{M:Nat}(hM:M<=3){R:List D->St->Prop}{ks:List KI}{e e':List D}(x:Int×Int)(ws:List b9)(b:Bool)(he:D.okNs 4 [] e'=J)(hee:e=D.rens (fun i=>if i<3 then i else i+2) id e')
  (h:A2 (CN M) PP R ks e' (FX b ws)):A2 (CN M) PP R ks e ⟨[G [.gro 5 (I ws) 2],G [db b],none,none,G [di x.1,di x.2],G (Ab (ws.map eV))],[]⟩:=by
 refine C0 (σ:=⟨[G [.gro 5 (I ws) 2],G [db b],none,none,G [di x.1,di x.2],G (Ab (ws.map eV))],[]⟩) (e':=e') (H':=(FX b ws).H) (m:=M) (fun _ _ h=>h.2) (fun i=>if i<3 then i else i+2) (show M<=4 by omega) (fun i hi=>Ie (by omega)) (fun i j _ _ h=>?_) (fun i cs hi=>?_) he hee h
 ·grind
 ·match i,hi with
  |0,hi=>have hi:=Ij (Ij (hi:G (G _)=G (G cs)));subst hi;exact⟨rfl,rfl⟩
  |1,hi=>have hi:=Ij (Ij (hi:G (G _)=G (G cs)));subst hi;exact⟨rfl,rfl⟩
  |2,hi=>grind
  |3,hi=>grind[A6,Ay,Aj]
  |i+4,hi=>grind
theorem Aoh(m:cz)(r:cf)(ms l:List (Int×Int))(ts:List Tk)(x:Int×Int)(ys:List b9)(b b2:Bool){o:yy}{c:Call}{fo:x8}(ho:o.op=.call c)(hc:c.callee=.value fo)
  (h:Aa PP 226 [A3 l,.v (AD ts),Cw m r ms] (jf b) (.tup []) (CQ b2 ys)):
  Ah PP o [.v (.fn 226 [] []),A3 l,.v (AD ts),Cw m r ms] ⟨[G [.v .nils],G [db b],none,G [di x.1,di x.2]],[]⟩ (.tup []) ⟨[G [.gro 4 (I ys) 2],G [db b2],none,G [di x.1,di x.2],G (Ab ((ys).map eV))],[]⟩:=by
 have h2:=B3 (σ:=⟨[G [.v .nils],G [db b],none,G [di x.1,di x.2]],[]⟩) ho hc (fD:=.v (.fn 226 [] [])) (fs:=[]) (cs:=[]) (ds:=[A3 l,.v (AD ts),Cw m r ms]) rfl [0,1] id h
  (AI rfl rfl) (.cons rfl (AI rfl rfl) rfl (.cons rfl (AI rfl rfl) rfl .nil)) (by decide) rfl (by simp) (by simp) rfl (by simp[cm,D.okNs,D.okN,Aj])
 have e:Da (d8 4 [0,1]) id (CQ b2 ys).H=[G [.gro 4 (I ys) 2],G [db b2],G (Ab ((ys).map eV))]:=by
  show [G _,G _,G (D.rens _ _ _)]=_
  rw[A6 (Ay _)];rfl
 have h2:Ah PP o _ _ _ ⟨Cx _ _ (Da (d8 4 [0,1]) id (CQ b2 ys).H),_⟩:=h2
 rw[e] at h2
 exact h2
theorem Aog(m:cz)(r:cf)(ms l:List (Int×Int))(ts:List Tk)(x:Int×Int)(xs:List b9)(ys:List b9)(b b2:Bool){o:yy}{c:Call}{fo:x8}(ho:o.op=.call c)(hc:c.callee=.value fo)
  (h:Aa PP 226 [A3 l,.v (AD ts),Cw m r ms] (CQ b xs) (.tup []) (FX b2 (xs++ys))):
  Ah PP o [.v (.fn 226 [] []),A3 l,.v (AD ts),Cw m r ms] ⟨[G [.gro 2 (I xs) 2],G [db b],G (Ab (xs.map eV)),G [di x.1,di x.2]],[]⟩ (.tup []) ⟨[G [.gro 4 (I (xs++ys)) 2],G [db b2],none,G [di x.1,di x.2],G (Ab ((xs++ys).map eV))],[]⟩:=by
 have h2:=B3 (σ:=⟨[G [.gro 2 (I xs) 2],G [db b],G (Ab (xs.map eV)),G [di x.1,di x.2]],[]⟩) ho hc (fD:=.v (.fn 226 [] [])) (fs:=[]) (cs:=[]) (ds:=[A3 l,.v (AD ts),Cw m r ms]) rfl [0,1,2] id h
  (AI rfl rfl) (.cons rfl (AI rfl rfl) rfl (.cons rfl (AI rfl rfl) rfl (.cons rfl (AI (Aj _ _ _) (A6 (Ay _)).symm) (CU _) .nil))) (by decide) rfl (by simp) (by simp) rfl (by simp[cm,D.okNs,D.okN,Aj])
 have e:Da (d8 4 [0,1,2]) id (FX b2 (xs++ys)).H=[G [.gro 4 (I (xs++ys)) 2],G [db b2],none,G (Ab ((xs++ys).map eV))]:=by
  show [G _,G _,none,G (D.rens _ _ _)]=_
  rw[A6 (Ay _)];rfl
 have h2:Ah PP o _ _ _ ⟨Cx _ _ (Da (d8 4 [0,1,2]) id (FX b2 (xs++ys)).H),_⟩:=h2
 rw[e] at h2
 exact h2
theorem Aof(m:cz)(r:cf)(ms l:List (Int×Int))(ts:List Tk)(x:Int×Int)(xs:List b9)(ys:List b9)(b b2:Bool){o:yy}{c:Call}{fo:x8}(ho:o.op=.call c)(hc:c.callee=.value fo)
  (h:Aa PP 226 [A3 l,.v (AD ts),Cw m r ms] (CQ b xs) (.tup []) (FX b2 (xs++ys))):
  Ah PP o [.v (.fn 226 [] []),A3 l,.v (AD ts),Cw m r ms] ⟨[G [.gro 3 (I xs) 2],G [db b],none,G (Ab (xs.map eV)),G [di x.1,di x.2]],[]⟩ (.tup []) ⟨[G [.gro 5 (I (xs++ys)) 2],G [db b2],none,none,G [di x.1,di x.2],G (Ab ((xs++ys).map eV))],[]⟩:=by
 have h2:=B3 (σ:=⟨[G [.gro 3 (I xs) 2],G [db b],none,G (Ab (xs.map eV)),G [di x.1,di x.2]],[]⟩) ho hc (fD:=.v (.fn 226 [] [])) (fs:=[]) (cs:=[]) (ds:=[A3 l,.v (AD ts),Cw m r ms]) rfl [0,1,3] id h
  (AI rfl rfl) (.cons rfl (AI rfl rfl) rfl (.cons rfl (AI rfl rfl) rfl (.cons rfl (AI (Aj _ _ _) (A6 (Ay _)).symm) (CU _) .nil))) (by decide) rfl (by simp) (by simp) rfl (by simp[cm,D.okNs,D.okN,Aj])
 have e:Da (d8 5 [0,1,3]) id (FX b2 (xs++ys)).H=[G [.gro 5 (I (xs++ys)) 2],G [db b2],none,G (Ab ((xs++ys).map eV))]:=by
  show [G _,G _,none,G (D.rens _ _ _)]=_
  rw[A6 (Ay _)];rfl
 have h2:Ah PP o _ _ _ ⟨Cx _ _ (Da (d8 5 [0,1,3]) id (FX b2 (xs++ys)).H),_⟩:=h2
 rw[e] at h2
 exact h2
theorem Al3(m:cz)(r:cf)(ms l:List (Int×Int))(ts:List Tk)(x:Int×Int)(xs:List b9)(_:List b9)(b b2:Bool){o:yy}{c:Call}{fo:x8}(ho:o.op=.call c)(hc:c.callee=.value fo)
  (h:Aa PP 226 [A3 l,.v (AD ts),Cw m r ms] (CQ b xs) (.tup []) (CQ b2 xs)):
  Ah PP o [.v (.fn 226 [] []),A3 l,.v (AD ts),Cw m r ms] ⟨[G [.gro 2 (I xs) 2],G [db b],G (Ab (xs.map eV)),G [di x.1,di x.2]],[]⟩ (.tup []) ⟨[G [.gro 2 (I xs) 2],G [db b2],G (Ab ((xs).map eV)),G [di x.1,di x.2]],[]⟩:=by
 have h2:=B3 (σ:=⟨[G [.gro 2 (I xs) 2],G [db b],G (Ab (xs.map eV)),G [di x.1,di x.2]],[]⟩) ho hc (fD:=.v (.fn 226 [] [])) (fs:=[]) (cs:=[]) (ds:=[A3 l,.v (AD ts),Cw m r ms]) rfl [0,1,2] id h
  (AI rfl rfl) (.cons rfl (AI rfl rfl) rfl (.cons rfl (AI rfl rfl) rfl (.cons rfl (AI (Aj _ _ _) (A6 (Ay _)).symm) (CU _) .nil))) (by decide) rfl (by simp) (by simp) rfl (by simp[cm,D.okNs,D.okN,Aj])
 have e:Da (d8 4 [0,1,2]) id (CQ b2 xs).H=[G [.gro 2 (I xs) 2],G [db b2],G (Ab ((xs).map eV))]:=by
  show [G _,G _,G (D.rens _ _ _)]=_
  rw[A6 (Ay _)];rfl
 have h2:Ah PP o _ _ _ ⟨Cx _ _ (Da (d8 4 [0,1,2]) id (CQ b2 xs).H),_⟩:=h2
 rw[e] at h2
 exact h2
theorem Al2(m:cz)(r:cf)(ms l:List (Int×Int))(ts:List Tk)(x:Int×Int)(xs:List b9)(_:List b9)(b b2:Bool){o:yy}{c:Call}{fo:x8}(ho:o.op=.call c)(hc:c.callee=.value fo)
  (h:Aa PP 226 [A3 l,.v (AD ts),Cw m r ms] (CQ b xs) (.tup []) (CQ b2 xs)):
  Ah PP o [.v (.fn 226 [] []),A3 l,.v (AD ts),Cw m r ms] ⟨[G [.gro 3 (I xs) 2],G [db b],none,G (Ab (xs.map eV)),G [di x.1,di x.2]],[]⟩ (.tup []) ⟨[G [.gro 3 (I xs) 2],G [db b2],none,G (Ab ((xs).map eV)),G [di x.1,di x.2]],[]⟩:=by
 have h2:=B3 (σ:=⟨[G [.gro 3 (I xs) 2],G [db b],none,G (Ab (xs.map eV)),G [di x.1,di x.2]],[]⟩) ho hc (fD:=.v (.fn 226 [] [])) (fs:=[]) (cs:=[]) (ds:=[A3 l,.v (AD ts),Cw m r ms]) rfl [0,1,3] id h
  (AI rfl rfl) (.cons rfl (AI rfl rfl) rfl (.cons rfl (AI rfl rfl) rfl (.cons rfl (AI (Aj _ _ _) (A6 (Ay _)).symm) (CU _) .nil))) (by decide) rfl (by simp) (by simp) rfl (by simp[cm,D.okNs,D.okN,Aj])
 have e:Da (d8 5 [0,1,3]) id (CQ b2 xs).H=[G [.gro 3 (I xs) 2],G [db b2],G (Ab ((xs).map eV))]:=by
  show [G _,G _,G (D.rens _ _ _)]=_
  rw[A6 (Ay _)];rfl
 have h2:Ah PP o _ _ _ ⟨Cx _ _ (Da (d8 5 [0,1,3]) id (CQ b2 xs).H),_⟩:=h2
 rw[e] at h2
 exact h2
theorem Al4(m:cz)(r:cf)(ms l:List (Int×Int))(ts:List Tk)(x:Int×Int)(b b2:Bool){o:yy}{c:Call}{fo:x8}(ho:o.op=.call c)(hc:c.callee=.value fo)
  (h:Aa PP 226 [A3 l,.v (AD ts),Cw m r ms] (jf b) (.tup []) (jf b2)):
  Ah PP o [.v (.fn 226 [] []),A3 l,.v (AD ts),Cw m r ms] ⟨[G [.v .nils],G [db b],none,G [di x.1,di x.2]],[]⟩ (.tup []) ⟨[G [.v .nils],G [db b2],none,G [di x.1,di x.2]],[]⟩:=
 B3 (σ:=⟨[G [.v .nils],G [db b],none,G [di x.1,di x.2]],[]⟩) ho hc (fD:=.v (.fn 226 [] [])) (fs:=[]) (cs:=[]) (ds:=[A3 l,.v (AD ts),Cw m r ms]) rfl [0,1] id h
  (AI rfl rfl) (.cons rfl (AI rfl rfl) rfl (.cons rfl (AI rfl rfl) rfl .nil)) (by decide) rfl (by simp) (by simp) rfl (by rfl)
noncomputable abbrev qe:=(Oper.mk (G 54) (Op.binOp BinOp.neq 205 (Operand.tmp 52) (Operand.tmp 53) 205) 4 "timed.go:54" #[Edge.mk 27 Ground.data,Edge.mk 28 Ground.data,Edge.mk 22 Ground.guard] (G (22,false)))
noncomputable abbrev jv:=fun a₀=>[ke 0,ke 1,ke 2,ke 6,ke 18,ke 19,ch 20 (di (a₀+1:Nat))]
noncomputable abbrev kx:=(bw 226 [] [])
noncomputable abbrev l8:=fun a₀ b₀ c₀=>(2,D.dfn 228 [] (DP a₀ b₀ c₀))
noncomputable abbrev oz:=fun a₀ b₀ c₀ d₀=>[G [bm 4 (I a₀) 2],G [db b₀],none,G [di c₀,di d₀],G (em a₀)]
noncomputable abbrev l9:=[kl DR [1,1,1,0,0],bf 0]
noncomputable abbrev lb:=fun a₀=>(6,bt (bz (dj a₀)))
noncomputable abbrev qq:=fun a₀ b₀ c₀ d₀ e₀=>(bh [G [a₀],G [db b₀],c₀,G [di d₀,di e₀]] [])
noncomputable abbrev qr:=fun a₀ b₀ c₀=>[bt (co a₀),bt (ab [vi b₀,vi c₀])]
noncomputable abbrev ld:=fun a₀=>(1,bt (ai a₀))
theorem Anf(m:cz)(r:cf)(ms l:List (Int×Int))(hl:I l<=50)(tk:Tk)(ts:List Tk)(L:List V)(hL:L=(tk::ts).map dj)(g:D)(b:Bool)(d2:Option (List D))(k:Nat)(x:Int×Int)(hx:l[k]?=G x)(S:St)(hok:∀b,cm 3 [] [G [g],G [db b],d2]=J)
  (ihy:Ht tk l k=J->(∃b2:Bool,(∀(o:yy) (c:Call) (fo:x8),o.op=.call c->c.callee=.value fo->Ah PP o [.v (.fn 226 [] []),A3 (l.take k++l.drop (k+1)),.v (AD ts),Cw m r ms] ⟨[G [g],G [db b],d2,G [di x.1,di x.2]],[]⟩ (.tup []) ⟨[G [g],G [db b2],d2,G [di x.1,di x.2]],[]⟩)/\Rn PP CB 3 (.tup []) S ([kl DR [1,1,1,0,0],.blk 0]++[]) (cy 71 [(0,A3 l),(1,.v (.list L)),(2,Cw m r ms),(6,.v (.ref (dj tk))),(18,A3 l),(19,di (I l)),(20,di (k+1:Nat))]) ⟨[G [g],G [db b2],d2],[]⟩)∨∃(b2:Bool) (ws:List b9),(∀(o:yy) (c:Call) (fo:x8),o.op=.call c->c.callee=.value fo->Ah PP o [.v (.fn 226 [] []),A3 (l.take k++l.drop (k+1)),.v (AD ts),Cw m r ms] ⟨[G [g],G [db b],d2,G [di x.1,di x.2]],[]⟩ (.tup []) ⟨[G [.gro 4 (I ws) 2],G [db b2],none,G [di x.1,di x.2],G (Ab (ws.map eV))],[]⟩)/\Rn PP CB 3 (.tup []) S ([kl DR [1,1,1,0,0],.blk 0]++[]) (cy 71 [(0,A3 l),(1,.v (.list L)),(2,Cw m r ms),(6,.v (.ref (dj tk))),(18,A3 l),(19,di (I l)),(20,di (k+1:Nat))]) (FX b2 ws))
  (ihn:Ht tk l k=O->Rn PP CB 3 (.tup []) S ([kl DR [1,1,1,0,0],.blk 0]++[]) (cy 71 [(0,A3 l),(1,.v (.list L)),(2,Cw m r ms),(6,.v (.ref (dj tk))),(18,A3 l),(19,di (I l)),(20,di (k+1:Nat))]) ⟨[G [g],G [db b],d2],[]⟩):
  Rn PP CB 3 (.tup []) S ([kl DR [1,1,1,0,0],.blk 0]++[]) (cy 71 [(0,A3 l),(1,.v (.list L)),(2,Cw m r ms),(6,.v (.ref (dj tk))),(18,A3 l),(19,di (I l)),(20,di k)]) ⟨[G [g],G [db b],d2],[]⟩:=by
 have hk:k<I l:=(HL.1 hx).1
 have hw1:yt.wrap ((k:Int)-1)=((k-1:Nat):Int)∨k=0:=by
  grind[Ak]
 have hw2:yt.wrap ((k:Int)+1)=((k+1:Nat):Int):=by rw[Ak];omega
 have szp:∀y∈l.map co,y.size=2:=fun y hy=>by obtain⟨z,_,rfl⟩:=I2.1 hy;rfl
 by_cases c1:(x.1==tk.place)=J
 ·by_cases c2:decide (x.2>=tk.low)=J
  ·by_cases c3:decide (x.2<=tk.high)=J
   ·by_cases c4:((k:Int)==0)=J
    ·rcases ihy (by grind[D0]) with⟨b2,v2,r3⟩|⟨b2,ws,v2,r3⟩
     ·refine lv 71 [] (.t<|.x (co x)<|.t<|.t<|.t<|.t<|.c (A3 (l.take k++l.drop (k+1)))<|.h (.oc (.tup []) ⟨[G [g],G [db b2],d2,G [di x.1,di x.2]],[]⟩)<|.lo (jv k) ⟨[G [g],G [db b2],d2],[]⟩) (decide ((k:Int)<(I l:Int))=J/\0<=(k:Int)/\(U co l)[Z (k:Int)]?=G (co x)/\iz 0<=0/\0<(↑2:Int)/\(x.fst==tk.place)=J/\iz 0<=1/\1<(↑2:Int)/\decide (x.snd>=tk.low)=J/\iz 0<=1/\1<(↑2:Int)/\decide (x.snd<=tk.high)=J/\((k:Int)==0)=J/\(yj (True))/\(∀(x:V),x∈U co l->V.size x=2)/\0<=(fun x=>x.snd) (e7 k)/\(fun x=>x.snd) (e7 k)<=(I (U co l):Int)/\(∀(x:V),x∈U co l->V.size x=2)/\0<=(fun x=>x.snd) (yt,yu yt ((k:Int)+1))/\(fun x=>x.snd) (yt,yu yt ((k:Int)+1))<=(I (U co l):Int)/\F0 230 [bt (ai [ai (W 0 (take (Z ((fun x=>x.snd) (e7 k))) (U co l))),ai (W (Z ((fun x=>x.snd) (yt,yu yt ((k:Int)+1)))) (take (I (U co l)) (U co l)))])] (A3 (take k l++W (k+1) l))/\(∀(x:V),x∈L->V.size x=3)/\0<=(1:Int)/\(1:Int)<=(I L:Int)/\(N0 [bt kx,A3 (take k l++W (k+1) l),bt (ai (W (Z ((1:Int))) (take (I L) L))),D.dfn 228 [] (DP m r ms)] (qq g b d2 x.fst x.snd) (bk []) (qq g b2 d2 x.fst x.snd))/\di (yu yt ((k:Int)+1))=di (↑(k+1):Int)/\cm 3 [] [G [g],G [db b2],d2]=J/\Q [G [g],G [db b2],d2]/\I0 CB 3 (bk []) S l9 (cy 71 [(0,bt (BU l)),(ld L),(l8 m r ms),(lb tk),(18,bt (BU l)),(19,di (I l:Int)),(20,di (↑(k+1):Int))]) (bh [G [g],G [db b2],d2] [])) ?_
      rw[hw2]
      exact⟨decide_eq_true (by omega),by omega,BP hx,Int.le_refl _,by decide,c1,by decide,by decide,c2,by decide,by decide,c3,c4,by grind,szp,(by grind),(by grind),szp,(by grind),(by grind),GD l hl k hk,G2 hL,by decide,FA hL,fun o cl fo ho hc=>by grind,rfl,hok b2,rfl,⟨r3⟩⟩
     ·refine lv 71 [] (.t<|.x (co x)<|.t<|.t<|.t<|.t<|.c (A3 (l.take k++l.drop (k+1)))<|.h (.oc (.tup []) ⟨[G [.gro 4 (I ws) 2],G [db b2],none,G [di x.1,di x.2],G (Ab (ws.map eV))],[]⟩)<|.lo (jv k) ⟨[G [.gro 4 (I ws) 2],G [db b2],none,G [di x.1,di x.2],G (Ab (ws.map eV))],[]⟩) (decide ((k:Int)<(I l:Int))=J/\0<=(k:Int)/\(U co l)[Z (k:Int)]?=G (co x)/\iz 0<=0/\0<(↑2:Int)/\(x.fst==tk.place)=J/\iz 0<=1/\1<(↑2:Int)/\decide (x.snd>=tk.low)=J/\iz 0<=1/\1<(↑2:Int)/\decide (x.snd<=tk.high)=J/\((k:Int)==0)=J/\(yj (True))/\(∀(x:V),x∈U co l->V.size x=2)/\0<=(fun x=>x.snd) (e7 k)/\(fun x=>x.snd) (e7 k)<=(I (U co l):Int)/\(∀(x:V),x∈U co l->V.size x=2)/\0<=(fun x=>x.snd) (yt,yu yt ((k:Int)+1))/\(fun x=>x.snd) (yt,yu yt ((k:Int)+1))<=(I (U co l):Int)/\F0 230 [bt (ai [ai (W 0 (take (Z ((fun x=>x.snd) (e7 k))) (U co l))),ai (W (Z ((fun x=>x.snd) (yt,yu yt ((k:Int)+1)))) (take (I (U co l)) (U co l)))])] (A3 (take k l++W (k+1) l))/\(∀(x:V),x∈L->V.size x=3)/\0<=(1:Int)/\(1:Int)<=(I L:Int)/\(N0 [bt kx,A3 (take k l++W (k+1) l),bt (ai (W (Z ((1:Int))) (take (I L) L))),D.dfn 228 [] (DP m r ms)] (qq g b d2 x.fst x.snd) (bk []) (bh (oz ws b2 x.fst x.snd) []))/\di (yu yt ((k:Int)+1))=di (↑(k+1):Int)/\cm 5 [] (oz ws b2 x.fst x.snd)=J/\Q (oz ws b2 x.fst x.snd)/\I0 CB 3 (bk []) S l9 (cy 71 [(0,bt (BU l)),(ld L),(l8 m r ms),(lb tk),(18,bt (BU l)),(19,di (I l:Int)),(20,di (↑(k+1):Int))]) (bh (oz ws b2 x.fst x.snd) [])) ?_
      rw[hw2]
      exact⟨decide_eq_true (by omega),by omega,BP hx,Int.le_refl _,by decide,c1,by decide,by decide,c2,by decide,by decide,c3,c4,by grind,szp,(by grind),(by grind),szp,(by grind),(by grind),GD l hl k hk,G2 hL,by decide,FA hL,fun o cl fo ho hc=>by grind,rfl,by simp[cm,D.okNs,D.okN,Aj],rfl,⟨AlB (Nat.le_refl 3) x ws b2 rfl rfl r3⟩⟩
    ·have c4f:=HU c4
     obtain⟨y,hy⟩:=yk (show k-1<I l by omega)
     by_cases c5:(!(y.1==x.1&&y.2==x.2))=J
     ·rcases ihy (by grind[D0]) with⟨b2,v2,r3⟩|⟨b2,ws,v2,r3⟩
      ·refine lv 71 [] (.t<|.x (co x)<|.t<|.t<|.t<|.f<|.x (co y)<|.m (.v (co x))<|.h (.p (db (!(y.1==x.1&&y.2==x.2))))<|.t<|.c (A3 (l.take k++l.drop (k+1)))<|.h (.oc (.tup []) ⟨[G [g],G [db b2],d2,G [di x.1,di x.2]],[]⟩)<|.lo (jv k) ⟨[G [g],G [db b2],d2],[]⟩) (decide ((k:Int)<(I l:Int))=J/\0<=(k:Int)/\(U co l)[Z (k:Int)]?=G (co x)/\iz 0<=0/\0<(↑2:Int)/\(x.fst==tk.place)=J/\iz 0<=1/\1<(↑2:Int)/\decide (x.snd>=tk.low)=J/\iz 0<=1/\1<(↑2:Int)/\decide (x.snd<=tk.high)=J/\((k:Int)==0)=O/\0<=yu yt ((k:Int)-1)/\(U co l)[Z (yu yt ((k:Int)-1))]?=G (co y)/\2<=2/\Q [di x.fst,di x.snd]/\(∀(τ:St),Ah PP qe (qr y x.fst x.snd) τ (db !(y.fst==x.fst&&y.snd==x.snd)) τ)/\(yi (True))/\(!(y.fst==x.fst&&y.snd==x.snd))=J/\(∀(x:V),x∈U co l->V.size x=2)/\0<=(fun x=>x.snd) (e7 k)/\(fun x=>x.snd) (e7 k)<=(I (U co l):Int)/\(∀(x:V),x∈U co l->V.size x=2)/\0<=(fun x=>x.snd) (yt,yu yt ((k:Int)+1))/\(fun x=>x.snd) (yt,yu yt ((k:Int)+1))<=(I (U co l):Int)/\F0 230 [bt (ai [ai (W 0 (take (Z ((fun x=>x.snd) (e7 k))) (U co l))),ai (W (Z ((fun x=>x.snd) (yt,yu yt ((k:Int)+1)))) (take (I (U co l)) (U co l)))])] (A3 (take k l++W (k+1) l))/\(∀(x:V),x∈L->V.size x=3)/\0<=(1:Int)/\(1:Int)<=(I L:Int)/\(N0 [bt kx,A3 (take k l++W (k+1) l),bt (ai (W (Z ((1:Int))) (take (I L) L))),D.dfn 228 [] (DP m r ms)] (qq g b d2 x.fst x.snd) (bk []) (qq g b2 d2 x.fst x.snd))/\di (yu yt ((k:Int)+1))=di (↑(k+1):Int)/\cm 3 [] [G [g],G [db b2],d2]=J/\Q [G [g],G [db b2],d2]/\I0 CB 3 (bk []) S l9 (cy 71 [(0,bt (BU l)),(ld L),(l8 m r ms),(lb tk),(18,bt (BU l)),(19,di (I l:Int)),(20,di (↑(k+1):Int))]) (bh [G [g],G [db b2],d2] [])) ?_
       have hw1:=hw1.resolve_right (fun h=>c4 (by grind))
       rw[hw1]
       rw[hw2]
       exact⟨decide_eq_true (by omega),by omega,BP hx,Int.le_refl _,by decide,c1,by decide,by decide,c2,by decide,by decide,c3,c4f,by omega,BP hy,Nat.le_refl _,rfl,fun τ=>GU rfl y.1 y.2 x.1 x.2,by grind,c5,szp,(by grind),(by grind),szp,(by grind),(by grind),GD l hl k hk,G2 hL,by decide,FA hL,fun o cl fo ho hc=>by grind,rfl,hok b2,rfl,⟨r3⟩⟩
      ·refine lv 71 [] (.t<|.x (co x)<|.t<|.t<|.t<|.f<|.x (co y)<|.m (.v (co x))<|.h (.p (db (!(y.1==x.1&&y.2==x.2))))<|.t<|.c (A3 (l.take k++l.drop (k+1)))<|.h (.oc (.tup []) ⟨[G [.gro 4 (I ws) 2],G [db b2],none,G [di x.1,di x.2],G (Ab (ws.map eV))],[]⟩)<|.lo (jv k) ⟨[G [.gro 4 (I ws) 2],G [db b2],none,G [di x.1,di x.2],G (Ab (ws.map eV))],[]⟩) (decide ((k:Int)<(I l:Int))=J/\0<=(k:Int)/\(U co l)[Z (k:Int)]?=G (co x)/\iz 0<=0/\0<(↑2:Int)/\(x.fst==tk.place)=J/\iz 0<=1/\1<(↑2:Int)/\decide (x.snd>=tk.low)=J/\iz 0<=1/\1<(↑2:Int)/\decide (x.snd<=tk.high)=J/\((k:Int)==0)=O/\0<=yu yt ((k:Int)-1)/\(U co l)[Z (yu yt ((k:Int)-1))]?=G (co y)/\2<=2/\Q [di x.fst,di x.snd]/\(∀(τ:St),Ah PP qe (qr y x.fst x.snd) τ (db !(y.fst==x.fst&&y.snd==x.snd)) τ)/\(yi (True))/\(!(y.fst==x.fst&&y.snd==x.snd))=J/\(∀(x:V),x∈U co l->V.size x=2)/\0<=(fun x=>x.snd) (e7 k)/\(fun x=>x.snd) (e7 k)<=(I (U co l):Int)/\(∀(x:V),x∈U co l->V.size x=2)/\0<=(fun x=>x.snd) (yt,yu yt ((k:Int)+1))/\(fun x=>x.snd) (yt,yu yt ((k:Int)+1))<=(I (U co l):Int)/\F0 230 [bt (ai [ai (W 0 (take (Z ((fun x=>x.snd) (e7 k))) (U co l))),ai (W (Z ((fun x=>x.snd) (yt,yu yt ((k:Int)+1)))) (take (I (U co l)) (U co l)))])] (A3 (take k l++W (k+1) l))/\(∀(x:V),x∈L->V.size x=3)/\0<=(1:Int)/\(1:Int)<=(I L:Int)/\(N0 [bt kx,A3 (take k l++W (k+1) l),bt (ai (W (Z ((1:Int))) (take (I L) L))),D.dfn 228 [] (DP m r ms)] (qq g b d2 x.fst x.snd) (bk []) (bh (oz ws b2 x.fst x.snd) []))/\di (yu yt ((k:Int)+1))=di (↑(k+1):Int)/\cm 5 [] (oz ws b2 x.fst x.snd)=J/\Q (oz ws b2 x.fst x.snd)/\I0 CB 3 (bk []) S l9 (cy 71 [(0,bt (BU l)),(ld L),(l8 m r ms),(lb tk),(18,bt (BU l)),(19,di (I l:Int)),(20,di (↑(k+1):Int))]) (bh (oz ws b2 x.fst x.snd) [])) ?_
       have hw1:=hw1.resolve_right (fun h=>c4 (by grind))
       rw[hw1]
       rw[hw2]
       exact⟨decide_eq_true (by omega),by omega,BP hx,Int.le_refl _,by decide,c1,by decide,by decide,c2,by decide,by decide,c3,c4f,by omega,BP hy,Nat.le_refl _,rfl,fun τ=>GU rfl y.1 y.2 x.1 x.2,by grind,c5,szp,(by grind),(by grind),szp,(by grind),(by grind),GD l hl k hk,G2 hL,by decide,FA hL,fun o cl fo ho hc=>by grind,rfl,by simp[cm,D.okNs,D.okN,Aj],rfl,⟨AlB (Nat.le_refl 3) x ws b2 rfl rfl r3⟩⟩
     ·have r3:=ihn (by grind[D0])
      refine lv 71 [] (.t<|.x (co x)<|.t<|.t<|.t<|.f<|.x (co y)<|.m (.v (co x))<|.h (.p (db (!(y.1==x.1&&y.2==x.2))))<|.f<|.lo (jv k) ⟨[G [g],G [db b],d2],[]⟩) (decide ((k:Int)<(I l:Int))=J/\0<=(k:Int)/\(U co l)[Z (k:Int)]?=G (co x)/\iz 0<=0/\0<(↑2:Int)/\(x.fst==tk.place)=J/\iz 0<=1/\1<(↑2:Int)/\decide (x.snd>=tk.low)=J/\iz 0<=1/\1<(↑2:Int)/\decide (x.snd<=tk.high)=J/\((k:Int)==0)=O/\0<=yu yt ((k:Int)-1)/\(U co l)[Z (yu yt ((k:Int)-1))]?=G (co y)/\2<=2/\Q [di x.fst,di x.snd]/\(∀(τ:St),Ah PP qe (qr y x.fst x.snd) τ (db !(y.fst==x.fst&&y.snd==x.snd)) τ)/\(yi (True))/\(!(y.fst==x.fst&&y.snd==x.snd))=O/\di (yu yt ((k:Int)+1))=di (↑(k+1):Int)/\cm 3 [] [G [g],G [db b],d2]=J/\Q [G [g],G [db b],d2]/\I0 CB 3 (bk []) S l9 (cy 71 [(0,bt (BU l)),(ld L),(l8 m r ms),(lb tk),(18,bt (BU l)),(19,di (I l:Int)),(20,di (↑(k+1):Int))]) (bh [G [g],G [db b],d2] [])) ?_
      have hw1:=hw1.resolve_right (fun h=>c4 (by grind))
      rw[hw1]
      exact⟨decide_eq_true (by omega),by omega,BP hx,Int.le_refl _,by decide,c1,by decide,by decide,c2,by decide,by decide,c3,c4f,by omega,BP hy,Nat.le_refl _,rfl,fun τ=>GU rfl y.1 y.2 x.1 x.2,by grind,eq_false_of_ne_true c5,congrArg di hw2,hok b,rfl,⟨r3⟩⟩
   ·have r3:=ihn (by grind[D0])
    exact lv 71 [] (.t<|.x (co x)<|.t<|.t<|.f<|.lo (jv k) ⟨[G [g],G [db b],d2],[]⟩) (decide ((k:Int)<(I l:Int))=J/\0<=(k:Int)/\(U co l)[Z (k:Int)]?=G (co x)/\iz 0<=0/\0<(↑2:Int)/\_/\iz 0<=1/\1<(↑2:Int)/\_/\iz 0<=1/\1<(↑2:Int)/\decide (x.snd<=tk.high)=O/\(yj (True))/\di (yu yt ((k:Int)+1))=di (↑(k+1):Int)/\cm 3 [] [G [g],G [db b],d2]=J/\Q [G [g],G [db b],d2]/\_) ⟨decide_eq_true (by omega),by omega,BP hx,Int.le_refl _,by decide,c1,by decide,by decide,c2,by decide,by decide,eq_false_of_ne_true c3,by grind,congrArg di hw2,hok b,rfl,iK r3⟩
  ·have r3:=ihn (by grind[D0])
   exact lv 71 [] (.t<|.x (co x)<|.t<|.f<|.lo (jv k) ⟨[G [g],G [db b],d2],[]⟩) (decide ((k:Int)<(I l:Int))=J/\0<=(k:Int)/\(U co l)[Z (k:Int)]?=G (co x)/\iz 0<=0/\0<(↑2:Int)/\_/\iz 0<=1/\1<(↑2:Int)/\decide (x.snd>=tk.low)=O/\yo/\di (yu yt ((k:Int)+1))=di (↑(k+1):Int)/\cm 3 [] [G [g],G [db b],d2]=J/\Q [G [g],G [db b],d2]/\_) ⟨decide_eq_true (by omega),by omega,BP hx,Int.le_refl _,by decide,c1,by decide,by decide,eq_false_of_ne_true c2,by grind,congrArg di hw2,hok b,rfl,iK r3⟩
 ·have r3:=ihn (by grind[D0])
  exact lv 71 [] (.t<|.x (co x)<|.f<|.lo (jv k) ⟨[G [g],G [db b],d2],[]⟩) (decide ((k:Int)<(I l:Int))=J/\0<=(k:Int)/\(U co l)[Z (k:Int)]?=G (co x)/\iz 0<=0/\0<(↑2:Int)/\(x.fst==tk.place)=O/\yp/\di (yu yt ((k:Int)+1))=di (↑(k+1):Int)/\cm 3 [] [G [g],G [db b],d2]=J/\Q [G [g],G [db b],d2]/\_) ⟨decide_eq_true (by omega),by omega,BP hx,Int.le_refl _,by decide,eq_false_of_ne_true c1,by grind,congrArg di hw2,hok b,rfl,iK r3⟩
noncomputable abbrev n7:=fun a₀ b₀ c₀ d₀=>[G [bm 5 (I a₀) 2],G [db b₀],none,none,G [di c₀,di d₀],G (em a₀)]
theorem Ane(m:cz)(r:cf)(ms l:List (Int×Int))(hl:I l<=50)(tk:Tk)(ts:List Tk)(L:List V)(hL:L=(tk::ts).map dj)(g:D)(b:Bool)(d2:Option (List D))(d3:Option (List D))(k:Nat)(x:Int×Int)(hx:l[k]?=G x)(S:St)(hok:∀b,cm 4 [] [G [g],G [db b],d2,d3]=J)
  (ihy:Ht tk l k=J->(∃b2:Bool,(∀(o:yy) (c:Call) (fo:x8),o.op=.call c->c.callee=.value fo->Ah PP o [.v (.fn 226 [] []),A3 (l.take k++l.drop (k+1)),.v (AD ts),Cw m r ms] ⟨[G [g],G [db b],d2,d3,G [di x.1,di x.2]],[]⟩ (.tup []) ⟨[G [g],G [db b2],d2,d3,G [di x.1,di x.2]],[]⟩)/\Rn PP CB 3 (.tup []) S ([kl DR [1,1,1,0,0],.blk 0]++[]) (cy 71 [(0,A3 l),(1,.v (.list L)),(2,Cw m r ms),(6,.v (.ref (dj tk))),(18,A3 l),(19,di (I l)),(20,di (k+1:Nat))]) ⟨[G [g],G [db b2],d2,d3],[]⟩)∨∃(b2:Bool) (ws:List b9),(∀(o:yy) (c:Call) (fo:x8),o.op=.call c->c.callee=.value fo->Ah PP o [.v (.fn 226 [] []),A3 (l.take k++l.drop (k+1)),.v (AD ts),Cw m r ms] ⟨[G [g],G [db b],d2,d3,G [di x.1,di x.2]],[]⟩ (.tup []) ⟨[G [.gro 5 (I ws) 2],G [db b2],none,none,G [di x.1,di x.2],G (Ab (ws.map eV))],[]⟩)/\Rn PP CB 3 (.tup []) S ([kl DR [1,1,1,0,0],.blk 0]++[]) (cy 71 [(0,A3 l),(1,.v (.list L)),(2,Cw m r ms),(6,.v (.ref (dj tk))),(18,A3 l),(19,di (I l)),(20,di (k+1:Nat))]) (FX b2 ws))
  (ihn:Ht tk l k=O->Rn PP CB 3 (.tup []) S ([kl DR [1,1,1,0,0],.blk 0]++[]) (cy 71 [(0,A3 l),(1,.v (.list L)),(2,Cw m r ms),(6,.v (.ref (dj tk))),(18,A3 l),(19,di (I l)),(20,di (k+1:Nat))]) ⟨[G [g],G [db b],d2,d3],[]⟩):
  Rn PP CB 3 (.tup []) S ([kl DR [1,1,1,0,0],.blk 0]++[]) (cy 71 [(0,A3 l),(1,.v (.list L)),(2,Cw m r ms),(6,.v (.ref (dj tk))),(18,A3 l),(19,di (I l)),(20,di k)]) ⟨[G [g],G [db b],d2,d3],[]⟩:=by
 have hk:k<I l:=(HL.1 hx).1
 have hw1:yt.wrap ((k:Int)-1)=((k-1:Nat):Int)∨k=0:=by
  grind[Ak]
 have hw2:yt.wrap ((k:Int)+1)=((k+1:Nat):Int):=by rw[Ak];omega
 have szp:∀y∈l.map co,y.size=2:=fun y hy=>by obtain⟨z,_,rfl⟩:=I2.1 hy;rfl
 by_cases c1:(x.1==tk.place)=J
 ·by_cases c2:decide (x.2>=tk.low)=J
  ·by_cases c3:decide (x.2<=tk.high)=J
   ·by_cases c4:((k:Int)==0)=J
    ·rcases ihy (by grind[D0]) with⟨b2,v2,r3⟩|⟨b2,ws,v2,r3⟩
     ·refine lv 71 [] (.t<|.x (co x)<|.t<|.t<|.t<|.t<|.c (A3 (l.take k++l.drop (k+1)))<|.h (.oc (.tup []) ⟨[G [g],G [db b2],d2,d3,G [di x.1,di x.2]],[]⟩)<|.lo (jv k) ⟨[G [g],G [db b2],d2,d3],[]⟩) (decide ((k:Int)<(I l:Int))=J/\0<=(k:Int)/\(U co l)[Z (k:Int)]?=G (co x)/\iz 0<=0/\0<(↑2:Int)/\(x.fst==tk.place)=J/\iz 0<=1/\1<(↑2:Int)/\decide (x.snd>=tk.low)=J/\iz 0<=1/\1<(↑2:Int)/\decide (x.snd<=tk.high)=J/\((k:Int)==0)=J/\(yj (True))/\(∀(x:V),x∈U co l->V.size x=2)/\0<=(fun x=>x.snd) (e7 k)/\(fun x=>x.snd) (e7 k)<=(I (U co l):Int)/\(∀(x:V),x∈U co l->V.size x=2)/\0<=(fun x=>x.snd) (yt,yu yt ((k:Int)+1))/\(fun x=>x.snd) (yt,yu yt ((k:Int)+1))<=(I (U co l):Int)/\F0 230 [bt (ai [ai (W 0 (take (Z ((fun x=>x.snd) (e7 k))) (U co l))),ai (W (Z ((fun x=>x.snd) (yt,yu yt ((k:Int)+1)))) (take (I (U co l)) (U co l)))])] (A3 (take k l++W (k+1) l))/\(∀(x:V),x∈L->V.size x=3)/\0<=(1:Int)/\(1:Int)<=(I L:Int)/\(N0 [bt kx,A3 (take k l++W (k+1) l),bt (ai (W (Z ((1:Int))) (take (I L) L))),D.dfn 228 [] (DP m r ms)] (bh [G [g],G [db b],d2,d3,G [di x.fst,di x.snd]] []) (bk []) (bh [G [g],G [db b2],d2,d3,G [di x.fst,di x.snd]] []))/\di (yu yt ((k:Int)+1))=di (↑(k+1):Int)/\cm 4 [] [G [g],G [db b2],d2,d3]=J/\Q [G [g],G [db b2],d2,d3]/\I0 CB 3 (bk []) S l9 (cy 71 [(0,bt (BU l)),(ld L),(l8 m r ms),(lb tk),(18,bt (BU l)),(19,di (I l:Int)),(20,di (↑(k+1):Int))]) (bh [G [g],G [db b2],d2,d3] [])) ?_
      rw[hw2]
      exact⟨decide_eq_true (by omega),by omega,BP hx,Int.le_refl _,by decide,c1,by decide,by decide,c2,by decide,by decide,c3,c4,by grind,szp,(by grind),(by grind),szp,(by grind),(by grind),GD l hl k hk,G2 hL,by decide,FA hL,fun o cl fo ho hc=>by grind,rfl,hok b2,rfl,⟨r3⟩⟩
     ·refine lv 71 [] (.t<|.x (co x)<|.t<|.t<|.t<|.t<|.c (A3 (l.take k++l.drop (k+1)))<|.h (.oc (.tup []) ⟨[G [.gro 5 (I ws) 2],G [db b2],none,none,G [di x.1,di x.2],G (Ab (ws.map eV))],[]⟩)<|.lo (jv k) ⟨[G [.gro 5 (I ws) 2],G [db b2],none,none,G [di x.1,di x.2],G (Ab (ws.map eV))],[]⟩) (decide ((k:Int)<(I l:Int))=J/\0<=(k:Int)/\(U co l)[Z (k:Int)]?=G (co x)/\iz 0<=0/\0<(↑2:Int)/\(x.fst==tk.place)=J/\iz 0<=1/\1<(↑2:Int)/\decide (x.snd>=tk.low)=J/\iz 0<=1/\1<(↑2:Int)/\decide (x.snd<=tk.high)=J/\((k:Int)==0)=J/\(yj (True))/\(∀(x:V),x∈U co l->V.size x=2)/\0<=(fun x=>x.snd) (e7 k)/\(fun x=>x.snd) (e7 k)<=(I (U co l):Int)/\(∀(x:V),x∈U co l->V.size x=2)/\0<=(fun x=>x.snd) (yt,yu yt ((k:Int)+1))/\(fun x=>x.snd) (yt,yu yt ((k:Int)+1))<=(I (U co l):Int)/\F0 230 [bt (ai [ai (W 0 (take (Z ((fun x=>x.snd) (e7 k))) (U co l))),ai (W (Z ((fun x=>x.snd) (yt,yu yt ((k:Int)+1)))) (take (I (U co l)) (U co l)))])] (A3 (take k l++W (k+1) l))/\(∀(x:V),x∈L->V.size x=3)/\0<=(1:Int)/\(1:Int)<=(I L:Int)/\(N0 [bt kx,A3 (take k l++W (k+1) l),bt (ai (W (Z ((1:Int))) (take (I L) L))),D.dfn 228 [] (DP m r ms)] (bh [G [g],G [db b],d2,d3,G [di x.fst,di x.snd]] []) (bk []) (bh (n7 ws b2 x.fst x.snd) []))/\di (yu yt ((k:Int)+1))=di (↑(k+1):Int)/\cm 6 [] (n7 ws b2 x.fst x.snd)=J/\Q (n7 ws b2 x.fst x.snd)/\I0 CB 3 (bk []) S l9 (cy 71 [(0,bt (BU l)),(ld L),(l8 m r ms),(lb tk),(18,bt (BU l)),(19,di (I l:Int)),(20,di (↑(k+1):Int))]) (bh (n7 ws b2 x.fst x.snd) [])) ?_
      rw[hw2]
      exact⟨decide_eq_true (by omega),by omega,BP hx,Int.le_refl _,by decide,c1,by decide,by decide,c2,by decide,by decide,c3,c4,by grind,szp,(by grind),(by grind),szp,(by grind),(by grind),GD l hl k hk,G2 hL,by decide,FA hL,fun o cl fo ho hc=>by grind,rfl,by simp[cm,D.okNs,D.okN,Aj],rfl,⟨AlA (Nat.le_refl 3) x ws b2 rfl rfl r3⟩⟩
    ·have c4f:=HU c4
     obtain⟨y,hy⟩:=yk (show k-1<I l by omega)
     by_cases c5:(!(y.1==x.1&&y.2==x.2))=J
     ·rcases ihy (by grind[D0]) with⟨b2,v2,r3⟩|⟨b2,ws,v2,r3⟩
      ·refine lv 71 [] (.t<|.x (co x)<|.t<|.t<|.t<|.f<|.x (co y)<|.m (.v (co x))<|.h (.p (db (!(y.1==x.1&&y.2==x.2))))<|.t<|.c (A3 (l.take k++l.drop (k+1)))<|.h (.oc (.tup []) ⟨[G [g],G [db b2],d2,d3,G [di x.1,di x.2]],[]⟩)<|.lo (jv k) ⟨[G [g],G [db b2],d2,d3],[]⟩) (decide ((k:Int)<(I l:Int))=J/\0<=(k:Int)/\(U co l)[Z (k:Int)]?=G (co x)/\iz 0<=0/\0<(↑2:Int)/\(x.fst==tk.place)=J/\iz 0<=1/\1<(↑2:Int)/\decide (x.snd>=tk.low)=J/\iz 0<=1/\1<(↑2:Int)/\decide (x.snd<=tk.high)=J/\((k:Int)==0)=O/\0<=yu yt ((k:Int)-1)/\(U co l)[Z (yu yt ((k:Int)-1))]?=G (co y)/\2<=2/\Q [di x.fst,di x.snd]/\(∀(τ:St),Ah PP qe (qr y x.fst x.snd) τ (db !(y.fst==x.fst&&y.snd==x.snd)) τ)/\(yi (True))/\(!(y.fst==x.fst&&y.snd==x.snd))=J/\(∀(x:V),x∈U co l->V.size x=2)/\0<=(fun x=>x.snd) (e7 k)/\(fun x=>x.snd) (e7 k)<=(I (U co l):Int)/\(∀(x:V),x∈U co l->V.size x=2)/\0<=(fun x=>x.snd) (yt,yu yt ((k:Int)+1))/\(fun x=>x.snd) (yt,yu yt ((k:Int)+1))<=(I (U co l):Int)/\F0 230 [bt (ai [ai (W 0 (take (Z ((fun x=>x.snd) (e7 k))) (U co l))),ai (W (Z ((fun x=>x.snd) (yt,yu yt ((k:Int)+1)))) (take (I (U co l)) (U co l)))])] (A3 (take k l++W (k+1) l))/\(∀(x:V),x∈L->V.size x=3)/\0<=(1:Int)/\(1:Int)<=(I L:Int)/\(N0 [bt kx,A3 (take k l++W (k+1) l),bt (ai (W (Z ((1:Int))) (take (I L) L))),D.dfn 228 [] (DP m r ms)] (bh [G [g],G [db b],d2,d3,G [di x.fst,di x.snd]] []) (bk []) (bh [G [g],G [db b2],d2,d3,G [di x.fst,di x.snd]] []))/\di (yu yt ((k:Int)+1))=di (↑(k+1):Int)/\cm 4 [] [G [g],G [db b2],d2,d3]=J/\Q [G [g],G [db b2],d2,d3]/\I0 CB 3 (bk []) S l9 (cy 71 [(0,bt (BU l)),(ld L),(l8 m r ms),(lb tk),(18,bt (BU l)),(19,di (I l:Int)),(20,di (↑(k+1):Int))]) (bh [G [g],G [db b2],d2,d3] [])) ?_
       have hw1:=hw1.resolve_right (fun h=>c4 (by grind))
       rw[hw1]
       rw[hw2]
       exact⟨decide_eq_true (by omega),by omega,BP hx,Int.le_refl _,by decide,c1,by decide,by decide,c2,by decide,by decide,c3,c4f,by omega,BP hy,Nat.le_refl _,rfl,fun τ=>GU rfl y.1 y.2 x.1 x.2,by grind,c5,szp,(by grind),(by grind),szp,(by grind),(by grind),GD l hl k hk,G2 hL,by decide,FA hL,fun o cl fo ho hc=>by grind,rfl,hok b2,rfl,⟨r3⟩⟩
      ·refine lv 71 [] (.t<|.x (co x)<|.t<|.t<|.t<|.f<|.x (co y)<|.m (.v (co x))<|.h (.p (db (!(y.1==x.1&&y.2==x.2))))<|.t<|.c (A3 (l.take k++l.drop (k+1)))<|.h (.oc (.tup []) ⟨[G [.gro 5 (I ws) 2],G [db b2],none,none,G [di x.1,di x.2],G (Ab (ws.map eV))],[]⟩)<|.lo (jv k) ⟨[G [.gro 5 (I ws) 2],G [db b2],none,none,G [di x.1,di x.2],G (Ab (ws.map eV))],[]⟩) (decide ((k:Int)<(I l:Int))=J/\0<=(k:Int)/\(U co l)[Z (k:Int)]?=G (co x)/\iz 0<=0/\0<(↑2:Int)/\(x.fst==tk.place)=J/\iz 0<=1/\1<(↑2:Int)/\decide (x.snd>=tk.low)=J/\iz 0<=1/\1<(↑2:Int)/\decide (x.snd<=tk.high)=J/\((k:Int)==0)=O/\0<=yu yt ((k:Int)-1)/\(U co l)[Z (yu yt ((k:Int)-1))]?=G (co y)/\2<=2/\Q [di x.fst,di x.snd]/\(∀(τ:St),Ah PP qe (qr y x.fst x.snd) τ (db !(y.fst==x.fst&&y.snd==x.snd)) τ)/\(yi (True))/\(!(y.fst==x.fst&&y.snd==x.snd))=J/\(∀(x:V),x∈U co l->V.size x=2)/\0<=(fun x=>x.snd) (e7 k)/\(fun x=>x.snd) (e7 k)<=(I (U co l):Int)/\(∀(x:V),x∈U co l->V.size x=2)/\0<=(fun x=>x.snd) (yt,yu yt ((k:Int)+1))/\(fun x=>x.snd) (yt,yu yt ((k:Int)+1))<=(I (U co l):Int)/\F0 230 [bt (ai [ai (W 0 (take (Z ((fun x=>x.snd) (e7 k))) (U co l))),ai (W (Z ((fun x=>x.snd) (yt,yu yt ((k:Int)+1)))) (take (I (U co l)) (U co l)))])] (A3 (take k l++W (k+1) l))/\(∀(x:V),x∈L->V.size x=3)/\0<=(1:Int)/\(1:Int)<=(I L:Int)/\(N0 [bt kx,A3 (take k l++W (k+1) l),bt (ai (W (Z ((1:Int))) (take (I L) L))),D.dfn 228 [] (DP m r ms)] (bh [G [g],G [db b],d2,d3,G [di x.fst,di x.snd]] []) (bk []) (bh (n7 ws b2 x.fst x.snd) []))/\di (yu yt ((k:Int)+1))=di (↑(k+1):Int)/\cm 6 [] (n7 ws b2 x.fst x.snd)=J/\Q (n7 ws b2 x.fst x.snd)/\I0 CB 3 (bk []) S l9 (cy 71 [(0,bt (BU l)),(ld L),(l8 m r ms),(lb tk),(18,bt (BU l)),(19,di (I l:Int)),(20,di (↑(k+1):Int))]) (bh (n7 ws b2 x.fst x.snd) [])) ?_
       have hw1:=hw1.resolve_right (fun h=>c4 (by grind))
       rw[hw1]
       rw[hw2]
       exact⟨decide_eq_true (by omega),by omega,BP hx,Int.le_refl _,by decide,c1,by decide,by decide,c2,by decide,by decide,c3,c4f,by omega,BP hy,Nat.le_refl _,rfl,fun τ=>GU rfl y.1 y.2 x.1 x.2,by grind,c5,szp,(by grind),(by grind),szp,(by grind),(by grind),GD l hl k hk,G2 hL,by decide,FA hL,fun o cl fo ho hc=>by grind,rfl,by simp[cm,D.okNs,D.okN,Aj],rfl,⟨AlA (Nat.le_refl 3) x ws b2 rfl rfl r3⟩⟩
     ·have r3:=ihn (by grind[D0])
      refine lv 71 [] (.t<|.x (co x)<|.t<|.t<|.t<|.f<|.x (co y)<|.m (.v (co x))<|.h (.p (db (!(y.1==x.1&&y.2==x.2))))<|.f<|.lo (jv k) ⟨[G [g],G [db b],d2,d3],[]⟩) (decide ((k:Int)<(I l:Int))=J/\0<=(k:Int)/\(U co l)[Z (k:Int)]?=G (co x)/\iz 0<=0/\0<(↑2:Int)/\(x.fst==tk.place)=J/\iz 0<=1/\1<(↑2:Int)/\decide (x.snd>=tk.low)=J/\iz 0<=1/\1<(↑2:Int)/\decide (x.snd<=tk.high)=J/\((k:Int)==0)=O/\0<=yu yt ((k:Int)-1)/\(U co l)[Z (yu yt ((k:Int)-1))]?=G (co y)/\2<=2/\Q [di x.fst,di x.snd]/\(∀(τ:St),Ah PP qe (qr y x.fst x.snd) τ (db !(y.fst==x.fst&&y.snd==x.snd)) τ)/\(yi (True))/\(!(y.fst==x.fst&&y.snd==x.snd))=O/\di (yu yt ((k:Int)+1))=di (↑(k+1):Int)/\cm 4 [] [G [g],G [db b],d2,d3]=J/\Q [G [g],G [db b],d2,d3]/\I0 CB 3 (bk []) S l9 (cy 71 [(0,bt (BU l)),(ld L),(l8 m r ms),(lb tk),(18,bt (BU l)),(19,di (I l:Int)),(20,di (↑(k+1):Int))]) (bh [G [g],G [db b],d2,d3] [])) ?_
      have hw1:=hw1.resolve_right (fun h=>c4 (by grind))
      rw[hw1]
      exact⟨decide_eq_true (by omega),by omega,BP hx,Int.le_refl _,by decide,c1,by decide,by decide,c2,by decide,by decide,c3,c4f,by omega,BP hy,Nat.le_refl _,rfl,fun τ=>GU rfl y.1 y.2 x.1 x.2,by grind,eq_false_of_ne_true c5,congrArg di hw2,hok b,rfl,⟨r3⟩⟩
   ·have r3:=ihn (by grind[D0])
    exact lv 71 [] (.t<|.x (co x)<|.t<|.t<|.f<|.lo (jv k) ⟨[G [g],G [db b],d2,d3],[]⟩) (decide ((k:Int)<(I l:Int))=J/\0<=(k:Int)/\(U co l)[Z (k:Int)]?=G (co x)/\iz 0<=0/\0<(↑2:Int)/\_/\iz 0<=1/\1<(↑2:Int)/\_/\iz 0<=1/\1<(↑2:Int)/\decide (x.snd<=tk.high)=O/\(yj (True))/\di (yu yt ((k:Int)+1))=di (↑(k+1):Int)/\cm 4 [] [G [g],G [db b],d2,d3]=J/\Q [G [g],G [db b],d2,d3]/\_) ⟨decide_eq_true (by omega),by omega,BP hx,Int.le_refl _,by decide,c1,by decide,by decide,c2,by decide,by decide,eq_false_of_ne_true c3,by grind,congrArg di hw2,hok b,rfl,iK r3⟩
  ·have r3:=ihn (by grind[D0])
   exact lv 71 [] (.t<|.x (co x)<|.t<|.f<|.lo (jv k) ⟨[G [g],G [db b],d2,d3],[]⟩) (decide ((k:Int)<(I l:Int))=J/\0<=(k:Int)/\(U co l)[Z (k:Int)]?=G (co x)/\iz 0<=0/\0<(↑2:Int)/\_/\iz 0<=1/\1<(↑2:Int)/\decide (x.snd>=tk.low)=O/\yo/\di (yu yt ((k:Int)+1))=di (↑(k+1):Int)/\cm 4 [] [G [g],G [db b],d2,d3]=J/\Q [G [g],G [db b],d2,d3]/\_) ⟨decide_eq_true (by omega),by omega,BP hx,Int.le_refl _,by decide,c1,by decide,by decide,eq_false_of_ne_true c2,by grind,congrArg di hw2,hok b,rfl,iK r3⟩
 ·have r3:=ihn (by grind[D0])
  exact lv 71 [] (.t<|.x (co x)<|.f<|.lo (jv k) ⟨[G [g],G [db b],d2,d3],[]⟩) (decide ((k:Int)<(I l:Int))=J/\0<=(k:Int)/\(U co l)[Z (k:Int)]?=G (co x)/\iz 0<=0/\0<(↑2:Int)/\(x.fst==tk.place)=O/\yp/\di (yu yt ((k:Int)+1))=di (↑(k+1):Int)/\cm 4 [] [G [g],G [db b],d2,d3]=J/\Q [G [g],G [db b],d2,d3]/\_) ⟨decide_eq_true (by omega),by omega,BP hx,Int.le_refl _,by decide,eq_false_of_ne_true c1,by grind,congrArg di hw2,hok b,rfl,iK r3⟩
def VX(tk:Tk)(l:List (Int×Int))(K:Nat):List (List (Int×Int)):=((List.range K).filter (Ht tk l)).map fun k=>l.take k++l.drop (k+1)
theorem Ag9{tk:Tk}{l:List (Int×Int)}{k:Nat}(h:Ht tk l k=J):VX tk l (k+1)=VX tk l k++[l.take k++l.drop (k+1)]:=by simp[VX,range_succ,h]
theorem Aj2{tk:Tk}{l:List (Int×Int)}{k:Nat}(h:Ht tk l k=O):VX tk l (k+1)=VX tk l k:=by simp[VX,range_succ,h]
theorem AgA(tk:Tk)(l:List (Int×Int))(k:Nat):I (VX tk l k)<=k:=by
 grind[VX]
theorem Ac8{tk:Tk}{l:List (Int×Int)}{k:Nat}{x:List (Int×Int)}(h:x∈VX tk l k):I x<=I l:=by
 obtain⟨i,_,rfl⟩:=I2.1 h
 grind
def So:List Tk->List (Int×Int)->List (List (Int×Int))
 |[],l=>[l]
 |tk::ts,l=>(VX tk l (I l)).flatMap (So ts)
def VW(tk:Tk)(ts:List Tk)(l:List (Int×Int))(k:Nat):List (List (Int×Int)):=(VX tk l k).flatMap (So ts)
theorem PQ{tk:Tk}{ts:List Tk}{l:List (Int×Int)}{k:Nat}(h:Ht tk l k=J):VW tk ts l (k+1)=VW tk ts l k++So ts (l.take k++l.drop (k+1)):=by simp[VW,Ag9 h]
theorem Ac7{tk:Tk}{ts:List Tk}{l:List (Int×Int)}{k:Nat}(h:Ht tk l k=O):VW tk ts l (k+1)=VW tk ts l k:=by rw[VW,Aj2 h];rfl
theorem VV(tk:Tk)(ts:List Tk)(l:List (Int×Int))(k:Nat):∀n:Nat,I (VW tk ts l k)<=I (VW tk ts l (k+n))
 |0=>HP _
 |n+1=>by
  have:=VV tk ts l k n
  grind[Ht,PQ,Ac7]
theorem Aod{f:yw}{d:D}{σ':St}{k:List KI}{e:List D}{σ:St}(h:Rn PP f 3 d σ' k e σ):Rn PP f 2 d σ' k e σ:=fun E0 E g a w B hC=>h E0 E g a w B ⟨hC.1,by omega⟩
abbrev vj(r:cf)(ms:List (Int×Int))(L:List (List (Int×Int))):List b9:=L.map fun x=>Ek r.to (x++ms)
def kp(b:Bool)(g:D)(d2:Option (List D))(xs:List b9):List b9->St
 |[]=>⟨[G [g],G [db b],d2],[]⟩
 |z::zs=>FX b (xs++z::zs)
theorem NX{b:Bool}{g:D}{d2:Option (List D)}{xs zs:List b9}(h:zs≠ []):kp b g d2 xs zs=FX b (xs++zs):=by
 cases zs with
 |nil=>grind
 |cons x xs=>rfl
inductive sj:List b9->D->Option (List D)->Prop where
 |no:sj [] (.v .nils) none
 |so (x:b9) (xs:List b9):sj (x::xs) (.gro 2 (I (x::xs)) 2) (G (Ab ((x::xs).map eV)))
theorem sj.ok{xs:List b9}{g:D}{d2:Option (List D)}(h:sj xs g d2)(b:Bool):cm 3 [] [G [g],G [db b],d2]=J:=by
 cases h<;>grind[cm,D.okNs,D.okN,Aj]
abbrev ApH(m:cz)(t:cr)(r:cf)(ms:List (Int×Int))(ts:List Tk):Prop:=∀(l:List (Int×Int)),I l<=50->∀(b:Bool) (xs ys:List b9) (b':Bool),ys=vj r ms (So ts l)->I xs+I ys<=100000->b'=(b&&ys.all (Ai t))->Aa PP 226 [A3 l,.v (AD ts),Cw m r ms] (xq b xs) (.tup []) (ui b' xs ys)
theorem Ag6(m:cz)(t:cr)(r:cf)(ms l:List (Int×Int))(hl:I l<=50)(tk:Tk)(ts:List Tk)(hC:ApH m t r ms ts)(L:List V)(hL:L=(tk::ts).map dj)(xs:List b9)(g:D)(d2:Option (List D))(hG:sj xs g d2)(b0:Bool)(Y:List b9)(B:Bool)(hY:Y=vj r ms (VW tk ts l (I l)))(hz:I xs+I Y<=100000)(hB:B=(b0&&Y.all (Ai t)))(n:Nat):∀(k:Nat) (zs:List b9) (b:Bool),I l-k=n->k<=I l->zs=vj r ms (VW tk ts l k)->b=(b0&&zs.all (Ai t))->
  Rn PP CB 3 (.tup []) (kp B g d2 xs Y) ([kl DR [1,1,1,0,0],.blk 0]++[]) (cy 71 [(0,A3 l),(1,.v (.list L)),(2,Cw m r ms),(6,.v (.ref (dj tk))),(18,A3 l),(19,di (I l)),(20,di k)]) (kp b g d2 xs zs):=by
 induction n with
 |zero=>
  intro k zs b hn hk hzs hb
  have e:Y=zs:=by rw[hY,hzs,show k=I l by omega]
  rw[hB,e, ←hb]
  have hok:=hG.ok b
  clear hzs hb hY hB hG
  by_cases hx:zs=[]
  ·subst hx
   show Rn PP CB 3 (.tup []) ⟨[G [g],G [db b],d2],[]⟩ _ _ ⟨[G [g],G [db b],d2],[]⟩
   exact lv 71 [] (.f .ro) (decide ((k:Int)<(I l:Int))=O/\([]:List KI)=[]/\_/\Q [G [g],G [db b],d2]/\Q (bk [])) ⟨yq,rfl,hok,rfl,rfl⟩
  ·rw[NX hx]
   generalize xs++zs=ws
   exact lv 71 [] (.f .ro) (decide ((k:Int)<(I l:Int))=O/\([]:List KI)=[]/\cm 4 [] [G [bm 3 (I ws) 2],G [db b],none,G (em ws)]=J/\Q [G [bm 3 (I ws) 2],G [db b],none,G (em ws)]/\Q (bk [])) ⟨yq,rfl,by simp[cm,D.okNs,D.okN,Aj],rfl,rfl⟩
 |succ n ih=>
  intro k zs b hn hkl hzs hb
  obtain⟨x,hx⟩:=yk (show k<I l by omega)
  have hzl:I zs=I (VW tk ts l k):=by rw[hzs,HH]
  have hYl:I Y=I (VW tk ts l (I l)):=by rw[hY,HH]
  have hmon:I (VW tk ts l (k+1))<=I (VW tk ts l (I l)):=by
   have:=VV tk ts l (k+1) (I l- (k+1))
   rwa[show k+1+(I l- (k+1))=I l by omega] at this
  have hn':Ht tk l k=O->Rn PP CB 3 (.tup []) (kp B g d2 xs Y) ([kl DR [1,1,1,0,0],.blk 0]++[]) (cy 71 [(0,A3 l),(1,.v (.list L)),(2,Cw m r ms),(6,.v (.ref (dj tk))),(18,A3 l),(19,di (I l)),(20,di (k+1:Nat))]) (kp b g d2 xs zs):=fun h=>ih (k+1) zs b (by omega) (by omega) (by rw[Ac7 h];exact hzs) hb
  have hy':Ht tk l k=J->∃ys:List b9,ys=vj r ms (So ts (l.take k++l.drop (k+1)))/\xs.length+(I zs+I ys)<=100000/\Rn PP CB 3 (.tup []) (kp B g d2 xs Y) ([kl DR [1,1,1,0,0],.blk 0]++[]) (cy 71 [(0,A3 l),(1,.v (.list L)),(2,Cw m r ms),(6,.v (.ref (dj tk))),(18,A3 l),(19,di (I l)),(20,di (k+1:Nat))]) (kp (b&&ys.all (Ai t)) g d2 xs (zs++ys)):=fun h=>by
   refine⟨_,rfl,?_,ih (k+1) _ _ (by omega) (by omega) (by rw[PQ h,hzs];exact IZ.symm) (by rw[hb,List.all_append,Bool.and_assoc])⟩
   rw[PQ h,HW] at hmon
   rw[HH];omega
  clear ih hmon
  have hrl:I (l.take k++l.drop (k+1))<=50:=by simp;omega
  by_cases hzn:zs=[]
  ·subst hzn
   refine Anf m r ms l hl tk ts L hL g b d2 k x hx (kp B g d2 xs Y) (fun b=>hG.ok b) (fun h=>?_) hn'
   obtain⟨ys,h1,h2,h3⟩:=hy' h
   have hc:=hC _ hrl b xs ys _ h1 (by simpa using h2) rfl
   generalize (b&&ys.all (Ai t))=b2 at h3 hc
   clear h1 hn' hy' hb hzs
   by_cases hyn:ys=[]
   ·subst hyn
    refine .inl ⟨b2,fun o c fo ho hc'=>?_,h3⟩
    cases hG with
    |no=>exact Al4 m r ms _ ts x b b2 ho hc' hc
    |so v vs=>exact Al3 m r ms _ ts x (v::vs) [] b b2 ho hc' hc
   ·rw[nil_append,NX hyn] at h3
    refine .inr ⟨b2,xs++ys,fun o c fo ho hc'=>?_,h3⟩
    cases hG with
    |no=>
     rw[Ael hyn] at hc
     exact Aoh m r ms _ ts x ys b b2 ho hc' hc
    |so v vs=>
     rw[Aiy (by simp) hyn] at hc
     exact Aog m r ms _ ts x (v::vs) ys b b2 ho hc' hc
  ·rw[NX hzn] at hn'⊢
   refine Ane m r ms l hl tk ts L hL (.gro 3 (I (xs++zs)) 2) b none (G (Ab ((xs++zs).map eV))) k x hx (kp B g d2 xs Y) (fun b=>by simp[cm,D.okNs,D.okN,Aj]) (fun h=>?_) hn'
   obtain⟨ys,h1,h2,h3⟩:=hy' h
   have hc:=hC _ hrl b (xs++zs) ys _ h1 (by rw[HW];omega) rfl
   generalize (b&&ys.all (Ai t))=b2 at h3 hc
   have hne:xs++zs≠ []:=by simp[hzn]
   rw[NX (b:=b2) (zs:=zs++ys) (by simp[hzn]), ←IQ] at h3
   clear h1 hn' hy' hb hzs
   by_cases hyn:ys=[]
   ·subst hyn
    rw[ZJ,Q0 hne,Q0 hne] at hc
    rw[I8 (xs++zs)] at h3
    exact .inl ⟨b2,fun o c fo ho hc'=>Al2 m r ms _ ts x (xs++zs) [] b b2 ho hc' hc,h3⟩
   ·rw[Aiy hne hyn,Q0 hne] at hc
    exact .inr ⟨b2,xs++zs++ys,fun o c fo ho hc'=>Aof m r ms _ ts x (xs++zs) ys b b2 ho hc' hc,h3⟩
theorem Ac6(m:cz)(t:cr)(hm:Sf m t)(r:cf)(ms:List (Int×Int))(hms:I ms<=50):∀ts:List Tk,ApH m t r ms ts
 |[]=>fun l hl b xs ys b' hY hz hB=>by
  subst hY hB
  show Aa PP _ _ _ _ (ui (b&&([Ek r.to (l++ms)]).all (Ai t)) xs [Ek r.to (l++ms)])
  rw[all_cons,List.all_nil,Bool.and_true]
  cases xs with
  |nil=>exact Apg m t hm r ms l hl hms b
  |cons x xs=>exact Apf m t hm r ms l hl hms (x::xs) (by omega) b
 |tk::ts=>fun l hl b xs ys b' hY hz hB=>by
  obtain⟨L,hL⟩:∃L,L=(tk::ts).map dj:=⟨_,rfl⟩
  have hL0:L[0]?=G (dj tk):=by grind
  have hLl:((I L:Int)==0)=O:=Iy.2 (by grind)
  rw[show AD (tk::ts)=.list L by rw[hL]]
  have hlp:=fun g d2 hG=>Ag6 m t r ms l hl tk ts (Ac6 m t hm r ms hms ts) L hL xs g d2 hG b ys b' hY hz hB _ 0 [] b rfl (Iu _) rfl (by simp)
  clear hY hB
  cases xs with
  |nil=>
   have hlp:=Aod (hlp _ _ .no)
   show Aa PP _ _ (jf b) _ _
   by_cases hy:ys=[]
   ·subst hy
    have hlp:Rn PP CB 2 (.tup []) (o9 b') _ _ (o9 b):=hlp
    have h:Aa PP 226 [A3 l,.v (.list L),Cw m r ms] (jf b) (.tup []) (o9 b'):=by
     exact sv CB 71 [] (.f<|.x (dj tk)<|.h (.q 3 0)<|.h (.fa 2 [6])<|.lo [ke 0,ke 1,ke 2,ke 6,ch 18 (A3 l),ch 19 (di (I l)),ch 20 (di (0:Nat))] (o9 b)) (_/\iz 0<=0/\_/\Q (A3 l)/\di (I (U co l):Int)=di (I l:Int)/\Q (di 0)/\cm 3 [] [G [dn],G [db b],none]=J/\Q (o9 b).H/\_) ⟨hLl,Il _,hL0,rfl,by rw[HH],rfl,rfl,rfl,iK hlp⟩
    refine E3 (σ:=jf b) id (show 2<=2 by decide) (fun i hi=>rfl) (fun i j _ _ h=>h) (fun i hi=>by have hi:i<2:=hi;show i<3;omega) (fun i cs hi=>?_) rfl h
    match i,hi with
    |0,hi=>have hi:=Ij (Ij (hi:G (G _)=G (G cs)));subst hi;exact⟨rfl,rfl⟩
    |1,hi=>have hi:=Ij (Ij (hi:G (G _)=G (G cs)));subst hi;exact⟨rfl,rfl⟩
    |i+2,hi=>simp at hi
   ·rw[NX hy,nil_append] at hlp
    rw[Ael hy]
    have h:Aa PP 226 [A3 l,.v (.list L),Cw m r ms] (jf b) (.tup []) (FX b' ys):=by
     exact sv CB 71 [] (.f<|.x (dj tk)<|.h (.q 3 0)<|.h (.fa 2 [6])<|.lo [ke 0,ke 1,ke 2,ke 6,ch 18 (A3 l),ch 19 (di (I l)),ch 20 (di (0:Nat))] (o9 b)) (_/\iz 0<=0/\_/\Q (A3 l)/\di (I (U co l):Int)=di (I l:Int)/\Q (di 0)/\cm 3 [] [G [dn],G [db b],none]=J/\Q (o9 b).H/\_) ⟨hLl,Il _,hL0,rfl,by rw[HH],rfl,rfl,rfl,iK hlp⟩
    refine E3 (σ:=jf b) (fun i=>if i<2 then i else i+1) (show 2<=3 by decide) (fun i hi=>Ie hi) (fun i j _ _ h=>?_) (fun i hi=>?_) (fun i cs hi=>?_) rfl h
    ·have h:(if i<2 then i else i+1)=(if j<2 then j else j+1):=h
     split at h<;>split at h<;>omega
    ·have hi:i<3:=hi
     show(if i<2 then i else i+1)<4
     split<;>omega
    ·match i,hi with
     |0,hi=>have hi:=Ij (Ij (hi:G (G _)=G (G cs)));subst hi;exact⟨rfl,rfl⟩
     |1,hi=>have hi:=Ij (Ij (hi:G (G _)=G (G cs)));subst hi;exact⟨rfl,rfl⟩
     |2,hi=>have hi:=Ij (Ij (hi:G (G _)=G (G cs)));subst hi;exact⟨by rw[A6 (Ay _)];rfl,Aj _ _ _⟩
     |i+3,hi=>simp at hi
  |cons x xs=>
   have hlp:=hlp _ _ (.so x xs)
   have hne:x::xs≠ []:=by simp
   by_cases hy:ys=[]
   ·subst hy
    rw[ZJ,Q0 hne]
    have hlp:Rn PP CB 3 (.tup []) (CQ b' (x::xs)) _ _ (CQ b (x::xs)):=hlp
    generalize x::xs=zs at hlp⊢
    exact sv CB 71 [] (.f<|.x (dj tk)<|.h (.q 3 0)<|.h (.fa 3 [6])<|.lo [ke 0,ke 1,ke 2,ke 6,ch 18 (A3 l),ch 19 (di (I l)),ch 20 (di (0:Nat))] (CQ b zs)) (_/\iz 0<=0/\_/\Q (A3 l)/\di (I (U co l):Int)=di (I l:Int)/\Q (di 0)/\cm 3 [] [G [bm 2 (I zs) 2],G [db b],G (em zs)]=J/\Q (CQ b zs).H/\_) ⟨hLl,Il _,hL0,rfl,by rw[HH],rfl,by simp[cm,D.okNs,D.okN,Aj],rfl,iK hlp⟩
   ·rw[NX hy] at hlp
    rw[Aiy hne hy]
    generalize x::xs=zs at hlp⊢
    exact sv CB 71 [] (.f<|.x (dj tk)<|.h (.q 3 0)<|.h (.fa 3 [6])<|.lo [ke 0,ke 1,ke 2,ke 6,ch 18 (A3 l),ch 19 (di (I l)),ch 20 (di (0:Nat))] (CQ b zs)) (_/\iz 0<=0/\_/\Q (A3 l)/\di (I (U co l):Int)=di (I l:Int)/\Q (di 0)/\cm 3 [] [G [bm 2 (I zs) 2],G [db b],G (em zs)]=J/\Q (CQ b zs).H/\_) ⟨hLl,Il _,hL0,rfl,by rw[HH],rfl,by simp[cm,D.okNs,D.okN,Aj],rfl,iK hlp⟩
noncomputable abbrev MR:=Tryz.f159
noncomputable def RO:=yl MR
def th(a b:b9):Bool:=As a b==0
def El(l:List b9):List b9:=AM th (sortV l)
theorem TP(l:List b9):I (El l)<=I l:=by
 have:=Nl th (sortV l)
 rwa[(AZ l).length_eq] at this
theorem OS{l:List b9}{v:b9}(h:v∈El l):v∈l:=(AZ l).mem_iff.1 (Tz h)
theorem T7:∀(ts:List Tk) (l:List (Int×Int)) {x:List (Int×Int)},x∈So ts l->I x<=I l
 |[],l,x,h=>by grind[So]
 |tk::ts,l,x,h=>by
  obtain⟨y,hy,h⟩:=List.mem_flatMap.1 h
  exact IE (T7 ts y h) (Ac8 hy)
theorem VT:∀{ts:List Tk},I ts<=2->∀{l:List (Int×Int)},I l<=20->I (So ts l)<=20^I ts
 |[],_,l,hl=>by show 1<=1;decide
 |tk::ts,h,l,hl=>by
  have ih:∀L:List (List (Int×Int)),(∀x∈L,I x<=20)->I (L.flatMap (So ts))<=I L*20^I ts:=by
   intro L
   induction L with
   |nil=>grind
   |cons x L ih=>
    intro hx
    have h1:=VT (ts:=ts) (by grind) (hx x (by simp))
    grind[Nat.succ_mul]
  have h1:=ih (VX tk l (I l)) fun x hx=>IE (Ac8 hx) hl
  have h2:=AgA tk l (I l)
  rw[So,HN,Nat.pow_succ,Nat.mul_comm]
  exact IE h1 (Nat.mul_le_mul_right _ (by omega))
theorem VU{ts:List Tk}(ht:I ts<=2){l:List (Int×Int)}(hl:I l<=20):I (So ts l)<=400:=
 IE (VT ht hl) (Nat.pow_le_pow_right (by decide) ht)
def lx(t:cr)(ys:List b9):List b9×Int:=if ys.all (Ai t)=J then(El ys,0) else([],1)
theorem Aeh(m:cz)(t:cr)(hm:mn m t)(i:Nat)(r:cf)(hi:m.av[i]?=G r)(c:b9)(hs:c.size<=1000)(hv:Ai t c=O):F0 159 [Ad m,di i,dV c] (.tup [cq [],di 17]):=by
 have hil:=(HL.1 hi).1
 have hval:=hm.int.valid c (by omega)
 rw[hv] at hval
 exact sv MR 77 [3,5] (.c (di 0)<|.k<|.f<|.f<|.f<|.c (db O) .r) (_/\(m.kind !=5)=O/\Y ((i:Int)<0)=O/\Y ((i:Int)>=(I (U Al m.av):Int))=O/\_/\Q (bk [cq [],di 17])) ⟨hm.chk,by rw[hm.kind];rfl,yq,HM (by rw[HH];omega),hval,rfl⟩
theorem ZB(m:cz)(t:cr)(hm:mn m t)(i:Nat)(r:cf)(hi:m.av[i]?=G r)(c:b9)(hs:c.size<=1000)(hv:Ai t c=J)(s0:b9)(h0:c.az[0]?=G s0)(hf:s0.n≠r.aj):F0 159 [Ad m,di i,dV c] (.tup [cq [],di 0]):=by
 have hil:=(HL.1 hi).1
 have hval:=hm.int.valid c (by omega)
 rw[hv] at hval
 exact sv MR 77 [3,5] (.c (di 0)<|.k<|.f<|.f<|.f<|.c (db J)<|.x (Al r)<|.h (.xs (Ac s0))<|.t .r) (_/\(m.kind !=5)=O/\Y ((i:Int)<0)=O/\Y ((i:Int)>=(I (U Al m.av):Int))=O/\_/\0<=(i:Int)/\(U Al m.av)[Z (i:Int)]?=G (Al r)/\Q 2/\iz 0<=0/\(ce c.az)[Z 0]?=G (Ac s0)/\yp/\(s0.n !=r.aj)=J/\Q (bk [cq [],di 0])) ⟨hm.chk,by rw[hm.kind];rfl,yq,HM (by rw[HH];omega),hval,by omega,Am hi,rfl,Il _,Ap (i:=0) h0,yn,bne_iff_ne.2 hf,rfl⟩
abbrev rC(r:cf):List D:=[.v (.str r.name),di r.aj,di r.to,cx r.am,cx r.ak,cx r.move,di r.chan,di r.act,di r.letter,cx r.path,cx r.next,.v (AD r.ar),cx r.aq,di r.second]
abbrev fy(l:List Int):List (Int×Int):=l.map fun p=>(p,0)
abbrev p6(ms:List Int):List (Nat×Nat×List V):=[(1,2,(fy ms).map co)]
abbrev um(r:cf)(l:List Int):St:=⟨[G (rC r),G [.acc 1 ((fy l).map co)]],p6 l⟩
abbrev WG(b:Bool)(xs:List b9)(n:Nat)(ms:List Int):St:=⟨[none,none,G [.gro 4 n 2],G [db b],G (Ab (xs.map eV))],p6 ms⟩
abbrev uk(n:Nat)(zs:List b9)(R:List D)(ms:List Int):St:=⟨[none,none,G [.gro 4 n 2],G [db J],G (Ab (zs.map eV)++R)],p6 ms⟩
abbrev Ap0(n:Nat)(ms:List Int):St:=⟨[none,none,G [.gro 4 n 2],G [db J],none],p6 ms⟩
abbrev m5(b:Bool)(ms:List Int):St:=⟨[none,none,G [.v .nils],G [db b]],p6 ms⟩
abbrev Sn(m:cz)(r:cf):D:=.dfn 228 [] [.v (.ref (A1 m)),.v (.ref (Al r)),.v (.ref (BU (fy r.aq))),.ptr 2 0,.ptr 3 0]
theorem AjY(F:yx):F0 224 [dl [],dfn F] (dl []):=by
 exact sv mx 66 [] (.t .r) (Y ((I nV:Int)<2)=J/\bt (ai [])=dl []) ⟨by decide,rfl⟩
noncomputable abbrev Aor:=Tryz.f231
theorem ZC(x y:b9)(hx:x.size<=1000):F0 231 [dV x,dV y] (db (As x y==0)):=by
 exact sv Aor 9 [2,3] (.c (di (As x y)) .r) (_/\Q (db (As x y==0))) ⟨Ky _ x y (HP _) (by omega),rfl⟩
theorem Ahz(m:cz)(r:cf)(ps:List (Int×Int)){b b':Bool}{o:yy}{c:Call}{fo:x8}(ho:o.op=.call c)(hc:c.callee=.value fo)
  (h:Aa PP 226 [A3 ps,.v (AD r.ar),Cw m r (fy r.aq)] (jf b) (.tup []) (jf b')):
  Ah PP o [.v (.fn 226 [] []),A3 ps,.v (AD r.ar),Sn m r] (m5 b r.aq) (.tup []) (m5 b' r.aq):=
 B3 (σ:=m5 b r.aq) ho hc (fD:=.v (.fn 226 [] [])) (fs:=[]) (cs:=[]) (ds:=[A3 ps,.v (AD r.ar),Sn m r]) rfl [2,3] id h
  (AI rfl rfl) (.cons rfl (AI rfl rfl) rfl (.cons rfl (AI rfl rfl) rfl .nil)) (by decide) rfl (by simp) (by simp) rfl rfl
theorem Ah0(m:cz)(r:cf)(ps:List (Int×Int)){b b':Bool}{ys:List b9}{o:yy}{c:Call}{fo:x8}(ho:o.op=.call c)(hc:c.callee=.value fo)
  (h:Aa PP 226 [A3 ps,.v (AD r.ar),Cw m r (fy r.aq)] (jf b) (.tup []) (CQ b' ys)):
  Ah PP o [.v (.fn 226 [] []),A3 ps,.v (AD r.ar),Sn m r] (m5 b r.aq) (.tup []) (WG b' ys (I ys) r.aq):=by
 have h2:=B3 (σ:=m5 b r.aq) ho hc (fD:=.v (.fn 226 [] [])) (fs:=[]) (cs:=[]) (ds:=[A3 ps,.v (AD r.ar),Sn m r]) rfl [2,3] id h
  (AI rfl rfl) (.cons rfl (AI rfl rfl) rfl (.cons rfl (AI rfl rfl) rfl .nil)) (by decide) rfl (by simp) (by simp) rfl (by simp[cm,D.okNs,D.okN,Aj])
 have e:Da (d8 4 [2,3]) id (CQ b' ys).H=[G [.gro 4 (I ys) 2],G [db b'],G (Ab (ys.map eV))]:=by
  show [G _,G _,G (D.rens _ _ (Ab (ys.map eV)))]=_
  rw[A6 (Ay _)];rfl
 have h2:Ah PP o _ _ _ ⟨Cx _ _ (Da (d8 4 [2,3]) id (CQ b' ys).H),_⟩:=h2
 rw[e] at h2
 exact h2
theorem Alx(ys:List b9)(hl:I ys<=1000)(hs:∀v∈ys,v.size<=1000000)(ms:List Int){o:yy}{c:Call}{fo:x8}(ho:o.op=.call c)(hc:c.callee=.value fo):
  Ah PP o [.v (.fn 40 [] []),.arr 4 0 (I ys),dfn 41] (WG true ys (I ys) ms) (.tup []) (WG true (sortV ys) (I ys) ms):=by
 have h2:=B3 (σ:=WG true ys (I ys) ms) ho hc (fD:=.v (.fn 40 [] [])) (fs:=[]) (cs:=[]) (ds:=[.arr 4 0 (I ys),dfn 41]) rfl [4] id (FZ ys (by omega) hs)
  (AI rfl rfl) (.cons rfl (AI (Aj _ _ _) (A6 (Ay _)).symm) (CU _) .nil) (by decide) rfl (by simp) (by simp) rfl (by grind[cm,Aj])
 have e:Da (d8 5 [4]) id [G (Ab ((sortV ys).map eV))]=[G (Ab ((sortV ys).map eV))]:=by
  show [G (D.rens _ _ _)]=_
  rw[A6 (Ay _)]
 have h2:Ah PP o _ _ _ ⟨Cx _ _ (Da (d8 5 [4]) id [G (Ab ((sortV ys).map eV))]),_⟩:=h2
 rw[e] at h2
 exact h2
theorem Al1(xs zs:List b9)(n:Nat)(R:List D)(ms:List Int)(hR:D.pls R=J)(hn:I xs=n){F:yx}{o:yy}{c:Call}{fo:x8}(ho:o.op=.call c)(hc:c.callee=.value fo)
  (h:Aa PP 224 [.arr 0 0 (I xs),dfn F] ⟨[G (Ab (xs.map eV))],[]⟩ (.arr 0 0 (I zs)) ⟨[G (Ab (zs.map eV)++R)],[]⟩):
  Ah PP o [.v (.fn 224 [] []),.arr 4 0 n,dfn F] (WG true xs n ms) (.arr 4 0 (I zs)) (uk n zs R ms):=by
 subst hn
 have h2:=B3 (σ:=WG true xs (I xs) ms) ho hc (fD:=.v (.fn 224 [] [])) (fs:=[]) (cs:=[]) (ds:=[.arr 4 0 (I xs),dfn F]) rfl [4] id h
  (AI rfl rfl) (.cons rfl (AI (Aj _ _ _) (A6 (Ay _)).symm) (CU _) .nil) (by decide) rfl (by simp) (by simp) rfl (Ia.2 ⟨AO (TH _ hR),rfl⟩)
 have e:Da (d8 5 [4]) id [G (Ab (zs.map eV)++R)]=[G (Ab (zs.map eV)++R)]:=by
  show [G (D.rens _ _ _)]=_
  grind[A6,TH]
 have h2:Ah PP o _ _ _ ⟨Cx _ _ (Da (d8 5 [4]) id [G (Ab (zs.map eV)++R)]),_⟩:=h2
 rw[e] at h2
 exact h2
noncomputable abbrev w6:=(Oper.mk (G 69) (Op.makeFunc (Fn.func 228) #[] #[Operand.tmp 3,Operand.tmp 9,Operand.tmp 10,Operand.tmp 13,Operand.tmp 14]) 232 "timed.go:83" #[] none)
noncomputable abbrev w8:=(Oper.mk (G 68) (Op.load 50 (Operand.tmp 67)) 50 "timed.go:83" #[Edge.mk 2 Ground.data] none)
noncomputable abbrev wa:=fun a₀ b₀ c₀=>[bt (bz (A1 a₀)),bt (bz (Al b₀)),bt (bz (ai (U co (fy c₀)))),bq 2 0,bq 3 0]
noncomputable abbrev wd:=(Oper.mk (G 67) (Op.fieldAddr 52 (Operand.tmp 9) 11) 0 "timed.go:83" #[] none)
noncomputable abbrev wk:=fun a₀=>(bh [none,none,G [dn],G [db J]] [(1,2,U co (fy a₀))])
theorem ZA(m:cz)(t:cr)(hm:mn m t)(r:cf)(hmk:I r.aq<=50)(htl:I r.ar<=2)(c:b9)(ps:List (Int×Int))(hps:I ps<=20)(htk:F0 227 [dV c] (A3 ps))(ys:List b9)(hY:ys=(So r.ar ps).map fun x=>Ek r.to (x++fy r.aq))(p:List b9×Int)(hp:p=lx t ys):
  ∀(n k:Nat),I r.aq-k=n->Rn PP MR 0 (.tup [cq p.1,di p.2]) ba ([kl RO [1,1,1,1,1,1,0,1,0,0],.blk 1,kc RO [1,1,1,1,1,1,1]]++[]) (cy 77 [(3,.v (.ref (A1 m))),(5,.v (.ref (Ac c))),(9,.ptr 0 0),(10,.ptr 1 0),(53,cx r.aq),(54,di (I r.aq)),(55,di k)]) (um r (r.aq.take k)):=by
 suffices hz:∀(k:Nat),I r.aq-k=0->Rn PP MR 0 (.tup [cq p.1,di p.2]) ba ([kl RO [1,1,1,1,1,1,0,1,0,0],.blk 1,kc RO [1,1,1,1,1,1,1]]++[]) (cy 77 [(3,.v (.ref (A1 m))),(5,.v (.ref (Ac c))),(9,.ptr 0 0),(10,.ptr 1 0),(53,cx r.aq),(54,di (I r.aq)),(55,di k)]) (um r r.aq) by
  intro n
  induction n with
  |zero=>
   intro k hn
   have:=hz k hn
   rw[Im (by omega)];omega
  |succ n ih=>
   intro k hn
   obtain⟨x,hx⟩:∃x,r.aq[k]?=G x:=⟨_,HI (show k<I r.aq by omega)⟩
   have hr:=ih (k+1) (by omega)
   have e:(fy (r.aq.take k)).map co++[ab [vi x,vi 0]]=(fy (r.aq.take (k+1))).map co:=by
    rw[IW,hx];simp
   refine lv 77 [3,5] (.t<|.x (vi x)<|.lo [ke 3,ke 5,ke 9,ke 10,ke 53,ke 54,ch 55 (di (k+1:Nat))] (um r (r.aq.take (k+1)))) (Y ((k:Int)<(I r.aq:Int))=J/\0<=(k:Int)/\(cc r.aq)[Z (k:Int)]?=G (vi x)/\Q (U co (fy (take k r.aq)))/\Ao (I (U co (fy (take k r.aq)))+I (ab (vi x::aa yt 0::nV)::nV)) 16/\di (yu yt ((k:Int)+1))=di (↑(k+1):Int)/\cm 2 [1] [G (rC r),G [br 1 (U co (fy (take k r.aq))++[ab [vi x,vi 0]])]]=J/\[G (rC r),G [br 1 (U co (fy (take k r.aq))++ab (vi x::vi 0::nV)::nV)]]=[G (rC r),G [br 1 (U co (fy (take (k+1) r.aq)))]]/\[(1,2,U co (fy (take k r.aq))++ab (vi x::vi 0::nV)::nV)]=[(1,2,U co (fy (take (k+1) r.aq)))]/\I0 MR 0 (bk [cq p.fst,di p.snd]) ba [kl RO [1,1,1,1,1,1,0,1,0,0],bf 1,kc RO [1,1,1,1,1,1,1]] (cy 77 [(3,bt (iq m)),(5,bt (jy c)),(9,bq 0 0),(10,bq 1 0),(53,cx r.aq),(54,di (I r.aq:Int)),(55,di (↑(k+1):Int))]) (um r (take (k+1) r.aq))) ?_
   rw[e]
   exact⟨yr,by omega,by simp_all,rfl,⟨by simp only[HH,Ip,HN,HR];omega,by simp only[HH,Ip,HN,HR];omega⟩,Ae,rfl,rfl,rfl,⟨hr⟩⟩
 have h1:I ys<=400:=by grind[VU]
 have h2:∀v∈ys,v.size<=1000:=fun v hv=>by
  rw[hY] at hv
  obtain⟨x,hx,rfl⟩:=I2.1 hv
  have:=T7 _ _ hx
  grind[Nr]
 have h3:=Ac6 m t hm.int r (fy r.aq) (by grind) r.ar ps (by omega) true [] ys (ys.all (Ai t)) hY (by grind) (by simp)
 unfold lx at hp
 clear hY
 intro k hn
 cases hb:ys.all (Ai t) with
 |false=>
  rw[hb] at h3 hp
  subst hp
  clear hb
  show Rn PP MR 0 (.tup [cq [],di 1]) ba _ _ _
  by_cases hy:ys=[]
  ·subst hy
   exact lv 77 [3,5] (.f<|.h (.q 20 0)<|.h (.fa 0 [9])<|.h (.f1 1 [10])<|.c (A3 ps)<|.h (.p (.v (.ref (AD r.ar))))<|.h (.p (.v (AD r.ar)))<|.h (.p (Sn m r))<|.h (.oc (.tup []) (m5 false r.aq))<|.k<|.r) (Y ((k:Int)<(I r.aq:Int))=O/\_/\(∀(τ:St),Ah PP wd [bt (bz (Al r))] τ (bt (bz (AD r.ar))) τ)/\(∀(τ:St),Ah PP w8 [bt (bz (AD r.ar))] τ (bt (AD r.ar)) τ)/\(∀(τ:St),Ah PP w6 (wa m r r.aq) τ (Sn m r) τ)/\(N0 [bt kx,A3 ps,bt (AD r.ar),Sn m r] (wk r.aq) (bk []) (m5 false r.aq))/\Q (bk [cq [],di 1])) ⟨yq,htk,fun τ=>FU rfl (fo:=11) (n:=1) (b:=false) (by kernel_rfl) (by decide) (fun _=>rfl) rfl,fun τ=>FT rfl (by unfold PY;kernel_rfl) rfl,fun τ=>FF rfl rfl,fun o cl fo ho hc=>Ahz m r ps ho hc h3,rfl⟩
  ·rw[Ael hy] at h3
   exact lv 77 [3,5] (.f<|.h (.q 20 0)<|.h (.fa 0 [9])<|.h (.f1 1 [10])<|.c (A3 ps)<|.h (.p (.v (.ref (AD r.ar))))<|.h (.p (.v (AD r.ar)))<|.h (.p (Sn m r))<|.h (.oc (.tup []) (WG false ys (I ys) r.aq))<|.k<|.r) (Y ((k:Int)<(I r.aq:Int))=O/\_/\(∀(τ:St),Ah PP wd [bt (bz (Al r))] τ (bt (bz (AD r.ar))) τ)/\(∀(τ:St),Ah PP w8 [bt (bz (AD r.ar))] τ (bt (AD r.ar)) τ)/\(∀(τ:St),Ah PP w6 (wa m r r.aq) τ (Sn m r) τ)/\(N0 [bt kx,A3 ps,bt (AD r.ar),Sn m r] (wk r.aq) (bk []) (WG false ys (I ys) r.aq))/\Q (bk [cq [],di 1])) ⟨yq,htk,fun τ=>FU rfl (fo:=11) (n:=1) (b:=false) (by kernel_rfl) (by decide) (fun _=>rfl) rfl,fun τ=>FT rfl (by unfold PY;kernel_rfl) rfl,fun τ=>FF rfl rfl,fun o cl fo ho hc=>Ah0 m r ps ho hc h3,rfl⟩
 |true=>
  rw[hb] at h3 hp
  subst hp
  clear hb
  by_cases hy:ys=[]
  ·subst hy
   rw[show El []=[] by simp[El,sortV,AM]]
   show Rn PP MR 0 (.tup [cq [],di 0]) ba _ _ _
   refine lv 77 [3,5] (.f<|.h (.q 20 0)<|.h (.fa 0 [9])<|.h (.f1 1 [10])<|.c (A3 ps)<|.h (.p (.v (.ref (AD r.ar))))<|.h (.p (.v (AD r.ar)))<|.h (.p (Sn m r))<|.h (.oc (.tup []) (m5 true r.aq))<|.k<|.c (.tup [])<|.c (dl []) .r) (Y ((k:Int)<(I r.aq:Int))=O/\F0 227 [dV c] (A3 ps)/\(∀(τ:St),Ah PP wd [bt (bz (Al r))] τ (bt (bz (AD r.ar))) τ)/\(∀(τ:St),Ah PP w8 [bt (bz (AD r.ar))] τ (bt (AD r.ar)) τ)/\(∀(τ:St),Ah PP w6 (wa m r r.aq) τ (Sn m r) τ)/\(N0 [bt kx,A3 ps,bt (AD r.ar),Sn m r] (wk r.aq) (bk []) (m5 true r.aq))/\F0 40 [bt (ai []),bt n5] (bk [])/\F0 224 [bt (ai []),bt (bw 231 [] [])] (dl [])/\bk pw=bk [cq [],di 0]) ?_
   exact⟨yq,htk,fun τ=>FU rfl (fo:=11) (n:=1) (b:=false) (by kernel_rfl) (by decide) (fun _=>rfl) rfl,fun τ=>FT rfl (by unfold PY;kernel_rfl) rfl,fun τ=>FF rfl rfl,fun o cl fo ho hc=>Ahz m r ps ho hc h3,Md,AjY _,rfl⟩
  ·rw[Ael hy] at h3
   obtain⟨R,c3,_,c4⟩:=An6 231 (sortV ys) th (by rw[(AZ ys).length_eq];omega) (fun x hx y hy=>ZC x y (h2 x ((AZ ys).mem_iff.1 hx)))
   rw[show AM th (sortV ys)=El ys from rfl] at c4
   generalize El ys=zs at c4⊢
   show Rn PP MR 0 (.tup [cq zs,di 0]) ba _ _ _
   exact lv 77 [3,5] (.f<|.h (.q 20 0)<|.h (.fa 0 [9])<|.h (.f1 1 [10])<|.c (A3 ps)<|.h (.p (.v (.ref (AD r.ar))))<|.h (.p (.v (AD r.ar)))<|.h (.p (Sn m r))<|.h (.oc (.tup []) (WG true ys (I ys) r.aq))<|.k<|.h (.q 24 1)<|.h (.ga 73)<|.h (.oc (.tup []) (WG true (sortV ys) (I ys) r.aq))<|.h (.q 25 1)<|.h (.ga 75)<|.h (.oc (.arr 4 0 (I zs)) (uk (I ys) zs R r.aq))<|.h (.q 25 2)<|.h (.ct 76 (cq zs) (Ap0 (I ys) r.aq)) .r) (Y ((k:Int)<(I r.aq:Int))=O/\_/\(∀(τ:St),Ah PP wd [bt (bz (Al r))] τ (bt (bz (AD r.ar))) τ)/\(∀(τ:St),Ah PP w8 [bt (bz (AD r.ar))] τ (bt (AD r.ar)) τ)/\(∀(τ:St),Ah PP w6 (wa m r r.aq) τ (Sn m r) τ)/\(N0 [bt kx,A3 ps,bt (AD r.ar),Sn m r] (wk r.aq) (bk []) (WG true ys (I ys) r.aq))/\(N0 [bt Ar0,bo 4 0 (I ys),bt n5] (bh [none,none,G [bm 4 (I ys) 2],G [db J],G (em ys)] (p6 r.aq)) (bk []) (WG true (sortV ys) (I ys) r.aq))/\(N0 [bt (bw 224 [] []),bo 4 0 (I ys),bt (bw 231 [] [])] (WG true (sortV ys) (I ys) r.aq) (bo 4 0 (I zs)) (uk (I ys) zs R r.aq))/\(∀(e:List D),e[76]?=G (bo 4 0 (I zs))->∀(E:cd) (g:Gh) (a:Act) (w:x5),FI E g (uk (I ys) zs R r.aq) e a w->∃g',FI E g' (Ap0 (I ys) r.aq) (List.set e 76 (cq zs)) a w)/\Q (bk [cq zs,di 0])) ⟨yq,htk,fun τ=>FU rfl (fo:=11) (n:=1) (b:=false) (by kernel_rfl) (by decide) (fun _=>rfl) rfl,fun τ=>FT rfl (by unfold PY;kernel_rfl) rfl,fun τ=>FF rfl rfl,fun o cl fo ho hc=>Ah0 m r ps ho hc h3,fun o cl fo ho hc=>Alx ys (by omega) (fun v hv=>by have:=h2 v hv;omega) r.aq ho hc,fun o cl fo ho hc=>Al1 (sortV ys) zs (I ys) R r.aq c3 (AZ ys).length_eq ho hc c4,fun e he=>Tx (σ:=uk (I ys) zs R r.aq) (q:=4) (sz:=2) (by decide) (CX _) (by rw[HH]) rfl he,rfl⟩
def Z1(r:cf)(c:b9):List b9:=(So r.ar (Qg (c.az.getD 1 e8))).map fun x=>Ek r.to (x++fy r.aq)
def Qy(t:cr)(r:cf)(c:b9):List b9×Int:=if Ai t c=J then(if (c.az.getD 0 e8).n=r.aj then lx t (Z1 r c) else([],0)) else([],17)
theorem Z0{r:cf}{c:b9}(hc:vd c)(hr:I r.ar<=2/\r.aq.length<=1):I (Z1 r c)<=400/\∀v∈Z1 r c,v.size<=1000:=by
 obtain⟨b,hb⟩:∃x,c.az[1]?=G x:=⟨_,HI (by rw[hc.len];omega)⟩
 have hb12:=hc.few b hb
 have e1:c.az.getD 1 e8=b:=by grind
 have hpl:=Pr b
 rw[Z1,e1]
 refine⟨by grind[VU],fun v hv=>?_⟩
 obtain⟨x,hx,rfl⟩:=I2.1 hv
 have:=T7 _ _ hx
 grind[Nr]
theorem Z2{t:cr}{r:cf}{c:b9}(hc:Ai t c=J->vd c)(hr:I r.ar<=2/\r.aq.length<=1):(Qy t r c).1.length<=400/\∀v∈ (Qy t r c).1,v.size<=1000:=by
 grind[Qy,lx,Z0,TP,OS]
theorem Z9(m:cz)(t:cr)(hm:mn m t)(i:Nat)(r:cf)(hi:m.av[i]?=G r)(c:b9)(hs:c.size<=1000):F0 159 [Ad m,di i,dV c] (.tup [cq (Qy t r c).1,di (Qy t r c).2]):=by
 have hir:=(HL.1 hi).1
 unfold Qy
 cases hv:Ai t c with
 |false=>rw[HZ (by decide)];exact Aeh m t hm i r hi c hs hv
 |true=>
  rw[Ie rfl]
  have hsh:=hm.shape c hv
  obtain⟨s0,h0⟩:∃x,c.az[0]?=G x:=⟨_,HI (by rw[hsh.len];omega)⟩
  obtain⟨b,hb⟩:∃x,c.az[1]?=G x:=⟨_,HI (by rw[hsh.len];omega)⟩
  have e0:c.az.getD 0 e8=s0:=by rw[HQ,h0];rfl
  have e1:c.az.getD 1 e8=b:=by rw[HQ,hb];rfl
  rw[e0]
  by_cases hf:s0.n=r.aj
  ·rw[Ie hf]
   have hb12:=hsh.few b hb
   have hru:=hm.rule r (HO hi)
   have hpl:=Pr b
   have ht:=U0 c b hb (by omega) (Qg b) hpl (Aa4 b fun v hv=>hsh.toks b v hb hv)
   have p3:=ZA m t hm r (by omega) hru.1 c (Qg b) (by omega) ht (Z1 r c) (by rw[Z1,e1]) _ rfl
   generalize lx t (Z1 r c)=p at p3⊢
   have hil:=hir
   have hval:=hm.int.valid c (by omega)
   rw[hv] at hval
   exact sv MR 77 [3,5] (.c (di 0)<|.k<|.f<|.f<|.f<|.c (db J)<|.x (Al r)<|.h (.xs (Ac s0))<|.f<|.h (.q 14 0)<|.h (.cl 1 0 1 2)<|.lo [ke 3,ke 5,ke 9,ke 10,ch 53 (cx r.aq),ch 54 (di (I r.aq)),ch 55 (di (0:Nat))] (um r [])) (_/\(m.kind !=5)=O/\Y ((i:Int)<0)=O/\Y ((i:Int)>=(I (U Al m.av):Int))=O/\_/\0<=(i:Int)/\(U Al m.av)[Z (i:Int)]?=G (Al r)/\Q 2/\iz 0<=0/\(ce c.az)[Z 0]?=G (Ac s0)/\yp/\(s0.n !=r.aj)=O/\Q (cx r.aq)/\di (I (cc r.aq):Int)=di (I r.aq:Int)/\Q (di 0)/\cm 2 [1] [G [bt (ae r.name),di r.aj,di r.to,cx r.am,cx r.ak,cx r.move,di r.chan,di r.act,di r.letter,cx r.path,cx r.next,bt (AD r.ar),cx r.aq,di r.second],G [br 1 []]]=J/\Q [G (rC r),G [br 1 nV]]/\Q [(1,2,nV)]/\_) ⟨hm.chk,by rw[hm.kind];rfl,yq,HM (by rw[HH];omega),hval,by omega,Am hi,rfl,Il _,Ap (i:=0) h0,yn,by rw[hf];exact bne_self_eq_false _,rfl,by rw[HH],rfl,rfl,rfl,rfl,iK (p3 _ 0 rfl)⟩
  ·rw[HZ hf]
   exact ZB m t hm i r hi c hs hv s0 h0 hf
theorem AcV{ap:Int->List b9×Int}{Q:c9->Prop}(hq:∀i,∀v∈ (ap i).1,Q (i,v)):∀(n:Nat) (i:Int) (acc:List c9),(∀s∈acc,Q s)->(CV ap n i acc).1.length<=256/\∀s∈ (CV ap n i acc).1,Q s
 |0,i,acc,ha=>by
  grind[CV]
 |n+1,i,acc,ha=>by
  rw[CV]
  split
  ·grind
  ·exact AcV hq n (i+1) (acc++(ap i).1.map fun v=>(i,v)) (fun s hs=>by
    grind)
def xy(p:List b9×Int):Prop:=I p.1<=1000/\∀v∈p.1,v.size<=1000
theorem Afr{p:b9×Int}(h:p.1.size<=1000):xy (Cu p):=by
 grind[Cu,xy]
structure mm(m:cz)(t:cr)(ap:b9->Int->List b9×Int):Prop where
 int:Sf m t
 chk:F0 84 [Ad m] (di 0)
 kind:m.kind≠6
 few:I m.av<=12
 bp:∀c:b9,Ai t c=J->∀i:Int,xy (ap c i)
 beh:∀c:b9,c.size<=1000->Ai t c=J->∀i:Int, -1<=i->i<I m.av->F0 91 [Ad m,di i,dV c] (dq (ap c i))
theorem Aoa{m:cz}{t:cr}{ap:b9->Int->List b9×Int}(hm:mm m t ap):F0 141 [Ad m] (di 0):=by
 exact sv Ajl 12 [1] (.c (di 0)<|.k<|.f .r) (_/\(m.kind==6)=O/\Q (di 0)) ⟨hm.chk,Iy.2 hm.kind,rfl⟩
theorem Aob{m:cz}{t:cr}{ap:b9->Int->List b9×Int}(hm:mm m t ap)(c:b9)(hs:c.size<=1000):F0 90 [Ad m,dV c] (di (if Ai t c=J then 0 else 17)):=by
 have h1:=hm.int.valid c (by omega)
 cases hv:Ai t c with
 |true=>
  refine sv AfZ 15 [2,3] (.c (di 0)<|.c (db J) .r) (s8 m/\s9 m c/\Q (di 0)) ?_
  grind[Aoa]
 |false=>
  refine sv AfZ 15 [2,3] (.c (di 0)<|.c (db O) .r) (s8 m/\F0 47 [Ad m,dV c] (db O)/\Q (di 17)) ?_
  grind[Aoa]
def Q7(m:cz)(t:cr)(ap:b9->Int->List b9×Int)(c:b9):List c9×Int:=if Ai t c=J then CV (ap c) (I m.av+1) (-1) [] else([],17)
theorem Ale{m:cz}{t:cr}{ap:b9->Int->List b9×Int}(hm:mm m t ap)(c:b9)(hs:c.size<=1000):((Q7 m t ap c).1.length<=256/\∀s∈ (Q7 m t ap c).1,s.2.size<=1000)/\F0 50 [Ad m,dV c] (fp (Q7 m t ap c)):=by
 have hc:=Aob hm c hs
 unfold Q7
 cases hv:Ai t c with
 |false=>
  rw[hv] at hc
  have hc:F0 90 [Ad m,dV c] (di 17):=hc
  rw[HZ (by decide)]
  refine⟨⟨by simp,by simp⟩,?_⟩
  exact sv GB 53 [2,3] (.c (di 17) .r) (_/\bk [bt (ai []),di 17]=fp ([],17)) ⟨hc,rfl⟩
 |true=>
  rw[hv] at hc
  have hc:F0 90 [Ad m,dV c] (di 0):=hc
  rw[Ie rfl]
  have hb:=hm.bp c hv
  have hap:=fun i h1 h2=>hm.beh c hs hv i h1 h2
  generalize ap c=ap at hb hap⊢
  refine⟨AcV (ap:=ap) (Q:=fun s=>s.2.size<=1000) (fun i v hv=>(hb i).2 v hv) (I m.av+1) (-1) [] (by simp),?_⟩
  refine sv GB 53 [2,3] (.c (di 0)<|.h (.q 5 0)<|.h (.nw 7 1 3)<|.ls sa (FE [])) (_/\Q (di (-1))/\Q [(1,3,nV)]/\I0 GB (I ba.H) (fp (CV ap (I m.av+1) (-1) [])) ba [kl Dk iv,bf 0,kc Dk [1,1,1,1]] (cy 53 (tx m c)) (FE [])) ⟨hc,rfl,rfl,⟨?_⟩⟩
  exact Mg m hm.few c ap (fun i=>(hb i).1) (fun i h1 h2=>hap i h1 h2) (I m.av+1) (-1) [] (by omega) (by omega) (by omega) (by simp)
theorem ApM{m:cz}{c:b9}(hk:m.kind=2∨m.kind=3){l:List b9}(hl:F0 214 [Ad m,dV c] (dq (l,0))):F0 155 [Ad m,dV c] (cq l):=by
 rcases hk with hk|hk
 ·refine sv t8 31 [2,3] (.t<|.c (dq (l,0)) .r) ((m.kind==2)=J/\F0 214 [Ad m,dV c] (dq (l,0))/\bt (dt (l,0).fst)=cq l) ?_
  grind
 ·refine sv t8 31 [2,3] (.f<|.t<|.c (dq (l,0)) .r) ((m.kind==2)=O/\(m.kind==3)=J/\F0 214 [Ad m,dV c] (dq (l,0))/\bt (dt (l,0).fst)=cq l) ?_
  grind
theorem ApL{m:cz}{c:b9}(hk:m.kind=5){v:b9}(hl:F0 215 [Ad m,dV c] (.tup [dV v,di 0])):F0 155 [Ad m,dV c] (cq [v]):=by
 refine sv t8 31 [2,3] (.f<|.f<|.t<|.c (.tup [dV v,di 0]) .r) ((m.kind==2)=O/\(m.kind==3)=O/\(m.kind==5)=J/\F0 215 [Ad m,dV c] (bk [dV v,di 0])/\bt (ai [ab [vi v.n,dt v.az]])=cq [v]) ?_
 grind[AG]
theorem AhT{m:cz}{c:b9}{l:List b9}(h:F0 155 [Ad m,dV c] (cq l)):F0 91 [Ad m,di (-1),dV c] (dq (l,0)):=by
 refine sv pr 56 [3,5] (.c (cq l) .r) (F0 155 [Ad m,dV c] (cq l)/\bk [cq l,di 0]=dq (l,0)) ?_
 grind
theorem Aqt{m:cz}(hk:m.kind=2∨m.kind=3)(i:Nat)(c:b9)(p:b9×Int)(hp:F0 160 [Ad m,di i,dV c] (dP p)):F0 91 [Ad m,di i,dV c] (dq (Cu p)):=by
 refine sv pr 56 [3,5] (.f<|.f<|.f<|.f<|.c (dP p)<|.c (dq (Cu p)) .r) (((i:Int)== -1)=O/\(m.kind==1)=O/\(m.kind==4)=O/\(m.kind==5)=O/\F0 160 [Ad m,di (i:Int),dV c] (dP p)/\F0 156 [dV p.fst,di p.snd] (dq (Cu p))/\bk [bt (dt (Cu p).fst),di (Cu p).snd]=dq (Cu p)) ?_
 grind[Mc]
theorem Aqs{m:cz}(hk:m.kind=5)(i:Nat)(c:b9)(p:List b9×Int)(hp:F0 159 [Ad m,di i,dV c] (dq p)):F0 91 [Ad m,di i,dV c] (dq p):=by
 refine sv pr 56 [3,5] (.f<|.f<|.f<|.t<|.c (dq p) .r) (((i:Int)== -1)=O/\(m.kind==1)=O/\(m.kind==4)=O/\(m.kind==5)=J/\F0 159 [Ad m,di (i:Int),dV c] (dq p)/\bk [cq p.fst,di p.snd]=dq p) ?_
 grind
def i5(m:cz)(t:cr)(c:b9)(i:Int):List b9×Int:=if i<0 then(sortV (fq m c (I m.ay)),0) else match m.av[i.toNat]? with
 |some r=>Cu (YH t r c)
 |none=>([],0)
theorem nf.st{m:cz}{t:cr}(hm:nf m t)(hr:I m.au<=1000):mm m t (i5 m t):=by
 refine⟨hm.int,hm.chk,by rcases hm.kind with h|h<;>(rw[h];decide),hm.few.1,fun c hv i=>?_,fun c hs hv i h1 h2=>?_⟩
 ·have hsh:=hm.shape c hv
  have hl:=hsh.len
  have h2:=hm.few.2
  unfold i5
  split
  ·have hlen:=P6 m c (I m.ay)
   refine⟨by show(sortV _).length<=1000;rw[(AZ _).length_eq];omega,fun v hv=>?_⟩
   have:=P5 hsh.size (by omega) ((AZ _).mem_iff.1 hv)
   omega
  ·split
   ·rename_i r hr
    have:=hsh.size
    exact Afr (Wc m t hm _ r hr c (by omega)).1
   ·exact⟨by simp,by simp⟩
 ·unfold i5
  by_cases h0:i<0
  ·have:i= -1:=by omega
   subst this
   exact AhT (ApM hm.kind (Af9 m t hm hr c hv))
  ·obtain⟨k,rfl⟩:∃k:Nat,i=k:=⟨i.toNat,by omega⟩
   have hk:k<I m.av:=by omega
   have hr:m.av[k]?=G m.av[k]:=HI hk
   rw[HZ h0,show((k:Nat):Int).toNat=k by omega,hr]
   exact Aqt hm.kind k c _ (Wc m t hm k _ hr c hs).2
def Sq(m:cz)(t:cr)(c:b9)(i:Int):List b9×Int:=if i<0 then([nz m c],0) else match m.av[i.toNat]? with
 |some r=>Qy t r c
 |none=>([],0)
theorem mn.st{m:cz}{t:cr}(hm:mn m t):mm m t (Sq m t):=by
 refine⟨hm.int,hm.chk,by rw[hm.kind];decide,hm.few,fun c hv i=>?_,fun c hs hv i h1 h2=>?_⟩
 ·unfold Sq
  split
  ·grind[U2,xy]
  ·split
   ·rename_i r hr
    have:=Z2 (t:=t) (r:=r) (fun _=>hm.shape c hv) (hm.rule r (HO hr))
    exact⟨by omega,this.2⟩
   ·exact⟨by simp,by simp⟩
 ·unfold Sq
  by_cases h0:i<0
  ·have:i= -1:=by omega
   subst this
   exact AhT (ApL hm.kind (U2 m t hm c hv).2)
  ·obtain⟨k,rfl⟩:∃k:Nat,i=k:=⟨i.toNat,by omega⟩
   have hk:k<I m.av:=by omega
   have hr:m.av[k]?=G m.av[k]:=HI hk
   rw[HZ h0,show((k:Nat):Int).toNat=k by omega,hr]
   exact Aqs hm.kind k c _ (Z9 m t hm k _ hr c hs)
def dx(s:Int)(ws:List (List Int)):b9:=.mk 0 (lf s::ws.map c7)
structure ja(m:cz)(s:Int)(ws:List (List Int)):Prop where
 st:0<=s/\s<I m.aw
 len:I ws=I m.ay
 word:∀w∈ws,I w<=12/\∀x∈w,0<=x/\x<I m.ax
theorem GX{n:Int}{v:b9}(h:CA n v=J):v=lf v.n/\0<=v.n/\v.n<n:=by
 simp only[CA,HJ,HS,Iv] at h
 obtain⟨h1,h2,h3⟩:=h
 cases v with
 |mk a ks=>
  have h3:(I ks:Int)=0:=h3
  have:ks=[]:=List.eq_nil_of_length_eq_zero (by omega)
  subst this
  exact⟨rfl,h1,h2⟩
theorem Vz{n x:Int}(h:0<=x/\x<n):CA n (lf x)=J:=by
 grind[CA,b9.n,b9.az]
theorem Rb{n:Int}:∀{ks:List b9},(ks.all fun k=>CA n k)=J->∃w:List Int,ks=w.map lf/\∀x∈w,0<=x/\x<n
 |[],_=>⟨[],rfl,by simp⟩
 |k::ks,h=>by
  simp only[all_cons,HJ] at h
  obtain⟨h1,h2,h3⟩:=GX h.1
  obtain⟨w,e,hw⟩:=Rb h.2
  refine⟨k.n::w,?_,fun x hx=>?_⟩
  all_goals grind
theorem Agl{m:cz}(hk:m.kind=2∨m.kind=3){v:b9}(h:Ax (EI m) v=J):∃w:List Int,v=c7 w/\w.length<=12/\∀x∈w,0<=x/\x<I m.ax:=by
 have h2:v.n=0/\(I v.az:Int)<=12/\(v.az.all fun k=>CA (I m.ax) k)=J:=by
  grind[EI,Ax]
 obtain⟨h1,h3,h4⟩:=h2
 obtain⟨w,e,hw⟩:=Rb h4
 cases v<;>grind[b9.n,b9.az]
theorem AmP{m:cz}(hk:m.kind=2∨m.kind=3){w:List Int}(h1:I w<=12)(h2:∀x∈w,0<=x/\x<I m.ax):Ax (EI m) (c7 w)=J:=by
 have h4:((w.map lf).all fun k=>CA (I m.ax) k)=J:=I5.2 fun k hk=>by
  grind[Vz]
 grind[EI,Ax,b9.n,b9.az]
theorem R7{m:cz}(hk:m.kind=2∨m.kind=3):∀(n:Nat) (vs:List b9),I vs=n->BM (replicate n (EI m)) vs=J->∃ws:List (List Int),vs=ws.map c7/\∀w∈ws,I w<=12/\∀x∈w,0<=x/\x<I m.ax
 |0,vs,hl,_=>⟨[],by grind,by simp⟩
 |n+1,[],hl,_=>by grind
 |n+1,v::vs,hl,h=>by
  simp only[IC,BM,HJ] at h
  obtain⟨w,e,h1,h2⟩:=Agl hk h.1
  obtain⟨ws,e2,h3⟩:=R7 hk n vs (by grind) h.2
  refine⟨w::ws,by grind,fun x hx=>?_⟩
  grind
theorem Acb{m:cz}(hk:m.kind=2∨m.kind=3):∀(ws:List (List Int)),(∀w∈ws,I w<=12/\∀x∈w,0<=x/\x<I m.ax)->BM (replicate (I ws) (EI m)) (ws.map c7)=J
 |[],_=>rfl
 |w::ws,h=>by
  simp only[HN,IC,Ik,BM,HJ]
  exact⟨AmP hk (h w (by simp)).1 (h w (by simp)).2,Acb hk ws fun x hx=>h x (by grind)⟩
theorem TN(w:List Int):(c7 w).size=1+I w:=by rw[b9.size,JG]
theorem TM:∀(ws:List (List Int)),(∀w∈ws,I w<=12)->b9.sizes (ws.map c7)<=13*I ws
 |[],_=>HP _
 |w::ws,h=>by
  have h2:=TM ws fun z hz=>h z (by simp[hz])
  grind[TN,b9.sizes]
theorem T8{m:cz}(hk:m.kind=2∨m.kind=3){c:b9}(h:Ai (AH m) c=J):∃s ws,c=dx s ws/\ja m s ws:=by
 simp only[Ai,AH,Ax,HJ,HS,Iv] at h
 obtain⟨_,h2,h3,h4⟩:=h
 cases c with
 |mk a ks=>
  simp only[b9.n,b9.az] at h2 h3 h4
  subst h2
  cases ks with
  |nil=>grind
  |cons k ks=>
   simp only[BM,HJ] at h4
   simp only[HN,List.length_replicate] at h3
   obtain⟨l1,l2⟩:=GX (by simpa[Ax] using h4.1)
   obtain⟨ws,e,hw⟩:=R7 hk (I m.ay) ks (by omega) h4.2
   refine⟨k.n,ws,by grind[dx],l2,?_,hw⟩
   grind
theorem EY{m:cz}(hk:m.kind=2∨m.kind=3)(hp:I m.ay<=2){s:Int}{ws:List (List Int)}(h:ja m s ws):Ai (AH m) (dx s ws)=J:=by
 have hz:=TM ws fun w hw=>(h.word w hw).1
 have hl:=h.len
 have h4:=Acb hk ws h.word
 rw[hl] at h4
 simp only[Ai,AH,Ax,dx,b9.n,b9.az,HJ,Iv,BM]
 refine⟨?_,trivial,?_,Vz h.st,h4⟩
 all_goals grind[b9.sizes,b9.size]
theorem KC(w:List Int):AP (c7 w)=w:=Abl w
theorem Gs(s:Int)(ws:List (List Int)):(dx s ws).az.getD 0 e8=lf s:=rfl
theorem J9{s:Int}{ws:List (List Int)}{k:Nat}{w:List Int}(h:ws[k]?=G w):(dx s ws).az.getD (1+k) e8=c7 w:=by
 grind[b9.az,dx]
theorem Gr{s:Int}{ws:List (List Int)}{k:Nat}{w:List Int}(h:ws[k]?=G w)(s':Int)(w':List Int):HG (dx s ws) k s' w'=dx s' (ws.set k w'):=by
 rw[HG,Gs,J9 h,dx,BT]
 grind[dx,map_set,b9.n,b9.az]
theorem RM{m:cz}(hk:m.kind=2∨m.kind=3)(hp:I m.ay<=2){s:Int}{ws:List (List Int)}(h:ja m s ws){r:cf}{k:Nat}(hrk:r.chan=k){w:List Int}(hw:ws[k]?=G w):
  YH (AH m) r (dx s ws)=if ((s==r.aj)&&((r.act !=2)||w.head?==G r.letter))=J then
   if (r.act==1)=J then(if ((I w:Int)==12)=J then(e8,1) else(dx r.to (ws.set k (w++[r.letter])),0))
   else if (r.act==2)=J then(dx r.to (ws.set k (w.drop 1)),0) else(dx r.to (ws.set k w),0)
  else(e8,18):=by
 have ek:r.chan.toNat=k:=by omega
 unfold YH Aph
 rw[Ie (EY hk hp h),ek,Gs,J9 hw,KC]
 simp only[Gr hw]
 rfl
theorem Vw{m:cz}{s:Int}{ws:List (List Int)}(hl:I ws=I m.ay):∀K:Nat,K<=I ws->∀v,v∈fq m (dx s ws) K↔∃k w w',k<K/\ws[k]?=G w/\w'∈EK m w/\v=dx s (ws.set k w'):=by
 intro K hK v
 simp only[fq,List.mem_flatMap,List.mem_range,I2]
 constructor
 ·rintro ⟨k,hk,w',h1,rfl⟩
  obtain⟨w,hw⟩:=yk (show k<I ws by omega)
  rw[J9 hw,KC] at h1
  exact⟨k,w,w',hk,hw,h1,by rw[gh,Gs,Gr hw];rfl⟩
 ·rintro ⟨k,w,w',hk,hw,h1,rfl⟩
  refine⟨k,hk,w',?_,?_⟩
  ·rw[J9 hw,KC];exact h1
  ·rw[gh,Gs,Gr hw];rfl
theorem T9{s s':Int}{ws ws':List (List Int)}(h:dx s ws=dx s' ws'):s=s'/\ws=ws':=by
 grind[dx,List.map_inj_right]
theorem Ol{m:cz}{w w':List Int}(h:w'∈EK m w):I w'+1=I w/\∀x∈w',x∈w:=by
 have hd:∀i,i<I w->I (fe w i)+1=I w/\∀x∈fe w i,x∈w:=fun i hi=>by
  grind[fe]
 unfold EK at h
 split at h
 ·unfold Gf at h
  split at h
  ·obtain⟨i,hi,rfl⟩:=I2.1 (((ER _).2 w').1 h)
   grind
  grind
 ·unfold FW at h
  split at h
  ·obtain⟨i,hi,rfl⟩:=I2.1 (((ER _).2 w').1 h)
   grind
  grind
theorem Yl(m:cz)(w:List Int):(EK m w).Nodup:=by
 grind[EK,Gf,FW,Nu,LI,ER]
theorem Abn{m:cz}{s:Int}{ws:List (List Int)}(hl:I ws=I m.ay):∀K:Nat,K<=I ws->(fq m (dx s ws) K).Nodup:=by
 intro K
 induction K with
 |zero=>intro _;exact .nil
 |succ K ih=>
  intro hK
  obtain⟨w,hw⟩:=yk (show K<I ws by omega)
  rw[LB,J9 hw,KC]
  refine List.nodup_append.2 ⟨ih (by omega),?_,fun a ha b hb e=>?_⟩
  ·grind[Yl,gh,Gr,T9,List.getElem?_set_self]
  ·obtain⟨k,u,u',hk,hu,h1,rfl⟩:=(Vw hl K (by omega) a).1 ha
   obtain⟨w',h2,rfl⟩:=I2.1 hb
   rw[gh,Gs,Gr hw] at e
   have:=Ih (fun l=>l[k]?) (T9 e).2
   have h3:=(Ol h1).1
   grind
theorem U9(l:List b9):(sortV l).Pairwise fun a b=>As a b<=0:=by grind[KZ]
theorem Abm{m:cz}{s:Int}{ws:List (List Int)}(hl:I ws=I m.ay):j9 As (sortV (fq m (dx s ws) (I m.ay)))/\∀v,v∈sortV (fq m (dx s ws) (I m.ay))↔∃k w w',ws[k]?=G w/\w'∈EK m w/\v=dx s (ws.set k w'):=by
 grind[Abn,AcO,B6,U9,AZ,Vw]
theorem ja.set{m:cz}{s:Int}{ws:List (List Int)}(h:ja m s ws){s':Int}(hs:0<=s'/\s'<I m.aw)(k:Nat){w:List Int}(h1:I w<=12)(h2:∀x∈w,0<=x/\x<I m.ax):ja m s' (ws.set k w):=
 ⟨hs,by rw[length_set];exact h.len,fun u hu=>by
  rcases IN hu with hu|rfl
  ·exact h.word u hu
  grind⟩
structure wz(m:cz)(r:cf):Prop where
 to:0<=r.to/\r.to<I m.aw
 chan:0<=r.chan/\r.chan<I m.ay
 letter:r.act=1->0<=r.letter/\r.letter<I m.ax
theorem Aj6{m:cz}(hk:m.kind=2∨m.kind=3)(hp:I m.ay<=2){s:Int}{ws:List (List Int)}(h:ja m s ws){r:cf}(hr:wz m r):
  ((YH (AH m) r (dx s ws)).2=0/\∃s' ws',(YH (AH m) r (dx s ws)).1=dx s' ws'/\ja m s' ws')∨(YH (AH m) r (dx s ws)).2=1∨(YH (AH m) r (dx s ws)).2=18:=by
 obtain⟨k,hrk⟩:∃k:Nat,r.chan=k:=⟨r.chan.toNat,by have:=hr.chan;omega⟩
 obtain⟨w,hw⟩:∃w,ws[k]?=G w:=⟨_,HI (by have:=hr.chan;rw[h.len];omega)⟩
 have hww:=h.word w (HO hw)
 rw[RM hk hp h hrk hw]
 split
 ·split
  ·rename_i h1
   split
   ·omega
   ·rename_i h2
    have h2:¬(I w:Int)=12:=by grind
    refine .inl ⟨rfl,_,_,rfl,h.set hr.to k (by grind) fun x hx=>?_⟩
    rcases I6.1 hx with hx|hx
    ·grind
    ·rw[HY.1 hx];exact hr.letter (by grind)
  ·split
   ·exact .inl ⟨rfl,_,_,rfl,h.set hr.to k (by grind) fun x hx=>hww.2 x (List.mem_of_mem_drop hx)⟩
   ·exact .inl ⟨rfl,_,_,rfl,h.set hr.to k hww.1 hww.2⟩
 omega
theorem AlI{m:cz}{s:Int}{ws:List (List Int)}(h:ja m s ws){v:b9}(hv:v∈sortV (fq m (dx s ws) (I m.ay))):∃ws',v=dx s ws'/\ja m s ws':=by
 obtain⟨k,w,w',hw,h1,rfl⟩:=((Abm h.len).2 v).1 hv
 have hww:=h.word w (HO hw)
 obtain⟨d1,d2⟩:=Ol h1
 exact⟨_,rfl,h.set h.st k (by omega) fun x hx=>hww.2 x (d2 x hx)⟩
theorem Wn{ap:Int->List b9×Int}{Q:c9->Prop}(hq:∀i,∀v∈ (ap i).1,Q (i,v))(n:Nat)(i:Int):∀s∈ (CV ap n i []).1,Q s:=(AcV hq n i [] (by simp)).2
theorem AcQ{m:cz}(hk:m.kind=2∨m.kind=3)(hp:I m.ay<=2)(hr:∀r∈m.av,wz m r){c:b9}(hc:Ai (AH m) c=J)(i:Int):((i5 m (AH m) c i).2=0∨(i5 m (AH m) c i).2=1)/\∀v∈ (i5 m (AH m) c i).1,Ai (AH m) v=J:=by
 grind[T8,i5,AlI,EY,Aj6,Cu]
def d5(s:Int)(ps:List (Int×Int)):b9:=.mk 0 [lf s,.mk 0 (ps.map pV)]
def BK(l:List (Int×Int)):List (Int×Int):=l.mergeSort fun a b=>Y (As (pV a) (pV b)<=0)
theorem H9(l:List (Int×Int)):(BK l).Perm l:=List.mergeSort_perm l _
theorem UV(l:List (Int×Int)):((BK l).map pV).Pairwise fun a b=>As a b<=0:=
 by grind[List.pairwise_mergeSort,ED,JS,BK]
theorem U8(l:List (Int×Int)):sortV (l.map pV)=(BK l).map pV:=
 by grind[Ph,H9,UV]
theorem AcJ(s:Int)(l:List (Int×Int)):Ek s l=d5 s (BK l):=by rw[Ek,U8];rfl
structure qv(m:cz)(s:Int)(ps:List (Int×Int)):Prop where
 st:0<=s/\s<I m.aw
 len:I ps<=12
 tok:∀p∈ps,(0<=p.1/\p.1<I m.ay)/\0<=p.2/\p.2<m.age+2
 srt:(ps.map pV).Pairwise fun a b=>As a b<=0
theorem TZ{ks:List b9}(h:(I ks:Int)=2):∃x y,ks=[x,y]:=by
 match ks,h with
 |[x,y],_=>grind
abbrev ug(m:cz):cr:=.prod [.lab (I m.ay),.lab (m.age+2)]
theorem AdT{m:cz}{v:b9}(h:Ax (ug m) v=J):∃p:Int×Int,v=pV p/\(0<=p.1/\p.1<I m.ay)/\0<=p.2/\p.2<m.age+2:=by
 simp only[Ax,HJ,Iv] at h
 obtain⟨h1,h2,h3⟩:=h
 cases v with
 |mk a ks=>
  subst h1
  obtain⟨x,y,rfl⟩:=TZ h2
  ·have h3:=Ia.1 h3
   have h4:=Ia.1 h3.2
   obtain⟨x1,x2⟩:=GX (by simpa[Ax] using h3.1)
   obtain⟨y1,y2⟩:=GX (by simpa[Ax] using h4.1)
   exact⟨(x.n,y.n),by show _=b9.mk 0 [lf x.n,lf y.n];rw[←x1, ←y1],x2,y2⟩
theorem AkM{m:cz}{p:Int×Int}(h:(0<=p.1/\p.1<I m.ay)/\0<=p.2/\p.2<m.age+2):Ax (ug m) (pV p)=J:=by
 grind[Ax,Vz,b9.n,b9.az,BM]
theorem Qw{m:cz}:∀{ks:List b9},(ks.all fun k=>Ax (ug m) k)=J->∃ps:List (Int×Int),ks=ps.map pV/\∀p∈ps,(0<=p.1/\p.1<I m.ay)/\0<=p.2/\p.2<m.age+2
 |[],_=>⟨[],rfl,by simp⟩
 |k::ks,h=>by
  simp only[all_cons,HJ] at h
  obtain⟨p,e,hp⟩:=AdT h.1
  obtain⟨ps,e2,hps⟩:=Qw h.2
  refine⟨p::ps,by grind,fun x hx=>?_⟩
  grind
theorem Pa{m:cz}{c:b9}(h:Ai (Av m) c=J):∃s ps,c=d5 s ps/\qv m s ps:=by
 simp only[Ai,Av,Ax,HJ,HS,Iv] at h
 obtain⟨_,h2,h3,h4⟩:=h
 cases c with
 |mk a ks=>
  subst h2
  obtain⟨x,y,rfl⟩:=TZ h3
  ·have h4:=Ia.1 h4
   obtain⟨x1,x2⟩:=GX (by simpa[Ax] using h4.1)
   have hy:=(Ia.1 h4.2).1
   rw[Ax] at hy
   simp only[HJ,HS,Iv] at hy
   obtain⟨⟨y1,y2,y3⟩,y4⟩:=hy
   obtain⟨ps,e,hps⟩:=Qw y3
   cases y with
   |mk b vs=>
    have y1:b=0:=y1
    have y2:(I vs:Int)<=12:=y2
    have e:vs=ps.map pV:=e
    have y4:WH vs=J:=y4
    subst y1;subst e
    refine⟨x.n,ps,by rw[d5, ←x1],x2,by have hl:I (ps.map pV)=I ps:=HH _;have y2:(I (ps.map pV):Int)<=12:=y2;omega,hps,(Pd _).1 y4⟩
theorem Uk{m:cz}{s:Int}{ps:List (Int×Int)}(h:qv m s ps):Ai (Av m) (d5 s ps)=J:=by
 have hz:=ZD ps
 have hl:=h.len
 have ha:((ps.map pV).all fun k=>Ax (ug m) k)=J:=I5.2 fun k hk=>by
  obtain⟨p,hp,rfl⟩:=I2.1 hk
  exact AkM (h.tok p hp)
 have e:(d5 s ps).size=1+(1+(1+b9.sizes (ps.map pV)+0)):=by rfl
 have hb:Ax (.bag (ug m)) (.mk 0 (ps.map pV))=J:=by
  rw[Ax]
  simp only[HJ]
  have hlm:I (ps.map pV)=I ps:=HH _
  exact⟨⟨rfl,HK (by show(I (ps.map pV):Int)<=12;omega),ha⟩,(Pd _).2 h.srt⟩
 rw[Ai,yr,Is,Av,Ax]
 exact Ia.2 ⟨rfl,Ia.2 ⟨rfl,Ia.2 ⟨by exact Vz h.st,Ia.2 ⟨hb,rfl⟩⟩⟩⟩
theorem Aa3(ps:List (Int×Int)):Qg (.mk 0 (ps.map pV))=ps:=by
 show(ps.map pV).map _=ps
 rw[List.map_map]
 exact(List.map_congr_left fun p _=>rfl).trans (List.map_id ps)
theorem Zz(s:Int)(ps:List (Int×Int)):(d5 s ps).az.getD 0 e8=lf s:=rfl
theorem Zy(s:Int)(ps:List (Int×Int)):(d5 s ps).az.getD 1 e8=.mk 0 (ps.map pV):=rfl
theorem Z7{m:cz}(ha:0<=m.age/\m.age<=1000){s:Int}{ps:List (Int×Int)}(h:qv m s ps):nz m (d5 s ps)=d5 s (BK (ft m ps))/\qv m s (BK (ft m ps)):=by
 have e:nz m (d5 s ps)=d5 s (BK (ft m ps)):=by rw[nz,Zz,Zy,Aa3,AcJ];rfl
 refine⟨e,h.st,?_,fun p hp=>?_,UV _⟩
 ·rw[(H9 _).length_eq,ft,HH];exact h.len
 ·have hp:=(H9 _).mem_iff.1 hp
  obtain⟨q,hq,rfl⟩:=I2.1 hp
  have:=h.tok q hq
  grind[E9,Ak]
theorem Ais{m:cz}{s:Int}{ps:List (Int×Int)}{r:cf}:((Qy (Av m) r (d5 s ps)).2=0∨(Qy (Av m) r (d5 s ps)).2=1∨(Qy (Av m) r (d5 s ps)).2=17)/\∀v∈ (Qy (Av m) r (d5 s ps)).1,Ai (Av m) v=J:=by
 grind[Qy,lx,OS]
theorem Y0{m:cz}(ha:0<=m.age/\m.age<=1000){c:b9}(hc:Ai (Av m) c=J)(i:Int):((Sq m (Av m) c i).2=0∨(Sq m (Av m) c i).2=1)/\∀v∈ (Sq m (Av m) c i).1,Ai (Av m) v=J:=by
 grind[Pa,Sq,Z7,Uk,Ais,Qy,lx]
theorem PC{α:Type}{c:α->α->Int}(h:ic c kb):∀(ys acc:List α),j9 c acc->j9 c (ys.foldl (Dc c) acc)/\∀x,x∈ys.foldl (Dc c) acc↔(x∈acc∨x∈ys)
 |[],acc,ha=>⟨ha,fun x=>by simp⟩
 |y::ys,acc,ha=>by
  obtain⟨a1,a2⟩:=UU h y acc ha
  obtain⟨b1,b2⟩:=PC h ys (Dc c acc y) a1
  grind
theorem JA(l:List (List Int)):l.foldl (Dc A8) []=CE l:=by
 obtain⟨a1,a2⟩:=PC LI l [] .nil
 grind[ER,TC,LI]
theorem LJ:ic As kb:=B6
theorem TQ(l:List b9):j9 As (El l)/\∀x,x∈El l↔x∈l:=by
 grind[Nm,LJ,th,D5,U9,AZ,El]
theorem Ahx:∀(l:List b9) (v:b9),BS l v=Dc As l v
 |[],v=>rfl
 |x::l,v=>by
  have ih:=Ahx l v
  grind[BS,Dc,AR]
theorem LP{l k:List b9}(h:∀x,x∈l↔x∈k):l.foldl BS []=El k:=by
 have e:l.foldl BS []=l.foldl (Dc As) []:=by
  congr 1
  grind[Ahx]
 obtain⟨a1,a2⟩:=PC LJ l [] .nil
 grind[TQ,TC,LJ]
def jr(tk:Tk)(l:List (Int×Int))(k:Nat):Bool:=match l[k]? with
 |some x=>(x.1==tk.place)&&(Y (x.2>=tk.low)&&Y (x.2<=tk.high))
 |none=>false
def FM(tk:Tk)(l:List (Int×Int))(K:Nat):List (List (Int×Int)):=((List.range K).filter (jr tk l)).map fun k=>l.take k++l.drop (k+1)
def S9:List Tk->List (Int×Int)->List (List (Int×Int))
 |[],l=>[l]
 |tk::ts,l=>(FM tk l (I l)).flatMap (S9 ts)
theorem AkS{tk:Tk}{l:List (Int×Int)}{k:Nat}(h:Ht tk l k=J):jr tk l k=J:=by
 grind[Ht,jr]
theorem RJ{tk:Tk}{l:List (Int×Int)}:∀k:Nat,jr tk l k=J->∃j,j<=k/\Ht tk l j=J/\l.take j++l.drop (j+1)=l.take k++l.drop (k+1)
 |k,h=>by
  cases ho:Ht tk l k with
  |true=>grind
  |false=>
   obtain⟨x,hx⟩:∃x,l[k]?=G x:=by
    grind[jr]
   have h':=h
   unfold jr at h'
   rw[hx] at h'
   simp only[HJ] at h'
   rw[D0 tk hx,h'.1,h'.2.1,h'.2.2] at ho
   simp only[Is,Bool.or_eq_false_iff] at ho
   obtain⟨h1,h2⟩:=ho
   have hk:k≠0:=fun e=>by grind
   obtain⟨j,rfl⟩:∃j,k=j+1:=⟨k-1,by omega⟩
   rw[show j+1-1=j by omega] at h2
   obtain⟨y,hy⟩:∃y,l[j]?=G y:=⟨_,HI (by grind)⟩
   rw[hy] at h2
   have e:y=x:=by
    grind
   subst e
   have hm:jr tk l j=J:=by grind[jr]
   obtain⟨i,hi,h3,h4⟩:=RJ j hm
   grind[de,take_add_one]
theorem Ac5(tk:Tk)(l x:List (Int×Int)):x∈VX tk l (I l)↔x∈FM tk l (I l):=by
 grind[VX,FM,AkS,RJ]
theorem S7:∀(ts:List Tk) (l x:List (Int×Int)),x∈So ts l↔x∈S9 ts l
 |[],l,x=>Iff.rfl
 |tk::ts,l,x=>by
  simp only[So,S9,List.mem_flatMap]
  constructor
  ·rintro ⟨y,h1,h2⟩;exact⟨y,(Ac5 tk l y).1 h1,(S7 ts y x).1 h2⟩
  ·rintro ⟨y,h1,h2⟩;exact⟨y,(Ac5 tk l y).2 h1,(S7 ts y x).2 h2⟩
theorem Ajz(a b:List Int):A8 a b=if (I a:Int)=I b then AV AJ a b else AJ (I a) (I b):=by
 grind[A8,Hh,AJ,T5,b9.n,b9.az]
noncomputable abbrev Oi:=Tryz.f278
noncomputable def OE:=yl Oi
theorem XX(a b:List Int)(hl:I a=I b)(ha:I a<=1000000)(n:Nat):∀k:Nat,I a-k=n->k<=I a->
  Rn PP Oi 0 (di (AV AJ (a.drop k) (b.drop k))) ba ([kl OE [1,1,0,1,0,0],.blk 0,kc OE [1,1,1]]++[]) (cy 40 [(0,cx a),(1,cx b),(5,di k)]) ba:=by
 induction n with
 |zero=>
  intro k hn hk
  rw[Ic (by omega),Ic (by omega)]
  exact lv 40 [] (.f .r) (Y ((k:Int)<(I (U vi a):Int))=O/\Q (di 0)) ⟨HM (by rw[HH];omega),rfl⟩
 |succ n ih=>
  intro k hn hk
  obtain⟨x,hx⟩:=yk (show k<I a by omega)
  obtain⟨y,hy⟩:=yk (show k<I b by omega)
  rw[de hx,de hy,AV]
  by_cases he:(x !=y)=J
  ·have hne:¬AJ x y=0:=fun h=>by simp[PO.eq x y trivial trivial h] at he
   rw[HZ hne]
   exact lv 40 [] (.t<|.x (vi x)<|.x (vi y)<|.t<|.x (vi x)<|.x (vi y)<|.c (di (AJ x y)) .r) (Y ((k:Int)<(I (U vi a):Int))=J/\0<=(k:Int)/\(U vi a)[Z (k:Int)]?=G (vi x)/\0<=(k:Int)/\(U vi b)[Z (k:Int)]?=G (vi y)/\_/\0<=(k:Int)/\(U vi a)[Z (k:Int)]?=G (vi x)/\0<=(k:Int)/\(U vi b)[Z (k:Int)]?=G (vi y)/\_/\Q (di (AJ x y))) ⟨HK (by rw[HH];omega),by omega,Am hx,by omega,Am hy,he,by omega,Am hx,by omega,Am hy,HB x y,rfl⟩
  ·have e:x=y:=by simpa using he
   rw[Ie (by rw[e];exact PO.refl _ trivial)]
   exact lv 40 [] (.t<|.x (vi x)<|.x (vi y)<|.f<|.l (sd k)) (Y ((k:Int)<(I (U vi a):Int))=J/\0<=(k:Int)/\(U vi a)[Z (k:Int)]?=G (vi x)/\0<=(k:Int)/\(U vi b)[Z (k:Int)]?=G (vi y)/\(x !=y)=O/\di (yu yt ((k:Int)+1))=di (↑(k+1):Int)/\_) ⟨HK (by rw[HH];omega),by omega,Am hx,by omega,Am hy,HU he,Ae,iK (ih (k+1) (by omega) (by omega))⟩
theorem HF(a b:List Int)(ha:I a<=1000000):F0 278 [cx a,cx b] (di (A8 a b)):=by
 rw[Ajz]
 by_cases h:(I a:Int)=I b
 ·rw[Ie h]
  have hlp:=XX a b (by omega) ha _ 0 rfl (Iu _)
  exact sv Oi 40 [] (.f<|.l wt) (((I (U vi a):Int) !=(I (U vi b):Int))=O/\Q (di 0)/\_) ⟨by rw[HH,HH,h];exact bne_self_eq_false _,rfl,iK hlp⟩
 ·rw[HZ h]
  exact sv Oi 40 [] (.t<|.c (di (AJ (I a) (I b))) .r) (((I (U vi a):Int) !=(I (U vi b):Int))=J/\F0 56 [di (I (U vi a):Int),di (I (U vi b):Int)] (di (AJ (I a:Int) (I b:Int)))/\Q (di (AJ (I a:Int) (I b:Int)))) ⟨by rw[HH,HH];exact bne_iff_ne.2 h,by rw[HH,HH];exact HB _ _,rfl⟩
noncomputable abbrev Amc:=Tryz.f279
theorem NK(a b:List Int)(ha:I a<=1000000):F0 279 [cx a,cx b] (db (A8 a b==0)):=by
 refine sv Amc 9 [] (.c (di (A8 a b)) .r) (F0 278 [cx a,cx b] (di (A8 a b))/\Q (db (A8 a b==0))) ?_
 grind[HF]
section
variable {α : Type} {c : α -> α -> Int}
def AU(c:α->α->Int)(v:α):List α->Nat
 |[]=>0
 |x::l=>if c x v<0 then AU c v l+1 else 0
theorem Aa8(v:α):∀l:List α,AU c v l<=I l
 |[]=>HP _
 |x::l=>by
  have:=Aa8 v l
  grind[AU]
theorem Aa7(v:α):∀(l:List α) (k:Nat),k<AU c v l->∃x,l[k]?=G x/\c x v<0
 |[],k,h=>by grind[AU]
 |x::l,k,h=>by
  unfold AU at h
  split at h
  ·rename_i hx
   cases k with
   |zero=>grind
   |succ k=>exact Aa7 v l k (by omega)
  ·omega
theorem Aa9(v:α):∀(l:List α) (x:α),l[AU c v l]?=G x->¬c x v<0
 |[],x,h=>by grind
 |y::l,x,h=>by
  unfold AU at h
  split at h
  ·exact Aa9 v l x (by grind)
  grind
theorem QK(v:α):∀l:List α,l[AU c v l]?=none->Dc c l v=l.take (AU c v l)++v::l.drop (AU c v l)
 |[],_=>rfl
 |x::l,h=>by
  unfold Dc AU at*
  by_cases h1:c x v<0
  ·rw[Ie h1] at h⊢
   rw[Ie h1,QK v l (by grind)];rfl
  grind
theorem QJ(v x:α):∀l:List α,l[AU c v l]?=G x->c x v=0->Dc c l v=l
 |[],h,_=>by grind
 |y::l,h,h0=>by
  unfold Dc AU at*
  by_cases h1:c y v<0
  ·rw[Ie h1] at h⊢
   rw[QJ v x l (by grind) h0]
  grind
theorem UT(v x:α):∀l:List α,l[AU c v l]?=G x->¬c x v=0->Dc c l v=l.take (AU c v l)++v::l.drop (AU c v l)
 |[],h,_=>by rfl
 |y::l,h,h0=>by
  unfold Dc AU at*
  by_cases h1:c y v<0
  ·rw[Ie h1] at h⊢
   rw[Ie h1,UT v x l (by grind) h0];rfl
  grind
end
noncomputable abbrev Rw:=Tryz.f239
noncomputable def O8:=yl Rw
theorem Ahr(l:List (List Int)):∀x∈l.map cw,x.size=1:=by grind[V.size]
theorem ZE(l:List (List Int))(i j:Nat):∀x∈ ((l.map cw).take j).drop i,x.size=1:=by grind[V.size]
theorem QL(l:List (List Int))(v:List Int)(k:Nat):bt (ai (W 0 (take ((k:Nat):Int).toNat (l.map cw))++[cw v]++W ((k:Nat):Int).toNat (take (I (l.map cw)) (l.map cw))))=dl ((l.take k++v::l.drop k).map cw):=by
 grind[map_take,map_drop]
theorem WX(l:List (List Int))(v:List Int)(hl:I l<=100000)(hs:∀x∈l,I x<=1000)(hv:I v<=1000)(n:Nat):∀k:Nat,AU A8 v l-k=n->k<=AU A8 v l->
  Rn PP Rw 0 (dl ((Dc A8 l v).map cw)) ba ([kl O8 [1,1,0,0,0],.blk 0,kc O8 [1,1,1]]++[]) (cy 46 [(0,dl (l.map cw)),(1,cx v),(5,di k)]) ba:=by
 have hil:=Aa8 (c:=A8) v l
 induction n with
 |zero=>
  intro k hn hk0
  have hk:k=AU A8 v l:=by omega
  subst hk
  cases hx:l[AU A8 v l]? with
  |none=>
   have hlt:I l<=AU A8 v l:=List.getElem?_eq_none_iff.1 hx
   rw[QK v l hx]
   refine lv 46 [] (.f<|.k<|.f<|.k<|.a 1<|.w<|.c (cx v)<|.w<|.w<|.r) (Y ((↑(AU A8 v l):Int)<(I (U cw l):Int))=O/\Y ((↑(AU A8 v l):Int)<(I (U cw l):Int))=O/\(∀(x:V),x∈U cw l->V.size x=1)/\0<=(fun x=>x.snd) (yt,(↑(AU A8 v l):Int))/\(fun x=>x.snd) (yt,(↑(AU A8 v l):Int))<=(I (U cw l):Int)/\Ao (I (W 0 (take (Z ((fun x=>x.snd) (yt,(↑(AU A8 v l):Int)))) (U cw l)))) 24/\(∀(y:V),y∈W 0 (take (Z ((fun x=>x.snd) (yt,(↑(AU A8 v l):Int)))) (U cw l))->V.size y=1)/\F0 110 [cx v] (cx v)/\Q (W 0 (take (Z ((fun x=>x.snd) (yt,(↑(AU A8 v l):Int)))) (U cw l)))/\Ao (I (W 0 (take (Z ((fun x=>x.snd) (yt,(↑(AU A8 v l):Int)))) (U cw l)))+I (cw v::nV)) 24/\(∀(y:V),y∈ [cw v]->V.size y=1)/\(∀(x:V),x∈U cw l->V.size x=1)/\0<=(fun x=>x.snd) (yt,(↑(AU A8 v l):Int))/\(fun x=>x.snd) (yt,(↑(AU A8 v l):Int))<=(I (U cw l):Int)/\Q (W 0 (take (Z ((fun x=>x.snd) (yt,(↑(AU A8 v l):Int)))) (U cw l))++cw v::nV)/\Ao (I (W 0 (take (Z ((fun x=>x.snd) (yt,(↑(AU A8 v l):Int)))) (U cw l))++cw v::nV)+I (W (Z ((fun x=>x.snd) (yt,(↑(AU A8 v l):Int)))) (take (I (U cw l)) (U cw l)))) 24/\(∀(y:V),y∈W (Z ((fun x=>x.snd) (yt,(↑(AU A8 v l):Int)))) (take (I (U cw l)) (U cw l))->V.size y=1)/\bt (ai (W 0 (take (Z ((fun x=>x.snd) (yt,(↑(AU A8 v l):Int)))) (U cw l))++[cw v]++W (Z ((fun x=>x.snd) (yt,(↑(AU A8 v l):Int)))) (take (I (U cw l)) (U cw l))))=dl (U cw (take (AU A8 v l) l++v::W (AU A8 v l) l))) ?_
   have z0:(0:Int)<=(AU A8 v l:Int):=by omega
   have z1:(AU A8 v l:Int)<=(I (l.map cw):Int):=by rw[HH];omega
   have z2:∀y∈ [cw v],y.size=1:=fun y hy=>by rw[HY.1 hy];rfl
   repeat' first|with_reducible refine And.intro ?_ ?_
   all_goals first|exact HM (by rw[HH];omega)|exact Ahr l|exact ZE l _ _|exact z2|exact KP v (by omega)|exact z0|exact z1|exact Iu _|rfl|(simp only[HW,IP,Ip,HH,HN,HR];omega)|exact QL l v _
  |some x=>
   have hlt:=(HL.1 hx).1
   have hc:=Aa9 v l x hx
   have hsz:=hs x (HO hx)
   have z0':(0:Int)<=(AU A8 v l:Int):=by omega
   by_cases he:(A8 x v==0)=J
   ·rw[QJ v x l hx (by simpa using he)]
    exact lv 46 [] (.t<|.x (cw x)<|.c (di (A8 x v))<|.f<|.t<|.x (cw x)<|.c (db (A8 x v==0))<|.t<|.r) (Y ((↑(AU A8 v l):Int)<(I (U cw l):Int))=J/\_/\(U cw l)[Z (↑(AU A8 v l):Int)]?=G (cw x)/\_/\Y (A8 x v<0)=O/\Y ((↑(AU A8 v l):Int)<(I (U cw l):Int))=J/\_/\(U cw l)[Z (↑(AU A8 v l):Int)]?=G (cw x)/\_/\_/\bt (lc l)=dl (U cw l)) ⟨HK (by rw[HH];omega),z0',by rw[IR,I1,hx];rfl,HF x v (by omega),HM hc,HK (by rw[HH];omega),z0',by rw[IR,I1,hx];rfl,NK x v (by omega),he,rfl⟩
   ·have he2:(A8 x v==0)=O:=by simpa using he
    rw[UT v x l hx (by simpa using he)]
    refine lv 46 [] (.t<|.x (cw x)<|.c (di (A8 x v))<|.f<|.t<|.x (cw x)<|.c (db (A8 x v==0))<|.f<|.a 1<|.w<|.c (cx v)<|.w<|.w<|.r) (Y ((↑(AU A8 v l):Int)<(I (U cw l):Int))=J/\0<=(↑(AU A8 v l):Int)/\(U cw l)[Z (↑(AU A8 v l):Int)]?=G (cw x)/\F0 278 [cx x,cx v] (di (A8 x v))/\Y (A8 x v<0)=O/\Y ((↑(AU A8 v l):Int)<(I (U cw l):Int))=J/\0<=(↑(AU A8 v l):Int)/\(U cw l)[Z (↑(AU A8 v l):Int)]?=G (cw x)/\F0 279 [cx x,cx v] (db (A8 x v==0))/\(A8 x v==0)=O/\(∀(x:V),x∈U cw l->V.size x=1)/\0<=(fun x=>x.snd) (yt,(↑(AU A8 v l):Int))/\(fun x=>x.snd) (yt,(↑(AU A8 v l):Int))<=(I (U cw l):Int)/\Ao (I (W 0 (take (Z ((fun x=>x.snd) (yt,(↑(AU A8 v l):Int)))) (U cw l)))) 24/\(∀(y:V),y∈W 0 (take (Z ((fun x=>x.snd) (yt,(↑(AU A8 v l):Int)))) (U cw l))->V.size y=1)/\F0 110 [cx v] (cx v)/\Q (W 0 (take (Z ((fun x=>x.snd) (yt,(↑(AU A8 v l):Int)))) (U cw l)))/\Ao (I (W 0 (take (Z ((fun x=>x.snd) (yt,(↑(AU A8 v l):Int)))) (U cw l)))+I (cw v::nV)) 24/\(∀(y:V),y∈ [cw v]->V.size y=1)/\(∀(x:V),x∈U cw l->V.size x=1)/\0<=(fun x=>x.snd) (yt,(↑(AU A8 v l):Int))/\(fun x=>x.snd) (yt,(↑(AU A8 v l):Int))<=(I (U cw l):Int)/\Q (W 0 (take (Z ((fun x=>x.snd) (yt,(↑(AU A8 v l):Int)))) (U cw l))++cw v::nV)/\Ao (I (W 0 (take (Z ((fun x=>x.snd) (yt,(↑(AU A8 v l):Int)))) (U cw l))++cw v::nV)+I (W (Z ((fun x=>x.snd) (yt,(↑(AU A8 v l):Int)))) (take (I (U cw l)) (U cw l)))) 24/\(∀(y:V),y∈W (Z ((fun x=>x.snd) (yt,(↑(AU A8 v l):Int)))) (take (I (U cw l)) (U cw l))->V.size y=1)/\bt (ai (W 0 (take (Z ((fun x=>x.snd) (yt,(↑(AU A8 v l):Int)))) (U cw l))++[cw v]++W (Z ((fun x=>x.snd) (yt,(↑(AU A8 v l):Int)))) (take (I (U cw l)) (U cw l))))=dl (U cw (take (AU A8 v l) l++v::W (AU A8 v l) l))) ?_
    have z0:(0:Int)<=(AU A8 v l:Int):=by omega
    have z1:(AU A8 v l:Int)<=(I (l.map cw):Int):=by rw[HH];omega
    have z2:∀y∈ [cw v],y.size=1:=fun y hy=>by rw[HY.1 hy];rfl
    have z3:(l.map cw)[Z ((AU A8 v l:Nat):Int)]?=G (cw x):=by rw[IR,I1,hx];rfl
    repeat' first|with_reducible refine And.intro ?_ ?_
    all_goals first|exact HK (by rw[HH];omega)|exact z3|exact HF x v (by omega)|exact HM hc|exact NK x v (by omega)|exact he2|exact Ahr l|exact ZE l _ _|exact z2|exact KP v (by omega)|exact z0|exact z1|exact Iu _|rfl|(simp only[HW,IP,Ip,HH,HN,HR];omega)|exact QL l v _
 |succ n ih=>
  intro k hn hk0
  obtain⟨x,hx,hc⟩:=Aa7 (c:=A8) v l k (by omega)
  have hlt:=(HL.1 hx).1
  have hsz:=hs x (HO hx)
  exact lv 46 [] (.t<|.x (cw x)<|.c (di (A8 x v))<|.t<|.l (sd k)) (Y ((k:Int)<(I (U cw l):Int))=J/\0<=(k:Int)/\(U cw l)[Z (k:Int)]?=G (cw x)/\_/\Y (A8 x v<0)=J/\di (yu yt ((k:Int)+1))=di (↑(k+1):Int)/\_) ⟨HK (by rw[HH];omega),by omega,by rw[IR,I1,hx];rfl,HF x v (by omega),HK hc,Ae,iK (ih (k+1) (by omega) (by omega))⟩
theorem NQ(l:List (List Int))(v:List Int)(hl:I l<=100000)(hs:∀x∈l,I x<=1000)(hv:I v<=1000):F0 239 [dl (l.map cw),cx v] (dl ((Dc A8 l v).map cw)):=by
 exact sv Rw 46 [] (.l wt) (Q (di 0)/\_) ⟨rfl,iK (WX l v hl hs hv _ 0 rfl (Iu _))⟩
noncomputable abbrev Rs:=Tryz.f238
noncomputable def O3:=yl Rs
theorem W4(w:List Int)(hw:I w<=12)(hx:∀x∈w,0<=x/\x<16)(n:Nat):∀k:Nat,I w-k=n->
  Rn PP Rs 0 (db J) ba ([kl O3 [1,0,1,0,0],.blk 0,kc O3 [1,1]]++[]) (cy 25 [(0,cx w),(3,di k)]) ba:=by
 induction n with
 |zero=>
  intro k hn
  refine lv 25 [] (.f .r) (Y ((k:Int)<(I (U vi w):Int))=O/\db (Y ((I (U vi w):Int)<=12))=db J) ?_
  grind
 |succ n ih=>
  intro k hn
  obtain⟨x,hxk⟩:=yk (show k<I w by omega)
  have hb:=hx x (HO hxk)
  exact lv 25 [] (.t<|.x (vi x)<|.f<|.x (vi x)<|.f<|.l [ke 0,ch 3 (di (k+1:Nat))]) (Y ((k:Int)<(I (U vi w):Int))=J/\0<=(k:Int)/\(U vi w)[Z (k:Int)]?=G (vi x)/\Y (x<0)=O/\0<=(k:Int)/\(U vi w)[Z (k:Int)]?=G (vi x)/\Y (x>=16)=O/\di (yu yt ((k:Int)+1))=di (↑(k+1):Int)/\_) ⟨HK (by grind),by omega,Am hxk,yq,by omega,Am hxk,yq,Ae,iK (ih (k+1) (by omega))⟩
theorem ND(w:List Int)(hw:I w<=12)(hx:∀x∈w,0<=x/\x<16):F0 238 [cx w] (db J):=by
 exact sv Rs 25 [] (.l [ke 0,ch 3 (di (0:Nat))]) (Q (di 0)/\_) ⟨rfl,iK (W4 w hw hx _ 0 rfl)⟩
noncomputable abbrev AlR:=Tryz.f240
theorem NB(w:List Int)(hw:I w<=1000)(i:Nat)(hi:i<I w):F0 240 [cx w,di i] (cx (fe w i)):=by
 refine sv AlR 14 [] (.a 1<|.w<|.w .r) ((∀(x:V),x∈U vi w->V.size x=1)/\0<=(fun x=>x.snd) (e7 i)/\(fun x=>x.snd) (e7 i)<=(I (U vi w):Int)/\Ao (I (W 0 (take (Z ((fun x=>x.snd) (e7 i))) (U vi w)))) 8/\(∀(y:V),y∈W 0 (take (Z ((fun x=>x.snd) (e7 i))) (U vi w))->V.size y=1)/\(∀(x:V),x∈U vi w->V.size x=1)/\0<=(fun x=>x.snd) (yt,yu yt ((i:Int)+1))/\(fun x=>x.snd) (yt,yu yt ((i:Int)+1))<=(I (U vi w):Int)/\Q (W 0 (take (Z ((fun x=>x.snd) (e7 i))) (U vi w)))/\Ao (I (W 0 (take (Z ((fun x=>x.snd) (e7 i))) (U vi w)))+I (W (Z ((fun x=>x.snd) (yt,yu yt ((i:Int)+1)))) (take (I (U vi w)) (U vi w)))) 8/\(∀(y:V),y∈W (Z ((fun x=>x.snd) (yt,yu yt ((i:Int)+1)))) (take (I (U vi w)) (U vi w))->V.size y=1)/\bt (ai (W 0 (take (Z ((fun x=>x.snd) (e7 i))) (U vi w))++W (Z ((fun x=>x.snd) (yt,yu yt ((i:Int)+1)))) (take (I (U vi w)) (U vi w))))=cx (fe w i)) ?_
 have hw1:yt.wrap ((i:Int)+1)=((i+1:Nat):Int):=by rw[Ak];omega
 have hv:=UB w
 have e:bt (ai (W 0 (take (Z ((i:Nat):Int)) (w.map vi))++W (Z ((i+1:Nat):Int)) (take (I (w.map vi)) (w.map vi))))=cx (fe w i):=by
  rw[Jt,take_length,IR,IR, ←map_take, ←map_drop, ←IZ];rfl
 grind
noncomputable abbrev Rz:=Tryz.f173
noncomputable def OB:=yl Rz
abbrev mc(w:List Int)(k:Nat):List (List Int):=(CC w k).foldl (Dc A8) []
theorem Adc(w:List Int)(k:Nat):mc w (k+1)=Dc A8 (mc w k) (fe w k):=by grind[NC]
theorem Y4{w:List Int}(hw:I w<=12)(k:Nat):I (mc w k)<=k/\∀v∈mc w k,I v<=12:=by
 grind[JA,Lx,JB,OR,ER]
theorem XJ(w:List Int)(hw:I w<=12)(hx:∀x∈w,0<=x/\x<16)(n:Nat):∀k:Nat,I w-k=n->k<=I w->
  Rn PP Rz 0 (dl ((CE (CC w (I w))).map cw)) ba ([kl OB [1,1,0,1,0,0],.blk 0,kc OB [1,1,1]]++[]) (cy 21 [(0,cx w),(3,dl ((mc w k).map cw)),(4,di k)]) ba:=by
 induction n with
 |zero=>
  intro k hn hk
  rw[←JA,show I w=k by omega,show(CC w k).foldl (Dc A8) []=mc w k from rfl]
  have hv:=ND w hw hx
  generalize mc w k=ws
  exact lv 21 [] (.c (db J)<|.k<|.f .r) (_/\Y ((k:Int)<(I (U vi w):Int))=O/\bt (lc ws)=dl (U cw ws)) ⟨hv,HM (by rw[HH];omega),rfl⟩
 |succ n ih=>
  intro k hn hk
  have ih':=ih (k+1) (by omega) (by omega)
  rw[Adc] at ih'
  obtain⟨t1,t2⟩:=Y4 hw k
  have hp:=NQ (mc w k) (fe w k) (by omega) (fun x hx=>by have:=t2 x hx;omega) (by have:=PJ w k;omega)
  generalize mc w k=ws at ih' hp⊢
  generalize CE (CC w (I w))=out at ih'⊢
  exact lv 21 [] (.c (db J)<|.k<|.t<|.c (cx (fe w k))<|.c (dl ((Dc A8 ws (fe w k)).map cw))<|.l [ke 0,ch 3 (dl ((Dc A8 ws (fe w k)).map cw)),ch 4 (di (k+1:Nat))]) (_/\Y ((k:Int)<(I (U vi w):Int))=J/\_/\_/\Q (dl (U cw (Dc A8 ws (fe w k))))/\di (yu yt ((k:Int)+1))=di (↑(k+1):Int)/\_) ⟨ND w hw hx,HK (by rw[HH];omega),NB w (by omega) k (by omega),hp,rfl,Ae,iK ih'⟩
theorem XI(w:List Int)(hw:I w<=12)(hx:∀x∈w,0<=x/\x<16):F0 173 [cx w] (dl ((CE (CC w (I w))).map cw)):=by
 have h:=XJ w hw hx _ 0 rfl (Iu _)
 generalize CE (CC w (I w))=out at h⊢
 exact sv Rz 21 [] (.h (.q 2 0)<|.h (.ct 3 (dl []) ba)<|.l [ke 0,ke 3,ch 4 (di (0:Nat))]) ((∀(e:List D),e[3]?=G (dn)->∀(E:cd) (g:Gh) (a:Act) (w:x5),FI E g ba e a w->∃g',FI E g' ba (List.set e 3 (dl [])) a w)/\Q (di 0)/\_) ⟨fun e he=>ua e he,rfl,iK h⟩
noncomputable abbrev Rr:=Tryz.f241
noncomputable def O2:=yl Rr
theorem W3(rk w:List Int)(hr:Db rk=J)(hw:I w<=12)(_:I rk<=1000)(hx:∀x∈w,0<=x/\x<I rk)(n:Nat):∀k:Nat,I w-k=n->
  Rn PP Rr 0 (db J) ba ([kl O2 [1,0,1,0,0],.blk 0,kc O2 [1,1]]++[]) (cy 33 [(0,cx rk),(1,cx w),(5,di k)]) ba:=by
 induction n with
 |zero=>
  intro k hn
  refine lv 33 [] (.f<|.c (db J) .r) (Y ((k:Int)<(I (U vi w):Int))=O/\F0 237 [cx rk] (db J)/\db (Y ((I (U vi w):Int)<=12))=db J) ?_
  grind[NL]
 |succ n ih=>
  intro k hn
  obtain⟨x,hxk⟩:=yk (show k<I w by omega)
  have hb:=hx x (HO hxk)
  exact lv 33 [] (.t<|.x (vi x)<|.f<|.x (vi x)<|.f<|.l (sd k)) (Y ((k:Int)<(I (U vi w):Int))=J/\0<=(k:Int)/\(U vi w)[Z (k:Int)]?=G (vi x)/\Y (x<0)=O/\0<=(k:Int)/\(U vi w)[Z (k:Int)]?=G (vi x)/\Y (x>=(I (U vi rk):Int))=O/\di (yu yt ((k:Int)+1))=di (↑(k+1):Int)/\_) ⟨HK (by grind),by omega,Am hxk,yq,by omega,Am hxk,HM (by grind),Ae,iK (ih (k+1) (by omega))⟩
theorem W2(rk w:List Int)(hr:Db rk=J)(hw:I w<=12)(hrl:I rk<=1000)(hx:∀x∈w,0<=x/\x<I rk):F0 241 [cx rk,cx w] (db J):=by
 exact sv Rr 33 [] (.l wt) (Q (di 0)/\_) ⟨rfl,iK (W3 rk w hr hw hrl hx _ 0 rfl)⟩
noncomputable abbrev Oh:=Tryz.f174
noncomputable def Lm:=yl Oh
abbrev Hk(rk w:List Int)(k:Nat):List (List Int):=(Cr rk w k).foldl (Dc A8) []
theorem Add{rk w:List Int}{k:Nat}(h:pc rk w k=J):Hk rk w (k+1)=Dc A8 (Hk rk w k) (fe w k):=by rw[Hk,Mu h,List.foldl_append];rfl
theorem Ahf{rk w:List Int}{k:Nat}(h:pc rk w k=O):Hk rk w (k+1)=Hk rk w k:=by grind[Pt]
theorem TF{rk w:List Int}(hw:I w<=12)(k:Nat):I (Hk rk w k)<=k/\∀v∈Hk rk w k,I v<=12:=by
 grind[JA,Lx,Mv,Pu,ER]
theorem XH(rk w:List Int)(hr:Db rk=J)(hw:I w<=12)(hrl:I rk<=1000)(hx:∀x∈w,0<=x/\x<I rk)(n:Nat):∀k:Nat,I w-1-k=n->k<=I w-1->
  Rn PP Oh 0 (dl ((CE (Cr rk w (I w-1))).map cw)) ba ([kl Lm [1,1,0,1,0,0],.blk 0,kc Lm [1,1,1]]++[]) (cy 41 [(0,cx rk),(1,cx w),(5,dl ((Hk rk w k).map cw)),(6,di k)]) ba:=by
 have hv:=W2 rk w hr hw hrl hx
 induction n with
 |zero=>
  intro k hn hk
  rw[←JA,show I w-1=k by omega,show(Cr rk w k).foldl (Dc A8) []=Hk rk w k from rfl]
  generalize Hk rk w k=ws
  exact lv 41 [] (.c (db J)<|.k<|.f .r) (_/\Y (yu yt ((k:Int)+1)<(I (U vi w):Int))=O/\bt (lc ws)=dl (U cw ws)) ⟨hv,HM (by rw[HH,OP k (by omega)];omega),rfl⟩
 |succ n ih=>
  intro k hn hk
  have ih':=ih (k+1) (by omega) (by omega)
  obtain⟨x,hx1⟩:=yk (show k<I w by omega)
  obtain⟨y,hy1⟩:=yk (show k+1<I w by omega)
  have bx:=hx x (HO hx1)
  have bY:=hx y (HO hy1)
  obtain⟨rx,hrx⟩:=yk (show x.toNat<I rk by omega)
  obtain⟨ry,hry⟩:=yk (show y.toNat<I rk by omega)
  have hpc:=AiI hx1 hy1 hrx hry
  obtain⟨t1,t2⟩:=TF (rk:=rk) hw k
  by_cases hc:Y (rx<=ry)=J
  ·rw[Add (hpc.trans hc)] at ih'
   have hp:=NQ (Hk rk w k) (fe w k) (by omega) (fun x hx=>by have:=t2 x hx;omega) (by have:=PJ w k;omega)
   generalize Hk rk w k=ws at ih' hp⊢
   generalize CE (Cr rk w (I w-1))=out at ih'⊢
   refine lv 41 [] (.c (db J)<|.k<|.t<|.x (vi x)<|.x (vi rx)<|.x (vi y)<|.x (vi ry)<|.t<|.c (cx (fe w k))<|.c (dl ((Dc A8 ws (fe w k)).map cw))<|.l [ke 0,ke 1,ch 5 (dl ((Dc A8 ws (fe w k)).map cw)),ch 6 (di (k+1:Nat))]) (F0 241 [cx rk,cx w] (db J)/\Y (yu yt ((k:Int)+1)<(I (U vi w):Int))=J/\0<=(k:Int)/\(U vi w)[Z (k:Int)]?=G (vi x)/\0<=x/\(U vi rk)[Z x]?=G (vi rx)/\0<=yu yt ((k:Int)+1)/\(U vi w)[Z (yu yt ((k:Int)+1))]?=G (vi y)/\0<=y/\(U vi rk)[Z y]?=G (vi ry)/\Y (rx<=ry)=J/\F0 240 [cx w,di (k:Int)] (cx (fe w k))/\F0 239 [bt (lc ws),bt (cw (fe w k))] (dl (U cw (Dc A8 ws (fe w k))))/\Q (dl (U cw (Dc A8 ws (fe w k))))/\di (yu yt ((k:Int)+1))=di (↑(k+1):Int)/\I0 Oh 0 (dl (U cw out)) ba [kl Lm ee,bf 0,kc Lm [1,1,1]] (cy 41 [(0,cx rk),(1,cx w),(5,dl (U cw (Dc A8 ws (fe w k)))),(6,di (↑(k+1):Int))]) d6) ?_
   rw[OP k (by omega)]
   exact⟨hv,HK (by rw[HH];omega),by omega,Am hx1,bx.1,DG bx.1 hrx,by omega,Am hy1,bY.1,DG bY.1 hry,hc,NB w (by omega) k (by omega),hp,rfl,rfl,⟨ih'⟩⟩
  ·rw[Ahf (hpc.trans (HU hc))] at ih'
   generalize Hk rk w k=ws at ih'⊢
   generalize CE (Cr rk w (I w-1))=out at ih'⊢
   refine lv 41 [] (.c (db J)<|.k<|.t<|.x (vi x)<|.x (vi rx)<|.x (vi y)<|.x (vi ry)<|.f<|.l (pu k)) (F0 241 [cx rk,cx w] (db J)/\Y (yu yt ((k:Int)+1)<(I (U vi w):Int))=J/\0<=(k:Int)/\(U vi w)[Z (k:Int)]?=G (vi x)/\0<=x/\(U vi rk)[Z x]?=G (vi rx)/\0<=yu yt ((k:Int)+1)/\(U vi w)[Z (yu yt ((k:Int)+1))]?=G (vi y)/\0<=y/\(U vi rk)[Z y]?=G (vi ry)/\Y (rx<=ry)=O/\di (yu yt ((k:Int)+1))=di (↑(k+1):Int)/\I0 Oh 0 (dl (U cw out)) ba [kl Lm ee,bf 0,kc Lm [1,1,1]] (cy 41 [(0,cx rk),(1,cx w),(5,bt (lc ws)),(6,di (↑(k+1):Int))]) d6) ?_
   rw[OP k (by omega)]
   exact⟨hv,HK (by rw[HH];omega),by omega,Am hx1,bx.1,DG bx.1 hrx,by omega,Am hy1,bY.1,DG bY.1 hry,HU hc,rfl,⟨ih'⟩⟩
theorem XG(rk w:List Int)(hr:Db rk=J)(hw:I w<=12)(hrl:I rk<=1000)(hx:∀x∈w,0<=x/\x<I rk):F0 174 [cx rk,cx w] (dl ((CE (Cr rk w (I w-1))).map cw)):=by
 have h:=XH rk w hr hw hrl hx _ 0 rfl (Iu _)
 generalize CE (Cr rk w (I w-1))=out at h⊢
 exact sv Oh 41 [] (.h (.q 2 0)<|.h (.ct 5 (dl []) ba)<|.l [ke 0,ke 1,ke 5,ch 6 (di (0:Nat))]) ((∀(e:List D),e[5]?=G (dn)->∀(E:cd) (g:Gh) (a:Act) (w:x5),FI E g ba e a w->∃g',FI E g' ba (List.set e 5 (dl [])) a w)/\Q (di 0)/\_) ⟨fun e he=>ua e he,rfl,iK h⟩
noncomputable abbrev Ry:=Tryz.f172
noncomputable def OA:=yl Ry
theorem Xx(v:b9)(hl:I v.az<=1000)(n:Nat):∀k:Nat,I v.az-k=n->
  Rn PP Ry 0 (.acc 1 ((AP v).map vi)) ⟨[],[(1,1,(AP v).map vi)]⟩ ([kl OA [1,1,0,1,0,0],.blk 0,kc OA [1,1,1]]++[]) (cy 22 [(1,.v (.ref (Ac v))),(3,.acc 1 (((AP v).take k).map vi)),(4,di k)]) ⟨[],[(1,1,((AP v).take k).map vi)]⟩:=by
 have hnl:I (AP v)=I v.az:=HH _
 induction n with
 |zero=>
  intro k hn
  refine lv 22 [1] (.f .r) (Y ((k:Int)<(I (map eV v.az):Int))=O/\[(1,1,map vi (take k (AP v)))]=[(1,1,map vi (AP v))]/\br 1 (map vi (take k (AP v)))=br 1 (map vi (AP v))) ?_
  grind[List.take_of_length_le]
 |succ n ih=>
  intro k hn
  obtain⟨x,hx⟩:∃x,v.az[k]?=G x:=⟨_,HI (show k<I v.az by omega)⟩
  have ht:((AP v).take (k+1)).map vi=((AP v).take k).map vi++[vi x.n]:=by grind[take_add_one]
  have ih':=ih (k+1) (by omega)
  rw[ht] at ih'
  have hz:I ((AP v).take k)<=1000:=by grind
  generalize AP v=N at ih' hz⊢
  exact lv 22 [1] (.t<|.h (.xs (Ac x))<|.ls [ke 1,ch 3 (.acc 1 ((N.take k).map vi++[vi x.n])),ch 4 (di (k+1:Nat))] ⟨[],[(1,1,(N.take k).map vi++[vi x.n])]⟩) (Y ((k:Int)<(I (map eV v.az):Int))=J/\Q 2/\0<=(k:Int)/\(map eV v.az)[Z (k:Int)]?=G (Ac x)/\Q (map vi (take k N))/\Ao (I (map vi (take k N))+I (vi x.n::nV)) 8/\Q (br 1 (map vi (take k N)++[vi x.n]))/\di (yu yt ((k:Int)+1))=di (↑(k+1):Int)/\Q [(1,1,map vi (take k N)++vi x.n::nV)]/\_) ⟨HK (by grind),rfl,by omega,Ap hx,rfl,⟨by grind,by grind⟩,rfl,Ae,rfl,iK ih'⟩
theorem Xw(v:b9)(hl:I v.az<=1000):F0 172 [dV v] (cx (AP v)):=by
 have h:Aa PP 172 [dV v] ba (.acc 1 ((AP v).map vi)) ⟨[],[(1,1,(AP v).map vi)]⟩:=by
  exact sv Ry 22 [1] (.h (.q 2 0)<|.h (.nw 3 1 1)<|.ls [ke 1,ch 3 (.acc 1 []),ch 4 (di (0:Nat))] ⟨[],[(1,1,[])]⟩) (Q iw/\Q (di 0)/\Q [(1,1,nV)]/\_) ⟨rfl,rfl,rfl,iK (Xx v hl _ 0 rfl)⟩
 exact Hu h
noncomputable abbrev Rq:=Tryz.f242
noncomputable def O1:=yl Rq
theorem Ww(w:List Int)(hw:I w<=1000)(n:Nat):∀k:Nat,I w-k=n->
  Rn PP Rq 0 (dV (c7 w)) ba ([kl O1 [1,1,0,1,0,0],.blk 0,kc O1 [1,1,1]]++[]) (cy 22 [(0,cx w),(2,.ptr 0 0),(3,.ptr 1 0),(4,di k)]) (jq 0 ((w.take k).map lf)):=by
 induction n with
 |zero=>
  intro k hn
  refine lv 22 [] (.f .r) (Y ((k:Int)<(I (map vi w):Int))=O/\bt (ab [vi 0,ai (map eV (map lf (take k w)))])=dV (c7 w)) ?_
  rw[Im (by omega)]
  exact⟨HM (by grind),rfl⟩
 |succ n ih=>
  intro k hn
  obtain⟨x,hx⟩:=yk (show k<I w by omega)
  have ht:(w.take (k+1)).map lf=(w.take k).map lf++[lf x]:=by grind[take_add_one]
  have he:eV (lf x)=ab [vi x,ai []]:=by rfl
  refine lv 22 [] (.t<|.x (vi x)<|.ls (Au3 k) (jq 0 ((w.take (k+1)).map lf))) (Y ((k:Int)<(I (map vi w):Int))=J/\0<=(k:Int)/\(map vi w)[Z (k:Int)]?=G (vi x)/\Q (map eV (map lf (take k w)))/\Ao (I (map eV (map lf (take k w)))+I (ab (ia x)::nV)) 32/\yp/\di (yu yt ((k:Int)+1))=di (↑(k+1):Int)/\[G [di 0,dn],G [di 0,br 1 (map eV (map lf (take k w))++ab (ia x)::nV)]]=[G [di 0,dn],G [di 0,br 1 (map eV (map lf (take (k+1) w)))]]/\[(1,2,map eV (map lf (take k w))++ab (ia x)::nV)]=[(1,2,map eV (map lf (take (k+1) w)))]/\_) ⟨HK (by grind),by omega,Am hx,rfl,⟨?_,?_⟩,yn,Ae,?_,?_,iK (ih (k+1) (by omega))⟩
  ·simp only[HH,Ip,HN,HR];omega
  all_goals grind
theorem Wv(w:List Int)(hw:I w<=1000):F0 242 [cx w] (dV (c7 w)):=by
 have:=Ww w hw _ 0 rfl
 exact sv Rq 22 [] (.h (.q 2 0)<|.h (.cl 1 1 1 2)<|.ls [ke 0,ke 2,ke 3,ch 4 (di (0:Nat))] (jq 0 [])) (Q (di 0)/\Q (jq 0 []).H/\Q [(1,2,nV)]/\I0 Rq (I ba.H) (dV (c7 w)) ba [kl O1 ee,bf 0,kc O1 [1,1,1]] (cy 22 [(0,cx w),n9,(3,bq 1 0),(4,di (↑0:Int))]) (jq 0 [])) ⟨rfl,rfl,rfl,⟨this⟩⟩
section
open Nv
theorem Vv{P:x7}(hm:P.follows .mixedOrders=J){C:Nat}{fn:yw}{d:D}{σ':St}(nt:Nat)(im:List Nat){ks T:List KI}{L:List (Nat×D)}{σ:St}(s:Sc)
  (h:AW (cy nt L) fun env=>vc (CN C) C P (fun env σ1=>AA P fn env σ1 d σ') (fun _ env σ=>Aih P fn.results.toList d σ' env σ) nt im T 10000 (.h .n s) ks env σ):Rn P fn C d σ' (ks++T) (cy nt L) σ:=by
 rw[AQ] at h
 exact Qq (N8 _) (fun _ _ h=>h.2) hm (fun b env σ _ h=>TT h) (by simp[cy,DN]) h
end
theorem Gi{P:x7}{o:yy}{σ:St}{t:x6}{x:x8}(ho:o.op=.buildSlice t 1 #[(0,x)])
  {e:x6} {sz by':Nat} {z:Option yz} (hs:BR P t=G (e,sz,by',z)) (hz:z.isSome=J) {d:D} (hd:d.sto=J) (hc:I (Az d)=sz) (h1:0<sz) (h2:sz<=1000):
  Ah P o [d] σ (.gro (I σ.H) 1 sz) ⟨σ.H++[G (Az d)],σ.own⟩:=by
 intro E g a w K Q hw hds hK
 simp only[ho,Op.operands] at hds
 obtain⟨i,hu,hi,rfl,rfl,rfl⟩:=AE hs
 obtain⟨zz,hzz⟩:=Option.isSome_iff_exists.1 hz
 obtain⟨u,eu,hr⟩:=AB.1 (by simpa using hds)
 simp only[HV,Ix] at eu
 obtain⟨h5,h6,_⟩:=Go.Dv.cells_rep hd hr
 have hul:I u.cells.toList=i.size:=by grind[A0]
 have hf:=JY i.size [u] 0 [] ((Array.range (1*i.size)).map (zz.cells[· %zz.cells.size]!)).toList (by simp) (fun v hv=>by grind) (by simp)
 simp only[nil_append,Array.toArray_toList] at hf
 have hrun:=run_buildSlice (P:=P) w t e 1 #[(0,u)] _ i zz hu hi hzz (by omega) (by omega) (by simpa using hf)
 obtain⟨g',h3,h4,h5',h6',h7⟩:=hw.newObjR (us:=u.cells.toList) (rest:=[]) (cs:=Az d) e h5 h6
 rw[I8] at h3 h6'
 have:=hK g' _ (.slice (G ⟨w.heap.size,0,none⟩) 1 1) h3 h4 (by
  grind[Ag])
 unfold Oper.wp execOp
 simp only[ho]
 simp only[Sem.run_bind]
 have e2:(#[(0,x)].map fun(x:Nat×x8)=>match x with|(i,x)=>(i,a.eval x))= #[(0,u)]:=by grind
 rw[e2,hrun]
 exact this
abbrev gm(n:Int)(k:Nat)(L:List D)(own:List (Nat×Nat×List V)):St:=⟨[G [di 0,.v .nils],G [di n,.gro 2 k 2],G L],own⟩
abbrev xr(n:Int)(k:Nat)(L:List D)(own:List (Nat×Nat×List V)):St:=⟨[G [di n,.arr 2 0 k],G [di n,.arr 2 0 k],G L],own⟩
theorem Acm{σ:St}{p q i n sz:Nat}{cs:List D}(hp:σ.H[p]?=G (G cs))(hi:cs[i]?=G (.gro q n sz))(e:List D):Cv e σ e ⟨σ.H.set p (G (cs.set i (.arr q 0 n))),σ.own⟩:=
 Dw (σ:=σ) (q:=p) (cs:=cs) (cs':=cs.set i (.arr q 0 n)) hp (fun g us hr=>by
  obtain⟨u,hu,hru⟩:=BA hr hi
  have:=CJ hr i (d:=.arr q 0 n) (u:=u) (DS.rep .gro hru)
  grind[DA]) (fun h c hc=>by
  grind[D.one]) e
abbrev fh(x:b9):List D:=[di x.n,cq x.az]
abbrev kcO(x:b9):List D:=[di x.n,.acc 1 (x.az.map eV)]
abbrev fu(x:b9):List (Nat×Nat×List V):=[(1,2,x.az.map eV)]
def f7(ts:List Nat)(L:List D):Prop:=(∀n,D.okNs n ts L=J)/\∀sel,D.rens sel id L=L
theorem f7.of{ts:List Nat}{L:List D}(h:D.pls L=J):f7 ts L:=by grind[AO,A6,f7]
theorem JL{ρ τ:Nat->Nat}:∀(a b:List D),D.rens ρ τ (a++b)=D.rens ρ τ a++D.rens ρ τ b
 |[],_=>rfl
 |x::a,b=>by simp only[Jz,D.rens,JL a b]
theorem JP{n:Nat}{ts:List Nat}:∀(a b:List D),D.okNs n ts (a++b)=(D.okNs n ts a&&D.okNs n ts b)
 |[],_=>by rfl
 |x::a,b=>by simp only[Jz,D.okNs,JP a b,Bool.and_assoc]
theorem f7.app{ts:List Nat}{a b:List D}(h1:f7 ts a)(h2:f7 ts b):f7 ts (a++b):=by grind[JP,JL,f7]
theorem f7.kcO(x:b9):f7 [1] (kcO x):=by grind[D.okNs,D.okN,D.rens,D.ren,f7]
theorem Al9{R:List D->St->Prop}{ks:List KI}{e e':List D}(n:Int)(m:Nat)(F:List D)(own:List (Nat×Nat×List V))(hF:f7 (own.map (·.1)) F)(he:D.okNs 3 (own.map (·.1)) e'=J)(hee:e=D.rens (fun i=>if i<2 then i else i+1) id e')
  (h:A2 (CN 0) PP R ks e' (gm n m F own)) (T:Option (List D)):A2 (CN 0) PP R ks e ⟨[G [di 0,.v .nils],G [di n,.gro 3 m 2],T,G F],own⟩:=by
 refine C0 (σ:=⟨[G [di 0,.v .nils],G [di n,.gro 3 m 2],T,G F],own⟩) (e':=e') (H':=(gm n m F own).H) (m:=0) (fun _ _ h=>h.2) (fun i=>if i<2 then i else i+1) (Iu _) (fun i hi=>by omega) (fun i j _ _ h=>?_) (fun i cs hi=>?_) he hee h
 ·grind
 ·match i,hi with
  |0,hi=>simp at hi;subst hi;exact⟨rfl,by rfl⟩
  |1,hi=>simp at hi;subst hi;exact⟨rfl,by rfl⟩
  |2,hi=>
   simp at hi;subst hi
   exact⟨by rw[hF.2];rfl,hF.1 _⟩
  |i+3,hi=>grind
theorem Aoj{R:List D->St->Prop}{ks:List KI}{e e':List D}(n:Int)(m:Nat)(F:List D)(own:List (Nat×Nat×List V))(hF:f7 (own.map (·.1)) F)(he:D.okNs 3 (own.map (·.1)) e'=J)(hee:e=D.rens (fun i=>if i<2 then i else i+2) id e')
  (h:A2 (CN 0) PP R ks e' (gm n m F own)) (T U:Option (List D)):A2 (CN 0) PP R ks e ⟨[G [di 0,.v .nils],G [di n,.gro 4 m 2],T,U,G F],own⟩:=by
 refine C0 (σ:=⟨[G [di 0,.v .nils],G [di n,.gro 4 m 2],T,U,G F],own⟩) (e':=e') (H':=(gm n m F own).H) (m:=0) (fun _ _ h=>h.2) (fun i=>if i<2 then i else i+2) (Iu _) (fun i hi=>by omega) (fun i j _ _ h=>?_) (fun i cs hi=>?_) he hee h
 ·grind
 ·match i,hi with
  |0,hi=>simp at hi;subst hi;exact⟨rfl,by rfl⟩
  |1,hi=>simp at hi;subst hi;exact⟨rfl,by rfl⟩
  |2,hi=>
   simp at hi;subst hi
   exact⟨by rw[hF.2];rfl,hF.1 _⟩
  |i+3,hi=>grind
theorem XO(x:b9)(hx:x.size<=1000000):Aa PP 83 [dV x] ba (.dagg (kcO x)) ⟨[],fu x⟩:=by
 have hk:∀y∈x.az,F0 83 [dV y] (dV y):=fun y hy=>DO _ y (HP _) (by have:=b9.size_mem hy;have:=x.size_eq;omega)
 have hs:=x.size_eq
 have hl:=b9.length_le x.az
 have loop (n:Nat):∀k:Nat,I x.az-k=n->Rn PP B0 0 (.dagg (kcO x)) ⟨[],fu x⟩ ([kl A9 [1,1,0,1,0,0],.blk 0,kc A9 [1,1,1]]++[]) (cy 27 [(1,.v (.ref (Ac x))),(2,.ptr 0 0),(3,.ptr 1 0),(4,di k)]) (jq x.n (x.az.take k)):=by
  induction n with
  |zero=>
   intro k hn
   rw[Im (by omega)]
   exact lv 27 [1] (.f<|.h (.m (.dagg (kcO x)))<|.h .ww<|.rd) (Y ((k:Int)<(I (map eV x.az):Int))=O/\2<=2/\[di x.n,br 1 (map eV x.az)]=kcO x/\2<=2/\Q [(1,2,map eV x.az)]/\Q (bi (kcO x))) ⟨HM (by rw[HH];omega),HP _,rfl,HP _,rfl,rfl⟩
  |succ n ih=>
   intro k hn
   obtain⟨y,hy⟩:∃x',x.az[k]?=G x':=⟨_,HI (show k<I x.az by omega)⟩
   have ht:x.az.take (k+1)=x.az.take k++[y]:=by rw[IW,hy];rfl
   refine lv 27 [1] (.t<|.h (.xs (Ac y))<|.c (dV y)<|.ls [ke 1,ke 2,ke 3,ch 4 (di (k+1:Nat))] (jq x.n (x.az.take (k+1)))) (Y ((k:Int)<(I (map eV x.az):Int))=J/\Q 2/\0<=(k:Int)/\(map eV x.az)[Z (k:Int)]?=G (Ac y)/\_/\Q (map eV (take k x.az))/\Ao (I (map eV (take k x.az))+I (Ac y::nV)) 32/\yp/\di (yu yt ((k:Int)+1))=di (↑(k+1):Int)/\[G [di 0,dn],G [di x.n,br 1 (map eV (take k x.az)++Ac y::nV)]]=[G [di 0,dn],G [di x.n,br 1 (map eV (take (k+1) x.az))]]/\[(1,2,map eV (take k x.az)++Ac y::nV)]=[(1,2,map eV (take (k+1) x.az))]/\_) ⟨HK (by rw[HH];omega),rfl,by omega,Ap hy,hk y (HO hy),rfl,⟨?_,?_⟩,yn,Ae,?_,?_,iK (ih (k+1) (by omega))⟩
   ·simp only[HH,Ip,HN,HR];omega
   ·simp only[HH,Ip,HN,HR];omega
   ·rw[ht,BL]
   ·rw[ht,BL]
 have:=loop _ 0 rfl
 exact sv B0 27 [1] (.h .rn<|.h (.q 2 0)<|.h (.cl 1 1 1 2)<|.ls [ke 1,ke 2,ke 3,ch 4 (di (0:Nat))] (jq x.n [])) (Q (di 0)/\Q (jq x.n []).H/\Q [(1,2,nV)]/\I0 B0 (I ba.H) (bi (kcO x)) (bh [] (fu x)) sc (cy 27 [(1,bt (jy x)),n9,(3,bq 1 0),(4,di (↑0:Int))]) (jq x.n [])) ⟨rfl,rfl,rfl,⟨by simpa using this⟩⟩
theorem Ap3{k:Nat}(hk:k<=1000)(x:V):Ao (k+1+I (x::nV)) 32:=by grind
section
variable {n : Int} {k : Nat} (hk : k <= 900) {L : List D} (hL : (I L) = (k + 1) * 2) {v : b9} {x : b9} (hx : v.az[k + 1]? = G x) {d : D} {σ' : St}
include hk hL hx
theorem Ana(hn:F0 83 [dV x] (dV x))(hl:D.pls L=J)
  (next:Rn PP B0 0 d σ' ([kl A9 [1,1,0,1,0,0],.blk 0,kc A9 [1,1,1]]++[]) (cy 27 [(1,.v (.ref (Ac v))),(2,.ptr 0 0),(3,.ptr 1 0),(4,di (k+1+1:Nat))]) (gm n (k+1+1) (L++fh x) [])):
  Rn PP B0 0 d σ' ([kl A9 [1,1,0,1,0,0],.blk 0,kc A9 [1,1,1]]++[]) (cy 27 [(1,.v (.ref (Ac v))),(2,.ptr 0 0),(3,.ptr 1 0),(4,di (k+1:Nat))]) (gm n (k+1) L []):=by
 exact lv 27 [1] (.t<|.h (.xs (Ac x))<|.c (dV x)<|.lo [ke 1,ke 2,ke 3,ch 4 (di (k+1+1:Nat))] ⟨[G [di 0,.v .nils],G [di n,.gro 3 (k+1+1) 2],none,G (L++fh x)],[]⟩) (Y ((↑(k+1):Int)<(I (map eV v.az):Int))=J/\Q 2/\0<=(↑(k+1):Int)/\(map eV v.az)[Z (↑(k+1):Int)]?=G (Ac x)/\_/\_/\[Ac x]≠ []/\(∀(y:V),y∈ [Ac x]->V.size y=2)/\Ao (k+1+I (Ac x::nV)) 32/\yp/\di (yu yt ((↑(k+1):Int)+1))=di (↑(k+1+1):Int)/\cm 4 [] [G [di 0,dn],G [di n,bm 3 (k+1+I (Ac x::nV)) 2],none,G (L++(dp x.n x.az))]=J/\Q [G [di 0,dn],G [di n,bm 3 (k+1+1) 2],none,G (L++fh x)]/\_) ⟨HK (by grind),rfl,by omega,Ap hx,hn,hL,by simp,fun y hy=>by rw[HY.1 hy];rfl,Ap3 (by omega) _,yn,Ae,by simp[cm,D.okNs,D.okN,(f7.of hl).app (f7.of (rfl:D.pls (fh x)=J))|>.1],rfl,iK (Al9 n (k+1+1) _ [] ((f7.of hl).app (f7.of rfl)) (by rfl) (by rfl) next none)⟩
noncomputable abbrev xz:=(Oper.mk (G 24) (Op.call (Call.mk (Callee.builtin Builtin.append) #[Operand.tmp 16,Operand.tmp 23] #[29,29])) 29 "ref.go:96" #[Edge.mk 1 Ground.data,Edge.mk 8 Ground.data,Edge.mk 7 Ground.chain] none)
noncomputable abbrev qi:=(Oper.mk (G 23) (Op.buildSlice 29 1 #[(0,Operand.tmp 22)]) 29 "ref.go:96" #[Edge.mk 7 Ground.data] none)
noncomputable abbrev Ark:=fun a₀=>[bt (bw 83 [] []),dV a₀]
theorem AmZ(hn:Aa PP 83 [dV x] ba (.dagg (kcO x)) ⟨[],fu x⟩)(hl:D.pls L=J)
  (next:Rn PP B0 0 d σ' ([kl A9 [1,1,0,1,0,0],.blk 0,kc A9 [1,1,1]]++[]) (cy 27 [(1,.v (.ref (Ac v))),(2,.ptr 0 0),(3,.ptr 1 0),(4,di (k+1+1:Nat))]) (gm n (k+1+1) (L++kcO x) (fu x))):
  Rn PP B0 0 d σ' ([kl A9 [1,1,0,1,0,0],.blk 0,kc A9 [1,1,1]]++[]) (cy 27 [(1,.v (.ref (Ac v))),(2,.ptr 0 0),(3,.ptr 1 0),(4,di (k+1:Nat))]) (gm n (k+1) L []):=by
 refine lv 27 [1] (.t<|.h (.xs (Ac x))<|.h (.oc (.dagg (kcO x)) ⟨[G [di 0,.v .nils],G [di n,.gro 2 (k+1) 2],G L],fu x⟩)<|.h (.o (.gro 3 1 2) ⟨[G [di 0,.v .nils],G [di n,.gro 2 (k+1) 2],G L,G (kcO x)],fu x⟩)<|.h (.o (.gro 4 (k+1+1) 2) ⟨[G [di 0,.v .nils],G [di n,.gro 2 (k+1) 2],none,G (kcO x),G (L++kcO x)],fu x⟩)<|.lo [ke 1,ke 2,ke 3,ch 4 (di (k+1+1:Nat))] ⟨[G [di 0,.v .nils],G [di n,.gro 4 (k+1+1) 2],none,G (kcO x),G (L++kcO x)],fu x⟩) (Y ((↑(k+1):Int)<(I (map eV v.az):Int))=J/\Q 2/\0<=(↑(k+1):Int)/\(map eV v.az)[Z (↑(k+1):Int)]?=G (Ac x)/\(N0 (Ark x) (gm n (k+1) L []) (bi (kcO x)) (bh [G [di 0,dn],G [di n,bm 2 (k+1) 2],G L] (fu x)))/\Ah PP qi [bi (kcO x)] (bh [G [di 0,dn],G [di n,bm 2 (k+1) 2],G L] (fu x)) (bm 3 1 2) (bh [G [di 0,dn],G [di n,bm 2 (k+1) 2],G L,G (kcO x)] (fu x))/\Ah PP xz [bm 2 (k+1) 2,bm 3 1 2] (bh [G [di 0,dn],G [di n,bm 2 (k+1) 2],G L,G (kcO x)] (fu x)) (bm 4 (k+1+1) 2) (bh [G [di 0,dn],G [di n,bm 2 (k+1) 2],none,G (kcO x),G (L++kcO x)] (fu x))/\((Q (G [bm 2 (k+1) 2])/\Q (G [bm 2 (k+1) 2])/\True)/\True)/\di (yu yt ((↑(k+1):Int)+1))=di (↑(k+1+1):Int)/\cm 5 [1] [G [di 0,dn],G [di n,bm 4 (k+1+1) 2],none,G (kcO x),G (L++kcO x)]=J/\Q [G [di 0,dn],G [di n,bm 4 (k+1+1) 2],none,G (kcO x),G (L++kcO x)]/\Q [(1,2,map eV x.az)]/\_) ⟨HK (by grind),rfl,by omega,Ap hx,fun o c fo ho hc=>?_,?_,?_,⟨⟨rfl,rfl,trivial⟩,trivial⟩,Ae,?_,rfl,rfl,iK (Aoj n (k+1+1) _ (fu x) ((f7.of hl).app (f7.kcO x)) (by rfl) (by rfl) next none (G (kcO x)))⟩
 ·have h2:=B3 (σ:=gm n (k+1) L []) ho hc (fD:=.v (.fn 83 [] [])) rfl (ds:=[dV x]) [] id hn (.cons (.ren (dc:=dV x) rfl) .nil) .nil (by simp) rfl (by simp) (by simp) (by rfl) (by rfl)
  grind[Da,Cx,DM,D.ren,D.rens]
 ·exact Gi rfl ln rfl rfl rfl (by decide) (by decide)
 ·exact KB rfl ln rfl (by decide) (q:=2) (q2:=3) (cs:=L) (cs2:=kcO x) rfl hL rfl rfl (by decide) (by omega) (by omega)
 ·have:=((f7.of hl).app (f7.kcO x)).1 5
  grind[cm,D.okNs,D.okN]
theorem AmY(X:List V)(hn:F0 83 [dV x] (dV x))(hl:f7 [1] L)
  (next:Rn PP B0 0 d σ' ([kl A9 [1,1,0,1,0,0],.blk 0,kc A9 [1,1,1]]++[]) (cy 27 [(1,.v (.ref (Ac v))),(2,.ptr 0 0),(3,.ptr 1 0),(4,di (k+1+1:Nat))]) (gm n (k+1+1) (L++fh x) [(1,2,X)])):
  Rn PP B0 0 d σ' ([kl A9 [1,1,0,1,0,0],.blk 0,kc A9 [1,1,1]]++[]) (cy 27 [(1,.v (.ref (Ac v))),(2,.ptr 0 0),(3,.ptr 1 0),(4,di (k+1:Nat))]) (gm n (k+1) L [(1,2,X)]):=by
 exact lv 27 [1] (.t<|.h (.xs (Ac x))<|.c (dV x)<|.lo [ke 1,ke 2,ke 3,ch 4 (di (k+1+1:Nat))] ⟨[G [di 0,.v .nils],G [di n,.gro 3 (k+1+1) 2],none,G (L++fh x)],[(1,2,X)]⟩) (Y ((↑(k+1):Int)<(I (map eV v.az):Int))=J/\Q 2/\0<=(↑(k+1):Int)/\(map eV v.az)[Z (↑(k+1):Int)]?=G (Ac x)/\_/\_/\[Ac x]≠ []/\(∀(y:V),y∈ [Ac x]->V.size y=2)/\Ao (k+1+I (Ac x::nV)) 32/\yp/\di (yu yt ((↑(k+1):Int)+1))=di (↑(k+1+1):Int)/\cm 4 [1] [G [di 0,dn],G [di n,bm 3 (k+1+I (Ac x::nV)) 2],none,G (L++(dp x.n x.az))]=J/\Q [G [di 0,dn],G [di n,bm 3 (k+1+1) 2],none,G (L++fh x)]/\Q [(1,2,X)]/\_) ⟨HK (by grind),rfl,by omega,Ap hx,hn,hL,by simp,fun y hy=>by rw[HY.1 hy];rfl,Ap3 (by omega) _,yn,Ae,by simp[cm,D.okNs,D.okN,hl.app (f7.of (rfl:D.pls (fh x)=J))|>.1],rfl,rfl,iK (Al9 n (k+1+1) _ [(1,2,X)] (hl.app (f7.of rfl)) (by rfl) (by rfl) next none)⟩
end
def j1(j i:Nat)(x:b9):List D:=if i=j then kcO x else fh x
def kL(j:Nat)(l:List b9)(k:Nat):List D:=(List.range k).flatMap fun i=>j1 j i (l.getD i e8)
def E8(j:Nat)(l:List b9)(k:Nat):List (Nat×Nat×List V):=if j<k then fu (l.getD j e8) else[]
theorem G8(j:Nat)(l:List b9)(k:Nat):kL j l (k+1)=kL j l k++j1 j k (l.getD k e8):=by simp[kL,range_succ]
theorem V0(j:Nat)(l:List b9)(k:Nat):I (kL j l k)=k*2:=by
 induction k with
 |zero=>rfl
 |succ k ih=>
  grind[G8,j1]
theorem Abr(j:Nat)(l:List b9)(k:Nat)(h:k<=j):D.pls (kL j l k)=J:=by
 induction k with
 |zero=>rfl
 |succ k ih=>
  rw[G8,Ds,ih (by omega),j1,HZ (by omega)];rfl
theorem Abs(j:Nat)(l:List b9)(k:Nat):f7 [1] (kL j l k):=by
 induction k with
 |zero=>exact⟨fun _=>rfl,fun _=>rfl⟩
 |succ k ih=>
  rw[G8]
  refine ih.app ?_
  unfold j1
  split
  ·exact f7.kcO _
  ·exact f7.of rfl
theorem er{l:List b9}{k:Nat}{x:b9}(h:l[k]?=G x):l.getD k e8=x:=by grind
theorem Acr(j:Nat)(v:b9)(hv:v.size<=900)(n:Nat):∀k:Nat,I v.az- (k+1)=n->k<I v.az->
  Rn PP B0 0 (.dagg [di v.n,.arr 2 0 (I v.az)]) (xr v.n (I v.az) (kL j v.az (I v.az)) (E8 j v.az (I v.az))) ([kl A9 [1,1,0,1,0,0],.blk 0,kc A9 [1,1,1]]++[]) (cy 27 [(1,.v (.ref (Ac v))),(2,.ptr 0 0),(3,.ptr 1 0),(4,di (k+1:Nat))]) (gm v.n (k+1) (kL j v.az (k+1)) (E8 j v.az (k+1))):=by
 have hs:=v.size_eq
 have hl:=b9.length_le v.az
 have hcp:∀x∈v.az,F0 83 [dV x] (dV x):=fun x hx=>DO _ x (HP _) (by have:=b9.size_mem hx;omega)
 induction n with
 |zero=>
  intro k hn hk0
  have e:k+1=I v.az:=by omega
  rw[e]
  have hlt:¬((I v.az:Nat):Int)<(I (v.az.map eV):Int):=by grind
  have hp1:=Abs j v.az (I v.az)
  have hp2:=Abr j v.az (I v.az)
  have e1:∀(τ:List (Nat×Nat×List V)) (e:List D),Cv e (gm v.n (I v.az) (kL j v.az (I v.az)) τ) e ⟨[G [di 0,.v .nils],G [di v.n,.arr 2 0 (I v.az)],G (kL j v.az (I v.az))],τ⟩:=fun τ e=>Acm (σ:=gm v.n (I v.az) (kL j v.az (I v.az)) τ) (p:=1) (q:=2) (i:=1) (n:=I v.az) (sz:=2) (cs:=[di v.n,.gro 2 (I v.az) 2]) rfl rfl e
  by_cases hj:j<I v.az
  ·have eo:E8 j v.az (I v.az)=fu (v.az.getD j e8):=by grind[E8]
   rw[eo]
   generalize kL j v.az (I v.az)=L at hp1 e1⊢
   generalize v.az.getD j e8=y at e1⊢
   refine Vv mixed 27 [1] (.f<|.h (.q 6 0)<|.h (.cs ⟨[G [di 0,.v .nils],G [di v.n,.arr 2 0 (I v.az)],G L],fu y⟩)<|.h (.m (.dagg [di v.n,.arr 2 0 (I v.az)]))<|.h .ww<|.r) ?_
   refine fx (by kernel_rfl:(Y ((I v.az:Int)<(I (map eV v.az):Int))=O/\(∀(e:List D) (E:cd) (g:Gh) (a:Act) (w:x5),FI E g (bh [G [di 0,dn],G [di v.n,bm 2 (I v.az) 2],G L] [(1,2,map eV y.az)]) e a w->∃g',FI E g' (bh [G [di 0,dn],G [di v.n,bo 2 0 (I v.az)],G L] (fu y)) e a w)/\2<=2/\Q [di v.n,bo 2 0 (I v.az)]/\2<=2/\cm 3 [1] [G [di v.n,bo 2 0 (I v.az)],G [di v.n,bo 2 0 (I v.az)],G L]=J/\Q [G [di v.n,bo 2 0 (I v.az)],G [di v.n,bo 2 0 (I v.az)],G L]/\Q [(1,2,map eV y.az)]/\Q (bi [di v.n,bo 2 0 (I v.az)]))=_) ?_
   exact⟨HM hlt,e1 (fu y),HP _,rfl,HP _,by simp[cm,D.okNs,D.okN,hp1.1],rfl,rfl,rfl⟩
  ·have eo:E8 j v.az (I v.az)=[]:=by grind[E8]
   have hp:=AO (n:=3) (ts:=[]) (hp2 (by omega))
   rw[eo]
   generalize kL j v.az (I v.az)=L at hp e1⊢
   refine Vv mixed 27 [1] (.f<|.h (.q 6 0)<|.h (.cs ⟨[G [di 0,.v .nils],G [di v.n,.arr 2 0 (I v.az)],G L],[]⟩)<|.h (.m (.dagg [di v.n,.arr 2 0 (I v.az)]))<|.h .ww<|.r) ?_
   refine fx (by rfl:(Y ((↑(I (b9.az v)):Int)<(↑(I (map eV (b9.az v))):Int))=O/\(∀(e:List D) (E:cd) (g:Gh) (a:Act) (w:x5),FI E g (bh [G [di 0,bt bv],G [di (b9.n v),bm 2 (I (b9.az v)) 2],G L] []) e a w->∃g',FI E g' (bh [G [di 0,bt bv],G [di (b9.n v),bo 2 0 (I (b9.az v))],G L] []) e a w)/\2<=2/\[di (b9.n v),bo 2 0 (I (b9.az v))]=[di (b9.n v),bo 2 0 (I (b9.az v))]/\2<=2/\cm 3 [] [G [di (b9.n v),bo 2 0 (I (b9.az v))],G [di (b9.n v),bo 2 0 (I (b9.az v))],G L]=J/\[G [di (b9.n v),bo 2 0 (I (b9.az v))],G [di (b9.n v),bo 2 0 (I (b9.az v))],G L]=[G [di (b9.n v),bo 2 0 (I (b9.az v))],G [di (b9.n v),bo 2 0 (I (b9.az v))],G L]/\bi [di (b9.n v),bo 2 0 (I (b9.az v))]=bi [di (b9.n v),bo 2 0 (I (b9.az v))])=_) ?_
   exact⟨HM hlt,e1 [],HP _,rfl,HP _,by grind[cm,D.okNs,D.okN],rfl,rfl⟩
 |succ n ih=>
  intro k hn hk0
  obtain⟨x,hx⟩:∃x,v.az[k+1]?=G x:=⟨_,HI (show k+1<I v.az by omega)⟩
  have hc:=hcp x (HO hx)
  have hih:=ih (k+1) (by omega) (by omega)
  have hlen:=V0 j v.az (k+1)
  have hxs:=b9.size_mem (HO hx)
  rw[G8 j v.az (k+1),er hx] at hih
  by_cases h1:j<k+1
  ·have e1:∀m,k+1<=m->E8 j v.az m=fu (v.az.getD j e8):=fun m hm=>by grind[E8]
   rw[e1 _ (HP _)]
   rw[e1 _ (by omega:k+1<=k+1+1),j1,HZ (by omega)] at hih
   exact AmY (by omega) hlen hx _ hc (Abs j v.az (k+1)) hih
  ·have e1:E8 j v.az (k+1)=[]:=by grind[E8]
   have hp:=Abr j v.az (k+1) (by omega)
   rw[e1]
   by_cases h2:k+1=j
   ·rw[j1,Ie h2,show E8 j v.az (k+1+1)=fu x by grind[E8,er]] at hih
    exact AmZ (by omega) hlen hx (XO x (by omega)) hp hih
   ·rw[j1,HZ h2,show E8 j v.az (k+1+1)=[] by rw[E8,HZ (by omega)]] at hih
    exact Ana (by omega) hlen hx hc hp hih
noncomputable abbrev At6:=fun a₀=>(cy 27 [(1,bt (bz (Ac a₀))),(2,bq 0 0),(3,bq 1 0),(4,di (↑1:Int))])
theorem RC(j:Nat)(hj:1<=j)(v:b9)(hn:v.az≠ [])(hv:v.size<=900):Aa PP 83 [dV v] ba (.dagg [di v.n,.arr 2 0 (I v.az)]) (xr v.n (I v.az) (kL j v.az (I v.az)) (E8 j v.az (I v.az))):=by
 have hs:=v.size_eq
 have hpos:=List.length_pos_iff.2 hn
 obtain⟨x,hx⟩:∃x,v.az[0]?=G x:=⟨_,HI hpos⟩
 have hc:=DO _ x (HP _) (by have:=b9.size_mem (HO hx);omega)
 have hlp:=Acr j v hv _ 0 rfl hpos
 rw[G8 j v.az 0,er hx,show kL j v.az 0=[] from rfl,nil_append,j1,HZ (by omega),show E8 j v.az (0+1)=[] by grind[E8]] at hlp
 have h0:(v.az.map eV)[Z 0]?=G (Ac x):=Ap (i:=0) hx
 have hlt:(0:Int)<(I (v.az.map eV):Int):=by grind
 generalize xr v.n (I v.az) (kL j v.az (I v.az)) (E8 j v.az (I v.az))=out at hlp⊢
 generalize bi [di v.n,.arr 2 0 (I v.az)]=od at hlp⊢
 refine Pg mixed B0 A9 (by rfl) (by kernel_rfl) (by rfl) (by rfl) 27 (by rfl) [1] (.h .rn<|.n<|.t<|.h (.xs (Ac x))<|.c (dV x)<|.h (.p (.v (.list [Ac x])))<|.h .g<|.lo [ke 1,ke 2,ke 3,ch 4 (di (1:Nat))] (gm v.n 1 (fh x) [])) ?_
 refine fx (by kernel_rfl:(Y (0<(I (map eV v.az):Int))=J/\Q 2/\iz 0<=0/\(map eV v.az)[Z 0]?=G (Ac x)/\Avp x/\(∀(τ:St),Ah PP qi [dV x] τ (bt (ai [Ac x])) τ)/\[Ac x]≠ []/\(∀(y:V),y∈ [Ac x]->V.size y=2)/\Ao 1 32/\yp/\di (yu yt (0+1))=di (↑1:Int)/\cm 3 [] [G [di 0,dn],G [di v.n,bm 2 1 2],G (dp x.n x.az)]=J/\[G [di 0,dn],G [di v.n,bm 2 1 2],G (dp x.n x.az)]=[G [di 0,dn],G [di v.n,bm 2 1 2],G (fh x)]/\I0 B0 (I ba.H) od out sc (At6 v) (gm v.n 1 (fh x) []))=_) ?_
 exact⟨HK hlt,rfl,Il _,h0,hc,fun τ=>pi x τ rfl,by simp,fun y hy=>by rw[HY.1 hy];rfl,⟨by decide,by decide⟩,yn,Ih di (by decide),rfl,rfl,⟨hlp⟩⟩
structure mj(m:cz):Prop where
 ok:m.ok
 kind:m.kind=2∨m.kind=3
 few:I m.av<=12/\1<=I m.ay/\m.ay.length<=2
 ax:I m.ax<=16
 au:m.kind=3->Db m.au=J/\m.au.length=I m.ax
 rule:∀r∈m.av,wz m r
noncomputable abbrev AhF:=Tryz.f171
theorem Oa{m:cz}(hm:mj m):F0 171 [Ad m] (di 0):=by
 have hc:=Gq m hm.ok
 rcases hm.kind with hk|hk
 ·refine sv AhF 17 [1] (.c (di 0)<|.k<|.f .r) (tv m/\(m.kind !=2)=O/\Q (di 0)) ?_
  grind
 ·refine sv AhF 17 [1] (.c (di 0)<|.k<|.t<|.f .r) (tv m/\(m.kind !=2)=J/\(m.kind !=3)=O/\Q (di 0)) ?_
  grind
theorem AaP(H:List (Option (List D)))(j:Nat)(hj:1<=j)(v:b9)(hn:v.az≠ [])(hv:v.size<=900){o:yy}{cl:Call}{fo:x8}(ho:o.op=.call cl)(hc2:cl.callee=.value fo):Ah PP o [.v (.fn 83 [] []),dV v] ⟨H,[]⟩ (.dagg [di v.n,.arr (I H+2) 0 (I v.az)]) ⟨H++[G [di v.n,.arr (I H+2) 0 (I v.az)],G [di v.n,.arr (I H+2) 0 (I v.az)],G (kL j v.az (I v.az))],E8 j v.az (I v.az)⟩:=by
 have hp:=Abs j v.az (I v.az)
 have hp0:=Abr j v.az (I v.az)
 have hsp:=RC j hj v hn hv
 by_cases h1:j<I v.az
 ·have eo:E8 j v.az (I v.az)=fu (v.az.getD j e8):=by grind[E8]
  rw[eo] at hsp⊢
  generalize kL j v.az (I v.az)=L at hp hsp⊢
  have h:=B3 (σ:=⟨H,[]⟩) ho hc2 (fD:=.v (.fn 83 [] [])) rfl (ds:=[dV v]) [] id hsp (.cons (.ren (dc:=dV v) rfl) .nil) .nil (by simp) rfl (by simp) (by simp) (by rfl) (by simp[cm,D.okN,D.okNs,hp.1])
  simpa[Da,Cx,DM,D.ren,D.rens,d8,hp.2] using h
 ·have hp:=hp0 (by omega)
  generalize kL j v.az (I v.az)=L at hp hsp⊢
  have h:=B3 (σ:=⟨H,[]⟩) ho hc2 (fD:=.v (.fn 83 [] [])) rfl (ds:=[dV v]) [] id hsp (.cons (.ren (dc:=dV v) rfl) .nil) .nil (by simp) rfl (by simp) (by simp) (by rfl) (by grind[cm,D.okN,D.okNs,AO])
  simpa[Da,Cx,DM,D.ren,D.rens,d8,A6 hp] using h
theorem Tm(l:List b9)(j:Nat):∀k:Nat,k<=j->k<=I l->kL j l k=Ab ((l.take k).map eV)
 |0,_,_=>rfl
 |k+1,h,hl=>by
  obtain⟨x,hx⟩:=@yk _ l k (by omega)
  rw[G8,Tm l j k (by omega) (by omega),er hx,j1,HZ (by omega),IW,hx,Option.toList_some, ←EF]
noncomputable abbrev AlS:=Tryz.f175
theorem Wz(s:Int)(ws:List (List Int))(hz:(dx s ws).size<=128)(k:Nat)(w w':List Int)(hk:ws[k]?=G w)(hw:I w'<=100):F0 175 [dV (dx s ws),di k,cx w'] (dV (dx s (ws.set k w'))):=by
 obtain⟨l,hl⟩:∃l,l=(dx s ws).az:=⟨_,rfl⟩
 have hkl:=(HL.1 hk).1
 have hll:I l=1+I ws:=by rw[hl];show(lf s::ws.map c7).length=_;grind
 have hne:(dx s ws).az≠ []:=by grind
 have hcp:∀(o:yy) (cl:Call) (fo:x8),o.op=.call cl->cl.callee=.value fo->Ah PP o [.v (.fn 83 [] []),dV (dx s ws)] ⟨[G [di 0,.v .nils]],[]⟩ (.dagg [di 0,.arr 3 0 (I l)]) ⟨[G [di 0,.v .nils],G [di 0,.arr 3 0 (I l)],G [di 0,.arr 3 0 (I l)],G (Ab (l.map eV))],[]⟩:=fun o cl fo ho hc=>by
  have h:=AaP [G [di 0,.v .nils]] (I l) (by omega) (dx s ws) hne (by omega) ho hc
  rw[←hl] at h
  rw[Tm l (I l) (I l) (HP _) (HP _),take_length,show E8 (I l) l (I l)=[] by grind[E8]] at h
  exact h
 obtain⟨X,hX⟩:∃X,X=l.set (1+k) (c7 w'):=⟨_,rfl⟩
 have hR:dx s (ws.set k w')=.mk 0 X:=by
  grind[map_set,b9.az,dx]
 rw[hR]
 have hs0:=Qd l (1+k) (c7 w') (by omega)
 rw[←hX] at hs0
 have hfl:=AT l
 have hlb:I l<=128:=by have h1:=(dx s ws).size_eq;grind[b9.length_le]
 generalize dx s ws=c at hcp⊢
 refine sv AlS 18 [3] (.h (.oc (.dagg [di 0,.arr 3 0 (I l)]) ⟨[G [di 0,.v .nils],G [di 0,.arr 3 0 (I l)],G [di 0,.arr 3 0 (I l)],G (Ab (l.map eV))],[]⟩)<|.c (dV (c7 w'))<|.h .ww<|.h (.q 3 0)<|.h (.cs ⟨[G [di 0,.v .nils],G [di 0,.arr 3 0 (I l)],G [di 0,.arr 3 0 (I l)],none,G [di 0,cq X]],[]⟩) .r) ((∀(o:yy) (c_1:Call) (fo:x8),o.op=Op.call c_1->c_1.callee=Callee.value fo->Ah PP o [bt (bw 83 [] []),dV c] (bh [G [di 0,dn]] []) (bi [di 0,bo 3 0 (I l)]) (bh [G [di 0,dn],G [di 0,bo 3 0 (I l)],G [di 0,bo 3 0 (I l)],G (Ab (U eV l))] []))/\F0 242 [cx w'] (dV (c7 w'))/\0<=yu yt (1+(k:Int))/\yu yt (1+(k:Int))<(I l:Int)/\0+Z (yu yt (1+(k:Int)))*2+2<=I (Ab (U eV l))/\yp/\(∀(e:List D) (E:cd) (g:Gh) (a:Act) (w:x5),FI E g (bh [G [di 0,dn],G [di 0,bo 3 0 (I l)],G [di 0,bo 3 0 (I l)],G (take (0+Z (yu yt (1+(k:Int)))*2) (Ab (U eV l))++Az (dV (c7 w'))++W (0+Z (yu yt (1+(k:Int)))*2+2) (Ab (U eV l))),G [di 0,bo 3 0 (I l)]] []) e a w->∃g',FI E g' (bh [G [di 0,dn],G [di 0,bo 3 0 (I l)],G [di 0,bo 3 0 (I l)],none,G [di 0,cq X]] []) e a w)/\bt (ab [vi 0,ai (U eV X)])=dV (b9.mk 0 X)) ?_
 have hw1:yt.wrap (1+(k:Int))=((1+k:Nat):Int):=by grind[Ak]
 rw[hw1]
 have e1:0+Z ((1+k:Nat):Int)*2=(1+k)*2:=by omega
 rw[e1]
 refine⟨hcp,Wv w' (by omega),by omega,by omega,by omega,yn,fun e=>?_,rfl⟩
 rw[show(Ab (l.map eV)).take ((1+k)*2)++Az (dV (c7 w'))++(Ab (l.map eV)).drop ((1+k)*2+2)=Ab (X.map eV) from hs0]
 exact BY (σ:=⟨[G [di 0,.v .nils],G [di 0,.arr 3 0 (I l)],G [di 0,.arr 3 0 (I l)],G (Ab (X.map eV)),G [di 0,.arr 3 0 (I l)]],[]⟩) (p:=4) (q:=3) (i:=1) (sz:=2) (cs:=[di 0,.arr 3 0 (I l)]) (xs:=X.map eV) (by decide) rfl rfl (by decide) (by grind) (CX _) e
noncomputable abbrev GJ:=Tryz.f111
noncomputable def Cl:=yl GJ
def Aj5(m:cz)(w:List Int):List (List Int):=if (m.kind==3)=J then CE (Cr m.au w (I w-1)) else CE (CC w (I w))
theorem AhZ{w:List Int}(h1:I w<=12)(h2:∀x∈w,0<=x/\x<16):Sr w=J:=by
 grind[Sr]
theorem SQ{rk:List Int}(h:Db rk=J):uu rk=J:=h
theorem Ang{m:cz}(hm:mj m){w:List Int}(h1:I w<=12)(h2:∀x∈w,0<=x/\x<I m.ax):EK m w=Aj5 m w:=by
 unfold EK Aj5
 split
 ·rename_i hk
  obtain⟨r1,r2⟩:=hm.au (by grind)
  grind[Gf,pb,SQ]
 ·have:=hm.ax
  grind[FW,AhZ]
theorem UC{B:Nat}:∀{l:List b9},(∀v∈l,v.size<=B)->b9.sizes l<=B*I l
 |[],_=>HP _
 |v::l,h=>by
  have h2:=UC (l:=l) fun z hz=>h z (by grind)
  grind[b9.sizes,Nat.mul_succ]
theorem AdC(l:List b9)(v:b9):El (l++[v])=BS (El l) v:=by
 rw[←LP (l:=l++[v]) (k:=l++[v]) (fun _=>Iff.rfl), ←LP (l:=l) (k:=l) (fun _=>Iff.rfl),List.foldl_append];rfl
theorem Sw{l:List b9}(h1:I l<=100)(h2:∀v∈l,v.size<=200):b9.sizes (El l)<=1000000:=by
 have:=UC (l:=El l) fun v hv=>h2 v (OS hv)
 grind[TP]
section
variable {m : cz} (hm : mj m) {s : Int} {ws : List (List Int)} (h : ja m s ws) (out : List b9)
include hm h
theorem sn:(dx s ws).size<=128:=by
 have:=EY hm.kind hm.few.2.2 h
 grind[Ai]
theorem AfA(k:Nat)(w:List Int)(hw:ws[k]?=G w)(l2:Rn PP GJ 0 (dq (out,0)) ba ([kl Cl [1,1,1,1,0,1,0,0],.blk 0,kc Cl [1,1,1,1,1]]++[]) (cy 60 [(2,.v (.ref (A1 m))),(3,.v (.ref (Ac (dx s ws)))),(7,cq (El (fq m (dx s ws) k++(EK m w).map (gh (dx s ws) k)))),(8,di (k+1:Nat))]) ba)(n:Nat):
  ∀j:Nat,I (EK m w)-j=n->Rn PP GJ 0 (dq (out,0)) ba ([kl Cl [1,1,1,1,0,1,0,0,1,0,0,1,1,1,1,0,0],.blk 2,.blk 1,kc Cl [1,1,1,1,0,1,0,0,1,1],kl Cl [1,1,1,1,0,1,0,0],.blk 0,kc Cl [1,1,1,1,1]]++[]) (cy 60 [(2,.v (.ref (A1 m))),(3,.v (.ref (Ac (dx s ws)))),(7,cq (El (fq m (dx s ws) k++((EK m w).take j).map (gh (dx s ws) k)))),(8,di k),(10,dl ((EK m w).map cw)),(11,di j)]) ba:=by
 have hkl:=(HL.1 hw).1
 have hpl:=h.len
 have hp2:=hm.few.2.2
 have hcz:=sn hm h
 have hdl:=LK m w
 have hlf:=P6 m (dx s ws) k
 have hkk:(dx s ws).az.length=1+I ws:=by show(lf s::ws.map c7).length=_;simp;omega
 induction n with
 |zero=>
  intro j hn
  rw[Im (by omega)]
  generalize El (fq m (dx s ws) k++(EK m w).map (gh (dx s ws) k))=acc at l2⊢
  generalize EK m w=D at hn⊢
  generalize dx s ws=c at l2⊢
  exact lv 60 [2,3] (.f<|.l [ke 2,ke 3,ke 7,ch 8 (di (k+1:Nat))]) (Y ((j:Int)<(I (U cw D):Int))=O/\di (yu yt ((k:Int)+1))=di (↑(k+1):Int)/\_) ⟨HM (by rw[HH];omega),Ae,iK l2⟩
 |succ n ih=>
  intro j hn
  obtain⟨w',hw'⟩:∃w',(EK m w)[j]?=G w':=⟨_,HI (show j<I (EK m w) by omega)⟩
  have hmem:=HO hw'
  have hw12:=hdl.2 w' hmem
  have ih':=ih (j+1) (by omega)
  rw[IW,hw',Option.toList_some,IZ, ←IQ] at ih'
  rw[Ik,IF,AdC] at ih'
  have hs18:=Wz s ws hcz k w w' hw (by omega)
  have ev:gh (dx s ws) k w'=dx s (ws.set k w'):=by rw[gh,Gs,Gr hw];rfl
  have hvz:(gh (dx s ws) k w').size<=200:=P4 hcz (by omega) hw12
  have hbd:b9.sizes (El (fq m (dx s ws) k++((EK m w).take j).map (gh (dx s ws) k)))<=1000000:=Sw (by rw[HW,HH,Ip];omega) fun v hv=>by
   rcases I6.1 hv with hv|hv
   ·exact P5 hcz (by omega) hv
   ·obtain⟨u,hu,rfl⟩:=I2.1 hv
    exact P4 hcz (by omega) (hdl.2 u (Ji hu))
  have hpt:=Pq _ _ hbd (by omega:(gh (dx s ws) k w').size<=1000000)
  rw[←ev] at hs18
  generalize El (fq m (dx s ws) k++((EK m w).take j).map (gh (dx s ws) k))=acc at ih' hpt⊢
  generalize gh (dx s ws) k w'=v at ih' hpt hs18
  generalize EK m w=D at hn hw' ih' hdl⊢
  generalize dx s ws=c at ih' hs18⊢
  exact lv 60 [2,3] (.t<|.x (cw w')<|.c (dV v)<|.c (cq (BS acc v))<|.l [ke 2,ke 3,ch 7 (cq (BS acc v)),ke 8,ke 10,ch 11 (di (j+1:Nat))]) (Y ((j:Int)<(I (U cw D):Int))=J/\0<=(j:Int)/\(U cw D)[Z (j:Int)]?=G (cw w')/\_/\_/\Q (cq (BS acc v))/\di (yu yt ((j:Int)+1))=di (↑(j+1):Int)/\_) ⟨HK (by rw[HH];omega),by omega,by rw[IR,I1,hw'];rfl,hs18,hpt,rfl,Ae,iK ih'⟩
noncomputable abbrev Auj:=[kl Cl [1,1,1,1,0,1,0,0,1,0,0,1,1,1,1,0,0],bf 2,bf 1,kc Cl [1,1,1,1,0,1,0,0,1,1],kl Cl ib,bf 0,kc Cl [1,1,1,1,1]]
theorem Xt(hout:out=El (fq m (dx s ws) (I m.ay)))(n:Nat):∀k:Nat,I m.ay-k=n->k<=I m.ay->
  Rn PP GJ 0 (dq (out,0)) ba ([kl Cl [1,1,1,1,0,1,0,0],.blk 0,kc Cl [1,1,1,1,1]]++[]) (cy 60 [(2,.v (.ref (A1 m))),(3,.v (.ref (Ac (dx s ws)))),(7,cq (El (fq m (dx s ws) k))),(8,di k)]) ba:=by
 have hpl:=h.len
 have hp2:=hm.few.2.2
 induction n with
 |zero=>
  intro k hn hk
  rw[hout,show I m.ay=k by omega]
  generalize El (fq m (dx s ws) k)=acc
  generalize dx s ws=c
  exact lv 60 [2,3] (.f .r) (Y ((k:Int)<(I (df m.ay):Int))=O/\bk [cq acc,di 0]=dq (acc,0)) ⟨HM (by rw[HH];omega),rfl⟩
 |succ n ih=>
  intro k hn hk
  obtain⟨w,hw⟩:=yk (show k<I ws by omega)
  have hww:=h.word w (HO hw)
  have hlt:=hm.ax
  have hl2:=ih (k+1) (by omega) (by omega)
  rw[LB,J9 hw,KC] at hl2
  have hin:=AfA hm h out k w hw hl2 _ 0 rfl
  rw[List.take_zero,IF,I8 (fq m (dx s ws) k),Ang hm hww.1 hww.2] at hin
  have hle:=Xw (c7 w) (by show(w.map lf).length<=1000;rw[HH];omega)
  rw[KC] at hle
  have hkid:((dx s ws).az.map eV)[Z ((1+k:Nat):Int)]?=G (Ac (c7 w)):=by
   refine Ap (i:=1+k) ?_
   show(lf s::ws.map c7)[1+k]?=_
   rw[show 1+k=k+1 by omega,J0,I1,hw];rfl
  have hd2:=XI w hww.1 fun x hx=>by have:=hww.2 x hx;omega
  have hw1:yt.wrap (1+(k:Int))=((1+k:Nat):Int):=by rw[Ak];omega
  generalize El (fq m (dx s ws) k)=acc at hin⊢
  generalize dx s ws=c at hin hkid⊢
  unfold Aj5 at hin
  by_cases hk3:(m.kind==3)=J
  ·rw[Ie hk3] at hin
   obtain⟨r1,r2⟩:=hm.au (by simpa using hk3)
   have hd5:=XG m.au w r1 hww.1 (by omega) fun x hx=>by have:=hww.2 x hx;omega
   generalize CE (Cr m.au w (I w-1))=D at hin hd5
   generalize CE (CC w (I w))=D2 at hd2
   refine lv 60 [2,3] (.t<|.h (.xs (Ac (c7 w)))<|.c (cx w)<|.c (dl (D2.map cw))<|.t<|.c (dl (D.map cw))<|.l [ke 2,ke 3,ke 7,ke 8,ch 10 (dl (D.map cw)),ch 11 (di (0:Nat))]) (Y ((k:Int)<(I (df m.ay):Int))=J/\Q 2/\0<=yu yt (1+(k:Int))/\(ce c.az)[Z (yu yt (1+(k:Int)))]?=G (Ac (c7 w))/\F0 172 [Dv.D.v (Ac (c7 w))] (cx w)/\F0 173 [Dv.D.v (cw w)] (dl (U cw D2))/\(m.kind==3)=J/\F0 174 [Dv.D.v (cw m.au),Dv.D.v (cw w)] (dl (U cw D))/\Q (dl (U cw D))/\di 0=di (↑0:Int)/\I0 GJ 0 (dq (out,0)) ba Auj (cy 60 [(2,Dv.D.v (iq m)),(3,Dv.D.v (jy c)),(7,Dv.D.v (dt acc)),(8,di (k:Int)),(10,dl (U cw D)),(11,di (↑0:Int))]) ba) ?_
   rw[hw1]
   exact⟨HK (by rw[HH];omega),rfl,by omega,hkid,hle,hd2,hk3,hd5,rfl,rfl,⟨hin⟩⟩
  ·rw[HZ hk3] at hin
   generalize CE (CC w (I w))=D at hin hd2
   refine lv 60 [2,3] (.t<|.h (.xs (Ac (c7 w)))<|.c (cx w)<|.c (dl (D.map cw))<|.f<|.l [ke 2,ke 3,ke 7,ke 8,ch 10 (dl (D.map cw)),ch 11 (di (0:Nat))]) (Y ((k:Int)<(I (df m.ay):Int))=J/\Q 2/\0<=yu yt (1+(k:Int))/\(ce c.az)[Z (yu yt (1+(k:Int)))]?=G (Ac (c7 w))/\F0 172 [Dv.D.v (Ac (c7 w))] (cx w)/\F0 173 [Dv.D.v (cw w)] (dl (U cw D))/\(m.kind==3)=O/\Q (dl (U cw D))/\di 0=di (↑0:Int)/\I0 GJ 0 (dq (out,0)) ba Auj (cy 60 [(2,Dv.D.v (iq m)),(3,Dv.D.v (jy c)),(7,Dv.D.v (dt acc)),(8,di (k:Int)),(10,dl (U cw D)),(11,di (↑0:Int))]) ba) ?_
   rw[hw1]
   exact⟨HK (by rw[HH];omega),rfl,by omega,hkid,hle,hd2,HU hk3,rfl,rfl,⟨hin⟩⟩
theorem NY:F0 111 [Ad m,dV (dx s ws)] (dq (sortV (fq m (dx s ws) (I m.ay)),0)):=by
 obtain⟨a1,a2⟩:=Abm h.len
 obtain⟨b1,b2⟩:=TQ (fq m (dx s ws) (I m.ay))
 have e:sortV (fq m (dx s ws) (I m.ay))=El (fq m (dx s ws) (I m.ay)):=TC LJ a1 b1 fun x=>by grind[AZ]
 rw[e]
 have hlp:=Xt hm h _ rfl _ 0 rfl (Iu _)
 rw[show El (fq m (dx s ws) 0)=[] by simp[fq,El,sortV,AM]] at hlp
 have hv:=Dn m hm.ok (dx s ws) (by grind[sn])
 rw[EY hm.kind hm.few.2.2 h] at hv
 generalize El (fq m (dx s ws) (I m.ay))=out at hlp⊢
 generalize dx s ws=c at hlp hv⊢
 exact sv GJ 60 [2,3] (.c (di 0)<|.k<|.c (db J)<|.k<|.h (.q 7 0)<|.h (.ct 7 (cq []) ba)<|.l [ke 2,ke 3,ke 7,ch 8 (di (0:Nat))]) (_/\_/\(∀(e:List D),e[7]?=G (dn)->∀(E:cd) (g:Gh) (a:Act) (w:x5),FI E g ba e a w->∃g',FI E g' ba (List.set e 7 (cq [])) a w)/\Q (di 0)/\_) ⟨Oa hm,hv,fun e he=>ua e he,rfl,iK hlp⟩
end
noncomputable abbrev VG:=Tryz.f121
section
variable {m : cz} (hm : mj m) {s : Int} {ws : List (List Int)} (h : ja m s ws) {i : Nat} {r : cf} (hi : m.av[i]? = G r) {k : Nat} (hk : r.chan = k) {w : List Int} (hw : ws[k]? = G w)
include hm h hi hk hw
noncomputable abbrev Avl:=fun a₀=>F0 171 [Ad a₀] (di 0)
theorem XE:F0 121 [Ad m,di i,dV (dx s ws)] (.tup [db ((s==r.aj)&&((r.act !=2)||w.head?==G r.letter)),di 0]):=by
 have hir:=(HL.1 hi).1
 have hfew:=hm.few.1
 have hkd:=Oa hm
 have hv:=Dn m hm.ok (dx s ws) (by have:=sn hm h;omega)
 rw[EY hm.kind hm.few.2.2 h] at hv
 have hlen:(I (m.av.map Al):Int)=I m.av:=by rw[HH]
 have hkl:=(HL.1 hw).1
 have hpl:=h.len
 have hp2:=hm.few.2.2
 have h0:((dx s ws).az.map eV)[Z 0]?=G (Ac (lf s)):=Ap (i:=0) (by rfl)
 have hkid:((dx s ws).az.map eV)[Z ((1+k:Nat):Int)]?=G (Ac (c7 w)):=by
  refine Ap (i:=1+k) ?_
  show(lf s::ws.map c7)[1+k]?=_
  rw[show 1+k=k+1 by omega,J0,I1,hw];rfl
 have hw1:yt.wrap (1+r.chan)=((1+k:Nat):Int):=by rw[hk,Ak];omega
 generalize dx s ws=c at hv h0 hkid⊢
 by_cases c1:(s==r.aj)=J
 ·have n1:(s !=r.aj)=O:=by rw[bne,c1];rfl
  rw[c1,Is]
  by_cases c2:(r.act !=2)=J
  ·rw[c2,Bool.true_or]
   refine sv VG 67 [3,5] (.c (di 0)<|.k<|.f<|.f<|.c (db J)<|.k<|.x (Al r)<|.h (.xs (Ac (lf s)))<|.f<|.h (.xs (Ac (c7 w)))<|.t .r) (Avl m/\Y ((i:Int)<0)=O/\Y ((i:Int)>=(I (U Al m.av):Int))=O/\j7 m c/\0<=(i:Int)/\(U Al m.av)[Z (i:Int)]?=G (Al r)/\Q 2/\iz 0<=0/\(ce c.az)[Z 0]?=G (Ac (lf s))/\yp/\(b9.n (lf s) !=r.aj)=O/\Q 2/\0<=yu yt (1+r.chan)/\(ce c.az)[Z (yu yt (1+r.chan))]?=G (Ac (c7 w))/\(r.act !=2)=J/\yp/\Q (bk [db J,di 0])) ?_
   rw[hw1]
   exact⟨hkd,yq,HM (by rw[hlen];omega),hv,by omega,Am hi,rfl,Il _,h0,yn,n1,rfl,by omega,hkid,c2,yn,rfl⟩
  ·rw[HU c2,Bool.false_or]
   cases w with
   |nil=>
    refine sv VG 67 [3,5] (.c (di 0)<|.k<|.f<|.f<|.c (db J)<|.k<|.x (Al r)<|.h (.xs (Ac (lf s)))<|.f<|.h (.xs (Ac (c7 [])))<|.f<|.k .r) (Avl m/\Y ((i:Int)<0)=O/\Y ((i:Int)>=(I (U Al m.av):Int))=O/\j7 m c/\0<=(i:Int)/\(U Al m.av)[Z (i:Int)]?=G (Al r)/\Q 2/\iz 0<=0/\(ce c.az)[Z 0]?=G (Ac (lf s))/\yp/\(b9.n (lf s) !=r.aj)=O/\Q 2/\0<=yu yt (1+r.chan)/\(ce c.az)[Z (yu yt (1+r.chan))]?=G (Ac (c7 []))/\(r.act !=2)=O/\yp/\bk [db O,di 0]=bk [db (List.head? []==G r.letter),di 0]) ?_
    rw[hw1]
    exact⟨hkd,yq,HM (by rw[hlen];omega),hv,by omega,Am hi,rfl,Il _,h0,yn,n1,rfl,by omega,hkid,HU c2,yn,rfl⟩
   |cons y w=>
    refine sv VG 67 [3,5] (.c (di 0)<|.k<|.f<|.f<|.c (db J)<|.k<|.x (Al r)<|.h (.xs (Ac (lf s)))<|.f<|.h (.xs (Ac (c7 (y::w))))<|.f<|.t<|.h (.xs (Ac (lf y))) .r) (Avl m/\Y ((i:Int)<0)=O/\Y ((i:Int)>=(I (U Al m.av):Int))=O/\j7 m c/\0<=(i:Int)/\(U Al m.av)[Z (i:Int)]?=G (Al r)/\Q 2/\iz 0<=0/\(ce c.az)[Z 0]?=G (Ac (lf s))/\yp/\(b9.n (lf s) !=r.aj)=O/\Q 2/\0<=yu yt (1+r.chan)/\(ce c.az)[Z (yu yt (1+r.chan))]?=G (Ac (c7 (y::w)))/\(r.act !=2)=O/\Y ((I (U eV (b9.az (c7 (y::w)))):Int)>0)=J/\Q 2/\iz 0<=0/\G (eV (lf y))=G (Ac (lf y))/\yo/\bk [db (b9.n (lf y)==r.letter),di 0]=bk [db (List.head? (y::w)==G r.letter),di 0]) ?_
    rw[hw1]
    exact⟨hkd,yq,HM (by rw[hlen];omega),hv,by omega,Am hi,rfl,Il _,h0,yn,n1,rfl,by omega,hkid,HU c2,HK (by show(0:Int)<(I ((c7 (y::w)).az.map eV):Int);rw[HH];show(0:Int)<(I ((y::w).map lf):Int);rw[HH,HN];omega),rfl,Il _,Ih G (AG (lf y)),ym,by simp only[List.head?_cons,Option.some_beq_some];rfl⟩
 ·rw[HU c1,Iq]
  have n1:(s !=r.aj)=J:=by rw[bne,HU c1];rfl
  exact sv VG 67 [3,5] (.c (di 0)<|.k<|.f<|.f<|.c (db J)<|.k<|.x (Al r)<|.h (.xs (Ac (lf s)))<|.t .r) (_/\Y ((i:Int)<0)=O/\Y ((i:Int)>=(I (U Al m.av):Int))=O/\_/\0<=(i:Int)/\(U Al m.av)[Z (i:Int)]?=G (Al r)/\Q 2/\iz 0<=0/\_/\yp/\_/\Q (bk [db O,di 0])) ⟨hkd,yq,HM (by rw[hlen];omega),hv,by omega,Am hi,rfl,Il _,h0,yn,n1,rfl⟩
end
theorem Ak7(j:Nat)(l:List b9):∀k:Nat,k<=I l->(kL j l k).map (ip [] false)=Ab ((l.take k).map eV)
 |0,_=>rfl
 |k+1,h=>by
  obtain⟨x,hx⟩:=@yk _ l k (by omega)
  rw[G8,IZ,Ak7 j l k (by omega),er hx,IW,hx,Option.toList_some, ←EF]
  congr 1
  unfold j1
  split<;>rfl
theorem AlM{j:Nat}{l:List b9}{x:b9}(hx:l[j]?=G x):∀n:Nat,j<n->(kL j l n)[j*2+1]?=G (.acc 1 (x.az.map eV))
 |0,h=>by omega
 |n+1,h=>by
  rw[G8]
  by_cases e:j=n
  ·grind[V0,j1]
  ·rw[Ig (by grind[V0])]
   exact AlM hx n (by omega)
abbrev m4(r:cf)(n:Nat)(own:List (Nat×Nat×List V))(X:List b9):St:=⟨[G [di 0,.v .nils],G (rC r),G [di 0,.arr 4 0 n],G [di 0,.arr 4 0 n],none,G [di 0,cq X]],own⟩
theorem LG{r:cf}{n:Nat}{own:List (Nat×Nat×List V)}{L:List D}{X:List b9}(hL:L.map (ip [] false)=Ab (X.map eV))(hX:I X=n)(e:List D):Cv e ⟨[G [di 0,.v .nils],G (rC r),G [di 0,.arr 4 0 n],G [di 0,.arr 4 0 n],G L,G [di 0,.arr 4 0 n]],own⟩ e (m4 r n own X):=by
 have h1:=Dw (σ:=⟨[G [di 0,.v .nils],G (rC r),G [di 0,.arr 4 0 n],G [di 0,.arr 4 0 n],G L,G [di 0,.arr 4 0 n]],own⟩) (q:=4) (cs:=L) (cs':=Ab (X.map eV)) rfl (fun g us hr=>by
  have:=D7 (ts:=[]) (kn:=false) hr
  rwa[hL] at this) (fun _ c hc=>I5.1 (CU X) c hc) e
 refine PL h1 ?_
 exact BY (σ:=⟨[G [di 0,.v .nils],G (rC r),G [di 0,.arr 4 0 n],G [di 0,.arr 4 0 n],G (Ab (X.map eV)),G [di 0,.arr 4 0 n]],own⟩) (p:=5) (q:=4) (i:=1) (sz:=2) (cs:=[di 0,.arr 4 0 n]) (xs:=X.map eV) (by decide) rfl rfl (by decide) (by rw[HH,hX];rfl) (CX _) e
theorem UA:∀(ws:List (List Int)),(∀w∈ws,I w<=13)->b9.sizes (ws.map c7)<=14*I ws
 |[],_=>HP _
 |w::ws,h=>by
  have h2:=UA ws fun z hz=>h z (by simp[hz])
  grind[TN,b9.sizes]
theorem Aj4{m:cz}(hk:m.kind=2∨m.kind=3){s:Int}{ws:List (List Int)}{w:List Int}(hw:w∈ws)(hl:12<I w):Ai (AH m) (dx s ws)=O:=by
 cases hv:Ai (AH m) (dx s ws) with
 |false=>rfl
 |true=>
  obtain⟨s',ws',e,h⟩:=T8 hk hv
  obtain⟨_,e2⟩:=T9 e
  rw[e2] at hw
  have:=(h.word w hw).1
  omega
noncomputable abbrev R4:=Tryz.f64
section
variable {m : cz} (hm : mj m) {s : Int} {ws : List (List Int)} (h : ja m s ws) {i : Nat} {r : cf} (hi : m.av[i]? = G r) {k : Nat} (hk : r.chan = k) {w : List Int} (hw : ws[k]? = G w)
include hm h hi hk hw
noncomputable abbrev Asx:=fun a₀ (b₀:Nat) c₀=>F0 121 [Ad a₀,di (b₀:Int),dV c₀] (bk [db J,di 0])
noncomputable abbrev Asz:=fun a₀=>(b9.az (c7 a₀))
noncomputable abbrev At4:=fun a₀ b₀=>F0 33 [Ad a₀,bt (ab [vi 0,dt b₀])] (db J)
theorem Yz:F0 64 [Ad m,di i,dV (dx s ws)] (dP (YH (AH m) r (dx s ws))):=by
 have hen:=XE hm h hi hk hw
 have hir:=(HL.1 hi).1
 have hfew:=hm.few.1
 have hcz:=sn hm h
 have hkl:=(HL.1 hw).1
 have hpl:=h.len
 have hp2:=hm.few.2.2
 have hw12:=(h.word w (HO hw)).1
 rw[RM hm.kind hp2 h hk hw]
 obtain⟨l,hl⟩:∃l,l=(dx s ws).az:=⟨_,rfl⟩
 have hll:I l=1+I ws:=by rw[hl];show(lf s::ws.map c7).length=_;simp;omega
 have hne:(dx s ws).az≠ []:=by rw[←hl];intro e;rw[e] at hll;simp at hll;omega
 have hlx:l[1+k]?=G (c7 w):=by
  rw[hl];show(lf s::ws.map c7)[1+k]?=_
  rw[show 1+k=k+1 by omega,J0,I1,hw];rfl
 obtain⟨L,hL⟩:∃L,L=kL (1+k) l (I l):=⟨_,rfl⟩
 have hLl:=V0 (1+k) l (I l)
 have hLx:=AlM hlx (I l) (by omega)
 have hLw:=Ak7 (1+k) l (I l) (HP _)
 rw[take_length] at hLw
 rw[←hL] at hLl hLx hLw
 have hcp:∀(o:yy) (cl:Call) (fo:x8),o.op=.call cl->cl.callee=.value fo->Ah PP o [.v (.fn 83 [] []),dV (dx s ws)] ⟨[G [di 0,.v .nils],G (rC r)],[]⟩ (.dagg [di 0,.arr 4 0 (I l)]) ⟨[G [di 0,.v .nils],G (rC r),G [di 0,.arr 4 0 (I l)],G [di 0,.arr 4 0 (I l)],G L],fu (c7 w)⟩:=fun o cl fo ho hc=>by
  have h:=AaP [G [di 0,.v .nils],G (rC r)] (1+k) (by omega) (dx s ws) hne (by omega) ho hc
  rw[←hl] at h
  rw[show E8 (1+k) l (I l)=fu (c7 w) by rw[E8,Ie (by omega),er hlx], ←hL] at h
  exact h
 -- what is stored
 have hwk:∀(D':D) (w':List Int),ip [] false D'=.v (.list ((w'.map lf).map eV))->((L.set 0 (di r.to)).set ((1+k)*2+1) D').map (ip [] false)=Ab ((dx r.to (ws.set k w')).az.map eV):=fun D' w' hD=>by
  have hcl:=LO (l:=l) (s0:=lf s) (x:=c7 w) (k:=k) (by rw[hl];rfl) hlx r.to w'
  have e1:BT l (lf s) (c7 w) r.to (1+k) w'=(dx r.to (ws.set k w')).az:=by
   have:=Gr hw (s:=s) r.to w'
   rw[HG,Gs,J9 hw, ←hl] at this
   exact Ih b9.az this
  rw[map_set,map_set,hLw,hD, ←e1, ←hcl,Abo];rfl
 have hXl:∀w':List Int,(dx r.to (ws.set k w')).az.length=I l:=fun w'=>by show(lf r.to::(ws.set k w').map c7).length=_;simp;omega
 have hww:yt.wrap (1+r.chan)=((1+k:Nat):Int):=by rw[hk,Ak];omega
 have hr:=hm.rule r (HO hi)
 have hval:∀w':List Int,I w'<=13->F0 33 [Ad m,dV (dx r.to (ws.set k w'))] (db (Ai (AH m) (dx r.to (ws.set k w')))):=fun w' hw'=>Dn m hm.ok _ (by
  have h1:=UA (ws.set k w') fun u hu=>by
   rcases IN hu with hu|rfl
   ·have:=(h.word u hu).1;omega
   ·exact hw'
  have h2:(dx r.to (ws.set k w')).size=1+(1+b9.sizes ((ws.set k w').map c7)):=by simp only[dx,b9.size,b9.sizes]
  rw[length_set] at h1
  omega)
 have hLs:(L.set 0 (di r.to))[(1+k)*2+1]?=G (.acc 1 ((c7 w).az.map eV)):=by rw[List.getElem?_set_ne (by omega)];exact hLx
 have ep:Nat.add (0+Z ((1+k:Nat):Int)*2) 1=(1+k)*2+1:=by show 0+Z ((1+k:Nat):Int)*2+1=_;omega
 have hwd:=(h.word w (HO hw)).2
 have hlk:I ((c7 w).az.map eV)=I w:=by rw[HH];exact HH _
 have k32:∀n:Nat,n<=2000->Ao n 32:=fun n hn=>⟨by omega,by omega⟩
 by_cases hb:((s==r.aj)&&((r.act !=2)||w.head?==G r.letter))=J
 ·rw[Ie hb]
  rw[hb] at hen
  by_cases a1:(r.act==1)=J
  ·rw[Ie a1]
   have a2:(r.act==2)=O:=by rw[show r.act=1 by simpa using a1];rfl
   obtain⟨X,hX⟩:∃X,X=(dx r.to (ws.set k (w++[r.letter]))).az:=⟨_,rfl⟩
   have hR:dx r.to (ws.set k (w++[r.letter]))=.mk 0 X:=by rw[hX];rfl
   have hv:=hval (w++[r.letter]) (by rw[HW];simp only[HN,HR];omega)
   have hk2:=hwk (.acc 1 ((c7 w).az.map eV++[.agg [vi r.letter,.list []]])) (w++[r.letter]) (by
    have e:ab [vi r.letter,ai []]=eV (lf r.letter):=by rw[AG];rfl
    show bt (.list ((w.map lf).map eV++[ab [vi r.letter,ai []]]))=_
    rw[e,IZ,IZ];rfl)
   have hXl2:=hXl (w++[r.letter])
   rw[←hX] at hk2 hXl2
   by_cases h12:((I w:Int)==12)=J
   ·have h12':(I w:Int)=12:=by simpa using h12
    rw[Ie h12]
    rw[Aj4 hm.kind (w:=w++[r.letter]) (HO (by rw[List.getElem?_set_self hkl])) (by rw[HW];simp only[HN,HR];omega),hR] at hv
    generalize dx s ws=c at hen hcp⊢
    refine sv R4 76 [3,5] (.c (.tup [db J,di 0])<|.k<|.k<|.x (Al r)<|.h (.oc (.dagg [di 0,.arr 4 0 (I l)]) ⟨[G [di 0,.v .nils],G (rC r),G [di 0,.arr 4 0 (I l)],G [di 0,.arr 4 0 (I l)],G L],fu (c7 w)⟩)<|.h (.q 8 5)<|.w<|.h (.q 9 6)<|.m (.acc 1 ((c7 w).az.map eV))<|.f<|.t<|.h (.q 14 8)<|.w<|.h (.q 15 0)<|.h (.cs (m4 r (I l) [(1,2,(c7 w).az.map eV++[.agg [vi r.letter,.list []]])] X))<|.c (db O)<|.k .r) (F0 121 [Ad m,di (i:Int),dV c] (bk [db J,di 0])/\0<=(i:Int)/\(U Al m.av)[Z (i:Int)]?=G (Al r)/\(∀(o:yy) (c_1:Call) (fo:x8),o.op=Op.call c_1->c_1.callee=Callee.value fo->Ah PP o [bt (bw 83 [] []),dV c] (bh [G [di 0,dn],G [bt (ae r.name),di r.aj,di r.to,cx r.am,cx r.ak,cx r.move,di r.chan,di r.act,di r.letter,cx r.path,cx r.next,bt (AD r.ar),cx r.aq,di r.second]] []) (bi [di 0,bo 4 0 (I l)]) (bh [G [di 0,dn],G (rC r),G [di 0,bo 4 0 (I l)],G [di 0,bo 4 0 (I l)],G L] (fu (c7 w))))/\iz 0<=0/\0<(I l:Int)/\0<I L/\0<=yu yt (1+r.chan)/\yu yt (1+r.chan)<(I l:Int)/\(List.set L (Nat.add (0+Z 0*2) 0) (di r.to))[Nat.add (0+Z (yu yt (1+r.chan))*2) 1]?=G (br 1 (U eV (b9.az (c7 w))))/\(r.act==2)=O/\(r.act==1)=J/\Q (U eV (b9.az (c7 w)))/\Ao (I (U eV (b9.az (c7 w)))+I (ab (aa yt r.letter::ai nV::nV)::nV)) 32/\0<=yu yt (1+r.chan)/\yu yt (1+r.chan)<(I l:Int)/\Nat.add (0+Z (yu yt (1+r.chan))*2) 1<I (List.set L (Nat.add (0+Z 0*2) 0) (di r.to))/\(∀(e:List D) (E:cd) (g:Gh) (a:Act) (w_1:x5),FI E g (bh [G [di 0,dn],G (rC r),G [di 0,bo 4 0 (I l)],G [di 0,bo 4 0 (I l)],G (List.set (List.set L (Nat.add (0+Z 0*2) 0) (di r.to)) (Nat.add (0+Z (yu yt (1+r.chan))*2) 1) (br 1 (U eV (b9.az (c7 w))++[ab [aa yt r.letter,ai []]]))),G [di 0,bo 4 0 (I l)]] [(1,2,U eV (b9.az (c7 w))++[ab [aa yt r.letter,ai []]])]) e a w_1->∃g',FI E g' (m4 r (I l) [(1,2,U eV (b9.az (c7 w))++[ab [vi r.letter,ai []]])] X) e a w_1)/\F0 33 [Ad m,bt (ab [vi 0,dt X])] (db O)/\bk [bt (ab [vi 0,ai []]),di 1]=dP (e8,1)) ?_
    rw[hww,ep]
    exact⟨hen,by omega,Am hi,hcp,Il _,by omega,by omega,by omega,by omega,hLs,a2,a1,rfl,k32 _ (by simp only[HN,HR];omega),by omega,by omega,by rw[length_set];omega,fun e=>LG hk2 hXl2 e,hv,rfl⟩
   ·rw[HZ h12]
    have h12':¬(I w:Int)=12:=by simpa using h12
    rw[EY hm.kind hp2 (h.set hr.to k (by rw[HW];simp only[HN,HR];omega) fun x hx=>by
     rcases I6.1 hx with hx|hx
     ·exact hwd x hx
     ·rw[HY.1 hx];exact hr.letter (by simpa using a1)),hR] at hv
    rw[hR]
    generalize dx s ws=c at hen hcp⊢
    refine sv R4 76 [3,5] (.c (.tup [db J,di 0])<|.k<|.k<|.x (Al r)<|.h (.oc (.dagg [di 0,.arr 4 0 (I l)]) ⟨[G [di 0,.v .nils],G (rC r),G [di 0,.arr 4 0 (I l)],G [di 0,.arr 4 0 (I l)],G L],fu (c7 w)⟩)<|.h (.q 8 5)<|.w<|.h (.q 9 6)<|.m (.acc 1 ((c7 w).az.map eV))<|.f<|.t<|.h (.q 14 8)<|.w<|.h (.q 15 0)<|.h (.cs (m4 r (I l) [(1,2,(c7 w).az.map eV++[.agg [vi r.letter,.list []]])] X))<|.c (db J)<|.k .r) (F0 121 [Ad m,di (i:Int),dV c] (bk [db J,di 0])/\0<=(i:Int)/\(U Al m.av)[Z (i:Int)]?=G (Al r)/\(∀(o:yy) (c_1:Call) (fo:x8),o.op=Op.call c_1->c_1.callee=Callee.value fo->Ah PP o [bt (bw 83 [] []),dV c] (bh [G [di 0,dn],G [bt (ae r.name),di r.aj,di r.to,cx r.am,cx r.ak,cx r.move,di r.chan,di r.act,di r.letter,cx r.path,cx r.next,bt (AD r.ar),cx r.aq,di r.second]] []) (bi [di 0,bo 4 0 (I l)]) (bh [G [di 0,dn],G (rC r),G [di 0,bo 4 0 (I l)],G [di 0,bo 4 0 (I l)],G L] (fu (c7 w))))/\iz 0<=0/\0<(I l:Int)/\0<I L/\0<=yu yt (1+r.chan)/\yu yt (1+r.chan)<(I l:Int)/\(List.set L (Nat.add (0+Z 0*2) 0) (di r.to))[Nat.add (0+Z (yu yt (1+r.chan))*2) 1]?=G (br 1 (U eV (b9.az (c7 w))))/\(r.act==2)=O/\(r.act==1)=J/\Q (U eV (b9.az (c7 w)))/\Ao (I (U eV (b9.az (c7 w)))+I (ab (aa yt r.letter::ai nV::nV)::nV)) 32/\0<=yu yt (1+r.chan)/\yu yt (1+r.chan)<(I l:Int)/\Nat.add (0+Z (yu yt (1+r.chan))*2) 1<I (List.set L (Nat.add (0+Z 0*2) 0) (di r.to))/\(∀(e:List D) (E:cd) (g:Gh) (a:Act) (w_1:x5),FI E g (bh [G [di 0,dn],G (rC r),G [di 0,bo 4 0 (I l)],G [di 0,bo 4 0 (I l)],G (List.set (List.set L (Nat.add (0+Z 0*2) 0) (di r.to)) (Nat.add (0+Z (yu yt (1+r.chan))*2) 1) (br 1 (U eV (b9.az (c7 w))++[ab [aa yt r.letter,ai []]]))),G [di 0,bo 4 0 (I l)]] [(1,2,U eV (b9.az (c7 w))++[ab [aa yt r.letter,ai []]])]) e a w_1->∃g',FI E g' (m4 r (I l) [(1,2,U eV (b9.az (c7 w))++[ab [vi r.letter,ai []]])] X) e a w_1)/\F0 33 [Ad m,bt (ab [vi 0,dt X])] (db J)/\bk [bt (ab [vi 0,ai (U eV X)]),di 0]=dP (b9.mk 0 X,0)) ?_
    rw[hww,ep]
    exact⟨hen,by omega,Am hi,hcp,Il _,by omega,by omega,by omega,by omega,hLs,a2,a1,rfl,k32 _ (by simp only[HN,HR];omega),by omega,by omega,by rw[length_set];omega,fun e=>LG hk2 hXl2 e,hv,rfl⟩
  ·rw[HZ a1]
   by_cases a2:(r.act==2)=J
   ·rw[Ie a2]
    obtain⟨X,hX⟩:∃X,X=(dx r.to (ws.set k (w.drop 1))).az:=⟨_,rfl⟩
    have hR:dx r.to (ws.set k (w.drop 1))=.mk 0 X:=by rw[hX];rfl
    have hv:=hval (w.drop 1) (by rw[IP];omega)
    rw[EY hm.kind hp2 (h.set hr.to k (by rw[IP];omega) fun x hx=>hwd x (List.mem_of_mem_drop hx)),hR] at hv
    have hk2:=hwk (.v (.list (((c7 w).az.map eV).drop 1))) (w.drop 1) (by
     show bt (.list (((w.map lf).map eV).drop 1))=_
     rw[←map_drop, ←map_drop])
    have hXl2:=hXl (w.drop 1)
    rw[←hX] at hk2 hXl2
    rw[hR]
    generalize dx s ws=c at hen hcp⊢
    refine sv R4 76 [3,5] (.c (.tup [db J,di 0])<|.k<|.k<|.x (Al r)<|.h (.oc (.dagg [di 0,.arr 4 0 (I l)]) ⟨[G [di 0,.v .nils],G (rC r),G [di 0,.arr 4 0 (I l)],G [di 0,.arr 4 0 (I l)],G L],fu (c7 w)⟩)<|.h (.q 8 5)<|.w<|.h (.q 9 6)<|.m (.acc 1 ((c7 w).az.map eV))<|.t<|.f<|.h (.q 14 8)<|.w<|.h (.q 15 0)<|.h (.cs (m4 r (I l) (fu (c7 w)) X))<|.c (db J)<|.k .r) (F0 121 [Ad m,di (i:Int),dV c] (bk [db J,di 0])/\0<=(i:Int)/\(U Al m.av)[Z (i:Int)]?=G (Al r)/\(∀(o:yy) (c_1:Call) (fo:x8),o.op=Op.call c_1->c_1.callee=Callee.value fo->Ah PP o [bt (bw 83 [] []),dV c] (bh [G [di 0,dn],G [bt (ae r.name),di r.aj,di r.to,cx r.am,cx r.ak,cx r.move,di r.chan,di r.act,di r.letter,cx r.path,cx r.next,bt (AD r.ar),cx r.aq,di r.second]] []) (bi [di 0,bo 4 0 (I l)]) (bh [G [di 0,dn],G (rC r),G [di 0,bo 4 0 (I l)],G [di 0,bo 4 0 (I l)],G L] (fu (c7 w))))/\iz 0<=0/\0<(I l:Int)/\0<I L/\0<=yu yt (1+r.chan)/\yu yt (1+r.chan)<(I l:Int)/\(List.set L (Nat.add (0+Z 0*2) 0) (di r.to))[Nat.add (0+Z (yu yt (1+r.chan))*2) 1]?=G (br 1 (U eV (b9.az (c7 w))))/\(r.act==2)=J/\(∀(x:V),x∈U eV (b9.az (c7 w))->V.size x=2)/\0<=(1:Int)/\(1:Int)<=(I (U eV (b9.az (c7 w))):Int)/\(r.act==1)=O/\0<=yu yt (1+r.chan)/\yu yt (1+r.chan)<(I l:Int)/\Nat.add (0+Z (yu yt (1+r.chan))*2) 1<I (List.set L (Nat.add (0+Z 0*2) 0) (di r.to))/\(∀(e:List D) (E:cd) (g:Gh) (a:Act) (w_1:x5),FI E g (bh [G [di 0,dn],G (rC r),G [di 0,bo 4 0 (I l)],G [di 0,bo 4 0 (I l)],G (List.set (List.set L (Nat.add (0+Z 0*2) 0) (di r.to)) (Nat.add (0+Z (yu yt (1+r.chan))*2) 1) (bt (ai (W (Z ((1:Int))) (take (I (U eV (b9.az (c7 w)))) (U eV (b9.az (c7 w)))))))),G [di 0,bo 4 0 (I l)]] [(1,2,U eV (b9.az (c7 w)))]) e a w_1->∃g',FI E g' (m4 r (I l) (fu (c7 w)) X) e a w_1)/\F0 33 [Ad m,bt (ab [vi 0,dt X])] (db J)/\bk [bt (ab [vi 0,ai (U eV X)]),di 0]=dP (b9.mk 0 X,0)) ?_
    rw[hww,ep]
    have h1w:1<=I w:=by
     rw[show(r.act !=2)=O by rw[bne,a2];rfl,Bool.false_or] at hb
     cases w with
     |nil=>simp at hb
     |cons y w=>simp
    have ed:W (Z (1:Int)) (take (I ((c7 w).az.map eV)) ((c7 w).az.map eV))=((c7 w).az.map eV).drop 1:=by rw[take_length];rfl
    rw[ed]
    exact⟨hen,by omega,Am hi,hcp,Il _,by omega,by omega,by omega,by omega,hLs,a2,CX _,by decide,by rw[hlk];omega,HU a1,by omega,by omega,by rw[length_set];omega,fun e=>LG hk2 hXl2 e,hv,rfl⟩
   ·rw[HZ a2]
    obtain⟨X,hX⟩:∃X,X=(dx r.to (ws.set k w)).az:=⟨_,rfl⟩
    have hR:dx r.to (ws.set k w)=.mk 0 X:=by rw[hX];rfl
    have hv:=hval w (by omega)
    rw[EY hm.kind hp2 (h.set hr.to k hw12 hwd),hR] at hv
    have hk2:=hwk (.acc 1 ((c7 w).az.map eV)) w rfl
    have hXl2:=hXl w
    rw[←hX] at hk2 hXl2
    rw[hR]
    generalize dx s ws=c at hen hcp⊢
    refine sv R4 76 [3,5] (.c (.tup [db J,di 0])<|.k<|.k<|.x (Al r)<|.h (.oc (.dagg [di 0,.arr 4 0 (I l)]) ⟨[G [di 0,.v .nils],G (rC r),G [di 0,.arr 4 0 (I l)],G [di 0,.arr 4 0 (I l)],G L],fu (c7 w)⟩)<|.h (.q 8 5)<|.w<|.h (.q 9 6)<|.m (.acc 1 ((c7 w).az.map eV))<|.f<|.f<|.h (.q 14 8)<|.w<|.h (.q 15 0)<|.h (.cs (m4 r (I l) (fu (c7 w)) X))<|.c (db J)<|.k .r) (F0 121 [Ad m,di (i:Int),dV c] (bk [db J,di 0])/\0<=(i:Int)/\(U Al m.av)[Z (i:Int)]?=G (Al r)/\(∀(o:yy) (c_1:Call) (fo:x8),o.op=Op.call c_1->c_1.callee=Callee.value fo->Ah PP o [bt (bw 83 [] []),dV c] (bh [G [di 0,dn],G [bt (ae r.name),di r.aj,di r.to,cx r.am,cx r.ak,cx r.move,di r.chan,di r.act,di r.letter,cx r.path,cx r.next,bt (AD r.ar),cx r.aq,di r.second]] []) (bi [di 0,bo 4 0 (I l)]) (bh [G [di 0,dn],G (rC r),G [di 0,bo 4 0 (I l)],G [di 0,bo 4 0 (I l)],G L] (fu (c7 w))))/\iz 0<=0/\0<(I l:Int)/\0<I L/\0<=yu yt (1+r.chan)/\yu yt (1+r.chan)<(I l:Int)/\(List.set L (Nat.add (0+Z 0*2) 0) (di r.to))[Nat.add (0+Z (yu yt (1+r.chan))*2) 1]?=G (br 1 (U eV (b9.az (c7 w))))/\(r.act==2)=O/\(r.act==1)=O/\0<=yu yt (1+r.chan)/\yu yt (1+r.chan)<(I l:Int)/\Nat.add (0+Z (yu yt (1+r.chan))*2) 1<I (List.set L (Nat.add (0+Z 0*2) 0) (di r.to))/\(∀(e:List D) (E:cd) (g:Gh) (a:Act) (w_1:x5),FI E g (bh [G [di 0,dn],G (rC r),G [di 0,bo 4 0 (I l)],G [di 0,bo 4 0 (I l)],G (List.set (List.set L (Nat.add (0+Z 0*2) 0) (di r.to)) (Nat.add (0+Z (yu yt (1+r.chan))*2) 1) (br 1 (U eV (b9.az (c7 w))))),G [di 0,bo 4 0 (I l)]] [(1,2,U eV (b9.az (c7 w)))]) e a w_1->∃g',FI E g' (m4 r (I l) (fu (c7 w)) X) e a w_1)/\F0 33 [Ad m,bt (ab [vi 0,dt X])] (db J)/\bk [bt (ab [vi 0,ai (U eV X)]),di 0]=dP (b9.mk 0 X,0)) ?_
    rw[hww,ep]
    exact⟨hen,by omega,Am hi,hcp,Il _,by omega,by omega,by omega,by omega,hLs,HU a2,HU a1,by omega,by omega,by rw[length_set];omega,fun e=>LG hk2 hXl2 e,hv,rfl⟩
 ·rw[HZ hb]
  rw[HU hb] at hen
  generalize dx s ws=c at hen⊢
  exact sv R4 76 [3,5] (.c (.tup [db O,di 0])<|.k<|.k .r) (_/\bk [bt (ab [vi 0,ai []]),di 18]=dP (e8,18)) ⟨hen,rfl⟩
end
def ec(b k:Nat):List D:=(List.range k).flatMap fun i=>[di 0,.arr (b+i) 0 2]
theorem L3(b k:Nat):ec b (k+1)=ec b k++[di 0,.arr (b+k) 0 2]:=by simp[ec,range_succ]
theorem Aix(b k:Nat):I (ec b k)=k*2:=by
 induction k<;>grind[L3,ec]
theorem KX{n:Nat}{ts:List Nat}(b k:Nat)(h:b+k<=n):D.okNs n ts (ec b k)=J:=by
 induction k<;>grind[L3,JP,D.okNs,D.okN,ec]
theorem GT{ρ:Nat->Nat}(b b' k:Nat)(h:∀i,i<k->ρ (b+i)=b'+i):D.rens ρ id (ec b k)=ec b' k:=by
 induction k<;>grind[L3,JL,D.rens,D.ren,ec]
abbrev gy(x:b9):List D:=Ab (x.az.map eV)
def dh(l:List b9):List (Option (List D)):=l.map fun x=>G (gy x)
theorem Di(x:b9):D.pls (gy x)=J:=Ay _
theorem LW{l:List b9}{j:Nat}{cs:List D}(h:(dh l)[j]?=G (G cs)):∃x,l[j]?=G x/\cs=gy x:=by
 grind[dh]
theorem ub(x:b9)(hn:x.az≠ [])(hv:x.size<=900):Aa PP 83 [dV x] ba (.dagg [di x.n,.arr 0 0 (I x.az)]) ⟨[G (gy x)],[]⟩:=by
 have h:=RC (I x.az) (List.length_pos_iff.2 hn) x hn hv
 rw[Tm x.az (I x.az) (I x.az) (HP _) (HP _),take_length,show E8 (I x.az) x.az (I x.az)=[] by grind[E8]] at h
 refine E3 (σ:=ba) (T:=(xr x.n (I x.az) (gy x) []).H) (fun i=>i+2) (Iu _) (fun i hi=>by grind) (fun i j _ _ h=>by omega) (fun i hi=>by grind) (fun i cs hi=>?_) (by rfl) (by grind[D.ren,D.rens])
 grind[A6,Di,AO]
abbrev je(n:Int)(k:Nat)(L:List D)(Hs:List (Option (List D))):St:=⟨G [di 0,.v .nils]::G [di n,.gro 2 k 2]::G L::Hs,[]⟩
theorem AhS{P:x7}{o:yy}{σ:St}{t:x6}{x:x8}{N:Nat}(hN:I σ.H=N)(ho:o.op=.buildSlice t 1 #[(0,x)])
  {e:x6} {sz by':Nat} {z:Option yz} (hs:BR P t=G (e,sz,by',z)) (hz:z.isSome=J) {d:D} (hd:d.sto=J) (hc:I (Az d)=sz) (h1:0<sz) (h2:sz<=1000):
  Ah P o [d] σ (.gro N 1 sz) ⟨σ.H++[G (Az d)],σ.own⟩:=by
 grind[Gi]
theorem RD{H:List (Option (List D))}{N:Nat}(hN:I H=N){x:b9}{F:List D}(hF:D.pls F=J)(hsp:Aa PP 83 [dV x] ba (.dagg [di x.n,.arr 0 0 (I x.az)]) ⟨[G F],[]⟩){o:yy}{cl:Call}{fo:x8}(ho:o.op=.call cl)(hc2:cl.callee=.value fo):
  Ah PP o [.v (.fn 83 [] []),dV x] ⟨H,[]⟩ (.dagg [di x.n,.arr N 0 (I x.az)]) ⟨H++[G F],[]⟩:=by
 subst hN
 have h:=B3 (σ:=⟨H,[]⟩) ho hc2 (fD:=.v (.fn 83 [] [])) rfl (ds:=[dV x]) [] id hsp (.cons (.ren (dc:=dV x) rfl) .nil) .nil (by simp) rfl (by simp) (by simp) (by rfl) (by grind[cm,AO])
 simpa[Da,Cx,DM,D.ren,D.rens,d8,A6 hF] using h
theorem Aoi{R:List D->St->Prop}{ks:List KI}{e e':List D}(n:Int)(l:List b9)(x:b9)(S:Option (List D))(he:D.okNs (I l+4) [] e'=J)(hee:e=D.rens (fun i=>if i=2 then I l+5 else i) id e')
  (h:A2 (CN 0) PP R ks e' (je n (I l+1) (ec 3 (I l+1)) (dh (l++[x])))):
  A2 (CN 0) PP R ks e ⟨G [di 0,.v .nils]::G [di n,.gro (I l+5) (I l+1) 2]::none::(((dh l++[G (gy x)])++[S])++[G (ec 3 (I l+1))]),[]⟩:=by
 have hl:I (dh l)=I l:=by simp[dh]
 have hl2:I (dh (l++[x]))=I l+1:=by simp[dh]
 have hH:(je n (I l+1) (ec 3 (I l+1)) (dh (l++[x]))).H.length=I l+4:=by grind
 refine C0 (e':=e') (H':=(je n (I l+1) (ec 3 (I l+1)) (dh (l++[x]))).H) (m:=0) (fun _ _ h=>h.2) (fun i=>if i=2 then I l+5 else i) (Iu _) (fun i hi=>by omega) (fun i j hi hj h=>?_) (fun i cs hi=>?_) (by grind) hee h
 ·grind
 ·rw[hH]
  match i,hi with
  |0,hi=>simp at hi;subst hi;exact⟨rfl,by rfl⟩
  |1,hi=>grind[D.rens,D.ren,D.okNs,D.okN]
  |2,hi=>
   simp at hi;subst hi
   refine⟨?_,KX _ _ (by omega)⟩
   rw[GT 3 3 _ (fun i hi=>by grind)]
   simp_all
  |i+3,hi=>
   grind[AO,Di,A6,dh]
theorem Acp{n:Int}{l:List b9}(hk:I l<=900)(hk1:1<=I l){v:b9}{x:b9}(hx:v.az[I l]?=G x)(h0:x.n=0)(h2:I x.az=2)(hsz:x.size<=900){d:D}{σ':St}
  (next:Rn PP B0 0 d σ' ([kl A9 [1,1,0,1,0,0],.blk 0,kc A9 [1,1,1]]++[]) (cy 27 [(1,.v (.ref (Ac v))),(2,.ptr 0 0),(3,.ptr 1 0),(4,di (I l+1:Nat))]) (je n (I l+1) (ec 3 (I l+1)) (dh (l++[x])))):
  Rn PP B0 0 d σ' ([kl A9 [1,1,0,1,0,0],.blk 0,kc A9 [1,1,1]]++[]) (cy 27 [(1,.v (.ref (Ac v))),(2,.ptr 0 0),(3,.ptr 1 0),(4,di (I l:Nat))]) (je n (I l) (ec 3 (I l)) (dh l)):=by
 have hsp:=ub x (by grind) hsz
 have hlt:=(HL.1 hx).1
 have hOl:I (dh l)=I l:=by simp[dh]
 have hLl:=Aix 3 (I l)
 have hnm:=fun(e e':List D) he hee=>Aoi (R:=fun env σ1=>AA PP B0 env σ1 d σ') (ks:=[kl A9 [1,1,0,1,0,0],.blk 0,kc A9 [1,1,1]]) (e:=e) (e':=e') n l x (G [di 0,.arr (I l+3) 0 2]) he hee
 have hLs:=L3 3 (I l)
 generalize dh (l++[x])=Hs' at next hnm
 generalize ec 3 (I l+1)=L' at next hnm hLs
 generalize dh l=Hs at hOl hnm⊢
 generalize ec 3 (I l)=L at hLl hLs⊢
 refine lv 27 [1] (.t<|.h (.xs (Ac x))<|.h (.oc (.dagg [di x.n,.arr (I l+3) 0 (I x.az)]) ⟨G [di 0,.v .nils]::G [di n,.gro 2 (I l) 2]::G L::(Hs++[G (gy x)]),[]⟩)<|.h (.o (.gro (I l+4) 1 2) ⟨G [di 0,.v .nils]::G [di n,.gro 2 (I l) 2]::G L::((Hs++[G (gy x)])++[G [di 0,.arr (I l+3) 0 2]]),[]⟩)<|.h (.o (.gro (I l+5) (I l+1) 2) ⟨G [di 0,.v .nils]::G [di n,.gro 2 (I l) 2]::none::(((Hs++[G (gy x)])++[G [di 0,.arr (I l+3) 0 2]])++[G L']),[]⟩)<|.l [ke 1,ke 2,ke 3,ch 4 (di (I l+1:Nat))]) (Y ((I l:Int)<(I (ce v.az):Int))=J/\Q 2/\0<=(I l:Int)/\(ce v.az)[Z (I l:Int)]?=G (Ac x)/\(N0 (Ark x) (je n (I l) L Hs) (bi [di x.n,bo (I l+3) 0 (I x.az)]) (bh (G [di 0,dn]::G [di n,bm 2 (I l) 2]::G L::(Hs++[G (gy x)])) []))/\Ah PP qi [bi [di x.n,bo (I l+3) 0 (I x.az)]] (bh (G [di 0,dn]::G [di n,bm 2 (I l) 2]::G L::(Hs++[G (gy x)])) []) (bm (I l+4) 1 2) (bh (G [di 0,dn]::G [di n,bm 2 (I l) 2]::G L::(Hs++[G (gy x)]++[G [di 0,bo (I l+3) 0 2]])) [])/\Ah PP xz [bm 2 (I l) 2,bm (I l+4) 1 2] (bh (G [di 0,dn]::G [di n,bm 2 (I l) 2]::G L::(Hs++[G (gy x)]++[G [di 0,bo (I l+3) 0 2]])) []) (bm (I l+5) (I l+1) 2) (bh (G [di 0,dn]::G [di n,bm 2 (I l) 2]::none::(Hs++[G (gy x)]++[G [di 0,bo (I l+3) 0 2]]++[G L'])) [])/\((Q (G [bm 2 (I l) 2])/\Q (G [bm 2 (I l) 2])/\True)/\True)/\di (yu yt ((I l:Int)+1))=di (↑(I l+1):Int)/\_) ⟨HK (by grind),rfl,by omega,Ap hx,fun o c fo ho hc=>RD (by grind) (Di x) hsp ho hc,?_,?_,⟨⟨rfl,rfl,trivial⟩,trivial⟩,Ae,iK (hnm _ _ (by rfl) (by rfl) next)⟩
 ·rw[h0,h2]
  refine AhS ?_ rfl ln rfl rfl rfl (by decide) (by decide)
  grind
 ·rw[hLs,Nat.add_comm 3 (I l)]
  have hN:I l+5=I (G [di 0,.v .nils]::G [di n,.gro 2 (I l) 2]::G L::((Hs++[G (gy x)])++[G [di 0,.arr (I l+3) 0 2]])):=by simp[hOl]
  rw[hN]
  refine KB rfl ln rfl (by decide) (q:=2) (q2:=I l+4) (cs:=L) (cs2:=[di 0,.arr (I l+3) 0 2]) rfl hLl ?_ rfl (by decide) (by omega) (by omega)
  grind
end Go.Proofs.YtkkplhjidondkaaGreat
